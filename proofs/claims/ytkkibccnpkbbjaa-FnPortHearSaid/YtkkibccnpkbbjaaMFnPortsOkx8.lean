/- Functions that the law FnPortsOk reaches, each with the proof that the machine's call comes to just its answer; no conditions but those that each theorem states. Printed by a program of this session over the kit's print. -/
import Derived.Test.YtkkibccnpkbbjaaMFnPortsOkx0
import Derived.Test.YtkkibccnpkbbjaaMFnPortsOkx1
import Derived.Test.YtkkibccnpkbbjaaMFnPortsOkx3
import Derived.Test.YtkkibccnpkbbjaaMFnPortsOkx5
import Derived.Test.YtkkibccnpkbbjaaMFnPortsOkx7
namespace Go.Proofs.Ytkkibccnpkbbjaa.MFnPortsOk
open Go.RowKit Go.Proofs.YtkkibccnpkbbjaaV.PrintWords Go.Proofs.YtkkibccnpkbbjaaV.PrintLast Go.Proofs.YtkkibccnpkbbjaaV.PrintMore
attribute [local go_sem] max2_int min2_int max_two min_two max_three min_three max_four min_four   -- for this text's walks alone
set_option linter.unusedVariables false
set_option linter.unusedSimpArgs false

/-! ### spec_l20Mail: function 68 -/
def spec_l20Mail.f (k : Nat) (s0_0 : List Int) (s0_1 : Int) (a1 : Int) : Option (Int × Int × Int × List Int × Int) := (spec_l20Rd_pick.f k s0_0 s0_1 5).bind fun bt276 => ((spec_l20Rd_pick.f k s0_0 bt276.2 4).bind fun bt278 => ((spec_l20Rd_pick.f k s0_0 bt278.2 6).bind fun bt280 => ((spec_l20Rd_pick.f k s0_0 bt280.2 6).bind fun bt282 => ((spec_l20Rd_bytes.f k s0_0 bt282.2 bt282.1).bind fun bt284 => ((spec_l20Rd_odd.f k s0_0 bt284.2 a1).bind fun bt289 => (if bt289.1 = true then ((spec_l20Rd_pick.f k s0_0 bt289.2 3).bind fun bt291 => (if bt291.1 = 0 then ((spec_l20Rd_pick.f k s0_0 bt291.2 2).bind fun bt293 => (some (bt276.1, wrap64 (bt293.1 * 256), wrap64 (1 + bt280.1), bt284.1, bt293.2))) else (if bt291.1 = 1 then ((spec_l20Rd_pick.f k s0_0 bt291.2 2).bind fun bt295 => (some (bt276.1, wrap64 (1 + bt278.1), wrap64 (-bt295.1), bt284.1, bt295.2))) else (if 41 ≤ 281474976710656 then (some (bt276.1, wrap64 (1 + bt278.1), wrap64 (1 + bt280.1), (List.replicate 41 0), bt291.2)) else (none))))) else (some (bt276.1, wrap64 (1 + bt278.1), wrap64 (1 + bt280.1), bt284.1, bt289.2))))))))
theorem spec_l20Mail.mono : ∀ a0 a1 a2 k, LeO (spec_l20Mail.f k a0 a1 a2) (spec_l20Mail.f (k + 1) a0 a1 a2) := by
 intro a0 a1 a2 k
 unfold spec_l20Mail.f
 repeat' first
   | (with_reducible exact spec_l20Rd_bytes.mono _ _ _ _)
   | (with_reducible exact spec_l20Rd_odd.mono _ _ _ _)
   | (with_reducible exact spec_l20Rd_pick.mono _ _ _ _)
   | (with_reducible exact LeO.refl _)
   | (with_reducible exact LeO.none _)
   | (with_reducible refine LeO.ite ?_ ?_)
   | (with_reducible refine LeO.bind ?_ (fun _ => ?_))
   | exact spec_l20Rd_bytes.mono _ _ _ _
   | exact spec_l20Rd_odd.mono _ _ _ _
   | exact spec_l20Rd_pick.mono _ _ _ _
   | exact LeO.none _
   | refine LeO.ite ?_ ?_
   | refine LeO.bind ?_ (fun _ => ?_)
set_option maxHeartbeats 8000000 in
set_option maxRecDepth 100000 in
theorem spec_l20Mail.calls (k : Nat) (g : Nat) (s0_0 : List Int) (s0_1 : Int) (a1 : Int) (r1 : Int) (r2 : Int) (r3 : Int) (r4 : List Int) (r5 : Int) (w0 w : World) (hI : IsS93 w0 w g s0_0 s0_1) (hB : Below w0.heap.size w0 w) (h : spec_l20Mail.f k s0_0 s0_1 a1 = some (r1, r2, r3, r4, r5)) :
  Calls Try.prog 68 #[.pointer (some ⟨g, 0, none⟩), .int .i64 a1] w fun e w' => ∃ v3_ : Value, e = .returned (.agg #[.int .i64 r1, .int .i64 r2, .int .i64 r3, v3_]) ∧ Kd.R (Kd.int .u8) 5 w' w.heap.size (fun _ => True) v3_ r4 ∧ IsS93 w0 w' g s0_0 r5 ∧ Below w0.heap.size w0 w' ∧ KeepBut w w' g none := by
 have hu40 := Try.underlying40
 have HI0 := mk_ hI
 have HK := mk_ (KeepBut.refl w g none)
 have HL := mk_ hB.size
 clear hI
 have HW0 := mk_ hB.size
 have HB := mk_ hB
 clear hB
 have H := h
 unfold spec_l20Mail.f at H
 clear h
 replace H := Option.bind_eq_some_iff.mp H
 obtain ⟨⟨t276, t277⟩, A30, H⟩ := H
 (try dsimp only at H)
 have A3 := mk_ A30
 clear A30
 replace H := Option.bind_eq_some_iff.mp H
 obtain ⟨⟨t278, t279⟩, A40, H⟩ := H
 (try dsimp only at H)
 have A4 := mk_ A40
 clear A40
 replace H := Option.bind_eq_some_iff.mp H
 obtain ⟨⟨t280, t281⟩, A50, H⟩ := H
 (try dsimp only at H)
 have A5 := mk_ A50
 clear A50
 replace H := Option.bind_eq_some_iff.mp H
 obtain ⟨⟨t282, t283⟩, A60, H⟩ := H
 (try dsimp only at H)
 have A6 := mk_ A60
 clear A60
 replace H := Option.bind_eq_some_iff.mp H
 obtain ⟨⟨t284, t287⟩, A70, H⟩ := H
 (try dsimp only at H)
 have A7 := mk_ A70
 clear A70
 replace H := Option.bind_eq_some_iff.mp H
 obtain ⟨⟨t289, t290⟩, A80, H⟩ := H
 (try dsimp only at H)
 have A8 := mk_ A80
 clear A80
 by_cases c9 : t289 = true
 rotate_left
 focus
  replace c9 := Bool.eq_false_iff.mpr c9
  subst c9
  rw [if_neg (show ¬ (false = true) by decide)] at H
  simp only [Option.some.injEq, Prod.mk.injEq] at H
  obtain ⟨rfl, rfl, rfl, rfl, rfl⟩ := H
 rotate_left
 focus
  subst c9
  rw [if_pos rfl] at H
  replace H := Option.bind_eq_some_iff.mp H
  obtain ⟨⟨t291, t292⟩, A100, H⟩ := H
  (try dsimp only at H)
  have A10 := mk_ A100
  clear A100
  by_cases c11 : t291 = 0
  focus
   rw [if_pos c11] at H
   have c11b0 : (t291 == 0) = true := beq_iff_eq.mpr c11
   have c11b1 : (t291 != 0) = false := bne_eq_false_iff_eq.mpr c11
   clear c11
   replace H := Option.bind_eq_some_iff.mp H
   obtain ⟨⟨t293, t294⟩, A120, H⟩ := H
   replace H : (some (t276, wrap64 (t293 * 256), wrap64 (1 + t280), t284, t294)) = some (r1, r2, r3, r4, r5) := H
   have A12 := mk_ A120
   clear A120
   simp only [Option.some.injEq, Prod.mk.injEq] at H
   obtain ⟨rfl, rfl, rfl, rfl, rfl⟩ := H
  rotate_left
  focus
   rw [if_neg c11] at H
   have c11b0 : (t291 == 0) = false := beq_eq_false_iff_ne.mpr c11
   have c11b1 : (t291 != 0) = true := bne_iff_ne.mpr c11
   by_cases c30 : t291 = 1
   focus
    rw [if_pos c30] at H
    have c30b0 : (t291 == 1) = true := beq_iff_eq.mpr c30
    have c30b1 : (t291 != 1) = false := bne_eq_false_iff_eq.mpr c30
    clear c30
    replace H := Option.bind_eq_some_iff.mp H
    obtain ⟨⟨t295, t296⟩, A310, H⟩ := H
    replace H : (some (t276, wrap64 (1 + t278), wrap64 (-t295), t284, t296)) = some (r1, r2, r3, r4, r5) := H
    have A31 := mk_ A310
    clear A310
    simp only [Option.some.injEq, Prod.mk.injEq] at H
    obtain ⟨rfl, rfl, rfl, rfl, rfl⟩ := H
   rotate_left
   focus
    rw [if_neg c30] at H
    have c30b0 : (t291 == 1) = false := beq_eq_false_iff_ne.mpr c30
    have c30b1 : (t291 != 1) = true := bne_iff_ne.mpr c30
    by_cases c49 : 41 ≤ 281474976710656
    rotate_left
    ·rw [if_neg c49] at H
     exact absurd H (by simp)
    rw [if_pos c49] at H
    have c49b0 := eq_true c49
    have c49b1 : decide (41 ≤ 281474976710656) = true := decide_eq_true c49
    clear c49
    obtain ⟨y297, hy297⟩ : ∃ y_ : List Int, y_ = (List.replicate 41 0) := ⟨_, rfl⟩
    replace H : (some (t276, wrap64 (1 + t278), wrap64 (1 + t280), y297, t292)) = some (r1, r2, r3, r4, r5) := by first | (rw [hy297]; with_reducible exact H) | (have H2_ := (Option.bind_some _ _).symm.trans H; rw [hy297]; with_reducible exact H2_) | (have H2_ := (Option.bind_some _ _).symm.trans H; with_reducible exact H2_) | with_reducible exact H | (rw [hy297]; exact H) | exact H
    have Ny297 := mk_ hy297
    clear hy297
    simp only [Option.some.injEq, Prod.mk.injEq] at H
    obtain ⟨rfl, rfl, rfl, rfl, rfl⟩ := H
   rotate_left
  rotate_left 2
 rotate_left 3
 all_goals
  go_enter Try.func68, Try.ntmps68
  go_wp2_with (first | ((with_reducible refine gate_dst (N := 4) rfl ?_); refine box_event ?hg (N := 4) ?hd (cs := #[.int .i64 0, .int .i64 0, .int .i64 0, .slice none 0 0]) (t := 40) ?hr ?_; (case hd => rfl); (case hg => rfl); (case hr => first | (go_simp; done) | (go_simp; rfl)); intro gb29160 hg w29161 hbox hb; have n0_ := mk_ (IsS93.below (by repeat (first | (with_reducible first | exact HI0.out | apply IsS93.alloc | apply IsS93.drewN | apply IsS93.drew | apply IsS93.set_1) | exact HI0.out)) hb); have n1_ := mk_ (KeepBut.trans (by repeat (first | (with_reducible first | exact HK.out | apply KeepBut.set_ | apply keep_drewN | apply keep_drew | apply keep_alloc) | exact HK.out)) (KeepBut.of_below hb g none) (.inl rfl)); replace HB := mk_ (below_step (by repeat (first | (with_reducible first | exact HB.out | apply na_ | apply nn_ | apply nw_ | refine bs_ ?_ (IsS93.ge HI0.out)) | exact HB.out)) hb); have BK275 := mk_ (hbox); have GW275 := mk_ ((by rw [hg]; exact (keep_size (w := w) (g := g) (row := none) (by repeat (first | (with_reducible first | exact HK.out | apply KeepBut.set_ | apply keep_drewN | apply keep_drew | apply keep_alloc) | exact HK.out))) : w.heap.size ≤ gb29160)); have GE275 := ge_ ((Nat.le_trans HW0.out (by rw [hg]; exact (keep_size (w := w) (g := g) (row := none) (by repeat (first | (with_reducible first | exact HK.out | apply KeepBut.set_ | apply keep_drewN | apply keep_drew | apply keep_alloc) | exact HK.out))) : w.heap.size ≤ gb29160) : w0.heap.size ≤ gb29160)); have NB0_275 := nq_ ((by rw [hg]; exact Nat.ne_of_lt (IsS93.lt (show IsS93 w0 _ g s0_0 s0_1 from by repeat (first | (with_reducible first | exact HI0.out | apply IsS93.alloc | apply IsS93.drewN | apply IsS93.drew | apply IsS93.set_1) | exact HI0.out))) : g ≠ gb29160)); have NB275_0 := nq_ ((by rw [hg]; exact Nat.ne_of_gt (IsS93.lt (show IsS93 w0 _ g s0_0 s0_1 from by repeat (first | (with_reducible first | exact HI0.out | apply IsS93.alloc | apply IsS93.drewN | apply IsS93.drew | apply IsS93.set_1) | exact HI0.out))) : gb29160 ≠ g)); replace HI0 := n0_; replace HK := n1_; clear n0_ n1_; clear hb hbox hg) | ((with_reducible refine gate_callee (f := 58) rfl ?_); have hA_ := A3.out; refine goesL_ (some 7) rfl rfl Try.func58 (by kernel_rfl) rfl #[.pointer (some ⟨g, 0, none⟩), .int .i64 5] rfl (by (try simp only [lm_, lo_, ln_]); try rfl) ?_; (with_reducible refine (spec_l20Rd_pick.calls k g s0_0 s0_1 5 t276 t277 w0 _ ?side1 ?side2 A3.out).mono ?_); (case side1 => repeat (first | (with_reducible first | exact HI0.out | apply IsS93.alloc | apply IsS93.drewN | apply IsS93.drew | apply IsS93.set_1 | refine IsS93.far ?_ NB0_275.out _) | exact HI0.out)); (case side2 => repeat (first | (with_reducible first | exact HB.out | apply na_ | apply nn_ | apply nw_ | refine bs_ ?_ (IsS93.ge HI0.out) | refine bs_ ?_ GE275.out) | exact HB.out)); rintro e w29200 ⟨rfl, hi, hb, hk⟩; refine ⟨_, rfl, ?_⟩; replace BK275 := mk_ (KeepBut.blk hk (g' := gb29160) (o := .cells #[.int .i64 0, .int .i64 0, .int .i64 0, .slice none 0 0] 40 (0, 0)) (u_ BK275.out) NB275_0.out (by simp)); replace HK := mk_ (KeepBut.trans (by repeat (first | (with_reducible first | exact HK.out | apply KeepBut.set_ | apply keep_drewN | apply keep_drew | apply keep_alloc | refine keep_far ?_ GW275.out _) | exact HK.out)) hk (.inl rfl)); replace HB := mk_ (hb); replace HI0 := mk_ (hi); clear hA_ A3) | ((with_reducible refine gate_callee (f := 58) rfl ?_); have hA_ := A4.out; refine goesL_ (some 9) rfl rfl Try.func58 (by kernel_rfl) rfl #[.pointer (some ⟨g, 0, none⟩), .int .i64 4] rfl (by (try simp only [lm_, lo_, ln_]); try rfl) ?_; (with_reducible refine (spec_l20Rd_pick.calls k g s0_0 t277 4 t278 t279 w0 _ ?side1 ?side2 A4.out).mono ?_); (case side1 => repeat (first | (with_reducible first | exact HI0.out | apply IsS93.alloc | apply IsS93.drewN | apply IsS93.drew | apply IsS93.set_1 | refine IsS93.far ?_ NB0_275.out _) | exact HI0.out)); (case side2 => repeat (first | (with_reducible first | exact HB.out | apply na_ | apply nn_ | apply nw_ | refine bs_ ?_ (IsS93.ge HI0.out) | refine bs_ ?_ GE275.out) | exact HB.out)); rintro e w29240 ⟨rfl, hi, hb, hk⟩; refine ⟨_, rfl, ?_⟩; replace BK275 := mk_ (KeepBut.blk hk (g' := gb29160) (o := .cells #[.int .i64 0, .int .i64 0, .int .i64 0, .slice none 0 0] 40 (0, 0)) (u_ BK275.out) NB275_0.out (by simp)); replace HK := mk_ (KeepBut.trans (by repeat (first | (with_reducible first | exact HK.out | apply KeepBut.set_ | apply keep_drewN | apply keep_drew | apply keep_alloc | refine keep_far ?_ GW275.out _) | exact HK.out)) hk (.inl rfl)); replace HB := mk_ (hb); replace HI0 := mk_ (hi); clear hA_ A4) | ((with_reducible refine gate_callee (f := 58) rfl ?_); have hA_ := A5.out; refine goesL_ (some 12) rfl rfl Try.func58 (by kernel_rfl) rfl #[.pointer (some ⟨g, 0, none⟩), .int .i64 6] rfl (by (try simp only [lm_, lo_, ln_]); try rfl) ?_; (with_reducible refine (spec_l20Rd_pick.calls k g s0_0 t279 6 t280 t281 w0 _ ?side1 ?side2 A5.out).mono ?_); (case side1 => repeat (first | (with_reducible first | exact HI0.out | apply IsS93.alloc | apply IsS93.drewN | apply IsS93.drew | apply IsS93.set_1 | refine IsS93.far ?_ NB0_275.out _) | exact HI0.out)); (case side2 => repeat (first | (with_reducible first | exact HB.out | apply na_ | apply nn_ | apply nw_ | refine bs_ ?_ (IsS93.ge HI0.out) | refine bs_ ?_ GE275.out) | exact HB.out)); rintro e w28920 ⟨rfl, hi, hb, hk⟩; refine ⟨_, rfl, ?_⟩; replace BK275 := mk_ (KeepBut.blk hk (g' := gb29160) (o := .cells #[.int .i64 0, .int .i64 0, .int .i64 0, .slice none 0 0] 40 (0, 0)) (u_ BK275.out) NB275_0.out (by simp)); replace HK := mk_ (KeepBut.trans (by repeat (first | (with_reducible first | exact HK.out | apply KeepBut.set_ | apply keep_drewN | apply keep_drew | apply keep_alloc | refine keep_far ?_ GW275.out _) | exact HK.out)) hk (.inl rfl)); replace HB := mk_ (hb); replace HI0 := mk_ (hi); clear hA_ A5) | ((with_reducible refine gate_callee (f := 58) rfl ?_); have hA_ := A6.out; refine goesL_ (some 16) rfl rfl Try.func58 (by kernel_rfl) rfl #[.pointer (some ⟨g, 0, none⟩), .int .i64 6] rfl (by (try simp only [lm_, lo_, ln_]); try rfl) ?_; (with_reducible refine (spec_l20Rd_pick.calls k g s0_0 t281 6 t282 t283 w0 _ ?side1 ?side2 A6.out).mono ?_); (case side1 => repeat (first | (with_reducible first | exact HI0.out | apply IsS93.alloc | apply IsS93.drewN | apply IsS93.drew | apply IsS93.set_1 | refine IsS93.far ?_ NB0_275.out _) | exact HI0.out)); (case side2 => repeat (first | (with_reducible first | exact HB.out | apply na_ | apply nn_ | apply nw_ | refine bs_ ?_ (IsS93.ge HI0.out) | refine bs_ ?_ GE275.out) | exact HB.out)); rintro e w29080 ⟨rfl, hi, hb, hk⟩; refine ⟨_, rfl, ?_⟩; replace BK275 := mk_ (KeepBut.blk hk (g' := gb29160) (o := .cells #[.int .i64 0, .int .i64 0, .int .i64 0, .slice none 0 0] 40 (0, 0)) (u_ BK275.out) NB275_0.out (by simp)); replace HK := mk_ (KeepBut.trans (by repeat (first | (with_reducible first | exact HK.out | apply KeepBut.set_ | apply keep_drewN | apply keep_drew | apply keep_alloc | refine keep_far ?_ GW275.out _) | exact HK.out)) hk (.inl rfl)); replace HB := mk_ (hb); replace HI0 := mk_ (hi); clear hA_ A6) | ((with_reducible refine gate_callee (f := 91) rfl ?_); refine goesL_ (some 17) rfl rfl Try.func91 (by kernel_rfl) rfl #[.pointer (some ⟨g, 0, none⟩), .int .i64 t282] rfl (by (try simp only [lm_, lo_, ln_]); try rfl) ?_; (with_reducible refine (spec_l20Rd_bytes.calls k g s0_0 t283 t282 t284 t287 w0 _ ?side1 ?side2 A7.out).mono ?_); (case side1 => repeat (first | (with_reducible first | exact HI0.out | apply IsS93.alloc | apply IsS93.drewN | apply IsS93.drew | apply IsS93.set_1 | refine IsS93.far ?_ NB0_275.out _) | exact HI0.out)); (case side2 => repeat (first | (with_reducible first | exact HB.out | apply na_ | apply nn_ | apply nw_ | refine bs_ ?_ (IsS93.ge HI0.out) | refine bs_ ?_ GE275.out) | exact HB.out)); rintro e w29280 ⟨v29281, rfl, ho29282, hi, hb, hk⟩; refine ⟨_, rfl, ?_⟩; replace BK275 := mk_ (KeepBut.blk hk (g' := gb29160) (o := .cells #[.int .i64 0, .int .i64 0, .int .i64 0, .slice none 0 0] 40 (0, 0)) (u_ BK275.out) NB275_0.out (by simp)); have HO286 := mk_ (Kd.R_lower ho29282 (keep_size (w := w) (g := g) (row := none) (by repeat (first | (with_reducible first | exact HK.out | apply KeepBut.set_ | apply keep_drewN | apply keep_drew | apply keep_alloc | refine keep_far ?_ GW275.out _) | exact HK.out)))); replace HK := mk_ (KeepBut.trans (by repeat (first | (with_reducible first | exact HK.out | apply KeepBut.set_ | apply keep_drewN | apply keep_drew | apply keep_alloc | refine keep_far ?_ GW275.out _) | exact HK.out)) hk (.inl rfl)); replace HB := mk_ (hb); replace HI0 := mk_ (hi); obtain ⟨Ao7070286, co7070286, eo7070286⟩ := Kd.R_slice HO286.out; subst eo7070286) | ((with_reducible refine gate_dst (N := 5) rfl ?_); refine box_event ?hg (N := 5) ?hd (cs := #[.int .i64 0, .int .i64 0, .int .i64 0, .slice none 0 0]) (t := 40) ?hr ?_; (case hd => rfl); (case hg => rfl); (case hr => first | (go_simp; done) | (go_simp; rfl)); intro gb29320 hg w29321 hbox hb; replace HO286 := mk_ (Kd.R_below (Kd.ur_ HO286.out) hb); have n1_ := mk_ (IsS93.below (by repeat (first | (with_reducible first | exact HI0.out | apply IsS93.alloc | apply IsS93.drewN | apply IsS93.drew | apply IsS93.set_1 | refine IsS93.far ?_ NB0_275.out _) | exact HI0.out)) hb); have n2_ := mk_ (blk_below (u_ BK275.out) hb); have n3_ := mk_ (KeepBut.trans (by repeat (first | (with_reducible first | exact HK.out | apply KeepBut.set_ | apply keep_drewN | apply keep_drew | apply keep_alloc | refine keep_far ?_ GW275.out _) | exact HK.out)) (KeepBut.of_below hb g none) (.inl rfl)); replace HB := mk_ (below_step (by repeat (first | (with_reducible first | exact HB.out | apply na_ | apply nn_ | apply nw_ | refine bs_ ?_ (IsS93.ge HI0.out) | refine bs_ ?_ GE275.out) | exact HB.out)) hb); have BK288 := mk_ (hbox); have GW288 := mk_ ((by rw [hg]; exact (keep_size (w := w) (g := g) (row := none) (by repeat (first | (with_reducible first | exact HK.out | apply KeepBut.set_ | apply keep_drewN | apply keep_drew | apply keep_alloc | refine keep_far ?_ GW275.out _) | exact HK.out))) : w.heap.size ≤ gb29320)); have GE288 := ge_ ((Nat.le_trans HW0.out (by rw [hg]; exact (keep_size (w := w) (g := g) (row := none) (by repeat (first | (with_reducible first | exact HK.out | apply KeepBut.set_ | apply keep_drewN | apply keep_drew | apply keep_alloc | refine keep_far ?_ GW275.out _) | exact HK.out))) : w.heap.size ≤ gb29320) : w0.heap.size ≤ gb29320)); have NB275_288 := nq_ ((by rw [hg]; exact Nat.ne_of_lt (blk_lt (u_ BK275.out)) : gb29160 ≠ gb29320)); have NB288_275 := nq_ ((by rw [hg]; exact Nat.ne_of_gt (blk_lt (u_ BK275.out)) : gb29320 ≠ gb29160)); have NB0_288 := nq_ ((by rw [hg]; exact Nat.ne_of_lt (IsS93.lt (show IsS93 w0 _ g s0_0 t287 from by repeat (first | (with_reducible first | exact HI0.out | apply IsS93.alloc | apply IsS93.drewN | apply IsS93.drew | apply IsS93.set_1 | refine IsS93.far ?_ NB0_275.out _) | exact HI0.out))) : g ≠ gb29320)); have NB288_0 := nq_ ((by rw [hg]; exact Nat.ne_of_gt (IsS93.lt (show IsS93 w0 _ g s0_0 t287 from by repeat (first | (with_reducible first | exact HI0.out | apply IsS93.alloc | apply IsS93.drewN | apply IsS93.drew | apply IsS93.set_1 | refine IsS93.far ?_ NB0_275.out _) | exact HI0.out))) : gb29320 ≠ g)); replace HI0 := n1_; replace BK275 := n2_; replace HK := n3_; clear n1_ n2_ n3_; clear hb hbox hg; have hnb7080275288 := NB288_275.out; have hnc7080275288 := NB275_288.out; have hnb70800288 := NB288_0.out; have hnc70800288 := NB0_288.out; obtain ⟨_, _, _, _, _, _, _, _⟩ := cells4_ BK288.out) | ((with_reducible refine gate_callee (f := 80) rfl ?_); refine goesL_ (some 21) rfl rfl Try.func80 (by kernel_rfl) rfl #[.pointer (some ⟨g, 0, none⟩), .int .i64 a1] rfl (by (try simp only [lm_, lo_, ln_]); try rfl) ?_; (with_reducible refine (spec_l20Rd_odd.calls k g s0_0 t287 a1 false t290 w0 _ ?side1 ?side2 A8.out).mono ?_); (case side1 => repeat (first | (with_reducible first | exact HI0.out | apply IsS93.alloc | apply IsS93.drewN | apply IsS93.drew | apply IsS93.set_1 | refine IsS93.far ?_ NB0_275.out _ | refine IsS93.far ?_ NB0_288.out _) | exact HI0.out)); (case side2 => repeat (first | (with_reducible first | exact HB.out | apply na_ | apply nn_ | apply nw_ | refine bs_ ?_ (IsS93.ge HI0.out) | refine bs_ ?_ GE275.out | refine bs_ ?_ GE288.out) | exact HB.out)); rintro e w29360 ⟨rfl, hi, hb, hk⟩; refine ⟨_, rfl, ?_⟩; replace BK275 := mk_ (KeepBut.blk hk (g' := gb29160) (o := .cells #[.int .i64 0, .int .i64 0, .int .i64 0, .slice none 0 0] 40 (0, 0)) (uf_ BK275.out) NB275_0.out (by simp)); replace HO286 := mk_ (Kd.R_mono (Kd.R_keep (IsS93.apart (show IsS93 w0 _ g s0_0 t287 from by repeat (first | (with_reducible first | exact HI0.out | apply IsS93.alloc | apply IsS93.drewN | apply IsS93.drew | apply IsS93.set_1 | refine IsS93.far ?_ NB0_275.out _ | refine IsS93.far ?_ NB0_288.out _) | exact HI0.out)) (by (with_reducible repeat (first | apply Kd.R_alloc | apply Kd.R_drewN | apply Kd.R_drew)); exact (Kd.R_mono (Kd.R_far (p := ⟨gb29320, 3, none⟩) (Kd.R_far (p := ⟨gb29320, 2, none⟩) (Kd.R_far (p := ⟨gb29320, 1, none⟩) (Kd.R_far (p := ⟨gb29320, 0, none⟩) (Kd.R_types HO286.out BK288.out (by decide)) (fun _ hk => hk.2) (.int .i64 t276)) (fun _ hk => hk.2) (.int .i64 (wrap64 (1 + t278)))) (fun _ hk => hk.2) (.int .i64 (wrap64 (1 + t280)))) (fun _ hk => hk.2) (.slice Ao7070286 t284.length co7070286)) (fun _ h_ => by first | exact h_.1 | simp only [h_, ne_eq, not_false_eq_true, and_self]))) (by decide)) hk (fun _ h => h.2)) (fun _ h => h.1)); replace BK288 := mk_ (KeepBut.blk hk (g' := gb29320) (o := .cells #[.int .i64 t276, .int .i64 (wrap64 (1 + t278)), .int .i64 (wrap64 (1 + t280)), .slice Ao7070286 t284.length co7070286] 40 (0, 0)) (by (with_reducible repeat (first | refine bn_ ?_ _ | refine bw_ ?_ | refine ba_ ?_ _)); refine blk_put (cs := #[.int .i64 t276, .int .i64 (wrap64 (1 + t278)), .int .i64 (wrap64 (1 + t280)), .slice none 0 0]) ?_ 3 _ rfl; (with_reducible repeat (first | refine bn_ ?_ _ | refine bw_ ?_ | refine ba_ ?_ _)); refine blk_put (cs := #[.int .i64 t276, .int .i64 (wrap64 (1 + t278)), .int .i64 0, .slice none 0 0]) ?_ 2 _ rfl; (with_reducible repeat (first | refine bn_ ?_ _ | refine bw_ ?_ | refine ba_ ?_ _)); refine blk_put (cs := #[.int .i64 t276, .int .i64 0, .int .i64 0, .slice none 0 0]) ?_ 1 _ rfl; (with_reducible repeat (first | refine bn_ ?_ _ | refine bw_ ?_ | refine ba_ ?_ _)); refine blk_put (cs := #[.int .i64 0, .int .i64 0, .int .i64 0, .slice none 0 0]) ?_ 0 _ rfl; (with_reducible repeat (first | refine bn_ ?_ _ | refine bw_ ?_ | refine ba_ ?_ _)); exact BK288.out) NB288_0.out (by simp)); replace HK := mk_ (KeepBut.trans (by repeat (first | (with_reducible first | exact HK.out | apply KeepBut.set_ | apply keep_drewN | apply keep_drew | apply keep_alloc | refine keep_far ?_ GW275.out _ | refine keep_far ?_ GW288.out _) | exact HK.out)) hk (.inl rfl)); replace HB := mk_ (hb); replace HI0 := mk_ (hi); obtain ⟨_, _, _, _, _, _, _, _⟩ := cells4_ BK288.out; have hnb70900275 := NB275_0.out; have hnc70900275 := NB0_275.out; obtain ⟨_, _, _, _, _, _, _, _⟩ := cells4_ BK275.out) | ((with_reducible refine gate_callee (f := 80) rfl ?_); refine goesL_ (some 21) rfl rfl Try.func80 (by kernel_rfl) rfl #[.pointer (some ⟨g, 0, none⟩), .int .i64 a1] rfl (by (try simp only [lm_, lo_, ln_]); try rfl) ?_; (with_reducible refine (spec_l20Rd_odd.calls k g s0_0 t287 a1 true t290 w0 _ ?side1 ?side2 A8.out).mono ?_); (case side1 => repeat (first | (with_reducible first | exact HI0.out | apply IsS93.alloc | apply IsS93.drewN | apply IsS93.drew | apply IsS93.set_1 | refine IsS93.far ?_ NB0_275.out _ | refine IsS93.far ?_ NB0_288.out _) | exact HI0.out)); (case side2 => repeat (first | (with_reducible first | exact HB.out | apply na_ | apply nn_ | apply nw_ | refine bs_ ?_ (IsS93.ge HI0.out) | refine bs_ ?_ GE275.out | refine bs_ ?_ GE288.out) | exact HB.out)); rintro e w29360 ⟨rfl, hi, hb, hk⟩; refine ⟨_, rfl, ?_⟩; replace BK275 := mk_ (KeepBut.blk hk (g' := gb29160) (o := .cells #[.int .i64 0, .int .i64 0, .int .i64 0, .slice none 0 0] 40 (0, 0)) (uf_ BK275.out) NB275_0.out (by simp)); replace HO286 := mk_ (Kd.R_mono (Kd.R_keep (IsS93.apart (show IsS93 w0 _ g s0_0 t287 from by repeat (first | (with_reducible first | exact HI0.out | apply IsS93.alloc | apply IsS93.drewN | apply IsS93.drew | apply IsS93.set_1 | refine IsS93.far ?_ NB0_275.out _ | refine IsS93.far ?_ NB0_288.out _) | exact HI0.out)) (by (with_reducible repeat (first | apply Kd.R_alloc | apply Kd.R_drewN | apply Kd.R_drew)); exact (Kd.R_mono (Kd.R_far (p := ⟨gb29320, 3, none⟩) (Kd.R_far (p := ⟨gb29320, 2, none⟩) (Kd.R_far (p := ⟨gb29320, 1, none⟩) (Kd.R_far (p := ⟨gb29320, 0, none⟩) (Kd.R_types HO286.out BK288.out (by decide)) (fun _ hk => hk.2) (.int .i64 t276)) (fun _ hk => hk.2) (.int .i64 (wrap64 (1 + t278)))) (fun _ hk => hk.2) (.int .i64 (wrap64 (1 + t280)))) (fun _ hk => hk.2) (.slice Ao7070286 t284.length co7070286)) (fun _ h_ => by first | exact h_.1 | simp only [h_, ne_eq, not_false_eq_true, and_self]))) (by decide)) hk (fun _ h => h.2)) (fun _ h => h.1)); replace BK288 := mk_ (KeepBut.blk hk (g' := gb29320) (o := .cells #[.int .i64 t276, .int .i64 (wrap64 (1 + t278)), .int .i64 (wrap64 (1 + t280)), .slice Ao7070286 t284.length co7070286] 40 (0, 0)) (by (with_reducible repeat (first | refine bn_ ?_ _ | refine bw_ ?_ | refine ba_ ?_ _)); refine blk_put (cs := #[.int .i64 t276, .int .i64 (wrap64 (1 + t278)), .int .i64 (wrap64 (1 + t280)), .slice none 0 0]) ?_ 3 _ rfl; (with_reducible repeat (first | refine bn_ ?_ _ | refine bw_ ?_ | refine ba_ ?_ _)); refine blk_put (cs := #[.int .i64 t276, .int .i64 (wrap64 (1 + t278)), .int .i64 0, .slice none 0 0]) ?_ 2 _ rfl; (with_reducible repeat (first | refine bn_ ?_ _ | refine bw_ ?_ | refine ba_ ?_ _)); refine blk_put (cs := #[.int .i64 t276, .int .i64 0, .int .i64 0, .slice none 0 0]) ?_ 1 _ rfl; (with_reducible repeat (first | refine bn_ ?_ _ | refine bw_ ?_ | refine ba_ ?_ _)); refine blk_put (cs := #[.int .i64 0, .int .i64 0, .int .i64 0, .slice none 0 0]) ?_ 0 _ rfl; (with_reducible repeat (first | refine bn_ ?_ _ | refine bw_ ?_ | refine ba_ ?_ _)); exact BK288.out) NB288_0.out (by simp)); replace HK := mk_ (KeepBut.trans (by repeat (first | (with_reducible first | exact HK.out | apply KeepBut.set_ | apply keep_drewN | apply keep_drew | apply keep_alloc | refine keep_far ?_ GW275.out _ | refine keep_far ?_ GW288.out _) | exact HK.out)) hk (.inl rfl)); replace HB := mk_ (hb); replace HI0 := mk_ (hi)) | ((with_reducible refine gate_callee (f := 58) rfl ?_); have hA_ := A10.out; refine goesL_ (some 23) rfl rfl Try.func58 (by kernel_rfl) rfl #[.pointer (some ⟨g, 0, none⟩), .int .i64 3] rfl (by (try simp only [lm_, lo_, ln_]); try rfl) ?_; (with_reducible refine (spec_l20Rd_pick.calls k g s0_0 t290 3 t291 t292 w0 _ ?side1 ?side2 A10.out).mono ?_); (case side1 => repeat (first | (with_reducible first | exact HI0.out | apply IsS93.alloc | apply IsS93.drewN | apply IsS93.drew | apply IsS93.set_1 | refine IsS93.far ?_ NB0_275.out _ | refine IsS93.far ?_ NB0_288.out _) | exact HI0.out)); (case side2 => repeat (first | (with_reducible first | exact HB.out | apply na_ | apply nn_ | apply nw_ | refine bs_ ?_ (IsS93.ge HI0.out) | refine bs_ ?_ GE275.out | refine bs_ ?_ GE288.out) | exact HB.out)); rintro e w29440 ⟨rfl, hi, hb, hk⟩; refine ⟨_, rfl, ?_⟩; replace BK275 := mk_ (KeepBut.blk hk (g' := gb29160) (o := .cells #[.int .i64 0, .int .i64 0, .int .i64 0, .slice none 0 0] 40 (0, 0)) (u_ BK275.out) NB275_0.out (by simp)); replace HO286 := mk_ (Kd.R_mono (Kd.R_keep (IsS93.apart (show IsS93 w0 _ g s0_0 t290 from by repeat (first | (with_reducible first | exact HI0.out | apply IsS93.alloc | apply IsS93.drewN | apply IsS93.drew | apply IsS93.set_1 | refine IsS93.far ?_ NB0_275.out _ | refine IsS93.far ?_ NB0_288.out _) | exact HI0.out)) (Kd.ur_ HO286.out) (by decide)) hk (fun _ h => h.2)) (fun _ h => h.1)); replace BK288 := mk_ (KeepBut.blk hk (g' := gb29320) (o := .cells #[.int .i64 t276, .int .i64 (wrap64 (1 + t278)), .int .i64 (wrap64 (1 + t280)), .slice Ao7070286 t284.length co7070286] 40 (0, 0)) (u_ BK288.out) NB288_0.out (by simp)); replace HK := mk_ (KeepBut.trans (by repeat (first | (with_reducible first | exact HK.out | apply KeepBut.set_ | apply keep_drewN | apply keep_drew | apply keep_alloc | refine keep_far ?_ GW275.out _ | refine keep_far ?_ GW288.out _) | exact HK.out)) hk (.inl rfl)); replace HB := mk_ (hb); replace HI0 := mk_ (hi); clear hA_ A10) | ((with_reducible refine gate_callee (f := 58) rfl ?_); have hA_ := A12.out; refine goesL_ (some 29) rfl rfl Try.func58 (by kernel_rfl) rfl #[.pointer (some ⟨g, 0, none⟩), .int .i64 2] rfl (by (try simp only [lm_, lo_, ln_]); try rfl) ?_; (with_reducible refine (spec_l20Rd_pick.calls k g s0_0 t292 2 t293 t294 w0 _ ?side1 ?side2 A12.out).mono ?_); (case side1 => repeat (first | (with_reducible first | exact HI0.out | apply IsS93.alloc | apply IsS93.drewN | apply IsS93.drew | apply IsS93.set_1 | refine IsS93.far ?_ NB0_275.out _ | refine IsS93.far ?_ NB0_288.out _) | exact HI0.out)); (case side2 => repeat (first | (with_reducible first | exact HB.out | apply na_ | apply nn_ | apply nw_ | refine bs_ ?_ (IsS93.ge HI0.out) | refine bs_ ?_ GE275.out | refine bs_ ?_ GE288.out) | exact HB.out)); rintro e w29480 ⟨rfl, hi, hb, hk⟩; refine ⟨_, rfl, ?_⟩; replace BK275 := mk_ (KeepBut.blk hk (g' := gb29160) (o := .cells #[.int .i64 0, .int .i64 0, .int .i64 0, .slice none 0 0] 40 (0, 0)) (u_ BK275.out) NB275_0.out (by simp)); replace HO286 := mk_ (Kd.R_mono (Kd.R_keep (IsS93.apart (show IsS93 w0 _ g s0_0 t292 from by repeat (first | (with_reducible first | exact HI0.out | apply IsS93.alloc | apply IsS93.drewN | apply IsS93.drew | apply IsS93.set_1 | refine IsS93.far ?_ NB0_275.out _ | refine IsS93.far ?_ NB0_288.out _) | exact HI0.out)) (Kd.ur_ HO286.out) (by decide)) hk (fun _ h => h.2)) (fun _ h => h.1)); replace BK288 := mk_ (KeepBut.blk hk (g' := gb29320) (o := .cells #[.int .i64 t276, .int .i64 (wrap64 (1 + t278)), .int .i64 (wrap64 (1 + t280)), .slice Ao7070286 t284.length co7070286] 40 (0, 0)) (u_ BK288.out) NB288_0.out (by simp)); replace HK := mk_ (KeepBut.trans (by repeat (first | (with_reducible first | exact HK.out | apply KeepBut.set_ | apply keep_drewN | apply keep_drew | apply keep_alloc | refine keep_far ?_ GW275.out _ | refine keep_far ?_ GW288.out _) | exact HK.out)) hk (.inl rfl)); replace HB := mk_ (hb); replace HI0 := mk_ (hi); obtain ⟨_, _, _, _, _, _, _, _⟩ := cells4_ BK288.out; have hnb71200275 := NB275_0.out; have hnc71200275 := NB0_275.out; obtain ⟨_, _, _, _, _, _, _, _⟩ := cells4_ BK275.out; clear hA_ A12) | ((with_reducible refine gate_callee (f := 58) rfl ?_); have hA_ := A31.out; refine goesL_ (some 35) rfl rfl Try.func58 (by kernel_rfl) rfl #[.pointer (some ⟨g, 0, none⟩), .int .i64 2] rfl (by (try simp only [lm_, lo_, ln_]); try rfl) ?_; (with_reducible refine (spec_l20Rd_pick.calls k g s0_0 t292 2 t295 t296 w0 _ ?side1 ?side2 A31.out).mono ?_); (case side1 => repeat (first | (with_reducible first | exact HI0.out | apply IsS93.alloc | apply IsS93.drewN | apply IsS93.drew | apply IsS93.set_1 | refine IsS93.far ?_ NB0_275.out _ | refine IsS93.far ?_ NB0_288.out _) | exact HI0.out)); (case side2 => repeat (first | (with_reducible first | exact HB.out | apply na_ | apply nn_ | apply nw_ | refine bs_ ?_ (IsS93.ge HI0.out) | refine bs_ ?_ GE275.out | refine bs_ ?_ GE288.out) | exact HB.out)); rintro e w29520 ⟨rfl, hi, hb, hk⟩; refine ⟨_, rfl, ?_⟩; replace BK275 := mk_ (KeepBut.blk hk (g' := gb29160) (o := .cells #[.int .i64 0, .int .i64 0, .int .i64 0, .slice none 0 0] 40 (0, 0)) (u_ BK275.out) NB275_0.out (by simp)); replace HO286 := mk_ (Kd.R_mono (Kd.R_keep (IsS93.apart (show IsS93 w0 _ g s0_0 t292 from by repeat (first | (with_reducible first | exact HI0.out | apply IsS93.alloc | apply IsS93.drewN | apply IsS93.drew | apply IsS93.set_1 | refine IsS93.far ?_ NB0_275.out _ | refine IsS93.far ?_ NB0_288.out _) | exact HI0.out)) (Kd.ur_ HO286.out) (by decide)) hk (fun _ h => h.2)) (fun _ h => h.1)); replace BK288 := mk_ (KeepBut.blk hk (g' := gb29320) (o := .cells #[.int .i64 t276, .int .i64 (wrap64 (1 + t278)), .int .i64 (wrap64 (1 + t280)), .slice Ao7070286 t284.length co7070286] 40 (0, 0)) (u_ BK288.out) NB288_0.out (by simp)); replace HK := mk_ (KeepBut.trans (by repeat (first | (with_reducible first | exact HK.out | apply KeepBut.set_ | apply keep_drewN | apply keep_drew | apply keep_alloc | refine keep_far ?_ GW275.out _ | refine keep_far ?_ GW288.out _) | exact HK.out)) hk (.inl rfl)); replace HB := mk_ (hb); replace HI0 := mk_ (hi); obtain ⟨_, _, _, _, _, _, _, _⟩ := cells4_ BK288.out; have hnb71300275 := NB275_0.out; have hnc71300275 := NB0_275.out; obtain ⟨_, _, _, _, _, _, _, _⟩ := cells4_ BK275.out; clear hA_ A31) | ((with_reducible refine gate_dst (N := 24) rfl ?_); refine Kd.R_make (Kd.int .u8) _ 5 rfl (N := 24) rfl 29 _ _ rfl 41 rfl rfl Try.underlying29 (.int .u8 0) 1 info5 rfl (by decide) (by omega) 0 (ok := fun _ => True) (okp := fun _ => True) rfl (fun _ hk => hk) trivial (by omega) (by omega) (Below.refl _ _) (Nat.le_refl _) ?_; intro v29560 w29561 ho29562 hb hg_ hnew_; clear hg_ hnew_; (first | rw [← Ny297.out] at ho29562 | (simp only [Int.reduceToNat] at ho29562; rw [← Ny297.out] at ho29562)); have n0_ := mk_ (Kd.R_elder' (Kd.ur_ HO286.out) (Kd.R_base ho29562) hb); have HO299 := mk_ (Kd.R_lower (Kd.R_new' ho29562 (Kd.R_lt (Kd.ur_ HO286.out))) (keep_size (w := w) (g := g) (row := none) (by repeat (first | (with_reducible first | exact HK.out | apply KeepBut.set_ | apply keep_drewN | apply keep_drew | apply keep_alloc | refine keep_far ?_ GW275.out _ | refine keep_far ?_ GW288.out _) | exact HK.out)))); have n2_ := mk_ (IsS93.below (by repeat (first | (with_reducible first | exact HI0.out | apply IsS93.alloc | apply IsS93.drewN | apply IsS93.drew | apply IsS93.set_1 | refine IsS93.far ?_ NB0_275.out _ | refine IsS93.far ?_ NB0_288.out _) | exact HI0.out)) hb); replace BK275 := mk_ (blk_below (u_ BK275.out) hb); replace BK288 := mk_ (blk_below (u_ BK288.out) hb); replace HK := mk_ (KeepBut.trans (by repeat (first | (with_reducible first | exact HK.out | apply KeepBut.set_ | apply keep_drewN | apply keep_drew | apply keep_alloc | refine keep_far ?_ GW275.out _ | refine keep_far ?_ GW288.out _) | exact HK.out)) (KeepBut.of_below hb g none) (.inl rfl)); replace HB := mk_ (below_step (by repeat (first | (with_reducible first | exact HB.out | apply na_ | apply nn_ | apply nw_ | refine bs_ ?_ (IsS93.ge HI0.out) | refine bs_ ?_ GE275.out | refine bs_ ?_ GE288.out) | exact HB.out)) hb); replace HO286 := n0_; replace HI0 := n2_; clear n0_ n2_; clear hb ho29562; obtain ⟨Ao7140299, co7140299, eo7140299⟩ := Kd.R_slice HO299.out; subst eo7140299; obtain ⟨_, _, _, _, _, _, _, _⟩ := cells4_ BK288.out; have hnb71400275 := NB275_0.out; have hnc71400275 := NB0_275.out; obtain ⟨_, _, _, _, _, _, _, _⟩ := cells4_ BK275.out))
 ·refine bodyPost_ret (results_cell_row rfl _ _ gb29160 40 #[.int .i64 t276, .int .i64 (wrap64 (1 + t278)), .int .i64 (wrap64 (1 + t280)), .slice Ao7070286 t284.length co7070286] (0, 0) _ rfl (by (with_reducible repeat (first | refine bn_ ?_ _ | refine bw_ ?_ | refine ba_ ?_ _)); refine blk_put (cs := #[.int .i64 t276, .int .i64 (wrap64 (1 + t278)), .int .i64 (wrap64 (1 + t280)), .slice none 0 0]) ?_ 3 _ rfl; (with_reducible repeat (first | refine bn_ ?_ _ | refine bw_ ?_ | refine ba_ ?_ _)); refine blk_put (cs := #[.int .i64 t276, .int .i64 (wrap64 (1 + t278)), .int .i64 0, .slice none 0 0]) ?_ 2 _ rfl; (with_reducible repeat (first | refine bn_ ?_ _ | refine bw_ ?_ | refine ba_ ?_ _)); refine blk_put (cs := #[.int .i64 t276, .int .i64 0, .int .i64 0, .slice none 0 0]) ?_ 1 _ rfl; (with_reducible repeat (first | refine bn_ ?_ _ | refine bw_ ?_ | refine ba_ ?_ _)); refine blk_put (cs := #[.int .i64 0, .int .i64 0, .int .i64 0, .slice none 0 0]) ?_ 0 _ rfl; (with_reducible repeat (first | refine bn_ ?_ _ | refine bw_ ?_ | refine ba_ ?_ _)); exact BK275.out) Try.underlying40 rfl (by kernel_rfl)) rfl ?_
  exact ⟨_, by first | rfl | (simp [errW_none, errW_some] <;> rfl) | (simp [*, errW_none, errW_some] <;> rfl), by (with_reducible repeat (first | apply Kd.R_alloc | apply Kd.R_drewN | apply Kd.R_drew)); exact Kd.R_mono (Kd.R_far (p := ⟨gb29160, 3, none⟩) (Kd.R_far (p := ⟨gb29160, 2, none⟩) (Kd.R_far (p := ⟨gb29160, 1, none⟩) (Kd.R_far (p := ⟨gb29160, 0, none⟩) (Kd.R_types HO286.out BK275.out (by decide)) (fun _ hk => hk.2) (.int .i64 t276)) (fun _ hk => hk.2) (.int .i64 (wrap64 (1 + t278)))) (fun _ hk => hk.2) (.int .i64 (wrap64 (1 + t280)))) (fun _ hk => hk.2) (.slice Ao7070286 t284.length co7070286)) (fun _ hk => trivial), by repeat (first | (with_reducible first | exact HI0.out | apply IsS93.alloc | apply IsS93.drewN | apply IsS93.drew | apply IsS93.set_1 | refine IsS93.far ?_ NB0_275.out _ | refine IsS93.far ?_ NB0_288.out _) | exact HI0.out), by repeat (first | (with_reducible first | exact HB.out | apply na_ | apply nn_ | apply nw_ | refine bs_ ?_ (IsS93.ge HI0.out) | refine bs_ ?_ GE275.out | refine bs_ ?_ GE288.out) | exact HB.out), by repeat (first | (with_reducible first | exact HK.out | apply KeepBut.set_ | apply keep_drewN | apply keep_drew | apply keep_alloc | refine keep_far ?_ GW275.out _ | refine keep_far ?_ GW288.out _) | exact HK.out)⟩
 ·refine bodyPost_ret (results_cell_row rfl _ _ gb29160 40 #[.int .i64 t276, .int .i64 (wrap64 (t293 * 256)), .int .i64 (wrap64 (1 + t280)), .slice Ao7070286 t284.length co7070286] (0, 0) _ rfl (by (with_reducible repeat (first | refine bn_ ?_ _ | refine bw_ ?_ | refine ba_ ?_ _)); refine blk_put (cs := #[.int .i64 t276, .int .i64 (wrap64 (t293 * 256)), .int .i64 (wrap64 (1 + t280)), .slice none 0 0]) ?_ 3 _ rfl; (with_reducible repeat (first | refine bn_ ?_ _ | refine bw_ ?_ | refine ba_ ?_ _)); refine blk_put (cs := #[.int .i64 t276, .int .i64 (wrap64 (t293 * 256)), .int .i64 0, .slice none 0 0]) ?_ 2 _ rfl; (with_reducible repeat (first | refine bn_ ?_ _ | refine bw_ ?_ | refine ba_ ?_ _)); refine blk_put (cs := #[.int .i64 t276, .int .i64 0, .int .i64 0, .slice none 0 0]) ?_ 1 _ rfl; (with_reducible repeat (first | refine bn_ ?_ _ | refine bw_ ?_ | refine ba_ ?_ _)); refine blk_put (cs := #[.int .i64 0, .int .i64 0, .int .i64 0, .slice none 0 0]) ?_ 0 _ rfl; (with_reducible repeat (first | refine bn_ ?_ _ | refine bw_ ?_ | refine ba_ ?_ _)); refine blk_far ?_ NB275_288.out _; (with_reducible repeat (first | refine bn_ ?_ _ | refine bw_ ?_ | refine ba_ ?_ _)); exact BK275.out) Try.underlying40 rfl (by kernel_rfl)) rfl ?_
  exact ⟨_, by first | rfl | (simp [errW_none, errW_some] <;> rfl) | (simp [*, errW_none, errW_some] <;> rfl), by (with_reducible repeat (first | apply Kd.R_alloc | apply Kd.R_drewN | apply Kd.R_drew)); exact Kd.R_mono (Kd.R_far (p := ⟨gb29160, 3, none⟩) (Kd.R_far (p := ⟨gb29160, 2, none⟩) (Kd.R_far (p := ⟨gb29160, 1, none⟩) (Kd.R_far (p := ⟨gb29160, 0, none⟩) (Kd.R_far (p := ⟨gb29320, 1, none⟩) (Kd.R_types (Kd.R_types HO286.out BK288.out (by decide)) BK275.out (by decide)) (fun _ hk => hk.1.2) (.int .i64 (wrap64 (t293 * 256)))) (fun _ hk => hk.2) (.int .i64 t276)) (fun _ hk => hk.2) (.int .i64 (wrap64 (t293 * 256)))) (fun _ hk => hk.2) (.int .i64 (wrap64 (1 + t280)))) (fun _ hk => hk.2) (.slice Ao7070286 t284.length co7070286)) (fun _ hk => trivial), by repeat (first | (with_reducible first | exact HI0.out | apply IsS93.alloc | apply IsS93.drewN | apply IsS93.drew | apply IsS93.set_1 | refine IsS93.far ?_ NB0_275.out _ | refine IsS93.far ?_ NB0_288.out _) | exact HI0.out), by repeat (first | (with_reducible first | exact HB.out | apply na_ | apply nn_ | apply nw_ | refine bs_ ?_ (IsS93.ge HI0.out) | refine bs_ ?_ GE275.out | refine bs_ ?_ GE288.out) | exact HB.out), by repeat (first | (with_reducible first | exact HK.out | apply KeepBut.set_ | apply keep_drewN | apply keep_drew | apply keep_alloc | refine keep_far ?_ GW275.out _ | refine keep_far ?_ GW288.out _) | exact HK.out)⟩
 ·refine bodyPost_ret (results_cell_row rfl _ _ gb29160 40 #[.int .i64 t276, .int .i64 (wrap64 (1 + t278)), .int .i64 (wrap64 (-t295)), .slice Ao7070286 t284.length co7070286] (0, 0) _ rfl (by (with_reducible repeat (first | refine bn_ ?_ _ | refine bw_ ?_ | refine ba_ ?_ _)); refine blk_put (cs := #[.int .i64 t276, .int .i64 (wrap64 (1 + t278)), .int .i64 (wrap64 (-t295)), .slice none 0 0]) ?_ 3 _ rfl; (with_reducible repeat (first | refine bn_ ?_ _ | refine bw_ ?_ | refine ba_ ?_ _)); refine blk_put (cs := #[.int .i64 t276, .int .i64 (wrap64 (1 + t278)), .int .i64 0, .slice none 0 0]) ?_ 2 _ rfl; (with_reducible repeat (first | refine bn_ ?_ _ | refine bw_ ?_ | refine ba_ ?_ _)); refine blk_put (cs := #[.int .i64 t276, .int .i64 0, .int .i64 0, .slice none 0 0]) ?_ 1 _ rfl; (with_reducible repeat (first | refine bn_ ?_ _ | refine bw_ ?_ | refine ba_ ?_ _)); refine blk_put (cs := #[.int .i64 0, .int .i64 0, .int .i64 0, .slice none 0 0]) ?_ 0 _ rfl; (with_reducible repeat (first | refine bn_ ?_ _ | refine bw_ ?_ | refine ba_ ?_ _)); refine blk_far ?_ NB275_288.out _; (with_reducible repeat (first | refine bn_ ?_ _ | refine bw_ ?_ | refine ba_ ?_ _)); exact BK275.out) Try.underlying40 rfl (by kernel_rfl)) rfl ?_
  exact ⟨_, by first | rfl | (simp [errW_none, errW_some] <;> rfl) | (simp [*, errW_none, errW_some] <;> rfl), by (with_reducible repeat (first | apply Kd.R_alloc | apply Kd.R_drewN | apply Kd.R_drew)); exact Kd.R_mono (Kd.R_far (p := ⟨gb29160, 3, none⟩) (Kd.R_far (p := ⟨gb29160, 2, none⟩) (Kd.R_far (p := ⟨gb29160, 1, none⟩) (Kd.R_far (p := ⟨gb29160, 0, none⟩) (Kd.R_far (p := ⟨gb29320, 2, none⟩) (Kd.R_types (Kd.R_types HO286.out BK288.out (by decide)) BK275.out (by decide)) (fun _ hk => hk.1.2) (.int .i64 (wrap64 (-t295)))) (fun _ hk => hk.2) (.int .i64 t276)) (fun _ hk => hk.2) (.int .i64 (wrap64 (1 + t278)))) (fun _ hk => hk.2) (.int .i64 (wrap64 (-t295)))) (fun _ hk => hk.2) (.slice Ao7070286 t284.length co7070286)) (fun _ hk => trivial), by repeat (first | (with_reducible first | exact HI0.out | apply IsS93.alloc | apply IsS93.drewN | apply IsS93.drew | apply IsS93.set_1 | refine IsS93.far ?_ NB0_275.out _ | refine IsS93.far ?_ NB0_288.out _) | exact HI0.out), by repeat (first | (with_reducible first | exact HB.out | apply na_ | apply nn_ | apply nw_ | refine bs_ ?_ (IsS93.ge HI0.out) | refine bs_ ?_ GE275.out | refine bs_ ?_ GE288.out) | exact HB.out), by repeat (first | (with_reducible first | exact HK.out | apply KeepBut.set_ | apply keep_drewN | apply keep_drew | apply keep_alloc | refine keep_far ?_ GW275.out _ | refine keep_far ?_ GW288.out _) | exact HK.out)⟩
 ·refine bodyPost_ret (results_cell_row rfl _ _ gb29160 40 #[.int .i64 t276, .int .i64 (wrap64 (1 + t278)), .int .i64 (wrap64 (1 + t280)), .slice Ao7140299 y297.length co7140299] (0, 0) _ rfl (by (with_reducible repeat (first | refine bn_ ?_ _ | refine bw_ ?_ | refine ba_ ?_ _)); refine blk_put (cs := #[.int .i64 t276, .int .i64 (wrap64 (1 + t278)), .int .i64 (wrap64 (1 + t280)), .slice none 0 0]) ?_ 3 _ rfl; (with_reducible repeat (first | refine bn_ ?_ _ | refine bw_ ?_ | refine ba_ ?_ _)); refine blk_put (cs := #[.int .i64 t276, .int .i64 (wrap64 (1 + t278)), .int .i64 0, .slice none 0 0]) ?_ 2 _ rfl; (with_reducible repeat (first | refine bn_ ?_ _ | refine bw_ ?_ | refine ba_ ?_ _)); refine blk_put (cs := #[.int .i64 t276, .int .i64 0, .int .i64 0, .slice none 0 0]) ?_ 1 _ rfl; (with_reducible repeat (first | refine bn_ ?_ _ | refine bw_ ?_ | refine ba_ ?_ _)); refine blk_put (cs := #[.int .i64 0, .int .i64 0, .int .i64 0, .slice none 0 0]) ?_ 0 _ rfl; (with_reducible repeat (first | refine bn_ ?_ _ | refine bw_ ?_ | refine ba_ ?_ _)); refine blk_far ?_ NB275_288.out _; (with_reducible repeat (first | refine bn_ ?_ _ | refine bw_ ?_ | refine ba_ ?_ _)); exact BK275.out) Try.underlying40 rfl (by kernel_rfl)) rfl ?_
  exact ⟨_, by first | rfl | (simp [errW_none, errW_some] <;> rfl) | (simp [*, errW_none, errW_some] <;> rfl), by (with_reducible repeat (first | apply Kd.R_alloc | apply Kd.R_drewN | apply Kd.R_drew)); exact Kd.R_mono (Kd.R_far (p := ⟨gb29160, 3, none⟩) (Kd.R_far (p := ⟨gb29160, 2, none⟩) (Kd.R_far (p := ⟨gb29160, 1, none⟩) (Kd.R_far (p := ⟨gb29160, 0, none⟩) (Kd.R_far (p := ⟨gb29320, 3, none⟩) (Kd.R_types (Kd.R_types HO299.out BK288.out (by decide)) BK275.out (by decide)) (fun _ hk => hk.1.2) (.slice Ao7140299 y297.length co7140299)) (fun _ hk => hk.2) (.int .i64 t276)) (fun _ hk => hk.2) (.int .i64 (wrap64 (1 + t278)))) (fun _ hk => hk.2) (.int .i64 (wrap64 (1 + t280)))) (fun _ hk => hk.2) (.slice Ao7140299 y297.length co7140299)) (fun _ hk => trivial), by repeat (first | (with_reducible first | exact HI0.out | apply IsS93.alloc | apply IsS93.drewN | apply IsS93.drew | apply IsS93.set_1 | refine IsS93.far ?_ NB0_275.out _ | refine IsS93.far ?_ NB0_288.out _) | exact HI0.out), by repeat (first | (with_reducible first | exact HB.out | apply na_ | apply nn_ | apply nw_ | refine bs_ ?_ (IsS93.ge HI0.out) | refine bs_ ?_ GE275.out | refine bs_ ?_ GE288.out) | exact HB.out), by repeat (first | (with_reducible first | exact HK.out | apply KeepBut.set_ | apply keep_drewN | apply keep_drew | apply keep_alloc | refine keep_far ?_ GW275.out _ | refine keep_far ?_ GW288.out _) | exact HK.out)⟩

/-! ### spec_MailBytes: function 69 -/
def spec_MailBytes.j0 : Nat → Int → Bool → Int → Int → Int → List Int → Option (List Int)
 | 0, _, _, _, _, _, _ => none
 | k + 1, x1, x13, x301000, x301001, x301002, x301003 => if x13 = true then (some (([] : List Int))) else ((some (([(x301001) % 256, (x301002) % 256, ((x301003.length : Int)) % 256] : List Int) : List Int)).bind fun y306 => (if y306.length + x301003.length < 140737488355328 then ((some (y306 ++ x301003 : List Int)).bind fun y309 => ((spec_l9Sum.f k x301000 x1 y309).bind fun t312 => ((spec_BytesOf.f k t312 2).bind fun t313 => (if y309.length + t313.length < 140737488355328 then (some (y309 ++ t313)) else (none))))) else (none)))
def spec_MailBytes.f (k : Nat) (a0_0 : Int) (a0_1 : Int) (a0_2 : Int) (l0_3 : List Int) (a1 : Int) : Option (List Int) := (spec_MailOk.f a0_0 a0_1 a0_2 l0_3).bind fun t301 => (if t301 = true then ((spec_l1In.f a1 0 65535).bind fun t302 => (spec_MailBytes.j0 k a1 (!t302) a0_0 a0_1 a0_2 l0_3)) else (spec_MailBytes.j0 k a1 true a0_0 a0_1 a0_2 l0_3))
theorem spec_MailBytes.mono_l : ∀ k, (∀ y0 y1 y2 y3 y4 y5, LeO (spec_MailBytes.j0 k y0 y1 y2 y3 y4 y5) (spec_MailBytes.j0 (k + 1) y0 y1 y2 y3 y4 y5))
 | 0 => fun _ _ _ _ _ _ r h => by simp [spec_MailBytes.j0] at h
 | k + 1 => by
  have ih0 := spec_MailBytes.mono_l k
  ·intro y0 y1 y2 y3 y4 y5
   unfold spec_MailBytes.j0
   repeat' first
   | (with_reducible exact ih0 _ _ _ _ _ _)
   | (with_reducible exact spec_BytesOf.mono _ _ _)
   | (with_reducible exact spec_l9Sum.mono _ _ _ _)
   | (with_reducible exact LeO.refl _)
   | (with_reducible exact LeO.none _)
   | (with_reducible refine LeO.ite ?_ ?_)
   | (with_reducible refine LeO.bind ?_ (fun _ => ?_))
   | exact ih0 _ _ _ _ _ _
   | exact spec_BytesOf.mono _ _ _
   | exact spec_l9Sum.mono _ _ _ _
   | exact LeO.none _
   | refine LeO.ite ?_ ?_
   | refine LeO.bind ?_ (fun _ => ?_)
theorem spec_MailBytes.mono : ∀ a0 a1 a2 a3 a4 k, LeO (spec_MailBytes.f k a0 a1 a2 a3 a4) (spec_MailBytes.f (k + 1) a0 a1 a2 a3 a4) := by
 intro a0 a1 a2 a3 a4 k
 have ih0 := spec_MailBytes.mono_l k
 unfold spec_MailBytes.f
 repeat' first
   | (with_reducible exact ih0 _ _ _ _ _ _)
   | (with_reducible exact spec_BytesOf.mono _ _ _)
   | (with_reducible exact spec_l9Sum.mono _ _ _ _)
   | (with_reducible exact LeO.refl _)
   | (with_reducible exact LeO.none _)
   | (with_reducible refine LeO.ite ?_ ?_)
   | (with_reducible refine LeO.bind ?_ (fun _ => ?_))
   | exact ih0 _ _ _ _ _ _
   | exact spec_BytesOf.mono _ _ _
   | exact spec_l9Sum.mono _ _ _ _
   | exact LeO.none _
   | refine LeO.ite ?_ ?_
   | refine LeO.bind ?_ (fun _ => ?_)
set_option maxHeartbeats 8000000 in
set_option maxRecDepth 100000 in
theorem spec_MailBytes.calls (k : Nat) (a0_0 : Int) (a0_1 : Int) (a0_2 : Int) (A0_3 : Option Addr) (c0_3 : Nat) (l0_3 : List Int) (a1 : Int) (r : List Int) (w : World) (hr0_3 : Kd.C (Kd.int .u8) w A0_3 l0_3.length l0_3) (hc0_3 : l0_3.length ≤ c0_3) (h : spec_MailBytes.f k a0_0 a0_1 a0_2 l0_3 a1 = some r) :
  Calls Try.prog 69 #[.agg #[.int .i64 a0_0, .int .i64 a0_1, .int .i64 a0_2, .slice A0_3 l0_3.length c0_3], .int .i64 a1] w fun e w' => ∃ v0_ : Value, e = .returned (v0_) ∧ Kd.R (Kd.int .u8) 5 w' w.heap.size (fun _ => True) v0_ r ∧ Below w.heap.size w w' := by
 have hu40 := Try.underlying40
 have HR0_3 := mk_ hr0_3
 have HC0_3 := mk_ hc0_3
 clear hr0_3 hc0_3
 have HB := mk_ (Below.refl w.heap.size w)
 have H := h
 unfold spec_MailBytes.f at H
 clear h
 have HC3 := mk_ H
 clear H
 go_enter Try.func69, Try.ntmps69
 go_upto_region 1 with (first | ((with_reducible refine gate_dst (N := 2) rfl ?_); refine box_event ?hg (N := 2) ?hd (cs := #[.int .i64 a0_0, .int .i64 a0_1, .int .i64 a0_2, .slice A0_3 l0_3.length c0_3]) (t := 40) ?hr ?_; (case hd => rfl); (case hg => rfl); (case hr => first | (go_simp; done) | (go_simp; rfl)); intro gb300 hg w4 hbox hb; have n0_ := mk_ (below_step (ub_ HB.out) hb); have BK300 := mk_ (hbox); have GW300 := mk_ ((by rw [hg]; exact (below_size (ub_ HB.out)) : w.heap.size ≤ gb300)); have GE300 := ge_ ((by rw [hg]; exact (below_size (ub_ HB.out)) : w.heap.size ≤ gb300)); replace HB := n0_; clear n0_; clear hb hbox hg))
 (try simp only [Act.put, la_, lz_, ls_])
 go_cut [13] (fun v13 wc => ∃ (kq : Nat) (x13_2 : Bool), v13 = .bool x13_2 ∧ Aside0 (spec_MailBytes.j0 kq a1 x13_2 a0_0 a0_1 a0_2 l0_3 = some r) ∧ Aside0 (kq ≤ k) ∧ Aside0 (wc.heap[gb300]? = some (.cells #[.int .i64 a0_0, .int .i64 a0_1, .int .i64 a0_2, (.slice A0_3 l0_3.length c0_3)] 40 (0, 0))) ∧ Aside0 (Below w.heap.size w wc))
 case first =>
  have H := HC3.out
  clear HC3
  replace H := Option.bind_eq_some_iff.mp H
  obtain ⟨t301, A50, H⟩ := H
  (try dsimp only at H)
  have A5 := mk_ A50
  clear A50
  by_cases c6 : t301 = true
  rotate_left
  ·replace c6 := Bool.eq_false_iff.mpr c6
   subst c6
   have H1 : (spec_MailBytes.j0 k a1 true a0_0 a0_1 a0_2 l0_3) = some r := by rw [if_neg (show ¬ (false = true) by decide)] at H; exact H
   clear H
   have H := H1
   clear H1
   have H' := mk_ H
   clear H
   obtain ⟨hcz10_0, hcz10_1, hcz10_2, hcz10_3, hfz10_0, hfz10_1, hfz10_2, hfz10_3⟩ := cells4_ BK300.out
   go_wp2_with (first | ((with_reducible refine gate_callee (f := 41) rfl ?_); refine goesL_ (some 7) rfl rfl Try.func41 (by kernel_rfl) rfl #[.agg #[.int .i64 a0_0, .int .i64 a0_1, .int .i64 a0_2, .slice A0_3 l0_3.length c0_3]] rfl (by (try simp only [lm_, lo_, ln_]); try rfl) ?_; (with_reducible refine (spec_MailOk.calls a0_0 a0_1 a0_2 _ _ l0_3 false _ ?side1 ?side2 A5.out).mono ?_); (case side1 => repeat (first | exact (Kd.C_below HR0_3.out HB.out) | (with_reducible refine Kd.C_alloc ?_ _) | (with_reducible refine Kd.C_drewN ?_ _) | (with_reducible refine Kd.C_drew ?_))); (case side2 => exact HC0_3.out); rintro e w11 ⟨rfl, hb⟩; refine ⟨_, rfl, ?_⟩; replace BK300 := mk_ (blk_below (u_ BK300.out) hb); replace HB := mk_ (below_step (us_ HB.out) hb)))
   go_meet
   case rel => exact ⟨_, (true), (by first | rfl | (simp; done) | (simp [*]; done)), H', ⟨by first | omega | exact Nat.le_refl _⟩, ⟨u_ BK300.out⟩, ⟨us_ HB.out⟩⟩
  subst c6
  rw [if_pos rfl] at H
  replace H := Option.bind_eq_some_iff.mp H
  obtain ⟨t302, A70, H⟩ := H
  replace H : (spec_MailBytes.j0 k a1 (!t302) a0_0 a0_1 a0_2 l0_3) = some r := H
  have A7 := mk_ A70
  clear A70
  have H' := mk_ H
  clear H
  obtain ⟨hcz8_0, hcz8_1, hcz8_2, hcz8_3, hfz8_0, hfz8_1, hfz8_2, hfz8_3⟩ := cells4_ BK300.out
  go_wp2_with (first | ((with_reducible refine gate_callee (f := 41) rfl ?_); refine goesL_ (some 7) rfl rfl Try.func41 (by kernel_rfl) rfl #[.agg #[.int .i64 a0_0, .int .i64 a0_1, .int .i64 a0_2, .slice A0_3 l0_3.length c0_3]] rfl (by (try simp only [lm_, lo_, ln_]); try rfl) ?_; (with_reducible refine (spec_MailOk.calls a0_0 a0_1 a0_2 _ _ l0_3 true _ ?side1 ?side2 A5.out).mono ?_); (case side1 => repeat (first | exact (Kd.C_below HR0_3.out HB.out) | (with_reducible refine Kd.C_alloc ?_ _) | (with_reducible refine Kd.C_drewN ?_ _) | (with_reducible refine Kd.C_drew ?_))); (case side2 => exact HC0_3.out); rintro e w9 ⟨rfl, hb⟩; refine ⟨_, rfl, ?_⟩; replace BK300 := mk_ (blk_below (u_ BK300.out) hb); replace HB := mk_ (below_step (us_ HB.out) hb)) | (go_at_call 40; (with_reducible refine (spec_l1In.calls a1 0 65535 t302 _ A7.out).mono ?_); rintro e w' ⟨rfl, ⟨nd, rfl⟩⟩))
  go_meet
  case rel => exact ⟨_, (!t302), (by first | rfl | (simp; done) | (simp [*]; done)), H', ⟨by first | omega | exact Nat.le_refl _⟩, ⟨u_ BK300.out⟩, ⟨us_ HB.out⟩⟩
 case rest =>
  clear HC3
  try clear p2
  try clear c4
  try clear c6
  try clear hcz10_0
  try clear hcz10_1
  try clear hcz10_2
  try clear hcz10_3
  try clear hcz8_0
  try clear hcz8_1
  try clear hcz8_2
  try clear hcz8_3
  try clear hfz10_0
  try clear hfz10_1
  try clear hfz10_2
  try clear hfz10_3
  try clear hfz8_0
  try clear hfz8_1
  try clear hfz8_2
  try clear hfz8_3
  obtain ⟨kq, x13_2, rfl, HA, HJ2, BK300, HB⟩ := hcut
  cases kq with
  | zero => exact absurd HA.out (by simp [spec_MailBytes.j0])
  | succ kj2 =>
   have H := HA.out
   clear HA
   simp only [spec_MailBytes.j0] at H
   by_cases c12 : x13_2 = true
   ·subst c12
    have H1 : (some (([] : List Int))) = some r := by rw [if_pos rfl] at H; exact H
    clear H
    have H := H1
    clear H1
    obtain ⟨y303, hy303⟩ : ∃ y_ : List Int, y_ = (([] : List Int)) := ⟨_, rfl⟩
    replace H : (some y303) = some r := by first | (rw [hy303]; with_reducible exact H) | (have H2_ := (Option.bind_some _ _).symm.trans H; rw [hy303]; with_reducible exact H2_) | (have H2_ := (Option.bind_some _ _).symm.trans H; with_reducible exact H2_) | with_reducible exact H | (rw [hy303]; exact H) | exact H
    have Ny303 := mk_ hy303
    clear hy303
    obtain rfl := Option.some.inj H
    go_wp2_with (first | ((with_reducible refine gate_dst (N := 14) rfl ?_); refine Kd.R_lit (Kd.int .u8) _ 5 ?hg (N := 14) ?hd (xs := ([] : List Int)) (inner := []) (ok := fun _ => True) (okp := fun _ => True) ?hr ?hp (fun _ hk => hk) trivial (Below.refl _ _) (Nat.le_refl _) (by simp) ?_; (case hd => rfl); (case hg => rfl); (case hr => first | (go_simp; done) | (go_simp; rfl)); (case hp => exact (Reps.none _ _)); intro v304 w13 ho14 hb hg_ hnew_; clear hg_ hnew_; (first | rw [← Ny303.out] at ho14 | (simp only [Int.reduceToNat] at ho14; rw [← Ny303.out] at ho14)); have HO305 := mk_ (Kd.R_lower ho14 (below_size (us_ HB.out))); replace BK300 := mk_ (blk_below (u_ BK300.out) hb); replace HB := mk_ (below_step (us_ HB.out) hb); clear hb ho14))
    go_ret
    exact ⟨_, by first | rfl | (simp [errW_none, errW_some] <;> rfl) | (simp [*, errW_none, errW_some] <;> rfl), by (with_reducible repeat (first | apply Kd.R_alloc | apply Kd.R_drewN | apply Kd.R_drew)); exact HO305.out, us_ HB.out⟩
   replace c12 := Bool.eq_false_iff.mpr c12
   subst c12
   rw [if_neg (show ¬ (false = true) by decide)] at H
   obtain ⟨y306, hy306⟩ : ∃ y_ : List Int, y_ = (([(a0_1) % 256, (a0_2) % 256, ((l0_3.length : Int)) % 256] : List Int)) := ⟨_, rfl⟩
   replace H : (if y306.length + l0_3.length < 140737488355328 then ((some (y306 ++ l0_3 : List Int)).bind fun y309 => ((spec_l9Sum.f kj2 a0_0 a1 y309).bind fun t312 => ((spec_BytesOf.f kj2 t312 2).bind fun t313 => (if y309.length + t313.length < 140737488355328 then (some (y309 ++ t313)) else (none))))) else (none)) = some r := by first | (rw [hy306]; with_reducible exact H) | (have H2_ := (Option.bind_some _ _).symm.trans H; rw [hy306]; with_reducible exact H2_) | (have H2_ := (Option.bind_some _ _).symm.trans H; with_reducible exact H2_) | with_reducible exact H | (rw [hy306]; exact H) | exact H
   have Ny306 := mk_ hy306
   clear hy306
   by_cases c15 : y306.length + l0_3.length < 140737488355328
   rotate_left
   ·rw [if_neg c15] at H
    exact absurd H (by simp)
   rw [if_pos c15] at H
   have LMc15 := mk_ c15
   clear c15
   obtain ⟨y309, hy309⟩ : ∃ y_ : List Int, y_ = (y306 ++ l0_3) := ⟨_, rfl⟩
   replace H : ((spec_l9Sum.f kj2 a0_0 a1 y309).bind fun t312 => ((spec_BytesOf.f kj2 t312 2).bind fun t313 => (if y309.length + t313.length < 140737488355328 then (some (y309 ++ t313)) else (none)))) = some r := by first | (rw [hy309]; with_reducible exact H) | (have H2_ := (Option.bind_some _ _).symm.trans H; rw [hy309]; with_reducible exact H2_) | (have H2_ := (Option.bind_some _ _).symm.trans H; with_reducible exact H2_) | with_reducible exact H | (rw [hy309]; exact H) | exact H
   have Ny309 := mk_ hy309
   clear hy309
   replace H := Option.bind_eq_some_iff.mp H
   obtain ⟨t312, A160, H⟩ := H
   (try dsimp only at H)
   have A16 := mk_ A160
   clear A160
   replace H := Option.bind_eq_some_iff.mp H
   obtain ⟨t313, A170, H⟩ := H
   replace H : (if y309.length + t313.length < 140737488355328 then (some (y309 ++ t313)) else (none)) = some r := H
   have A17 := mk_ A170
   clear A170
   by_cases c18 : y309.length + t313.length < 140737488355328
   rotate_left
   ·rw [if_neg c18] at H
    exact absurd H (by simp)
   rw [if_pos c18] at H
   have LMc18 := mk_ c18
   clear c18
   obtain ⟨y316, hy316⟩ : ∃ y_ : List Int, y_ = (y309 ++ t313) := ⟨_, rfl⟩
   replace H : (some y316) = some r := by first | (rw [hy316]; with_reducible exact H) | (have H2_ := (Option.bind_some _ _).symm.trans H; rw [hy316]; with_reducible exact H2_) | (have H2_ := (Option.bind_some _ _).symm.trans H; with_reducible exact H2_) | with_reducible exact H | (rw [hy316]; exact H) | exact H
   have Ny316 := mk_ hy316
   clear hy316
   obtain rfl := Option.some.inj H
   obtain ⟨_, _, _, _, _, _, _, _⟩ := cells4_ BK300.out
   go_wp2_with (first | ((with_reducible refine gate_dst (N := 25) rfl ?_); refine Kd.R_lit (Kd.int .u8) _ 5 ?hg (N := 25) ?hd (xs := ([(a0_1) % 256, (a0_2) % 256, ((l0_3.length : Int)) % 256] : List Int)) (inner := [.int .u8 ((a0_1) % 256), .int .u8 ((a0_2) % 256), .int .u8 (((l0_3.length : Int)) % 256)]) (ok := fun _ => True) (okp := fun _ => True) ?hr ?hp (fun _ hk => hk) trivial (Below.refl _ _) (Nat.le_refl _) (by simp) ?_; (case hd => rfl); (case hg => rfl); (case hr => first | (go_simp; done) | (go_simp; rfl)); (case hp => exact (Reps.one (show Kd.M (Kd.int .u8) _ _ _ ((a0_1) % 256) [.int .u8 ((a0_1) % 256)] from rfl) (Reps.one (show Kd.M (Kd.int .u8) _ _ _ ((a0_2) % 256) [.int .u8 ((a0_2) % 256)] from rfl) (Reps.one (show Kd.M (Kd.int .u8) _ _ _ (((l0_3.length : Int)) % 256) [.int .u8 (((l0_3.length : Int)) % 256)] from rfl) (Reps.none _ _))))); intro v307 w20 ho21 hb hg_ hnew_; clear hg_ hnew_; (first | rw [← Ny306.out] at ho21 | (simp only [Int.reduceToNat] at ho21; rw [← Ny306.out] at ho21)); have HO308 := mk_ (Kd.R_lower ho21 (below_size (us_ HB.out))); replace BK300 := mk_ (blk_below (u_ BK300.out) hb); replace HB := mk_ (below_step (us_ HB.out) hb); clear hb ho21; obtain ⟨_, _, _, _, _, _, _, _⟩ := cells4_ BK300.out) | ((with_reducible refine gate_builtin (b := .append) (xs := #[.tmp 25, .tmp 27]) rfl ?_); at_builtin; refine Kd.R_append_rows (Kd.int .u8) (w0 := w) w.heap.size rfl (.tmp 25) (.tmp 27) 29 5 (.int .u8 0) 1 rfl Try.underlying29 info5 rfl (by decide) (by omega) v307 y306 l0_3 _ _ _ (fun _ => True) (fun _ => False) rfl rfl ?aO ?aR (fun _ _ h => h) (fun _ h => h.elim) ?aF ?aB ?aS ?aL ?_; (case aR => repeat (first | exact (Kd.C_below HR0_3.out HB.out) | (with_reducible refine Kd.C_alloc ?_ _) | (with_reducible refine Kd.C_drewN ?_ _) | (with_reducible refine Kd.C_drew ?_))); (case aB => exact (us_ HB.out)); (case aF => exact (fun _ _ => trivial)); (case aO => exact (Kd.ur_ HO308.out)); (case aS => exact (below_size (us_ HB.out))); (case aL => have := LMc15.out; omega); intro v310 w23 ho hb hg hat; rw [← Ny309.out] at ho; replace BK300 := mk_ (blk_grown (g := gb300) (o := .cells #[.int .i64 a0_0, .int .i64 a0_1, .int .i64 a0_2, .slice A0_3 l0_3.length c0_3] 40 (0, 0)) (u_ BK300.out) hg (Kd.R_ne HO308.out BK300.out (by decide))); replace HB := mk_ (hb); have HO311 := mk_ (ho); clear HO308; clear ho hb hg hat; obtain ⟨_, _, _, _, _, _, _, _⟩ := cells4_ BK300.out; obtain ⟨Ao25, co25, eo25⟩ := Kd.R_slice HO311.out; subst eo25) | ((with_reducible refine gate_callee (f := 90) rfl ?_); refine goesL_ (some 34) rfl rfl Try.func90 (by kernel_rfl) rfl #[.int .i64 a0_0, .int .i64 a1, .slice Ao25 y309.length co25] rfl (by (try simp only [lm_, lo_, ln_]); try rfl) ?_; (with_reducible refine (spec_l9Sum.calls kj2 a0_0 a1 _ _ y309 t312 _ ?side1 ?side2 A16.out).mono ?_); (case side1 => repeat (first | exact (Kd.R_reads' HO311.out).2.2 | (with_reducible refine Kd.C_alloc ?_ _) | (with_reducible refine Kd.C_drewN ?_ _) | (with_reducible refine Kd.C_drew ?_))); (case side2 => exact (Kd.R_reads' HO311.out).2.1); rintro e w26 ⟨rfl, hb⟩; refine ⟨_, rfl, ?_⟩; replace HO311 := mk_ (Kd.R_below (Kd.ur_ HO311.out) hb); replace BK300 := mk_ (blk_below (u_ BK300.out) hb); replace HB := mk_ (below_step (us_ HB.out) hb)) | ((with_reducible refine gate_callee (f := 92) rfl ?_); refine goesL_ (some 35) rfl rfl Try.func92 (by kernel_rfl) rfl #[.int .i64 t312, .int .i64 2] rfl (by (try simp only [lm_, lo_, ln_]); try rfl) ?_; (with_reducible refine (spec_BytesOf.calls kj2 t312 2 t313 _ A17.out).mono ?_); rintro e w27 ⟨v314, rfl, ho0, hb⟩; refine ⟨_, rfl, ?_⟩; have n0_ := mk_ (Kd.R_elder' (Kd.ur_ HO311.out) (Kd.R_base ho0) hb); have HO315 := mk_ (Kd.R_lower (Kd.R_new' ho0 (Kd.R_lt (Kd.ur_ HO311.out))) (below_size (us_ HB.out))); replace BK300 := mk_ (blk_below (u_ BK300.out) hb); replace HB := mk_ (below_step (us_ HB.out) hb); replace HO311 := n0_; clear n0_; obtain ⟨Ao29, co29, eo29⟩ := Kd.R_slice HO315.out; subst eo29) | ((with_reducible refine gate_builtin (b := .append) (xs := #[.tmp 29, .tmp 35]) rfl ?_); at_builtin; refine Kd.R_append_rows (Kd.int .u8) (w0 := w) w.heap.size rfl (.tmp 29) (.tmp 35) 29 5 (.int .u8 0) 1 rfl Try.underlying29 info5 rfl (by decide) (by omega) (.slice Ao25 y309.length co25) y309 t313 _ _ _ (fun k_ => some k_ ≠ (.slice Ao29 t313.length co29 : Value).ownBlock) (fun _ => False) rfl rfl ?aO ?aR (fun _ _ h => h) (fun _ h => h.elim) ?aF ?aB ?aS ?aL ?_; (case aR => repeat (first | exact (Kd.R_reads' HO315.out).2.2 | (with_reducible refine Kd.C_alloc ?_ _) | (with_reducible refine Kd.C_drewN ?_ _) | (with_reducible refine Kd.C_drew ?_))); (case aB => exact (us_ HB.out)); (case aF => exact (fun k_ hk => Kd.fresh' (Kd.R_lt (Kd.ur_ HO315.out)) k_ hk)); (case aO => exact (by (with_reducible repeat (first | apply Kd.R_alloc | apply Kd.R_drewN | apply Kd.R_drew)); exact Kd.R_mono HO311.out (fun _ hk => hk.2))); (case aS => exact (below_size (us_ HB.out))); (case aL => have := LMc18.out; omega); intro v317 w28 ho hb hg hat; rw [← Ny316.out] at ho; replace BK300 := mk_ (blk_grown (g := gb300) (o := .cells #[.int .i64 a0_0, .int .i64 a0_1, .int .i64 a0_2, .slice A0_3 l0_3.length c0_3] 40 (0, 0)) (u_ BK300.out) hg (Kd.R_ne HO311.out BK300.out (by decide))); replace HO315 := mk_ (Kd.R_after (ok := (fun _ => True)) (Kd.ur_ HO315.out) hg hat); replace HB := mk_ (hb); have HO318 := mk_ (ho); clear HO311; clear ho hb hg hat))
   go_ret
   exact ⟨_, by first | rfl | (simp [errW_none, errW_some] <;> rfl) | (simp [*, errW_none, errW_some] <;> rfl), by (with_reducible repeat (first | apply Kd.R_alloc | apply Kd.R_drewN | apply Kd.R_drew)); exact Kd.R_mono HO318.out (fun _ hk => trivial), us_ HB.out⟩

-- NOT PRINTED: function 48 (spec_l20Ports)

/-! ### spec_l20Open: function 49 -/
def spec_l20Open.f (l0 : List Int) : Option (List Int × Int) := if (l0.length : Int) > 2000 then (if 2000 ≤ (l0.length : Int) then (some (l0.take 2000, 0)) else (none)) else (some (l0, 0))
set_option maxHeartbeats 8000000 in
set_option maxRecDepth 100000 in
theorem spec_l20Open.calls (A0 : Option Addr) (c0 : Nat) (l0 : List Int) (r1 : List Int) (r2 : Int) (w0 w : World) (hB : Below w0.heap.size w0 w) (hr0 : Kd.C (Kd.int .u8) w0 A0 l0.length l0) (hc0 : l0.length ≤ c0) (h : spec_l20Open.f l0 = some (r1, r2)) :
  Calls Try.prog 49 #[.slice A0 l0.length c0] w fun e w' => ∃ g_ : Nat, e = .returned (.pointer (some ⟨g_, 0, none⟩)) ∧ IsS93 w0 w' g_ r1 r2 ∧ Below w0.heap.size w0 w' ∧ Below w.heap.size w w' := by
 have hu93 := Try.underlying93
 have HR0 := mk_ hr0
 have HC0 := mk_ hc0
 clear hr0 hc0
 have HBW := mk_ (Below.refl w.heap.size w)
 have HW0 := mk_ hB.size
 have HB := mk_ hB
 clear hB
 have H := h
 unfold spec_l20Open.f at H
 clear h
 by_cases c2 : (l0.length : Int) > 2000
 rotate_left
 ·rw [if_neg c2] at H
  have c2b0 : decide (2000 < (l0.length : Int)) = false := decide_eq_false c2
  have c2b1 : decide (2000 < l0.length) = false := decide_eq_false (by omega)
  clear c2
  simp only [Option.some.injEq, Prod.mk.injEq] at H
  obtain ⟨rfl, rfl⟩ := H
  go_enter Try.func49, Try.ntmps49
  go_wp2_with (first | ((with_reducible refine gate_dst (N := 10) rfl ?_); refine box_event ?hg (N := 10) ?hd (cs := #[.slice A0 l0.length c0, .int .i64 0]) (t := 93) ?hr ?_; (case hd => rfl); (case hg => rfl); (case hr => first | (go_simp; done) | (go_simp; rfl)); intro gb345 hg w6 hbox hb; have n0_ := mk_ (below_step HBW.out hb); replace HB := mk_ (below_step (ub_ HB.out) hb); have BK345 := mk_ (hbox); have GW345 := mk_ ((by rw [hg]; exact (below_size (by repeat (first | (with_reducible first | exact HBW.out | apply na_ | apply nn_ | apply nw_) | exact HBW.out))) : w.heap.size ≤ gb345)); have GE345 := ge_ ((Nat.le_trans HW0.out (by rw [hg]; exact (below_size (by repeat (first | (with_reducible first | exact HBW.out | apply na_ | apply nn_ | apply nw_) | exact HBW.out))) : w.heap.size ≤ gb345) : w0.heap.size ≤ gb345)); replace HBW := n0_; clear n0_; clear hb hbox hg))
  go_ret
  exact ⟨_, rfl, (show IsS93 w0 _ gb345 l0 0 from ⟨_, _, by (with_reducible repeat (first | refine bn_ ?_ _ | refine bw_ ?_ | refine ba_ ?_ _)); exact BK345.out, GE345.out, HR0.out⟩), by repeat (first | (with_reducible first | exact HB.out | apply na_ | apply nn_ | apply nw_ | refine bs_ ?_ GE345.out) | exact HB.out), by repeat (first | (with_reducible first | exact HBW.out | apply na_ | apply nn_ | apply nw_ | refine bs_ ?_ GW345.out) | exact HBW.out)⟩
 rw [if_pos c2] at H
 have c2b0 : decide (2000 < (l0.length : Int)) = true := decide_eq_true c2
 have c2b1 : decide (2000 < l0.length) = true := decide_eq_true (by omega)
 clear c2
 by_cases c3 : 2000 ≤ (l0.length : Int)
 rotate_left
 ·rw [if_neg c3] at H
  exact absurd H (by simp)
 rw [if_pos c3] at H
 have c3b0 := eq_true c3
 have c3b1 : decide (2000 ≤ (l0.length : Int)) = true := decide_eq_true c3
 clear c3
 simp only [Option.some.injEq, Prod.mk.injEq] at H
 obtain ⟨rfl, rfl⟩ := H
 obtain ⟨i04, hi04, _, hsz4, _⟩ := info_parts info5
 obtain ⟨hcut4, hA4, hC4⟩ := print_take_of (P := Try.prog) (Value.int .u8) 0 29 5 .i64 Try.underlying29 hi04 hsz4 A0 c0 l0 2000 (by omega) (of_decide_eq_true (by first | (with_reducible assumption) | assumption)) HC0.out
 have HR343 := mk_ (Kd.C_of_reads (h1 := fun _ => rfl) (hA4 _ (Kd.reads_of_C HR0.out)))
 have HC343 := mk_ hC4
 clear hA4 hC4 hi04 hsz4
 go_enter Try.func49, Try.ntmps49
 go_wp2_with (first | ((with_reducible refine gate_dst (N := 10) rfl ?_); refine box_event ?hg (N := 10) ?hd (cs := #[.slice A0 (l0.take 2000).length c0, .int .i64 0]) (t := 93) ?hr ?_; (case hd => rfl); (case hg => rfl); (case hr => first | (go_simp; done) | (go_simp; rfl)); intro gb344 hg w5 hbox hb; have n0_ := mk_ (below_step HBW.out hb); replace HB := mk_ (below_step (ub_ HB.out) hb); have BK344 := mk_ (hbox); have GW344 := mk_ ((by rw [hg]; exact (below_size (by repeat (first | (with_reducible first | exact HBW.out | apply na_ | apply nn_ | apply nw_) | exact HBW.out))) : w.heap.size ≤ gb344)); have GE344 := ge_ ((Nat.le_trans HW0.out (by rw [hg]; exact (below_size (by repeat (first | (with_reducible first | exact HBW.out | apply na_ | apply nn_ | apply nw_) | exact HBW.out))) : w.heap.size ≤ gb344) : w0.heap.size ≤ gb344)); replace HBW := n0_; clear n0_; clear hb hbox hg))
 go_ret
 exact ⟨_, rfl, (show IsS93 w0 _ gb344 (l0.take 2000) 0 from ⟨_, _, by (with_reducible repeat (first | refine bn_ ?_ _ | refine bw_ ?_ | refine ba_ ?_ _)); exact BK344.out, GE344.out, HR343.out⟩), by repeat (first | (with_reducible first | exact HB.out | apply na_ | apply nn_ | apply nw_ | refine bs_ ?_ GE344.out) | exact HB.out), by repeat (first | (with_reducible first | exact HBW.out | apply na_ | apply nn_ | apply nw_ | refine bs_ ?_ GW344.out) | exact HBW.out)⟩

-- NOT PRINTED: function 16 (spec_DrawPortsOk)

/-! ### impl_bytesOf: function 81 -/
def impl_bytesOf.l0 : Nat → Int → List Int → Int → Option (List Int)
 | 0, _, _, _ => none
 | k + 1, x0, x5, x6 => if x6 ≥ 0 then (if 0 ≤ x6 then (if x6 < (x5.length : Int) then (impl_bytesOf.l0 k (x0 / 256) (x5.set (x6 : Int).toNat ((x0) % 256)) (wrap64 (x6 - 1))) else (none)) else (none)) else (some x5)
def impl_bytesOf.f (k : Nat) (a0 : Int) (a1 : Int) : Option (List Int) := if 0 ≤ a1 then (if (a1 : Int).toNat ≤ 281474976710656 then (impl_bytesOf.l0 k a0 (List.replicate (a1 : Int).toNat 0) (wrap64 (a1 - 1))) else (none)) else (none)
theorem impl_bytesOf.mono_l : ∀ k, (∀ y0 y1 y2, LeO (impl_bytesOf.l0 k y0 y1 y2) (impl_bytesOf.l0 (k + 1) y0 y1 y2))
 | 0 => fun _ _ _ r h => by simp [impl_bytesOf.l0] at h
 | k + 1 => by
  have ih0 := impl_bytesOf.mono_l k
  ·intro y0 y1 y2
   unfold impl_bytesOf.l0
   repeat' first
   | (with_reducible exact ih0 _ _ _)
   | (with_reducible exact LeO.refl _)
   | (with_reducible exact LeO.none _)
   | (with_reducible refine LeO.ite ?_ ?_)
   | (with_reducible refine LeO.bind ?_ (fun _ => ?_))
   | exact ih0 _ _ _
   | exact LeO.none _
   | refine LeO.ite ?_ ?_
   | refine LeO.bind ?_ (fun _ => ?_)
theorem impl_bytesOf.mono : ∀ a0 a1 k, LeO (impl_bytesOf.f k a0 a1) (impl_bytesOf.f (k + 1) a0 a1) := by
 intro a0 a1 k
 have ih0 := impl_bytesOf.mono_l k
 unfold impl_bytesOf.f
 repeat' first
   | (with_reducible exact ih0 _ _ _)
   | (with_reducible exact LeO.refl _)
   | (with_reducible exact LeO.none _)
   | (with_reducible refine LeO.ite ?_ ?_)
   | (with_reducible refine LeO.bind ?_ (fun _ => ?_))
   | exact ih0 _ _ _
   | exact LeO.none _
   | refine LeO.ite ?_ ?_
   | refine LeO.bind ?_ (fun _ => ?_)
set_option maxHeartbeats 8000000 in
set_option maxRecDepth 100000 in
theorem impl_bytesOf.calls (k : Nat) (a0 : Int) (a1 : Int) (r : List Int) (w : World) (h : impl_bytesOf.f k a0 a1 = some r) :
  Calls Try.prog 81 #[.int .i64 a0, .int .i64 a1] w fun e w' => ∃ v0_ : Value, e = .returned (v0_) ∧ Kd.R (Kd.int .u8) 5 w' w.heap.size (fun _ => True) v0_ r ∧ Below w.heap.size w w' := by
 have HB := mk_ (Below.refl w.heap.size w)
 have H := h
 unfold impl_bytesOf.f at H
 clear h
 by_cases c3 : 0 ≤ a1
 rotate_left
 ·rw [if_neg c3] at H
  exact absurd H (by simp)
 rw [if_pos c3] at H
 have c3b0 := eq_true c3
 have c3b1 : decide (0 ≤ a1) = true := decide_eq_true c3
 clear c3
 by_cases c4 : (a1 : Int).toNat ≤ 281474976710656
 rotate_left
 ·rw [if_neg c4] at H
  exact absurd H (by simp)
 rw [if_pos c4] at H
 have c4b0 := eq_true c4
 have c4b1 : decide ((a1 : Int).toNat ≤ 281474976710656) = true := decide_eq_true c4
 clear c4
 obtain ⟨y349, hy349⟩ : ∃ y_ : List Int, y_ = (List.replicate (a1 : Int).toNat 0) := ⟨_, rfl⟩
 replace H : (impl_bytesOf.l0 k a0 y349 (wrap64 (a1 - 1))) = some r := by first | (rw [hy349]; with_reducible exact H) | (have H2_ := (Option.bind_some _ _).symm.trans H; rw [hy349]; with_reducible exact H2_) | (have H2_ := (Option.bind_some _ _).symm.trans H; with_reducible exact H2_) | with_reducible exact H | (rw [hy349]; exact H) | exact H
 have Ny349 := mk_ hy349
 clear hy349
 have H' := mk_ H
 clear H
 go_enter Try.func81, Try.ntmps81
 go_wp2_with (first | ((with_reducible refine gate_dst (N := 8) rfl ?_); refine Kd.R_make (Kd.int .u8) _ 5 rfl (N := 8) rfl 29 _ _ rfl a1 rfl rfl Try.underlying29 (.int .u8 0) 1 info5 rfl (by decide) (by omega) 0 (ok := fun _ => True) (okp := fun _ => True) rfl (fun _ hk => hk) trivial (of_decide_eq_true (by first | (with_reducible assumption) | assumption)) (Nat.le_trans (Nat.mul_le_mul_right _ (of_decide_eq_true (by first | (with_reducible assumption) | assumption) : a1.toNat ≤ 281474976710656)) (by omega)) (Below.refl _ _) (Nat.le_refl _) ?_; intro v350 w5 ho6 hb hg_ hnew_; clear hg_ hnew_; (first | rw [← Ny349.out] at ho6 | (simp only [Int.reduceToNat] at ho6; rw [← Ny349.out] at ho6)); have HO351 := mk_ (Kd.R_lower ho6 (below_size (ub_ HB.out))); replace HB := mk_ (below_step (ub_ HB.out) hb); clear hb ho6))
 go_loopg [0, 6] k (fun kq v0 v6 w' => ∃ (x0_1 : Int) (x5_1 : List Int) (x6_1 : Int), v0 = .int .i64 x0_1 ∧ v6 = .int .i64 x6_1 ∧ Aside0 (impl_bytesOf.l0 kq x0_1 x5_1 x6_1 = some r) ∧ Aside0 (kq ≤ k) ∧ Aside0 (Kd.R (Kd.int .u8) 5 w' w.heap.size (fun _ => True) v350 x5_1) ∧ Aside0 (Below w.heap.size w w'))
 case atStart => exact ⟨(a0), (y349), (wrap64 (a1 - 1)), (by first | rfl | (simp; done) | (simp [*]; done)), (by first | rfl | (simp; done) | (simp [*]; done)), H', ⟨Nat.le_refl _⟩, ⟨Kd.ur_ HO351.out⟩, ⟨ub_ HB.out⟩⟩
 case round =>
  clear H'
  try clear p2
  try clear c3
  try clear c3b0
  try clear c3b1
  try clear c4
  try clear c4b0
  try clear c4b1
  try clear p6
  obtain ⟨x0_1, x5_1, x6_1, rfl, rfl, HA, HK1, HO_5, HB⟩ := hrel
  cases gk with
  | zero => exact absurd HA.out (by simp [impl_bytesOf.l0])
  | succ k1 =>
   have H := HA.out
   clear HA
   simp only [impl_bytesOf.l0] at H
   by_cases c7 : x6_1 ≥ 0
   rotate_left
   ·rw [if_neg c7] at H
    have c7b0 : decide (0 ≤ x6_1) = false := decide_eq_false c7
    clear c7
    obtain rfl := Option.some.inj H
    go_wp2
    go_ret
    exact ⟨_, by first | rfl | (simp [errW_none, errW_some] <;> rfl) | (simp [*, errW_none, errW_some] <;> rfl), by (with_reducible repeat (first | apply Kd.R_alloc | apply Kd.R_drewN | apply Kd.R_drew)); exact HO_5.out, by repeat (first | (with_reducible first | exact HB.out | apply na_ | apply nn_ | apply nw_) | exact HB.out)⟩
   rw [if_pos c7] at H
   have c7b0 : decide (0 ≤ x6_1) = true := decide_eq_true c7
   clear c7
   by_cases c8 : 0 ≤ x6_1
   rotate_left
   ·rw [if_neg c8] at H
    exact absurd H (by simp)
   rw [if_pos c8] at H
   have c8b0 : decide (0 ≤ x6_1) = true := decide_eq_true c8
   clear c8
   by_cases c9 : x6_1 < (x5_1.length : Int)
   rotate_left
   ·rw [if_neg c9] at H
    exact absurd H (by simp)
   rw [if_pos c9] at H
   have c9b0 : decide (x6_1 < (x5_1.length : Int)) = true := decide_eq_true c9
   clear c9
   obtain ⟨y352, hy352⟩ : ∃ y_ : List Int, y_ = (x5_1.set (x6_1 : Int).toNat ((x0_1) % 256)) := ⟨_, rfl⟩
   replace H : (impl_bytesOf.l0 k1 (x0_1 / 256) y352 (wrap64 (x6_1 - 1))) = some r := by first | (rw [hy352]; with_reducible exact H) | (have H2_ := (Option.bind_some _ _).symm.trans H; rw [hy352]; with_reducible exact H2_) | (have H2_ := (Option.bind_some _ _).symm.trans H; with_reducible exact H2_) | with_reducible exact H | (rw [hy352]; exact H) | exact H
   have Ny352 := mk_ hy352
   clear hy352
   have H' := mk_ H
   clear H
   have p10 : 0 ≤ (x6_1 : Int) := of_decide_eq_true (by first | (with_reducible assumption) | assumption)
   have q10 : (x6_1 : Int) < ((x5_1.length : Int) : Int) := of_decide_eq_true (by first | (with_reducible assumption) | assumption)
   obtain ⟨go10, co10, eo10, gb10, gl10, cl10, HG10⟩ := Kd.R_form HO_5.out (by omega)
   (first | cases eo10 | (injection eo10 with ea_ en_ ec_; (first | subst ea_ | (injection ea_ with ea_; subst ea_)); subst ec_; clear en_))
   have GB10 := mk_ gb10
   have GG10 := mk_ HG10
   clear gb10 gl10 HG10
   obtain ⟨hx10_0, hf10_0⟩ := Kd.R_celln 0 HO_5.out (x6_1 : Int) p10 q10
   replace p10 := eq_true p10
   replace q10 := eq_true q10
   have HP11 := Kd.R_putg HO_5.out (x6_1 : Int) ((x0_1) % 256)
   go_wp2_with (first | ((with_reducible refine gate_store (t := 5) (p := 19) rfl ?_); refine store_event (t := 5) (p := 19) (v := ?_) (w1 := (wr.setCell ⟨go10, (x6_1 : Int).toNat, none⟩ (.int .u8 ((x0_1) % 256)))) ?hg ?ho ?hn ?hr ?_; (case ho => rfl); (case hg => rfl); (case hn => rfl); (case hr => first | (go_simp; done) | (go_simp; rfl)); intro w12 hw; have hg : wr.grownBy w12 (some go10) := (by rw [hw]; exact HP11.2); have hp_ : Kd.R (Kd.int .u8) 5 w12 w.heap.size (fun _ => True) (.slice (some ⟨go10, 0, none⟩) x5_1.length co10) y352 := (by rw [hw, Ny352.out]; exact HP11.1); clear HP11; replace HO_5 := mk_ (hp_); replace HB := mk_ ((by rw [hw]; exact below_set (HB.out) GB10.out : Below w.heap.size w w12)); clear hg hw hp_))
   go_roundg k1
   case measure => have := HK1.out; omega
   case rel => exact ⟨(x0_1 / 256), (y352), (wrap64 (x6_1 - 1)), (by first | rfl | (simp; done) | (simp [*]; done)), (by first | rfl | (simp; done) | (simp [*]; done)), H', ⟨by have := HK1.out; omega⟩, ⟨Kd.ur_ HO_5.out⟩, ⟨ub_ HB.out⟩⟩

/-! ### impl_BytesOf: function 50 -/
def impl_BytesOf.f (k : Nat) (a0 : Int) (a1 : Int) : Option (List Int) := (impl_in.f a1 1 4).bind fun t353 => (if t353 = true then (if 0 ≤ (wrap64 (8 * a1)) then ((impl_in.f a0 0 (wrap64 ((shl .i64 1 (wrap64 (8 * a1))) - 1))).bind fun t354 => (if t354 = true then ((impl_bytesOf.f k a0 a1).bind fun t355 => (some t355)) else (some ([] : List Int)))) else (none)) else (some ([] : List Int)))
theorem impl_BytesOf.mono : ∀ a0 a1 k, LeO (impl_BytesOf.f k a0 a1) (impl_BytesOf.f (k + 1) a0 a1) := by
 intro a0 a1 k
 unfold impl_BytesOf.f
 repeat' first
   | (with_reducible exact impl_bytesOf.mono _ _ _)
   | (with_reducible exact LeO.refl _)
   | (with_reducible exact LeO.none _)
   | (with_reducible refine LeO.ite ?_ ?_)
   | (with_reducible refine LeO.bind ?_ (fun _ => ?_))
   | exact impl_bytesOf.mono _ _ _
   | exact LeO.none _
   | refine LeO.ite ?_ ?_
   | refine LeO.bind ?_ (fun _ => ?_)
set_option maxHeartbeats 8000000 in
set_option maxRecDepth 100000 in
theorem impl_BytesOf.calls (k : Nat) (a0 : Int) (a1 : Int) (r : List Int) (w : World) (h : impl_BytesOf.f k a0 a1 = some r) :
  Calls Try.prog 50 #[.int .i64 a0, .int .i64 a1] w fun e w' => ∃ v0_ : Value, e = .returned (v0_) ∧ Kd.R (Kd.int .u8) 5 w' w.heap.size (fun _ => True) v0_ r ∧ Below w.heap.size w w' := by
 have HB := mk_ (Below.refl w.heap.size w)
 have H := h
 unfold impl_BytesOf.f at H
 clear h
 replace H := Option.bind_eq_some_iff.mp H
 obtain ⟨t353, A30, H⟩ := H
 (try dsimp only at H)
 have A3 := mk_ A30
 clear A30
 by_cases c4 : t353 = true
 rotate_left
 focus
  replace c4 := Bool.eq_false_iff.mpr c4
  subst c4
  have H1 : (some ([] : List Int)) = some r := by rw [if_neg (show ¬ (false = true) by decide)] at H; exact H
  clear H
  have H := H1
  clear H1
  obtain rfl := Option.some.inj H
 rotate_left
 focus
  subst c4
  rw [if_pos rfl] at H
  obtain ⟨ji5, hji5⟩ : ∃ j_ : Int, (wrap64 (8 * a1)) = j_ := ⟨_, rfl⟩
  replace H : (if 0 ≤ (ji5) then ((impl_in.f a0 0 (wrap64 ((shl .i64 1 (ji5)) - 1))).bind fun t354 => (if t354 = true then ((impl_bytesOf.f k a0 a1).bind fun t355 => (some t355)) else (some ([] : List Int)))) else (none)) = some r := by first | (rw [hji5] at H; exact H) | (simp only [hji5] at H ⊢; exact H)
  (try rw [hji5] at A3)
  have hji5w : (IntKind.i64.wrap (8 * a1)) = ji5 := (i64_w _).trans hji5
  by_cases c6 : 0 ≤ (ji5)
  rotate_left
  ·rw [if_neg c6] at H
   exact absurd H (by simp)
  rw [if_pos c6] at H
  have c6b0 := eq_true c6
  have c6b1 : decide (0 ≤ (ji5)) = true := decide_eq_true c6
  clear c6
  obtain ⟨ji7, hji7⟩ : ∃ j_ : Int, (shl .i64 1 (ji5)) = j_ := ⟨_, rfl⟩
  replace H : ((impl_in.f a0 0 (wrap64 ((ji7) - 1))).bind fun t354 => (if t354 = true then ((impl_bytesOf.f k a0 a1).bind fun t355 => (some t355)) else (some ([] : List Int)))) = some r := by first | (rw [hji7] at H; exact H) | (simp only [hji7] at H ⊢; exact H)
  (try rw [hji7] at A3)
  have hji7_ : (IntKind.i64.wrap (1 * 2 ^ min (ji5).toNat 64)) = ji7 := hji7
  have hji7z : (ji5) ≤ 64 → (IntKind.i64.wrap (1 * 2 ^ (ji5).toNat)) = ji7 := shl_small hji7
  have hji7u : (IntKind.i64.wrap (2 ^ min (ji5).toNat 64)) = ji7 := by have h_ := hji7_; rw [Int.one_mul] at h_; exact h_
  have hji7v : (ji5) ≤ 64 → (IntKind.i64.wrap (2 ^ (ji5).toNat)) = ji7 := fun hle_ => by have h_ := hji7z hle_; rw [Int.one_mul] at h_; exact h_
  have hji7y : (wrap64 (1 * 2 ^ min (ji5).toNat 64)) = ji7 := (i64_w _).symm.trans hji7_
  have hji7x : (ji5) ≤ 64 → (wrap64 (1 * 2 ^ (ji5).toNat)) = ji7 := fun h_ => (i64_w _).symm.trans (hji7z h_)
  replace H := Option.bind_eq_some_iff.mp H
  obtain ⟨t354, A80, H⟩ := H
  (try dsimp only at H)
  have A8 := mk_ A80
  clear A80
  by_cases c9 : t354 = true
  rotate_left
  focus
   replace c9 := Bool.eq_false_iff.mpr c9
   subst c9
   have H1 : (some ([] : List Int)) = some r := by rw [if_neg (show ¬ (false = true) by decide)] at H; exact H
   clear H
   have H := H1
   clear H1
   obtain rfl := Option.some.inj H
  rotate_left
  focus
   subst c9
   rw [if_pos rfl] at H
   replace H := Option.bind_eq_some_iff.mp H
   obtain ⟨t355, A100, H⟩ := H
   replace H : (some t355) = some r := H
   have A10 := mk_ A100
   clear A100
   obtain rfl := Option.some.inj H
  rotate_left
 rotate_left 2
 all_goals
  go_enter Try.func50, Try.ntmps50
  go_wp2_with (first | ((with_reducible refine gate_callee (f := 76) rfl ?_); refine goesL_ (some 6) rfl rfl Try.func76 (by kernel_rfl) rfl #[.int .i64 a1, .int .i64 1, .int .i64 4] rfl (by (try simp only [lm_, lo_, ln_]); try rfl) ?_; (with_reducible refine (impl_in.calls a1 1 4 false _ A3.out).mono ?_); rintro e w' ⟨rfl, ⟨nd, rfl⟩⟩; refine ⟨_, rfl, ?_⟩) | ((with_reducible refine gate_callee (f := 76) rfl ?_); have hA_ := A3.out; refine goesL_ (some 6) rfl rfl Try.func76 (by kernel_rfl) rfl #[.int .i64 a1, .int .i64 1, .int .i64 4] rfl (by (try simp only [lm_, lo_, ln_]); try rfl) ?_; (with_reducible refine (impl_in.calls a1 1 4 true _ A3.out).mono ?_); rintro e w' ⟨rfl, ⟨nd, rfl⟩⟩; refine ⟨_, rfl, ?_⟩; clear hA_ A3) | (go_at_call 76; have hA_ := A8.out; (with_reducible refine (impl_in.calls a0 0 (wrap64 ((ji7) - 1)) false _ A8.out).mono ?_); rintro e w' ⟨rfl, ⟨nd, rfl⟩⟩; clear hA_ A8) | (go_at_call 76; have hA_ := A8.out; (with_reducible refine (impl_in.calls a0 0 (wrap64 ((ji7) - 1)) true _ A8.out).mono ?_); rintro e w' ⟨rfl, ⟨nd, rfl⟩⟩; clear hA_ A8) | ((with_reducible refine gate_callee (f := 81) rfl ?_); refine goesL_ (some 19) rfl rfl Try.func81 (by kernel_rfl) rfl #[.int .i64 a0, .int .i64 a1] rfl (by (try simp only [lm_, lo_, ln_]); try rfl) ?_; (with_reducible refine (impl_bytesOf.calls k a0 a1 t355 _ A10.out).mono ?_); rintro e w30120 ⟨v30121, rfl, ho30122, hb⟩; refine ⟨_, rfl, ?_⟩; have HO357 := mk_ (Kd.R_lower ho30122 (below_size (ub_ HB.out))); replace HB := mk_ (below_step (ub_ HB.out) hb)))
  go_ret
 ·exact ⟨_, by first | rfl | (simp [errW_none, errW_some] <;> rfl) | (simp [*, errW_none, errW_some] <;> rfl), by first | exact Kd.R_nil _ _ _ _ _ | exact Kd.N_nil _ _ _ _ _ | exact Kd.V_nil _ _ _ _ _ | exact Kd.Q_nil _ _ _ _ _ | exact Kd.S_nil _ _ _ _ _, by repeat (first | (with_reducible first | exact HB.out | apply na_ | apply nn_ | apply nw_) | exact HB.out)⟩
 ·exact ⟨_, by first | rfl | (simp [errW_none, errW_some] <;> rfl) | (simp only [← hji5, ← hji7]; first | rfl | (simp [errW_none, errW_some] <;> rfl)) | (simp [*, errW_none, errW_some] <;> rfl), by first | exact Kd.R_nil _ _ _ _ _ | exact Kd.N_nil _ _ _ _ _ | exact Kd.V_nil _ _ _ _ _ | exact Kd.Q_nil _ _ _ _ _ | exact Kd.S_nil _ _ _ _ _, by repeat (first | (with_reducible first | exact HB.out | apply na_ | apply nn_ | apply nw_) | exact HB.out)⟩
 ·exact ⟨_, by first | rfl | (simp [errW_none, errW_some] <;> rfl) | (simp only [← hji5, ← hji7]; first | rfl | (simp [errW_none, errW_some] <;> rfl)) | (simp [*, errW_none, errW_some] <;> rfl), by (with_reducible repeat (first | apply Kd.R_alloc | apply Kd.R_drewN | apply Kd.R_drew)); exact HO357.out, by repeat (first | (with_reducible first | exact HB.out | apply na_ | apply nn_ | apply nw_) | exact HB.out)⟩

/-! ### laws_alive: function 17 -/
def laws_alive.f (k : Nat)  : Option (Bool) := (impl_BytesOf.f k 5 1).bind fun t358 => (if (t358.length : Int) = 1 then ((impl_BytesOf.f k 256 1).bind fun t361 => (some ((t361.length : Int) == 0))) else (some false))
theorem laws_alive.mono : ∀ k, LeO (laws_alive.f k ) (laws_alive.f (k + 1) ) := by
 intro  k
 unfold laws_alive.f
 repeat' first
   | (with_reducible exact impl_BytesOf.mono _ _ _)
   | (with_reducible exact LeO.refl _)
   | (with_reducible exact LeO.none _)
   | (with_reducible refine LeO.ite ?_ ?_)
   | (with_reducible refine LeO.bind ?_ (fun _ => ?_))
   | exact impl_BytesOf.mono _ _ _
   | exact LeO.none _
   | refine LeO.ite ?_ ?_
   | refine LeO.bind ?_ (fun _ => ?_)
set_option maxHeartbeats 8000000 in
set_option maxRecDepth 100000 in
theorem laws_alive.calls (k : Nat)  (r : Bool) (w : World) (h : laws_alive.f k  = some r) :
  Calls Try.prog 17 #[] w fun e w' => e = .returned (.bool r) ∧ Below w.heap.size w w' := by
 have HB := mk_ (Below.refl w.heap.size w)
 have H := h
 unfold laws_alive.f at H
 clear h
 replace H := Option.bind_eq_some_iff.mp H
 obtain ⟨t358, A10, H⟩ := H
 (try dsimp only at H)
 have A1 := mk_ A10
 clear A10
 by_cases c2 : (t358.length : Int) = 1
 rotate_left
 focus
  rw [if_neg c2] at H
  have c2b0 : ((t358.length : Int) == 1) = false := beq_eq_false_iff_ne.mpr c2
  have c2b1 : ((t358.length : Int) != 1) = true := bne_iff_ne.mpr c2
  obtain rfl := Option.some.inj H
 rotate_left
 focus
  rw [if_pos c2] at H
  have c2b0 : ((t358.length : Int) == 1) = true := beq_iff_eq.mpr c2
  have c2b1 : ((t358.length : Int) != 1) = false := bne_eq_false_iff_eq.mpr c2
  clear c2
  replace H := Option.bind_eq_some_iff.mp H
  obtain ⟨t361, A30, H⟩ := H
  replace H : (some ((t361.length : Int) == 0)) = some r := H
  have A3 := mk_ A30
  clear A30
  obtain rfl := Option.some.inj H
 rotate_left
 all_goals
  go_enter Try.func17, Try.ntmps17
  go_wp2_with (first | ((with_reducible refine gate_callee (f := 50) rfl ?_); have hA_ := A1.out; refine goesL_ (some 1) rfl rfl Try.func50 (by kernel_rfl) rfl #[.int .i64 5, .int .i64 1] rfl (by (try simp only [lm_, lo_, ln_]); try rfl) ?_; (with_reducible refine (impl_BytesOf.calls k 5 1 t358 _ A1.out).mono ?_); rintro e w30160 ⟨v30161, rfl, ho30162, hb⟩; refine ⟨_, rfl, ?_⟩; have HO360 := mk_ (Kd.R_lower ho30162 (below_size (ub_ HB.out))); replace HB := mk_ (below_step (ub_ HB.out) hb); obtain ⟨Ao7290360, co7290360, eo7290360⟩ := Kd.R_slice HO360.out; subst eo7290360; clear hA_ A1) | (go_at_call 50; have hA_ := A3.out; (with_reducible refine (impl_BytesOf.calls k 256 1 t361 _ A3.out).mono ?_); rintro e w30200 ⟨v30201, rfl, ho30162, hb⟩; have n0_ := mk_ (Kd.R_elder' (Kd.ur_ HO360.out) (Kd.R_base ho30162) hb); have HO363 := mk_ (Kd.R_lower (Kd.R_new' ho30162 (Kd.R_lt (Kd.ur_ HO360.out))) (below_size (ub_ HB.out))); replace HB := mk_ (below_step (ub_ HB.out) hb); replace HO360 := n0_; clear n0_; obtain ⟨Ao7300363, co7300363, eo7300363⟩ := Kd.R_slice HO363.out; subst eo7300363; clear hA_ A3))
  go_ret
  exact ⟨by first | rfl | (simp [errW_none, errW_some] <;> rfl) | (simp [*, errW_none, errW_some] <;> rfl), by repeat (first | (with_reducible first | exact HB.out | apply na_ | apply nn_ | apply nw_) | exact HB.out)⟩

-- NOT PRINTED: function 4 (laws_FnPortsOk)

end Go.Proofs.Ytkkibccnpkbbjaa.MFnPortsOk
