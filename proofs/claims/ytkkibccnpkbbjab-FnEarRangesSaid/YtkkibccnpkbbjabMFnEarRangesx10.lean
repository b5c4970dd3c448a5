/- Functions that the law FnEarRanges reaches, each with the proof that the machine's call comes to just its answer; no conditions but those that each theorem states. Printed by a program of this session over the kit's print. -/
import Derived.Test.YtkkibccnpkbbjabMFnEarRangesx0
import Derived.Test.YtkkibccnpkbbjabMFnEarRangesx1
import Derived.Test.YtkkibccnpkbbjabMFnEarRangesx3
import Derived.Test.YtkkibccnpkbbjabMFnEarRangesx4
import Derived.Test.YtkkibccnpkbbjabMFnEarRangesx9
namespace Go.Proofs.Ytkkibccnpkbbjab.MFnEarRanges
open Go.RowKit Go.Proofs.YtkkibccnpkbbjabV.PrintWords Go.Proofs.YtkkibccnpkbbjabV.PrintLast Go.Proofs.YtkkibccnpkbbjabV.PrintMore
attribute [local go_sem] max2_int min2_int max_two min_two max_three min_three max_four min_four   -- for this text's walks alone
set_option linter.unusedVariables false
set_option linter.unusedSimpArgs false

attribute [local go_sem high] eqA66
/-! ### spec_DrawEarRanges: function 34 -/
def spec_DrawEarRanges.f (k : Nat) (l0 : List Int) : Option (Int × Int × List Int × (List (S68))) := (spec_l20Open.f l0).bind fun bt295 => ((spec_l20Ear.f k bt295.1 bt295.2 9).bind fun bt298 => (some (bt298.1, bt298.2.1, bt298.2.2.1, bt298.2.2.2.1)))
theorem spec_DrawEarRanges.mono : ∀ a0 k, LeO (spec_DrawEarRanges.f k a0) (spec_DrawEarRanges.f (k + 1) a0) := by
 intro a0 k
 unfold spec_DrawEarRanges.f
 repeat' first
   | (with_reducible exact spec_l20Ear.mono _ _ _ _)
   | (with_reducible exact LeO.refl _)
   | (with_reducible exact LeO.none _)
   | (with_reducible refine LeO.ite ?_ ?_)
   | (with_reducible refine LeO.bind ?_ (fun _ => ?_))
   | exact spec_l20Ear.mono _ _ _ _
   | exact LeO.none _
   | refine LeO.ite ?_ ?_
   | refine LeO.bind ?_ (fun _ => ?_)
set_option maxHeartbeats 8000000 in
set_option maxRecDepth 100000 in
theorem spec_DrawEarRanges.calls (k : Nat) (A0 : Option Addr) (c0 : Nat) (l0 : List Int) (r1 : Int) (r2 : Int) (r3 : List Int) (r4 : List (S68)) (w : World) (hr0 : Kd.C (Kd.int .u8) w A0 l0.length l0) (hc0 : l0.length ≤ c0) (h : spec_DrawEarRanges.f k l0 = some (r1, r2, r3, r4)) :
  Calls Try.prog 34 #[.slice A0 l0.length c0] w fun e w' => ∃ v2_ v3_ : Value, e = .returned (.agg #[.int .i64 r1, .int .i64 r2, v2_, v3_]) ∧ Kd.R (Kd.int .u8) 5 w' w.heap.size (fun _ => True) v2_ r3 ∧ Kd.Q k68 68 w' w.heap.size (fun _ => True) v3_ r4 ∧ Below w.heap.size w w' := by
 have hu59 := Try.underlying59
 have HR0 := mk_ hr0
 have HC0 := mk_ hc0
 clear hr0 hc0
 have HB := mk_ (Below.refl w.heap.size w)
 have H := h
 unfold spec_DrawEarRanges.f at H
 clear h
 replace H := Option.bind_eq_some_iff.mp H
 obtain ⟨⟨t295, t296⟩, A20, H⟩ := H
 (try dsimp only at H)
 have A2 := mk_ A20
 clear A20
 replace H := Option.bind_eq_some_iff.mp H
 obtain ⟨⟨t298, t299, t300, t303, t306⟩, A30, H⟩ := H
 replace H : (some (t298, t299, t300, t303)) = some (r1, r2, r3, r4) := H
 have A3 := mk_ A30
 clear A30
 simp only [Option.some.injEq, Prod.mk.injEq] at H
 obtain ⟨rfl, rfl, rfl, rfl⟩ := H
 go_enter Try.func34, Try.ntmps34
 go_wp2_with (first | ((with_reducible refine gate_dst (N := 2) rfl ?_); refine box_event ?hg (N := 2) ?hd (cs := #[.int .i64 0, .int .i64 0, .slice none 0 0, .slice none 0 0]) (t := 59) ?hr ?_; (case hd => rfl); (case hg => rfl); (case hr => first | (go_simp; done) | (go_simp; rfl)); intro gb294 hg w4 hbox hb; have n0_ := mk_ (below_step (ub_ HB.out) hb); have BK294 := mk_ (hbox); have GW294 := mk_ ((by rw [hg]; exact (below_size (ub_ HB.out)) : w.heap.size ≤ gb294)); have GE294 := ge_ ((by rw [hg]; exact (below_size (ub_ HB.out)) : w.heap.size ≤ gb294)); replace HB := n0_; clear n0_; clear hb hbox hg) | ((with_reducible refine gate_callee (f := 44) rfl ?_); refine goesL_ (some 4) rfl rfl Try.func44 (by kernel_rfl) rfl #[.slice A0 l0.length c0] rfl (by (try simp only [lm_, lo_, ln_]); try rfl) ?_; (with_reducible refine (spec_l20Open.calls _ _ l0 t295 t296 w _ ?side1 ?side2 ?side3 A2.out).mono ?_); (case side1 => repeat (first | (with_reducible first | exact HB.out | apply na_ | apply nn_ | apply nw_ | refine bs_ ?_ GE294.out) | exact HB.out)); (case side2 => exact HR0.out); (case side3 => exact HC0.out); rintro e w5 ⟨g297, rfl, hi, hb, hb2⟩; refine ⟨_, rfl, ?_⟩; have n0_ := mk_ (blk_below (u_ BK294.out) hb2); replace HB := mk_ (hb); have HI297 := mk_ (hi); have NB297_294 := nq_ (IsS107.ne_blk hi (blk_below (u_ BK294.out) hb2) (by decide)); have NB294_297 := nq_ (Ne.symm (IsS107.ne_blk hi (blk_below (u_ BK294.out) hb2) (by decide))); replace BK294 := n0_; clear n0_) | ((with_reducible refine gate_callee (f := 75) rfl ?_); refine goesL_ (some 5) rfl rfl Try.func75 (by kernel_rfl) rfl #[.pointer (some ⟨g297, 0, none⟩), .int .i64 9] rfl (by (try simp only [lm_, lo_, ln_]); try rfl) ?_; (with_reducible refine (spec_l20Ear.calls k g297 t295 t296 9 t298 t299 t300 t303 t306 w _ ?side1 ?side2 A3.out).mono ?_); (case side1 => repeat (first | (with_reducible first | exact HI297.out | apply IsS107.alloc | apply IsS107.drewN | apply IsS107.drew | apply IsS107.set_1 | refine IsS107.far ?_ NB297_294.out _) | exact HI297.out)); (case side2 => repeat (first | (with_reducible first | exact HB.out | apply na_ | apply nn_ | apply nw_ | refine bs_ ?_ (IsS107.ge HI297.out) | refine bs_ ?_ GE294.out) | exact HB.out)); rintro e w6 ⟨v301, v304, rfl, ho0, ho1, hi, hb, hk⟩; refine ⟨_, rfl, ?_⟩; replace BK294 := mk_ (KeepBut.blk hk (g' := gb294) (o := .cells #[.int .i64 0, .int .i64 0, .slice none 0 0, .slice none 0 0] 59 (0, 0)) (u_ BK294.out) NB294_297.out (by simp)); have HO302 := mk_ (Kd.R_lower ho0 (below_size (by repeat (first | (with_reducible first | exact HB.out | apply na_ | apply nn_ | apply nw_ | refine bs_ ?_ (IsS107.ge HI297.out) | refine bs_ ?_ GE294.out) | exact HB.out)))); have HO305 := mk_ (Kd.Q_lower ho1 (below_size (by repeat (first | (with_reducible first | exact HB.out | apply na_ | apply nn_ | apply nw_ | refine bs_ ?_ (IsS107.ge HI297.out) | refine bs_ ?_ GE294.out) | exact HB.out)))); replace HB := mk_ (hb); replace HI297 := mk_ (hi); have hnb7 := NB294_297.out; have hnc7 := NB297_294.out; obtain ⟨hcz8_0, hcz8_1, hcz8_2, hcz8_3, hfz8_0, hfz8_1, hfz8_2, hfz8_3⟩ := cells4_ BK294.out; obtain ⟨Ao9, co9, eo9⟩ := Kd.R_slice HO302.out; subst eo9; obtain ⟨Ao10, co10, eo10, _⟩ := Kd.Q_slice HO305.out; subst eo10))
 refine bodyPost_ret (results_cell_row rfl _ _ gb294 59 #[.int .i64 t298, .int .i64 t299, .slice Ao9 t300.length co9, .slice Ao10 t303.length co10] (0, 0) _ rfl (by (with_reducible repeat (first | refine bn_ ?_ _ | refine bw_ ?_ | refine ba_ ?_ _)); refine blk_put (cs := #[.int .i64 t298, .int .i64 t299, .slice Ao9 t300.length co9, .slice none 0 0]) ?_ 3 _ rfl; (with_reducible repeat (first | refine bn_ ?_ _ | refine bw_ ?_ | refine ba_ ?_ _)); refine blk_put (cs := #[.int .i64 t298, .int .i64 t299, .slice none 0 0, .slice none 0 0]) ?_ 2 _ rfl; (with_reducible repeat (first | refine bn_ ?_ _ | refine bw_ ?_ | refine ba_ ?_ _)); refine blk_put (cs := #[.int .i64 t298, .int .i64 0, .slice none 0 0, .slice none 0 0]) ?_ 1 _ rfl; (with_reducible repeat (first | refine bn_ ?_ _ | refine bw_ ?_ | refine ba_ ?_ _)); refine blk_put (cs := #[.int .i64 0, .int .i64 0, .slice none 0 0, .slice none 0 0]) ?_ 0 _ rfl; (with_reducible repeat (first | refine bn_ ?_ _ | refine bw_ ?_ | refine ba_ ?_ _)); exact BK294.out) Try.underlying59 rfl (by kernel_rfl)) rfl ?_
 exact ⟨_, _, by first | rfl | (simp [errW_none, errW_some] <;> rfl) | (simp [*, errW_none, errW_some] <;> rfl), by (with_reducible repeat (first | apply Kd.R_alloc | apply Kd.R_drewN | apply Kd.R_drew)); exact Kd.R_mono (Kd.R_far (p := ⟨gb294, 3, none⟩) (Kd.R_far (p := ⟨gb294, 2, none⟩) (Kd.R_far (p := ⟨gb294, 1, none⟩) (Kd.R_far (p := ⟨gb294, 0, none⟩) (Kd.R_types HO302.out BK294.out (by decide)) (fun _ hk => hk.2) (.int .i64 t298)) (fun _ hk => hk.2) (.int .i64 t299)) (fun _ hk => hk.2) (.slice Ao9 t300.length co9)) (fun _ hk => hk.2) (.slice Ao10 t303.length co10)) (fun _ hk => trivial), by (with_reducible repeat (first | apply Kd.Q_alloc | apply Kd.Q_drewN | apply Kd.Q_drew)); exact Kd.Q_mono (Kd.Q_far (p := ⟨gb294, 3, none⟩) (Kd.Q_far (p := ⟨gb294, 2, none⟩) (Kd.Q_far (p := ⟨gb294, 1, none⟩) (Kd.Q_far (p := ⟨gb294, 0, none⟩) (Kd.Q_types HO305.out BK294.out (by decide)) (fun _ hk => hk.2) (.int .i64 t298)) (fun _ hk => hk.2) (.int .i64 t299)) (fun _ hk => hk.2) (.slice Ao9 t300.length co9)) (fun _ hk => hk.2) (.slice Ao10 t303.length co10)) (fun _ hk => trivial), by repeat (first | (with_reducible first | exact HB.out | apply na_ | apply nn_ | apply nw_ | refine bs_ ?_ (IsS107.ge HI297.out) | refine bs_ ?_ GE294.out) | exact HB.out)⟩

/-! ### impl_Range_133: function 133 -/
set_option maxHeartbeats 400000 in
set_option maxRecDepth 100000 in
theorem impl_Range_133.calls (A : Option Addr) (n c : Nat) (w : World) (h : n ≤ c) (hn : n ≤ 9223372036854775807) :
    Calls Try.prog 133 #[.slice A n c] w fun e w' => e = .returned (.slice A n n) ∧ Drawn0 w w' := by
  obtain ⟨i0, hi0, _, hsz, _⟩ := info_parts info66
  have hcut : ∀ w : World, (Instr.slice 62 (.slice A n c) none (some (.int .i64 n)) (some (.int .i64 n))).run Try.prog w = .ok (.slice A n n) w := by
    intro w
    go_simp
  go_enter Try.func133, Try.ntmps133
  go_wp2
  go_ret
  exact ⟨rfl, Drawn0.refl _⟩

/-! ### impl_Range_114: function 114 -/
def impl_Range_114.f (l0 : List (S66)) : Option (List (S66)) := if l0.length < 8796093022208 then some l0 else none
set_option maxHeartbeats 400000 in
set_option maxRecDepth 100000 in
theorem impl_Range_114.calls (A0 : Option Addr) (c0 : Nat) (l0 : List (S66)) (r : List (S66)) (w : World) (hr0 : Kd.C k66 w A0 l0.length l0) (hc0 : l0.length ≤ c0) (h : impl_Range_114.f l0 = some r) :
    Calls Try.prog 114 #[.slice A0 l0.length c0] w fun e w' => ∃ v0_ : Value, e = .returned (v0_) ∧ Kd.R k66 66 w' w.heap.size (fun _ => True) v0_ r ∧ Below w.heap.size w w' := by
 have hlim : l0.length < 8796093022208 := by
   unfold impl_Range_114.f at h
   by_cases hl : l0.length < 8796093022208
   · exact hl
   · rw [if_neg hl] at h; cases h
 obtain rfl : l0 = r := by
   unfold impl_Range_114.f at h
   rw [if_pos hlim] at h
   exact Option.some.inj h
 clear h
 have HR := Aside0.mk hr0
 have HL := Aside0.mk hlim
 have HI := Aside0.mk info66
 clear hr0 hc0 hlim
 by_cases hz : l0.length = 0
 ·have hz1 : ((l0.length : Int) == 0) = true := by simpa using hz
  have HZ := Aside0.mk hz
  clear hz
  go_enter Try.func114, Try.ntmps114
  go_wp2_with fail
  go_ret
  refine ⟨_, rfl, ?_, Below.refl _ _⟩
  rw [List.eq_nil_of_length_eq_zero HZ.out]
  exact Kd.R_nil _ _ _ _ _
 ·have hz1 : ((l0.length : Int) == 0) = false := by simpa using hz
  clear hz
  go_enter Try.func114, Try.ntmps114
  go_wp2_with (first | (at_builtin; refine Kd.R_append_rows k66 (w0 := w) w.heap.size rfl (.const (.slice none 0 0)) (.tmp 6) 62 66 (.agg #[(.int .i64 0), (.int .i64 0)]) 16 rfl Try.underlying62 HI.out rfl (by decide) (by omega) (.slice none 0 0) ([] : List (S66)) l0 _ _ _ (fun _ => True) (fun _ => False) rfl rfl ?aO ?aR (fun _ _ h => h) (fun _ h => h.elim) ?aF ?aB ?aS ?aL ?_; (case aO => exact Kd.R_nil _ _ _ _ _); (case aR => exact HR.out); (case aF => exact fun _ _ => trivial); (case aB => exact Below.refl _ _); (case aS => exact Nat.le_refl _); (case aL => have := HL.out; simp; omega); intro v1 w1 ho hb hg hat; rw [List.nil_append] at ho; obtain ⟨A1, c1, hv1, hl1, hc1⟩ := Kd.R_reads ho; subst hv1; have HO := Aside0.mk ho; have HB := Aside0.mk hb; have hn1 := hc1.2.1; clear ho hb hg hat hc1) | (go_at_call 133; (with_reducible refine (impl_Range_133.calls _ _ _ _ hl1 hn1).mono ?_); rintro e w' ⟨rfl, ⟨nd, rfl⟩⟩))
  go_ret
  exact ⟨_, rfl, Kd.R_clip (by exact HO.out) rfl, by (first | exact HB.out | exact pw_below_drewN HB.out _)⟩

/-! ### impl_Ear_ranges: function 77 -/
def impl_Ear_ranges.l0 : Nat → List (S66) → List (S68) → Int → Int → Option ((List (S66)))
 | 0, _, _, _, _ => none
 | k + 1, x3, x8, x9, x10 => if x10 < x9 then (if 0 ≤ x10 then (if x10 < (x8.length : Int) then (if (x3.length : Int) > 0 then (if 0 ≤ (wrap64 ((x3.length : Int) - 1)) then (if (wrap64 ((x3.length : Int) - 1)) < (x3.length : Int) then (if ((rd_T66 x3 (wrap64 ((x3.length : Int) - 1))).f1) = ((rd_T68 x8 x10).f0) then (impl_Ear_ranges.l0 k (x3.set ((wrap64 ((x3.length : Int) - 1)) : Int).toNat (⟨(rd_T66 x3 (wrap64 ((x3.length : Int) - 1))).f0, wrap64 (((rd_T66 x3 (wrap64 ((x3.length : Int) - 1))).f1) + 1)⟩ : S66)) x8 x9 (wrap64 (x10 + 1))) else (if x3.length < 8796093022208 then (impl_Ear_ranges.l0 k (x3 ++ [(⟨(rd_T68 x8 x10).f0, wrap64 (((rd_T68 x8 x10).f0) + 1)⟩ : S66)]) x8 x9 (wrap64 (x10 + 1))) else (none))) else (none)) else (none)) else (if x3.length < 8796093022208 then (impl_Ear_ranges.l0 k (x3 ++ [(⟨(rd_T68 x8 x10).f0, wrap64 (((rd_T68 x8 x10).f0) + 1)⟩ : S66)]) x8 x9 (wrap64 (x10 + 1))) else (none))) else (none)) else (none)) else (if 0 ≤ (mn (x3.length : Int) 2) then (if (mn (x3.length : Int) 2) ≤ (x3.length : Int) then ((impl_Range_114.f (x3.take ((mn (x3.length : Int) 2) : Int).toNat)).bind fun t323 => (some t323)) else (none)) else (none))
def impl_Ear_ranges.f (k : Nat) (a0_0 : Int) (a0_1 : Int) (l0_2 : List Int) (l0_3 : List (S68)) : Option ((List (S66))) := impl_Ear_ranges.l0 k ([] : List (S66)) l0_3 (l0_3.length : Int) 0
theorem impl_Ear_ranges.mono_l : ∀ k, (∀ y0 y1 y2 y3, LeO (impl_Ear_ranges.l0 k y0 y1 y2 y3) (impl_Ear_ranges.l0 (k + 1) y0 y1 y2 y3))
 | 0 => fun _ _ _ _ r h => by simp [impl_Ear_ranges.l0] at h
 | k + 1 => by
  have ih0 := impl_Ear_ranges.mono_l k
  ·intro y0 y1 y2 y3
   unfold impl_Ear_ranges.l0
   repeat' first
   | (with_reducible exact ih0 _ _ _ _)
   | (with_reducible exact LeO.refl _)
   | (with_reducible exact LeO.none _)
   | (with_reducible refine LeO.ite ?_ ?_)
   | (with_reducible refine LeO.bind ?_ (fun _ => ?_))
   | exact ih0 _ _ _ _
   | exact LeO.none _
   | refine LeO.ite ?_ ?_
   | refine LeO.bind ?_ (fun _ => ?_)
theorem impl_Ear_ranges.mono : ∀ a0 a1 a2 a3 k, LeO (impl_Ear_ranges.f k a0 a1 a2 a3) (impl_Ear_ranges.f (k + 1) a0 a1 a2 a3) := by
 intro a0 a1 a2 a3 k
 have ih0 := impl_Ear_ranges.mono_l k
 unfold impl_Ear_ranges.f
 repeat' first
   | (with_reducible exact ih0 _ _ _ _)
   | (with_reducible exact LeO.refl _)
   | (with_reducible exact LeO.none _)
   | (with_reducible refine LeO.ite ?_ ?_)
   | (with_reducible refine LeO.bind ?_ (fun _ => ?_))
   | exact ih0 _ _ _ _
   | exact LeO.none _
   | refine LeO.ite ?_ ?_
   | refine LeO.bind ?_ (fun _ => ?_)
set_option maxHeartbeats 8000000 in
set_option maxRecDepth 100000 in
theorem impl_Ear_ranges.calls (k : Nat) (a0_0 : Int) (a0_1 : Int) (A0_2 : Option Addr) (c0_2 : Nat) (l0_2 : List Int) (A0_3 : Option Addr) (c0_3 : Nat) (l0_3 : List (S68)) (r : List (S66)) (w : World) (hr0_2 : Kd.C (Kd.int .u8) w A0_2 l0_2.length l0_2) (hc0_2 : l0_2.length ≤ c0_2) (hr0_3 : Kd.C k68 w A0_3 l0_3.length l0_3) (hc0_3 : l0_3.length ≤ c0_3) (h : impl_Ear_ranges.f k a0_0 a0_1 l0_2 l0_3 = some r) :
  Calls Try.prog 77 #[.agg #[.int .i64 a0_0, .int .i64 a0_1, .slice A0_2 l0_2.length c0_2, .slice A0_3 l0_3.length c0_3]] w fun e w' => ∃ v0_ : Value, e = .returned (v0_) ∧ Kd.R k66 66 w' w.heap.size (fun _ => True) v0_ r ∧ Below w.heap.size w w' := by
 have hu59 := Try.underlying59
 have hu68 := Try.underlying68
 have hu66 := Try.underlying66
 have HR0_2 := mk_ hr0_2
 have HC0_2 := mk_ hc0_2
 clear hr0_2 hc0_2
 have HR0_3 := mk_ hr0_3
 have HC0_3 := mk_ hc0_3
 clear hr0_3 hc0_3
 have HB := mk_ (Below.refl w.heap.size w)
 have H : (impl_Ear_ranges.l0 k ([] : List (S66)) l0_3 (l0_3.length : Int) 0) = some r := h
 clear h
 have H' := mk_ H
 clear H
 go_enter Try.func77, Try.ntmps77
 go_wp2_with (first | ((with_reducible refine gate_dst (N := 1) rfl ?_); refine box_event ?hg (N := 1) ?hd (cs := #[.int .i64 a0_0, .int .i64 a0_1, .slice A0_2 l0_2.length c0_2, .slice A0_3 l0_3.length c0_3]) (t := 59) ?hr ?_; (case hd => rfl); (case hg => rfl); (case hr => first | (go_simp; done) | (go_simp; rfl)); intro gb307 hg w2 hbox hb; have n0_ := mk_ (below_step (ub_ HB.out) hb); have BK307 := mk_ (hbox); have GW307 := mk_ ((by rw [hg]; exact (below_size (ub_ HB.out)) : w.heap.size ≤ gb307)); have GE307 := ge_ ((by rw [hg]; exact (below_size (ub_ HB.out)) : w.heap.size ≤ gb307)); replace HB := n0_; clear n0_; clear hb hbox hg; obtain ⟨hcz3_0, hcz3_1, hcz3_2, hcz3_3, hfz3_0, hfz3_1, hfz3_2, hfz3_3⟩ := cells4_ BK307.out))
 repeat (go_quiet (first | ((with_reducible refine gate_dst (N := 1) rfl ?_); refine box_event ?hg (N := 1) ?hd (cs := #[.int .i64 a0_0, .int .i64 a0_1, .slice A0_2 l0_2.length c0_2, .slice A0_3 l0_3.length c0_3]) (t := 59) ?hr ?_; (case hd => rfl); (case hg => rfl); (case hr => first | (go_simp; done) | (go_simp; rfl)); intro gb307 hg w2 hbox hb; have n0_ := mk_ (below_step (ub_ HB.out) hb); have BK307 := mk_ (hbox); have GW307 := mk_ ((by rw [hg]; exact (below_size (ub_ HB.out)) : w.heap.size ≤ gb307)); have GE307 := ge_ ((by rw [hg]; exact (below_size (ub_ HB.out)) : w.heap.size ≤ gb307)); replace HB := n0_; clear n0_; clear hb hbox hg; obtain ⟨hcz3_0, hcz3_1, hcz3_2, hcz3_3, hfz3_0, hfz3_1, hfz3_2, hfz3_3⟩ := cells4_ BK307.out)); try go_wp2_with (first | ((with_reducible refine gate_dst (N := 1) rfl ?_); refine box_event ?hg (N := 1) ?hd (cs := #[.int .i64 a0_0, .int .i64 a0_1, .slice A0_2 l0_2.length c0_2, .slice A0_3 l0_3.length c0_3]) (t := 59) ?hr ?_; (case hd => rfl); (case hg => rfl); (case hr => first | (go_simp; done) | (go_simp; rfl)); intro gb307 hg w2 hbox hb; have n0_ := mk_ (below_step (ub_ HB.out) hb); have BK307 := mk_ (hbox); have GW307 := mk_ ((by rw [hg]; exact (below_size (ub_ HB.out)) : w.heap.size ≤ gb307)); have GE307 := ge_ ((by rw [hg]; exact (below_size (ub_ HB.out)) : w.heap.size ≤ gb307)); replace HB := n0_; clear n0_; clear hb hbox hg; obtain ⟨hcz3_0, hcz3_1, hcz3_2, hcz3_3, hfz3_0, hfz3_1, hfz3_2, hfz3_3⟩ := cells4_ BK307.out)))
 go_loopg [3, 10] k (fun kq v3 v10 w' => ∃ (x3_1 : List (S66)) (x10_1 : Int), v10 = .int .i64 x10_1 ∧ Aside0 (impl_Ear_ranges.l0 kq x3_1 l0_3 (l0_3.length : Int) x10_1 = some r) ∧ Aside0 (kq ≤ k) ∧ Aside0 (Kd.R k66 66 w' w.heap.size (fun _ => True) v3 x3_1) ∧ Aside0 (w'.heap[gb307]? = some (.cells #[.int .i64 a0_0, .int .i64 a0_1, (.slice A0_2 l0_2.length c0_2), (.slice A0_3 l0_3.length c0_3)] 59 (0, 0))) ∧ Aside0 (Below w.heap.size w w'))
 case atStart => exact ⟨(([] : List (S66))), (0), (by first | rfl | (simp; done) | (simp [*]; done)), H', ⟨Nat.le_refl _⟩, ⟨by first | exact Kd.R_nil _ _ _ _ _ | exact Kd.N_nil _ _ _ _ _ | exact Kd.V_nil _ _ _ _ _ | exact Kd.Q_nil _ _ _ _ _ | exact Kd.S_nil _ _ _ _ _⟩, ⟨u_ BK307.out⟩, ⟨us_ HB.out⟩⟩
 case round =>
  clear H'
  try clear p2
  try clear hcz3_0
  try clear hcz3_1
  try clear hcz3_2
  try clear hcz3_3
  try clear hfz3_0
  try clear hfz3_1
  try clear hfz3_2
  try clear hfz3_3
  obtain ⟨x3_1, x10_1, rfl, HA, HK1, HO_3, BK307, HB⟩ := hrel
  cases gk with
  | zero => exact absurd HA.out (by simp [impl_Ear_ranges.l0])
  | succ k1 =>
   have H := HA.out
   clear HA
   simp only [impl_Ear_ranges.l0] at H
   by_cases c4 : x10_1 < (l0_3.length : Int)
   rotate_left
   ·rw [if_neg c4] at H
    have c4b0 : decide (x10_1 < (l0_3.length : Int)) = false := decide_eq_false c4
    clear c4
    obtain ⟨ji33, hji33⟩ : ∃ j_ : Int, (mn (x3_1.length : Int) 2) = j_ := ⟨_, rfl⟩
    replace H : (if 0 ≤ (ji33) then (if (ji33) ≤ (x3_1.length : Int) then ((impl_Range_114.f (x3_1.take ((ji33) : Int).toNat)).bind fun t323 => (some t323)) else (none)) else (none)) = some r := by first | (rw [hji33] at H; exact H) | (simp only [hji33] at H ⊢; exact H)
    have hji33_ : (if 2 < (x3_1.length : Int) then 2 else (x3_1.length : Int)) = ji33 := hji33
    by_cases c34 : 0 ≤ (ji33)
    rotate_left
    ·rw [if_neg c34] at H
     exact absurd H (by simp)
    rw [if_pos c34] at H
    have c34b0 := eq_true c34
    have c34b1 : decide (0 ≤ (ji33)) = true := decide_eq_true c34
    clear c34
    by_cases c35 : (ji33) ≤ (x3_1.length : Int)
    rotate_left
    ·rw [if_neg c35] at H
     exact absurd H (by simp)
    rw [if_pos c35] at H
    have c35b0 := eq_true c35
    have c35b1 : decide ((ji33) ≤ (x3_1.length : Int)) = true := decide_eq_true c35
    clear c35
    obtain ⟨y319, hy319⟩ : ∃ y_ : List (S66), y_ = (x3_1.take ((ji33) : Int).toNat) := ⟨_, rfl⟩
    replace H : ((impl_Range_114.f y319).bind fun t323 => (some t323)) = some r := by first | (rw [hy319]; with_reducible exact H) | (have H2_ := (Option.bind_some _ _).symm.trans H; rw [hy319]; with_reducible exact H2_) | (have H2_ := (Option.bind_some _ _).symm.trans H; with_reducible exact H2_) | with_reducible exact H | (rw [hy319]; exact H) | exact H
    have Ny319 := mk_ hy319
    clear hy319
    replace H := Option.bind_eq_some_iff.mp H
    obtain ⟨t323, A360, H⟩ := H
    replace H : (some t323) = some r := H
    have A36 := mk_ A360
    clear A360
    obtain rfl := Option.some.inj H
    obtain ⟨Ao37, co37, eo37⟩ := Kd.R_slice HO_3.out
    subst eo37
    have q38 : ((ji33) : Int) ≤ ((x3_1.length : Int) : Int) := of_decide_eq_true (by first | (with_reducible assumption) | assumption)
    obtain ⟨i038, hi038, _, hsz38, _⟩ := info_parts info66
    have hroom38 : x3_1.length ≤ co37 := (Kd.R_reads' HO_3.out).2.1
    have hC38 : Kd.C k66 _ Ao37 x3_1.length x3_1 := (Kd.R_reads' HO_3.out).2.2
    have hcut38 := cut_to (P := Try.prog) 62 66 .i64 Try.underlying62 hi038 Ao37 x3_1.length co37 (ji33) (of_decide_eq_true (by first | (with_reducible assumption) | assumption)) q38 hroom38
    have hr38 := Kd.C_take (m := ((ji33) : Int).toNat) hC38 (by omega)
    have hy38 : y319.length = ((ji33) : Int).toNat := (by rw [Ny319.out, List.length_take]; omega)
    rw [← Ny319.out] at hr38
    rw [← hy38] at hcut38
    have HR322 := mk_ hr38
    have HC322 := mk_ (show y319.length ≤ co37 from by omega)
    clear hr38 hC38 hroom38 hi038 hsz38
    have KY38 := mk_ hy38
    clear hy38
    have KL38 := mk_ (show ((ji33) : Int).toNat ≤ x3_1.length from by omega)
    replace q38 := eq_true q38
    go_wp2_with (first | (go_at_call 114; (with_reducible refine (impl_Range_114.calls _ _ y319 t323 _ ?side1 ?side2 A36.out).mono ?_); (case side1 => repeat (first | exact (by repeat (first | (with_reducible exact HR322.out) | (with_reducible refine Kd.C_alloc ?_ _) | (with_reducible refine Kd.C_drewN ?_ _) | (with_reducible refine Kd.C_drew ?_) | exact HR322.out)) | (with_reducible refine Kd.C_alloc ?_ _) | (with_reducible refine Kd.C_drewN ?_ _) | (with_reducible refine Kd.C_drew ?_))); (case side2 => exact HC322.out); rintro e w39 ⟨v324, rfl, ho0, hb⟩; have n0_ := mk_ (Kd.R_elder' (Kd.ur_ HO_3.out) (Kd.R_base ho0) hb); have HO325 := mk_ (Kd.R_lower (Kd.R_new' ho0 (Kd.R_lt (Kd.ur_ HO_3.out))) (below_size (us_ HB.out))); replace BK307 := mk_ (blk_below (u_ BK307.out) hb); replace HR322 := mk_ (Kd.C_below (by repeat (first | (with_reducible exact HR322.out) | (with_reducible refine Kd.C_alloc ?_ _) | (with_reducible refine Kd.C_drewN ?_ _) | (with_reducible refine Kd.C_drew ?_) | exact HR322.out)) hb); replace HB := mk_ (below_step (us_ HB.out) hb); replace HO_3 := n0_; clear n0_))
    repeat (go_quiet (first | (go_at_call 114; (with_reducible refine (impl_Range_114.calls _ _ y319 t323 _ ?side1 ?side2 A36.out).mono ?_); (case side1 => repeat (first | exact (by repeat (first | (with_reducible exact HR322.out) | (with_reducible refine Kd.C_alloc ?_ _) | (with_reducible refine Kd.C_drewN ?_ _) | (with_reducible refine Kd.C_drew ?_) | exact HR322.out)) | (with_reducible refine Kd.C_alloc ?_ _) | (with_reducible refine Kd.C_drewN ?_ _) | (with_reducible refine Kd.C_drew ?_))); (case side2 => exact HC322.out); rintro e w39 ⟨v324, rfl, ho0, hb⟩; have n0_ := mk_ (Kd.R_elder' (Kd.ur_ HO_3.out) (Kd.R_base ho0) hb); have HO325 := mk_ (Kd.R_lower (Kd.R_new' ho0 (Kd.R_lt (Kd.ur_ HO_3.out))) (below_size (us_ HB.out))); replace BK307 := mk_ (blk_below (u_ BK307.out) hb); replace HR322 := mk_ (Kd.C_below (by repeat (first | (with_reducible exact HR322.out) | (with_reducible refine Kd.C_alloc ?_ _) | (with_reducible refine Kd.C_drewN ?_ _) | (with_reducible refine Kd.C_drew ?_) | exact HR322.out)) hb); replace HB := mk_ (below_step (us_ HB.out) hb); replace HO_3 := n0_; clear n0_)); try go_wp2_with (first | (go_at_call 114; (with_reducible refine (impl_Range_114.calls _ _ y319 t323 _ ?side1 ?side2 A36.out).mono ?_); (case side1 => repeat (first | exact (by repeat (first | (with_reducible exact HR322.out) | (with_reducible refine Kd.C_alloc ?_ _) | (with_reducible refine Kd.C_drewN ?_ _) | (with_reducible refine Kd.C_drew ?_) | exact HR322.out)) | (with_reducible refine Kd.C_alloc ?_ _) | (with_reducible refine Kd.C_drewN ?_ _) | (with_reducible refine Kd.C_drew ?_))); (case side2 => exact HC322.out); rintro e w39 ⟨v324, rfl, ho0, hb⟩; have n0_ := mk_ (Kd.R_elder' (Kd.ur_ HO_3.out) (Kd.R_base ho0) hb); have HO325 := mk_ (Kd.R_lower (Kd.R_new' ho0 (Kd.R_lt (Kd.ur_ HO_3.out))) (below_size (us_ HB.out))); replace BK307 := mk_ (blk_below (u_ BK307.out) hb); replace HR322 := mk_ (Kd.C_below (by repeat (first | (with_reducible exact HR322.out) | (with_reducible refine Kd.C_alloc ?_ _) | (with_reducible refine Kd.C_drewN ?_ _) | (with_reducible refine Kd.C_drew ?_) | exact HR322.out)) hb); replace HB := mk_ (below_step (us_ HB.out) hb); replace HO_3 := n0_; clear n0_)))
    go_ret
    exact ⟨_, by first | rfl | (simp [errW_none, errW_some] <;> rfl) | (simp only [← hji33]; first | rfl | (simp [errW_none, errW_some] <;> rfl)) | (simp [*, errW_none, errW_some] <;> rfl), by (with_reducible repeat (first | apply Kd.R_alloc | apply Kd.R_drewN | apply Kd.R_drew)); exact Kd.R_mono HO325.out (fun _ hk => trivial), us_ HB.out⟩
   rw [if_pos c4] at H
   have c4b0 : decide (x10_1 < (l0_3.length : Int)) = true := decide_eq_true c4
   clear c4
   by_cases c5 : 0 ≤ x10_1
   rotate_left
   ·rw [if_neg c5] at H
    exact absurd H (by simp)
   rw [if_pos c5] at H
   have c5b0 : decide (0 ≤ x10_1) = true := decide_eq_true c5
   clear c5
   by_cases c6 : x10_1 < (l0_3.length : Int)
   rotate_left
   ·rw [if_neg c6] at H
    exact absurd H (by simp)
   rw [if_pos c6] at H
   have c6b0 : decide (x10_1 < (l0_3.length : Int)) = true := decide_eq_true c6
   clear c6
   by_cases c7 : (x3_1.length : Int) > 0
   rotate_left
   ·rw [if_neg c7] at H
    have c7b0 : decide (0 < (x3_1.length : Int)) = false := decide_eq_false c7
    have c7b1 : decide (0 < x3_1.length) = false := decide_eq_false (by omega)
    clear c7
    by_cases c27 : x3_1.length < 8796093022208
    rotate_left
    ·rw [if_neg c27] at H
     exact absurd H (by simp)
    rw [if_pos c27] at H
    have LMc27 := mk_ c27
    clear c27
    obtain ⟨y316, hy316⟩ : ∃ y_ : List (S66), y_ = (x3_1 ++ [(⟨(rd_T68 l0_3 x10_1).f0, wrap64 (((rd_T68 l0_3 x10_1).f0) + 1)⟩ : S66)]) := ⟨_, rfl⟩
    replace H : (impl_Ear_ranges.l0 k1 y316 l0_3 (l0_3.length : Int) (wrap64 (x10_1 + 1))) = some r := by first | (rw [hy316]; with_reducible exact H) | (have H2_ := (Option.bind_some _ _).symm.trans H; rw [hy316]; with_reducible exact H2_) | (have H2_ := (Option.bind_some _ _).symm.trans H; with_reducible exact H2_) | with_reducible exact H | (rw [hy316]; exact H) | exact H
    have Ny316 := mk_ hy316
    clear hy316
    have H' := mk_ H
    clear H
    have p308 : 0 ≤ (x10_1 : Int) := of_decide_eq_true (by first | (with_reducible assumption) | assumption)
    have q308 : x10_1 < (l0_3.length : Int) := of_decide_eq_true (by first | (with_reducible assumption) | assumption)
    obtain ⟨ad308, e308, hx308_0, hx308_1⟩ := at_T68 HR0_3.out x10_1 p308 q308
    cases e308
    replace hx308_0 := (HB.out.cell (lc_ w _ hx308_0)).trans hx308_0
    replace hx308_1 := (HB.out.cell (lc_ w _ hx308_1)).trans hx308_1
    replace p308 := eq_true p308
    replace q308 := eq_true q308
    go_wp2_with (first | ((with_reducible refine gate_dst (N := 5) rfl ?_); refine box_event ?hg (N := 5) ?hd (cs := #[.int .i64 0, .int .u8 0]) (t := 68) ?hr ?_; (case hd => rfl); (case hg => rfl); (case hr => first | (go_simp; done) | (go_simp; rfl)); intro gb309 hg w28 hbox hb; replace HO_3 := mk_ (Kd.R_below (Kd.ur_ HO_3.out) hb); have n1_ := mk_ (blk_below (u_ BK307.out) hb); have n2_ := mk_ (below_step (us_ HB.out) hb); have BK309 := mk_ (hbox); have GW309 := mk_ ((by rw [hg]; exact (below_size (us_ HB.out)) : w.heap.size ≤ gb309)); have GE309 := ge_ ((by rw [hg]; exact (below_size (us_ HB.out)) : w.heap.size ≤ gb309)); have NB307_309 := nq_ ((by rw [hg]; exact Nat.ne_of_lt (blk_lt (u_ BK307.out)) : gb307 ≠ gb309)); have NB309_307 := nq_ ((by rw [hg]; exact Nat.ne_of_gt (blk_lt (u_ BK307.out)) : gb309 ≠ gb307)); replace BK307 := n1_; replace HB := n2_; clear n1_ n2_; clear hb hbox hg; have hnb29 := NB309_307.out; have hnc29 := NB307_309.out; obtain ⟨hcz30_0, hcz30_1, hfz30_0, hfz30_1⟩ := cells2_ BK309.out; obtain ⟨Ao31, co31, eo31⟩ := Kd.R_slice HO_3.out; subst eo31) | ((with_reducible refine gate_builtin (b := .append) (xs := #[.tmp 38, .tmp 45]) rfl ?_); at_builtin; refine Kd.R_append k66 (w0 := w) w.heap.size rfl (.tmp 38) (.tmp 45) 62 66 (.agg #[(.int .i64 0), (.int .i64 0)]) 16 rfl Try.underlying62 info66 rfl (by decide) (by omega) (.slice Ao31 x3_1.length co31) x3_1 (⟨(rd_T68 l0_3 x10_1).f0, wrap64 (((rd_T68 l0_3 x10_1).f0) + 1)⟩ : S66) [.int .i64 ((rd_T68 l0_3 x10_1).f0), .int .i64 (wrap64 (((rd_T68 l0_3 x10_1).f0) + 1))] (fun _ => True) (fun _ => False) rfl (by first | (go_simp; done) | (go_simp; rfl)) ?aP (fun _ hk => hk.elim) ?aF ?aO ?aB ?aS ?aL ?_; (case aP => exact k66_mkM _ _ _ (⟨(rd_T68 l0_3 x10_1).f0, wrap64 (((rd_T68 l0_3 x10_1).f0) + 1)⟩ : S66)); (case aB => exact (us_ HB.out)); (case aF => exact (fun _ _ => trivial)); (case aO => exact (by (with_reducible repeat (first | apply Kd.R_alloc | apply Kd.R_drewN | apply Kd.R_drew)); exact Kd.R_mono (Kd.R_far (p := ⟨gb309, 1, none⟩) (Kd.R_far (p := ⟨gb309, 0, none⟩) (Kd.R_types HO_3.out BK309.out (by decide)) (fun _ hk => hk.2) (.int .i64 ((rd_T68 l0_3 x10_1).f0))) (fun _ hk => hk.2) (.int .u8 ((rd_T68 l0_3 x10_1).f1))) (fun _ hk => trivial))); (case aS => exact (below_size (us_ HB.out))); (case aL => have := LMc27.out; omega); intro v317 w32 ho hb hg hat; rw [← Ny316.out] at ho; replace BK307 := mk_ (blk_grown (g := gb307) (o := .cells #[.int .i64 a0_0, .int .i64 a0_1, .slice A0_2 l0_2.length c0_2, .slice (some ad308) l0_3.length c0_3] 59 (0, 0)) (uf_ BK307.out) hg (Kd.R_ne HO_3.out BK307.out (by decide))); replace BK309 := mk_ (blk_grown (g := gb309) (o := .cells #[.int .i64 ((rd_T68 l0_3 x10_1).f0), .int .u8 ((rd_T68 l0_3 x10_1).f1)] 68 (0, 0)) (by (with_reducible repeat (first | refine bn_ ?_ _ | refine bw_ ?_ | refine ba_ ?_ _)); refine blk_put (cs := #[.int .i64 ((rd_T68 l0_3 x10_1).f0), .int .u8 0]) ?_ 1 _ rfl; (with_reducible repeat (first | refine bn_ ?_ _ | refine bw_ ?_ | refine ba_ ?_ _)); refine blk_put (cs := #[.int .i64 0, .int .u8 0]) ?_ 0 _ rfl; (with_reducible repeat (first | refine bn_ ?_ _ | refine bw_ ?_ | refine ba_ ?_ _)); exact BK309.out) hg (Kd.R_ne HO_3.out BK309.out (by decide))); replace HB := mk_ (hb); have HO318 := mk_ (ho); clear HO_3; clear ho hb hg hat))
    repeat (go_quiet (first | ((with_reducible refine gate_dst (N := 5) rfl ?_); refine box_event ?hg (N := 5) ?hd (cs := #[.int .i64 0, .int .u8 0]) (t := 68) ?hr ?_; (case hd => rfl); (case hg => rfl); (case hr => first | (go_simp; done) | (go_simp; rfl)); intro gb309 hg w28 hbox hb; replace HO_3 := mk_ (Kd.R_below (Kd.ur_ HO_3.out) hb); have n1_ := mk_ (blk_below (u_ BK307.out) hb); have n2_ := mk_ (below_step (us_ HB.out) hb); have BK309 := mk_ (hbox); have GW309 := mk_ ((by rw [hg]; exact (below_size (us_ HB.out)) : w.heap.size ≤ gb309)); have GE309 := ge_ ((by rw [hg]; exact (below_size (us_ HB.out)) : w.heap.size ≤ gb309)); have NB307_309 := nq_ ((by rw [hg]; exact Nat.ne_of_lt (blk_lt (u_ BK307.out)) : gb307 ≠ gb309)); have NB309_307 := nq_ ((by rw [hg]; exact Nat.ne_of_gt (blk_lt (u_ BK307.out)) : gb309 ≠ gb307)); replace BK307 := n1_; replace HB := n2_; clear n1_ n2_; clear hb hbox hg; have hnb29 := NB309_307.out; have hnc29 := NB307_309.out; obtain ⟨hcz30_0, hcz30_1, hfz30_0, hfz30_1⟩ := cells2_ BK309.out; obtain ⟨Ao31, co31, eo31⟩ := Kd.R_slice HO_3.out; subst eo31) | ((with_reducible refine gate_builtin (b := .append) (xs := #[.tmp 38, .tmp 45]) rfl ?_); at_builtin; refine Kd.R_append k66 (w0 := w) w.heap.size rfl (.tmp 38) (.tmp 45) 62 66 (.agg #[(.int .i64 0), (.int .i64 0)]) 16 rfl Try.underlying62 info66 rfl (by decide) (by omega) (.slice Ao31 x3_1.length co31) x3_1 (⟨(rd_T68 l0_3 x10_1).f0, wrap64 (((rd_T68 l0_3 x10_1).f0) + 1)⟩ : S66) [.int .i64 ((rd_T68 l0_3 x10_1).f0), .int .i64 (wrap64 (((rd_T68 l0_3 x10_1).f0) + 1))] (fun _ => True) (fun _ => False) rfl (by first | (go_simp; done) | (go_simp; rfl)) ?aP (fun _ hk => hk.elim) ?aF ?aO ?aB ?aS ?aL ?_; (case aP => exact k66_mkM _ _ _ (⟨(rd_T68 l0_3 x10_1).f0, wrap64 (((rd_T68 l0_3 x10_1).f0) + 1)⟩ : S66)); (case aB => exact (us_ HB.out)); (case aF => exact (fun _ _ => trivial)); (case aO => exact (by (with_reducible repeat (first | apply Kd.R_alloc | apply Kd.R_drewN | apply Kd.R_drew)); exact Kd.R_mono (Kd.R_far (p := ⟨gb309, 1, none⟩) (Kd.R_far (p := ⟨gb309, 0, none⟩) (Kd.R_types HO_3.out BK309.out (by decide)) (fun _ hk => hk.2) (.int .i64 ((rd_T68 l0_3 x10_1).f0))) (fun _ hk => hk.2) (.int .u8 ((rd_T68 l0_3 x10_1).f1))) (fun _ hk => trivial))); (case aS => exact (below_size (us_ HB.out))); (case aL => have := LMc27.out; omega); intro v317 w32 ho hb hg hat; rw [← Ny316.out] at ho; replace BK307 := mk_ (blk_grown (g := gb307) (o := .cells #[.int .i64 a0_0, .int .i64 a0_1, .slice A0_2 l0_2.length c0_2, .slice (some ad308) l0_3.length c0_3] 59 (0, 0)) (uf_ BK307.out) hg (Kd.R_ne HO_3.out BK307.out (by decide))); replace BK309 := mk_ (blk_grown (g := gb309) (o := .cells #[.int .i64 ((rd_T68 l0_3 x10_1).f0), .int .u8 ((rd_T68 l0_3 x10_1).f1)] 68 (0, 0)) (by (with_reducible repeat (first | refine bn_ ?_ _ | refine bw_ ?_ | refine ba_ ?_ _)); refine blk_put (cs := #[.int .i64 ((rd_T68 l0_3 x10_1).f0), .int .u8 0]) ?_ 1 _ rfl; (with_reducible repeat (first | refine bn_ ?_ _ | refine bw_ ?_ | refine ba_ ?_ _)); refine blk_put (cs := #[.int .i64 0, .int .u8 0]) ?_ 0 _ rfl; (with_reducible repeat (first | refine bn_ ?_ _ | refine bw_ ?_ | refine ba_ ?_ _)); exact BK309.out) hg (Kd.R_ne HO_3.out BK309.out (by decide))); replace HB := mk_ (hb); have HO318 := mk_ (ho); clear HO_3; clear ho hb hg hat)); try go_wp2_with (first | ((with_reducible refine gate_dst (N := 5) rfl ?_); refine box_event ?hg (N := 5) ?hd (cs := #[.int .i64 0, .int .u8 0]) (t := 68) ?hr ?_; (case hd => rfl); (case hg => rfl); (case hr => first | (go_simp; done) | (go_simp; rfl)); intro gb309 hg w28 hbox hb; replace HO_3 := mk_ (Kd.R_below (Kd.ur_ HO_3.out) hb); have n1_ := mk_ (blk_below (u_ BK307.out) hb); have n2_ := mk_ (below_step (us_ HB.out) hb); have BK309 := mk_ (hbox); have GW309 := mk_ ((by rw [hg]; exact (below_size (us_ HB.out)) : w.heap.size ≤ gb309)); have GE309 := ge_ ((by rw [hg]; exact (below_size (us_ HB.out)) : w.heap.size ≤ gb309)); have NB307_309 := nq_ ((by rw [hg]; exact Nat.ne_of_lt (blk_lt (u_ BK307.out)) : gb307 ≠ gb309)); have NB309_307 := nq_ ((by rw [hg]; exact Nat.ne_of_gt (blk_lt (u_ BK307.out)) : gb309 ≠ gb307)); replace BK307 := n1_; replace HB := n2_; clear n1_ n2_; clear hb hbox hg; have hnb29 := NB309_307.out; have hnc29 := NB307_309.out; obtain ⟨hcz30_0, hcz30_1, hfz30_0, hfz30_1⟩ := cells2_ BK309.out; obtain ⟨Ao31, co31, eo31⟩ := Kd.R_slice HO_3.out; subst eo31) | ((with_reducible refine gate_builtin (b := .append) (xs := #[.tmp 38, .tmp 45]) rfl ?_); at_builtin; refine Kd.R_append k66 (w0 := w) w.heap.size rfl (.tmp 38) (.tmp 45) 62 66 (.agg #[(.int .i64 0), (.int .i64 0)]) 16 rfl Try.underlying62 info66 rfl (by decide) (by omega) (.slice Ao31 x3_1.length co31) x3_1 (⟨(rd_T68 l0_3 x10_1).f0, wrap64 (((rd_T68 l0_3 x10_1).f0) + 1)⟩ : S66) [.int .i64 ((rd_T68 l0_3 x10_1).f0), .int .i64 (wrap64 (((rd_T68 l0_3 x10_1).f0) + 1))] (fun _ => True) (fun _ => False) rfl (by first | (go_simp; done) | (go_simp; rfl)) ?aP (fun _ hk => hk.elim) ?aF ?aO ?aB ?aS ?aL ?_; (case aP => exact k66_mkM _ _ _ (⟨(rd_T68 l0_3 x10_1).f0, wrap64 (((rd_T68 l0_3 x10_1).f0) + 1)⟩ : S66)); (case aB => exact (us_ HB.out)); (case aF => exact (fun _ _ => trivial)); (case aO => exact (by (with_reducible repeat (first | apply Kd.R_alloc | apply Kd.R_drewN | apply Kd.R_drew)); exact Kd.R_mono (Kd.R_far (p := ⟨gb309, 1, none⟩) (Kd.R_far (p := ⟨gb309, 0, none⟩) (Kd.R_types HO_3.out BK309.out (by decide)) (fun _ hk => hk.2) (.int .i64 ((rd_T68 l0_3 x10_1).f0))) (fun _ hk => hk.2) (.int .u8 ((rd_T68 l0_3 x10_1).f1))) (fun _ hk => trivial))); (case aS => exact (below_size (us_ HB.out))); (case aL => have := LMc27.out; omega); intro v317 w32 ho hb hg hat; rw [← Ny316.out] at ho; replace BK307 := mk_ (blk_grown (g := gb307) (o := .cells #[.int .i64 a0_0, .int .i64 a0_1, .slice A0_2 l0_2.length c0_2, .slice (some ad308) l0_3.length c0_3] 59 (0, 0)) (uf_ BK307.out) hg (Kd.R_ne HO_3.out BK307.out (by decide))); replace BK309 := mk_ (blk_grown (g := gb309) (o := .cells #[.int .i64 ((rd_T68 l0_3 x10_1).f0), .int .u8 ((rd_T68 l0_3 x10_1).f1)] 68 (0, 0)) (by (with_reducible repeat (first | refine bn_ ?_ _ | refine bw_ ?_ | refine ba_ ?_ _)); refine blk_put (cs := #[.int .i64 ((rd_T68 l0_3 x10_1).f0), .int .u8 0]) ?_ 1 _ rfl; (with_reducible repeat (first | refine bn_ ?_ _ | refine bw_ ?_ | refine ba_ ?_ _)); refine blk_put (cs := #[.int .i64 0, .int .u8 0]) ?_ 0 _ rfl; (with_reducible repeat (first | refine bn_ ?_ _ | refine bw_ ?_ | refine ba_ ?_ _)); exact BK309.out) hg (Kd.R_ne HO_3.out BK309.out (by decide))); replace HB := mk_ (hb); have HO318 := mk_ (ho); clear HO_3; clear ho hb hg hat)))
    go_roundg k1
    case measure => have := HK1.out; omega
    case rel => exact ⟨(y316), (wrap64 (x10_1 + 1)), (by first | rfl | (simp; done) | (simp [*]; done)), H', ⟨by have := HK1.out; omega⟩, ⟨Kd.ur_ HO318.out⟩, ⟨u_ BK307.out⟩, ⟨us_ HB.out⟩⟩
   rw [if_pos c7] at H
   have c7b0 : decide (0 < (x3_1.length : Int)) = true := decide_eq_true c7
   have c7b1 : decide (0 < x3_1.length) = true := decide_eq_true (by omega)
   clear c7
   obtain ⟨ji8, hji8⟩ : ∃ j_ : Int, (wrap64 ((x3_1.length : Int) - 1)) = j_ := ⟨_, rfl⟩
   replace H : (if 0 ≤ (ji8) then (if (ji8) < (x3_1.length : Int) then (if ((rd_T66 x3_1 (ji8)).f1) = ((rd_T68 l0_3 x10_1).f0) then (impl_Ear_ranges.l0 k1 (x3_1.set ((ji8) : Int).toNat (⟨(rd_T66 x3_1 (ji8)).f0, wrap64 (((rd_T66 x3_1 (ji8)).f1) + 1)⟩ : S66)) l0_3 (l0_3.length : Int) (wrap64 (x10_1 + 1))) else (if x3_1.length < 8796093022208 then (impl_Ear_ranges.l0 k1 (x3_1 ++ [(⟨(rd_T68 l0_3 x10_1).f0, wrap64 (((rd_T68 l0_3 x10_1).f0) + 1)⟩ : S66)]) l0_3 (l0_3.length : Int) (wrap64 (x10_1 + 1))) else (none))) else (none)) else (none)) = some r := by first | (rw [hji8] at H; exact H) | (simp only [hji8] at H ⊢; exact H)
   have hji8w : (IntKind.i64.wrap ((x3_1.length : Int) - 1)) = ji8 := (i64_w _).trans hji8
   by_cases c9 : 0 ≤ (ji8)
   rotate_left
   ·rw [if_neg c9] at H
    exact absurd H (by simp)
   rw [if_pos c9] at H
   have c9b0 : decide (0 ≤ (ji8)) = true := decide_eq_true c9
   clear c9
   by_cases c10 : (ji8) < (x3_1.length : Int)
   rotate_left
   ·rw [if_neg c10] at H
    exact absurd H (by simp)
   rw [if_pos c10] at H
   have c10b0 : decide ((ji8) < (x3_1.length : Int)) = true := decide_eq_true c10
   clear c10
   by_cases c11 : ((rd_T66 x3_1 (ji8)).f1) = ((rd_T68 l0_3 x10_1).f0)
   ·rw [if_pos c11] at H
    have c11b0 : (((rd_T66 x3_1 (ji8)).f1) == ((rd_T68 l0_3 x10_1).f0)) = true := beq_iff_eq.mpr c11
    have c11b1 : (((rd_T66 x3_1 (ji8)).f1) != ((rd_T68 l0_3 x10_1).f0)) = false := bne_eq_false_iff_eq.mpr c11
    clear c11
    obtain ⟨y312, hy312⟩ : ∃ y_ : List (S66), y_ = (x3_1.set ((ji8) : Int).toNat (⟨(rd_T66 x3_1 (ji8)).f0, wrap64 (((rd_T66 x3_1 (ji8)).f1) + 1)⟩ : S66)) := ⟨_, rfl⟩
    replace H : (impl_Ear_ranges.l0 k1 y312 l0_3 (l0_3.length : Int) (wrap64 (x10_1 + 1))) = some r := by first | (rw [hy312]; with_reducible exact H) | (have H2_ := (Option.bind_some _ _).symm.trans H; rw [hy312]; with_reducible exact H2_) | (have H2_ := (Option.bind_some _ _).symm.trans H; with_reducible exact H2_) | with_reducible exact H | (rw [hy312]; exact H) | exact H
    have Ny312 := mk_ hy312
    clear hy312
    have H' := mk_ H
    clear H
    have p308 : 0 ≤ (x10_1 : Int) := of_decide_eq_true (by first | (with_reducible assumption) | assumption)
    have q308 : x10_1 < (l0_3.length : Int) := of_decide_eq_true (by first | (with_reducible assumption) | assumption)
    obtain ⟨ad308, e308, hx308_0, hx308_1⟩ := at_T68 HR0_3.out x10_1 p308 q308
    cases e308
    replace hx308_0 := (HB.out.cell (lc_ w _ hx308_0)).trans hx308_0
    replace hx308_1 := (HB.out.cell (lc_ w _ hx308_1)).trans hx308_1
    replace p308 := eq_true p308
    replace q308 := eq_true q308
    go_wp2_with (first | ((with_reducible refine gate_dst (N := 5) rfl ?_); refine box_event ?hg (N := 5) ?hd (cs := #[.int .i64 0, .int .u8 0]) (t := 68) ?hr ?_; (case hd => rfl); (case hg => rfl); (case hr => first | (go_simp; done) | (go_simp; rfl)); intro gb309 hg w13 hbox hb; replace HO_3 := mk_ (Kd.R_below (Kd.ur_ HO_3.out) hb); have n1_ := mk_ (blk_below (u_ BK307.out) hb); have n2_ := mk_ (below_step (us_ HB.out) hb); have BK309 := mk_ (hbox); have GW309 := mk_ ((by rw [hg]; exact (below_size (us_ HB.out)) : w.heap.size ≤ gb309)); have GE309 := ge_ ((by rw [hg]; exact (below_size (us_ HB.out)) : w.heap.size ≤ gb309)); have NB307_309 := nq_ ((by rw [hg]; exact Nat.ne_of_lt (blk_lt (u_ BK307.out)) : gb307 ≠ gb309)); have NB309_307 := nq_ ((by rw [hg]; exact Nat.ne_of_gt (blk_lt (u_ BK307.out)) : gb309 ≠ gb307)); replace BK307 := n1_; replace HB := n2_; clear n1_ n2_; clear hb hbox hg; have hnb14 := NB309_307.out; have hnc14 := NB307_309.out; obtain ⟨hcz15_0, hcz15_1, hfz15_0, hfz15_1⟩ := cells2_ BK309.out) | ((with_reducible refine gate_store (t := 68) (p := 5) rfl ?_); (try (rw [drewN_self w13]; generalize hq_ : World.drewN w13 _ = w13; have n0_ := mk_ (Kd.R_at hq_ HO_3.out); have n1_ := mk_ (blk_at hq_ BK307.out); have n2_ := mk_ (blk_at hq_ BK309.out); have n3_ := mk_ (below_at hq_ HB.out); clear hq_ HO_3 BK307 BK309 HB; have HO_3 := n0_; have BK307 := n1_; have BK309 := n2_; have HB := n3_; clear n0_ n1_ n2_ n3_)); refine store_event (t := 68) (p := 5) (v := ?_) (w1 := ?_) ?hg ?ho ?hn ?hr ?_; (case ho => rfl); (case hg => rfl); (case hn => rfl); (case hr => first | (go_simp; done) | (go_simp; rfl)); intro w16 hw; have n0_ : Aside0 (Kd.R k66 66 w16 w.heap.size (fun _ => True) u3 x3_1) := ⟨(by rw [hw]; exact (by (with_reducible repeat (first | apply Kd.R_alloc | apply Kd.R_drewN | apply Kd.R_drew)); exact Kd.R_mono (Kd.R_far (p := ⟨gb309, 1, none⟩) (Kd.R_far (p := ⟨gb309, 0, none⟩) (Kd.R_types HO_3.out BK309.out (by decide)) (fun _ hk => hk.2) (.int .i64 ((rd_T68 l0_3 x10_1).f0))) (fun _ hk => hk.2) (.int .u8 ((rd_T68 l0_3 x10_1).f1))) (fun _ hk => trivial)))⟩; have n1_ : Aside0 (w16.heap[gb307]? = some (.cells #[.int .i64 a0_0, .int .i64 a0_1, .slice A0_2 l0_2.length c0_2, .slice (some ad308) l0_3.length c0_3] 59 (0, 0))) := ⟨(by rw [hw]; exact (uf_ BK307.out))⟩; have n2_ : Aside0 (w16.heap[gb309]? = some (.cells #[.int .i64 ((rd_T68 l0_3 x10_1).f0), .int .u8 ((rd_T68 l0_3 x10_1).f1)] 68 (0, 0))) := ⟨(by rw [hw]; exact (by (with_reducible repeat (first | refine bn_ ?_ _ | refine bw_ ?_ | refine ba_ ?_ _)); refine blk_put (cs := #[.int .i64 ((rd_T68 l0_3 x10_1).f0), .int .u8 0]) ?_ 1 _ rfl; (with_reducible repeat (first | refine bn_ ?_ _ | refine bw_ ?_ | refine ba_ ?_ _)); refine blk_put (cs := #[.int .i64 0, .int .u8 0]) ?_ 0 _ rfl; (with_reducible repeat (first | refine bn_ ?_ _ | refine bw_ ?_ | refine ba_ ?_ _)); exact BK309.out))⟩; have n3_ : Aside0 (Below w.heap.size w w16) := ⟨(by rw [hw]; exact (us_ HB.out))⟩; clear hw; clear HO_3; clear BK307; clear BK309; clear HB; have HO_3 := n0_; have BK307 := n1_; have BK309 := n2_; have HB := n3_; clear n0_ n1_ n2_ n3_; obtain ⟨Ao17, co17, eo17⟩ := Kd.R_slice HO_3.out; subst eo17; have p310 : 0 ≤ ((ji8) : Int) := of_decide_eq_true (by first | (with_reducible assumption) | assumption); have q310 : (ji8) < (x3_1.length : Int) := of_decide_eq_true (by first | (with_reducible assumption) | assumption); obtain ⟨ad310, e310, hx310_0, hx310_1⟩ := at_T66 (Kd.R_reads' HO_3.out).2.2 (ji8) p310 q310; cases e310; replace p310 := eq_true p310; replace q310 := eq_true q310; obtain ⟨hcz18_0, hcz18_1, hfz18_0, hfz18_1⟩ := cells2_ BK309.out; have p311 : 0 ≤ ((ji8) : Int) := of_decide_eq_true (by first | (with_reducible assumption) | assumption); have q311 : (ji8) < (x3_1.length : Int) := of_decide_eq_true (by first | (with_reducible assumption) | assumption); obtain ⟨ad311, e311, hx311_0, hx311_1⟩ := at_T66 (Kd.R_reads' HO_3.out).2.2 (ji8) p311 q311; obtain rfl : ad310 = ad311 := (by injection e311); replace p311 := eq_true p311; replace q311 := eq_true q311; have p12 : 0 ≤ ((ji8) : Int) := of_decide_eq_true (by first | (with_reducible assumption) | assumption); have q12 : ((ji8) : Int) < ((x3_1.length : Int) : Int) := of_decide_eq_true (by first | (with_reducible assumption) | assumption); obtain ⟨go12, co12, eo12, gb12, gl12, cl12, HG12⟩ := Kd.R_form HO_3.out (by omega); (first | cases eo12 | (injection eo12 with ea_ en_ ec_; (first | subst ea_ | (injection ea_ with ea_; subst ea_)); subst ec_; clear en_)); have GB12 := mk_ gb12; have GG12 := mk_ HG12; clear gb12 gl12 HG12; (first | simp only [add_plain] at hx310_0 | skip); (first | simp only [add_plain] at hx310_1 | skip); (first | simp only [add_plain] at hx311_0 | skip); (first | simp only [add_plain] at hx311_1 | skip); obtain ⟨ce12, hcl12, hM12, hcc12, hfr12⟩ := Kd.R_elem HO_3.out z66 ((ji8) : Int) p12 q12; obtain rfl := k66_openM hM12; have hx12_0 : w16.cell? ⟨go12, ((ji8) : Int).toNat * 2, none⟩ = some (.int .i64 ((rd_T66 x3_1 (ji8)).f0)) := hcc12 0 _ rfl; have hx12_1 : w16.cell? ⟨go12, ((ji8) : Int).toNat * 2 + 1, none⟩ = some (.int .i64 ((rd_T66 x3_1 (ji8)).f1)) := hcc12 1 _ rfl; have hf12_0 : w16.frozen? ⟨go12, ((ji8) : Int).toNat * 2, none⟩ = false := hfr12 0; have hf12_1 : w16.frozen? ⟨go12, ((ji8) : Int).toNat * 2 + 1, none⟩ = false := hfr12 1; clear hcl12 hcc12 hfr12 hM12; replace p12 := eq_true p12; replace q12 := eq_true q12; have HX19 := mk_ (show Kd.R k66 66 w16 w.heap.size (fun _ => True) (.slice (some ⟨go12, 0, none⟩) x3_1.length co17) x3_1 from (Kd.ur_ HO_3.out)); obtain ⟨ce19, hcl19, hM19, hcc19, hfr19⟩ := Kd.R_elem HX19.out z66 ((ji8) : Int) (of_decide_eq_true (by first | (with_reducible assumption) | assumption)) (by have h_ : ((ji8) : Int) < ((x3_1.length : Int) : Int) := of_decide_eq_true (by first | (with_reducible assumption) | assumption); first | exact h_ | (have e_ := (Kd.R_reads' HO_3.out).1; omega) | simpa using h_); obtain rfl := k66_openM hM19; have HP19 := Kd.R_seg HX19.out ((ji8) : Int) (of_decide_eq_true (by first | (with_reducible assumption) | assumption)) (by have h_ : ((ji8) : Int) < ((x3_1.length : Int) : Int) := of_decide_eq_true (by first | (with_reducible assumption) | assumption); first | exact h_ | (have e_ := (Kd.R_reads' HO_3.out).1; omega) | simpa using h_) (seg := [.int .i64 (wrap64 (((rd_T66 x3_1 (ji8)).f1) + 1))]) (j := 1) hcl19 hcc19 (show 2 ≤ 2 from by decide) (x' := (⟨(rd_T66 x3_1 (ji8)).f0, wrap64 (((rd_T66 x3_1 (ji8)).f1) + 1)⟩ : S66)) (k66_mkM _ _ _ (⟨(rd_T66 x3_1 (ji8)).f0, wrap64 (((rd_T66 x3_1 (ji8)).f1) + 1)⟩ : S66) ) (fun _ hk => hk); have hx19_1 := hcc19 1 _ rfl; (try simp only [show (k66).sz = 2 from rfl, Nat.mul_one, Nat.add_zero] at hx19_1); have hf19_1 := hfr19 1; (try simp only [show (k66).sz = 2 from rfl, Nat.mul_one, Nat.add_zero] at hf19_1); clear hcl19 hcc19 hfr19 hM19) | ((with_reducible refine gate_store (t := 3) (p := 37) rfl ?_); (try (rw [drewN_self w16]; generalize hq_ : World.drewN w16 _ = w16; have n0_ := mk_ (Kd.R_at hq_ HO_3.out); have n1_ := mk_ (blk_at hq_ BK307.out); have n2_ := mk_ (blk_at hq_ BK309.out); have n3_ := mk_ (below_at hq_ HB.out); clear hq_ HO_3 BK307 BK309 HB; have HO_3 := n0_; have BK307 := n1_; have BK309 := n2_; have HB := n3_; clear n0_ n1_ n2_ n3_; (try (have HX19 := mk_ (show Kd.R k66 66 w16 w.heap.size (fun _ => True) (.slice (some ⟨go12, 0, none⟩) x3_1.length co17) x3_1 from (Kd.ur_ HO_3.out)))); (try (obtain ⟨ce19, hcl19, hM19, hcc19, hfr19⟩ := Kd.R_elem HX19.out z66 ((ji8) : Int) (of_decide_eq_true (by first | (with_reducible assumption) | assumption)) (by have h_ : ((ji8) : Int) < ((x3_1.length : Int) : Int) := of_decide_eq_true (by first | (with_reducible assumption) | assumption); first | exact h_ | (have e_ := (Kd.R_reads' HO_3.out).1; omega) | simpa using h_))); (try (obtain rfl := k66_openM hM19)); (try (have HP19 := Kd.R_seg HX19.out ((ji8) : Int) (of_decide_eq_true (by first | (with_reducible assumption) | assumption)) (by have h_ : ((ji8) : Int) < ((x3_1.length : Int) : Int) := of_decide_eq_true (by first | (with_reducible assumption) | assumption); first | exact h_ | (have e_ := (Kd.R_reads' HO_3.out).1; omega) | simpa using h_) (seg := [.int .i64 (wrap64 (((rd_T66 x3_1 (ji8)).f1) + 1))]) (j := 1) hcl19 hcc19 (show 2 ≤ 2 from by decide) (x' := (⟨(rd_T66 x3_1 (ji8)).f0, wrap64 (((rd_T66 x3_1 (ji8)).f1) + 1)⟩ : S66)) (k66_mkM _ _ _ (⟨(rd_T66 x3_1 (ji8)).f0, wrap64 (((rd_T66 x3_1 (ji8)).f1) + 1)⟩ : S66) ) (fun _ hk => hk))); (try (have hx19_1 := hcc19 1 _ rfl)); (try (try simp only [show (k66).sz = 2 from rfl, Nat.mul_one, Nat.add_zero] at hx19_1)); (try (have hf19_1 := hfr19 1)); (try (try simp only [show (k66).sz = 2 from rfl, Nat.mul_one, Nat.add_zero] at hf19_1)); (try (clear hcl19 hcc19 hfr19 hM19)))); refine store_event (t := 3) (p := 37) (v := ?_) (w1 := (w16.setCell ⟨go12, ((ji8) : Int).toNat * 2 + 1, none⟩ (.int .i64 (wrap64 (((rd_T66 x3_1 (ji8)).f1) + 1))))) ?hg ?ho ?hn ?hr ?_; (case ho => rfl); (case hg => rfl); (case hn => rfl); (case hr => first | (go_simp; done) | (go_simp; rfl)); intro w20 hw; have hg : w16.grownBy w20 (some go12) := (by rw [hw]; exact HP19.2); have hp_ : Kd.R k66 66 w20 w.heap.size (fun _ => True) (.slice (some ⟨go12, 0, none⟩) x3_1.length co17) y312 := (by rw [hw, Ny312.out]; exact HP19.1); clear HP19; have n0_ := mk_ (hp_); replace BK307 := mk_ (blk_grown (g := gb307) (o := .cells #[.int .i64 a0_0, .int .i64 a0_1, .slice A0_2 l0_2.length c0_2, .slice (some ad308) l0_3.length c0_3] 59 (0, 0)) (u_ BK307.out) hg (Kd.R_ne HO_3.out BK307.out (by decide))); replace BK309 := mk_ (blk_grown (g := gb309) (o := .cells #[.int .i64 ((rd_T68 l0_3 x10_1).f0), .int .u8 ((rd_T68 l0_3 x10_1).f1)] 68 (0, 0)) (u_ BK309.out) hg (Kd.R_ne HO_3.out BK309.out (by decide))); replace HB := mk_ ((by rw [hw]; exact below_set (HB.out) GB12.out : Below w.heap.size w w20)); replace HO_3 := n0_; clear n0_; clear hg hw hp_))
    repeat (go_quiet (first | ((with_reducible refine gate_dst (N := 5) rfl ?_); refine box_event ?hg (N := 5) ?hd (cs := #[.int .i64 0, .int .u8 0]) (t := 68) ?hr ?_; (case hd => rfl); (case hg => rfl); (case hr => first | (go_simp; done) | (go_simp; rfl)); intro gb309 hg w13 hbox hb; replace HO_3 := mk_ (Kd.R_below (Kd.ur_ HO_3.out) hb); have n1_ := mk_ (blk_below (u_ BK307.out) hb); have n2_ := mk_ (below_step (us_ HB.out) hb); have BK309 := mk_ (hbox); have GW309 := mk_ ((by rw [hg]; exact (below_size (us_ HB.out)) : w.heap.size ≤ gb309)); have GE309 := ge_ ((by rw [hg]; exact (below_size (us_ HB.out)) : w.heap.size ≤ gb309)); have NB307_309 := nq_ ((by rw [hg]; exact Nat.ne_of_lt (blk_lt (u_ BK307.out)) : gb307 ≠ gb309)); have NB309_307 := nq_ ((by rw [hg]; exact Nat.ne_of_gt (blk_lt (u_ BK307.out)) : gb309 ≠ gb307)); replace BK307 := n1_; replace HB := n2_; clear n1_ n2_; clear hb hbox hg; have hnb14 := NB309_307.out; have hnc14 := NB307_309.out; obtain ⟨hcz15_0, hcz15_1, hfz15_0, hfz15_1⟩ := cells2_ BK309.out) | ((with_reducible refine gate_store (t := 68) (p := 5) rfl ?_); (try (rw [drewN_self w13]; generalize hq_ : World.drewN w13 _ = w13; have n0_ := mk_ (Kd.R_at hq_ HO_3.out); have n1_ := mk_ (blk_at hq_ BK307.out); have n2_ := mk_ (blk_at hq_ BK309.out); have n3_ := mk_ (below_at hq_ HB.out); clear hq_ HO_3 BK307 BK309 HB; have HO_3 := n0_; have BK307 := n1_; have BK309 := n2_; have HB := n3_; clear n0_ n1_ n2_ n3_)); refine store_event (t := 68) (p := 5) (v := ?_) (w1 := ?_) ?hg ?ho ?hn ?hr ?_; (case ho => rfl); (case hg => rfl); (case hn => rfl); (case hr => first | (go_simp; done) | (go_simp; rfl)); intro w16 hw; have n0_ : Aside0 (Kd.R k66 66 w16 w.heap.size (fun _ => True) u3 x3_1) := ⟨(by rw [hw]; exact (by (with_reducible repeat (first | apply Kd.R_alloc | apply Kd.R_drewN | apply Kd.R_drew)); exact Kd.R_mono (Kd.R_far (p := ⟨gb309, 1, none⟩) (Kd.R_far (p := ⟨gb309, 0, none⟩) (Kd.R_types HO_3.out BK309.out (by decide)) (fun _ hk => hk.2) (.int .i64 ((rd_T68 l0_3 x10_1).f0))) (fun _ hk => hk.2) (.int .u8 ((rd_T68 l0_3 x10_1).f1))) (fun _ hk => trivial)))⟩; have n1_ : Aside0 (w16.heap[gb307]? = some (.cells #[.int .i64 a0_0, .int .i64 a0_1, .slice A0_2 l0_2.length c0_2, .slice (some ad308) l0_3.length c0_3] 59 (0, 0))) := ⟨(by rw [hw]; exact (uf_ BK307.out))⟩; have n2_ : Aside0 (w16.heap[gb309]? = some (.cells #[.int .i64 ((rd_T68 l0_3 x10_1).f0), .int .u8 ((rd_T68 l0_3 x10_1).f1)] 68 (0, 0))) := ⟨(by rw [hw]; exact (by (with_reducible repeat (first | refine bn_ ?_ _ | refine bw_ ?_ | refine ba_ ?_ _)); refine blk_put (cs := #[.int .i64 ((rd_T68 l0_3 x10_1).f0), .int .u8 0]) ?_ 1 _ rfl; (with_reducible repeat (first | refine bn_ ?_ _ | refine bw_ ?_ | refine ba_ ?_ _)); refine blk_put (cs := #[.int .i64 0, .int .u8 0]) ?_ 0 _ rfl; (with_reducible repeat (first | refine bn_ ?_ _ | refine bw_ ?_ | refine ba_ ?_ _)); exact BK309.out))⟩; have n3_ : Aside0 (Below w.heap.size w w16) := ⟨(by rw [hw]; exact (us_ HB.out))⟩; clear hw; clear HO_3; clear BK307; clear BK309; clear HB; have HO_3 := n0_; have BK307 := n1_; have BK309 := n2_; have HB := n3_; clear n0_ n1_ n2_ n3_; obtain ⟨Ao17, co17, eo17⟩ := Kd.R_slice HO_3.out; subst eo17; have p310 : 0 ≤ ((ji8) : Int) := of_decide_eq_true (by first | (with_reducible assumption) | assumption); have q310 : (ji8) < (x3_1.length : Int) := of_decide_eq_true (by first | (with_reducible assumption) | assumption); obtain ⟨ad310, e310, hx310_0, hx310_1⟩ := at_T66 (Kd.R_reads' HO_3.out).2.2 (ji8) p310 q310; cases e310; replace p310 := eq_true p310; replace q310 := eq_true q310; obtain ⟨hcz18_0, hcz18_1, hfz18_0, hfz18_1⟩ := cells2_ BK309.out; have p311 : 0 ≤ ((ji8) : Int) := of_decide_eq_true (by first | (with_reducible assumption) | assumption); have q311 : (ji8) < (x3_1.length : Int) := of_decide_eq_true (by first | (with_reducible assumption) | assumption); obtain ⟨ad311, e311, hx311_0, hx311_1⟩ := at_T66 (Kd.R_reads' HO_3.out).2.2 (ji8) p311 q311; obtain rfl : ad310 = ad311 := (by injection e311); replace p311 := eq_true p311; replace q311 := eq_true q311; have p12 : 0 ≤ ((ji8) : Int) := of_decide_eq_true (by first | (with_reducible assumption) | assumption); have q12 : ((ji8) : Int) < ((x3_1.length : Int) : Int) := of_decide_eq_true (by first | (with_reducible assumption) | assumption); obtain ⟨go12, co12, eo12, gb12, gl12, cl12, HG12⟩ := Kd.R_form HO_3.out (by omega); (first | cases eo12 | (injection eo12 with ea_ en_ ec_; (first | subst ea_ | (injection ea_ with ea_; subst ea_)); subst ec_; clear en_)); have GB12 := mk_ gb12; have GG12 := mk_ HG12; clear gb12 gl12 HG12; (first | simp only [add_plain] at hx310_0 | skip); (first | simp only [add_plain] at hx310_1 | skip); (first | simp only [add_plain] at hx311_0 | skip); (first | simp only [add_plain] at hx311_1 | skip); obtain ⟨ce12, hcl12, hM12, hcc12, hfr12⟩ := Kd.R_elem HO_3.out z66 ((ji8) : Int) p12 q12; obtain rfl := k66_openM hM12; have hx12_0 : w16.cell? ⟨go12, ((ji8) : Int).toNat * 2, none⟩ = some (.int .i64 ((rd_T66 x3_1 (ji8)).f0)) := hcc12 0 _ rfl; have hx12_1 : w16.cell? ⟨go12, ((ji8) : Int).toNat * 2 + 1, none⟩ = some (.int .i64 ((rd_T66 x3_1 (ji8)).f1)) := hcc12 1 _ rfl; have hf12_0 : w16.frozen? ⟨go12, ((ji8) : Int).toNat * 2, none⟩ = false := hfr12 0; have hf12_1 : w16.frozen? ⟨go12, ((ji8) : Int).toNat * 2 + 1, none⟩ = false := hfr12 1; clear hcl12 hcc12 hfr12 hM12; replace p12 := eq_true p12; replace q12 := eq_true q12; have HX19 := mk_ (show Kd.R k66 66 w16 w.heap.size (fun _ => True) (.slice (some ⟨go12, 0, none⟩) x3_1.length co17) x3_1 from (Kd.ur_ HO_3.out)); obtain ⟨ce19, hcl19, hM19, hcc19, hfr19⟩ := Kd.R_elem HX19.out z66 ((ji8) : Int) (of_decide_eq_true (by first | (with_reducible assumption) | assumption)) (by have h_ : ((ji8) : Int) < ((x3_1.length : Int) : Int) := of_decide_eq_true (by first | (with_reducible assumption) | assumption); first | exact h_ | (have e_ := (Kd.R_reads' HO_3.out).1; omega) | simpa using h_); obtain rfl := k66_openM hM19; have HP19 := Kd.R_seg HX19.out ((ji8) : Int) (of_decide_eq_true (by first | (with_reducible assumption) | assumption)) (by have h_ : ((ji8) : Int) < ((x3_1.length : Int) : Int) := of_decide_eq_true (by first | (with_reducible assumption) | assumption); first | exact h_ | (have e_ := (Kd.R_reads' HO_3.out).1; omega) | simpa using h_) (seg := [.int .i64 (wrap64 (((rd_T66 x3_1 (ji8)).f1) + 1))]) (j := 1) hcl19 hcc19 (show 2 ≤ 2 from by decide) (x' := (⟨(rd_T66 x3_1 (ji8)).f0, wrap64 (((rd_T66 x3_1 (ji8)).f1) + 1)⟩ : S66)) (k66_mkM _ _ _ (⟨(rd_T66 x3_1 (ji8)).f0, wrap64 (((rd_T66 x3_1 (ji8)).f1) + 1)⟩ : S66) ) (fun _ hk => hk); have hx19_1 := hcc19 1 _ rfl; (try simp only [show (k66).sz = 2 from rfl, Nat.mul_one, Nat.add_zero] at hx19_1); have hf19_1 := hfr19 1; (try simp only [show (k66).sz = 2 from rfl, Nat.mul_one, Nat.add_zero] at hf19_1); clear hcl19 hcc19 hfr19 hM19) | ((with_reducible refine gate_store (t := 3) (p := 37) rfl ?_); (try (rw [drewN_self w16]; generalize hq_ : World.drewN w16 _ = w16; have n0_ := mk_ (Kd.R_at hq_ HO_3.out); have n1_ := mk_ (blk_at hq_ BK307.out); have n2_ := mk_ (blk_at hq_ BK309.out); have n3_ := mk_ (below_at hq_ HB.out); clear hq_ HO_3 BK307 BK309 HB; have HO_3 := n0_; have BK307 := n1_; have BK309 := n2_; have HB := n3_; clear n0_ n1_ n2_ n3_; (try (have HX19 := mk_ (show Kd.R k66 66 w16 w.heap.size (fun _ => True) (.slice (some ⟨go12, 0, none⟩) x3_1.length co17) x3_1 from (Kd.ur_ HO_3.out)))); (try (obtain ⟨ce19, hcl19, hM19, hcc19, hfr19⟩ := Kd.R_elem HX19.out z66 ((ji8) : Int) (of_decide_eq_true (by first | (with_reducible assumption) | assumption)) (by have h_ : ((ji8) : Int) < ((x3_1.length : Int) : Int) := of_decide_eq_true (by first | (with_reducible assumption) | assumption); first | exact h_ | (have e_ := (Kd.R_reads' HO_3.out).1; omega) | simpa using h_))); (try (obtain rfl := k66_openM hM19)); (try (have HP19 := Kd.R_seg HX19.out ((ji8) : Int) (of_decide_eq_true (by first | (with_reducible assumption) | assumption)) (by have h_ : ((ji8) : Int) < ((x3_1.length : Int) : Int) := of_decide_eq_true (by first | (with_reducible assumption) | assumption); first | exact h_ | (have e_ := (Kd.R_reads' HO_3.out).1; omega) | simpa using h_) (seg := [.int .i64 (wrap64 (((rd_T66 x3_1 (ji8)).f1) + 1))]) (j := 1) hcl19 hcc19 (show 2 ≤ 2 from by decide) (x' := (⟨(rd_T66 x3_1 (ji8)).f0, wrap64 (((rd_T66 x3_1 (ji8)).f1) + 1)⟩ : S66)) (k66_mkM _ _ _ (⟨(rd_T66 x3_1 (ji8)).f0, wrap64 (((rd_T66 x3_1 (ji8)).f1) + 1)⟩ : S66) ) (fun _ hk => hk))); (try (have hx19_1 := hcc19 1 _ rfl)); (try (try simp only [show (k66).sz = 2 from rfl, Nat.mul_one, Nat.add_zero] at hx19_1)); (try (have hf19_1 := hfr19 1)); (try (try simp only [show (k66).sz = 2 from rfl, Nat.mul_one, Nat.add_zero] at hf19_1)); (try (clear hcl19 hcc19 hfr19 hM19)))); refine store_event (t := 3) (p := 37) (v := ?_) (w1 := (w16.setCell ⟨go12, ((ji8) : Int).toNat * 2 + 1, none⟩ (.int .i64 (wrap64 (((rd_T66 x3_1 (ji8)).f1) + 1))))) ?hg ?ho ?hn ?hr ?_; (case ho => rfl); (case hg => rfl); (case hn => rfl); (case hr => first | (go_simp; done) | (go_simp; rfl)); intro w20 hw; have hg : w16.grownBy w20 (some go12) := (by rw [hw]; exact HP19.2); have hp_ : Kd.R k66 66 w20 w.heap.size (fun _ => True) (.slice (some ⟨go12, 0, none⟩) x3_1.length co17) y312 := (by rw [hw, Ny312.out]; exact HP19.1); clear HP19; have n0_ := mk_ (hp_); replace BK307 := mk_ (blk_grown (g := gb307) (o := .cells #[.int .i64 a0_0, .int .i64 a0_1, .slice A0_2 l0_2.length c0_2, .slice (some ad308) l0_3.length c0_3] 59 (0, 0)) (u_ BK307.out) hg (Kd.R_ne HO_3.out BK307.out (by decide))); replace BK309 := mk_ (blk_grown (g := gb309) (o := .cells #[.int .i64 ((rd_T68 l0_3 x10_1).f0), .int .u8 ((rd_T68 l0_3 x10_1).f1)] 68 (0, 0)) (u_ BK309.out) hg (Kd.R_ne HO_3.out BK309.out (by decide))); replace HB := mk_ ((by rw [hw]; exact below_set (HB.out) GB12.out : Below w.heap.size w w20)); replace HO_3 := n0_; clear n0_; clear hg hw hp_)); try go_wp2_with (first | ((with_reducible refine gate_dst (N := 5) rfl ?_); refine box_event ?hg (N := 5) ?hd (cs := #[.int .i64 0, .int .u8 0]) (t := 68) ?hr ?_; (case hd => rfl); (case hg => rfl); (case hr => first | (go_simp; done) | (go_simp; rfl)); intro gb309 hg w13 hbox hb; replace HO_3 := mk_ (Kd.R_below (Kd.ur_ HO_3.out) hb); have n1_ := mk_ (blk_below (u_ BK307.out) hb); have n2_ := mk_ (below_step (us_ HB.out) hb); have BK309 := mk_ (hbox); have GW309 := mk_ ((by rw [hg]; exact (below_size (us_ HB.out)) : w.heap.size ≤ gb309)); have GE309 := ge_ ((by rw [hg]; exact (below_size (us_ HB.out)) : w.heap.size ≤ gb309)); have NB307_309 := nq_ ((by rw [hg]; exact Nat.ne_of_lt (blk_lt (u_ BK307.out)) : gb307 ≠ gb309)); have NB309_307 := nq_ ((by rw [hg]; exact Nat.ne_of_gt (blk_lt (u_ BK307.out)) : gb309 ≠ gb307)); replace BK307 := n1_; replace HB := n2_; clear n1_ n2_; clear hb hbox hg; have hnb14 := NB309_307.out; have hnc14 := NB307_309.out; obtain ⟨hcz15_0, hcz15_1, hfz15_0, hfz15_1⟩ := cells2_ BK309.out) | ((with_reducible refine gate_store (t := 68) (p := 5) rfl ?_); (try (rw [drewN_self w13]; generalize hq_ : World.drewN w13 _ = w13; have n0_ := mk_ (Kd.R_at hq_ HO_3.out); have n1_ := mk_ (blk_at hq_ BK307.out); have n2_ := mk_ (blk_at hq_ BK309.out); have n3_ := mk_ (below_at hq_ HB.out); clear hq_ HO_3 BK307 BK309 HB; have HO_3 := n0_; have BK307 := n1_; have BK309 := n2_; have HB := n3_; clear n0_ n1_ n2_ n3_)); refine store_event (t := 68) (p := 5) (v := ?_) (w1 := ?_) ?hg ?ho ?hn ?hr ?_; (case ho => rfl); (case hg => rfl); (case hn => rfl); (case hr => first | (go_simp; done) | (go_simp; rfl)); intro w16 hw; have n0_ : Aside0 (Kd.R k66 66 w16 w.heap.size (fun _ => True) u3 x3_1) := ⟨(by rw [hw]; exact (by (with_reducible repeat (first | apply Kd.R_alloc | apply Kd.R_drewN | apply Kd.R_drew)); exact Kd.R_mono (Kd.R_far (p := ⟨gb309, 1, none⟩) (Kd.R_far (p := ⟨gb309, 0, none⟩) (Kd.R_types HO_3.out BK309.out (by decide)) (fun _ hk => hk.2) (.int .i64 ((rd_T68 l0_3 x10_1).f0))) (fun _ hk => hk.2) (.int .u8 ((rd_T68 l0_3 x10_1).f1))) (fun _ hk => trivial)))⟩; have n1_ : Aside0 (w16.heap[gb307]? = some (.cells #[.int .i64 a0_0, .int .i64 a0_1, .slice A0_2 l0_2.length c0_2, .slice (some ad308) l0_3.length c0_3] 59 (0, 0))) := ⟨(by rw [hw]; exact (uf_ BK307.out))⟩; have n2_ : Aside0 (w16.heap[gb309]? = some (.cells #[.int .i64 ((rd_T68 l0_3 x10_1).f0), .int .u8 ((rd_T68 l0_3 x10_1).f1)] 68 (0, 0))) := ⟨(by rw [hw]; exact (by (with_reducible repeat (first | refine bn_ ?_ _ | refine bw_ ?_ | refine ba_ ?_ _)); refine blk_put (cs := #[.int .i64 ((rd_T68 l0_3 x10_1).f0), .int .u8 0]) ?_ 1 _ rfl; (with_reducible repeat (first | refine bn_ ?_ _ | refine bw_ ?_ | refine ba_ ?_ _)); refine blk_put (cs := #[.int .i64 0, .int .u8 0]) ?_ 0 _ rfl; (with_reducible repeat (first | refine bn_ ?_ _ | refine bw_ ?_ | refine ba_ ?_ _)); exact BK309.out))⟩; have n3_ : Aside0 (Below w.heap.size w w16) := ⟨(by rw [hw]; exact (us_ HB.out))⟩; clear hw; clear HO_3; clear BK307; clear BK309; clear HB; have HO_3 := n0_; have BK307 := n1_; have BK309 := n2_; have HB := n3_; clear n0_ n1_ n2_ n3_; obtain ⟨Ao17, co17, eo17⟩ := Kd.R_slice HO_3.out; subst eo17; have p310 : 0 ≤ ((ji8) : Int) := of_decide_eq_true (by first | (with_reducible assumption) | assumption); have q310 : (ji8) < (x3_1.length : Int) := of_decide_eq_true (by first | (with_reducible assumption) | assumption); obtain ⟨ad310, e310, hx310_0, hx310_1⟩ := at_T66 (Kd.R_reads' HO_3.out).2.2 (ji8) p310 q310; cases e310; replace p310 := eq_true p310; replace q310 := eq_true q310; obtain ⟨hcz18_0, hcz18_1, hfz18_0, hfz18_1⟩ := cells2_ BK309.out; have p311 : 0 ≤ ((ji8) : Int) := of_decide_eq_true (by first | (with_reducible assumption) | assumption); have q311 : (ji8) < (x3_1.length : Int) := of_decide_eq_true (by first | (with_reducible assumption) | assumption); obtain ⟨ad311, e311, hx311_0, hx311_1⟩ := at_T66 (Kd.R_reads' HO_3.out).2.2 (ji8) p311 q311; obtain rfl : ad310 = ad311 := (by injection e311); replace p311 := eq_true p311; replace q311 := eq_true q311; have p12 : 0 ≤ ((ji8) : Int) := of_decide_eq_true (by first | (with_reducible assumption) | assumption); have q12 : ((ji8) : Int) < ((x3_1.length : Int) : Int) := of_decide_eq_true (by first | (with_reducible assumption) | assumption); obtain ⟨go12, co12, eo12, gb12, gl12, cl12, HG12⟩ := Kd.R_form HO_3.out (by omega); (first | cases eo12 | (injection eo12 with ea_ en_ ec_; (first | subst ea_ | (injection ea_ with ea_; subst ea_)); subst ec_; clear en_)); have GB12 := mk_ gb12; have GG12 := mk_ HG12; clear gb12 gl12 HG12; (first | simp only [add_plain] at hx310_0 | skip); (first | simp only [add_plain] at hx310_1 | skip); (first | simp only [add_plain] at hx311_0 | skip); (first | simp only [add_plain] at hx311_1 | skip); obtain ⟨ce12, hcl12, hM12, hcc12, hfr12⟩ := Kd.R_elem HO_3.out z66 ((ji8) : Int) p12 q12; obtain rfl := k66_openM hM12; have hx12_0 : w16.cell? ⟨go12, ((ji8) : Int).toNat * 2, none⟩ = some (.int .i64 ((rd_T66 x3_1 (ji8)).f0)) := hcc12 0 _ rfl; have hx12_1 : w16.cell? ⟨go12, ((ji8) : Int).toNat * 2 + 1, none⟩ = some (.int .i64 ((rd_T66 x3_1 (ji8)).f1)) := hcc12 1 _ rfl; have hf12_0 : w16.frozen? ⟨go12, ((ji8) : Int).toNat * 2, none⟩ = false := hfr12 0; have hf12_1 : w16.frozen? ⟨go12, ((ji8) : Int).toNat * 2 + 1, none⟩ = false := hfr12 1; clear hcl12 hcc12 hfr12 hM12; replace p12 := eq_true p12; replace q12 := eq_true q12; have HX19 := mk_ (show Kd.R k66 66 w16 w.heap.size (fun _ => True) (.slice (some ⟨go12, 0, none⟩) x3_1.length co17) x3_1 from (Kd.ur_ HO_3.out)); obtain ⟨ce19, hcl19, hM19, hcc19, hfr19⟩ := Kd.R_elem HX19.out z66 ((ji8) : Int) (of_decide_eq_true (by first | (with_reducible assumption) | assumption)) (by have h_ : ((ji8) : Int) < ((x3_1.length : Int) : Int) := of_decide_eq_true (by first | (with_reducible assumption) | assumption); first | exact h_ | (have e_ := (Kd.R_reads' HO_3.out).1; omega) | simpa using h_); obtain rfl := k66_openM hM19; have HP19 := Kd.R_seg HX19.out ((ji8) : Int) (of_decide_eq_true (by first | (with_reducible assumption) | assumption)) (by have h_ : ((ji8) : Int) < ((x3_1.length : Int) : Int) := of_decide_eq_true (by first | (with_reducible assumption) | assumption); first | exact h_ | (have e_ := (Kd.R_reads' HO_3.out).1; omega) | simpa using h_) (seg := [.int .i64 (wrap64 (((rd_T66 x3_1 (ji8)).f1) + 1))]) (j := 1) hcl19 hcc19 (show 2 ≤ 2 from by decide) (x' := (⟨(rd_T66 x3_1 (ji8)).f0, wrap64 (((rd_T66 x3_1 (ji8)).f1) + 1)⟩ : S66)) (k66_mkM _ _ _ (⟨(rd_T66 x3_1 (ji8)).f0, wrap64 (((rd_T66 x3_1 (ji8)).f1) + 1)⟩ : S66) ) (fun _ hk => hk); have hx19_1 := hcc19 1 _ rfl; (try simp only [show (k66).sz = 2 from rfl, Nat.mul_one, Nat.add_zero] at hx19_1); have hf19_1 := hfr19 1; (try simp only [show (k66).sz = 2 from rfl, Nat.mul_one, Nat.add_zero] at hf19_1); clear hcl19 hcc19 hfr19 hM19) | ((with_reducible refine gate_store (t := 3) (p := 37) rfl ?_); (try (rw [drewN_self w16]; generalize hq_ : World.drewN w16 _ = w16; have n0_ := mk_ (Kd.R_at hq_ HO_3.out); have n1_ := mk_ (blk_at hq_ BK307.out); have n2_ := mk_ (blk_at hq_ BK309.out); have n3_ := mk_ (below_at hq_ HB.out); clear hq_ HO_3 BK307 BK309 HB; have HO_3 := n0_; have BK307 := n1_; have BK309 := n2_; have HB := n3_; clear n0_ n1_ n2_ n3_; (try (have HX19 := mk_ (show Kd.R k66 66 w16 w.heap.size (fun _ => True) (.slice (some ⟨go12, 0, none⟩) x3_1.length co17) x3_1 from (Kd.ur_ HO_3.out)))); (try (obtain ⟨ce19, hcl19, hM19, hcc19, hfr19⟩ := Kd.R_elem HX19.out z66 ((ji8) : Int) (of_decide_eq_true (by first | (with_reducible assumption) | assumption)) (by have h_ : ((ji8) : Int) < ((x3_1.length : Int) : Int) := of_decide_eq_true (by first | (with_reducible assumption) | assumption); first | exact h_ | (have e_ := (Kd.R_reads' HO_3.out).1; omega) | simpa using h_))); (try (obtain rfl := k66_openM hM19)); (try (have HP19 := Kd.R_seg HX19.out ((ji8) : Int) (of_decide_eq_true (by first | (with_reducible assumption) | assumption)) (by have h_ : ((ji8) : Int) < ((x3_1.length : Int) : Int) := of_decide_eq_true (by first | (with_reducible assumption) | assumption); first | exact h_ | (have e_ := (Kd.R_reads' HO_3.out).1; omega) | simpa using h_) (seg := [.int .i64 (wrap64 (((rd_T66 x3_1 (ji8)).f1) + 1))]) (j := 1) hcl19 hcc19 (show 2 ≤ 2 from by decide) (x' := (⟨(rd_T66 x3_1 (ji8)).f0, wrap64 (((rd_T66 x3_1 (ji8)).f1) + 1)⟩ : S66)) (k66_mkM _ _ _ (⟨(rd_T66 x3_1 (ji8)).f0, wrap64 (((rd_T66 x3_1 (ji8)).f1) + 1)⟩ : S66) ) (fun _ hk => hk))); (try (have hx19_1 := hcc19 1 _ rfl)); (try (try simp only [show (k66).sz = 2 from rfl, Nat.mul_one, Nat.add_zero] at hx19_1)); (try (have hf19_1 := hfr19 1)); (try (try simp only [show (k66).sz = 2 from rfl, Nat.mul_one, Nat.add_zero] at hf19_1)); (try (clear hcl19 hcc19 hfr19 hM19)))); refine store_event (t := 3) (p := 37) (v := ?_) (w1 := (w16.setCell ⟨go12, ((ji8) : Int).toNat * 2 + 1, none⟩ (.int .i64 (wrap64 (((rd_T66 x3_1 (ji8)).f1) + 1))))) ?hg ?ho ?hn ?hr ?_; (case ho => rfl); (case hg => rfl); (case hn => rfl); (case hr => first | (go_simp; done) | (go_simp; rfl)); intro w20 hw; have hg : w16.grownBy w20 (some go12) := (by rw [hw]; exact HP19.2); have hp_ : Kd.R k66 66 w20 w.heap.size (fun _ => True) (.slice (some ⟨go12, 0, none⟩) x3_1.length co17) y312 := (by rw [hw, Ny312.out]; exact HP19.1); clear HP19; have n0_ := mk_ (hp_); replace BK307 := mk_ (blk_grown (g := gb307) (o := .cells #[.int .i64 a0_0, .int .i64 a0_1, .slice A0_2 l0_2.length c0_2, .slice (some ad308) l0_3.length c0_3] 59 (0, 0)) (u_ BK307.out) hg (Kd.R_ne HO_3.out BK307.out (by decide))); replace BK309 := mk_ (blk_grown (g := gb309) (o := .cells #[.int .i64 ((rd_T68 l0_3 x10_1).f0), .int .u8 ((rd_T68 l0_3 x10_1).f1)] 68 (0, 0)) (u_ BK309.out) hg (Kd.R_ne HO_3.out BK309.out (by decide))); replace HB := mk_ ((by rw [hw]; exact below_set (HB.out) GB12.out : Below w.heap.size w w20)); replace HO_3 := n0_; clear n0_; clear hg hw hp_)))
    go_roundg k1
    case measure => have := HK1.out; omega
    case rel => exact ⟨(y312), (wrap64 (x10_1 + 1)), (by first | rfl | (simp; done) | (simp [*]; done)), H', ⟨by have := HK1.out; omega⟩, ⟨Kd.ur_ HO_3.out⟩, ⟨u_ BK307.out⟩, ⟨us_ HB.out⟩⟩
   rw [if_neg c11] at H
   have c11b0 : (((rd_T66 x3_1 (ji8)).f1) == ((rd_T68 l0_3 x10_1).f0)) = false := beq_eq_false_iff_ne.mpr c11
   have c11b1 : (((rd_T66 x3_1 (ji8)).f1) != ((rd_T68 l0_3 x10_1).f0)) = true := bne_iff_ne.mpr c11
   by_cases c21 : x3_1.length < 8796093022208
   rotate_left
   ·rw [if_neg c21] at H
    exact absurd H (by simp)
   rw [if_pos c21] at H
   have LMc21 := mk_ c21
   clear c21
   obtain ⟨y313, hy313⟩ : ∃ y_ : List (S66), y_ = (x3_1 ++ [(⟨(rd_T68 l0_3 x10_1).f0, wrap64 (((rd_T68 l0_3 x10_1).f0) + 1)⟩ : S66)]) := ⟨_, rfl⟩
   replace H : (impl_Ear_ranges.l0 k1 y313 l0_3 (l0_3.length : Int) (wrap64 (x10_1 + 1))) = some r := by first | (rw [hy313]; with_reducible exact H) | (have H2_ := (Option.bind_some _ _).symm.trans H; rw [hy313]; with_reducible exact H2_) | (have H2_ := (Option.bind_some _ _).symm.trans H; with_reducible exact H2_) | with_reducible exact H | (rw [hy313]; exact H) | exact H
   have Ny313 := mk_ hy313
   clear hy313
   have H' := mk_ H
   clear H
   have p308 : 0 ≤ (x10_1 : Int) := of_decide_eq_true (by first | (with_reducible assumption) | assumption)
   have q308 : x10_1 < (l0_3.length : Int) := of_decide_eq_true (by first | (with_reducible assumption) | assumption)
   obtain ⟨ad308, e308, hx308_0, hx308_1⟩ := at_T68 HR0_3.out x10_1 p308 q308
   cases e308
   replace hx308_0 := (HB.out.cell (lc_ w _ hx308_0)).trans hx308_0
   replace hx308_1 := (HB.out.cell (lc_ w _ hx308_1)).trans hx308_1
   replace p308 := eq_true p308
   replace q308 := eq_true q308
   go_wp2_with (first | ((with_reducible refine gate_dst (N := 5) rfl ?_); refine box_event ?hg (N := 5) ?hd (cs := #[.int .i64 0, .int .u8 0]) (t := 68) ?hr ?_; (case hd => rfl); (case hg => rfl); (case hr => first | (go_simp; done) | (go_simp; rfl)); intro gb309 hg w22 hbox hb; replace HO_3 := mk_ (Kd.R_below (Kd.ur_ HO_3.out) hb); have n1_ := mk_ (blk_below (u_ BK307.out) hb); have n2_ := mk_ (below_step (us_ HB.out) hb); have BK309 := mk_ (hbox); have GW309 := mk_ ((by rw [hg]; exact (below_size (us_ HB.out)) : w.heap.size ≤ gb309)); have GE309 := ge_ ((by rw [hg]; exact (below_size (us_ HB.out)) : w.heap.size ≤ gb309)); have NB307_309 := nq_ ((by rw [hg]; exact Nat.ne_of_lt (blk_lt (u_ BK307.out)) : gb307 ≠ gb309)); have NB309_307 := nq_ ((by rw [hg]; exact Nat.ne_of_gt (blk_lt (u_ BK307.out)) : gb309 ≠ gb307)); replace BK307 := n1_; replace HB := n2_; clear n1_ n2_; clear hb hbox hg; have hnb23 := NB309_307.out; have hnc23 := NB307_309.out; obtain ⟨hcz24_0, hcz24_1, hfz24_0, hfz24_1⟩ := cells2_ BK309.out; obtain ⟨Ao25, co25, eo25⟩ := Kd.R_slice HO_3.out; subst eo25; have p310 : 0 ≤ ((ji8) : Int) := of_decide_eq_true (by first | (with_reducible assumption) | assumption); have q310 : (ji8) < (x3_1.length : Int) := of_decide_eq_true (by first | (with_reducible assumption) | assumption); obtain ⟨ad310, e310, hx310_0, hx310_1⟩ := at_T66 (Kd.R_reads' HO_3.out).2.2 (ji8) p310 q310; cases e310; have hn310_0 : ad310.block ≠ gb309 := Kd.own_blk (Kd.R_ne HO_3.out BK309.out (by decide)); have hn310_1 : ad310.block ≠ gb309 := Kd.own_blk (Kd.R_ne HO_3.out BK309.out (by decide)); replace hx310_0 := (cell_far (p := ⟨gb309, 0, none⟩) (by first | (rw [add_block]; exact hn310_0) | (show (Addr.add _ _).block ≠ _; rw [add_block]; exact hn310_0) | exact hn310_0) (.int .i64 ((rd_T68 l0_3 x10_1).f0))).trans hx310_0; replace hx310_1 := (cell_far (p := ⟨gb309, 0, none⟩) (by first | (rw [add_block]; exact hn310_0) | (show (Addr.add _ _).block ≠ _; rw [add_block]; exact hn310_0) | exact hn310_0) (.int .i64 ((rd_T68 l0_3 x10_1).f0))).trans hx310_1; replace hx310_0 := (cell_far (p := ⟨gb309, 1, none⟩) (by first | (rw [add_block]; exact hn310_1) | (show (Addr.add _ _).block ≠ _; rw [add_block]; exact hn310_1) | exact hn310_1) (.int .u8 ((rd_T68 l0_3 x10_1).f1))).trans hx310_0; replace hx310_1 := (cell_far (p := ⟨gb309, 1, none⟩) (by first | (rw [add_block]; exact hn310_1) | (show (Addr.add _ _).block ≠ _; rw [add_block]; exact hn310_1) | exact hn310_1) (.int .u8 ((rd_T68 l0_3 x10_1).f1))).trans hx310_1; (try have hy310_0 := fun (n_ : Nat) => (show ((((w22.drewN n_).setCell ⟨gb309, 0, none⟩ (.int .i64 ((rd_T68 l0_3 x10_1).f0))).setCell ⟨gb309, 1, none⟩ (.int .u8 ((rd_T68 l0_3 x10_1).f1)))).cell? _ = some _ from hx310_0)); (try have hy310_1 := fun (n_ : Nat) => (show ((((w22.drewN n_).setCell ⟨gb309, 0, none⟩ (.int .i64 ((rd_T68 l0_3 x10_1).f0))).setCell ⟨gb309, 1, none⟩ (.int .u8 ((rd_T68 l0_3 x10_1).f1)))).cell? _ = some _ from hx310_1)); clear hn310_0; clear hn310_1; replace p310 := eq_true p310; replace q310 := eq_true q310) | ((with_reducible refine gate_builtin (b := .append) (xs := #[.tmp 38, .tmp 45]) rfl ?_); at_builtin; refine Kd.R_append k66 (w0 := w) w.heap.size rfl (.tmp 38) (.tmp 45) 62 66 (.agg #[(.int .i64 0), (.int .i64 0)]) 16 rfl Try.underlying62 info66 rfl (by decide) (by omega) (.slice (some ad310) x3_1.length co25) x3_1 (⟨(rd_T68 l0_3 x10_1).f0, wrap64 (((rd_T68 l0_3 x10_1).f0) + 1)⟩ : S66) [.int .i64 ((rd_T68 l0_3 x10_1).f0), .int .i64 (wrap64 (((rd_T68 l0_3 x10_1).f0) + 1))] (fun _ => True) (fun _ => False) rfl (by first | (go_simp; done) | (go_simp; rfl)) ?aP (fun _ hk => hk.elim) ?aF ?aO ?aB ?aS ?aL ?_; (case aP => exact k66_mkM _ _ _ (⟨(rd_T68 l0_3 x10_1).f0, wrap64 (((rd_T68 l0_3 x10_1).f0) + 1)⟩ : S66)); (case aB => exact (us_ HB.out)); (case aF => exact (fun _ _ => trivial)); (case aO => exact (by (with_reducible repeat (first | apply Kd.R_alloc | apply Kd.R_drewN | apply Kd.R_drew)); exact Kd.R_mono (Kd.R_far (p := ⟨gb309, 1, none⟩) (Kd.R_far (p := ⟨gb309, 0, none⟩) (Kd.R_types HO_3.out BK309.out (by decide)) (fun _ hk => hk.2) (.int .i64 ((rd_T68 l0_3 x10_1).f0))) (fun _ hk => hk.2) (.int .u8 ((rd_T68 l0_3 x10_1).f1))) (fun _ hk => trivial))); (case aS => exact (below_size (us_ HB.out))); (case aL => have := LMc21.out; omega); intro v314 w26 ho hb hg hat; rw [← Ny313.out] at ho; replace BK307 := mk_ (blk_grown (g := gb307) (o := .cells #[.int .i64 a0_0, .int .i64 a0_1, .slice A0_2 l0_2.length c0_2, .slice (some ad308) l0_3.length c0_3] 59 (0, 0)) (uf_ BK307.out) hg (Kd.R_ne HO_3.out BK307.out (by decide))); replace BK309 := mk_ (blk_grown (g := gb309) (o := .cells #[.int .i64 ((rd_T68 l0_3 x10_1).f0), .int .u8 ((rd_T68 l0_3 x10_1).f1)] 68 (0, 0)) (by (with_reducible repeat (first | refine bn_ ?_ _ | refine bw_ ?_ | refine ba_ ?_ _)); refine blk_put (cs := #[.int .i64 ((rd_T68 l0_3 x10_1).f0), .int .u8 0]) ?_ 1 _ rfl; (with_reducible repeat (first | refine bn_ ?_ _ | refine bw_ ?_ | refine ba_ ?_ _)); refine blk_put (cs := #[.int .i64 0, .int .u8 0]) ?_ 0 _ rfl; (with_reducible repeat (first | refine bn_ ?_ _ | refine bw_ ?_ | refine ba_ ?_ _)); exact BK309.out) hg (Kd.R_ne HO_3.out BK309.out (by decide))); replace HB := mk_ (hb); have HO315 := mk_ (ho); clear HO_3; clear ho hb hg hat))
   repeat (go_quiet (first | ((with_reducible refine gate_dst (N := 5) rfl ?_); refine box_event ?hg (N := 5) ?hd (cs := #[.int .i64 0, .int .u8 0]) (t := 68) ?hr ?_; (case hd => rfl); (case hg => rfl); (case hr => first | (go_simp; done) | (go_simp; rfl)); intro gb309 hg w22 hbox hb; replace HO_3 := mk_ (Kd.R_below (Kd.ur_ HO_3.out) hb); have n1_ := mk_ (blk_below (u_ BK307.out) hb); have n2_ := mk_ (below_step (us_ HB.out) hb); have BK309 := mk_ (hbox); have GW309 := mk_ ((by rw [hg]; exact (below_size (us_ HB.out)) : w.heap.size ≤ gb309)); have GE309 := ge_ ((by rw [hg]; exact (below_size (us_ HB.out)) : w.heap.size ≤ gb309)); have NB307_309 := nq_ ((by rw [hg]; exact Nat.ne_of_lt (blk_lt (u_ BK307.out)) : gb307 ≠ gb309)); have NB309_307 := nq_ ((by rw [hg]; exact Nat.ne_of_gt (blk_lt (u_ BK307.out)) : gb309 ≠ gb307)); replace BK307 := n1_; replace HB := n2_; clear n1_ n2_; clear hb hbox hg; have hnb23 := NB309_307.out; have hnc23 := NB307_309.out; obtain ⟨hcz24_0, hcz24_1, hfz24_0, hfz24_1⟩ := cells2_ BK309.out; obtain ⟨Ao25, co25, eo25⟩ := Kd.R_slice HO_3.out; subst eo25; have p310 : 0 ≤ ((ji8) : Int) := of_decide_eq_true (by first | (with_reducible assumption) | assumption); have q310 : (ji8) < (x3_1.length : Int) := of_decide_eq_true (by first | (with_reducible assumption) | assumption); obtain ⟨ad310, e310, hx310_0, hx310_1⟩ := at_T66 (Kd.R_reads' HO_3.out).2.2 (ji8) p310 q310; cases e310; have hn310_0 : ad310.block ≠ gb309 := Kd.own_blk (Kd.R_ne HO_3.out BK309.out (by decide)); have hn310_1 : ad310.block ≠ gb309 := Kd.own_blk (Kd.R_ne HO_3.out BK309.out (by decide)); replace hx310_0 := (cell_far (p := ⟨gb309, 0, none⟩) (by first | (rw [add_block]; exact hn310_0) | (show (Addr.add _ _).block ≠ _; rw [add_block]; exact hn310_0) | exact hn310_0) (.int .i64 ((rd_T68 l0_3 x10_1).f0))).trans hx310_0; replace hx310_1 := (cell_far (p := ⟨gb309, 0, none⟩) (by first | (rw [add_block]; exact hn310_0) | (show (Addr.add _ _).block ≠ _; rw [add_block]; exact hn310_0) | exact hn310_0) (.int .i64 ((rd_T68 l0_3 x10_1).f0))).trans hx310_1; replace hx310_0 := (cell_far (p := ⟨gb309, 1, none⟩) (by first | (rw [add_block]; exact hn310_1) | (show (Addr.add _ _).block ≠ _; rw [add_block]; exact hn310_1) | exact hn310_1) (.int .u8 ((rd_T68 l0_3 x10_1).f1))).trans hx310_0; replace hx310_1 := (cell_far (p := ⟨gb309, 1, none⟩) (by first | (rw [add_block]; exact hn310_1) | (show (Addr.add _ _).block ≠ _; rw [add_block]; exact hn310_1) | exact hn310_1) (.int .u8 ((rd_T68 l0_3 x10_1).f1))).trans hx310_1; (try have hy310_0 := fun (n_ : Nat) => (show ((((w22.drewN n_).setCell ⟨gb309, 0, none⟩ (.int .i64 ((rd_T68 l0_3 x10_1).f0))).setCell ⟨gb309, 1, none⟩ (.int .u8 ((rd_T68 l0_3 x10_1).f1)))).cell? _ = some _ from hx310_0)); (try have hy310_1 := fun (n_ : Nat) => (show ((((w22.drewN n_).setCell ⟨gb309, 0, none⟩ (.int .i64 ((rd_T68 l0_3 x10_1).f0))).setCell ⟨gb309, 1, none⟩ (.int .u8 ((rd_T68 l0_3 x10_1).f1)))).cell? _ = some _ from hx310_1)); clear hn310_0; clear hn310_1; replace p310 := eq_true p310; replace q310 := eq_true q310) | ((with_reducible refine gate_builtin (b := .append) (xs := #[.tmp 38, .tmp 45]) rfl ?_); at_builtin; refine Kd.R_append k66 (w0 := w) w.heap.size rfl (.tmp 38) (.tmp 45) 62 66 (.agg #[(.int .i64 0), (.int .i64 0)]) 16 rfl Try.underlying62 info66 rfl (by decide) (by omega) (.slice (some ad310) x3_1.length co25) x3_1 (⟨(rd_T68 l0_3 x10_1).f0, wrap64 (((rd_T68 l0_3 x10_1).f0) + 1)⟩ : S66) [.int .i64 ((rd_T68 l0_3 x10_1).f0), .int .i64 (wrap64 (((rd_T68 l0_3 x10_1).f0) + 1))] (fun _ => True) (fun _ => False) rfl (by first | (go_simp; done) | (go_simp; rfl)) ?aP (fun _ hk => hk.elim) ?aF ?aO ?aB ?aS ?aL ?_; (case aP => exact k66_mkM _ _ _ (⟨(rd_T68 l0_3 x10_1).f0, wrap64 (((rd_T68 l0_3 x10_1).f0) + 1)⟩ : S66)); (case aB => exact (us_ HB.out)); (case aF => exact (fun _ _ => trivial)); (case aO => exact (by (with_reducible repeat (first | apply Kd.R_alloc | apply Kd.R_drewN | apply Kd.R_drew)); exact Kd.R_mono (Kd.R_far (p := ⟨gb309, 1, none⟩) (Kd.R_far (p := ⟨gb309, 0, none⟩) (Kd.R_types HO_3.out BK309.out (by decide)) (fun _ hk => hk.2) (.int .i64 ((rd_T68 l0_3 x10_1).f0))) (fun _ hk => hk.2) (.int .u8 ((rd_T68 l0_3 x10_1).f1))) (fun _ hk => trivial))); (case aS => exact (below_size (us_ HB.out))); (case aL => have := LMc21.out; omega); intro v314 w26 ho hb hg hat; rw [← Ny313.out] at ho; replace BK307 := mk_ (blk_grown (g := gb307) (o := .cells #[.int .i64 a0_0, .int .i64 a0_1, .slice A0_2 l0_2.length c0_2, .slice (some ad308) l0_3.length c0_3] 59 (0, 0)) (uf_ BK307.out) hg (Kd.R_ne HO_3.out BK307.out (by decide))); replace BK309 := mk_ (blk_grown (g := gb309) (o := .cells #[.int .i64 ((rd_T68 l0_3 x10_1).f0), .int .u8 ((rd_T68 l0_3 x10_1).f1)] 68 (0, 0)) (by (with_reducible repeat (first | refine bn_ ?_ _ | refine bw_ ?_ | refine ba_ ?_ _)); refine blk_put (cs := #[.int .i64 ((rd_T68 l0_3 x10_1).f0), .int .u8 0]) ?_ 1 _ rfl; (with_reducible repeat (first | refine bn_ ?_ _ | refine bw_ ?_ | refine ba_ ?_ _)); refine blk_put (cs := #[.int .i64 0, .int .u8 0]) ?_ 0 _ rfl; (with_reducible repeat (first | refine bn_ ?_ _ | refine bw_ ?_ | refine ba_ ?_ _)); exact BK309.out) hg (Kd.R_ne HO_3.out BK309.out (by decide))); replace HB := mk_ (hb); have HO315 := mk_ (ho); clear HO_3; clear ho hb hg hat)); try go_wp2_with (first | ((with_reducible refine gate_dst (N := 5) rfl ?_); refine box_event ?hg (N := 5) ?hd (cs := #[.int .i64 0, .int .u8 0]) (t := 68) ?hr ?_; (case hd => rfl); (case hg => rfl); (case hr => first | (go_simp; done) | (go_simp; rfl)); intro gb309 hg w22 hbox hb; replace HO_3 := mk_ (Kd.R_below (Kd.ur_ HO_3.out) hb); have n1_ := mk_ (blk_below (u_ BK307.out) hb); have n2_ := mk_ (below_step (us_ HB.out) hb); have BK309 := mk_ (hbox); have GW309 := mk_ ((by rw [hg]; exact (below_size (us_ HB.out)) : w.heap.size ≤ gb309)); have GE309 := ge_ ((by rw [hg]; exact (below_size (us_ HB.out)) : w.heap.size ≤ gb309)); have NB307_309 := nq_ ((by rw [hg]; exact Nat.ne_of_lt (blk_lt (u_ BK307.out)) : gb307 ≠ gb309)); have NB309_307 := nq_ ((by rw [hg]; exact Nat.ne_of_gt (blk_lt (u_ BK307.out)) : gb309 ≠ gb307)); replace BK307 := n1_; replace HB := n2_; clear n1_ n2_; clear hb hbox hg; have hnb23 := NB309_307.out; have hnc23 := NB307_309.out; obtain ⟨hcz24_0, hcz24_1, hfz24_0, hfz24_1⟩ := cells2_ BK309.out; obtain ⟨Ao25, co25, eo25⟩ := Kd.R_slice HO_3.out; subst eo25; have p310 : 0 ≤ ((ji8) : Int) := of_decide_eq_true (by first | (with_reducible assumption) | assumption); have q310 : (ji8) < (x3_1.length : Int) := of_decide_eq_true (by first | (with_reducible assumption) | assumption); obtain ⟨ad310, e310, hx310_0, hx310_1⟩ := at_T66 (Kd.R_reads' HO_3.out).2.2 (ji8) p310 q310; cases e310; have hn310_0 : ad310.block ≠ gb309 := Kd.own_blk (Kd.R_ne HO_3.out BK309.out (by decide)); have hn310_1 : ad310.block ≠ gb309 := Kd.own_blk (Kd.R_ne HO_3.out BK309.out (by decide)); replace hx310_0 := (cell_far (p := ⟨gb309, 0, none⟩) (by first | (rw [add_block]; exact hn310_0) | (show (Addr.add _ _).block ≠ _; rw [add_block]; exact hn310_0) | exact hn310_0) (.int .i64 ((rd_T68 l0_3 x10_1).f0))).trans hx310_0; replace hx310_1 := (cell_far (p := ⟨gb309, 0, none⟩) (by first | (rw [add_block]; exact hn310_0) | (show (Addr.add _ _).block ≠ _; rw [add_block]; exact hn310_0) | exact hn310_0) (.int .i64 ((rd_T68 l0_3 x10_1).f0))).trans hx310_1; replace hx310_0 := (cell_far (p := ⟨gb309, 1, none⟩) (by first | (rw [add_block]; exact hn310_1) | (show (Addr.add _ _).block ≠ _; rw [add_block]; exact hn310_1) | exact hn310_1) (.int .u8 ((rd_T68 l0_3 x10_1).f1))).trans hx310_0; replace hx310_1 := (cell_far (p := ⟨gb309, 1, none⟩) (by first | (rw [add_block]; exact hn310_1) | (show (Addr.add _ _).block ≠ _; rw [add_block]; exact hn310_1) | exact hn310_1) (.int .u8 ((rd_T68 l0_3 x10_1).f1))).trans hx310_1; (try have hy310_0 := fun (n_ : Nat) => (show ((((w22.drewN n_).setCell ⟨gb309, 0, none⟩ (.int .i64 ((rd_T68 l0_3 x10_1).f0))).setCell ⟨gb309, 1, none⟩ (.int .u8 ((rd_T68 l0_3 x10_1).f1)))).cell? _ = some _ from hx310_0)); (try have hy310_1 := fun (n_ : Nat) => (show ((((w22.drewN n_).setCell ⟨gb309, 0, none⟩ (.int .i64 ((rd_T68 l0_3 x10_1).f0))).setCell ⟨gb309, 1, none⟩ (.int .u8 ((rd_T68 l0_3 x10_1).f1)))).cell? _ = some _ from hx310_1)); clear hn310_0; clear hn310_1; replace p310 := eq_true p310; replace q310 := eq_true q310) | ((with_reducible refine gate_builtin (b := .append) (xs := #[.tmp 38, .tmp 45]) rfl ?_); at_builtin; refine Kd.R_append k66 (w0 := w) w.heap.size rfl (.tmp 38) (.tmp 45) 62 66 (.agg #[(.int .i64 0), (.int .i64 0)]) 16 rfl Try.underlying62 info66 rfl (by decide) (by omega) (.slice (some ad310) x3_1.length co25) x3_1 (⟨(rd_T68 l0_3 x10_1).f0, wrap64 (((rd_T68 l0_3 x10_1).f0) + 1)⟩ : S66) [.int .i64 ((rd_T68 l0_3 x10_1).f0), .int .i64 (wrap64 (((rd_T68 l0_3 x10_1).f0) + 1))] (fun _ => True) (fun _ => False) rfl (by first | (go_simp; done) | (go_simp; rfl)) ?aP (fun _ hk => hk.elim) ?aF ?aO ?aB ?aS ?aL ?_; (case aP => exact k66_mkM _ _ _ (⟨(rd_T68 l0_3 x10_1).f0, wrap64 (((rd_T68 l0_3 x10_1).f0) + 1)⟩ : S66)); (case aB => exact (us_ HB.out)); (case aF => exact (fun _ _ => trivial)); (case aO => exact (by (with_reducible repeat (first | apply Kd.R_alloc | apply Kd.R_drewN | apply Kd.R_drew)); exact Kd.R_mono (Kd.R_far (p := ⟨gb309, 1, none⟩) (Kd.R_far (p := ⟨gb309, 0, none⟩) (Kd.R_types HO_3.out BK309.out (by decide)) (fun _ hk => hk.2) (.int .i64 ((rd_T68 l0_3 x10_1).f0))) (fun _ hk => hk.2) (.int .u8 ((rd_T68 l0_3 x10_1).f1))) (fun _ hk => trivial))); (case aS => exact (below_size (us_ HB.out))); (case aL => have := LMc21.out; omega); intro v314 w26 ho hb hg hat; rw [← Ny313.out] at ho; replace BK307 := mk_ (blk_grown (g := gb307) (o := .cells #[.int .i64 a0_0, .int .i64 a0_1, .slice A0_2 l0_2.length c0_2, .slice (some ad308) l0_3.length c0_3] 59 (0, 0)) (uf_ BK307.out) hg (Kd.R_ne HO_3.out BK307.out (by decide))); replace BK309 := mk_ (blk_grown (g := gb309) (o := .cells #[.int .i64 ((rd_T68 l0_3 x10_1).f0), .int .u8 ((rd_T68 l0_3 x10_1).f1)] 68 (0, 0)) (by (with_reducible repeat (first | refine bn_ ?_ _ | refine bw_ ?_ | refine ba_ ?_ _)); refine blk_put (cs := #[.int .i64 ((rd_T68 l0_3 x10_1).f0), .int .u8 0]) ?_ 1 _ rfl; (with_reducible repeat (first | refine bn_ ?_ _ | refine bw_ ?_ | refine ba_ ?_ _)); refine blk_put (cs := #[.int .i64 0, .int .u8 0]) ?_ 0 _ rfl; (with_reducible repeat (first | refine bn_ ?_ _ | refine bw_ ?_ | refine ba_ ?_ _)); exact BK309.out) hg (Kd.R_ne HO_3.out BK309.out (by decide))); replace HB := mk_ (hb); have HO315 := mk_ (ho); clear HO_3; clear ho hb hg hat)))
   go_roundg k1
   case measure => have := HK1.out; omega
   case rel => exact ⟨(y313), (wrap64 (x10_1 + 1)), (by first | rfl | (simp; done) | (simp [*]; done)), H', ⟨by have := HK1.out; omega⟩, ⟨Kd.ur_ HO315.out⟩, ⟨u_ BK307.out⟩, ⟨us_ HB.out⟩⟩

/-! ### impl_EarRanges: function 35 -/
def impl_EarRanges.f (k : Nat) (a0_0 : Int) (a0_1 : Int) (l0_2 : List Int) (l0_3 : List (S68)) : Option ((List (S66))) := (impl_EarOk.f k a0_0 a0_1 l0_2 l0_3).bind fun t327 => (if t327 = true then ((impl_Ear_ranges.f k a0_0 a0_1 l0_2 l0_3).bind fun t328 => (some t328)) else (some ([] : List (S66))))
theorem impl_EarRanges.mono : ∀ a0 a1 a2 a3 k, LeO (impl_EarRanges.f k a0 a1 a2 a3) (impl_EarRanges.f (k + 1) a0 a1 a2 a3) := by
 intro a0 a1 a2 a3 k
 unfold impl_EarRanges.f
 repeat' first
   | (with_reducible exact impl_EarOk.mono _ _ _ _ _)
   | (with_reducible exact impl_Ear_ranges.mono _ _ _ _ _)
   | (with_reducible exact LeO.refl _)
   | (with_reducible exact LeO.none _)
   | (with_reducible refine LeO.ite ?_ ?_)
   | (with_reducible refine LeO.bind ?_ (fun _ => ?_))
   | exact impl_EarOk.mono _ _ _ _ _
   | exact impl_Ear_ranges.mono _ _ _ _ _
   | exact LeO.none _
   | refine LeO.ite ?_ ?_
   | refine LeO.bind ?_ (fun _ => ?_)
set_option maxHeartbeats 8000000 in
set_option maxRecDepth 100000 in
theorem impl_EarRanges.calls (k : Nat) (a0_0 : Int) (a0_1 : Int) (A0_2 : Option Addr) (c0_2 : Nat) (l0_2 : List Int) (A0_3 : Option Addr) (c0_3 : Nat) (l0_3 : List (S68)) (r : List (S66)) (w : World) (hr0_2 : Kd.C (Kd.int .u8) w A0_2 l0_2.length l0_2) (hc0_2 : l0_2.length ≤ c0_2) (hr0_3 : Kd.C k68 w A0_3 l0_3.length l0_3) (hc0_3 : l0_3.length ≤ c0_3) (h : impl_EarRanges.f k a0_0 a0_1 l0_2 l0_3 = some r) :
  Calls Try.prog 35 #[.agg #[.int .i64 a0_0, .int .i64 a0_1, .slice A0_2 l0_2.length c0_2, .slice A0_3 l0_3.length c0_3]] w fun e w' => ∃ v0_ : Value, e = .returned (v0_) ∧ Kd.R k66 66 w' w.heap.size (fun _ => True) v0_ r ∧ Below w.heap.size w w' := by
 have hu59 := Try.underlying59
 have HR0_2 := mk_ hr0_2
 have HC0_2 := mk_ hc0_2
 clear hr0_2 hc0_2
 have HR0_3 := mk_ hr0_3
 have HC0_3 := mk_ hc0_3
 clear hr0_3 hc0_3
 have HB := mk_ (Below.refl w.heap.size w)
 have H := h
 unfold impl_EarRanges.f at H
 clear h
 replace H := Option.bind_eq_some_iff.mp H
 obtain ⟨t327, A20, H⟩ := H
 (try dsimp only at H)
 have A2 := mk_ A20
 clear A20
 by_cases c3 : t327 = true
 rotate_left
 focus
  replace c3 := Bool.eq_false_iff.mpr c3
  subst c3
  have H1 : (some ([] : List (S66))) = some r := by rw [if_neg (show ¬ (false = true) by decide)] at H; exact H
  clear H
  have H := H1
  clear H1
  obtain rfl := Option.some.inj H
 rotate_left
 focus
  subst c3
  rw [if_pos rfl] at H
  replace H := Option.bind_eq_some_iff.mp H
  obtain ⟨t328, A40, H⟩ := H
  replace H : (some t328) = some r := H
  have A4 := mk_ A40
  clear A40
  obtain rfl := Option.some.inj H
 rotate_left
 all_goals
  go_enter Try.func35, Try.ntmps35
  go_wp2_with (first | ((with_reducible refine gate_dst (N := 1) rfl ?_); refine box_event ?hg (N := 1) ?hd (cs := #[.int .i64 a0_0, .int .i64 a0_1, .slice A0_2 l0_2.length c0_2, .slice A0_3 l0_3.length c0_3]) (t := 59) ?hr ?_; (case hd => rfl); (case hg => rfl); (case hr => first | (go_simp; done) | (go_simp; rfl)); intro gb1560 hg w1561 hbox hb; have n0_ := mk_ (below_step (ub_ HB.out) hb); have BK326 := mk_ (hbox); have GW326 := mk_ ((by rw [hg]; exact (below_size (ub_ HB.out)) : w.heap.size ≤ gb1560)); have GE326 := ge_ ((by rw [hg]; exact (below_size (ub_ HB.out)) : w.heap.size ≤ gb1560)); replace HB := n0_; clear n0_; clear hb hbox hg; obtain ⟨_, _, _, _, _, _, _, _⟩ := cells4_ BK326.out) | ((with_reducible refine gate_callee (f := 32) rfl ?_); refine goesL_ (some 4) rfl rfl Try.func32 (by kernel_rfl) rfl #[.agg #[.int .i64 a0_0, .int .i64 a0_1, .slice A0_2 l0_2.length c0_2, .slice A0_3 l0_3.length c0_3]] rfl (by (try simp only [lm_, lo_, ln_]); try rfl) ?_; (with_reducible refine (impl_EarOk.calls k a0_0 a0_1 _ _ l0_2 _ _ l0_3 false _ ?side1 ?side2 ?side3 ?side4 A2.out).mono ?_); (case side1 => repeat (first | exact (Kd.C_below HR0_2.out HB.out) | (with_reducible refine Kd.C_alloc ?_ _) | (with_reducible refine Kd.C_drewN ?_ _) | (with_reducible refine Kd.C_drew ?_))); (case side2 => exact HC0_2.out); (case side3 => repeat (first | exact (Kd.C_below HR0_3.out HB.out) | (with_reducible refine Kd.C_alloc ?_ _) | (with_reducible refine Kd.C_drewN ?_ _) | (with_reducible refine Kd.C_drew ?_))); (case side4 => exact HC0_3.out); rintro e w1600 ⟨rfl, hb⟩; refine ⟨_, rfl, ?_⟩; replace BK326 := mk_ (blk_below (u_ BK326.out) hb); replace HB := mk_ (below_step (us_ HB.out) hb)) | ((with_reducible refine gate_callee (f := 32) rfl ?_); refine goesL_ (some 4) rfl rfl Try.func32 (by kernel_rfl) rfl #[.agg #[.int .i64 a0_0, .int .i64 a0_1, .slice A0_2 l0_2.length c0_2, .slice A0_3 l0_3.length c0_3]] rfl (by (try simp only [lm_, lo_, ln_]); try rfl) ?_; (with_reducible refine (impl_EarOk.calls k a0_0 a0_1 _ _ l0_2 _ _ l0_3 true _ ?side1 ?side2 ?side3 ?side4 A2.out).mono ?_); (case side1 => repeat (first | exact (Kd.C_below HR0_2.out HB.out) | (with_reducible refine Kd.C_alloc ?_ _) | (with_reducible refine Kd.C_drewN ?_ _) | (with_reducible refine Kd.C_drew ?_))); (case side2 => exact HC0_2.out); (case side3 => repeat (first | exact (Kd.C_below HR0_3.out HB.out) | (with_reducible refine Kd.C_alloc ?_ _) | (with_reducible refine Kd.C_drewN ?_ _) | (with_reducible refine Kd.C_drew ?_))); (case side4 => exact HC0_3.out); rintro e w1600 ⟨rfl, hb⟩; refine ⟨_, rfl, ?_⟩; replace BK326 := mk_ (blk_below (u_ BK326.out) hb); replace HB := mk_ (below_step (us_ HB.out) hb); obtain ⟨hcz150326_0, hcz150326_1, hcz150326_2, hcz150326_3, hfz150326_0, hfz150326_1, hfz150326_2, hfz150326_3⟩ := cells4_ BK326.out) | ((with_reducible refine gate_callee (f := 77) rfl ?_); refine goesL_ (some 7) rfl rfl Try.func77 (by kernel_rfl) rfl #[.agg #[.int .i64 a0_0, .int .i64 a0_1, .slice A0_2 l0_2.length c0_2, .slice A0_3 l0_3.length c0_3]] rfl (by (try simp only [lm_, lo_, ln_]); try rfl) ?_; (with_reducible refine (impl_Ear_ranges.calls k a0_0 a0_1 _ _ l0_2 _ _ l0_3 t328 _ ?side1 ?side2 ?side3 ?side4 A4.out).mono ?_); (case side1 => repeat (first | exact (Kd.C_below HR0_2.out HB.out) | (with_reducible refine Kd.C_alloc ?_ _) | (with_reducible refine Kd.C_drewN ?_ _) | (with_reducible refine Kd.C_drew ?_))); (case side2 => exact HC0_2.out); (case side3 => repeat (first | exact (Kd.C_below HR0_3.out HB.out) | (with_reducible refine Kd.C_alloc ?_ _) | (with_reducible refine Kd.C_drewN ?_ _) | (with_reducible refine Kd.C_drew ?_))); (case side4 => exact HC0_3.out); rintro e w1640 ⟨v1641, rfl, ho1642, hb⟩; refine ⟨_, rfl, ?_⟩; have HO330 := mk_ (Kd.R_lower ho1642 (below_size (us_ HB.out))); replace BK326 := mk_ (blk_below (u_ BK326.out) hb); replace HB := mk_ (below_step (us_ HB.out) hb)))
  go_ret
 ·exact ⟨_, by first | rfl | (simp [errW_none, errW_some] <;> rfl) | (simp [*, errW_none, errW_some] <;> rfl), by first | exact Kd.R_nil _ _ _ _ _ | exact Kd.N_nil _ _ _ _ _ | exact Kd.V_nil _ _ _ _ _ | exact Kd.Q_nil _ _ _ _ _ | exact Kd.S_nil _ _ _ _ _, us_ HB.out⟩
 ·exact ⟨_, by first | rfl | (simp [errW_none, errW_some] <;> rfl) | (simp [*, errW_none, errW_some] <;> rfl), by (with_reducible repeat (first | apply Kd.R_alloc | apply Kd.R_drewN | apply Kd.R_drew)); exact HO330.out, us_ HB.out⟩

/-! ### laws_sameRanges: function 36 -/
def laws_sameRanges.l0 : Nat → List (S66) → List (S66) → Int → Option (Bool)
 | 0, _, _, _ => none
 | k + 1, x0, x1, x5 => if x5 < (x0.length : Int) then (if 0 ≤ x5 then (if x5 < (x1.length : Int) then (if (!(((rd_T66 x0 x5).f0) == ((rd_T66 x1 x5).f0)) || (!(((rd_T66 x0 x5).f1) == ((rd_T66 x1 x5).f1)))) = true then (some false) else (laws_sameRanges.l0 k x0 x1 (wrap64 (x5 + 1)))) else (none)) else (none)) else (some true)
def laws_sameRanges.f (k : Nat) (l0 : List (S66)) (l1 : List (S66)) : Option (Bool) := if (l0.length : Int) = (l1.length : Int) then (laws_sameRanges.l0 k l0 l1 0) else (some false)
theorem laws_sameRanges.mono_l : ∀ k, (∀ y0 y1 y2, LeO (laws_sameRanges.l0 k y0 y1 y2) (laws_sameRanges.l0 (k + 1) y0 y1 y2))
 | 0 => fun _ _ _ r h => by simp [laws_sameRanges.l0] at h
 | k + 1 => by
  have ih0 := laws_sameRanges.mono_l k
  ·intro y0 y1 y2
   unfold laws_sameRanges.l0
   repeat' first
   | (with_reducible exact ih0 _ _ _)
   | (with_reducible exact LeO.refl _)
   | (with_reducible exact LeO.none _)
   | (with_reducible refine LeO.ite ?_ ?_)
   | (with_reducible refine LeO.bind ?_ (fun _ => ?_))
   | exact ih0 _ _ _
   | exact LeO.none _
   | refine LeO.ite ?_ ?_
   | refine LeO.bind ?_ (fun _ => ?_)
theorem laws_sameRanges.mono : ∀ a0 a1 k, LeO (laws_sameRanges.f k a0 a1) (laws_sameRanges.f (k + 1) a0 a1) := by
 intro a0 a1 k
 have ih0 := laws_sameRanges.mono_l k
 unfold laws_sameRanges.f
 repeat' first
   | (with_reducible exact ih0 _ _ _)
   | (with_reducible exact LeO.refl _)
   | (with_reducible exact LeO.none _)
   | (with_reducible refine LeO.ite ?_ ?_)
   | (with_reducible refine LeO.bind ?_ (fun _ => ?_))
   | exact ih0 _ _ _
   | exact LeO.none _
   | refine LeO.ite ?_ ?_
   | refine LeO.bind ?_ (fun _ => ?_)
set_option maxHeartbeats 8000000 in
set_option maxRecDepth 100000 in
theorem laws_sameRanges.calls (k : Nat) (A0 : Option Addr) (c0 : Nat) (l0 : List (S66)) (A1 : Option Addr) (c1 : Nat) (l1 : List (S66)) (r : Bool) (w : World) (hr0 : Kd.C k66 w A0 l0.length l0) (hc0 : l0.length ≤ c0) (hr1 : Kd.C k66 w A1 l1.length l1) (hc1 : l1.length ≤ c1) (h : laws_sameRanges.f k l0 l1 = some r) :
  Calls Try.prog 36 #[.slice A0 l0.length c0, .slice A1 l1.length c1] w fun e w' => e = .returned (.bool r) ∧ Drawn0 w w' := by
 have hu66 := Try.underlying66
 have HR0 := mk_ hr0
 have HC0 := mk_ hc0
 clear hr0 hc0
 have HR1 := mk_ hr1
 have HC1 := mk_ hc1
 clear hr1 hc1
 have H := h
 unfold laws_sameRanges.f at H
 clear h
 by_cases c3 : (l0.length : Int) = (l1.length : Int)
 rotate_left
 ·rw [if_neg c3] at H
  have c3b0 : ((l0.length : Int) == (l1.length : Int)) = false := beq_eq_false_iff_ne.mpr c3
  have c3b1 : ((l0.length : Int) != (l1.length : Int)) = true := bne_iff_ne.mpr c3
  have c3b2 : (l0.length == l1.length) = false := by first | simpa using c3 | (simp at c3 ⊢; omega)
  obtain rfl := Option.some.inj H
  go_enter Try.func36, Try.ntmps36
  go_wp2
  repeat (go_quiet (fail); try go_wp2)
  go_ret
  exact ⟨by first | rfl | (simp; done) | (simp [*]; done), by repeat (first | exact Drawn0.refl _ | apply Drawn0.step)⟩
 rw [if_pos c3] at H
 have c3b0 : ((l0.length : Int) == (l1.length : Int)) = true := beq_iff_eq.mpr c3
 have c3b1 : ((l0.length : Int) != (l1.length : Int)) = false := bne_eq_false_iff_eq.mpr c3
 have c3b2 : (l0.length == l1.length) = true := by first | simpa using c3 | (simp at c3 ⊢; omega)
 clear c3
 have H' := mk_ H
 clear H
 go_enter Try.func36, Try.ntmps36
 go_wp2
 repeat (go_quiet (fail); try go_wp2)
 go_loopg [5] k (fun kq v5 w' => ∃ (x5_1 : Int), v5 = .int .i64 x5_1 ∧ Aside0 (laws_sameRanges.l0 kq l0 l1 x5_1 = some r) ∧ Aside0 (kq ≤ k) ∧ Drawn0 w w')
 case atStart => exact ⟨(0), (by first | rfl | (simp; done) | (simp [*]; done)), H', ⟨Nat.le_refl _⟩, by repeat (first | exact Drawn0.refl _ | apply Drawn0.step)⟩
 case round =>
  clear H'
  try clear c1
  try clear p2
  try clear c3
  try clear c3b0
  try clear c3b1
  try clear c3b2
  obtain ⟨x5_1, rfl, HA, HK1, ⟨m1, rfl⟩⟩ := hrel
  cases gk with
  | zero => exact absurd HA.out (by simp [laws_sameRanges.l0])
  | succ k1 =>
   have H := HA.out
   clear HA
   simp only [laws_sameRanges.l0] at H
   by_cases c4 : x5_1 < (l0.length : Int)
   rotate_left
   ·rw [if_neg c4] at H
    have c4b0 : decide (x5_1 < (l0.length : Int)) = false := decide_eq_false c4
    clear c4
    obtain rfl := Option.some.inj H
    go_wp2
    repeat (go_quiet (fail); try go_wp2)
    go_ret
    exact ⟨by first | rfl | (simp; done) | (simp [*]; done), by repeat (first | exact Drawn0.refl _ | apply Drawn0.step)⟩
   rw [if_pos c4] at H
   have c4b0 : decide (x5_1 < (l0.length : Int)) = true := decide_eq_true c4
   clear c4
   by_cases c5 : 0 ≤ x5_1
   rotate_left
   ·rw [if_neg c5] at H
    exact absurd H (by simp)
   rw [if_pos c5] at H
   have c5b0 : decide (0 ≤ x5_1) = true := decide_eq_true c5
   clear c5
   by_cases c6 : x5_1 < (l1.length : Int)
   rotate_left
   ·rw [if_neg c6] at H
    exact absurd H (by simp)
   rw [if_pos c6] at H
   have c6b0 : decide (x5_1 < (l1.length : Int)) = true := decide_eq_true c6
   clear c6
   by_cases c7 : (!(((rd_T66 l0 x5_1).f0) == ((rd_T66 l1 x5_1).f0)) || (!(((rd_T66 l0 x5_1).f1) == ((rd_T66 l1 x5_1).f1)))) = true
   ·rw [if_pos c7] at H
    have c7b0 : (!(((rd_T66 l0 x5_1).f0) == ((rd_T66 l1 x5_1).f0)) || (!(((rd_T66 l0 x5_1).f1) == ((rd_T66 l1 x5_1).f1)))) = true := c7
    clear c7
    obtain rfl := Option.some.inj H
    have p331 : 0 ≤ (x5_1 : Int) := of_decide_eq_true (by first | (with_reducible assumption) | assumption)
    have q331 : x5_1 < (l0.length : Int) := of_decide_eq_true (by first | (with_reducible assumption) | assumption)
    obtain ⟨ad331, e331, hx331_0, hx331_1⟩ := at_T66 HR0.out x5_1 p331 q331
    cases e331
    replace p331 := eq_true p331
    replace q331 := eq_true q331
    have p332 : 0 ≤ (x5_1 : Int) := of_decide_eq_true (by first | (with_reducible assumption) | assumption)
    have q332 : x5_1 < (l1.length : Int) := of_decide_eq_true (by first | (with_reducible assumption) | assumption)
    obtain ⟨ad332, e332, hx332_0, hx332_1⟩ := at_T66 HR1.out x5_1 p332 q332
    cases e332
    replace p332 := eq_true p332
    replace q332 := eq_true q332
    go_wp2
    repeat (go_quiet (fail); try go_wp2)
    go_ret
    exact ⟨by first | rfl | (simp; done) | (simp [*]; done), by repeat (first | exact Drawn0.refl _ | apply Drawn0.step)⟩
   rw [if_neg c7] at H
   have c7b0 : (!(((rd_T66 l0 x5_1).f0) == ((rd_T66 l1 x5_1).f0)) || (!(((rd_T66 l0 x5_1).f1) == ((rd_T66 l1 x5_1).f1)))) = false := by simpa using c7
   clear c7
   have H' := mk_ H
   clear H
   have p331 : 0 ≤ (x5_1 : Int) := of_decide_eq_true (by first | (with_reducible assumption) | assumption)
   have q331 : x5_1 < (l0.length : Int) := of_decide_eq_true (by first | (with_reducible assumption) | assumption)
   obtain ⟨ad331, e331, hx331_0, hx331_1⟩ := at_T66 HR0.out x5_1 p331 q331
   cases e331
   replace p331 := eq_true p331
   replace q331 := eq_true q331
   have p332 : 0 ≤ (x5_1 : Int) := of_decide_eq_true (by first | (with_reducible assumption) | assumption)
   have q332 : x5_1 < (l1.length : Int) := of_decide_eq_true (by first | (with_reducible assumption) | assumption)
   obtain ⟨ad332, e332, hx332_0, hx332_1⟩ := at_T66 HR1.out x5_1 p332 q332
   cases e332
   replace p332 := eq_true p332
   replace q332 := eq_true q332
   go_wp2
   repeat (go_quiet (fail); try go_wp2)
   go_roundg k1
   case measure => have := HK1.out; omega
   case rel => exact ⟨(wrap64 (x5_1 + 1)), (by first | rfl | (simp; done) | (simp [*]; done)), H', ⟨by have := HK1.out; omega⟩, by repeat (first | exact Drawn0.refl _ | apply Drawn0.step)⟩

end Go.Proofs.Ytkkibccnpkbbjab.MFnEarRanges
