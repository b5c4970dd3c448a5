/- Functions that the law FnNoteEchoed reaches, each with the proof that the machine's call comes to just its answer; no conditions but those that each theorem states. Printed by a program of this session over the kit's print. -/
import Derived.Test.YtkkibccnpkbbjabMFnNoteEchoedx0
import Derived.Test.YtkkibccnpkbbjabMFnNoteEchoedx1
import Derived.Test.YtkkibccnpkbbjabMFnNoteEchoedx3
namespace Go.Proofs.Ytkkibccnpkbbjab.MFnNoteEchoed
open Go.RowKit Go.Proofs.YtkkibccnpkbbjabV.PrintWords Go.Proofs.YtkkibccnpkbbjabV.PrintLast Go.Proofs.YtkkibccnpkbbjabV.PrintMore
attribute [local go_sem] max2_int min2_int max_two min_two max_three min_three max_four min_four   -- for this text's walks alone
set_option linter.unusedVariables false
set_option linter.unusedSimpArgs false

/-! ### spec_DrawNoteEchoed: function 15 -/
def spec_DrawNoteEchoed.f (k : Nat) (l0 : List Int) : Option (Int × Int × Int × Int × Int × Int × Bool × Bool × List Int × Int) := (spec_l20Open.f l0).bind fun bt273 => ((spec_l20Noted.f k bt273.1 bt273.2 12).bind fun bt276 => ((spec_l20Rd_pick.f k bt273.1 bt276.2.2.2.2.2.2.2.2.2 4).bind fun bt289 => (if bt289.1 > 0 then (some (bt276.1, bt276.2.1, bt276.2.2.1, bt276.2.2.2.1, bt276.2.2.2.2.1, bt276.2.2.2.2.2.1, bt276.2.2.2.2.2.2.1, bt276.2.2.2.2.2.2.2.1, bt276.2.2.2.2.2.2.2.2.1, bt276.2.1)) else ((spec_l20Rd_pick.f k bt273.1 bt289.2 5).bind fun bt291 => (some (bt276.1, bt276.2.1, bt276.2.2.1, bt276.2.2.2.1, bt276.2.2.2.2.1, bt276.2.2.2.2.2.1, bt276.2.2.2.2.2.2.1, bt276.2.2.2.2.2.2.2.1, bt276.2.2.2.2.2.2.2.2.1, bt291.1))))))
theorem spec_DrawNoteEchoed.mono : ∀ a0 k, LeO (spec_DrawNoteEchoed.f k a0) (spec_DrawNoteEchoed.f (k + 1) a0) := by
 intro a0 k
 unfold spec_DrawNoteEchoed.f
 repeat' first
   | (with_reducible exact spec_l20Noted.mono _ _ _ _)
   | (with_reducible exact spec_l20Rd_pick.mono _ _ _ _)
   | (with_reducible exact LeO.refl _)
   | (with_reducible exact LeO.none _)
   | (with_reducible refine LeO.ite ?_ ?_)
   | (with_reducible refine LeO.bind ?_ (fun _ => ?_))
   | exact spec_l20Noted.mono _ _ _ _
   | exact spec_l20Rd_pick.mono _ _ _ _
   | exact LeO.none _
   | refine LeO.ite ?_ ?_
   | refine LeO.bind ?_ (fun _ => ?_)
set_option maxHeartbeats 8000000 in
set_option maxRecDepth 100000 in
theorem spec_DrawNoteEchoed.calls (k : Nat) (A0 : Option Addr) (c0 : Nat) (l0 : List Int) (r1 : Int) (r2 : Int) (r3 : Int) (r4 : Int) (r5 : Int) (r6 : Int) (r7 : Bool) (r8 : Bool) (r9 : List Int) (r10 : Int) (w : World) (hr0 : Kd.C (Kd.int .u8) w A0 l0.length l0) (hc0 : l0.length ≤ c0) (h : spec_DrawNoteEchoed.f k l0 = some (r1, r2, r3, r4, r5, r6, r7, r8, r9, r10)) :
  Calls Try.prog 15 #[.slice A0 l0.length c0] w fun e w' => ∃ v8_ : Value, e = .returned (.tuple #[.agg #[.int .i64 r1, .int .i64 r2, .int .i64 r3, .int .i64 r4, .int .i64 r5, .int .i64 r6, .bool r7, .bool r8, v8_], .int .i64 r10]) ∧ Kd.R (Kd.int .u8) 5 w' w.heap.size (fun _ => True) v8_ r9 ∧ Below w.heap.size w w' := by
 have hu37 := Try.underlying37
 have HR0 := mk_ hr0
 have HC0 := mk_ hc0
 clear hr0 hc0
 have HB := mk_ (Below.refl w.heap.size w)
 have H := h
 unfold spec_DrawNoteEchoed.f at H
 clear h
 replace H := Option.bind_eq_some_iff.mp H
 obtain ⟨⟨t273, t274⟩, A20, H⟩ := H
 (try dsimp only at H)
 have A2 := mk_ A20
 clear A20
 replace H := Option.bind_eq_some_iff.mp H
 obtain ⟨⟨t276, t277, t278, t279, t280, t281, t282, t283, t284, t287⟩, A30, H⟩ := H
 (try dsimp only at H)
 have A3 := mk_ A30
 clear A30
 replace H := Option.bind_eq_some_iff.mp H
 obtain ⟨⟨t289, t290⟩, A40, H⟩ := H
 (try dsimp only at H)
 have A4 := mk_ A40
 clear A40
 by_cases c5 : t289 > 0
 focus
  rw [if_pos c5] at H
  have c5b0 : decide (0 < t289) = true := decide_eq_true c5
  clear c5
  simp only [Option.some.injEq, Prod.mk.injEq] at H
  obtain ⟨rfl, rfl, rfl, rfl, rfl, rfl, rfl, rfl, rfl, rfl⟩ := H
 rotate_left
 focus
  rw [if_neg c5] at H
  have c5b0 : decide (0 < t289) = false := decide_eq_false c5
  clear c5
  replace H := Option.bind_eq_some_iff.mp H
  obtain ⟨⟨t291, t292⟩, A260, H⟩ := H
  replace H : (some (t276, t277, t278, t279, t280, t281, t282, t283, t284, t291)) = some (r1, r2, r3, r4, r5, r6, r7, r8, r9, r10) := H
  have A26 := mk_ A260
  clear A260
  simp only [Option.some.injEq, Prod.mk.injEq] at H
  obtain ⟨rfl, rfl, rfl, rfl, rfl, rfl, rfl, rfl, rfl, rfl⟩ := H
 rotate_left
 all_goals
  go_enter Try.func15, Try.ntmps15
  try go_wp2_with (first | ((with_reducible refine gate_dst (N := 2) rfl ?_); refine box_event ?hg (N := 2) ?hd (cs := #[.int .i64 0, .int .i64 0, .int .i64 0, .int .i64 0, .int .i64 0, .int .i64 0, .bool false, .bool false, .slice none 0 0]) (t := 37) ?hr ?_; (case hd => rfl); (case hg => rfl); (case hr => first | (go_simp; done) | (go_simp; rfl)); intro gb13640 hg w13641 hbox hb; have n0_ := mk_ (below_step (ub_ HB.out) hb); have BK272 := mk_ (hbox); have GW272 := mk_ ((by rw [hg]; exact (below_size (ub_ HB.out)) : w.heap.size ≤ gb13640)); have GE272 := ge_ ((by rw [hg]; exact (below_size (ub_ HB.out)) : w.heap.size ≤ gb13640)); replace HB := n0_; clear n0_; clear hb hbox hg) | ((with_reducible refine gate_callee (f := 44) rfl ?_); refine goesL_ (some 7) rfl rfl Try.func44 (by kernel_rfl) rfl #[.slice A0 l0.length c0] rfl (by (try simp only [lm_, lo_, ln_]); try rfl) ?_; (with_reducible refine (spec_l20Open.calls _ _ l0 t273 t274 w _ ?side1 ?side2 ?side3 A2.out).mono ?_); (case side1 => repeat (first | (with_reducible first | exact HB.out | apply na_ | apply nn_ | apply nw_ | refine bs_ ?_ GE272.out) | exact HB.out)); (case side2 => exact HR0.out); (case side3 => exact HC0.out); rintro e w13680 ⟨g13681, rfl, hi, hb, hb13682⟩; refine ⟨_, rfl, ?_⟩; have n0_ := mk_ (blk_below (u_ BK272.out) hb13682); replace HB := mk_ (hb); have HI13681 := mk_ (hi); have NB275_272 := nq_ (IsS107.ne_blk hi (blk_below (u_ BK272.out) hb13682) (by decide)); have NB272_275 := nq_ (Ne.symm (IsS107.ne_blk hi (blk_below (u_ BK272.out) hb13682) (by decide))); replace BK272 := n0_; clear n0_) | ((with_reducible refine gate_callee (f := 57) rfl ?_); refine goesL_ (some 9) rfl rfl Try.func57 (by kernel_rfl) rfl #[.pointer (some ⟨g13681, 0, none⟩), .int .i64 12] rfl (by (try simp only [lm_, lo_, ln_]); try rfl) ?_; (with_reducible refine (spec_l20Noted.calls k g13681 t273 t274 12 t276 t277 t278 t279 t280 t281 t282 t283 t284 t287 w _ ?side1 ?side2 A3.out).mono ?_); (case side1 => repeat (first | (with_reducible first | exact HI13681.out | apply IsS107.alloc | apply IsS107.drewN | apply IsS107.drew | apply IsS107.set_1 | refine IsS107.far ?_ NB275_272.out _) | exact HI13681.out)); (case side2 => repeat (first | (with_reducible first | exact HB.out | apply na_ | apply nn_ | apply nw_ | refine bs_ ?_ (IsS107.ge HI13681.out) | refine bs_ ?_ GE272.out) | exact HB.out)); rintro e w13720 ⟨v13721, rfl, ho13722, hi, hb, hk⟩; refine ⟨_, rfl, ?_⟩; replace BK272 := mk_ (KeepBut.blk hk (g' := gb13640) (o := .cells #[.int .i64 0, .int .i64 0, .int .i64 0, .int .i64 0, .int .i64 0, .int .i64 0, .bool false, .bool false, .slice none 0 0] 37 (0, 0)) (u_ BK272.out) NB272_275.out (by simp)); have HO286 := mk_ (Kd.R_lower ho13722 (below_size (by repeat (first | (with_reducible first | exact HB.out | apply na_ | apply nn_ | apply nw_ | refine bs_ ?_ (IsS107.ge HI13681.out) | refine bs_ ?_ GE272.out) | exact HB.out)))); replace HB := mk_ (hb); replace HI13681 := mk_ (hi)) | ((with_reducible refine gate_dst (N := 5) rfl ?_); refine box_event ?hg (N := 5) ?hd (cs := #[.int .i64 0, .int .i64 0, .int .i64 0, .int .i64 0, .int .i64 0, .int .i64 0, .bool false, .bool false, .slice none 0 0]) (t := 37) ?hr ?_; (case hd => rfl); (case hg => rfl); (case hr => first | (go_simp; done) | (go_simp; rfl)); intro gb13160 hg w13161 hbox hb; replace HO286 := mk_ (Kd.R_below (Kd.ur_ HO286.out) hb); have n1_ := mk_ (blk_below (u_ BK272.out) hb); have n2_ := mk_ (IsS107.below (by repeat (first | (with_reducible first | exact HI13681.out | apply IsS107.alloc | apply IsS107.drewN | apply IsS107.drew | apply IsS107.set_1 | refine IsS107.far ?_ NB275_272.out _) | exact HI13681.out)) hb); have n3_ := mk_ (below_step (by repeat (first | (with_reducible first | exact HB.out | apply na_ | apply nn_ | apply nw_ | refine bs_ ?_ (IsS107.ge HI13681.out) | refine bs_ ?_ GE272.out) | exact HB.out)) hb); have BK288 := mk_ (hbox); have GW288 := mk_ ((by rw [hg]; exact (below_size (by repeat (first | (with_reducible first | exact HB.out | apply na_ | apply nn_ | apply nw_ | refine bs_ ?_ (IsS107.ge HI13681.out) | refine bs_ ?_ GE272.out) | exact HB.out))) : w.heap.size ≤ gb13160)); have GE288 := ge_ ((by rw [hg]; exact (below_size (by repeat (first | (with_reducible first | exact HB.out | apply na_ | apply nn_ | apply nw_ | refine bs_ ?_ (IsS107.ge HI13681.out) | refine bs_ ?_ GE272.out) | exact HB.out))) : w.heap.size ≤ gb13160)); have NB272_288 := nq_ ((by rw [hg]; exact Nat.ne_of_lt (blk_lt (u_ BK272.out)) : gb13640 ≠ gb13160)); have NB288_272 := nq_ ((by rw [hg]; exact Nat.ne_of_gt (blk_lt (u_ BK272.out)) : gb13160 ≠ gb13640)); have NB275_288 := nq_ ((by rw [hg]; exact Nat.ne_of_lt (IsS107.lt (show IsS107 w _ g13681 t273 t287 from by repeat (first | (with_reducible first | exact HI13681.out | apply IsS107.alloc | apply IsS107.drewN | apply IsS107.drew | apply IsS107.set_1 | refine IsS107.far ?_ NB275_272.out _) | exact HI13681.out))) : g13681 ≠ gb13160)); have NB288_275 := nq_ ((by rw [hg]; exact Nat.ne_of_gt (IsS107.lt (show IsS107 w _ g13681 t273 t287 from by repeat (first | (with_reducible first | exact HI13681.out | apply IsS107.alloc | apply IsS107.drewN | apply IsS107.drew | apply IsS107.set_1 | refine IsS107.far ?_ NB275_272.out _) | exact HI13681.out))) : gb13160 ≠ g13681)); replace BK272 := n1_; replace HI13681 := n2_; replace HB := n3_; clear n1_ n2_ n3_; clear hb hbox hg; have hnb3040272288 := NB288_272.out; have hnc3040272288 := NB272_288.out; have hnb3040275288 := NB288_275.out; have hnc3040275288 := NB275_288.out; obtain ⟨_, _, _, _, _, _, _, _, _, _, _, _, _, _, _, _, _, _⟩ := cells9_ BK288.out; obtain ⟨Ao3040286, co3040286, eo3040286⟩ := Kd.R_slice HO286.out; subst eo3040286) | ((with_reducible refine gate_store (t := 37) (p := 5) rfl ?_); refine store_event (t := 37) (p := 5) (v := ?_) (w1 := ?_) ?hg ?ho ?hn ?hr ?_; (case ho => rfl); (case hg => rfl); (case hn => rfl); (case hr => first | (go_simp; done) | (go_simp; rfl)); intro w13440 hw; have n0_ : Aside0 (Kd.R (Kd.int .u8) 5 w13440 w.heap.size (fun _ => True) (.slice Ao3040286 t284.length co3040286) t284) := ⟨(by rw [hw]; exact (by (with_reducible repeat (first | apply Kd.R_alloc | apply Kd.R_drewN | apply Kd.R_drew)); exact Kd.R_mono (Kd.R_far9 (g := gb13160) (Kd.R_types HO286.out BK288.out (by decide)) (fun _ hk => hk.2) _ _ _ _ _ _ _ _ _) (fun _ hk => trivial)))⟩; have n1_ : Aside0 (w13440.heap[gb13640]? = some (.cells #[.int .i64 0, .int .i64 0, .int .i64 0, .int .i64 0, .int .i64 0, .int .i64 0, .bool false, .bool false, .slice none 0 0] 37 (0, 0))) := ⟨(by rw [hw]; exact (uf_ BK272.out))⟩; have n2_ : Aside0 (w13440.heap[gb13160]? = some (.cells #[.int .i64 t276, .int .i64 t277, .int .i64 t278, .int .i64 t279, .int .i64 t280, .int .i64 t281, .bool t282, .bool t283, .slice Ao3040286 t284.length co3040286] 37 (0, 0))) := ⟨(by rw [hw]; exact (by (with_reducible repeat (first | refine bn_ ?_ _ | refine bw_ ?_ | refine ba_ ?_ _)); with_reducible apply blk_put9; (with_reducible repeat (first | refine bn_ ?_ _ | refine bw_ ?_ | refine ba_ ?_ _)); exact BK288.out))⟩; have n3_ : Aside0 (IsS107 w w13440 g13681 t273 t287) := ⟨(by rw [hw]; exact (by repeat (first | (with_reducible first | exact HI13681.out | apply IsS107.alloc | apply IsS107.drewN | apply IsS107.drew | apply IsS107.set_1 | refine IsS107.far ?_ NB275_272.out _ | refine IsS107.far ?_ NB275_288.out _) | exact HI13681.out)))⟩; have n4_ : Aside0 (Below w.heap.size w w13440) := ⟨(by rw [hw]; exact (by repeat (first | (with_reducible first | exact HB.out | apply na_ | apply nn_ | apply nw_ | refine bs_ ?_ (IsS107.ge HI13681.out) | refine bs_ ?_ GE272.out | refine bs_ ?_ GE288.out) | exact HB.out)))⟩; clear hw; clear HO286; clear BK272; clear BK288; clear HI13681; clear HB; have HO286 := n0_; have BK272 := n1_; have BK288 := n2_; have HI13681 := n3_; have HB := n4_; clear n0_ n1_ n2_ n3_ n4_) | ((with_reducible refine gate_callee (f := 46) rfl ?_); refine goesL_ (some 11) rfl rfl Try.func46 (by kernel_rfl) rfl #[.pointer (some ⟨g13681, 0, none⟩), .int .i64 4] rfl (by (try simp only [lm_, lo_, ln_]); try rfl) ?_; (with_reducible refine (spec_l20Rd_pick.calls k g13681 t273 t287 4 t289 t290 w _ ?side1 ?side2 A4.out).mono ?_); (case side1 => repeat (first | (with_reducible first | exact HI13681.out | apply IsS107.alloc | apply IsS107.drewN | apply IsS107.drew | apply IsS107.set_1 | refine IsS107.far ?_ NB275_272.out _ | refine IsS107.far ?_ NB275_288.out _) | exact HI13681.out)); (case side2 => repeat (first | (with_reducible first | exact HB.out | apply na_ | apply nn_ | apply nw_ | refine bs_ ?_ (IsS107.ge HI13681.out) | refine bs_ ?_ GE272.out | refine bs_ ?_ GE288.out) | exact HB.out)); rintro e w13480 ⟨rfl, hi, hb, hk⟩; refine ⟨_, rfl, ?_⟩; replace BK272 := mk_ (KeepBut.blk hk (g' := gb13640) (o := .cells #[.int .i64 0, .int .i64 0, .int .i64 0, .int .i64 0, .int .i64 0, .int .i64 0, .bool false, .bool false, .slice none 0 0] 37 (0, 0)) (u_ BK272.out) NB272_275.out (by simp)); replace HO286 := mk_ (Kd.R_mono (Kd.R_keep (IsS107.apart (show IsS107 w _ g13681 t273 t287 from by repeat (first | (with_reducible first | exact HI13681.out | apply IsS107.alloc | apply IsS107.drewN | apply IsS107.drew | apply IsS107.set_1 | refine IsS107.far ?_ NB275_272.out _ | refine IsS107.far ?_ NB275_288.out _) | exact HI13681.out)) (Kd.ur_ HO286.out) (by decide)) hk (fun _ h => h.2)) (fun _ h => h.1)); replace BK288 := mk_ (KeepBut.blk hk (g' := gb13160) (o := .cells #[.int .i64 t276, .int .i64 t277, .int .i64 t278, .int .i64 t279, .int .i64 t280, .int .i64 t281, .bool t282, .bool t283, .slice Ao3040286 t284.length co3040286] 37 (0, 0)) (u_ BK288.out) NB288_275.out (by simp)); replace HB := mk_ (hb); replace HI13681 := mk_ (hi)))
  have n0_ := mk_ (Kd.R_drew HO286.out)
  have n1_ := mk_ (blk_drew BK272.out)
  have n2_ := mk_ (blk_drew BK288.out)
  have n3_ := mk_ (IsS107.drew HI13681.out)
  have n4_ := mk_ (below_drew1 HB.out)
  clear HO286
  clear BK272
  clear BK288
  clear HI13681
  clear HB
  have HO286 := n0_
  have BK272 := n1_
  have BK288 := n2_
  have HI13681 := n3_
  have HB := n4_
  clear n0_ n1_ n2_ n3_ n4_
  refine start_ (n := 5) (S := fun w' => w'.cell? ⟨gb13160, 0, none⟩ = some (.int .i64 t276) ∧ w'.cell? ⟨gb13160, 1, none⟩ = some (.int .i64 t277) ∧ w'.cell? ⟨gb13160, 2, none⟩ = some (.int .i64 t278) ∧ w'.cell? ⟨gb13160, 3, none⟩ = some (.int .i64 t279) ∧ w'.cell? ⟨gb13160, 4, none⟩ = some (.int .i64 t280) ∧ w'.cell? ⟨gb13160, 5, none⟩ = some (.int .i64 t281) ∧ w'.cell? ⟨gb13160, 6, none⟩ = some (.bool t282) ∧ w'.cell? ⟨gb13160, 7, none⟩ = some (.bool t283) ∧ w'.cell? ⟨gb13160, 8, none⟩ = some (.slice Ao3040286 t284.length co3040286)) (ds := []) #[false, false, false, false, false] (by kernel_rfl) rfl rfl ⟨(blk_cell BK288.out 0).trans rfl, (blk_cell BK288.out 1).trans rfl, (blk_cell BK288.out 2).trans rfl, (blk_cell BK288.out 3).trans rfl, (blk_cell BK288.out 4).trans rfl, (blk_cell BK288.out 5).trans rfl, (blk_cell BK288.out 6).trans rfl, (blk_cell BK288.out 7).trans rfl, (blk_cell BK288.out 8).trans rfl⟩ (fun hHeld => ?_)
  generalize w13480.drew = w13920 at HO286 BK272 BK288 HI13681 HB hHeld ⊢
 ·refine pure_ (i := 1) (N := some 14) (v := ?_) (a' := ?_) #[false, true, false, false, false] rfl rfl (by kernel_rfl) (fun _ _ _ h => h) (Or.inl ⟨by rfl, ?_⟩) ?_ ?_
  rotate_left
  ·intro w'
   go_simp
   with_reducible rfl
  rotate_left
  ·simp only [Act.put, la_, lz_, ls_, i64_w, i32_w]
   rfl
  refine take_ (i := 0) (N := some 13) (v := ?_) (a' := ?_) #[true, true, false, false, false] rfl rfl (by kernel_rfl) (fun _ _ _ h => h) (Or.inl ⟨by rfl, ?_⟩) hHeld ?_ ?_
  rotate_left
  ·rintro w' ⟨s13722, s13960, s13682, s13961, s13962, s13963, s13641, s13680, s13720⟩
   go_simp
   with_reducible rfl
  rotate_left
  ·simp only [Act.put, la_, lz_, ls_, i64_w, i32_w]
   rfl
  refine take_ (i := 2) (N := some 15) (v := ?_) (a' := ?_) #[true, true, true, false, false] rfl rfl (by kernel_rfl) (fun _ _ _ h => h) (Or.inl ⟨by rfl, ?_⟩) hHeld ?_ ?_
  rotate_left
  ·rintro w' ⟨s13722, s13960, s13682, s13961, s13962, s13963, s13641, s13680, s13720⟩
   go_simp
   with_reducible rfl
  rotate_left
  ·simp only [Act.put, la_, lz_, ls_, i64_w, i32_w]
   rfl
  refine one_ (i := 3) (N := none) #[true, true, true, true, false] rfl rfl (by kernel_rfl) (by decide) (fun K hK => ?_)
  have hs14080 : w13920.cell? ⟨gb13640, 0, none⟩ = some (.int .i64 0) := (blk_cell BK272.out 0).trans rfl
  have hfs14080 := blk_frozen BK272.out 0
  have hns14080_1 := NB288_272.out
  have hms14080_1 := NB272_288.out
  have hs14240 : w13920.cell? ⟨gb13640, 1, none⟩ = some (.int .i64 0) := (blk_cell BK272.out 1).trans rfl
  have hfs14240 := blk_frozen BK272.out 1
  have hns14240_1 := NB288_272.out
  have hms14240_1 := NB272_288.out
  have hs14400 : w13920.cell? ⟨gb13640, 2, none⟩ = some (.int .i64 0) := (blk_cell BK272.out 2).trans rfl
  have hfs14400 := blk_frozen BK272.out 2
  have hns14400_1 := NB288_272.out
  have hms14400_1 := NB272_288.out
  have hs14560 : w13920.cell? ⟨gb13640, 3, none⟩ = some (.int .i64 0) := (blk_cell BK272.out 3).trans rfl
  have hfs14560 := blk_frozen BK272.out 3
  have hns14560_1 := NB288_272.out
  have hms14560_1 := NB272_288.out
  have hs14720 : w13920.cell? ⟨gb13640, 4, none⟩ = some (.int .i64 0) := (blk_cell BK272.out 4).trans rfl
  have hfs14720 := blk_frozen BK272.out 4
  have hns14720_1 := NB288_272.out
  have hms14720_1 := NB272_288.out
  have hs14880 : w13920.cell? ⟨gb13640, 5, none⟩ = some (.int .i64 0) := (blk_cell BK272.out 5).trans rfl
  have hfs14880 := blk_frozen BK272.out 5
  have hns14880_1 := NB288_272.out
  have hms14880_1 := NB272_288.out
  have hs15040 : w13920.cell? ⟨gb13640, 6, none⟩ = some (.bool false) := (blk_cell BK272.out 6).trans rfl
  have hfs15040 := blk_frozen BK272.out 6
  have hns15040_1 := NB288_272.out
  have hms15040_1 := NB272_288.out
  have hs15200 : w13920.cell? ⟨gb13640, 7, none⟩ = some (.bool false) := (blk_cell BK272.out 7).trans rfl
  have hfs15200 := blk_frozen BK272.out 7
  have hns15200_1 := NB288_272.out
  have hms15200_1 := NB272_288.out
  have hs15360 : w13920.cell? ⟨gb13640, 8, none⟩ = some (.slice none 0 0) := (blk_cell BK272.out 8).trans rfl
  have hfs15360 := blk_frozen BK272.out 8
  have hns15360_1 := NB288_272.out
  have hms15360_1 := NB272_288.out
  refine skip_ (w1 := ?_) (by rfl) rfl ?_ ?_
  rotate_left
  ·go_simp
   rfl
  refine hK.out _ _ ⟨((cell_far (p := ⟨gb13640, _, none⟩) NB288_272.out _).trans (((cell_far (p := ⟨gb13640, _, none⟩) NB288_272.out _).trans (((cell_far (p := ⟨gb13640, _, none⟩) NB288_272.out _).trans (((cell_far (p := ⟨gb13640, _, none⟩) NB288_272.out _).trans (((cell_far (p := ⟨gb13640, _, none⟩) NB288_272.out _).trans (((cell_far (p := ⟨gb13640, _, none⟩) NB288_272.out _).trans (((cell_far (p := ⟨gb13640, _, none⟩) NB288_272.out _).trans (((cell_far (p := ⟨gb13640, _, none⟩) NB288_272.out _).trans (((cell_far (p := ⟨gb13640, _, none⟩) NB288_272.out _).trans (hHeld.1)))))))))))))))))), ((cell_far (p := ⟨gb13640, _, none⟩) NB288_272.out _).trans (((cell_far (p := ⟨gb13640, _, none⟩) NB288_272.out _).trans (((cell_far (p := ⟨gb13640, _, none⟩) NB288_272.out _).trans (((cell_far (p := ⟨gb13640, _, none⟩) NB288_272.out _).trans (((cell_far (p := ⟨gb13640, _, none⟩) NB288_272.out _).trans (((cell_far (p := ⟨gb13640, _, none⟩) NB288_272.out _).trans (((cell_far (p := ⟨gb13640, _, none⟩) NB288_272.out _).trans (((cell_far (p := ⟨gb13640, _, none⟩) NB288_272.out _).trans (((cell_far (p := ⟨gb13640, _, none⟩) NB288_272.out _).trans (hHeld.2.1)))))))))))))))))), ((cell_far (p := ⟨gb13640, _, none⟩) NB288_272.out _).trans (((cell_far (p := ⟨gb13640, _, none⟩) NB288_272.out _).trans (((cell_far (p := ⟨gb13640, _, none⟩) NB288_272.out _).trans (((cell_far (p := ⟨gb13640, _, none⟩) NB288_272.out _).trans (((cell_far (p := ⟨gb13640, _, none⟩) NB288_272.out _).trans (((cell_far (p := ⟨gb13640, _, none⟩) NB288_272.out _).trans (((cell_far (p := ⟨gb13640, _, none⟩) NB288_272.out _).trans (((cell_far (p := ⟨gb13640, _, none⟩) NB288_272.out _).trans (((cell_far (p := ⟨gb13640, _, none⟩) NB288_272.out _).trans (hHeld.2.2.1)))))))))))))))))), ((cell_far (p := ⟨gb13640, _, none⟩) NB288_272.out _).trans (((cell_far (p := ⟨gb13640, _, none⟩) NB288_272.out _).trans (((cell_far (p := ⟨gb13640, _, none⟩) NB288_272.out _).trans (((cell_far (p := ⟨gb13640, _, none⟩) NB288_272.out _).trans (((cell_far (p := ⟨gb13640, _, none⟩) NB288_272.out _).trans (((cell_far (p := ⟨gb13640, _, none⟩) NB288_272.out _).trans (((cell_far (p := ⟨gb13640, _, none⟩) NB288_272.out _).trans (((cell_far (p := ⟨gb13640, _, none⟩) NB288_272.out _).trans (((cell_far (p := ⟨gb13640, _, none⟩) NB288_272.out _).trans (hHeld.2.2.2.1)))))))))))))))))), ((cell_far (p := ⟨gb13640, _, none⟩) NB288_272.out _).trans (((cell_far (p := ⟨gb13640, _, none⟩) NB288_272.out _).trans (((cell_far (p := ⟨gb13640, _, none⟩) NB288_272.out _).trans (((cell_far (p := ⟨gb13640, _, none⟩) NB288_272.out _).trans (((cell_far (p := ⟨gb13640, _, none⟩) NB288_272.out _).trans (((cell_far (p := ⟨gb13640, _, none⟩) NB288_272.out _).trans (((cell_far (p := ⟨gb13640, _, none⟩) NB288_272.out _).trans (((cell_far (p := ⟨gb13640, _, none⟩) NB288_272.out _).trans (((cell_far (p := ⟨gb13640, _, none⟩) NB288_272.out _).trans (hHeld.2.2.2.2.1)))))))))))))))))), ((cell_far (p := ⟨gb13640, _, none⟩) NB288_272.out _).trans (((cell_far (p := ⟨gb13640, _, none⟩) NB288_272.out _).trans (((cell_far (p := ⟨gb13640, _, none⟩) NB288_272.out _).trans (((cell_far (p := ⟨gb13640, _, none⟩) NB288_272.out _).trans (((cell_far (p := ⟨gb13640, _, none⟩) NB288_272.out _).trans (((cell_far (p := ⟨gb13640, _, none⟩) NB288_272.out _).trans (((cell_far (p := ⟨gb13640, _, none⟩) NB288_272.out _).trans (((cell_far (p := ⟨gb13640, _, none⟩) NB288_272.out _).trans (((cell_far (p := ⟨gb13640, _, none⟩) NB288_272.out _).trans (hHeld.2.2.2.2.2.1)))))))))))))))))), ((cell_far (p := ⟨gb13640, _, none⟩) NB288_272.out _).trans (((cell_far (p := ⟨gb13640, _, none⟩) NB288_272.out _).trans (((cell_far (p := ⟨gb13640, _, none⟩) NB288_272.out _).trans (((cell_far (p := ⟨gb13640, _, none⟩) NB288_272.out _).trans (((cell_far (p := ⟨gb13640, _, none⟩) NB288_272.out _).trans (((cell_far (p := ⟨gb13640, _, none⟩) NB288_272.out _).trans (((cell_far (p := ⟨gb13640, _, none⟩) NB288_272.out _).trans (((cell_far (p := ⟨gb13640, _, none⟩) NB288_272.out _).trans (((cell_far (p := ⟨gb13640, _, none⟩) NB288_272.out _).trans (hHeld.2.2.2.2.2.2.1)))))))))))))))))), ((cell_far (p := ⟨gb13640, _, none⟩) NB288_272.out _).trans (((cell_far (p := ⟨gb13640, _, none⟩) NB288_272.out _).trans (((cell_far (p := ⟨gb13640, _, none⟩) NB288_272.out _).trans (((cell_far (p := ⟨gb13640, _, none⟩) NB288_272.out _).trans (((cell_far (p := ⟨gb13640, _, none⟩) NB288_272.out _).trans (((cell_far (p := ⟨gb13640, _, none⟩) NB288_272.out _).trans (((cell_far (p := ⟨gb13640, _, none⟩) NB288_272.out _).trans (((cell_far (p := ⟨gb13640, _, none⟩) NB288_272.out _).trans (((cell_far (p := ⟨gb13640, _, none⟩) NB288_272.out _).trans (hHeld.2.2.2.2.2.2.2.1)))))))))))))))))), ((cell_far (p := ⟨gb13640, _, none⟩) NB288_272.out _).trans (((cell_far (p := ⟨gb13640, _, none⟩) NB288_272.out _).trans (((cell_far (p := ⟨gb13640, _, none⟩) NB288_272.out _).trans (((cell_far (p := ⟨gb13640, _, none⟩) NB288_272.out _).trans (((cell_far (p := ⟨gb13640, _, none⟩) NB288_272.out _).trans (((cell_far (p := ⟨gb13640, _, none⟩) NB288_272.out _).trans (((cell_far (p := ⟨gb13640, _, none⟩) NB288_272.out _).trans (((cell_far (p := ⟨gb13640, _, none⟩) NB288_272.out _).trans (((cell_far (p := ⟨gb13640, _, none⟩) NB288_272.out _).trans (hHeld.2.2.2.2.2.2.2.2))))))))))))))))))⟩ (fun hHeld => ?_)
  clear hK K
  refine pure_ (i := 4) (N := some 3) (v := ?_) (a' := ?_) #[true, true, true, true, true] rfl rfl (by kernel_rfl) (fun _ _ _ h => h) (Or.inl ⟨by rfl, ?_⟩) ?_ ?_
  rotate_left
  ·intro w'
   go_simp
   with_reducible rfl
  rotate_left
  ·simp only [Act.put, la_, lz_, ls_, i64_w, i32_w]
   rfl
  refine done_ (by kernel_rfl) ?_
  try go_wp2
  refine bodyPost_ret (results_ct rfl _ _ gb13640 37 #[.int .i64 t276, .int .i64 t277, .int .i64 t278, .int .i64 t279, .int .i64 t280, .int .i64 t281, .bool t282, .bool t283, .slice Ao3040286 t284.length co3040286] (0, 0) _ rfl (by (with_reducible repeat (first | refine bn_ ?_ _ | refine bw_ ?_ | refine ba_ ?_ _)); with_reducible apply blk_put9; (with_reducible repeat (first | refine bn_ ?_ _ | refine bw_ ?_ | refine ba_ ?_ _)); exact BK272.out) Try.underlying37 rfl (by kernel_rfl)) rfl ?_
  exact ⟨_, by first | rfl | (simp [errW_none, errW_some] <;> rfl) | (simp [*, errW_none, errW_some] <;> rfl), by (with_reducible repeat (first | apply Kd.R_alloc | apply Kd.R_drewN | apply Kd.R_drew)); exact Kd.R_mono (Kd.R_far9 (g := gb13640) (Kd.R_types HO286.out BK272.out (by decide)) (fun _ hk => hk.2) _ _ _ _ _ _ _ _ _) (fun _ hk => trivial), by repeat (first | (with_reducible first | exact HB.out | apply na_ | apply nn_ | apply nw_ | refine bs_ ?_ (IsS107.ge HI13681.out) | refine bs_ ?_ GE272.out | refine bs_ ?_ GE288.out) | exact HB.out)⟩
 ·refine pure_ (i := 1) (N := some 17) (v := ?_) (a' := ?_) #[false, true, false, false, false] rfl rfl (by kernel_rfl) (fun _ _ _ h => h) (Or.inl ⟨by rfl, ?_⟩) ?_ ?_
  rotate_left
  ·intro w'
   go_simp
   with_reducible rfl
  rotate_left
  ·simp only [Act.put, la_, lz_, ls_, i64_w, i32_w]
   rfl
  refine take_ (i := 0) (N := some 16) (v := ?_) (a' := ?_) #[true, true, false, false, false] rfl rfl (by kernel_rfl) (fun _ _ _ h => h) (Or.inl ⟨by rfl, ?_⟩) hHeld ?_ ?_
  rotate_left
  ·rintro w' ⟨s13722, s13960, s13682, s13961, s13962, s13963, s13964, s13965, s13966⟩
   go_simp
   with_reducible rfl
  rotate_left
  ·simp only [Act.put, la_, lz_, ls_, i64_w, i32_w]
   rfl
  refine one_ (i := 2) (N := some 18) #[true, true, true, false, false] rfl rfl (by kernel_rfl) (by decide) (fun K hK => ?_)
  refine goes_ Try.func46 (by kernel_rfl) rfl #[.pointer (some ⟨g13681, 0, none⟩), .int .i64 5] (by rfl) rfl rfl (by (try simp only [lm_, lo_, ln_]); try rfl) ?_
  with_reducible refine (spec_l20Rd_pick.calls k g13681 t273 t290 5 t291 t292 w _ ?side1 ?side2 A26.out).mono ?_
  (case side1 => repeat (first | (with_reducible first | exact HI13681.out | apply IsS107.alloc | apply IsS107.drewN | apply IsS107.drew | apply IsS107.set_1 | refine IsS107.far ?_ NB275_272.out _ | refine IsS107.far ?_ NB275_288.out _) | exact HI13681.out))
  (case side2 => repeat (first | (with_reducible first | exact HB.out | apply na_ | apply nn_ | apply nw_ | refine bs_ ?_ (IsS107.ge HI13681.out) | refine bs_ ?_ GE272.out | refine bs_ ?_ GE288.out) | exact HB.out))
  rintro e w15960 ⟨rfl, hi, hb, hk⟩
  refine ⟨_, rfl, ?_⟩
  have n0_ := mk_ (KeepBut.blk hk (g' := gb13640) (o := .cells #[.int .i64 0, .int .i64 0, .int .i64 0, .int .i64 0, .int .i64 0, .int .i64 0, .bool false, .bool false, .slice none 0 0] 37 (0, 0)) (u_ BK272.out) NB272_275.out (by simp))
  have n1_ := mk_ (Kd.R_mono (Kd.R_keep (IsS107.apart (show IsS107 w _ g13681 t273 t290 from by repeat (first | (with_reducible first | exact HI13681.out | apply IsS107.alloc | apply IsS107.drewN | apply IsS107.drew | apply IsS107.set_1 | refine IsS107.far ?_ NB275_272.out _ | refine IsS107.far ?_ NB275_288.out _) | exact HI13681.out)) (Kd.ur_ HO286.out) (by decide)) hk (fun _ h => h.2)) (fun _ h => h.1))
  have n2_ := mk_ (KeepBut.blk hk (g' := gb13160) (o := .cells #[.int .i64 t276, .int .i64 t277, .int .i64 t278, .int .i64 t279, .int .i64 t280, .int .i64 t281, .bool t282, .bool t283, .slice Ao3040286 t284.length co3040286] 37 (0, 0)) (u_ BK288.out) NB288_275.out (by simp))
  have n3_ := mk_ (hb)
  have n4_ := mk_ (hi)
  clear BK272
  clear HO286
  clear BK288
  clear HB
  clear HI13681
  have BK272 := n0_
  have HO286 := n1_
  have BK288 := n2_
  have HB := n3_
  have HI13681 := n4_
  clear n0_ n1_ n2_ n3_ n4_
  (try clear hb)
  (try clear hb13682)
  (try clear hk)
  (try clear hi)
  refine hK.out _ _ ⟨(blk_cell BK288.out 0).trans rfl, (blk_cell BK288.out 1).trans rfl, (blk_cell BK288.out 2).trans rfl, (blk_cell BK288.out 3).trans rfl, (blk_cell BK288.out 4).trans rfl, (blk_cell BK288.out 5).trans rfl, (blk_cell BK288.out 6).trans rfl, (blk_cell BK288.out 7).trans rfl, (blk_cell BK288.out 8).trans rfl⟩ (fun hHeld => ?_)
  clear hK K
  refine norm_ (a' := ?_) ?_ ?_
  rotate_left
  ·show Act.put _ (some 18) _ = _
   simp only [Act.put, la_, lz_, ls_, i64_w, i32_w]
   rfl
  refine one_ (i := 3) (N := none) #[true, true, true, true, false] rfl rfl (by kernel_rfl) (by decide) (fun K hK => ?_)
  have hs14080 : w15960.cell? ⟨gb13640, 0, none⟩ = some (.int .i64 0) := (blk_cell BK272.out 0).trans rfl
  have hfs14080 := blk_frozen BK272.out 0
  have hns14080_1 := NB288_272.out
  have hms14080_1 := NB272_288.out
  have hs14240 : w15960.cell? ⟨gb13640, 1, none⟩ = some (.int .i64 0) := (blk_cell BK272.out 1).trans rfl
  have hfs14240 := blk_frozen BK272.out 1
  have hns14240_1 := NB288_272.out
  have hms14240_1 := NB272_288.out
  have hs14400 : w15960.cell? ⟨gb13640, 2, none⟩ = some (.int .i64 0) := (blk_cell BK272.out 2).trans rfl
  have hfs14400 := blk_frozen BK272.out 2
  have hns14400_1 := NB288_272.out
  have hms14400_1 := NB272_288.out
  have hs14560 : w15960.cell? ⟨gb13640, 3, none⟩ = some (.int .i64 0) := (blk_cell BK272.out 3).trans rfl
  have hfs14560 := blk_frozen BK272.out 3
  have hns14560_1 := NB288_272.out
  have hms14560_1 := NB272_288.out
  have hs14720 : w15960.cell? ⟨gb13640, 4, none⟩ = some (.int .i64 0) := (blk_cell BK272.out 4).trans rfl
  have hfs14720 := blk_frozen BK272.out 4
  have hns14720_1 := NB288_272.out
  have hms14720_1 := NB272_288.out
  have hs14880 : w15960.cell? ⟨gb13640, 5, none⟩ = some (.int .i64 0) := (blk_cell BK272.out 5).trans rfl
  have hfs14880 := blk_frozen BK272.out 5
  have hns14880_1 := NB288_272.out
  have hms14880_1 := NB272_288.out
  have hs15040 : w15960.cell? ⟨gb13640, 6, none⟩ = some (.bool false) := (blk_cell BK272.out 6).trans rfl
  have hfs15040 := blk_frozen BK272.out 6
  have hns15040_1 := NB288_272.out
  have hms15040_1 := NB272_288.out
  have hs15200 : w15960.cell? ⟨gb13640, 7, none⟩ = some (.bool false) := (blk_cell BK272.out 7).trans rfl
  have hfs15200 := blk_frozen BK272.out 7
  have hns15200_1 := NB288_272.out
  have hms15200_1 := NB272_288.out
  have hs15360 : w15960.cell? ⟨gb13640, 8, none⟩ = some (.slice none 0 0) := (blk_cell BK272.out 8).trans rfl
  have hfs15360 := blk_frozen BK272.out 8
  have hns15360_1 := NB288_272.out
  have hms15360_1 := NB272_288.out
  refine skip_ (w1 := ?_) (by rfl) rfl ?_ ?_
  rotate_left
  ·go_simp
   rfl
  refine hK.out _ _ ⟨((cell_far (p := ⟨gb13640, _, none⟩) NB288_272.out _).trans (((cell_far (p := ⟨gb13640, _, none⟩) NB288_272.out _).trans (((cell_far (p := ⟨gb13640, _, none⟩) NB288_272.out _).trans (((cell_far (p := ⟨gb13640, _, none⟩) NB288_272.out _).trans (((cell_far (p := ⟨gb13640, _, none⟩) NB288_272.out _).trans (((cell_far (p := ⟨gb13640, _, none⟩) NB288_272.out _).trans (((cell_far (p := ⟨gb13640, _, none⟩) NB288_272.out _).trans (((cell_far (p := ⟨gb13640, _, none⟩) NB288_272.out _).trans (((cell_far (p := ⟨gb13640, _, none⟩) NB288_272.out _).trans (hHeld.1)))))))))))))))))), ((cell_far (p := ⟨gb13640, _, none⟩) NB288_272.out _).trans (((cell_far (p := ⟨gb13640, _, none⟩) NB288_272.out _).trans (((cell_far (p := ⟨gb13640, _, none⟩) NB288_272.out _).trans (((cell_far (p := ⟨gb13640, _, none⟩) NB288_272.out _).trans (((cell_far (p := ⟨gb13640, _, none⟩) NB288_272.out _).trans (((cell_far (p := ⟨gb13640, _, none⟩) NB288_272.out _).trans (((cell_far (p := ⟨gb13640, _, none⟩) NB288_272.out _).trans (((cell_far (p := ⟨gb13640, _, none⟩) NB288_272.out _).trans (((cell_far (p := ⟨gb13640, _, none⟩) NB288_272.out _).trans (hHeld.2.1)))))))))))))))))), ((cell_far (p := ⟨gb13640, _, none⟩) NB288_272.out _).trans (((cell_far (p := ⟨gb13640, _, none⟩) NB288_272.out _).trans (((cell_far (p := ⟨gb13640, _, none⟩) NB288_272.out _).trans (((cell_far (p := ⟨gb13640, _, none⟩) NB288_272.out _).trans (((cell_far (p := ⟨gb13640, _, none⟩) NB288_272.out _).trans (((cell_far (p := ⟨gb13640, _, none⟩) NB288_272.out _).trans (((cell_far (p := ⟨gb13640, _, none⟩) NB288_272.out _).trans (((cell_far (p := ⟨gb13640, _, none⟩) NB288_272.out _).trans (((cell_far (p := ⟨gb13640, _, none⟩) NB288_272.out _).trans (hHeld.2.2.1)))))))))))))))))), ((cell_far (p := ⟨gb13640, _, none⟩) NB288_272.out _).trans (((cell_far (p := ⟨gb13640, _, none⟩) NB288_272.out _).trans (((cell_far (p := ⟨gb13640, _, none⟩) NB288_272.out _).trans (((cell_far (p := ⟨gb13640, _, none⟩) NB288_272.out _).trans (((cell_far (p := ⟨gb13640, _, none⟩) NB288_272.out _).trans (((cell_far (p := ⟨gb13640, _, none⟩) NB288_272.out _).trans (((cell_far (p := ⟨gb13640, _, none⟩) NB288_272.out _).trans (((cell_far (p := ⟨gb13640, _, none⟩) NB288_272.out _).trans (((cell_far (p := ⟨gb13640, _, none⟩) NB288_272.out _).trans (hHeld.2.2.2.1)))))))))))))))))), ((cell_far (p := ⟨gb13640, _, none⟩) NB288_272.out _).trans (((cell_far (p := ⟨gb13640, _, none⟩) NB288_272.out _).trans (((cell_far (p := ⟨gb13640, _, none⟩) NB288_272.out _).trans (((cell_far (p := ⟨gb13640, _, none⟩) NB288_272.out _).trans (((cell_far (p := ⟨gb13640, _, none⟩) NB288_272.out _).trans (((cell_far (p := ⟨gb13640, _, none⟩) NB288_272.out _).trans (((cell_far (p := ⟨gb13640, _, none⟩) NB288_272.out _).trans (((cell_far (p := ⟨gb13640, _, none⟩) NB288_272.out _).trans (((cell_far (p := ⟨gb13640, _, none⟩) NB288_272.out _).trans (hHeld.2.2.2.2.1)))))))))))))))))), ((cell_far (p := ⟨gb13640, _, none⟩) NB288_272.out _).trans (((cell_far (p := ⟨gb13640, _, none⟩) NB288_272.out _).trans (((cell_far (p := ⟨gb13640, _, none⟩) NB288_272.out _).trans (((cell_far (p := ⟨gb13640, _, none⟩) NB288_272.out _).trans (((cell_far (p := ⟨gb13640, _, none⟩) NB288_272.out _).trans (((cell_far (p := ⟨gb13640, _, none⟩) NB288_272.out _).trans (((cell_far (p := ⟨gb13640, _, none⟩) NB288_272.out _).trans (((cell_far (p := ⟨gb13640, _, none⟩) NB288_272.out _).trans (((cell_far (p := ⟨gb13640, _, none⟩) NB288_272.out _).trans (hHeld.2.2.2.2.2.1)))))))))))))))))), ((cell_far (p := ⟨gb13640, _, none⟩) NB288_272.out _).trans (((cell_far (p := ⟨gb13640, _, none⟩) NB288_272.out _).trans (((cell_far (p := ⟨gb13640, _, none⟩) NB288_272.out _).trans (((cell_far (p := ⟨gb13640, _, none⟩) NB288_272.out _).trans (((cell_far (p := ⟨gb13640, _, none⟩) NB288_272.out _).trans (((cell_far (p := ⟨gb13640, _, none⟩) NB288_272.out _).trans (((cell_far (p := ⟨gb13640, _, none⟩) NB288_272.out _).trans (((cell_far (p := ⟨gb13640, _, none⟩) NB288_272.out _).trans (((cell_far (p := ⟨gb13640, _, none⟩) NB288_272.out _).trans (hHeld.2.2.2.2.2.2.1)))))))))))))))))), ((cell_far (p := ⟨gb13640, _, none⟩) NB288_272.out _).trans (((cell_far (p := ⟨gb13640, _, none⟩) NB288_272.out _).trans (((cell_far (p := ⟨gb13640, _, none⟩) NB288_272.out _).trans (((cell_far (p := ⟨gb13640, _, none⟩) NB288_272.out _).trans (((cell_far (p := ⟨gb13640, _, none⟩) NB288_272.out _).trans (((cell_far (p := ⟨gb13640, _, none⟩) NB288_272.out _).trans (((cell_far (p := ⟨gb13640, _, none⟩) NB288_272.out _).trans (((cell_far (p := ⟨gb13640, _, none⟩) NB288_272.out _).trans (((cell_far (p := ⟨gb13640, _, none⟩) NB288_272.out _).trans (hHeld.2.2.2.2.2.2.2.1)))))))))))))))))), ((cell_far (p := ⟨gb13640, _, none⟩) NB288_272.out _).trans (((cell_far (p := ⟨gb13640, _, none⟩) NB288_272.out _).trans (((cell_far (p := ⟨gb13640, _, none⟩) NB288_272.out _).trans (((cell_far (p := ⟨gb13640, _, none⟩) NB288_272.out _).trans (((cell_far (p := ⟨gb13640, _, none⟩) NB288_272.out _).trans (((cell_far (p := ⟨gb13640, _, none⟩) NB288_272.out _).trans (((cell_far (p := ⟨gb13640, _, none⟩) NB288_272.out _).trans (((cell_far (p := ⟨gb13640, _, none⟩) NB288_272.out _).trans (((cell_far (p := ⟨gb13640, _, none⟩) NB288_272.out _).trans (hHeld.2.2.2.2.2.2.2.2))))))))))))))))))⟩ (fun hHeld => ?_)
  clear hK K
  refine pure_ (i := 4) (N := some 3) (v := ?_) (a' := ?_) #[true, true, true, true, true] rfl rfl (by kernel_rfl) (fun _ _ _ h => h) (Or.inl ⟨by rfl, ?_⟩) ?_ ?_
  rotate_left
  ·intro w'
   go_simp
   with_reducible rfl
  rotate_left
  ·simp only [Act.put, la_, lz_, ls_, i64_w, i32_w]
   rfl
  refine done_ (by kernel_rfl) ?_
  try go_wp2
  refine bodyPost_ret (results_ct rfl _ _ gb13640 37 #[.int .i64 t276, .int .i64 t277, .int .i64 t278, .int .i64 t279, .int .i64 t280, .int .i64 t281, .bool t282, .bool t283, .slice Ao3040286 t284.length co3040286] (0, 0) _ rfl (by (with_reducible repeat (first | refine bn_ ?_ _ | refine bw_ ?_ | refine ba_ ?_ _)); with_reducible apply blk_put9; (with_reducible repeat (first | refine bn_ ?_ _ | refine bw_ ?_ | refine ba_ ?_ _)); exact BK272.out) Try.underlying37 rfl (by kernel_rfl)) rfl ?_
  exact ⟨_, by first | rfl | (simp [errW_none, errW_some] <;> rfl) | (simp [*, errW_none, errW_some] <;> rfl), by (with_reducible repeat (first | apply Kd.R_alloc | apply Kd.R_drewN | apply Kd.R_drew)); exact Kd.R_mono (Kd.R_far9 (g := gb13640) (Kd.R_types HO286.out BK272.out (by decide)) (fun _ hk => hk.2) _ _ _ _ _ _ _ _ _) (fun _ hk => trivial), by repeat (first | (with_reducible first | exact HB.out | apply na_ | apply nn_ | apply nw_ | refine bs_ ?_ (IsS107.ge HI13681.out) | refine bs_ ?_ GE272.out | refine bs_ ?_ GE288.out) | exact HB.out)⟩

/-! ### impl_NumberAt: function 62 -/
mutual
def impl_NumberAt.j0 : Nat → List Int → Int → Int → Bool → Option (Int)
 | 0, _, _, _, _ => none
 | k + 1, x0, x1, x2, x24 => if x24 = true then (some (-1)) else (if 0 ≤ x1 then (if x1 ≤ (wrap64 (x1 + x2)) then (if (wrap64 (x1 + x2)) ≤ (x0.length : Int) then (impl_NumberAt.l0 k 0 ((x0.take ((wrap64 (x1 + x2)) : Int).toNat).drop (x1 : Int).toNat) (((x0.take ((wrap64 (x1 + x2)) : Int).toNat).drop (x1 : Int).toNat).length : Int) 0) else (none)) else (none)) else (none))
def impl_NumberAt.l0 : Nat → Int → List Int → Int → Int → Option (Int)
 | 0, _, _, _, _ => none
 | k + 1, x7, x30, x31, x32 => if x32 < x31 then (if 0 ≤ x32 then (if x32 < (x30.length : Int) then (impl_NumberAt.l0 k (Go.bits .or .i64 (wrap64 (x7 * 256)) (wrap64 (rd x30 x32))) x30 x31 (wrap64 (x32 + 1))) else (none)) else (none)) else (some x7)
end
def impl_NumberAt.f (k : Nat) (l0 : List Int) (a1 : Int) (a2 : Int) : Option (Int) := (impl_in.f a2 1 4).bind fun t293 => (if t293 = true then (if a1 < 0 then (impl_NumberAt.j0 k l0 a1 a2 true) else (impl_NumberAt.j0 k l0 a1 a2 (decide (a1 > (wrap64 ((l0.length : Int) - a2)))))) else (impl_NumberAt.j0 k l0 a1 a2 true))
theorem impl_NumberAt.mono_l : ∀ k, (∀ y0 y1 y2 y3, LeO (impl_NumberAt.j0 k y0 y1 y2 y3) (impl_NumberAt.j0 (k + 1) y0 y1 y2 y3)) ∧ (∀ y0 y1 y2 y3, LeO (impl_NumberAt.l0 k y0 y1 y2 y3) (impl_NumberAt.l0 (k + 1) y0 y1 y2 y3))
 | 0 => ⟨fun _ _ _ _ r h => by simp [impl_NumberAt.j0] at h, fun _ _ _ _ r h => by simp [impl_NumberAt.l0] at h⟩
 | k + 1 => by
  obtain ⟨ih0, ih1⟩ := impl_NumberAt.mono_l k
  refine ⟨?_, ?_⟩
  ·intro y0 y1 y2 y3
   unfold impl_NumberAt.j0
   repeat' first
   | (with_reducible exact ih0 _ _ _ _)
   | (with_reducible exact ih1 _ _ _ _)
   | (with_reducible exact LeO.refl _)
   | (with_reducible exact LeO.none _)
   | (with_reducible refine LeO.ite ?_ ?_)
   | (with_reducible refine LeO.bind ?_ (fun _ => ?_))
   | exact ih0 _ _ _ _
   | exact ih1 _ _ _ _
   | exact LeO.none _
   | refine LeO.ite ?_ ?_
   | refine LeO.bind ?_ (fun _ => ?_)
  ·intro y0 y1 y2 y3
   unfold impl_NumberAt.l0
   repeat' first
   | (with_reducible exact ih0 _ _ _ _)
   | (with_reducible exact ih1 _ _ _ _)
   | (with_reducible exact LeO.refl _)
   | (with_reducible exact LeO.none _)
   | (with_reducible refine LeO.ite ?_ ?_)
   | (with_reducible refine LeO.bind ?_ (fun _ => ?_))
   | exact ih0 _ _ _ _
   | exact ih1 _ _ _ _
   | exact LeO.none _
   | refine LeO.ite ?_ ?_
   | refine LeO.bind ?_ (fun _ => ?_)
theorem impl_NumberAt.mono : ∀ a0 a1 a2 k, LeO (impl_NumberAt.f k a0 a1 a2) (impl_NumberAt.f (k + 1) a0 a1 a2) := by
 intro a0 a1 a2 k
 obtain ⟨ih0, ih1⟩ := impl_NumberAt.mono_l k
 unfold impl_NumberAt.f
 repeat' first
   | (with_reducible exact ih0 _ _ _ _)
   | (with_reducible exact ih1 _ _ _ _)
   | (with_reducible exact LeO.refl _)
   | (with_reducible exact LeO.none _)
   | (with_reducible refine LeO.ite ?_ ?_)
   | (with_reducible refine LeO.bind ?_ (fun _ => ?_))
   | exact ih0 _ _ _ _
   | exact ih1 _ _ _ _
   | exact LeO.none _
   | refine LeO.ite ?_ ?_
   | refine LeO.bind ?_ (fun _ => ?_)
set_option maxHeartbeats 8000000 in
set_option maxRecDepth 100000 in
theorem impl_NumberAt.calls (k : Nat) (A0 : Option Addr) (c0 : Nat) (l0 : List Int) (a1 : Int) (a2 : Int) (r : Int) (w : World) (hr0 : Kd.C (Kd.int .u8) w A0 l0.length l0) (hc0 : l0.length ≤ c0) (h : impl_NumberAt.f k l0 a1 a2 = some r) :
  Calls Try.prog 62 #[.slice A0 l0.length c0, .int .i64 a1, .int .i64 a2] w fun e w' => e = .returned (.int .i64 r) ∧ Drawn0 w w' := by
 have HR0 := mk_ hr0
 have HC0 := mk_ hc0
 clear hr0 hc0
 have H := h
 unfold impl_NumberAt.f at H
 clear h
 have HC4 := mk_ H
 clear H
 go_enter Try.func62, Try.ntmps62
 go_upto_region 1 with (fail)
 go_cut [24] (fun v24 wc => ∃ (kq : Nat) (x24_3 : Bool), v24 = .bool x24_3 ∧ Aside0 (impl_NumberAt.j0 kq l0 a1 a2 x24_3 = some r) ∧ Aside0 (kq ≤ k) ∧ Drawn0 w wc)
 case first =>
  have H := HC4.out
  clear HC4
  replace H := Option.bind_eq_some_iff.mp H
  obtain ⟨t293, A50, H⟩ := H
  (try dsimp only at H)
  have A5 := mk_ A50
  clear A50
  by_cases c6 : t293 = true
  rotate_left
  focus
   replace c6 := Bool.eq_false_iff.mpr c6
   subst c6
   have H1 : (impl_NumberAt.j0 k l0 a1 a2 true) = some r := by rw [if_neg (show ¬ (false = true) by decide)] at H; exact H
   clear H
   have H := H1
   clear H1
   have H' := mk_ H
   clear H
  rotate_left
  focus
   subst c6
   rw [if_pos rfl] at H
   by_cases c7 : a1 < 0
   focus
    rw [if_pos c7] at H
    have c7b0 : decide (a1 < 0) = true := decide_eq_true c7
    clear c7
    (first | rw [c7b0] | (simp only [i64_w, i32_w]; rw [c7b0]) | skip)
    have H' := mk_ H
    clear H
   rotate_left
   focus
    rw [if_neg c7] at H
    have c7b0 : decide (a1 < 0) = false := decide_eq_false c7
    clear c7
    (first | rw [c7b0] | (simp only [i64_w, i32_w]; rw [c7b0]) | skip)
    have H' := mk_ H
    clear H
   rotate_left
  rotate_left 2
  all_goals
   go_wp2_with (first | ((with_reducible refine gate_callee (f := 48) rfl ?_); refine goesL_ (some 11) rfl rfl Try.func48 (by kernel_rfl) rfl #[.int .i64 a2, .int .i64 1, .int .i64 4] rfl (by (try simp only [lm_, lo_, ln_]); try rfl) ?_; (with_reducible refine (impl_in.calls a2 1 4 false _ A5.out).mono ?_); rintro e w' ⟨rfl, ⟨nd, rfl⟩⟩; refine ⟨_, rfl, ?_⟩) | ((with_reducible refine gate_callee (f := 48) rfl ?_); refine goesL_ (some 11) rfl rfl Try.func48 (by kernel_rfl) rfl #[.int .i64 a2, .int .i64 1, .int .i64 4] rfl (by (try simp only [lm_, lo_, ln_]); try rfl) ?_; (with_reducible refine (impl_in.calls a2 1 4 true _ A5.out).mono ?_); rintro e w' ⟨rfl, ⟨nd, rfl⟩⟩; refine ⟨_, rfl, ?_⟩))
   go_meet
  iterate 2
   focus
    case rel => exact ⟨_, (true), (by first | rfl | (simp; done) | (simp [*]; done)), H', ⟨by first | omega | exact Nat.le_refl _⟩, by repeat (first | exact Drawn0.refl _ | apply Drawn0.step)⟩
  ·case rel => exact ⟨_, (decide (a1 > (wrap64 ((l0.length : Int) - a2)))), (by first | rfl | (simp; done) | (simp [*]; done)), H', ⟨by first | omega | exact Nat.le_refl _⟩, by repeat (first | exact Drawn0.refl _ | apply Drawn0.step)⟩
 case rest =>
  clear HC4
  try clear p2
  try clear c4
  try clear c6
  try clear p6
  try clear c7
  try clear c7b0
  obtain ⟨kq, x24_3, rfl, HA, HJ3, ⟨mc3, rfl⟩⟩ := hcut
  cases kq with
  | zero => exact absurd HA.out (by simp [impl_NumberAt.j0])
  | succ kj3 =>
   have H := HA.out
   clear HA
   simp only [impl_NumberAt.j0] at H
   by_cases c8 : x24_3 = true
   ·subst c8
    have H1 : (some (-1)) = some r := by rw [if_pos rfl] at H; exact H
    clear H
    have H := H1
    clear H1
    obtain rfl := Option.some.inj H
    go_wp2
    go_ret
    exact ⟨by first | rfl | (simp; done) | (simp [*]; done), by repeat (first | exact Drawn0.refl _ | apply Drawn0.step)⟩
   replace c8 := Bool.eq_false_iff.mpr c8
   subst c8
   rw [if_neg (show ¬ (false = true) by decide)] at H
   by_cases c9 : 0 ≤ a1
   rotate_left
   ·rw [if_neg c9] at H
    exact absurd H (by simp)
   rw [if_pos c9] at H
   have c9b0 := eq_true c9
   have c9b1 : decide (0 ≤ a1) = true := decide_eq_true c9
   clear c9
   by_cases c10 : a1 ≤ (wrap64 (a1 + a2))
   rotate_left
   ·rw [if_neg c10] at H
    exact absurd H (by simp)
   rw [if_pos c10] at H
   have c10b0 := eq_true c10
   have c10b1 : decide (a1 ≤ (wrap64 (a1 + a2))) = true := decide_eq_true c10
   by_cases c11 : (wrap64 (a1 + a2)) ≤ (l0.length : Int)
   rotate_left
   ·rw [if_neg c11] at H
    exact absurd H (by simp)
   rw [if_pos c11] at H
   have c11b0 := eq_true c11
   have c11b1 : decide ((wrap64 (a1 + a2)) ≤ (l0.length : Int)) = true := decide_eq_true c11
   have H' := mk_ H
   clear H
   obtain ⟨i012, hi012, _, hsz12, _⟩ := info_parts info5
   obtain ⟨A12, hcut12, hA12, hC12⟩ := print_mid_of (P := Try.prog) (Value.int .u8) 0 22 5 .i64 .i64 Try.underlying22 hi012 hsz12 A0 c0 l0 a1 (wrap64 (a1 + a2)) (of_decide_eq_true (by first | (with_reducible assumption) | assumption)) (by first | omega | exact of_decide_eq_true (by first | (with_reducible assumption) | assumption)) (of_decide_eq_true (by first | (with_reducible assumption) | assumption)) HC0.out
   have HR294 := mk_ (Kd.C_of_reads (h1 := fun _ => rfl) (hA12 _ (Kd.reads_of_C HR0.out)))
   have HC294 := mk_ hC12
   clear hA12 hC12 hi012 hsz12
   generalize hcl12 : ((l0.take ((wrap64 (a1 + a2)) : Int).toNat).drop (a1 : Int).toNat) = cl12 at H' HR294 HC294 hcut12
   go_wp2
   go_loopg [7, 32] kj3 (fun kq v7 v32 w' => ∃ (x7_2 : Int) (x32_2 : Int), v7 = .int .i64 x7_2 ∧ v32 = .int .i64 x32_2 ∧ Aside0 (impl_NumberAt.l0 kq x7_2 cl12 (cl12.length : Int) x32_2 = some r) ∧ Aside0 (kq ≤ kj3) ∧ Drawn0 w w')
   case atStart => exact ⟨(0), (0), (by first | rfl | (simp; done) | (simp [*]; done)), (by first | rfl | (simp; done) | (simp [*]; done)), H', ⟨Nat.le_refl _⟩, by repeat (first | exact Drawn0.refl _ | apply Drawn0.step)⟩
   case round =>
    clear H'
    try clear c1
    try clear p2
    try clear c3
    try clear c4
    try clear c6
    try clear p6
    try clear c7
    try clear c7b0
    try clear c8
    try clear c9
    try clear c9b0
    try clear c9b1
    try clear c10
    try clear c10b0
    try clear c10b1
    try clear c11
    try clear c11b0
    try clear c11b1
    try clear p2
    try clear p6
    obtain ⟨x7_2, x32_2, rfl, rfl, HA, HK2, ⟨m2, rfl⟩⟩ := hrel
    cases gk with
    | zero => exact absurd HA.out (by simp [impl_NumberAt.l0])
    | succ k2 =>
     have H := HA.out
     clear HA
     simp only [impl_NumberAt.l0] at H
     by_cases c13 : x32_2 < (cl12.length : Int)
     rotate_left
     ·rw [if_neg c13] at H
      have c13b0 : decide (x32_2 < (cl12.length : Int)) = false := decide_eq_false c13
      clear c13
      obtain rfl := Option.some.inj H
      go_wp2
      go_ret
      exact ⟨by first | rfl | (simp; done) | (simp [*]; done), by repeat (first | exact Drawn0.refl _ | apply Drawn0.step)⟩
     rw [if_pos c13] at H
     have c13b0 : decide (x32_2 < (cl12.length : Int)) = true := decide_eq_true c13
     clear c13
     by_cases c14 : 0 ≤ x32_2
     rotate_left
     ·rw [if_neg c14] at H
      exact absurd H (by simp)
     rw [if_pos c14] at H
     have c14b0 : decide (0 ≤ x32_2) = true := decide_eq_true c14
     clear c14
     by_cases c15 : x32_2 < (cl12.length : Int)
     rotate_left
     ·rw [if_neg c15] at H
      exact absurd H (by simp)
     rw [if_pos c15] at H
     have c15b0 : decide (x32_2 < (cl12.length : Int)) = true := decide_eq_true c15
     clear c15
     have H' := mk_ H
     clear H
     have p295 : 0 ≤ (x32_2 : Int) := of_decide_eq_true (by first | (with_reducible assumption) | assumption)
     have q295 : x32_2 < (cl12.length : Int) := of_decide_eq_true (by first | (with_reducible assumption) | assumption)
     obtain ⟨ad295, e295, hx295_0⟩ := Kd.at_int HR294.out x32_2 p295 q295
     cases e295
     replace p295 := eq_true p295
     replace q295 := eq_true q295
     go_wp2
     go_roundg k2
     case measure => have := HJ3.out; have := HK2.out; omega
     case rel => exact ⟨(Go.bits .or .i64 (wrap64 (x7_2 * 256)) (wrap64 (rd cl12 x32_2))), (wrap64 (x32_2 + 1)), (by first | rfl | (simp; done) | (simp [*]; done)), (by first | rfl | (simp; done) | (simp [*]; done)), H', ⟨by have := HJ3.out; have := HK2.out; omega⟩, by repeat (first | exact Drawn0.refl _ | apply Drawn0.step)⟩

/-! ### slices_Clip_byte_byte: function 104 -/
set_option maxHeartbeats 400000 in
set_option maxRecDepth 100000 in
theorem slices_Clip_byte_byte.calls (A : Option Addr) (n c : Nat) (w : World) (h : n ≤ c) (hn : n ≤ 9223372036854775807) :
    Calls Try.prog 104 #[.slice A n c] w fun e w' => e = .returned (.slice A n n) ∧ Drawn0 w w' := by
  obtain ⟨i0, hi0, _, hsz, _⟩ := info_parts info5
  have hcut : ∀ w : World, (Instr.slice 22 (.slice A n c) none (some (.int .i64 n)) (some (.int .i64 n))).run Try.prog w = .ok (.slice A n n) w := by
    intro w
    go_simp
  go_enter Try.func104, Try.ntmps104
  go_wp2
  go_ret
  exact ⟨rfl, Drawn0.refl _⟩

/-! ### impl_clone_byte: function 63 -/
def impl_clone_byte.f (l0 : List Int) : Option (List Int) := if l0.length < 140737488355328 then some l0 else none
set_option maxHeartbeats 400000 in
set_option maxRecDepth 100000 in
theorem impl_clone_byte.calls (A0 : Option Addr) (c0 : Nat) (l0 : List Int) (r : List Int) (w : World) (hr0 : Kd.C (Kd.int .u8) w A0 l0.length l0) (hc0 : l0.length ≤ c0) (h : impl_clone_byte.f l0 = some r) :
    Calls Try.prog 63 #[.slice A0 l0.length c0] w fun e w' => ∃ v0_ : Value, e = .returned (v0_) ∧ Kd.R (Kd.int .u8) 5 w' w.heap.size (fun _ => True) v0_ r ∧ Below w.heap.size w w' := by
 have hlim : l0.length < 140737488355328 := by
   unfold impl_clone_byte.f at h
   by_cases hl : l0.length < 140737488355328
   · exact hl
   · rw [if_neg hl] at h; cases h
 obtain rfl : l0 = r := by
   unfold impl_clone_byte.f at h
   rw [if_pos hlim] at h
   exact Option.some.inj h
 clear h
 have HR := Aside0.mk hr0
 have HL := Aside0.mk hlim
 have HI := Aside0.mk info5
 clear hr0 hc0 hlim
 by_cases hz : l0.length = 0
 ·have hz1 : ((l0.length : Int) == 0) = true := by simpa using hz
  have HZ := Aside0.mk hz
  clear hz
  go_enter Try.func63, Try.ntmps63
  go_wp2_with fail
  go_ret
  refine ⟨_, rfl, ?_, Below.refl _ _⟩
  rw [List.eq_nil_of_length_eq_zero HZ.out]
  exact Kd.R_nil _ _ _ _ _
 ·have hz1 : ((l0.length : Int) == 0) = false := by simpa using hz
  clear hz
  go_enter Try.func63, Try.ntmps63
  go_wp2_with (first | (at_builtin; refine Kd.R_append_rows (Kd.int .u8) (w0 := w) w.heap.size rfl (.const (.slice none 0 0)) (.tmp 6) 22 5 (.int .u8 0) 1 rfl Try.underlying22 HI.out rfl (by decide) (by omega) (.slice none 0 0) ([] : List Int) l0 _ _ _ (fun _ => True) (fun _ => False) rfl rfl ?aO ?aR (fun _ _ h => h) (fun _ h => h.elim) ?aF ?aB ?aS ?aL ?_; (case aO => exact Kd.R_nil _ _ _ _ _); (case aR => exact HR.out); (case aF => exact fun _ _ => trivial); (case aB => exact Below.refl _ _); (case aS => exact Nat.le_refl _); (case aL => have := HL.out; simp; omega); intro v1 w1 ho hb hg hat; rw [List.nil_append] at ho; obtain ⟨A1, c1, hv1, hl1, hc1⟩ := Kd.R_reads ho; subst hv1; have HO := Aside0.mk ho; have HB := Aside0.mk hb; have hn1 := hc1.2.1; clear ho hb hg hat hc1) | (go_at_call 104; (with_reducible refine (slices_Clip_byte_byte.calls _ _ _ _ hl1 hn1).mono ?_); rintro e w' ⟨rfl, ⟨nd, rfl⟩⟩))
  go_ret
  exact ⟨_, rfl, Kd.R_clip (by exact HO.out) rfl, by (first | exact HB.out | exact pw_below_drewN HB.out _)⟩

/-! ### slices_Equal_byte_byte: function 64 -/
def slices_Equal_byte_byte.l0 : Nat → List Int → List Int → Int → Int → Option (Bool)
 | 0, _, _, _, _ => none
 | k + 1, x0, x1, x12, x13 => if x13 < x12 then (if 0 ≤ x13 then (if x13 < (x0.length : Int) then (if x13 < (x1.length : Int) then (if (rd x0 x13) = (rd x1 x13) then (slices_Equal_byte_byte.l0 k x0 x1 x12 (wrap64 (x13 + 1))) else (some false)) else (none)) else (none)) else (none)) else (some true)
def slices_Equal_byte_byte.f (k : Nat) (l0 : List Int) (l1 : List Int) : Option (Bool) := if (l0.length : Int) = (l1.length : Int) then (slices_Equal_byte_byte.l0 k l0 l1 (l0.length : Int) 0) else (some false)
theorem slices_Equal_byte_byte.mono_l : ∀ k, (∀ y0 y1 y2 y3, LeO (slices_Equal_byte_byte.l0 k y0 y1 y2 y3) (slices_Equal_byte_byte.l0 (k + 1) y0 y1 y2 y3))
 | 0 => fun _ _ _ _ r h => by simp [slices_Equal_byte_byte.l0] at h
 | k + 1 => by
  have ih0 := slices_Equal_byte_byte.mono_l k
  ·intro y0 y1 y2 y3
   unfold slices_Equal_byte_byte.l0
   repeat' first
   | (with_reducible exact ih0 _ _ _ _)
   | (with_reducible exact LeO.refl _)
   | (with_reducible exact LeO.none _)
   | (with_reducible refine LeO.ite ?_ ?_)
   | (with_reducible refine LeO.bind ?_ (fun _ => ?_))
   | exact ih0 _ _ _ _
   | exact LeO.none _
   | refine LeO.ite ?_ ?_
   | refine LeO.bind ?_ (fun _ => ?_)
theorem slices_Equal_byte_byte.mono : ∀ a0 a1 k, LeO (slices_Equal_byte_byte.f k a0 a1) (slices_Equal_byte_byte.f (k + 1) a0 a1) := by
 intro a0 a1 k
 have ih0 := slices_Equal_byte_byte.mono_l k
 unfold slices_Equal_byte_byte.f
 repeat' first
   | (with_reducible exact ih0 _ _ _ _)
   | (with_reducible exact LeO.refl _)
   | (with_reducible exact LeO.none _)
   | (with_reducible refine LeO.ite ?_ ?_)
   | (with_reducible refine LeO.bind ?_ (fun _ => ?_))
   | exact ih0 _ _ _ _
   | exact LeO.none _
   | refine LeO.ite ?_ ?_
   | refine LeO.bind ?_ (fun _ => ?_)
set_option maxHeartbeats 8000000 in
set_option maxRecDepth 100000 in
theorem slices_Equal_byte_byte.calls (k : Nat) (A0 : Option Addr) (c0 : Nat) (l0 : List Int) (A1 : Option Addr) (c1 : Nat) (l1 : List Int) (r : Bool) (w : World) (hr0 : Kd.C (Kd.int .u8) w A0 l0.length l0) (hc0 : l0.length ≤ c0) (hr1 : Kd.C (Kd.int .u8) w A1 l1.length l1) (hc1 : l1.length ≤ c1) (h : slices_Equal_byte_byte.f k l0 l1 = some r) :
  Calls Try.prog 64 #[.slice A0 l0.length c0, .slice A1 l1.length c1] w fun e w' => e = .returned (.bool r) ∧ Drawn0 w w' := by
 have HR0 := mk_ hr0
 have HC0 := mk_ hc0
 clear hr0 hc0
 have HR1 := mk_ hr1
 have HC1 := mk_ hc1
 clear hr1 hc1
 have H := h
 unfold slices_Equal_byte_byte.f at H
 clear h
 by_cases c3 : (l0.length : Int) = (l1.length : Int)
 rotate_left
 ·rw [if_neg c3] at H
  have c3b0 : ((l0.length : Int) == (l1.length : Int)) = false := beq_eq_false_iff_ne.mpr c3
  have c3b1 : ((l0.length : Int) != (l1.length : Int)) = true := bne_iff_ne.mpr c3
  have c3b2 : (l0.length == l1.length) = false := by first | simpa using c3 | (simp at c3 ⊢; omega)
  obtain rfl := Option.some.inj H
  go_enter Try.func64, Try.ntmps64
  go_wp2
  repeat (go_quiet (fail); try go_wp2)
  go_ret
  exact ⟨by first | rfl | (simp; done) | (simp [*]; done), by repeat (first | exact Drawn0.refl _ | apply Drawn0.step)⟩
 rw [if_pos c3] at H
 have c3b0 : ((l0.length : Int) == (l1.length : Int)) = true := beq_iff_eq.mpr c3
 have c3b1 : ((l0.length : Int) != (l1.length : Int)) = false := bne_eq_false_iff_eq.mpr c3
 have c3b2 : (l0.length == l1.length) = true := by first | simpa using c3 | (simp at c3 ⊢; omega)
 clear c3
 have H' := mk_ H
 clear H
 go_enter Try.func64, Try.ntmps64
 go_wp2
 repeat (go_quiet (fail); try go_wp2)
 go_loopg [13] k (fun kq v13 w' => ∃ (x13_1 : Int), v13 = .int .i64 x13_1 ∧ Aside0 (slices_Equal_byte_byte.l0 kq l0 l1 (l0.length : Int) x13_1 = some r) ∧ Aside0 (kq ≤ k) ∧ Drawn0 w w')
 case atStart => exact ⟨(0), (by first | rfl | (simp; done) | (simp [*]; done)), H', ⟨Nat.le_refl _⟩, by repeat (first | exact Drawn0.refl _ | apply Drawn0.step)⟩
 case round =>
  clear H'
  try clear c1
  try clear p2
  try clear c3
  try clear c3b0
  try clear c3b1
  try clear c3b2
  obtain ⟨x13_1, rfl, HA, HK1, ⟨m1, rfl⟩⟩ := hrel
  cases gk with
  | zero => exact absurd HA.out (by simp [slices_Equal_byte_byte.l0])
  | succ k1 =>
   have H := HA.out
   clear HA
   simp only [slices_Equal_byte_byte.l0] at H
   by_cases c4 : x13_1 < (l0.length : Int)
   rotate_left
   ·rw [if_neg c4] at H
    have c4b0 : decide (x13_1 < (l0.length : Int)) = false := decide_eq_false c4
    clear c4
    obtain rfl := Option.some.inj H
    go_wp2
    repeat (go_quiet (fail); try go_wp2)
    go_ret
    exact ⟨by first | rfl | (simp; done) | (simp [*]; done), by repeat (first | exact Drawn0.refl _ | apply Drawn0.step)⟩
   rw [if_pos c4] at H
   have c4b0 : decide (x13_1 < (l0.length : Int)) = true := decide_eq_true c4
   clear c4
   by_cases c5 : 0 ≤ x13_1
   rotate_left
   ·rw [if_neg c5] at H
    exact absurd H (by simp)
   rw [if_pos c5] at H
   have c5b0 : decide (0 ≤ x13_1) = true := decide_eq_true c5
   clear c5
   by_cases c6 : x13_1 < (l0.length : Int)
   rotate_left
   ·rw [if_neg c6] at H
    exact absurd H (by simp)
   rw [if_pos c6] at H
   have c6b0 : decide (x13_1 < (l0.length : Int)) = true := decide_eq_true c6
   clear c6
   by_cases c7 : x13_1 < (l1.length : Int)
   rotate_left
   ·rw [if_neg c7] at H
    exact absurd H (by simp)
   rw [if_pos c7] at H
   have c7b0 : decide (x13_1 < (l1.length : Int)) = true := decide_eq_true c7
   clear c7
   by_cases c8 : (rd l0 x13_1) = (rd l1 x13_1)
   rotate_left
   ·rw [if_neg c8] at H
    have c8b0 : ((rd l0 x13_1) == (rd l1 x13_1)) = false := beq_eq_false_iff_ne.mpr c8
    have c8b1 : ((rd l0 x13_1) != (rd l1 x13_1)) = true := bne_iff_ne.mpr c8
    obtain rfl := Option.some.inj H
    have p296 : 0 ≤ (x13_1 : Int) := of_decide_eq_true (by first | (with_reducible assumption) | assumption)
    have q296 : x13_1 < (l0.length : Int) := of_decide_eq_true (by first | (with_reducible assumption) | assumption)
    obtain ⟨ad296, e296, hx296_0⟩ := Kd.at_int HR0.out x13_1 p296 q296
    cases e296
    replace p296 := eq_true p296
    replace q296 := eq_true q296
    have p297 : 0 ≤ (x13_1 : Int) := of_decide_eq_true (by first | (with_reducible assumption) | assumption)
    have q297 : x13_1 < (l1.length : Int) := of_decide_eq_true (by first | (with_reducible assumption) | assumption)
    obtain ⟨ad297, e297, hx297_0⟩ := Kd.at_int HR1.out x13_1 p297 q297
    cases e297
    replace p297 := eq_true p297
    replace q297 := eq_true q297
    go_wp2
    repeat (go_quiet (fail); try go_wp2)
    go_ret
    exact ⟨by first | rfl | (simp; done) | (simp [*]; done), by repeat (first | exact Drawn0.refl _ | apply Drawn0.step)⟩
   rw [if_pos c8] at H
   have c8b0 : ((rd l0 x13_1) == (rd l1 x13_1)) = true := beq_iff_eq.mpr c8
   have c8b1 : ((rd l0 x13_1) != (rd l1 x13_1)) = false := bne_eq_false_iff_eq.mpr c8
   clear c8
   have H' := mk_ H
   clear H
   have p296 : 0 ≤ (x13_1 : Int) := of_decide_eq_true (by first | (with_reducible assumption) | assumption)
   have q296 : x13_1 < (l0.length : Int) := of_decide_eq_true (by first | (with_reducible assumption) | assumption)
   obtain ⟨ad296, e296, hx296_0⟩ := Kd.at_int HR0.out x13_1 p296 q296
   cases e296
   replace p296 := eq_true p296
   replace q296 := eq_true q296
   have p297 : 0 ≤ (x13_1 : Int) := of_decide_eq_true (by first | (with_reducible assumption) | assumption)
   have q297 : x13_1 < (l1.length : Int) := of_decide_eq_true (by first | (with_reducible assumption) | assumption)
   obtain ⟨ad297, e297, hx297_0⟩ := Kd.at_int HR1.out x13_1 p297 q297
   cases e297
   replace p297 := eq_true p297
   replace q297 := eq_true q297
   go_wp2
   repeat (go_quiet (fail); try go_wp2)
   go_roundg k1
   case measure => have := HK1.out; omega
   case rel => exact ⟨(wrap64 (x13_1 + 1)), (by first | rfl | (simp; done) | (simp [*]; done)), H', ⟨by have := HK1.out; omega⟩, by repeat (first | exact Drawn0.refl _ | apply Drawn0.step)⟩

/-! ### impl_word: function 49 -/
def impl_word.f (a0 : Int) : Option (Bool) := (impl_in.f a0 0 65535).bind fun t298 => (some t298)
set_option maxHeartbeats 8000000 in
set_option maxRecDepth 100000 in
theorem impl_word.calls (a0 : Int) (r : Bool) (w : World) (h : impl_word.f a0 = some r) :
  Calls Try.prog 49 #[.int .i64 a0] w fun e w' => e = .returned (.bool r) ∧ Drawn0 w w' := by
 have H : ((impl_in.f a0 0 65535).bind fun t298 => (some t298)) = some r := h
 clear h
 replace H := Option.bind_eq_some_iff.mp H
 obtain ⟨t298, A20, H⟩ := H
 replace H : (some t298) = some r := H
 have A2 := mk_ A20
 clear A20
 obtain rfl := Option.some.inj H
 go_enter Try.func49, Try.ntmps49
 go_wp2_with (first | ((with_reducible refine gate_callee (f := 48) rfl ?_); refine goesL_ (some 4) rfl rfl Try.func48 (by kernel_rfl) rfl #[.int .i64 a0, .int .i64 0, .int .i64 65535] rfl (by (try simp only [lm_, lo_, ln_]); try rfl) ?_; (with_reducible refine (impl_in.calls a0 0 65535 t298 _ A2.out).mono ?_); rintro e w' ⟨rfl, ⟨nd, rfl⟩⟩; refine ⟨_, rfl, ?_⟩))
 go_ret
 exact ⟨by first | rfl | (simp; done) | (simp [*]; done), by repeat (first | exact Drawn0.refl _ | apply Drawn0.step)⟩

/-! ### impl_NoteOk: function 105 -/
def impl_NoteOk.f (a0_0 : Int) (a0_1 : Int) (l0_2 : List Int) : Option (Bool) := (impl_in.f a0_0 1 6).bind fun t300 => (if t300 = true then ((impl_word.f a0_1).bind fun t301 => (if t301 = true then (some (decide ((l0_2.length : Int) ≤ 20))) else (some false))) else (some false))
set_option maxHeartbeats 8000000 in
set_option maxRecDepth 100000 in
theorem impl_NoteOk.calls (a0_0 : Int) (a0_1 : Int) (A0_2 : Option Addr) (c0_2 : Nat) (l0_2 : List Int) (r : Bool) (w : World) (hr0_2 : Kd.C (Kd.int .u8) w A0_2 l0_2.length l0_2) (hc0_2 : l0_2.length ≤ c0_2) (h : impl_NoteOk.f a0_0 a0_1 l0_2 = some r) :
  Calls Try.prog 105 #[.agg #[.int .i64 a0_0, .int .i64 a0_1, .slice A0_2 l0_2.length c0_2]] w fun e w' => e = .returned (.bool r) ∧ Below w.heap.size w w' := by
 have hu44 := Try.underlying44
 have HR0_2 := mk_ hr0_2
 have HC0_2 := mk_ hc0_2
 clear hr0_2 hc0_2
 have HB := mk_ (Below.refl w.heap.size w)
 have H := h
 unfold impl_NoteOk.f at H
 clear h
 replace H := Option.bind_eq_some_iff.mp H
 obtain ⟨t300, A20, H⟩ := H
 (try dsimp only at H)
 have A2 := mk_ A20
 clear A20
 by_cases c3 : t300 = true
 rotate_left
 focus
  replace c3 := Bool.eq_false_iff.mpr c3
  subst c3
  have H1 : (some false) = some r := by rw [if_neg (show ¬ (false = true) by decide)] at H; exact H
  clear H
  have H := H1
  clear H1
  obtain rfl := Option.some.inj H
 rotate_left
 focus
  subst c3
  rw [if_pos rfl] at H
  replace H := Option.bind_eq_some_iff.mp H
  obtain ⟨t301, A40, H⟩ := H
  replace H : (if t301 = true then (some (decide ((l0_2.length : Int) ≤ 20))) else (some false)) = some r := H
  have A4 := mk_ A40
  clear A40
  by_cases c5 : t301 = true
  focus
   subst c5
   have H1 : (some (decide ((l0_2.length : Int) ≤ 20))) = some r := by rw [if_pos rfl] at H; exact H
   clear H
   have H := H1
   clear H1
   obtain rfl := Option.some.inj H
  rotate_left
  focus
   replace c5 := Bool.eq_false_iff.mpr c5
   subst c5
   have H1 : (some false) = some r := by rw [if_neg (show ¬ (false = true) by decide)] at H; exact H
   clear H
   have H := H1
   clear H1
   obtain rfl := Option.some.inj H
  rotate_left
 rotate_left 2
 all_goals
  go_enter Try.func105, Try.ntmps105
  go_wp2_with (first | ((with_reducible refine gate_dst (N := 1) rfl ?_); refine box_event ?hg (N := 1) ?hd (cs := #[.int .i64 a0_0, .int .i64 a0_1, .slice A0_2 l0_2.length c0_2]) (t := 44) ?hr ?_; (case hd => rfl); (case hg => rfl); (case hr => first | (go_simp; done) | (go_simp; rfl)); intro gb1840 hg w1841 hbox hb; have n0_ := mk_ (below_step (ub_ HB.out) hb); have BK299 := mk_ (hbox); have GW299 := mk_ ((by rw [hg]; exact (below_size (ub_ HB.out)) : w.heap.size ≤ gb1840)); have GE299 := ge_ ((by rw [hg]; exact (below_size (ub_ HB.out)) : w.heap.size ≤ gb1840)); replace HB := n0_; clear n0_; clear hb hbox hg; obtain ⟨_, _, _, _, _, _⟩ := cells3_ BK299.out) | ((with_reducible refine gate_callee (f := 48) rfl ?_); refine goesL_ (some 5) rfl rfl Try.func48 (by kernel_rfl) rfl #[.int .i64 a0_0, .int .i64 1, .int .i64 6] rfl (by (try simp only [lm_, lo_, ln_]); try rfl) ?_; (with_reducible refine (impl_in.calls a0_0 1 6 false _ A2.out).mono ?_); rintro e w' ⟨rfl, ⟨nd, rfl⟩⟩; refine ⟨_, rfl, ?_⟩) | ((with_reducible refine gate_callee (f := 48) rfl ?_); refine goesL_ (some 5) rfl rfl Try.func48 (by kernel_rfl) rfl #[.int .i64 a0_0, .int .i64 1, .int .i64 6] rfl (by (try simp only [lm_, lo_, ln_]); try rfl) ?_; (with_reducible refine (impl_in.calls a0_0 1 6 true _ A2.out).mono ?_); rintro e w' ⟨rfl, ⟨nd, rfl⟩⟩; refine ⟨_, rfl, ?_⟩) | (go_at_call 49; (with_reducible refine (impl_word.calls a0_1 true _ A4.out).mono ?_); rintro e w' ⟨rfl, ⟨nd, rfl⟩⟩) | (go_at_call 49; (with_reducible refine (impl_word.calls a0_1 false _ A4.out).mono ?_); rintro e w' ⟨rfl, ⟨nd, rfl⟩⟩))
  go_ret
  exact ⟨by first | rfl | (simp [errW_none, errW_some] <;> rfl) | (simp [*, errW_none, errW_some] <;> rfl), us_ HB.out⟩

/-! ### slices_Grow_byte_byte: function 125, at nil -/
set_option maxHeartbeats 400000 in
set_option maxRecDepth 100000 in
theorem slices_Grow_byte_byte.calls (n : Int) (w : World) (h0 : 0 ≤ n) (h1 : n ≤ 140737488355328) :
    Calls Try.prog 125 #[.slice none 0 0, .int .i64 n] w fun e w' => ∃ v0_ : Value, e = .returned (v0_) ∧ Kd.R (Kd.int .u8) 5 w' w.heap.size (fun _ => True) v0_ [] ∧ Below w.heap.size w w' := by
 have HI := Aside0.mk info5
 have hn0 : decide (n < 0) = false := decide_eq_false (by omega)
 by_cases hz : n = 0
 ·subst hz
  go_enter Try.func125, Try.ntmps125
  go_wp2_with fail
  go_ret
  exact ⟨_, rfl, Kd.R_nil _ _ _ _ _, Below.refl _ _⟩
 ·have hp : decide (0 < n) = true := decide_eq_true (by omega)
  have H0 := Aside0.mk h0
  have H1 := Aside0.mk h1
  clear hz
  go_enter Try.func125, Try.ntmps125
  go_wp2_with (at_builtin; refine Kd.R_append_zeros (Kd.int .u8) (w0 := w) w.heap.size rfl (.tmp 20) (.tmp 21) 22 3 5 (.int .u8 0) 1 rfl Try.underlying22 Try.underlying3 HI.out rfl (by decide) (by omega) (.slice none 0 0) ([] : List Int) (0 : Int) n (fun _ => True) rfl rfl rfl (fun _ _ => trivial) (Kd.R_nil _ _ _ _ _) H0.out (Below.refl _ _) (Nat.le_refl _) (by have := H1.out; have := H0.out; simp; omega) ?_; intro v1 w1 ho hb hg hat; obtain ⟨A1, c1, hv1, hl1, hc1⟩ := Kd.R_reads ho; subst hv1; have HO := Aside0.mk (Kd.R_take (m := 0) ho (Nat.zero_le _)); have HB := Aside0.mk hb; clear ho hb hg hat hc1)
  go_ret
  exact ⟨_, rfl, by simpa using HO.out, HB.out⟩

end Go.Proofs.Ytkkibccnpkbbjab.MFnNoteEchoed
