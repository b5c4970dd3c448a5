/- Functions that the law FnNoteAbout reaches, each with the proof that the machine's call comes to just its answer; no conditions but those that each theorem states. Printed by a program of this session over the kit's print. -/
import Derived.Test.YtkkibccnpkbbjabMFnNoteAboutx0
import Derived.Test.YtkkibccnpkbbjabMFnNoteAboutx1
import Derived.Test.YtkkibccnpkbbjabMFnNoteAboutx4
import Derived.Test.YtkkibccnpkbbjabMFnNoteAboutx8
import Derived.Test.YtkkibccnpkbbjabMFnNoteAboutx10
import Derived.Test.YtkkibccnpkbbjabMFnNoteAboutx14
namespace Go.Proofs.Ytkkibccnpkbbjab.MFnNoteAbout
open Go.RowKit Go.Proofs.YtkkibccnpkbbjabV.PrintWords Go.Proofs.YtkkibccnpkbbjabV.PrintLast Go.Proofs.YtkkibccnpkbbjabV.PrintMore
attribute [local go_sem] max2_int min2_int max_two min_two max_three min_three max_four min_four   -- for this text's walks alone
set_option linter.unusedVariables false
set_option linter.unusedSimpArgs false

/-! ### laws_FnNoteAbout: function 5 -/
def laws_FnNoteAbout.j0 : Nat → Int → Bool → Bool → Int → Int → Int → Int → Int → Int → Bool → Bool → List Int → Int → Int → Int → Int → Int → Int → Bool → Bool → List Int → Option (Bool)
 | 0, _, _, _, _, _, _, _, _, _, _, _, _, _, _, _, _, _, _, _, _, _ => none
 | k + 1, x4, x8, x49, x536000, x536001, x536002, x536003, x536004, x536005, x536006, x536007, x536008, x549000, x549001, x549002, x549003, x549004, x549005, x549006, x549007, x549008 => if x49 = true then (some false) else (if x8 = true then ((impl_NoteAbout.f k x549000 x549001 x549002 x549003 x549004 x549005 x549006 x549007 x549008 x536000 3 0).bind fun bt564 => ((impl_NoteEchoed.f k x549000 x549001 x549002 x549003 x549004 x549005 x549006 x549007 x549008 x549001).bind fun bt577 => ((impl_PacketOk.f x549000 x549001 x549002 x549003 x549004 x549005 x549006 x549007 x549008).bind fun t590 => (if t590 = true then (if x549001 = x536000 then (if x549000 = x4 then ((impl_NoteFault.f k x549000 x549001 x549002 x549003 x549004 x549005 x549006 x549007 x549008).bind fun t591 => (if t591 = true then (if bt564.2.2.2.2.2.2.2.2.2 = true then (some false) else (some (!bt577.2.2.2.2.2.2.2.2.2))) else (some false))) else (some false)) else (some false)) else (some false))))) else ((laws_alive.f k).bind fun t563 => (some t563)))
def laws_FnNoteAbout.f (k : Nat) (l0 : List Int) : Option (Bool) := if (l0.length : Int) > 1048576 then (some true) else ((spec_DrawNoteAbout.f k l0).bind fun bt521 => ((impl_NoteAbout.f k bt521.1 bt521.2.1 bt521.2.2.1 bt521.2.2.2.1 bt521.2.2.2.2.1 bt521.2.2.2.2.2.1 bt521.2.2.2.2.2.2.1 bt521.2.2.2.2.2.2.2.1 bt521.2.2.2.2.2.2.2.2.1 bt521.2.2.2.2.2.2.2.2.2.1 bt521.2.2.2.2.2.2.2.2.2.2.1 bt521.2.2.2.2.2.2.2.2.2.2.2).bind fun bt536 => ((spec_NoteAbout.f k bt521.1 bt521.2.1 bt521.2.2.1 bt521.2.2.2.1 bt521.2.2.2.2.1 bt521.2.2.2.2.2.1 bt521.2.2.2.2.2.2.1 bt521.2.2.2.2.2.2.2.1 bt521.2.2.2.2.2.2.2.2.1 bt521.2.2.2.2.2.2.2.2.2.1 bt521.2.2.2.2.2.2.2.2.2.2.1 bt521.2.2.2.2.2.2.2.2.2.2.2).bind fun bt549 => (if (bt536.2.2.2.2.2.2.2.2.2 != bt549.2.2.2.2.2.2.2.2.2) = true then (laws_FnNoteAbout.j0 k bt521.2.2.2.2.2.2.2.2.2.1 bt536.2.2.2.2.2.2.2.2.2 true bt521.1 bt521.2.1 bt521.2.2.1 bt521.2.2.2.1 bt521.2.2.2.2.1 bt521.2.2.2.2.2.1 bt521.2.2.2.2.2.2.1 bt521.2.2.2.2.2.2.2.1 bt521.2.2.2.2.2.2.2.2.1 bt536.1 bt536.2.1 bt536.2.2.1 bt536.2.2.2.1 bt536.2.2.2.2.1 bt536.2.2.2.2.2.1 bt536.2.2.2.2.2.2.1 bt536.2.2.2.2.2.2.2.1 bt536.2.2.2.2.2.2.2.2.1) else ((laws_samePacket.f bt536.1 bt536.2.1 bt536.2.2.1 bt536.2.2.2.1 bt536.2.2.2.2.1 bt536.2.2.2.2.2.1 bt536.2.2.2.2.2.2.1 bt536.2.2.2.2.2.2.2.1 bt536.2.2.2.2.2.2.2.2.1 bt549.1 bt549.2.1 bt549.2.2.1 bt549.2.2.2.1 bt549.2.2.2.2.1 bt549.2.2.2.2.2.1 bt549.2.2.2.2.2.2.1 bt549.2.2.2.2.2.2.2.1 bt549.2.2.2.2.2.2.2.2.1).bind fun t562 => (laws_FnNoteAbout.j0 k bt521.2.2.2.2.2.2.2.2.2.1 bt536.2.2.2.2.2.2.2.2.2 (!t562) bt521.1 bt521.2.1 bt521.2.2.1 bt521.2.2.2.1 bt521.2.2.2.2.1 bt521.2.2.2.2.2.1 bt521.2.2.2.2.2.2.1 bt521.2.2.2.2.2.2.2.1 bt521.2.2.2.2.2.2.2.2.1 bt536.1 bt536.2.1 bt536.2.2.1 bt536.2.2.2.1 bt536.2.2.2.2.1 bt536.2.2.2.2.2.1 bt536.2.2.2.2.2.2.1 bt536.2.2.2.2.2.2.2.1 bt536.2.2.2.2.2.2.2.2.1))))))
theorem laws_FnNoteAbout.mono_l : ∀ k, (∀ y0 y1 y2 y3 y4 y5 y6 y7 y8 y9 y10 y11 y12 y13 y14 y15 y16 y17 y18 y19 y20, LeO (laws_FnNoteAbout.j0 k y0 y1 y2 y3 y4 y5 y6 y7 y8 y9 y10 y11 y12 y13 y14 y15 y16 y17 y18 y19 y20) (laws_FnNoteAbout.j0 (k + 1) y0 y1 y2 y3 y4 y5 y6 y7 y8 y9 y10 y11 y12 y13 y14 y15 y16 y17 y18 y19 y20))
 | 0 => fun _ _ _ _ _ _ _ _ _ _ _ _ _ _ _ _ _ _ _ _ _ r h => by simp [laws_FnNoteAbout.j0] at h
 | k + 1 => by
  have ih0 := laws_FnNoteAbout.mono_l k
  ·intro y0 y1 y2 y3 y4 y5 y6 y7 y8 y9 y10 y11 y12 y13 y14 y15 y16 y17 y18 y19 y20
   unfold laws_FnNoteAbout.j0
   repeat' first
   | (with_reducible exact ih0 _ _ _ _ _ _ _ _ _ _ _ _ _ _ _ _ _ _ _ _ _)
   | (with_reducible exact impl_NoteAbout.mono _ _ _ _ _ _ _ _ _ _ _ _ _)
   | (with_reducible exact impl_NoteEchoed.mono _ _ _ _ _ _ _ _ _ _ _)
   | (with_reducible exact impl_NoteFault.mono _ _ _ _ _ _ _ _ _ _)
   | (with_reducible exact laws_alive.mono _)
   | (with_reducible exact spec_DrawNoteAbout.mono _ _)
   | (with_reducible exact spec_NoteAbout.mono _ _ _ _ _ _ _ _ _ _ _ _ _)
   | (with_reducible exact LeO.refl _)
   | (with_reducible exact LeO.none _)
   | (with_reducible refine LeO.ite ?_ ?_)
   | (with_reducible refine LeO.bind ?_ (fun _ => ?_))
   | exact ih0 _ _ _ _ _ _ _ _ _ _ _ _ _ _ _ _ _ _ _ _ _
   | exact impl_NoteAbout.mono _ _ _ _ _ _ _ _ _ _ _ _ _
   | exact impl_NoteEchoed.mono _ _ _ _ _ _ _ _ _ _ _
   | exact impl_NoteFault.mono _ _ _ _ _ _ _ _ _ _
   | exact laws_alive.mono _
   | exact spec_DrawNoteAbout.mono _ _
   | exact spec_NoteAbout.mono _ _ _ _ _ _ _ _ _ _ _ _ _
   | exact LeO.none _
   | refine LeO.ite ?_ ?_
   | refine LeO.bind ?_ (fun _ => ?_)
theorem laws_FnNoteAbout.mono : ∀ a0 k, LeO (laws_FnNoteAbout.f k a0) (laws_FnNoteAbout.f (k + 1) a0) := by
 intro a0 k
 have ih0 := laws_FnNoteAbout.mono_l k
 unfold laws_FnNoteAbout.f
 repeat' first
   | (with_reducible exact ih0 _ _ _ _ _ _ _ _ _ _ _ _ _ _ _ _ _ _ _ _ _)
   | (with_reducible exact impl_NoteAbout.mono _ _ _ _ _ _ _ _ _ _ _ _ _)
   | (with_reducible exact impl_NoteEchoed.mono _ _ _ _ _ _ _ _ _ _ _)
   | (with_reducible exact impl_NoteFault.mono _ _ _ _ _ _ _ _ _ _)
   | (with_reducible exact laws_alive.mono _)
   | (with_reducible exact spec_DrawNoteAbout.mono _ _)
   | (with_reducible exact spec_NoteAbout.mono _ _ _ _ _ _ _ _ _ _ _ _ _)
   | (with_reducible exact LeO.refl _)
   | (with_reducible exact LeO.none _)
   | (with_reducible refine LeO.ite ?_ ?_)
   | (with_reducible refine LeO.bind ?_ (fun _ => ?_))
   | exact ih0 _ _ _ _ _ _ _ _ _ _ _ _ _ _ _ _ _ _ _ _ _
   | exact impl_NoteAbout.mono _ _ _ _ _ _ _ _ _ _ _ _ _
   | exact impl_NoteEchoed.mono _ _ _ _ _ _ _ _ _ _ _
   | exact impl_NoteFault.mono _ _ _ _ _ _ _ _ _ _
   | exact laws_alive.mono _
   | exact spec_DrawNoteAbout.mono _ _
   | exact spec_NoteAbout.mono _ _ _ _ _ _ _ _ _ _ _ _ _
   | exact LeO.none _
   | refine LeO.ite ?_ ?_
   | refine LeO.bind ?_ (fun _ => ?_)
set_option maxHeartbeats 8000000 in
set_option maxRecDepth 100000 in
theorem laws_FnNoteAbout.calls (k : Nat) (A0 : Option Addr) (c0 : Nat) (l0 : List Int) (r : Bool) (w : World) (hr0 : Kd.C (Kd.int .u8) w A0 l0.length l0) (hc0 : l0.length ≤ c0) (h : laws_FnNoteAbout.f k l0 = some r) :
  Calls Try.prog 5 #[.slice A0 l0.length c0] w fun e w' => e = .returned (.bool r) ∧ Below w.heap.size w w' := by
 have hu37 := Try.underlying37
 have HR0 := mk_ hr0
 have HC0 := mk_ hc0
 clear hr0 hc0
 have HB := mk_ (Below.refl w.heap.size w)
 have H := h
 unfold laws_FnNoteAbout.f at H
 clear h
 by_cases c2 : (l0.length : Int) > 1048576
 ·rw [if_pos c2] at H
  have c2b0 : decide (1048576 < (l0.length : Int)) = true := decide_eq_true c2
  have c2b1 : decide (1048576 < l0.length) = true := decide_eq_true (by omega)
  clear c2
  obtain rfl := Option.some.inj H
  go_enter Try.func5, Try.ntmps5
  go_wp2
  go_ret
  exact ⟨by first | rfl | (simp [errW_none, errW_some] <;> rfl) | (simp [*, errW_none, errW_some] <;> rfl), by repeat (first | (with_reducible first | exact HB.out | apply na_ | apply nn_ | apply nw_) | exact HB.out)⟩
 rw [if_neg c2] at H
 have c2b0 : decide (1048576 < (l0.length : Int)) = false := decide_eq_false c2
 have c2b1 : decide (1048576 < l0.length) = false := decide_eq_false (by omega)
 clear c2
 replace H := Option.bind_eq_some_iff.mp H
 obtain ⟨⟨t521, t522, t523, t524, t525, t526, t527, t528, t529, t532, t533, t534⟩, A30, H⟩ := H
 (try dsimp only at H)
 have A3 := mk_ A30
 clear A30
 replace H := Option.bind_eq_some_iff.mp H
 obtain ⟨⟨t536, t537, t538, t539, t540, t541, t542, t543, t544, t547⟩, A40, H⟩ := H
 (try dsimp only at H)
 have A4 := mk_ A40
 clear A40
 replace H := Option.bind_eq_some_iff.mp H
 obtain ⟨⟨t549, t550, t551, t552, t553, t554, t555, t556, t557, t560⟩, A50, H⟩ := H
 (try dsimp only at H)
 have A5 := mk_ A50
 clear A50
 have HC6 := mk_ H
 clear H
 go_enter Try.func5, Try.ntmps5
 go_upto_region 6 with (first | ((with_reducible refine gate_callee (f := 23) rfl ?_); refine goesL_ (some 20) rfl rfl Try.func23 (by kernel_rfl) rfl #[.slice A0 l0.length c0] rfl (by (try simp only [lm_, lo_, ln_]); try rfl) ?_; (with_reducible refine (spec_DrawNoteAbout.calls k _ _ l0 t521 t522 t523 t524 t525 t526 t527 t528 t529 t532 t533 t534 _ ?side1 ?side2 A3.out).mono ?_); (case side1 => repeat (first | exact HR0.out | (with_reducible refine Kd.C_alloc ?_ _) | (with_reducible refine Kd.C_drewN ?_ _) | (with_reducible refine Kd.C_drew ?_))); (case side2 => exact HC0.out); rintro e w7 ⟨v530, rfl, ho0, hb⟩; refine ⟨_, rfl, ?_⟩; have HO531 := mk_ (Kd.R_lower ho0 (below_size (ub_ HB.out))); replace HB := mk_ (below_step (ub_ HB.out) hb)) | ((with_reducible refine gate_dst (N := 3) rfl ?_); refine box_event ?hg (N := 3) ?hd (cs := #[.int .i64 0, .int .i64 0, .int .i64 0, .int .i64 0, .int .i64 0, .int .i64 0, .bool false, .bool false, .slice none 0 0]) (t := 37) ?hr ?_; (case hd => rfl); (case hg => rfl); (case hr => first | (go_simp; done) | (go_simp; rfl)); intro gb535 hg w8 hbox hb; replace HO531 := mk_ (Kd.R_below (Kd.ur_ HO531.out) hb); have n1_ := mk_ (below_step (ub_ HB.out) hb); have BK535 := mk_ (hbox); have GW535 := mk_ ((by rw [hg]; exact (below_size (ub_ HB.out)) : w.heap.size ≤ gb535)); have GE535 := ge_ ((by rw [hg]; exact (below_size (ub_ HB.out)) : w.heap.size ≤ gb535)); replace HB := n1_; clear n1_; clear hb hbox hg; obtain ⟨hcz9_0, hcz9_1, hcz9_2, hcz9_3, hcz9_4, hcz9_5, hcz9_6, hcz9_7, hcz9_8, hfz9_0, hfz9_1, hfz9_2, hfz9_3, hfz9_4, hfz9_5, hfz9_6, hfz9_7, hfz9_8⟩ := cells9_ BK535.out; obtain ⟨Ao10, co10, eo10⟩ := Kd.R_slice HO531.out; subst eo10) | ((with_reducible refine gate_store (t := 37) (p := 3) rfl ?_); refine store_event (t := 37) (p := 3) (v := ?_) (w1 := ?_) ?hg ?ho ?hn ?hr ?_; (case ho => rfl); (case hg => rfl); (case hn => rfl); (case hr => first | (go_simp; done) | (go_simp; rfl)); intro w11 hw; have n0_ : Aside0 (Kd.R (Kd.int .u8) 5 w11 w.heap.size (fun _ => True) (.slice Ao10 t529.length co10) t529) := ⟨(by rw [hw]; exact (by (with_reducible repeat (first | apply Kd.R_alloc | apply Kd.R_drewN | apply Kd.R_drew)); exact Kd.R_mono (Kd.R_far9 (g := gb535) (Kd.R_types HO531.out BK535.out (by decide)) (fun _ hk => hk.2) _ _ _ _ _ _ _ _ _) (fun _ hk => trivial)))⟩; have n1_ : Aside0 (w11.heap[gb535]? = some (.cells #[.int .i64 t521, .int .i64 t522, .int .i64 t523, .int .i64 t524, .int .i64 t525, .int .i64 t526, .bool t527, .bool t528, .slice Ao10 t529.length co10] 37 (0, 0))) := ⟨(by rw [hw]; exact (by (with_reducible repeat (first | refine bn_ ?_ _ | refine bw_ ?_ | refine ba_ ?_ _)); with_reducible apply blk_put9; (with_reducible repeat (first | refine bn_ ?_ _ | refine bw_ ?_ | refine ba_ ?_ _)); exact BK535.out))⟩; have n2_ : Aside0 (Below w.heap.size w w11) := ⟨(by rw [hw]; exact (us_ HB.out))⟩; clear hw; clear HO531; clear BK535; clear HB; have HO531 := n0_; have BK535 := n1_; have HB := n2_; clear n0_ n1_ n2_; obtain ⟨hcz12_0, hcz12_1, hcz12_2, hcz12_3, hcz12_4, hcz12_5, hcz12_6, hcz12_7, hcz12_8, hfz12_0, hfz12_1, hfz12_2, hfz12_3, hfz12_4, hfz12_5, hfz12_6, hfz12_7, hfz12_8⟩ := cells9_ BK535.out) | ((with_reducible refine gate_callee (f := 24) rfl ?_); refine goesL_ (some 30) rfl rfl Try.func24 (by kernel_rfl) rfl #[.agg #[.int .i64 t521, .int .i64 t522, .int .i64 t523, .int .i64 t524, .int .i64 t525, .int .i64 t526, .bool t527, .bool t528, .slice Ao10 t529.length co10], .int .i64 t532, .int .i64 t533, .int .i64 t534] rfl (by (try simp only [lm_, lo_, ln_]); try rfl) ?_; (with_reducible refine (impl_NoteAbout.calls k t521 t522 t523 t524 t525 t526 t527 t528 _ _ t529 t532 t533 t534 t536 t537 t538 t539 t540 t541 t542 t543 t544 t547 _ ?side1 ?side2 A4.out).mono ?_); (case side1 => repeat (first | exact (Kd.R_reads' HO531.out).2.2 | (with_reducible refine Kd.C_alloc ?_ _) | (with_reducible refine Kd.C_drewN ?_ _) | (with_reducible refine Kd.C_drew ?_))); (case side2 => exact (Kd.R_reads' HO531.out).2.1); rintro e w13 ⟨v545, rfl, ho0, hb⟩; refine ⟨_, rfl, ?_⟩; have n0_ := mk_ (Kd.R_elder' (Kd.ur_ HO531.out) (Kd.R_base ho0) hb); have HO546 := mk_ (Kd.R_lower (Kd.R_new' ho0 (Kd.R_lt (Kd.ur_ HO531.out))) (below_size (us_ HB.out))); replace BK535 := mk_ (blk_below (u_ BK535.out) hb); replace HB := mk_ (below_step (us_ HB.out) hb); replace HO531 := n0_; clear n0_) | ((with_reducible refine gate_dst (N := 7) rfl ?_); refine box_event ?hg (N := 7) ?hd (cs := #[.int .i64 0, .int .i64 0, .int .i64 0, .int .i64 0, .int .i64 0, .int .i64 0, .bool false, .bool false, .slice none 0 0]) (t := 37) ?hr ?_; (case hd => rfl); (case hg => rfl); (case hr => first | (go_simp; done) | (go_simp; rfl)); intro gb548 hg w14 hbox hb; replace HO531 := mk_ (Kd.R_below (Kd.ur_ HO531.out) hb); replace HO546 := mk_ (Kd.R_below (Kd.ur_ HO546.out) hb); have n2_ := mk_ (blk_below (u_ BK535.out) hb); have n3_ := mk_ (below_step (us_ HB.out) hb); have BK548 := mk_ (hbox); have GW548 := mk_ ((by rw [hg]; exact (below_size (us_ HB.out)) : w.heap.size ≤ gb548)); have GE548 := ge_ ((by rw [hg]; exact (below_size (us_ HB.out)) : w.heap.size ≤ gb548)); have NB535_548 := nq_ ((by rw [hg]; exact Nat.ne_of_lt (blk_lt (u_ BK535.out)) : gb535 ≠ gb548)); have NB548_535 := nq_ ((by rw [hg]; exact Nat.ne_of_gt (blk_lt (u_ BK535.out)) : gb548 ≠ gb535)); replace BK535 := n2_; replace HB := n3_; clear n2_ n3_; clear hb hbox hg; have hnb15 := NB548_535.out; have hnc15 := NB535_548.out; obtain ⟨hcz16_0, hcz16_1, hcz16_2, hcz16_3, hcz16_4, hcz16_5, hcz16_6, hcz16_7, hcz16_8, hfz16_0, hfz16_1, hfz16_2, hfz16_3, hfz16_4, hfz16_5, hfz16_6, hfz16_7, hfz16_8⟩ := cells9_ BK548.out; obtain ⟨Ao17, co17, eo17⟩ := Kd.R_slice HO546.out; subst eo17) | ((with_reducible refine gate_store (t := 37) (p := 7) rfl ?_); refine store_event (t := 37) (p := 7) (v := ?_) (w1 := ?_) ?hg ?ho ?hn ?hr ?_; (case ho => rfl); (case hg => rfl); (case hn => rfl); (case hr => first | (go_simp; done) | (go_simp; rfl)); intro w18 hw; have n0_ : Aside0 (Kd.R (Kd.int .u8) 5 w18 w.heap.size (fun k_ => some k_ ≠ (.slice Ao17 t544.length co17 : Value).ownBlock) (.slice Ao10 t529.length co10) t529) := ⟨(by rw [hw]; exact (by (with_reducible repeat (first | apply Kd.R_alloc | apply Kd.R_drewN | apply Kd.R_drew)); exact Kd.R_mono (Kd.R_far9 (g := gb548) (Kd.R_types HO531.out BK548.out (by decide)) (fun _ hk => hk.2) _ _ _ _ _ _ _ _ _) (fun _ hk => hk.1.2)))⟩; have n1_ : Aside0 (Kd.R (Kd.int .u8) 5 w18 w.heap.size (fun k_ => some k_ ≠ (.slice Ao10 t529.length co10 : Value).ownBlock) (.slice Ao17 t544.length co17) t544) := ⟨(by rw [hw]; exact (by (with_reducible repeat (first | apply Kd.R_alloc | apply Kd.R_drewN | apply Kd.R_drew)); exact Kd.R_mono (Kd.R_far9 (g := gb548) (Kd.R_types HO546.out BK548.out (by decide)) (fun _ hk => hk.2) _ _ _ _ _ _ _ _ _) (fun _ hk => hk.1.2)))⟩; have n2_ : Aside0 (w18.heap[gb535]? = some (.cells #[.int .i64 t521, .int .i64 t522, .int .i64 t523, .int .i64 t524, .int .i64 t525, .int .i64 t526, .bool t527, .bool t528, .slice Ao10 t529.length co10] 37 (0, 0))) := ⟨(by rw [hw]; exact (uf_ BK535.out))⟩; have n3_ : Aside0 (w18.heap[gb548]? = some (.cells #[.int .i64 t536, .int .i64 t537, .int .i64 t538, .int .i64 t539, .int .i64 t540, .int .i64 t541, .bool t542, .bool t543, .slice Ao17 t544.length co17] 37 (0, 0))) := ⟨(by rw [hw]; exact (by (with_reducible repeat (first | refine bn_ ?_ _ | refine bw_ ?_ | refine ba_ ?_ _)); with_reducible apply blk_put9; (with_reducible repeat (first | refine bn_ ?_ _ | refine bw_ ?_ | refine ba_ ?_ _)); exact BK548.out))⟩; have n4_ : Aside0 (Below w.heap.size w w18) := ⟨(by rw [hw]; exact (us_ HB.out))⟩; clear hw; clear HO531; clear HO546; clear BK535; clear BK548; clear HB; have HO531 := n0_; have HO546 := n1_; have BK535 := n2_; have BK548 := n3_; have HB := n4_; clear n0_ n1_ n2_ n3_ n4_; obtain ⟨hcz19_0, hcz19_1, hcz19_2, hcz19_3, hcz19_4, hcz19_5, hcz19_6, hcz19_7, hcz19_8, hfz19_0, hfz19_1, hfz19_2, hfz19_3, hfz19_4, hfz19_5, hfz19_6, hfz19_7, hfz19_8⟩ := cells9_ BK535.out) | ((with_reducible refine gate_callee (f := 25) rfl ?_); refine goesL_ (some 38) rfl rfl Try.func25 (by kernel_rfl) rfl #[.agg #[.int .i64 t521, .int .i64 t522, .int .i64 t523, .int .i64 t524, .int .i64 t525, .int .i64 t526, .bool t527, .bool t528, .slice Ao10 t529.length co10], .int .i64 t532, .int .i64 t533, .int .i64 t534] rfl (by (try simp only [lm_, lo_, ln_]); try rfl) ?_; (with_reducible refine (spec_NoteAbout.calls k t521 t522 t523 t524 t525 t526 t527 t528 _ _ t529 t532 t533 t534 t549 t550 t551 t552 t553 t554 t555 t556 t557 t560 _ ?side1 ?side2 A5.out).mono ?_); (case side1 => repeat (first | exact (Kd.R_reads' HO531.out).2.2 | (with_reducible refine Kd.C_alloc ?_ _) | (with_reducible refine Kd.C_drewN ?_ _) | (with_reducible refine Kd.C_drew ?_))); (case side2 => exact (Kd.R_reads' HO531.out).2.1); rintro e w20 ⟨v558, rfl, ho0, hb⟩; refine ⟨_, rfl, ?_⟩; have n0_ := mk_ (Kd.R_elder' (Kd.ur_ HO531.out) (Kd.R_base ho0) hb); have n1_ := mk_ (Kd.R_elder' (Kd.ur_ HO546.out) (Kd.R_base ho0) hb); have HO559 := mk_ (Kd.R_lower (Kd.R_new' (Kd.R_new' ho0 (Kd.R_lt (Kd.ur_ HO531.out))) (Kd.R_lt (Kd.ur_ HO546.out))) (below_size (us_ HB.out))); replace BK535 := mk_ (blk_below (u_ BK535.out) hb); replace BK548 := mk_ (blk_below (u_ BK548.out) hb); replace HB := mk_ (below_step (us_ HB.out) hb); replace HO531 := n0_; replace HO546 := n1_; clear n0_ n1_) | ((with_reducible refine gate_dst (N := 9) rfl ?_); refine box_event ?hg (N := 9) ?hd (cs := #[.int .i64 0, .int .i64 0, .int .i64 0, .int .i64 0, .int .i64 0, .int .i64 0, .bool false, .bool false, .slice none 0 0]) (t := 37) ?hr ?_; (case hd => rfl); (case hg => rfl); (case hr => first | (go_simp; done) | (go_simp; rfl)); intro gb561 hg w21 hbox hb; replace HO531 := mk_ (Kd.R_below (Kd.ur_ HO531.out) hb); replace HO546 := mk_ (Kd.R_below (Kd.ur_ HO546.out) hb); replace HO559 := mk_ (Kd.R_below (Kd.ur_ HO559.out) hb); have n3_ := mk_ (blk_below (u_ BK535.out) hb); have n4_ := mk_ (blk_below (u_ BK548.out) hb); have n5_ := mk_ (below_step (us_ HB.out) hb); have BK561 := mk_ (hbox); have GW561 := mk_ ((by rw [hg]; exact (below_size (us_ HB.out)) : w.heap.size ≤ gb561)); have GE561 := ge_ ((by rw [hg]; exact (below_size (us_ HB.out)) : w.heap.size ≤ gb561)); have NB535_561 := nq_ ((by rw [hg]; exact Nat.ne_of_lt (blk_lt (u_ BK535.out)) : gb535 ≠ gb561)); have NB561_535 := nq_ ((by rw [hg]; exact Nat.ne_of_gt (blk_lt (u_ BK535.out)) : gb561 ≠ gb535)); have NB548_561 := nq_ ((by rw [hg]; exact Nat.ne_of_lt (blk_lt (u_ BK548.out)) : gb548 ≠ gb561)); have NB561_548 := nq_ ((by rw [hg]; exact Nat.ne_of_gt (blk_lt (u_ BK548.out)) : gb561 ≠ gb548)); replace BK535 := n3_; replace BK548 := n4_; replace HB := n5_; clear n3_ n4_ n5_; clear hb hbox hg; have hnb22 := NB561_535.out; have hnc22 := NB535_561.out; have hnb23 := NB561_548.out; have hnc23 := NB548_561.out; obtain ⟨hcz24_0, hcz24_1, hcz24_2, hcz24_3, hcz24_4, hcz24_5, hcz24_6, hcz24_7, hcz24_8, hfz24_0, hfz24_1, hfz24_2, hfz24_3, hfz24_4, hfz24_5, hfz24_6, hfz24_7, hfz24_8⟩ := cells9_ BK561.out; obtain ⟨Ao25, co25, eo25⟩ := Kd.R_slice HO559.out; subst eo25) | ((with_reducible refine gate_store (t := 37) (p := 9) rfl ?_); refine store_event (t := 37) (p := 9) (v := ?_) (w1 := ?_) ?hg ?ho ?hn ?hr ?_; (case ho => rfl); (case hg => rfl); (case hn => rfl); (case hr => first | (go_simp; done) | (go_simp; rfl)); intro w26 hw; have n0_ : Aside0 (Kd.R (Kd.int .u8) 5 w26 w.heap.size (fun k_ => some k_ ≠ (.slice Ao17 t544.length co17 : Value).ownBlock ∧ some k_ ≠ (.slice Ao25 t557.length co25 : Value).ownBlock) (.slice Ao10 t529.length co10) t529) := ⟨(by rw [hw]; exact (by (with_reducible repeat (first | apply Kd.R_alloc | apply Kd.R_drewN | apply Kd.R_drew)); exact Kd.R_mono (Kd.R_far9 (g := gb561) (Kd.R_types HO531.out BK561.out (by decide)) (fun _ hk => hk.2) _ _ _ _ _ _ _ _ _) (fun _ hk => by first | exact ⟨hk.1.1, hk.1.2⟩ | exact hk.1 | exact hk | exact ⟨hk.1, hk.2⟩ | exact ⟨.inr hk.1, hk.2⟩ | simp only [hk, ne_eq, not_false_eq_true, and_self])))⟩; have n1_ : Aside0 (Kd.R (Kd.int .u8) 5 w26 w.heap.size (fun k_ => some k_ ≠ (.slice Ao10 t529.length co10 : Value).ownBlock ∧ some k_ ≠ (.slice Ao25 t557.length co25 : Value).ownBlock) (.slice Ao17 t544.length co17) t544) := ⟨(by rw [hw]; exact (by (with_reducible repeat (first | apply Kd.R_alloc | apply Kd.R_drewN | apply Kd.R_drew)); exact Kd.R_mono (Kd.R_far9 (g := gb561) (Kd.R_types HO546.out BK561.out (by decide)) (fun _ hk => hk.2) _ _ _ _ _ _ _ _ _) (fun _ hk => by first | exact ⟨hk.1.1, hk.1.2⟩ | exact hk.1 | exact hk | exact ⟨hk.1, hk.2⟩ | exact ⟨.inr hk.1, hk.2⟩ | simp only [hk, ne_eq, not_false_eq_true, and_self])))⟩; have n2_ : Aside0 (Kd.R (Kd.int .u8) 5 w26 w.heap.size (fun k_ => some k_ ≠ (.slice Ao10 t529.length co10 : Value).ownBlock ∧ some k_ ≠ (.slice Ao17 t544.length co17 : Value).ownBlock) (.slice Ao25 t557.length co25) t557) := ⟨(by rw [hw]; exact (by (with_reducible repeat (first | apply Kd.R_alloc | apply Kd.R_drewN | apply Kd.R_drew)); exact Kd.R_mono (Kd.R_far9 (g := gb561) (Kd.R_types HO559.out BK561.out (by decide)) (fun _ hk => hk.2) _ _ _ _ _ _ _ _ _) (fun _ hk => by first | exact ⟨hk.1.1.2, hk.1.2⟩ | exact hk.1 | exact hk | exact ⟨hk.1, hk.2⟩ | exact ⟨.inr hk.1, hk.2⟩ | simp only [hk, ne_eq, not_false_eq_true, and_self])))⟩; have n3_ : Aside0 (w26.heap[gb535]? = some (.cells #[.int .i64 t521, .int .i64 t522, .int .i64 t523, .int .i64 t524, .int .i64 t525, .int .i64 t526, .bool t527, .bool t528, .slice Ao10 t529.length co10] 37 (0, 0))) := ⟨(by rw [hw]; exact (uf_ BK535.out))⟩; have n4_ : Aside0 (w26.heap[gb548]? = some (.cells #[.int .i64 t536, .int .i64 t537, .int .i64 t538, .int .i64 t539, .int .i64 t540, .int .i64 t541, .bool t542, .bool t543, .slice Ao17 t544.length co17] 37 (0, 0))) := ⟨(by rw [hw]; exact (uf_ BK548.out))⟩; have n5_ : Aside0 (w26.heap[gb561]? = some (.cells #[.int .i64 t549, .int .i64 t550, .int .i64 t551, .int .i64 t552, .int .i64 t553, .int .i64 t554, .bool t555, .bool t556, .slice Ao25 t557.length co25] 37 (0, 0))) := ⟨(by rw [hw]; exact (by (with_reducible repeat (first | refine bn_ ?_ _ | refine bw_ ?_ | refine ba_ ?_ _)); with_reducible apply blk_put9; (with_reducible repeat (first | refine bn_ ?_ _ | refine bw_ ?_ | refine ba_ ?_ _)); exact BK561.out))⟩; have n6_ : Aside0 (Below w.heap.size w w26) := ⟨(by rw [hw]; exact (us_ HB.out))⟩; clear hw; clear HO531; clear HO546; clear HO559; clear BK535; clear BK548; clear BK561; clear HB; have HO531 := n0_; have HO546 := n1_; have HO559 := n2_; have BK535 := n3_; have BK548 := n4_; have BK561 := n5_; have HB := n6_; clear n0_ n1_ n2_ n3_ n4_ n5_ n6_))
 (try simp only [Act.put, la_, lz_, ls_])
 go_cut [49] (fun v49 wc => ∃ (kq : Nat) (x49_5 : Bool), v49 = .bool x49_5 ∧ Aside0 (laws_FnNoteAbout.j0 kq t532 t547 x49_5 t521 t522 t523 t524 t525 t526 t527 t528 t529 t536 t537 t538 t539 t540 t541 t542 t543 t544 = some r) ∧ Aside0 (kq ≤ k) ∧ Aside0 (Kd.R (Kd.int .u8) 5 wc w.heap.size (fun k_ => some k_ ≠ ((.slice Ao17 t544.length co17) : Value).ownBlock ∧ some k_ ≠ ((.slice Ao25 t557.length co25) : Value).ownBlock) (.slice Ao10 t529.length co10) t529) ∧ Aside0 (Kd.R (Kd.int .u8) 5 wc w.heap.size (fun k_ => some k_ ≠ ((.slice Ao10 t529.length co10) : Value).ownBlock ∧ some k_ ≠ ((.slice Ao25 t557.length co25) : Value).ownBlock) (.slice Ao17 t544.length co17) t544) ∧ Aside0 (Kd.R (Kd.int .u8) 5 wc w.heap.size (fun k_ => some k_ ≠ ((.slice Ao10 t529.length co10) : Value).ownBlock ∧ some k_ ≠ ((.slice Ao17 t544.length co17) : Value).ownBlock) (.slice Ao25 t557.length co25) t557) ∧ Aside0 (wc.heap[gb535]? = some (.cells #[.int .i64 t521, .int .i64 t522, .int .i64 t523, .int .i64 t524, .int .i64 t525, .int .i64 t526, .bool t527, .bool t528, (.slice Ao10 t529.length co10)] 37 (0, 0))) ∧ Aside0 (wc.heap[gb548]? = some (.cells #[.int .i64 t536, .int .i64 t537, .int .i64 t538, .int .i64 t539, .int .i64 t540, .int .i64 t541, .bool t542, .bool t543, (.slice Ao17 t544.length co17)] 37 (0, 0))) ∧ Aside0 (wc.heap[gb561]? = some (.cells #[.int .i64 t549, .int .i64 t550, .int .i64 t551, .int .i64 t552, .int .i64 t553, .int .i64 t554, .bool t555, .bool t556, (.slice Ao25 t557.length co25)] 37 (0, 0))) ∧ Aside0 (Below w.heap.size w wc))
 case first =>
  have H := HC6.out
  clear HC6
  by_cases c27 : (t547 != t560) = true
  ·rw [if_pos c27] at H
   have c27b0 : (t547 != t560) = true := c27
   (try (have c27b1 : decide (t547 = t560) = false := by simpa using c27))
   (try (have c27b2 : (t547 == t560) = false := by simpa using c27))
   (try (have c27b3 : ¬ (t547 = t560) := by simpa using c27))
   clear c27
   (first | rw [c27b0] | (simp only [i64_w, i32_w]; rw [c27b0]) | skip)
   have H' := mk_ H
   clear H
   go_wp2
   go_meet
   case rel => exact ⟨_, (true), (by first | rfl | (simp; done) | (simp [*]; done)), H', ⟨by first | omega | exact Nat.le_refl _⟩, ⟨Kd.ur_ HO531.out⟩, ⟨Kd.ur_ HO546.out⟩, ⟨Kd.ur_ HO559.out⟩, ⟨u_ BK535.out⟩, ⟨u_ BK548.out⟩, ⟨u_ BK561.out⟩, ⟨us_ HB.out⟩⟩
  rw [if_neg c27] at H
  have c27b0 : (t547 != t560) = false := by simpa using c27
  (try (have c27b1 : decide (t547 = t560) = true := by simpa using c27))
  (try (have c27b2 : (t547 == t560) = true := by simpa using c27))
  clear c27
  (first | rw [c27b0] | (simp only [i64_w, i32_w]; rw [c27b0]) | skip)
  replace H := Option.bind_eq_some_iff.mp H
  obtain ⟨t562, A280, H⟩ := H
  (try dsimp only at H)
  have A28 := mk_ A280
  clear A280
  have H' := mk_ H
  clear H
  have hnb29 := NB548_535.out
  have hnc29 := NB535_548.out
  have hnb30 := NB548_561.out
  have hnc30 := NB561_548.out
  obtain ⟨hcz31_0, hcz31_1, hcz31_2, hcz31_3, hcz31_4, hcz31_5, hcz31_6, hcz31_7, hcz31_8, hfz31_0, hfz31_1, hfz31_2, hfz31_3, hfz31_4, hfz31_5, hfz31_6, hfz31_7, hfz31_8⟩ := cells9_ BK548.out
  have hnb32 := NB561_535.out
  have hnc32 := NB535_561.out
  obtain ⟨hcz33_0, hcz33_1, hcz33_2, hcz33_3, hcz33_4, hcz33_5, hcz33_6, hcz33_7, hcz33_8, hfz33_0, hfz33_1, hfz33_2, hfz33_3, hfz33_4, hfz33_5, hfz33_6, hfz33_7, hfz33_8⟩ := cells9_ BK561.out
  go_wp2_with (first | (go_at_call 18; (with_reducible refine (laws_samePacket.calls t536 t537 t538 t539 t540 t541 t542 t543 _ _ t544 t549 t550 t551 t552 t553 t554 t555 t556 _ _ t557 t562 _ ?side1 ?side2 ?side3 ?side4 A28.out).mono ?_); (case side1 => repeat (first | exact (Kd.R_reads' HO546.out).2.2 | (with_reducible refine Kd.C_alloc ?_ _) | (with_reducible refine Kd.C_drewN ?_ _) | (with_reducible refine Kd.C_drew ?_))); (case side2 => exact (Kd.R_reads' HO546.out).2.1); (case side3 => repeat (first | exact (Kd.R_reads' HO559.out).2.2 | (with_reducible refine Kd.C_alloc ?_ _) | (with_reducible refine Kd.C_drewN ?_ _) | (with_reducible refine Kd.C_drew ?_))); (case side4 => exact (Kd.R_reads' HO559.out).2.1); rintro e w34 ⟨rfl, hb⟩; replace HO531 := mk_ (Kd.R_below (Kd.ur_ HO531.out) hb); replace HO546 := mk_ (Kd.R_below (Kd.ur_ HO546.out) hb); replace HO559 := mk_ (Kd.R_below (Kd.ur_ HO559.out) hb); replace BK535 := mk_ (blk_below (u_ BK535.out) hb); replace BK548 := mk_ (blk_below (u_ BK548.out) hb); replace BK561 := mk_ (blk_below (u_ BK561.out) hb); replace HB := mk_ (below_step (us_ HB.out) hb)))
  go_meet
  case rel => exact ⟨_, (!t562), (by first | rfl | (simp; done) | (simp [*]; done)), H', ⟨by first | omega | exact Nat.le_refl _⟩, ⟨Kd.ur_ HO531.out⟩, ⟨Kd.ur_ HO546.out⟩, ⟨Kd.ur_ HO559.out⟩, ⟨u_ BK535.out⟩, ⟨u_ BK548.out⟩, ⟨u_ BK561.out⟩, ⟨us_ HB.out⟩⟩
 case rest =>
  clear HC6
  try clear c1
  try clear c2
  try clear c2b0
  try clear c2b1
  try clear p2
  try clear c3
  try clear c5
  try clear c15
  try clear c22
  try clear c23
  try clear c24
  try clear c25
  try clear c27
  try clear c27b0
  try clear c27b1
  try clear c27b2
  try clear c29
  try clear c30
  try clear c32
  try clear hcz12_0
  try clear hcz12_1
  try clear hcz12_2
  try clear hcz12_3
  try clear hcz12_4
  try clear hcz12_5
  try clear hcz12_6
  try clear hcz12_7
  try clear hcz12_8
  try clear hcz16_0
  try clear hcz16_1
  try clear hcz16_2
  try clear hcz16_3
  try clear hcz16_4
  try clear hcz16_5
  try clear hcz16_6
  try clear hcz16_7
  try clear hcz16_8
  try clear hcz19_0
  try clear hcz19_1
  try clear hcz19_2
  try clear hcz19_3
  try clear hcz19_4
  try clear hcz19_5
  try clear hcz19_6
  try clear hcz19_7
  try clear hcz19_8
  try clear hcz24_0
  try clear hcz24_1
  try clear hcz24_2
  try clear hcz24_3
  try clear hcz24_4
  try clear hcz24_5
  try clear hcz24_6
  try clear hcz24_7
  try clear hcz24_8
  try clear hcz31_0
  try clear hcz31_1
  try clear hcz31_2
  try clear hcz31_3
  try clear hcz31_4
  try clear hcz31_5
  try clear hcz31_6
  try clear hcz31_7
  try clear hcz31_8
  try clear hcz33_0
  try clear hcz33_1
  try clear hcz33_2
  try clear hcz33_3
  try clear hcz33_4
  try clear hcz33_5
  try clear hcz33_6
  try clear hcz33_7
  try clear hcz33_8
  try clear hcz9_0
  try clear hcz9_1
  try clear hcz9_2
  try clear hcz9_3
  try clear hcz9_4
  try clear hcz9_5
  try clear hcz9_6
  try clear hcz9_7
  try clear hcz9_8
  try clear hfz12_0
  try clear hfz12_1
  try clear hfz12_2
  try clear hfz12_3
  try clear hfz12_4
  try clear hfz12_5
  try clear hfz12_6
  try clear hfz12_7
  try clear hfz12_8
  try clear hfz16_0
  try clear hfz16_1
  try clear hfz16_2
  try clear hfz16_3
  try clear hfz16_4
  try clear hfz16_5
  try clear hfz16_6
  try clear hfz16_7
  try clear hfz16_8
  try clear hfz19_0
  try clear hfz19_1
  try clear hfz19_2
  try clear hfz19_3
  try clear hfz19_4
  try clear hfz19_5
  try clear hfz19_6
  try clear hfz19_7
  try clear hfz19_8
  try clear hfz24_0
  try clear hfz24_1
  try clear hfz24_2
  try clear hfz24_3
  try clear hfz24_4
  try clear hfz24_5
  try clear hfz24_6
  try clear hfz24_7
  try clear hfz24_8
  try clear hfz31_0
  try clear hfz31_1
  try clear hfz31_2
  try clear hfz31_3
  try clear hfz31_4
  try clear hfz31_5
  try clear hfz31_6
  try clear hfz31_7
  try clear hfz31_8
  try clear hfz33_0
  try clear hfz33_1
  try clear hfz33_2
  try clear hfz33_3
  try clear hfz33_4
  try clear hfz33_5
  try clear hfz33_6
  try clear hfz33_7
  try clear hfz33_8
  try clear hfz9_0
  try clear hfz9_1
  try clear hfz9_2
  try clear hfz9_3
  try clear hfz9_4
  try clear hfz9_5
  try clear hfz9_6
  try clear hfz9_7
  try clear hfz9_8
  obtain ⟨kq, x49_5, rfl, HA, HJ5, HO_536008, HO_549008, HO_562008, BK535, BK548, BK561, HB⟩ := hcut
  cases kq with
  | zero => exact absurd HA.out (by simp [laws_FnNoteAbout.j0])
  | succ kj5 =>
   have H := HA.out
   clear HA
   simp only [laws_FnNoteAbout.j0] at H
   by_cases c35 : x49_5 = true
   focus
    subst c35
    have H1 : (some false) = some r := by rw [if_pos rfl] at H; exact H
    clear H
    have H := H1
    clear H1
    obtain rfl := Option.some.inj H
   rotate_left
   focus
    replace c35 := Bool.eq_false_iff.mpr c35
    subst c35
    rw [if_neg (show ¬ (false = true) by decide)] at H
    by_cases c36 : t547 = true
    rotate_left
    focus
     replace c36 := Bool.eq_false_iff.mpr c36
     subst c36
     have H1 : ((laws_alive.f kj5).bind fun t563 => (some t563)) = some r := by rw [if_neg (show ¬ (false = true) by decide)] at H; exact H
     clear H
     have H := H1
     clear H1
     replace H := Option.bind_eq_some_iff.mp H
     obtain ⟨t563, A2090, H⟩ := H
     replace H : (some t563) = some r := H
     have A209 := mk_ A2090
     clear A2090
     obtain rfl := Option.some.inj H
    rotate_left
    focus
     subst c36
     rw [if_pos rfl] at H
     replace H := Option.bind_eq_some_iff.mp H
     obtain ⟨⟨t564, t565, t566, t567, t568, t569, t570, t571, t572, t575⟩, A370, H⟩ := H
     (try dsimp only at H)
     have A37 := mk_ A370
     clear A370
     replace H := Option.bind_eq_some_iff.mp H
     obtain ⟨⟨t577, t578, t579, t580, t581, t582, t583, t584, t585, t588⟩, A380, H⟩ := H
     (try dsimp only at H)
     have A38 := mk_ A380
     clear A380
     replace H := Option.bind_eq_some_iff.mp H
     obtain ⟨t590, A390, H⟩ := H
     (try dsimp only at H)
     have A39 := mk_ A390
     clear A390
     by_cases c40 : t590 = true
     rotate_left
     focus
      replace c40 := Bool.eq_false_iff.mpr c40
      subst c40
      have H1 : (some false) = some r := by rw [if_neg (show ¬ (false = true) by decide)] at H; exact H
      clear H
      have H := H1
      clear H1
      obtain rfl := Option.some.inj H
      have hnb184 := NB548_535.out
      have hnc184 := NB535_548.out
      have hnb185 := NB548_561.out
      have hnc185 := NB561_548.out
      obtain ⟨_, _, _, _, _, _, _, _, _, _, _, _, _, _, _, _, _, _⟩ := cells9_ BK548.out
      have hnb187 := NB535_561.out
      have hnc187 := NB561_535.out
      obtain ⟨_, _, _, _, _, _, _, _, _, _, _, _, _, _, _, _, _, _⟩ := cells9_ BK535.out
     rotate_left
     focus
      subst c40
      rw [if_pos rfl] at H
      by_cases c41 : t537 = t521
      rotate_left
      focus
       rw [if_neg c41] at H
       have c41b0 : (t537 == t521) = false := beq_eq_false_iff_ne.mpr c41
       have c41b1 : (t537 != t521) = true := bne_iff_ne.mpr c41
       obtain rfl := Option.some.inj H
       have hnb157 := NB548_535.out
       have hnc157 := NB535_548.out
       have hnb158 := NB548_561.out
       have hnc158 := NB561_548.out
       obtain ⟨_, _, _, _, _, _, _, _, _, _, _, _, _, _, _, _, _, _⟩ := cells9_ BK548.out
       have hnb160 := NB535_561.out
       have hnc160 := NB561_535.out
       obtain ⟨_, _, _, _, _, _, _, _, _, _, _, _, _, _, _, _, _, _⟩ := cells9_ BK535.out
      rotate_left
      focus
       rw [if_pos c41] at H
       have c41b0 : (t537 == t521) = true := beq_iff_eq.mpr c41
       have c41b1 : (t537 != t521) = false := bne_eq_false_iff_eq.mpr c41
       clear c41
       by_cases c42 : t536 = t532
       rotate_left
       focus
        rw [if_neg c42] at H
        have c42b0 : (t536 == t532) = false := beq_eq_false_iff_ne.mpr c42
        have c42b1 : (t536 != t532) = true := bne_iff_ne.mpr c42
        obtain rfl := Option.some.inj H
        have hnb130 := NB548_535.out
        have hnc130 := NB535_548.out
        have hnb131 := NB548_561.out
        have hnc131 := NB561_548.out
        obtain ⟨_, _, _, _, _, _, _, _, _, _, _, _, _, _, _, _, _, _⟩ := cells9_ BK548.out
        have hnb133 := NB535_561.out
        have hnc133 := NB561_535.out
        obtain ⟨_, _, _, _, _, _, _, _, _, _, _, _, _, _, _, _, _, _⟩ := cells9_ BK535.out
       rotate_left
       focus
        rw [if_pos c42] at H
        have c42b0 : (t536 == t532) = true := beq_iff_eq.mpr c42
        have c42b1 : (t536 != t532) = false := bne_eq_false_iff_eq.mpr c42
        clear c42
        replace H := Option.bind_eq_some_iff.mp H
        obtain ⟨t591, A430, H⟩ := H
        (try dsimp only at H)
        have A43 := mk_ A430
        clear A430
        by_cases c44 : t591 = true
        rotate_left
        focus
         replace c44 := Bool.eq_false_iff.mpr c44
         subst c44
         have H1 : (some false) = some r := by rw [if_neg (show ¬ (false = true) by decide)] at H; exact H
         clear H
         have H := H1
         clear H1
         obtain rfl := Option.some.inj H
         have hnb102 := NB548_535.out
         have hnc102 := NB535_548.out
         have hnb103 := NB548_561.out
         have hnc103 := NB561_548.out
         obtain ⟨_, _, _, _, _, _, _, _, _, _, _, _, _, _, _, _, _, _⟩ := cells9_ BK548.out
         have hnb105 := NB535_561.out
         have hnc105 := NB561_535.out
         obtain ⟨_, _, _, _, _, _, _, _, _, _, _, _, _, _, _, _, _, _⟩ := cells9_ BK535.out
        rotate_left
        focus
         subst c44
         rw [if_pos rfl] at H
         by_cases c45 : t575 = true
         focus
          subst c45
          have H1 : (some false) = some r := by rw [if_pos rfl] at H; exact H
          clear H
          have H := H1
          clear H1
          obtain rfl := Option.some.inj H
          have hnb46 := NB548_535.out
          have hnc46 := NB535_548.out
          have hnb47 := NB548_561.out
          have hnc47 := NB561_548.out
          obtain ⟨_, _, _, _, _, _, _, _, _, _, _, _, _, _, _, _, _, _⟩ := cells9_ BK548.out
          have hnb49 := NB535_561.out
          have hnc49 := NB561_535.out
          obtain ⟨_, _, _, _, _, _, _, _, _, _, _, _, _, _, _, _, _, _⟩ := cells9_ BK535.out
         rotate_left
         focus
          replace c45 := Bool.eq_false_iff.mpr c45
          subst c45
          have H1 : (some (!t588)) = some r := by rw [if_neg (show ¬ (false = true) by decide)] at H; exact H
          clear H
          have H := H1
          clear H1
          obtain rfl := Option.some.inj H
          have hnb74 := NB548_535.out
          have hnc74 := NB535_548.out
          have hnb75 := NB548_561.out
          have hnc75 := NB561_548.out
          obtain ⟨_, _, _, _, _, _, _, _, _, _, _, _, _, _, _, _, _, _⟩ := cells9_ BK548.out
          have hnb77 := NB535_561.out
          have hnc77 := NB561_535.out
          obtain ⟨_, _, _, _, _, _, _, _, _, _, _, _, _, _, _, _, _, _⟩ := cells9_ BK535.out
         rotate_left
        rotate_left 2
       rotate_left 3
      rotate_left 4
     rotate_left 5
    rotate_left 6
   rotate_left 7
   all_goals
    go_wp2_with (first | ((with_reducible refine gate_callee (f := 13) rfl ?_); refine goesL_ (some 52) rfl rfl Try.func13 (by kernel_rfl) rfl #[] rfl (by (try simp only [lm_, lo_, ln_]); try rfl) ?_; (with_reducible refine (laws_alive.calls kj5  t563 _ A209.out).mono ?_); rintro e w19320 ⟨rfl, hb⟩; refine ⟨_, rfl, ?_⟩; replace HO_536008 := mk_ (Kd.R_below (Kd.ur_ HO_536008.out) hb); replace HO_549008 := mk_ (Kd.R_below (Kd.ur_ HO_549008.out) hb); replace HO_562008 := mk_ (Kd.R_below (Kd.ur_ HO_562008.out) hb); replace BK535 := mk_ (blk_below (u_ BK535.out) hb); replace BK548 := mk_ (blk_below (u_ BK548.out) hb); replace BK561 := mk_ (blk_below (u_ BK561.out) hb); replace HB := mk_ (below_step (us_ HB.out) hb)) | ((with_reducible refine gate_callee (f := 24) rfl ?_); refine goesL_ (some 57) rfl rfl Try.func24 (by kernel_rfl) rfl #[.agg #[.int .i64 t536, .int .i64 t537, .int .i64 t538, .int .i64 t539, .int .i64 t540, .int .i64 t541, .bool t542, .bool t543, .slice Ao17 t544.length co17], .int .i64 t521, .int .i64 3, .int .i64 0] rfl (by (try simp only [lm_, lo_, ln_]); try rfl) ?_; (with_reducible refine (impl_NoteAbout.calls kj5 t536 t537 t538 t539 t540 t541 t542 t543 _ _ t544 t521 3 0 t564 t565 t566 t567 t568 t569 t570 t571 t572 t575 _ ?side1 ?side2 A37.out).mono ?_); (case side1 => repeat (first | exact (Kd.R_reads' HO_549008.out).2.2 | (with_reducible refine Kd.C_alloc ?_ _) | (with_reducible refine Kd.C_drewN ?_ _) | (with_reducible refine Kd.C_drew ?_))); (case side2 => exact (Kd.R_reads' HO_549008.out).2.1); rintro e w19360 ⟨v19361, rfl, ho0, hb⟩; refine ⟨_, rfl, ?_⟩; have n0_ := mk_ (Kd.R_elder' (Kd.ur_ HO_536008.out) (Kd.R_base ho0) hb); have n1_ := mk_ (Kd.R_elder' (Kd.ur_ HO_549008.out) (Kd.R_base ho0) hb); have n2_ := mk_ (Kd.R_elder' (Kd.ur_ HO_562008.out) (Kd.R_base ho0) hb); have HO574 := mk_ (Kd.R_lower (Kd.R_new' (Kd.R_new' (Kd.R_new' ho0 (Kd.R_lt (Kd.ur_ HO_536008.out))) (Kd.R_lt (Kd.ur_ HO_549008.out))) (Kd.R_lt (Kd.ur_ HO_562008.out))) (below_size (us_ HB.out))); replace BK535 := mk_ (blk_below (u_ BK535.out) hb); replace BK548 := mk_ (blk_below (u_ BK548.out) hb); replace BK561 := mk_ (blk_below (u_ BK561.out) hb); replace HB := mk_ (below_step (us_ HB.out) hb); replace HO_536008 := n0_; replace HO_549008 := n1_; replace HO_562008 := n2_; clear n0_ n1_ n2_) | ((with_reducible refine gate_callee (f := 24) rfl ?_); refine goesL_ (some 57) rfl rfl Try.func24 (by kernel_rfl) rfl #[.agg #[.int .i64 t536, .int .i64 t537, .int .i64 t538, .int .i64 t539, .int .i64 t540, .int .i64 t541, .bool t542, .bool t543, .slice Ao17 t544.length co17], .int .i64 t521, .int .i64 3, .int .i64 0] rfl (by (try simp only [lm_, lo_, ln_]); try rfl) ?_; (with_reducible refine (impl_NoteAbout.calls kj5 t536 t537 t538 t539 t540 t541 t542 t543 _ _ t544 t521 3 0 t564 t565 t566 t567 t568 t569 t570 t571 t572 true _ ?side1 ?side2 A37.out).mono ?_); (case side1 => repeat (first | exact (Kd.R_reads' HO_549008.out).2.2 | (with_reducible refine Kd.C_alloc ?_ _) | (with_reducible refine Kd.C_drewN ?_ _) | (with_reducible refine Kd.C_drew ?_))); (case side2 => exact (Kd.R_reads' HO_549008.out).2.1); rintro e w19360 ⟨v19361, rfl, ho0, hb⟩; refine ⟨_, rfl, ?_⟩; have n0_ := mk_ (Kd.R_elder' (Kd.ur_ HO_536008.out) (Kd.R_base ho0) hb); have n1_ := mk_ (Kd.R_elder' (Kd.ur_ HO_549008.out) (Kd.R_base ho0) hb); have n2_ := mk_ (Kd.R_elder' (Kd.ur_ HO_562008.out) (Kd.R_base ho0) hb); have HO574 := mk_ (Kd.R_lower (Kd.R_new' (Kd.R_new' (Kd.R_new' ho0 (Kd.R_lt (Kd.ur_ HO_536008.out))) (Kd.R_lt (Kd.ur_ HO_549008.out))) (Kd.R_lt (Kd.ur_ HO_562008.out))) (below_size (us_ HB.out))); replace BK535 := mk_ (blk_below (u_ BK535.out) hb); replace BK548 := mk_ (blk_below (u_ BK548.out) hb); replace BK561 := mk_ (blk_below (u_ BK561.out) hb); replace HB := mk_ (below_step (us_ HB.out) hb); replace HO_536008 := n0_; replace HO_549008 := n1_; replace HO_562008 := n2_; clear n0_ n1_ n2_) | ((with_reducible refine gate_callee (f := 24) rfl ?_); refine goesL_ (some 57) rfl rfl Try.func24 (by kernel_rfl) rfl #[.agg #[.int .i64 t536, .int .i64 t537, .int .i64 t538, .int .i64 t539, .int .i64 t540, .int .i64 t541, .bool t542, .bool t543, .slice Ao17 t544.length co17], .int .i64 t521, .int .i64 3, .int .i64 0] rfl (by (try simp only [lm_, lo_, ln_]); try rfl) ?_; (with_reducible refine (impl_NoteAbout.calls kj5 t536 t537 t538 t539 t540 t541 t542 t543 _ _ t544 t521 3 0 t564 t565 t566 t567 t568 t569 t570 t571 t572 false _ ?side1 ?side2 A37.out).mono ?_); (case side1 => repeat (first | exact (Kd.R_reads' HO_549008.out).2.2 | (with_reducible refine Kd.C_alloc ?_ _) | (with_reducible refine Kd.C_drewN ?_ _) | (with_reducible refine Kd.C_drew ?_))); (case side2 => exact (Kd.R_reads' HO_549008.out).2.1); rintro e w19360 ⟨v19361, rfl, ho0, hb⟩; refine ⟨_, rfl, ?_⟩; have n0_ := mk_ (Kd.R_elder' (Kd.ur_ HO_536008.out) (Kd.R_base ho0) hb); have n1_ := mk_ (Kd.R_elder' (Kd.ur_ HO_549008.out) (Kd.R_base ho0) hb); have n2_ := mk_ (Kd.R_elder' (Kd.ur_ HO_562008.out) (Kd.R_base ho0) hb); have HO574 := mk_ (Kd.R_lower (Kd.R_new' (Kd.R_new' (Kd.R_new' ho0 (Kd.R_lt (Kd.ur_ HO_536008.out))) (Kd.R_lt (Kd.ur_ HO_549008.out))) (Kd.R_lt (Kd.ur_ HO_562008.out))) (below_size (us_ HB.out))); replace BK535 := mk_ (blk_below (u_ BK535.out) hb); replace BK548 := mk_ (blk_below (u_ BK548.out) hb); replace BK561 := mk_ (blk_below (u_ BK561.out) hb); replace HB := mk_ (below_step (us_ HB.out) hb); replace HO_536008 := n0_; replace HO_549008 := n1_; replace HO_562008 := n2_; clear n0_ n1_ n2_) | ((with_reducible refine gate_dst (N := 11) rfl ?_); refine box_event ?hg (N := 11) ?hd (cs := #[.int .i64 0, .int .i64 0, .int .i64 0, .int .i64 0, .int .i64 0, .int .i64 0, .bool false, .bool false, .slice none 0 0]) (t := 37) ?hr ?_; (case hd => rfl); (case hg => rfl); (case hr => first | (go_simp; done) | (go_simp; rfl)); intro gb19400 hg w19401 hbox hb; replace HO_536008 := mk_ (Kd.R_below (Kd.ur_ HO_536008.out) hb); replace HO_549008 := mk_ (Kd.R_below (Kd.ur_ HO_549008.out) hb); replace HO_562008 := mk_ (Kd.R_below (Kd.ur_ HO_562008.out) hb); replace HO574 := mk_ (Kd.R_below (Kd.ur_ HO574.out) hb); have n4_ := mk_ (blk_below (u_ BK535.out) hb); have n5_ := mk_ (blk_below (u_ BK548.out) hb); have n6_ := mk_ (blk_below (u_ BK561.out) hb); have n7_ := mk_ (below_step (us_ HB.out) hb); have BK576 := mk_ (hbox); have GW576 := mk_ ((by rw [hg]; exact (below_size (us_ HB.out)) : w.heap.size ≤ gb19400)); have GE576 := ge_ ((by rw [hg]; exact (below_size (us_ HB.out)) : w.heap.size ≤ gb19400)); have NB535_576 := nq_ ((by rw [hg]; exact Nat.ne_of_lt (blk_lt (u_ BK535.out)) : gb535 ≠ gb19400)); have NB576_535 := nq_ ((by rw [hg]; exact Nat.ne_of_gt (blk_lt (u_ BK535.out)) : gb19400 ≠ gb535)); have NB548_576 := nq_ ((by rw [hg]; exact Nat.ne_of_lt (blk_lt (u_ BK548.out)) : gb548 ≠ gb19400)); have NB576_548 := nq_ ((by rw [hg]; exact Nat.ne_of_gt (blk_lt (u_ BK548.out)) : gb19400 ≠ gb548)); have NB561_576 := nq_ ((by rw [hg]; exact Nat.ne_of_lt (blk_lt (u_ BK561.out)) : gb561 ≠ gb19400)); have NB576_561 := nq_ ((by rw [hg]; exact Nat.ne_of_gt (blk_lt (u_ BK561.out)) : gb19400 ≠ gb561)); replace BK535 := n4_; replace BK548 := n5_; replace BK561 := n6_; replace HB := n7_; clear n4_ n5_ n6_ n7_; clear hb hbox hg; have hnb4600535576 := NB576_535.out; have hnc4600535576 := NB535_576.out; have hnb4600548576 := NB576_548.out; have hnc4600548576 := NB548_576.out; have hnb4600561576 := NB576_561.out; have hnc4600561576 := NB561_576.out; obtain ⟨_, _, _, _, _, _, _, _, _, _, _, _, _, _, _, _, _, _⟩ := cells9_ BK576.out; obtain ⟨Ao4600574, co4600574, eo4600574⟩ := Kd.R_slice HO574.out; subst eo4600574) | ((with_reducible refine gate_store (t := 37) (p := 11) rfl ?_); refine store_event (t := 37) (p := 11) (v := ?_) (w1 := ?_) ?hg ?ho ?hn ?hr ?_; (case ho => rfl); (case hg => rfl); (case hn => rfl); (case hr => first | (go_simp; done) | (go_simp; rfl)); intro w19440 hw; have n0_ : Aside0 (Kd.R (Kd.int .u8) 5 w19440 w.heap.size (fun k_ => some k_ ≠ (.slice Ao17 t544.length co17 : Value).ownBlock ∧ some k_ ≠ (.slice Ao25 t557.length co25 : Value).ownBlock ∧ some k_ ≠ (.slice Ao4600574 t572.length co4600574 : Value).ownBlock) (.slice Ao10 t529.length co10) t529) := ⟨(by rw [hw]; exact (by (with_reducible repeat (first | apply Kd.R_alloc | apply Kd.R_drewN | apply Kd.R_drew)); exact Kd.R_mono (Kd.R_far9 (g := gb19400) (Kd.R_types HO_536008.out BK576.out (by decide)) (fun _ hk => hk.2) _ _ _ _ _ _ _ _ _) (fun _ hk => by first | exact ⟨hk.1.1.1, ⟨hk.1.1.2, hk.1.2⟩⟩ | exact hk.1 | exact hk | exact ⟨hk.1, hk.2⟩ | exact ⟨.inr hk.1, hk.2⟩ | simp only [hk, ne_eq, not_false_eq_true, and_self])))⟩; have n1_ : Aside0 (Kd.R (Kd.int .u8) 5 w19440 w.heap.size (fun k_ => some k_ ≠ (.slice Ao10 t529.length co10 : Value).ownBlock ∧ some k_ ≠ (.slice Ao25 t557.length co25 : Value).ownBlock ∧ some k_ ≠ (.slice Ao4600574 t572.length co4600574 : Value).ownBlock) (.slice Ao17 t544.length co17) t544) := ⟨(by rw [hw]; exact (by (with_reducible repeat (first | apply Kd.R_alloc | apply Kd.R_drewN | apply Kd.R_drew)); exact Kd.R_mono (Kd.R_far9 (g := gb19400) (Kd.R_types HO_549008.out BK576.out (by decide)) (fun _ hk => hk.2) _ _ _ _ _ _ _ _ _) (fun _ hk => by first | exact ⟨hk.1.1.1, ⟨hk.1.1.2, hk.1.2⟩⟩ | exact hk.1 | exact hk | exact ⟨hk.1, hk.2⟩ | exact ⟨.inr hk.1, hk.2⟩ | simp only [hk, ne_eq, not_false_eq_true, and_self])))⟩; have n2_ : Aside0 (Kd.R (Kd.int .u8) 5 w19440 w.heap.size (fun k_ => some k_ ≠ (.slice Ao10 t529.length co10 : Value).ownBlock ∧ some k_ ≠ (.slice Ao17 t544.length co17 : Value).ownBlock ∧ some k_ ≠ (.slice Ao4600574 t572.length co4600574 : Value).ownBlock) (.slice Ao25 t557.length co25) t557) := ⟨(by rw [hw]; exact (by (with_reducible repeat (first | apply Kd.R_alloc | apply Kd.R_drewN | apply Kd.R_drew)); exact Kd.R_mono (Kd.R_far9 (g := gb19400) (Kd.R_types HO_562008.out BK576.out (by decide)) (fun _ hk => hk.2) _ _ _ _ _ _ _ _ _) (fun _ hk => by first | exact ⟨hk.1.1.1, ⟨hk.1.1.2, hk.1.2⟩⟩ | exact hk.1 | exact hk | exact ⟨hk.1, hk.2⟩ | exact ⟨.inr hk.1, hk.2⟩ | simp only [hk, ne_eq, not_false_eq_true, and_self])))⟩; have n3_ : Aside0 (Kd.R (Kd.int .u8) 5 w19440 w.heap.size (fun k_ => some k_ ≠ (.slice Ao10 t529.length co10 : Value).ownBlock ∧ some k_ ≠ (.slice Ao17 t544.length co17 : Value).ownBlock ∧ some k_ ≠ (.slice Ao25 t557.length co25 : Value).ownBlock) (.slice Ao4600574 t572.length co4600574) t572) := ⟨(by rw [hw]; exact (by (with_reducible repeat (first | apply Kd.R_alloc | apply Kd.R_drewN | apply Kd.R_drew)); exact Kd.R_mono (Kd.R_far9 (g := gb19400) (Kd.R_types HO574.out BK576.out (by decide)) (fun _ hk => hk.2) _ _ _ _ _ _ _ _ _) (fun _ hk => by first | exact ⟨hk.1.1.1.2, ⟨hk.1.1.2, hk.1.2⟩⟩ | exact hk.1 | exact hk | exact ⟨hk.1, hk.2⟩ | exact ⟨.inr hk.1, hk.2⟩ | simp only [hk, ne_eq, not_false_eq_true, and_self])))⟩; have n4_ : Aside0 (w19440.heap[gb535]? = some (.cells #[.int .i64 t521, .int .i64 t522, .int .i64 t523, .int .i64 t524, .int .i64 t525, .int .i64 t526, .bool t527, .bool t528, .slice Ao10 t529.length co10] 37 (0, 0))) := ⟨(by rw [hw]; exact (uf_ BK535.out))⟩; have n5_ : Aside0 (w19440.heap[gb548]? = some (.cells #[.int .i64 t536, .int .i64 t537, .int .i64 t538, .int .i64 t539, .int .i64 t540, .int .i64 t541, .bool t542, .bool t543, .slice Ao17 t544.length co17] 37 (0, 0))) := ⟨(by rw [hw]; exact (uf_ BK548.out))⟩; have n6_ : Aside0 (w19440.heap[gb561]? = some (.cells #[.int .i64 t549, .int .i64 t550, .int .i64 t551, .int .i64 t552, .int .i64 t553, .int .i64 t554, .bool t555, .bool t556, .slice Ao25 t557.length co25] 37 (0, 0))) := ⟨(by rw [hw]; exact (uf_ BK561.out))⟩; have n7_ : Aside0 (w19440.heap[gb19400]? = some (.cells #[.int .i64 t564, .int .i64 t565, .int .i64 t566, .int .i64 t567, .int .i64 t568, .int .i64 t569, .bool t570, .bool t571, .slice Ao4600574 t572.length co4600574] 37 (0, 0))) := ⟨(by rw [hw]; exact (by (with_reducible repeat (first | refine bn_ ?_ _ | refine bw_ ?_ | refine ba_ ?_ _)); with_reducible apply blk_put9; (with_reducible repeat (first | refine bn_ ?_ _ | refine bw_ ?_ | refine ba_ ?_ _)); exact BK576.out))⟩; have n8_ : Aside0 (Below w.heap.size w w19440) := ⟨(by rw [hw]; exact (us_ HB.out))⟩; clear hw; clear HO_536008; clear HO_549008; clear HO_562008; clear HO574; clear BK535; clear BK548; clear BK561; clear BK576; clear HB; have HO_536008 := n0_; have HO_549008 := n1_; have HO_562008 := n2_; have HO574 := n3_; have BK535 := n4_; have BK548 := n5_; have BK561 := n6_; have BK576 := n7_; have HB := n8_; clear n0_ n1_ n2_ n3_ n4_ n5_ n6_ n7_ n8_; obtain ⟨_, _, _, _, _, _, _, _, _, _, _, _, _, _, _, _, _, _⟩ := cells9_ BK548.out) | ((with_reducible refine gate_callee (f := 16) rfl ?_); refine goesL_ (some 64) rfl rfl Try.func16 (by kernel_rfl) rfl #[.agg #[.int .i64 t536, .int .i64 t537, .int .i64 t538, .int .i64 t539, .int .i64 t540, .int .i64 t541, .bool t542, .bool t543, .slice Ao17 t544.length co17], .int .i64 t537] rfl (by (try simp only [lm_, lo_, ln_]); try rfl) ?_; (with_reducible refine (impl_NoteEchoed.calls kj5 t536 t537 t538 t539 t540 t541 t542 t543 _ _ t544 t537 t577 t578 t579 t580 t581 t582 t583 t584 t585 t588 _ ?side1 ?side2 A38.out).mono ?_); (case side1 => repeat (first | exact (Kd.R_reads' HO_549008.out).2.2 | (with_reducible refine Kd.C_alloc ?_ _) | (with_reducible refine Kd.C_drewN ?_ _) | (with_reducible refine Kd.C_drew ?_))); (case side2 => exact (Kd.R_reads' HO_549008.out).2.1); rintro e w19480 ⟨v19481, rfl, ho0, hb⟩; refine ⟨_, rfl, ?_⟩; have n0_ := mk_ (Kd.R_elder' (Kd.ur_ HO_536008.out) (Kd.R_base ho0) hb); have n1_ := mk_ (Kd.R_elder' (Kd.ur_ HO_549008.out) (Kd.R_base ho0) hb); have n2_ := mk_ (Kd.R_elder' (Kd.ur_ HO_562008.out) (Kd.R_base ho0) hb); have n3_ := mk_ (Kd.R_elder' (Kd.ur_ HO574.out) (Kd.R_base ho0) hb); have HO587 := mk_ (Kd.R_lower (Kd.R_new' (Kd.R_new' (Kd.R_new' (Kd.R_new' ho0 (Kd.R_lt (Kd.ur_ HO_536008.out))) (Kd.R_lt (Kd.ur_ HO_549008.out))) (Kd.R_lt (Kd.ur_ HO_562008.out))) (Kd.R_lt (Kd.ur_ HO574.out))) (below_size (us_ HB.out))); replace BK535 := mk_ (blk_below (u_ BK535.out) hb); replace BK548 := mk_ (blk_below (u_ BK548.out) hb); replace BK561 := mk_ (blk_below (u_ BK561.out) hb); replace BK576 := mk_ (blk_below (u_ BK576.out) hb); replace HB := mk_ (below_step (us_ HB.out) hb); replace HO_536008 := n0_; replace HO_549008 := n1_; replace HO_562008 := n2_; replace HO574 := n3_; clear n0_ n1_ n2_ n3_) | ((with_reducible refine gate_dst (N := 13) rfl ?_); refine box_event ?hg (N := 13) ?hd (cs := #[.int .i64 0, .int .i64 0, .int .i64 0, .int .i64 0, .int .i64 0, .int .i64 0, .bool false, .bool false, .slice none 0 0]) (t := 37) ?hr ?_; (case hd => rfl); (case hg => rfl); (case hr => first | (go_simp; done) | (go_simp; rfl)); intro gb19520 hg w19521 hbox hb; replace HO_536008 := mk_ (Kd.R_below (Kd.ur_ HO_536008.out) hb); replace HO_549008 := mk_ (Kd.R_below (Kd.ur_ HO_549008.out) hb); replace HO_562008 := mk_ (Kd.R_below (Kd.ur_ HO_562008.out) hb); replace HO574 := mk_ (Kd.R_below (Kd.ur_ HO574.out) hb); replace HO587 := mk_ (Kd.R_below (Kd.ur_ HO587.out) hb); have n5_ := mk_ (blk_below (u_ BK535.out) hb); have n6_ := mk_ (blk_below (u_ BK548.out) hb); have n7_ := mk_ (blk_below (u_ BK561.out) hb); have n8_ := mk_ (blk_below (u_ BK576.out) hb); have n9_ := mk_ (below_step (us_ HB.out) hb); have BK589 := mk_ (hbox); have GW589 := mk_ ((by rw [hg]; exact (below_size (us_ HB.out)) : w.heap.size ≤ gb19520)); have GE589 := ge_ ((by rw [hg]; exact (below_size (us_ HB.out)) : w.heap.size ≤ gb19520)); have NB535_589 := nq_ ((by rw [hg]; exact Nat.ne_of_lt (blk_lt (u_ BK535.out)) : gb535 ≠ gb19520)); have NB589_535 := nq_ ((by rw [hg]; exact Nat.ne_of_gt (blk_lt (u_ BK535.out)) : gb19520 ≠ gb535)); have NB548_589 := nq_ ((by rw [hg]; exact Nat.ne_of_lt (blk_lt (u_ BK548.out)) : gb548 ≠ gb19520)); have NB589_548 := nq_ ((by rw [hg]; exact Nat.ne_of_gt (blk_lt (u_ BK548.out)) : gb19520 ≠ gb548)); have NB561_589 := nq_ ((by rw [hg]; exact Nat.ne_of_lt (blk_lt (u_ BK561.out)) : gb561 ≠ gb19520)); have NB589_561 := nq_ ((by rw [hg]; exact Nat.ne_of_gt (blk_lt (u_ BK561.out)) : gb19520 ≠ gb561)); have NB576_589 := nq_ ((by rw [hg]; exact Nat.ne_of_lt (blk_lt (u_ BK576.out)) : gb19400 ≠ gb19520)); have NB589_576 := nq_ ((by rw [hg]; exact Nat.ne_of_gt (blk_lt (u_ BK576.out)) : gb19520 ≠ gb19400)); replace BK535 := n5_; replace BK548 := n6_; replace BK561 := n7_; replace BK576 := n8_; replace HB := n9_; clear n5_ n6_ n7_ n8_ n9_; clear hb hbox hg; have hnb4630535589 := NB589_535.out; have hnc4630535589 := NB535_589.out; have hnb4630548589 := NB589_548.out; have hnc4630548589 := NB548_589.out; have hnb4630561589 := NB589_561.out; have hnc4630561589 := NB561_589.out; have hnb4630576589 := NB589_576.out; have hnc4630576589 := NB576_589.out; obtain ⟨_, _, _, _, _, _, _, _, _, _, _, _, _, _, _, _, _, _⟩ := cells9_ BK589.out; obtain ⟨Ao4630587, co4630587, eo4630587⟩ := Kd.R_slice HO587.out; subst eo4630587) | ((with_reducible refine gate_store (t := 37) (p := 13) rfl ?_); refine store_event (t := 37) (p := 13) (v := ?_) (w1 := ?_) ?hg ?ho ?hn ?hr ?_; (case ho => rfl); (case hg => rfl); (case hn => rfl); (case hr => first | (go_simp; done) | (go_simp; rfl)); intro w19560 hw; have n0_ : Aside0 (Kd.R (Kd.int .u8) 5 w19560 w.heap.size (fun k_ => some k_ ≠ (.slice Ao17 t544.length co17 : Value).ownBlock ∧ some k_ ≠ (.slice Ao25 t557.length co25 : Value).ownBlock ∧ some k_ ≠ (.slice Ao4600574 t572.length co4600574 : Value).ownBlock ∧ some k_ ≠ (.slice Ao4630587 t585.length co4630587 : Value).ownBlock) (.slice Ao10 t529.length co10) t529) := ⟨(by rw [hw]; exact (by (with_reducible repeat (first | apply Kd.R_alloc | apply Kd.R_drewN | apply Kd.R_drew)); exact Kd.R_mono (Kd.R_far9 (g := gb19520) (Kd.R_types HO_536008.out BK589.out (by decide)) (fun _ hk => hk.2) _ _ _ _ _ _ _ _ _) (fun _ hk => by first | exact ⟨hk.1.1.1, ⟨hk.1.1.2.1, ⟨hk.1.1.2.2, hk.1.2⟩⟩⟩ | exact hk.1 | exact hk | exact ⟨hk.1, hk.2⟩ | exact ⟨.inr hk.1, hk.2⟩ | simp only [hk, ne_eq, not_false_eq_true, and_self])))⟩; have n1_ : Aside0 (Kd.R (Kd.int .u8) 5 w19560 w.heap.size (fun k_ => some k_ ≠ (.slice Ao10 t529.length co10 : Value).ownBlock ∧ some k_ ≠ (.slice Ao25 t557.length co25 : Value).ownBlock ∧ some k_ ≠ (.slice Ao4600574 t572.length co4600574 : Value).ownBlock ∧ some k_ ≠ (.slice Ao4630587 t585.length co4630587 : Value).ownBlock) (.slice Ao17 t544.length co17) t544) := ⟨(by rw [hw]; exact (by (with_reducible repeat (first | apply Kd.R_alloc | apply Kd.R_drewN | apply Kd.R_drew)); exact Kd.R_mono (Kd.R_far9 (g := gb19520) (Kd.R_types HO_549008.out BK589.out (by decide)) (fun _ hk => hk.2) _ _ _ _ _ _ _ _ _) (fun _ hk => by first | exact ⟨hk.1.1.1, ⟨hk.1.1.2.1, ⟨hk.1.1.2.2, hk.1.2⟩⟩⟩ | exact hk.1 | exact hk | exact ⟨hk.1, hk.2⟩ | exact ⟨.inr hk.1, hk.2⟩ | simp only [hk, ne_eq, not_false_eq_true, and_self])))⟩; have n2_ : Aside0 (Kd.R (Kd.int .u8) 5 w19560 w.heap.size (fun k_ => some k_ ≠ (.slice Ao10 t529.length co10 : Value).ownBlock ∧ some k_ ≠ (.slice Ao17 t544.length co17 : Value).ownBlock ∧ some k_ ≠ (.slice Ao4600574 t572.length co4600574 : Value).ownBlock ∧ some k_ ≠ (.slice Ao4630587 t585.length co4630587 : Value).ownBlock) (.slice Ao25 t557.length co25) t557) := ⟨(by rw [hw]; exact (by (with_reducible repeat (first | apply Kd.R_alloc | apply Kd.R_drewN | apply Kd.R_drew)); exact Kd.R_mono (Kd.R_far9 (g := gb19520) (Kd.R_types HO_562008.out BK589.out (by decide)) (fun _ hk => hk.2) _ _ _ _ _ _ _ _ _) (fun _ hk => by first | exact ⟨hk.1.1.1, ⟨hk.1.1.2.1, ⟨hk.1.1.2.2, hk.1.2⟩⟩⟩ | exact hk.1 | exact hk | exact ⟨hk.1, hk.2⟩ | exact ⟨.inr hk.1, hk.2⟩ | simp only [hk, ne_eq, not_false_eq_true, and_self])))⟩; have n3_ : Aside0 (Kd.R (Kd.int .u8) 5 w19560 w.heap.size (fun k_ => some k_ ≠ (.slice Ao10 t529.length co10 : Value).ownBlock ∧ some k_ ≠ (.slice Ao17 t544.length co17 : Value).ownBlock ∧ some k_ ≠ (.slice Ao25 t557.length co25 : Value).ownBlock ∧ some k_ ≠ (.slice Ao4630587 t585.length co4630587 : Value).ownBlock) (.slice Ao4600574 t572.length co4600574) t572) := ⟨(by rw [hw]; exact (by (with_reducible repeat (first | apply Kd.R_alloc | apply Kd.R_drewN | apply Kd.R_drew)); exact Kd.R_mono (Kd.R_far9 (g := gb19520) (Kd.R_types HO574.out BK589.out (by decide)) (fun _ hk => hk.2) _ _ _ _ _ _ _ _ _) (fun _ hk => by first | exact ⟨hk.1.1.1, ⟨hk.1.1.2.1, ⟨hk.1.1.2.2, hk.1.2⟩⟩⟩ | exact hk.1 | exact hk | exact ⟨hk.1, hk.2⟩ | exact ⟨.inr hk.1, hk.2⟩ | simp only [hk, ne_eq, not_false_eq_true, and_self])))⟩; have n4_ : Aside0 (Kd.R (Kd.int .u8) 5 w19560 w.heap.size (fun k_ => some k_ ≠ (.slice Ao10 t529.length co10 : Value).ownBlock ∧ some k_ ≠ (.slice Ao17 t544.length co17 : Value).ownBlock ∧ some k_ ≠ (.slice Ao25 t557.length co25 : Value).ownBlock ∧ some k_ ≠ (.slice Ao4600574 t572.length co4600574 : Value).ownBlock) (.slice Ao4630587 t585.length co4630587) t585) := ⟨(by rw [hw]; exact (by (with_reducible repeat (first | apply Kd.R_alloc | apply Kd.R_drewN | apply Kd.R_drew)); exact Kd.R_mono (Kd.R_far9 (g := gb19520) (Kd.R_types HO587.out BK589.out (by decide)) (fun _ hk => hk.2) _ _ _ _ _ _ _ _ _) (fun _ hk => by first | exact ⟨hk.1.1.1.1.2, ⟨hk.1.1.1.2, ⟨hk.1.1.2, hk.1.2⟩⟩⟩ | exact hk.1 | exact hk | exact ⟨hk.1, hk.2⟩ | exact ⟨.inr hk.1, hk.2⟩ | simp only [hk, ne_eq, not_false_eq_true, and_self])))⟩; have n5_ : Aside0 (w19560.heap[gb535]? = some (.cells #[.int .i64 t521, .int .i64 t522, .int .i64 t523, .int .i64 t524, .int .i64 t525, .int .i64 t526, .bool t527, .bool t528, .slice Ao10 t529.length co10] 37 (0, 0))) := ⟨(by rw [hw]; exact (uf_ BK535.out))⟩; have n6_ : Aside0 (w19560.heap[gb548]? = some (.cells #[.int .i64 t536, .int .i64 t537, .int .i64 t538, .int .i64 t539, .int .i64 t540, .int .i64 t541, .bool t542, .bool t543, .slice Ao17 t544.length co17] 37 (0, 0))) := ⟨(by rw [hw]; exact (uf_ BK548.out))⟩; have n7_ : Aside0 (w19560.heap[gb561]? = some (.cells #[.int .i64 t549, .int .i64 t550, .int .i64 t551, .int .i64 t552, .int .i64 t553, .int .i64 t554, .bool t555, .bool t556, .slice Ao25 t557.length co25] 37 (0, 0))) := ⟨(by rw [hw]; exact (uf_ BK561.out))⟩; have n8_ : Aside0 (w19560.heap[gb19400]? = some (.cells #[.int .i64 t564, .int .i64 t565, .int .i64 t566, .int .i64 t567, .int .i64 t568, .int .i64 t569, .bool t570, .bool t571, .slice Ao4600574 t572.length co4600574] 37 (0, 0))) := ⟨(by rw [hw]; exact (uf_ BK576.out))⟩; have n9_ : Aside0 (w19560.heap[gb19520]? = some (.cells #[.int .i64 t577, .int .i64 t578, .int .i64 t579, .int .i64 t580, .int .i64 t581, .int .i64 t582, .bool t583, .bool t584, .slice Ao4630587 t585.length co4630587] 37 (0, 0))) := ⟨(by rw [hw]; exact (by (with_reducible repeat (first | refine bn_ ?_ _ | refine bw_ ?_ | refine ba_ ?_ _)); with_reducible apply blk_put9; (with_reducible repeat (first | refine bn_ ?_ _ | refine bw_ ?_ | refine ba_ ?_ _)); exact BK589.out))⟩; have n10_ : Aside0 (Below w.heap.size w w19560) := ⟨(by rw [hw]; exact (us_ HB.out))⟩; clear hw; clear HO_536008; clear HO_549008; clear HO_562008; clear HO574; clear HO587; clear BK535; clear BK548; clear BK561; clear BK576; clear BK589; clear HB; have HO_536008 := n0_; have HO_549008 := n1_; have HO_562008 := n2_; have HO574 := n3_; have HO587 := n4_; have BK535 := n5_; have BK548 := n6_; have BK561 := n7_; have BK576 := n8_; have BK589 := n9_; have HB := n10_; clear n0_ n1_ n2_ n3_ n4_ n5_ n6_ n7_ n8_ n9_ n10_; obtain ⟨_, _, _, _, _, _, _, _, _, _, _, _, _, _, _, _, _, _⟩ := cells9_ BK548.out) | ((with_reducible refine gate_callee (f := 20) rfl ?_); refine goesL_ (some 68) rfl rfl Try.func20 (by kernel_rfl) rfl #[.agg #[.int .i64 t536, .int .i64 t537, .int .i64 t538, .int .i64 t539, .int .i64 t540, .int .i64 t541, .bool t542, .bool t543, .slice Ao17 t544.length co17]] rfl (by (try simp only [lm_, lo_, ln_]); try rfl) ?_; (with_reducible refine (impl_PacketOk.calls t536 t537 t538 t539 t540 t541 t542 t543 _ _ t544 false _ ?side1 ?side2 A39.out).mono ?_); (case side1 => repeat (first | exact (Kd.R_reads' HO_549008.out).2.2 | (with_reducible refine Kd.C_alloc ?_ _) | (with_reducible refine Kd.C_drewN ?_ _) | (with_reducible refine Kd.C_drew ?_))); (case side2 => exact (Kd.R_reads' HO_549008.out).2.1); rintro e w19600 ⟨rfl, hb⟩; refine ⟨_, rfl, ?_⟩; replace HO_536008 := mk_ (Kd.R_below (Kd.ur_ HO_536008.out) hb); replace HO_549008 := mk_ (Kd.R_below (Kd.ur_ HO_549008.out) hb); replace HO_562008 := mk_ (Kd.R_below (Kd.ur_ HO_562008.out) hb); replace HO574 := mk_ (Kd.R_below (Kd.ur_ HO574.out) hb); replace HO587 := mk_ (Kd.R_below (Kd.ur_ HO587.out) hb); replace BK535 := mk_ (blk_below (u_ BK535.out) hb); replace BK548 := mk_ (blk_below (u_ BK548.out) hb); replace BK561 := mk_ (blk_below (u_ BK561.out) hb); replace BK576 := mk_ (blk_below (u_ BK576.out) hb); replace BK589 := mk_ (blk_below (u_ BK589.out) hb); replace HB := mk_ (below_step (us_ HB.out) hb)) | ((with_reducible refine gate_callee (f := 20) rfl ?_); refine goesL_ (some 68) rfl rfl Try.func20 (by kernel_rfl) rfl #[.agg #[.int .i64 t536, .int .i64 t537, .int .i64 t538, .int .i64 t539, .int .i64 t540, .int .i64 t541, .bool t542, .bool t543, .slice Ao17 t544.length co17]] rfl (by (try simp only [lm_, lo_, ln_]); try rfl) ?_; (with_reducible refine (impl_PacketOk.calls t536 t537 t538 t539 t540 t541 t542 t543 _ _ t544 true _ ?side1 ?side2 A39.out).mono ?_); (case side1 => repeat (first | exact (Kd.R_reads' HO_549008.out).2.2 | (with_reducible refine Kd.C_alloc ?_ _) | (with_reducible refine Kd.C_drewN ?_ _) | (with_reducible refine Kd.C_drew ?_))); (case side2 => exact (Kd.R_reads' HO_549008.out).2.1); rintro e w19600 ⟨rfl, hb⟩; refine ⟨_, rfl, ?_⟩; replace HO_536008 := mk_ (Kd.R_below (Kd.ur_ HO_536008.out) hb); replace HO_549008 := mk_ (Kd.R_below (Kd.ur_ HO_549008.out) hb); replace HO_562008 := mk_ (Kd.R_below (Kd.ur_ HO_562008.out) hb); replace HO574 := mk_ (Kd.R_below (Kd.ur_ HO574.out) hb); replace HO587 := mk_ (Kd.R_below (Kd.ur_ HO587.out) hb); replace BK535 := mk_ (blk_below (u_ BK535.out) hb); replace BK548 := mk_ (blk_below (u_ BK548.out) hb); replace BK561 := mk_ (blk_below (u_ BK561.out) hb); replace BK576 := mk_ (blk_below (u_ BK576.out) hb); replace BK589 := mk_ (blk_below (u_ BK589.out) hb); replace HB := mk_ (below_step (us_ HB.out) hb); obtain ⟨_, _, _, _, _, _, _, _, _, _, _, _, _, _, _, _, _, _⟩ := cells9_ BK548.out; obtain ⟨_, _, _, _, _, _, _, _, _, _, _, _, _, _, _, _, _, _⟩ := cells9_ BK535.out) | (go_at_call 22; (with_reducible refine (impl_NoteFault.calls kj5 t536 t537 t538 t539 t540 t541 t542 t543 _ _ t544 false _ ?side1 ?side2 A43.out).mono ?_); (case side1 => repeat (first | exact (Kd.R_reads' HO_549008.out).2.2 | (with_reducible refine Kd.C_alloc ?_ _) | (with_reducible refine Kd.C_drewN ?_ _) | (with_reducible refine Kd.C_drew ?_))); (case side2 => exact (Kd.R_reads' HO_549008.out).2.1); rintro e w19640 ⟨rfl, hb⟩; replace HO_536008 := mk_ (Kd.R_below (Kd.ur_ HO_536008.out) hb); replace HO_549008 := mk_ (Kd.R_below (Kd.ur_ HO_549008.out) hb); replace HO_562008 := mk_ (Kd.R_below (Kd.ur_ HO_562008.out) hb); replace HO574 := mk_ (Kd.R_below (Kd.ur_ HO574.out) hb); replace HO587 := mk_ (Kd.R_below (Kd.ur_ HO587.out) hb); replace BK535 := mk_ (blk_below (u_ BK535.out) hb); replace BK548 := mk_ (blk_below (u_ BK548.out) hb); replace BK561 := mk_ (blk_below (u_ BK561.out) hb); replace BK576 := mk_ (blk_below (u_ BK576.out) hb); replace BK589 := mk_ (blk_below (u_ BK589.out) hb); replace HB := mk_ (below_step (us_ HB.out) hb)) | (go_at_call 22; (with_reducible refine (impl_NoteFault.calls kj5 t536 t537 t538 t539 t540 t541 t542 t543 _ _ t544 true _ ?side1 ?side2 A43.out).mono ?_); (case side1 => repeat (first | exact (Kd.R_reads' HO_549008.out).2.2 | (with_reducible refine Kd.C_alloc ?_ _) | (with_reducible refine Kd.C_drewN ?_ _) | (with_reducible refine Kd.C_drew ?_))); (case side2 => exact (Kd.R_reads' HO_549008.out).2.1); rintro e w19640 ⟨rfl, hb⟩; replace HO_536008 := mk_ (Kd.R_below (Kd.ur_ HO_536008.out) hb); replace HO_549008 := mk_ (Kd.R_below (Kd.ur_ HO_549008.out) hb); replace HO_562008 := mk_ (Kd.R_below (Kd.ur_ HO_562008.out) hb); replace HO574 := mk_ (Kd.R_below (Kd.ur_ HO574.out) hb); replace HO587 := mk_ (Kd.R_below (Kd.ur_ HO587.out) hb); replace BK535 := mk_ (blk_below (u_ BK535.out) hb); replace BK548 := mk_ (blk_below (u_ BK548.out) hb); replace BK561 := mk_ (blk_below (u_ BK561.out) hb); replace BK576 := mk_ (blk_below (u_ BK576.out) hb); replace BK589 := mk_ (blk_below (u_ BK589.out) hb); replace HB := mk_ (below_step (us_ HB.out) hb)))
    go_ret
    exact ⟨by first | rfl | (simp [errW_none, errW_some] <;> rfl) | (simp [*, errW_none, errW_some] <;> rfl), us_ HB.out⟩

/-- THE ONE PURE STATEMENT of laws_FnNoteAbout: yours. -/
def laws_FnNoteAbout.Pure : Prop := ∀ (l0 : List Int), l0.length ≤ maxLen → l0.length * 1 ≤ 140737488351232 → (∀ x ∈ l0, (Lit.int .u8 x).wf = true) → ∃ k, laws_FnNoteAbout.f k l0 = some true
theorem laws_FnNoteAbout.walk (P : laws_FnNoteAbout.Pure) (a0 : Option Addr) (len0 cap0 : Nat) (z0 : List Int) (w : World) (w0 : (a0 = none ∧ len0 = 0 ∧ cap0 = 0 ∧ z0 = []) ∨ ∃ x, a0 = some x ∧ len0 ≤ cap0 ∧ cap0 ≤ maxLen ∧ z0.length = cap0 ∧ (∀ i, i < z0.length → w.cell? (x.add i) = some (.int .u8 (z0.getD i 0))) ∧ ∀ n ∈ z0, (Lit.int .u8 n).wf = true) (y0 : len0 * 1 ≤ 140737488351232) :
  Calls Try.prog 5 #[.slice a0 len0 cap0] w fun e w' => e = .returned (.bool true) ∧ Below w.heap.size w w' := by
 obtain ⟨l0, rfl, hr0, hm0, hw0, hc0⟩ := ReadsInt.ofRowC w0
 obtain ⟨k, h⟩ := P l0 hm0 y0 hw0
 refine (laws_FnNoteAbout.calls k _ _ l0 true w (Kd.C_of_reads (d := (0 : Int)) (h1 := fun _ => rfl) hr0) hc0 h).mono ?_
 rintro e w' ⟨rfl, hd⟩
 exact ⟨rfl, hd⟩

end Go.Proofs.Ytkkibccnpkbbjab.MFnNoteAbout
