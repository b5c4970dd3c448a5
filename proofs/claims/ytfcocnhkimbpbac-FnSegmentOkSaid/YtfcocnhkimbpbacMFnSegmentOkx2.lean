/- Functions that the law FnSegmentOk reaches, each with the proof that the machine's call comes to just its answer; no conditions but those that each theorem states. Printed by a program of this session over the kit's print. -/
import Derived.Test.YtfcocnhkimbpbacMFnSegmentOkx0
import Derived.Test.YtfcocnhkimbpbacMFnSegmentOkx1
namespace Go.Proofs.Ytfcocnhkimbpbac.MFnSegmentOk
open Go.RowKit Go.Proofs.YtfcocnhkimbpbacV.PrintWords Go.Proofs.YtfcocnhkimbpbacV.PrintLast Go.Proofs.YtfcocnhkimbpbacV.PrintMore
attribute [local go_sem] max2_int min2_int max_two min_two max_three min_three max_four min_four   -- for this text's walks alone
set_option linter.unusedVariables false
set_option linter.unusedSimpArgs false

/-! ### spec_SegmentOk: function 23 -/
mutual
def spec_SegmentOk.j0 : Nat → Bool → Int → Int → Int → Int → Int → Bool → Bool → Bool → Bool → List (S87) → List Int → Option (Bool)
 | 0, _, _, _, _, _, _, _, _, _, _, _, _ => none
 | k + 1, x43, x117000, x117001, x117002, x117003, x117004, x117005, x117006, x117007, x117008, x117009, x117010 => if x43 = true then (some false) else (spec_SegmentOk.l0 k 0 x117000 x117001 x117002 x117003 x117004 x117005 x117006 x117007 x117008 x117009 x117010)
def spec_SegmentOk.l0 : Nat → Int → Int → Int → Int → Int → Int → Bool → Bool → Bool → Bool → List (S87) → List Int → Option (Bool)
 | 0, _, _, _, _, _, _, _, _, _, _, _, _ => none
 | k + 1, x3, x117000, x117001, x117002, x117003, x117004, x117005, x117006, x117007, x117008, x117009, x117010 => if x3 < (x117009.length : Int) then (if 0 ≤ x3 then ((spec_l1In.f ((rd_T87 x117009 x3).f0) 0 65535).bind fun t123 => (if t123 = true then ((spec_l1In.f ((rd_T87 x117009 x3).f1) 0 65535).bind fun t125 => (if t125 = true then (spec_SegmentOk.l0 k (wrap64 (x3 + 1)) x117000 x117001 x117002 x117003 x117004 x117005 x117006 x117007 x117008 x117009 x117010) else (some false))) else (some false))) else (none)) else (if x117006 = true then (if x117008 = true then (if x117005 = true then (some false) else (if x117007 = true then (some false) else (some ((x117010.length : Int) == 0)))) else (some true)) else (if x117003 = 0 then (if x117004 = 0 then (if (x117009.length : Int) > 0 then (some false) else (if x117008 = true then (if x117005 = true then (some false) else (if x117007 = true then (some false) else (some ((x117010.length : Int) == 0)))) else (some true))) else (some false)) else (some false)))
end
def spec_SegmentOk.f (k : Nat) (a0_0 : Int) (a0_1 : Int) (a0_2 : Int) (a0_3 : Int) (a0_4 : Int) (a0_5 : Bool) (a0_6 : Bool) (a0_7 : Bool) (a0_8 : Bool) (l0_9 : List (S87)) (l0_10 : List Int) : Option (Bool) := (spec_l1In.f a0_0 1 255).bind fun t117 => (if t117 = true then ((spec_l1In.f a0_1 1 255).bind fun t118 => (if t118 = true then ((spec_l1In.f a0_2 0 65535).bind fun t119 => (if t119 = true then ((spec_l1In.f a0_3 0 65535).bind fun t120 => (if t120 = true then ((spec_l1In.f a0_4 0 255).bind fun t121 => (if t121 = true then (if (l0_9.length : Int) > 2 then (spec_SegmentOk.j0 k true a0_0 a0_1 a0_2 a0_3 a0_4 a0_5 a0_6 a0_7 a0_8 l0_9 l0_10) else (spec_SegmentOk.j0 k (decide ((l0_10.length : Int) > 12)) a0_0 a0_1 a0_2 a0_3 a0_4 a0_5 a0_6 a0_7 a0_8 l0_9 l0_10)) else (spec_SegmentOk.j0 k true a0_0 a0_1 a0_2 a0_3 a0_4 a0_5 a0_6 a0_7 a0_8 l0_9 l0_10))) else (spec_SegmentOk.j0 k true a0_0 a0_1 a0_2 a0_3 a0_4 a0_5 a0_6 a0_7 a0_8 l0_9 l0_10))) else (spec_SegmentOk.j0 k true a0_0 a0_1 a0_2 a0_3 a0_4 a0_5 a0_6 a0_7 a0_8 l0_9 l0_10))) else (spec_SegmentOk.j0 k true a0_0 a0_1 a0_2 a0_3 a0_4 a0_5 a0_6 a0_7 a0_8 l0_9 l0_10))) else (spec_SegmentOk.j0 k true a0_0 a0_1 a0_2 a0_3 a0_4 a0_5 a0_6 a0_7 a0_8 l0_9 l0_10))
theorem spec_SegmentOk.mono_l : ∀ k, (∀ y0 y1 y2 y3 y4 y5 y6 y7 y8 y9 y10 y11, LeO (spec_SegmentOk.j0 k y0 y1 y2 y3 y4 y5 y6 y7 y8 y9 y10 y11) (spec_SegmentOk.j0 (k + 1) y0 y1 y2 y3 y4 y5 y6 y7 y8 y9 y10 y11)) ∧ (∀ y0 y1 y2 y3 y4 y5 y6 y7 y8 y9 y10 y11, LeO (spec_SegmentOk.l0 k y0 y1 y2 y3 y4 y5 y6 y7 y8 y9 y10 y11) (spec_SegmentOk.l0 (k + 1) y0 y1 y2 y3 y4 y5 y6 y7 y8 y9 y10 y11))
 | 0 => ⟨fun _ _ _ _ _ _ _ _ _ _ _ _ r h => by simp [spec_SegmentOk.j0] at h, fun _ _ _ _ _ _ _ _ _ _ _ _ r h => by simp [spec_SegmentOk.l0] at h⟩
 | k + 1 => by
  obtain ⟨ih0, ih1⟩ := spec_SegmentOk.mono_l k
  refine ⟨?_, ?_⟩
  ·intro y0 y1 y2 y3 y4 y5 y6 y7 y8 y9 y10 y11
   unfold spec_SegmentOk.j0
   repeat' first
   | (with_reducible exact ih0 _ _ _ _ _ _ _ _ _ _ _ _)
   | (with_reducible exact ih1 _ _ _ _ _ _ _ _ _ _ _ _)
   | (with_reducible exact LeO.refl _)
   | (with_reducible exact LeO.none _)
   | (with_reducible refine LeO.ite ?_ ?_)
   | (with_reducible refine LeO.bind ?_ (fun _ => ?_))
   | exact ih0 _ _ _ _ _ _ _ _ _ _ _ _
   | exact ih1 _ _ _ _ _ _ _ _ _ _ _ _
   | exact LeO.none _
   | refine LeO.ite ?_ ?_
   | refine LeO.bind ?_ (fun _ => ?_)
  ·intro y0 y1 y2 y3 y4 y5 y6 y7 y8 y9 y10 y11
   unfold spec_SegmentOk.l0
   repeat' first
   | (with_reducible exact ih0 _ _ _ _ _ _ _ _ _ _ _ _)
   | (with_reducible exact ih1 _ _ _ _ _ _ _ _ _ _ _ _)
   | (with_reducible exact LeO.refl _)
   | (with_reducible exact LeO.none _)
   | (with_reducible refine LeO.ite ?_ ?_)
   | (with_reducible refine LeO.bind ?_ (fun _ => ?_))
   | exact ih0 _ _ _ _ _ _ _ _ _ _ _ _
   | exact ih1 _ _ _ _ _ _ _ _ _ _ _ _
   | exact LeO.none _
   | refine LeO.ite ?_ ?_
   | refine LeO.bind ?_ (fun _ => ?_)
theorem spec_SegmentOk.mono : ∀ a0 a1 a2 a3 a4 a5 a6 a7 a8 a9 a10 k, LeO (spec_SegmentOk.f k a0 a1 a2 a3 a4 a5 a6 a7 a8 a9 a10) (spec_SegmentOk.f (k + 1) a0 a1 a2 a3 a4 a5 a6 a7 a8 a9 a10) := by
 intro a0 a1 a2 a3 a4 a5 a6 a7 a8 a9 a10 k
 obtain ⟨ih0, ih1⟩ := spec_SegmentOk.mono_l k
 unfold spec_SegmentOk.f
 repeat' first
   | (with_reducible exact ih0 _ _ _ _ _ _ _ _ _ _ _ _)
   | (with_reducible exact ih1 _ _ _ _ _ _ _ _ _ _ _ _)
   | (with_reducible exact LeO.refl _)
   | (with_reducible exact LeO.none _)
   | (with_reducible refine LeO.ite ?_ ?_)
   | (with_reducible refine LeO.bind ?_ (fun _ => ?_))
   | exact ih0 _ _ _ _ _ _ _ _ _ _ _ _
   | exact ih1 _ _ _ _ _ _ _ _ _ _ _ _
   | exact LeO.none _
   | refine LeO.ite ?_ ?_
   | refine LeO.bind ?_ (fun _ => ?_)
set_option maxHeartbeats 8000000 in
set_option maxRecDepth 100000 in
theorem spec_SegmentOk.calls (k : Nat) (a0_0 : Int) (a0_1 : Int) (a0_2 : Int) (a0_3 : Int) (a0_4 : Int) (a0_5 : Bool) (a0_6 : Bool) (a0_7 : Bool) (a0_8 : Bool) (A0_9 : Option Addr) (c0_9 : Nat) (l0_9 : List (S87)) (A0_10 : Option Addr) (c0_10 : Nat) (l0_10 : List Int) (r : Bool) (w : World) (hr0_9 : Kd.C k87 w A0_9 l0_9.length l0_9) (hc0_9 : l0_9.length ≤ c0_9) (hr0_10 : Kd.C (Kd.int .u8) w A0_10 l0_10.length l0_10) (hc0_10 : l0_10.length ≤ c0_10) (h : spec_SegmentOk.f k a0_0 a0_1 a0_2 a0_3 a0_4 a0_5 a0_6 a0_7 a0_8 l0_9 l0_10 = some r) :
  Calls Try.prog 23 #[.agg #[.int .i64 a0_0, .int .i64 a0_1, .int .i64 a0_2, .int .i64 a0_3, .int .i64 a0_4, .bool a0_5, .bool a0_6, .bool a0_7, .bool a0_8, .slice A0_9 l0_9.length c0_9, .slice A0_10 l0_10.length c0_10]] w fun e w' => e = .returned (.bool r) ∧ Below w.heap.size w w' := by
 have hu48 := Try.underlying48
 have HR0_9 := mk_ hr0_9
 have HC0_9 := mk_ hc0_9
 clear hr0_9 hc0_9
 have HR0_10 := mk_ hr0_10
 have HC0_10 := mk_ hc0_10
 clear hr0_10 hc0_10
 have HB := mk_ (Below.refl w.heap.size w)
 have H : ((spec_l1In.f a0_0 1 255).bind fun t117 => (if t117 = true then ((spec_l1In.f a0_1 1 255).bind fun t118 => (if t118 = true then ((spec_l1In.f a0_2 0 65535).bind fun t119 => (if t119 = true then ((spec_l1In.f a0_3 0 65535).bind fun t120 => (if t120 = true then ((spec_l1In.f a0_4 0 255).bind fun t121 => (if t121 = true then (if (l0_9.length : Int) > 2 then (spec_SegmentOk.j0 k true a0_0 a0_1 a0_2 a0_3 a0_4 a0_5 a0_6 a0_7 a0_8 l0_9 l0_10) else (spec_SegmentOk.j0 k (decide ((l0_10.length : Int) > 12)) a0_0 a0_1 a0_2 a0_3 a0_4 a0_5 a0_6 a0_7 a0_8 l0_9 l0_10)) else (spec_SegmentOk.j0 k true a0_0 a0_1 a0_2 a0_3 a0_4 a0_5 a0_6 a0_7 a0_8 l0_9 l0_10))) else (spec_SegmentOk.j0 k true a0_0 a0_1 a0_2 a0_3 a0_4 a0_5 a0_6 a0_7 a0_8 l0_9 l0_10))) else (spec_SegmentOk.j0 k true a0_0 a0_1 a0_2 a0_3 a0_4 a0_5 a0_6 a0_7 a0_8 l0_9 l0_10))) else (spec_SegmentOk.j0 k true a0_0 a0_1 a0_2 a0_3 a0_4 a0_5 a0_6 a0_7 a0_8 l0_9 l0_10))) else (spec_SegmentOk.j0 k true a0_0 a0_1 a0_2 a0_3 a0_4 a0_5 a0_6 a0_7 a0_8 l0_9 l0_10))) = some r := h
 clear h
 have HC2 := mk_ H
 clear H
 go_enter Try.func23, Try.ntmps23
 go_upto_region 1 with (first | ((with_reducible refine gate_dst (N := 1) rfl ?_); refine box_event ?hg (N := 1) ?hd (cs := #[.int .i64 a0_0, .int .i64 a0_1, .int .i64 a0_2, .int .i64 a0_3, .int .i64 a0_4, .bool a0_5, .bool a0_6, .bool a0_7, .bool a0_8, .slice A0_9 l0_9.length c0_9, .slice A0_10 l0_10.length c0_10]) (t := 48) ?hr ?_; (case hd => rfl); (case hg => rfl); (case hr => first | (go_simp; done) | (go_simp; rfl)); intro gb116 hg w3 hbox hb; have n0_ := mk_ (below_step (ub_ HB.out) hb); have n1_ := mk_ (hbox); have n2_ := mk_ ((by rw [hg]; exact (below_size (ub_ HB.out)) : w.heap.size ≤ gb116)); have n3_ := mk_ ((by rw [hg]; exact (below_size (ub_ HB.out)) : w.heap.size ≤ gb116)); clear HB; have HB := n0_; have BK116 := n1_; have GW116 := n2_; have GE116 := ge_ n3_.out; clear n0_ n1_ n2_ n3_; clear hb hbox hg))
 (try simp only [Act.put, la_, lz_, ls_])
 go_cut [43] (fun v43 wc => ∃ (kq : Nat) (x43_1 : Bool), v43 = .bool x43_1 ∧ Aside0 (spec_SegmentOk.j0 kq x43_1 a0_0 a0_1 a0_2 a0_3 a0_4 a0_5 a0_6 a0_7 a0_8 l0_9 l0_10 = some r) ∧ Aside0 (kq ≤ k) ∧ Aside0 (wc.heap[gb116]? = some (.cells #[.int .i64 a0_0, .int .i64 a0_1, .int .i64 a0_2, .int .i64 a0_3, .int .i64 a0_4, .bool a0_5, .bool a0_6, .bool a0_7, .bool a0_8, (.slice A0_9 l0_9.length c0_9), (.slice A0_10 l0_10.length c0_10)] 48 (0, 0))) ∧ Aside0 (Below w.heap.size w wc))
 case first =>
  have H := HC2.out
  clear HC2
  replace H := Option.bind_eq_some_iff.mp H
  obtain ⟨t117, A40, H⟩ := H
  replace H : (if t117 = true then ((spec_l1In.f a0_1 1 255).bind fun t118 => (if t118 = true then ((spec_l1In.f a0_2 0 65535).bind fun t119 => (if t119 = true then ((spec_l1In.f a0_3 0 65535).bind fun t120 => (if t120 = true then ((spec_l1In.f a0_4 0 255).bind fun t121 => (if t121 = true then (if (l0_9.length : Int) > 2 then (spec_SegmentOk.j0 k true a0_0 a0_1 a0_2 a0_3 a0_4 a0_5 a0_6 a0_7 a0_8 l0_9 l0_10) else (spec_SegmentOk.j0 k (decide ((l0_10.length : Int) > 12)) a0_0 a0_1 a0_2 a0_3 a0_4 a0_5 a0_6 a0_7 a0_8 l0_9 l0_10)) else (spec_SegmentOk.j0 k true a0_0 a0_1 a0_2 a0_3 a0_4 a0_5 a0_6 a0_7 a0_8 l0_9 l0_10))) else (spec_SegmentOk.j0 k true a0_0 a0_1 a0_2 a0_3 a0_4 a0_5 a0_6 a0_7 a0_8 l0_9 l0_10))) else (spec_SegmentOk.j0 k true a0_0 a0_1 a0_2 a0_3 a0_4 a0_5 a0_6 a0_7 a0_8 l0_9 l0_10))) else (spec_SegmentOk.j0 k true a0_0 a0_1 a0_2 a0_3 a0_4 a0_5 a0_6 a0_7 a0_8 l0_9 l0_10))) else (spec_SegmentOk.j0 k true a0_0 a0_1 a0_2 a0_3 a0_4 a0_5 a0_6 a0_7 a0_8 l0_9 l0_10)) = some r := H
  have A4 := mk_ A40
  clear A40
  by_cases c5 : t117 = true
  rotate_left
  ·replace c5 := Bool.eq_false_iff.mpr c5
   subst c5
   have H1 : (spec_SegmentOk.j0 k true a0_0 a0_1 a0_2 a0_3 a0_4 a0_5 a0_6 a0_7 a0_8 l0_9 l0_10) = some r := by rw [if_neg (show ¬ (false = true) by decide)] at H; exact H
   clear H
   have H := H1
   clear H1
   have H' := mk_ H
   clear H
   obtain ⟨hcz21_0, hcz21_1, hcz21_2, hcz21_3, hcz21_4, hcz21_5, hcz21_6, hcz21_7, hcz21_8, hcz21_9, hcz21_10, hfz21_0, hfz21_1, hfz21_2, hfz21_3, hfz21_4, hfz21_5, hfz21_6, hfz21_7, hfz21_8, hfz21_9, hfz21_10⟩ := cells11_ BK116.out
   go_wp2_with (first | ((with_reducible refine gate_callee (f := 29) rfl ?_); refine goesL_ (some 6) rfl rfl Try.func29 (by kernel_rfl) rfl #[.int .i64 a0_0, .int .i64 1, .int .i64 255] rfl (by (try simp only [lm_, lo_, ln_]); first | done | rfl | (simp only [List.length_drop, List.length_take]; rfl)) ?_; (with_reducible refine (spec_l1In.calls a0_0 1 255 false _ A4.out).mono ?_); rintro e w' ⟨rfl, ⟨nd, rfl⟩⟩; refine ⟨_, rfl, ?_⟩))
   go_meet
   case rel => exact ⟨_, (true), (by first | rfl | (simp; done) | (simp [*]; done)), H', ⟨by first | omega | exact Nat.le_refl _⟩, ⟨u_ BK116.out⟩, ⟨us_ HB.out⟩⟩
  subst c5
  have H1 : ((spec_l1In.f a0_1 1 255).bind fun t118 => (if t118 = true then ((spec_l1In.f a0_2 0 65535).bind fun t119 => (if t119 = true then ((spec_l1In.f a0_3 0 65535).bind fun t120 => (if t120 = true then ((spec_l1In.f a0_4 0 255).bind fun t121 => (if t121 = true then (if (l0_9.length : Int) > 2 then (spec_SegmentOk.j0 k true a0_0 a0_1 a0_2 a0_3 a0_4 a0_5 a0_6 a0_7 a0_8 l0_9 l0_10) else (spec_SegmentOk.j0 k (decide ((l0_10.length : Int) > 12)) a0_0 a0_1 a0_2 a0_3 a0_4 a0_5 a0_6 a0_7 a0_8 l0_9 l0_10)) else (spec_SegmentOk.j0 k true a0_0 a0_1 a0_2 a0_3 a0_4 a0_5 a0_6 a0_7 a0_8 l0_9 l0_10))) else (spec_SegmentOk.j0 k true a0_0 a0_1 a0_2 a0_3 a0_4 a0_5 a0_6 a0_7 a0_8 l0_9 l0_10))) else (spec_SegmentOk.j0 k true a0_0 a0_1 a0_2 a0_3 a0_4 a0_5 a0_6 a0_7 a0_8 l0_9 l0_10))) else (spec_SegmentOk.j0 k true a0_0 a0_1 a0_2 a0_3 a0_4 a0_5 a0_6 a0_7 a0_8 l0_9 l0_10))) = some r := by rw [if_pos rfl] at H; exact H
  clear H
  have H := H1
  clear H1
  replace H := Option.bind_eq_some_iff.mp H
  obtain ⟨t118, A60, H⟩ := H
  replace H : (if t118 = true then ((spec_l1In.f a0_2 0 65535).bind fun t119 => (if t119 = true then ((spec_l1In.f a0_3 0 65535).bind fun t120 => (if t120 = true then ((spec_l1In.f a0_4 0 255).bind fun t121 => (if t121 = true then (if (l0_9.length : Int) > 2 then (spec_SegmentOk.j0 k true a0_0 a0_1 a0_2 a0_3 a0_4 a0_5 a0_6 a0_7 a0_8 l0_9 l0_10) else (spec_SegmentOk.j0 k (decide ((l0_10.length : Int) > 12)) a0_0 a0_1 a0_2 a0_3 a0_4 a0_5 a0_6 a0_7 a0_8 l0_9 l0_10)) else (spec_SegmentOk.j0 k true a0_0 a0_1 a0_2 a0_3 a0_4 a0_5 a0_6 a0_7 a0_8 l0_9 l0_10))) else (spec_SegmentOk.j0 k true a0_0 a0_1 a0_2 a0_3 a0_4 a0_5 a0_6 a0_7 a0_8 l0_9 l0_10))) else (spec_SegmentOk.j0 k true a0_0 a0_1 a0_2 a0_3 a0_4 a0_5 a0_6 a0_7 a0_8 l0_9 l0_10))) else (spec_SegmentOk.j0 k true a0_0 a0_1 a0_2 a0_3 a0_4 a0_5 a0_6 a0_7 a0_8 l0_9 l0_10)) = some r := H
  have A6 := mk_ A60
  clear A60
  by_cases c7 : t118 = true
  rotate_left
  ·replace c7 := Bool.eq_false_iff.mpr c7
   subst c7
   have H1 : (spec_SegmentOk.j0 k true a0_0 a0_1 a0_2 a0_3 a0_4 a0_5 a0_6 a0_7 a0_8 l0_9 l0_10) = some r := by rw [if_neg (show ¬ (false = true) by decide)] at H; exact H
   clear H
   have H := H1
   clear H1
   have H' := mk_ H
   clear H
   obtain ⟨hcz20_0, hcz20_1, hcz20_2, hcz20_3, hcz20_4, hcz20_5, hcz20_6, hcz20_7, hcz20_8, hcz20_9, hcz20_10, hfz20_0, hfz20_1, hfz20_2, hfz20_3, hfz20_4, hfz20_5, hfz20_6, hfz20_7, hfz20_8, hfz20_9, hfz20_10⟩ := cells11_ BK116.out
   go_wp2_with (first | ((with_reducible refine gate_callee (f := 29) rfl ?_); have hA_ := A4.out; refine goesL_ (some 6) rfl rfl Try.func29 (by kernel_rfl) rfl #[.int .i64 a0_0, .int .i64 1, .int .i64 255] rfl (by (try simp only [lm_, lo_, ln_]); first | done | rfl | (simp only [List.length_drop, List.length_take]; rfl)) ?_; (with_reducible refine (spec_l1In.calls a0_0 1 255 true _ A4.out).mono ?_); rintro e w' ⟨rfl, ⟨nd, rfl⟩⟩; refine ⟨_, rfl, ?_⟩; clear hA_ A4) | (go_at_call 29; have hA_ := A6.out; (with_reducible refine (spec_l1In.calls a0_1 1 255 false _ A6.out).mono ?_); rintro e w' ⟨rfl, ⟨nd, rfl⟩⟩; clear hA_ A6))
   go_meet
   case rel => exact ⟨_, (true), (by first | rfl | (simp; done) | (simp [*]; done)), H', ⟨by first | omega | exact Nat.le_refl _⟩, ⟨u_ BK116.out⟩, ⟨us_ HB.out⟩⟩
  subst c7
  have H1 : ((spec_l1In.f a0_2 0 65535).bind fun t119 => (if t119 = true then ((spec_l1In.f a0_3 0 65535).bind fun t120 => (if t120 = true then ((spec_l1In.f a0_4 0 255).bind fun t121 => (if t121 = true then (if (l0_9.length : Int) > 2 then (spec_SegmentOk.j0 k true a0_0 a0_1 a0_2 a0_3 a0_4 a0_5 a0_6 a0_7 a0_8 l0_9 l0_10) else (spec_SegmentOk.j0 k (decide ((l0_10.length : Int) > 12)) a0_0 a0_1 a0_2 a0_3 a0_4 a0_5 a0_6 a0_7 a0_8 l0_9 l0_10)) else (spec_SegmentOk.j0 k true a0_0 a0_1 a0_2 a0_3 a0_4 a0_5 a0_6 a0_7 a0_8 l0_9 l0_10))) else (spec_SegmentOk.j0 k true a0_0 a0_1 a0_2 a0_3 a0_4 a0_5 a0_6 a0_7 a0_8 l0_9 l0_10))) else (spec_SegmentOk.j0 k true a0_0 a0_1 a0_2 a0_3 a0_4 a0_5 a0_6 a0_7 a0_8 l0_9 l0_10))) = some r := by rw [if_pos rfl] at H; exact H
  clear H
  have H := H1
  clear H1
  replace H := Option.bind_eq_some_iff.mp H
  obtain ⟨t119, A80, H⟩ := H
  replace H : (if t119 = true then ((spec_l1In.f a0_3 0 65535).bind fun t120 => (if t120 = true then ((spec_l1In.f a0_4 0 255).bind fun t121 => (if t121 = true then (if (l0_9.length : Int) > 2 then (spec_SegmentOk.j0 k true a0_0 a0_1 a0_2 a0_3 a0_4 a0_5 a0_6 a0_7 a0_8 l0_9 l0_10) else (spec_SegmentOk.j0 k (decide ((l0_10.length : Int) > 12)) a0_0 a0_1 a0_2 a0_3 a0_4 a0_5 a0_6 a0_7 a0_8 l0_9 l0_10)) else (spec_SegmentOk.j0 k true a0_0 a0_1 a0_2 a0_3 a0_4 a0_5 a0_6 a0_7 a0_8 l0_9 l0_10))) else (spec_SegmentOk.j0 k true a0_0 a0_1 a0_2 a0_3 a0_4 a0_5 a0_6 a0_7 a0_8 l0_9 l0_10))) else (spec_SegmentOk.j0 k true a0_0 a0_1 a0_2 a0_3 a0_4 a0_5 a0_6 a0_7 a0_8 l0_9 l0_10)) = some r := H
  have A8 := mk_ A80
  clear A80
  by_cases c9 : t119 = true
  rotate_left
  ·replace c9 := Bool.eq_false_iff.mpr c9
   subst c9
   have H1 : (spec_SegmentOk.j0 k true a0_0 a0_1 a0_2 a0_3 a0_4 a0_5 a0_6 a0_7 a0_8 l0_9 l0_10) = some r := by rw [if_neg (show ¬ (false = true) by decide)] at H; exact H
   clear H
   have H := H1
   clear H1
   have H' := mk_ H
   clear H
   obtain ⟨hcz19_0, hcz19_1, hcz19_2, hcz19_3, hcz19_4, hcz19_5, hcz19_6, hcz19_7, hcz19_8, hcz19_9, hcz19_10, hfz19_0, hfz19_1, hfz19_2, hfz19_3, hfz19_4, hfz19_5, hfz19_6, hfz19_7, hfz19_8, hfz19_9, hfz19_10⟩ := cells11_ BK116.out
   go_wp2_with (first | ((with_reducible refine gate_callee (f := 29) rfl ?_); have hA_ := A4.out; refine goesL_ (some 6) rfl rfl Try.func29 (by kernel_rfl) rfl #[.int .i64 a0_0, .int .i64 1, .int .i64 255] rfl (by (try simp only [lm_, lo_, ln_]); first | done | rfl | (simp only [List.length_drop, List.length_take]; rfl)) ?_; (with_reducible refine (spec_l1In.calls a0_0 1 255 true _ A4.out).mono ?_); rintro e w' ⟨rfl, ⟨nd, rfl⟩⟩; refine ⟨_, rfl, ?_⟩; clear hA_ A4) | (go_at_call 29; have hA_ := A6.out; (with_reducible refine (spec_l1In.calls a0_1 1 255 true _ A6.out).mono ?_); rintro e w' ⟨rfl, ⟨nd, rfl⟩⟩; clear hA_ A6) | (go_at_call 29; have hA_ := A8.out; (with_reducible refine (spec_l1In.calls a0_2 0 65535 false _ A8.out).mono ?_); rintro e w' ⟨rfl, ⟨nd, rfl⟩⟩; clear hA_ A8))
   go_meet
   case rel => exact ⟨_, (true), (by first | rfl | (simp; done) | (simp [*]; done)), H', ⟨by first | omega | exact Nat.le_refl _⟩, ⟨u_ BK116.out⟩, ⟨us_ HB.out⟩⟩
  subst c9
  have H1 : ((spec_l1In.f a0_3 0 65535).bind fun t120 => (if t120 = true then ((spec_l1In.f a0_4 0 255).bind fun t121 => (if t121 = true then (if (l0_9.length : Int) > 2 then (spec_SegmentOk.j0 k true a0_0 a0_1 a0_2 a0_3 a0_4 a0_5 a0_6 a0_7 a0_8 l0_9 l0_10) else (spec_SegmentOk.j0 k (decide ((l0_10.length : Int) > 12)) a0_0 a0_1 a0_2 a0_3 a0_4 a0_5 a0_6 a0_7 a0_8 l0_9 l0_10)) else (spec_SegmentOk.j0 k true a0_0 a0_1 a0_2 a0_3 a0_4 a0_5 a0_6 a0_7 a0_8 l0_9 l0_10))) else (spec_SegmentOk.j0 k true a0_0 a0_1 a0_2 a0_3 a0_4 a0_5 a0_6 a0_7 a0_8 l0_9 l0_10))) = some r := by rw [if_pos rfl] at H; exact H
  clear H
  have H := H1
  clear H1
  replace H := Option.bind_eq_some_iff.mp H
  obtain ⟨t120, A100, H⟩ := H
  replace H : (if t120 = true then ((spec_l1In.f a0_4 0 255).bind fun t121 => (if t121 = true then (if (l0_9.length : Int) > 2 then (spec_SegmentOk.j0 k true a0_0 a0_1 a0_2 a0_3 a0_4 a0_5 a0_6 a0_7 a0_8 l0_9 l0_10) else (spec_SegmentOk.j0 k (decide ((l0_10.length : Int) > 12)) a0_0 a0_1 a0_2 a0_3 a0_4 a0_5 a0_6 a0_7 a0_8 l0_9 l0_10)) else (spec_SegmentOk.j0 k true a0_0 a0_1 a0_2 a0_3 a0_4 a0_5 a0_6 a0_7 a0_8 l0_9 l0_10))) else (spec_SegmentOk.j0 k true a0_0 a0_1 a0_2 a0_3 a0_4 a0_5 a0_6 a0_7 a0_8 l0_9 l0_10)) = some r := H
  have A10 := mk_ A100
  clear A100
  by_cases c11 : t120 = true
  rotate_left
  ·replace c11 := Bool.eq_false_iff.mpr c11
   subst c11
   have H1 : (spec_SegmentOk.j0 k true a0_0 a0_1 a0_2 a0_3 a0_4 a0_5 a0_6 a0_7 a0_8 l0_9 l0_10) = some r := by rw [if_neg (show ¬ (false = true) by decide)] at H; exact H
   clear H
   have H := H1
   clear H1
   have H' := mk_ H
   clear H
   obtain ⟨hcz18_0, hcz18_1, hcz18_2, hcz18_3, hcz18_4, hcz18_5, hcz18_6, hcz18_7, hcz18_8, hcz18_9, hcz18_10, hfz18_0, hfz18_1, hfz18_2, hfz18_3, hfz18_4, hfz18_5, hfz18_6, hfz18_7, hfz18_8, hfz18_9, hfz18_10⟩ := cells11_ BK116.out
   go_wp2_with (first | ((with_reducible refine gate_callee (f := 29) rfl ?_); have hA_ := A4.out; refine goesL_ (some 6) rfl rfl Try.func29 (by kernel_rfl) rfl #[.int .i64 a0_0, .int .i64 1, .int .i64 255] rfl (by (try simp only [lm_, lo_, ln_]); first | done | rfl | (simp only [List.length_drop, List.length_take]; rfl)) ?_; (with_reducible refine (spec_l1In.calls a0_0 1 255 true _ A4.out).mono ?_); rintro e w' ⟨rfl, ⟨nd, rfl⟩⟩; refine ⟨_, rfl, ?_⟩; clear hA_ A4) | (go_at_call 29; have hA_ := A6.out; (with_reducible refine (spec_l1In.calls a0_1 1 255 true _ A6.out).mono ?_); rintro e w' ⟨rfl, ⟨nd, rfl⟩⟩; clear hA_ A6) | (go_at_call 29; have hA_ := A8.out; (with_reducible refine (spec_l1In.calls a0_2 0 65535 true _ A8.out).mono ?_); rintro e w' ⟨rfl, ⟨nd, rfl⟩⟩; clear hA_ A8) | (go_at_call 29; have hA_ := A10.out; (with_reducible refine (spec_l1In.calls a0_3 0 65535 false _ A10.out).mono ?_); rintro e w' ⟨rfl, ⟨nd, rfl⟩⟩; clear hA_ A10))
   go_meet
   case rel => exact ⟨_, (true), (by first | rfl | (simp; done) | (simp [*]; done)), H', ⟨by first | omega | exact Nat.le_refl _⟩, ⟨u_ BK116.out⟩, ⟨us_ HB.out⟩⟩
  subst c11
  have H1 : ((spec_l1In.f a0_4 0 255).bind fun t121 => (if t121 = true then (if (l0_9.length : Int) > 2 then (spec_SegmentOk.j0 k true a0_0 a0_1 a0_2 a0_3 a0_4 a0_5 a0_6 a0_7 a0_8 l0_9 l0_10) else (spec_SegmentOk.j0 k (decide ((l0_10.length : Int) > 12)) a0_0 a0_1 a0_2 a0_3 a0_4 a0_5 a0_6 a0_7 a0_8 l0_9 l0_10)) else (spec_SegmentOk.j0 k true a0_0 a0_1 a0_2 a0_3 a0_4 a0_5 a0_6 a0_7 a0_8 l0_9 l0_10))) = some r := by rw [if_pos rfl] at H; exact H
  clear H
  have H := H1
  clear H1
  replace H := Option.bind_eq_some_iff.mp H
  obtain ⟨t121, A120, H⟩ := H
  replace H : (if t121 = true then (if (l0_9.length : Int) > 2 then (spec_SegmentOk.j0 k true a0_0 a0_1 a0_2 a0_3 a0_4 a0_5 a0_6 a0_7 a0_8 l0_9 l0_10) else (spec_SegmentOk.j0 k (decide ((l0_10.length : Int) > 12)) a0_0 a0_1 a0_2 a0_3 a0_4 a0_5 a0_6 a0_7 a0_8 l0_9 l0_10)) else (spec_SegmentOk.j0 k true a0_0 a0_1 a0_2 a0_3 a0_4 a0_5 a0_6 a0_7 a0_8 l0_9 l0_10)) = some r := H
  have A12 := mk_ A120
  clear A120
  by_cases c13 : t121 = true
  rotate_left
  ·replace c13 := Bool.eq_false_iff.mpr c13
   subst c13
   have H1 : (spec_SegmentOk.j0 k true a0_0 a0_1 a0_2 a0_3 a0_4 a0_5 a0_6 a0_7 a0_8 l0_9 l0_10) = some r := by rw [if_neg (show ¬ (false = true) by decide)] at H; exact H
   clear H
   have H := H1
   clear H1
   have H' := mk_ H
   clear H
   obtain ⟨hcz17_0, hcz17_1, hcz17_2, hcz17_3, hcz17_4, hcz17_5, hcz17_6, hcz17_7, hcz17_8, hcz17_9, hcz17_10, hfz17_0, hfz17_1, hfz17_2, hfz17_3, hfz17_4, hfz17_5, hfz17_6, hfz17_7, hfz17_8, hfz17_9, hfz17_10⟩ := cells11_ BK116.out
   go_wp2_with (first | ((with_reducible refine gate_callee (f := 29) rfl ?_); have hA_ := A4.out; refine goesL_ (some 6) rfl rfl Try.func29 (by kernel_rfl) rfl #[.int .i64 a0_0, .int .i64 1, .int .i64 255] rfl (by (try simp only [lm_, lo_, ln_]); first | done | rfl | (simp only [List.length_drop, List.length_take]; rfl)) ?_; (with_reducible refine (spec_l1In.calls a0_0 1 255 true _ A4.out).mono ?_); rintro e w' ⟨rfl, ⟨nd, rfl⟩⟩; refine ⟨_, rfl, ?_⟩; clear hA_ A4) | (go_at_call 29; have hA_ := A6.out; (with_reducible refine (spec_l1In.calls a0_1 1 255 true _ A6.out).mono ?_); rintro e w' ⟨rfl, ⟨nd, rfl⟩⟩; clear hA_ A6) | (go_at_call 29; have hA_ := A8.out; (with_reducible refine (spec_l1In.calls a0_2 0 65535 true _ A8.out).mono ?_); rintro e w' ⟨rfl, ⟨nd, rfl⟩⟩; clear hA_ A8) | (go_at_call 29; have hA_ := A10.out; (with_reducible refine (spec_l1In.calls a0_3 0 65535 true _ A10.out).mono ?_); rintro e w' ⟨rfl, ⟨nd, rfl⟩⟩; clear hA_ A10) | (go_at_call 29; have hA_ := A12.out; (with_reducible refine (spec_l1In.calls a0_4 0 255 false _ A12.out).mono ?_); rintro e w' ⟨rfl, ⟨nd, rfl⟩⟩; clear hA_ A12))
   go_meet
   case rel => exact ⟨_, (true), (by first | rfl | (simp; done) | (simp [*]; done)), H', ⟨by first | omega | exact Nat.le_refl _⟩, ⟨u_ BK116.out⟩, ⟨us_ HB.out⟩⟩
  subst c13
  have H1 : (if (l0_9.length : Int) > 2 then (spec_SegmentOk.j0 k true a0_0 a0_1 a0_2 a0_3 a0_4 a0_5 a0_6 a0_7 a0_8 l0_9 l0_10) else (spec_SegmentOk.j0 k (decide ((l0_10.length : Int) > 12)) a0_0 a0_1 a0_2 a0_3 a0_4 a0_5 a0_6 a0_7 a0_8 l0_9 l0_10)) = some r := by rw [if_pos rfl] at H; exact H
  clear H
  have H := H1
  clear H1
  by_cases c14 : (l0_9.length : Int) > 2
  ·rw [if_pos c14] at H
   have c14b0 : decide (2 < (l0_9.length : Int)) = true := decide_eq_true c14
   have c14b1 : decide (2 < l0_9.length) = true := decide_eq_true (by omega)
   clear c14
   (first | rw [c14b0] | (simp only [i64_w, i32_w]; rw [c14b0]) | skip)
   have H' := mk_ H
   clear H
   obtain ⟨hcz15_0, hcz15_1, hcz15_2, hcz15_3, hcz15_4, hcz15_5, hcz15_6, hcz15_7, hcz15_8, hcz15_9, hcz15_10, hfz15_0, hfz15_1, hfz15_2, hfz15_3, hfz15_4, hfz15_5, hfz15_6, hfz15_7, hfz15_8, hfz15_9, hfz15_10⟩ := cells11_ BK116.out
   go_wp2_with (first | ((with_reducible refine gate_callee (f := 29) rfl ?_); have hA_ := A4.out; refine goesL_ (some 6) rfl rfl Try.func29 (by kernel_rfl) rfl #[.int .i64 a0_0, .int .i64 1, .int .i64 255] rfl (by (try simp only [lm_, lo_, ln_]); first | done | rfl | (simp only [List.length_drop, List.length_take]; rfl)) ?_; (with_reducible refine (spec_l1In.calls a0_0 1 255 true _ A4.out).mono ?_); rintro e w' ⟨rfl, ⟨nd, rfl⟩⟩; refine ⟨_, rfl, ?_⟩; clear hA_ A4) | (go_at_call 29; have hA_ := A6.out; (with_reducible refine (spec_l1In.calls a0_1 1 255 true _ A6.out).mono ?_); rintro e w' ⟨rfl, ⟨nd, rfl⟩⟩; clear hA_ A6) | (go_at_call 29; have hA_ := A8.out; (with_reducible refine (spec_l1In.calls a0_2 0 65535 true _ A8.out).mono ?_); rintro e w' ⟨rfl, ⟨nd, rfl⟩⟩; clear hA_ A8) | (go_at_call 29; have hA_ := A10.out; (with_reducible refine (spec_l1In.calls a0_3 0 65535 true _ A10.out).mono ?_); rintro e w' ⟨rfl, ⟨nd, rfl⟩⟩; clear hA_ A10) | (go_at_call 29; have hA_ := A12.out; (with_reducible refine (spec_l1In.calls a0_4 0 255 true _ A12.out).mono ?_); rintro e w' ⟨rfl, ⟨nd, rfl⟩⟩; clear hA_ A12))
   go_meet
   case rel => exact ⟨_, (true), (by first | rfl | (simp; done) | (simp [*]; done)), H', ⟨by first | omega | exact Nat.le_refl _⟩, ⟨u_ BK116.out⟩, ⟨us_ HB.out⟩⟩
  rw [if_neg c14] at H
  have c14b0 : decide (2 < (l0_9.length : Int)) = false := decide_eq_false c14
  have c14b1 : decide (2 < l0_9.length) = false := decide_eq_false (by omega)
  clear c14
  (first | rw [c14b0] | (simp only [i64_w, i32_w]; rw [c14b0]) | skip)
  have H' := mk_ H
  clear H
  obtain ⟨hcz16_0, hcz16_1, hcz16_2, hcz16_3, hcz16_4, hcz16_5, hcz16_6, hcz16_7, hcz16_8, hcz16_9, hcz16_10, hfz16_0, hfz16_1, hfz16_2, hfz16_3, hfz16_4, hfz16_5, hfz16_6, hfz16_7, hfz16_8, hfz16_9, hfz16_10⟩ := cells11_ BK116.out
  go_wp2_with (first | ((with_reducible refine gate_callee (f := 29) rfl ?_); have hA_ := A4.out; refine goesL_ (some 6) rfl rfl Try.func29 (by kernel_rfl) rfl #[.int .i64 a0_0, .int .i64 1, .int .i64 255] rfl (by (try simp only [lm_, lo_, ln_]); first | done | rfl | (simp only [List.length_drop, List.length_take]; rfl)) ?_; (with_reducible refine (spec_l1In.calls a0_0 1 255 true _ A4.out).mono ?_); rintro e w' ⟨rfl, ⟨nd, rfl⟩⟩; refine ⟨_, rfl, ?_⟩; clear hA_ A4) | (go_at_call 29; have hA_ := A6.out; (with_reducible refine (spec_l1In.calls a0_1 1 255 true _ A6.out).mono ?_); rintro e w' ⟨rfl, ⟨nd, rfl⟩⟩; clear hA_ A6) | (go_at_call 29; have hA_ := A8.out; (with_reducible refine (spec_l1In.calls a0_2 0 65535 true _ A8.out).mono ?_); rintro e w' ⟨rfl, ⟨nd, rfl⟩⟩; clear hA_ A8) | (go_at_call 29; have hA_ := A10.out; (with_reducible refine (spec_l1In.calls a0_3 0 65535 true _ A10.out).mono ?_); rintro e w' ⟨rfl, ⟨nd, rfl⟩⟩; clear hA_ A10) | (go_at_call 29; have hA_ := A12.out; (with_reducible refine (spec_l1In.calls a0_4 0 255 true _ A12.out).mono ?_); rintro e w' ⟨rfl, ⟨nd, rfl⟩⟩; clear hA_ A12))
  go_meet
  case rel => exact ⟨_, (decide ((l0_10.length : Int) > 12)), (by first | rfl | (simp; done) | (simp [*]; done)), H', ⟨by first | omega | exact Nat.le_refl _⟩, ⟨u_ BK116.out⟩, ⟨us_ HB.out⟩⟩
 case rest =>
  clear HC2
  try clear c1
  try clear c2
  try clear p2
  try clear c5
  try clear c7
  try clear c9
  try clear c11
  try clear c13
  try clear c14
  try clear c14b0
  try clear c14b1
  try clear hcz15_0
  try clear hcz15_1
  try clear hcz15_10
  try clear hcz15_2
  try clear hcz15_3
  try clear hcz15_4
  try clear hcz15_5
  try clear hcz15_6
  try clear hcz15_7
  try clear hcz15_8
  try clear hcz15_9
  try clear hcz16_0
  try clear hcz16_1
  try clear hcz16_10
  try clear hcz16_2
  try clear hcz16_3
  try clear hcz16_4
  try clear hcz16_5
  try clear hcz16_6
  try clear hcz16_7
  try clear hcz16_8
  try clear hcz16_9
  try clear hcz17_0
  try clear hcz17_1
  try clear hcz17_10
  try clear hcz17_2
  try clear hcz17_3
  try clear hcz17_4
  try clear hcz17_5
  try clear hcz17_6
  try clear hcz17_7
  try clear hcz17_8
  try clear hcz17_9
  try clear hcz18_0
  try clear hcz18_1
  try clear hcz18_10
  try clear hcz18_2
  try clear hcz18_3
  try clear hcz18_4
  try clear hcz18_5
  try clear hcz18_6
  try clear hcz18_7
  try clear hcz18_8
  try clear hcz18_9
  try clear hcz19_0
  try clear hcz19_1
  try clear hcz19_10
  try clear hcz19_2
  try clear hcz19_3
  try clear hcz19_4
  try clear hcz19_5
  try clear hcz19_6
  try clear hcz19_7
  try clear hcz19_8
  try clear hcz19_9
  try clear hcz20_0
  try clear hcz20_1
  try clear hcz20_10
  try clear hcz20_2
  try clear hcz20_3
  try clear hcz20_4
  try clear hcz20_5
  try clear hcz20_6
  try clear hcz20_7
  try clear hcz20_8
  try clear hcz20_9
  try clear hcz21_0
  try clear hcz21_1
  try clear hcz21_10
  try clear hcz21_2
  try clear hcz21_3
  try clear hcz21_4
  try clear hcz21_5
  try clear hcz21_6
  try clear hcz21_7
  try clear hcz21_8
  try clear hcz21_9
  try clear hfz15_0
  try clear hfz15_1
  try clear hfz15_10
  try clear hfz15_2
  try clear hfz15_3
  try clear hfz15_4
  try clear hfz15_5
  try clear hfz15_6
  try clear hfz15_7
  try clear hfz15_8
  try clear hfz15_9
  try clear hfz16_0
  try clear hfz16_1
  try clear hfz16_10
  try clear hfz16_2
  try clear hfz16_3
  try clear hfz16_4
  try clear hfz16_5
  try clear hfz16_6
  try clear hfz16_7
  try clear hfz16_8
  try clear hfz16_9
  try clear hfz17_0
  try clear hfz17_1
  try clear hfz17_10
  try clear hfz17_2
  try clear hfz17_3
  try clear hfz17_4
  try clear hfz17_5
  try clear hfz17_6
  try clear hfz17_7
  try clear hfz17_8
  try clear hfz17_9
  try clear hfz18_0
  try clear hfz18_1
  try clear hfz18_10
  try clear hfz18_2
  try clear hfz18_3
  try clear hfz18_4
  try clear hfz18_5
  try clear hfz18_6
  try clear hfz18_7
  try clear hfz18_8
  try clear hfz18_9
  try clear hfz19_0
  try clear hfz19_1
  try clear hfz19_10
  try clear hfz19_2
  try clear hfz19_3
  try clear hfz19_4
  try clear hfz19_5
  try clear hfz19_6
  try clear hfz19_7
  try clear hfz19_8
  try clear hfz19_9
  try clear hfz20_0
  try clear hfz20_1
  try clear hfz20_10
  try clear hfz20_2
  try clear hfz20_3
  try clear hfz20_4
  try clear hfz20_5
  try clear hfz20_6
  try clear hfz20_7
  try clear hfz20_8
  try clear hfz20_9
  try clear hfz21_0
  try clear hfz21_1
  try clear hfz21_10
  try clear hfz21_2
  try clear hfz21_3
  try clear hfz21_4
  try clear hfz21_5
  try clear hfz21_6
  try clear hfz21_7
  try clear hfz21_8
  try clear hfz21_9
  obtain ⟨kq, x43_1, rfl, HA, HJ1, BK116, HB⟩ := hcut
  cases kq with
  | zero => exact absurd HA.out (by simp [spec_SegmentOk.j0])
  | succ kj1 =>
   have H := HA.out
   clear HA
   simp only [spec_SegmentOk.j0] at H
   by_cases c22 : x43_1 = true
   ·subst c22
    have H1 : (some false) = some r := by rw [if_pos rfl] at H; exact H
    clear H
    have H := H1
    clear H1
    obtain rfl := Option.some.inj H
    go_wp2
    go_ret
    exact ⟨by first | rfl | (simp [errW_none, errW_some] <;> rfl) | (simp [*, errW_none, errW_some] <;> rfl), us_ HB.out⟩
   replace c22 := Bool.eq_false_iff.mpr c22
   subst c22
   have H1 : (spec_SegmentOk.l0 kj1 0 a0_0 a0_1 a0_2 a0_3 a0_4 a0_5 a0_6 a0_7 a0_8 l0_9 l0_10) = some r := by rw [if_neg (show ¬ (false = true) by decide)] at H; exact H
   clear H
   have H := H1
   clear H1
   have H' := mk_ H
   clear H
   go_wp2
   go_loopg [3] kj1 (fun kq v3 w' => ∃ (x3_2 : Int), v3 = .int .i64 x3_2 ∧ Aside0 (spec_SegmentOk.l0 kq x3_2 a0_0 a0_1 a0_2 a0_3 a0_4 a0_5 a0_6 a0_7 a0_8 l0_9 l0_10 = some r) ∧ Aside0 (kq ≤ kj1) ∧ Aside0 (w'.heap[gb116]? = some (.cells #[.int .i64 a0_0, .int .i64 a0_1, .int .i64 a0_2, .int .i64 a0_3, .int .i64 a0_4, .bool a0_5, .bool a0_6, .bool a0_7, .bool a0_8, (.slice A0_9 l0_9.length c0_9), (.slice A0_10 l0_10.length c0_10)] 48 (0, 0))) ∧ Aside0 (Below w.heap.size w w'))
   case atStart => exact ⟨(0), (by first | rfl | (simp; done) | (simp [*]; done)), H', ⟨Nat.le_refl _⟩, ⟨u_ BK116.out⟩, ⟨us_ HB.out⟩⟩
   case round =>
    clear H'
    try clear c1
    try clear c2
    try clear p2
    try clear c5
    try clear c7
    try clear c9
    try clear c11
    try clear c13
    try clear c14
    try clear c14b0
    try clear c14b1
    try clear c22
    try clear hcz15_0
    try clear hcz15_1
    try clear hcz15_10
    try clear hcz15_2
    try clear hcz15_3
    try clear hcz15_4
    try clear hcz15_5
    try clear hcz15_6
    try clear hcz15_7
    try clear hcz15_8
    try clear hcz15_9
    try clear hcz16_0
    try clear hcz16_1
    try clear hcz16_10
    try clear hcz16_2
    try clear hcz16_3
    try clear hcz16_4
    try clear hcz16_5
    try clear hcz16_6
    try clear hcz16_7
    try clear hcz16_8
    try clear hcz16_9
    try clear hcz17_0
    try clear hcz17_1
    try clear hcz17_10
    try clear hcz17_2
    try clear hcz17_3
    try clear hcz17_4
    try clear hcz17_5
    try clear hcz17_6
    try clear hcz17_7
    try clear hcz17_8
    try clear hcz17_9
    try clear hcz18_0
    try clear hcz18_1
    try clear hcz18_10
    try clear hcz18_2
    try clear hcz18_3
    try clear hcz18_4
    try clear hcz18_5
    try clear hcz18_6
    try clear hcz18_7
    try clear hcz18_8
    try clear hcz18_9
    try clear hcz19_0
    try clear hcz19_1
    try clear hcz19_10
    try clear hcz19_2
    try clear hcz19_3
    try clear hcz19_4
    try clear hcz19_5
    try clear hcz19_6
    try clear hcz19_7
    try clear hcz19_8
    try clear hcz19_9
    try clear hcz20_0
    try clear hcz20_1
    try clear hcz20_10
    try clear hcz20_2
    try clear hcz20_3
    try clear hcz20_4
    try clear hcz20_5
    try clear hcz20_6
    try clear hcz20_7
    try clear hcz20_8
    try clear hcz20_9
    try clear hcz21_0
    try clear hcz21_1
    try clear hcz21_10
    try clear hcz21_2
    try clear hcz21_3
    try clear hcz21_4
    try clear hcz21_5
    try clear hcz21_6
    try clear hcz21_7
    try clear hcz21_8
    try clear hcz21_9
    try clear hfz15_0
    try clear hfz15_1
    try clear hfz15_10
    try clear hfz15_2
    try clear hfz15_3
    try clear hfz15_4
    try clear hfz15_5
    try clear hfz15_6
    try clear hfz15_7
    try clear hfz15_8
    try clear hfz15_9
    try clear hfz16_0
    try clear hfz16_1
    try clear hfz16_10
    try clear hfz16_2
    try clear hfz16_3
    try clear hfz16_4
    try clear hfz16_5
    try clear hfz16_6
    try clear hfz16_7
    try clear hfz16_8
    try clear hfz16_9
    try clear hfz17_0
    try clear hfz17_1
    try clear hfz17_10
    try clear hfz17_2
    try clear hfz17_3
    try clear hfz17_4
    try clear hfz17_5
    try clear hfz17_6
    try clear hfz17_7
    try clear hfz17_8
    try clear hfz17_9
    try clear hfz18_0
    try clear hfz18_1
    try clear hfz18_10
    try clear hfz18_2
    try clear hfz18_3
    try clear hfz18_4
    try clear hfz18_5
    try clear hfz18_6
    try clear hfz18_7
    try clear hfz18_8
    try clear hfz18_9
    try clear hfz19_0
    try clear hfz19_1
    try clear hfz19_10
    try clear hfz19_2
    try clear hfz19_3
    try clear hfz19_4
    try clear hfz19_5
    try clear hfz19_6
    try clear hfz19_7
    try clear hfz19_8
    try clear hfz19_9
    try clear hfz20_0
    try clear hfz20_1
    try clear hfz20_10
    try clear hfz20_2
    try clear hfz20_3
    try clear hfz20_4
    try clear hfz20_5
    try clear hfz20_6
    try clear hfz20_7
    try clear hfz20_8
    try clear hfz20_9
    try clear hfz21_0
    try clear hfz21_1
    try clear hfz21_10
    try clear hfz21_2
    try clear hfz21_3
    try clear hfz21_4
    try clear hfz21_5
    try clear hfz21_6
    try clear hfz21_7
    try clear hfz21_8
    try clear hfz21_9
    try clear p2
    obtain ⟨x3_2, rfl, HA, HK2, BK116, HB⟩ := hrel
    cases gk with
    | zero => exact absurd HA.out (by simp [spec_SegmentOk.l0])
    | succ k2 =>
     have H := HA.out
     clear HA
     simp only [spec_SegmentOk.l0] at H
     by_cases c23 : x3_2 < (l0_9.length : Int)
     ·rw [if_pos c23] at H
      have c23b0 : decide (x3_2 < (l0_9.length : Int)) = true := decide_eq_true c23
      clear c23
      by_cases c24 : 0 ≤ x3_2
      rotate_left
      ·rw [if_neg c24] at H
       exact absurd H (by simp)
      rw [if_pos c24] at H
      have c24b0 : decide (0 ≤ x3_2) = true := decide_eq_true c24
      clear c24
      replace H := Option.bind_eq_some_iff.mp H
      obtain ⟨t123, A250, H⟩ := H
      replace H : (if t123 = true then ((spec_l1In.f ((rd_T87 l0_9 x3_2).f1) 0 65535).bind fun t125 => (if t125 = true then (spec_SegmentOk.l0 k2 (wrap64 (x3_2 + 1)) a0_0 a0_1 a0_2 a0_3 a0_4 a0_5 a0_6 a0_7 a0_8 l0_9 l0_10) else (some false))) else (some false)) = some r := H
      have A25 := mk_ A250
      clear A250
      by_cases c26 : t123 = true
      rotate_left
      ·replace c26 := Bool.eq_false_iff.mpr c26
       subst c26
       have H1 : (some false) = some r := by rw [if_neg (show ¬ (false = true) by decide)] at H; exact H
       clear H
       have H := H1
       clear H1
       obtain rfl := Option.some.inj H
       obtain ⟨hcz31_0, hcz31_1, hcz31_2, hcz31_3, hcz31_4, hcz31_5, hcz31_6, hcz31_7, hcz31_8, hcz31_9, hcz31_10, hfz31_0, hfz31_1, hfz31_2, hfz31_3, hfz31_4, hfz31_5, hfz31_6, hfz31_7, hfz31_8, hfz31_9, hfz31_10⟩ := cells11_ BK116.out
       have p122 : 0 ≤ (x3_2 : Int) := of_decide_eq_true (by first | (with_reducible assumption) | assumption)
       have q122 : x3_2 < (l0_9.length : Int) := of_decide_eq_true (by first | (with_reducible assumption) | assumption)
       obtain ⟨ad122, e122, hx122_0, hx122_1⟩ := at_T87 HR0_9.out x3_2 p122 q122
       cases e122
       replace hx122_0 := (HB.out.cell (lc_ w _ hx122_0)).trans hx122_0
       replace hx122_1 := (HB.out.cell (lc_ w _ hx122_1)).trans hx122_1
       replace p122 := eq_true p122
       replace q122 := eq_true q122
       go_wp2_with (first | ((with_reducible refine gate_callee (f := 29) rfl ?_); refine goesL_ (some 57) rfl rfl Try.func29 (by kernel_rfl) rfl #[.int .i64 ((rd_T87 l0_9 x3_2).f0), .int .i64 0, .int .i64 65535] rfl (by (try simp only [lm_, lo_, ln_]); first | done | rfl | (simp only [List.length_drop, List.length_take]; rfl)) ?_; (with_reducible refine (spec_l1In.calls ((rd_T87 l0_9 x3_2).f0) 0 65535 false _ A25.out).mono ?_); rintro e w' ⟨rfl, ⟨nd, rfl⟩⟩; refine ⟨_, rfl, ?_⟩))
       go_ret
       exact ⟨by first | rfl | (simp [errW_none, errW_some] <;> rfl) | (simp [*, errW_none, errW_some] <;> rfl), us_ HB.out⟩
      subst c26
      have H1 : ((spec_l1In.f ((rd_T87 l0_9 x3_2).f1) 0 65535).bind fun t125 => (if t125 = true then (spec_SegmentOk.l0 k2 (wrap64 (x3_2 + 1)) a0_0 a0_1 a0_2 a0_3 a0_4 a0_5 a0_6 a0_7 a0_8 l0_9 l0_10) else (some false))) = some r := by rw [if_pos rfl] at H; exact H
      clear H
      have H := H1
      clear H1
      replace H := Option.bind_eq_some_iff.mp H
      obtain ⟨t125, A270, H⟩ := H
      replace H : (if t125 = true then (spec_SegmentOk.l0 k2 (wrap64 (x3_2 + 1)) a0_0 a0_1 a0_2 a0_3 a0_4 a0_5 a0_6 a0_7 a0_8 l0_9 l0_10) else (some false)) = some r := H
      have A27 := mk_ A270
      clear A270
      by_cases c28 : t125 = true
      rotate_left
      ·replace c28 := Bool.eq_false_iff.mpr c28
       subst c28
       have H1 : (some false) = some r := by rw [if_neg (show ¬ (false = true) by decide)] at H; exact H
       clear H
       have H := H1
       clear H1
       obtain rfl := Option.some.inj H
       obtain ⟨hcz30_0, hcz30_1, hcz30_2, hcz30_3, hcz30_4, hcz30_5, hcz30_6, hcz30_7, hcz30_8, hcz30_9, hcz30_10, hfz30_0, hfz30_1, hfz30_2, hfz30_3, hfz30_4, hfz30_5, hfz30_6, hfz30_7, hfz30_8, hfz30_9, hfz30_10⟩ := cells11_ BK116.out
       have p122 : 0 ≤ (x3_2 : Int) := of_decide_eq_true (by first | (with_reducible assumption) | assumption)
       have q122 : x3_2 < (l0_9.length : Int) := of_decide_eq_true (by first | (with_reducible assumption) | assumption)
       obtain ⟨ad122, e122, hx122_0, hx122_1⟩ := at_T87 HR0_9.out x3_2 p122 q122
       cases e122
       replace hx122_0 := (HB.out.cell (lc_ w _ hx122_0)).trans hx122_0
       replace hx122_1 := (HB.out.cell (lc_ w _ hx122_1)).trans hx122_1
       replace p122 := eq_true p122
       replace q122 := eq_true q122
       go_wp2_with (first | ((with_reducible refine gate_callee (f := 29) rfl ?_); have hA_ := A25.out; refine goesL_ (some 57) rfl rfl Try.func29 (by kernel_rfl) rfl #[.int .i64 ((rd_T87 l0_9 x3_2).f0), .int .i64 0, .int .i64 65535] rfl (by (try simp only [lm_, lo_, ln_]); first | done | rfl | (simp only [List.length_drop, List.length_take]; rfl)) ?_; (with_reducible refine (spec_l1In.calls ((rd_T87 l0_9 x3_2).f0) 0 65535 true _ A25.out).mono ?_); rintro e w' ⟨rfl, ⟨nd, rfl⟩⟩; refine ⟨_, rfl, ?_⟩; have p124 : 0 ≤ (x3_2 : Int) := of_decide_eq_true (by first | (with_reducible assumption) | assumption); have q124 : x3_2 < (l0_9.length : Int) := of_decide_eq_true (by first | (with_reducible assumption) | assumption); obtain ⟨ad124, e124, hx124_0, hx124_1⟩ := at_T87 HR0_9.out x3_2 p124 q124; obtain rfl : ad122 = ad124 := (by injection e124); replace hx124_0 := (HB.out.cell (lc_ w _ hx124_0)).trans hx124_0; replace hx124_1 := (HB.out.cell (lc_ w _ hx124_1)).trans hx124_1; replace p124 := eq_true p124; replace q124 := eq_true q124; clear hA_ A25) | (go_at_call 29; have hA_ := A27.out; (with_reducible refine (spec_l1In.calls ((rd_T87 l0_9 x3_2).f1) 0 65535 false _ A27.out).mono ?_); rintro e w' ⟨rfl, ⟨nd, rfl⟩⟩; clear hA_ A27))
       go_ret
       exact ⟨by first | rfl | (simp [errW_none, errW_some] <;> rfl) | (simp [*, errW_none, errW_some] <;> rfl), us_ HB.out⟩
      subst c28
      have H1 : (spec_SegmentOk.l0 k2 (wrap64 (x3_2 + 1)) a0_0 a0_1 a0_2 a0_3 a0_4 a0_5 a0_6 a0_7 a0_8 l0_9 l0_10) = some r := by rw [if_pos rfl] at H; exact H
      clear H
      have H := H1
      clear H1
      have H' := mk_ H
      clear H
      obtain ⟨hcz29_0, hcz29_1, hcz29_2, hcz29_3, hcz29_4, hcz29_5, hcz29_6, hcz29_7, hcz29_8, hcz29_9, hcz29_10, hfz29_0, hfz29_1, hfz29_2, hfz29_3, hfz29_4, hfz29_5, hfz29_6, hfz29_7, hfz29_8, hfz29_9, hfz29_10⟩ := cells11_ BK116.out
      have p122 : 0 ≤ (x3_2 : Int) := of_decide_eq_true (by first | (with_reducible assumption) | assumption)
      have q122 : x3_2 < (l0_9.length : Int) := of_decide_eq_true (by first | (with_reducible assumption) | assumption)
      obtain ⟨ad122, e122, hx122_0, hx122_1⟩ := at_T87 HR0_9.out x3_2 p122 q122
      cases e122
      replace hx122_0 := (HB.out.cell (lc_ w _ hx122_0)).trans hx122_0
      replace hx122_1 := (HB.out.cell (lc_ w _ hx122_1)).trans hx122_1
      replace p122 := eq_true p122
      replace q122 := eq_true q122
      go_wp2_with (first | ((with_reducible refine gate_callee (f := 29) rfl ?_); have hA_ := A25.out; refine goesL_ (some 57) rfl rfl Try.func29 (by kernel_rfl) rfl #[.int .i64 ((rd_T87 l0_9 x3_2).f0), .int .i64 0, .int .i64 65535] rfl (by (try simp only [lm_, lo_, ln_]); first | done | rfl | (simp only [List.length_drop, List.length_take]; rfl)) ?_; (with_reducible refine (spec_l1In.calls ((rd_T87 l0_9 x3_2).f0) 0 65535 true _ A25.out).mono ?_); rintro e w' ⟨rfl, ⟨nd, rfl⟩⟩; refine ⟨_, rfl, ?_⟩; have p124 : 0 ≤ (x3_2 : Int) := of_decide_eq_true (by first | (with_reducible assumption) | assumption); have q124 : x3_2 < (l0_9.length : Int) := of_decide_eq_true (by first | (with_reducible assumption) | assumption); obtain ⟨ad124, e124, hx124_0, hx124_1⟩ := at_T87 HR0_9.out x3_2 p124 q124; obtain rfl : ad122 = ad124 := (by injection e124); replace hx124_0 := (HB.out.cell (lc_ w _ hx124_0)).trans hx124_0; replace hx124_1 := (HB.out.cell (lc_ w _ hx124_1)).trans hx124_1; replace p124 := eq_true p124; replace q124 := eq_true q124; clear hA_ A25) | (go_at_call 29; have hA_ := A27.out; (with_reducible refine (spec_l1In.calls ((rd_T87 l0_9 x3_2).f1) 0 65535 true _ A27.out).mono ?_); rintro e w' ⟨rfl, ⟨nd, rfl⟩⟩; clear hA_ A27))
      go_roundg k2
      case measure => have := HJ1.out; have := HK2.out; omega
      case rel => exact ⟨(wrap64 (x3_2 + 1)), (by first | rfl | (simp; done) | (simp [*]; done)), H', ⟨by have := HJ1.out; have := HK2.out; omega⟩, ⟨u_ BK116.out⟩, ⟨us_ HB.out⟩⟩
     rw [if_neg c23] at H
     have c23b0 : decide (x3_2 < (l0_9.length : Int)) = false := decide_eq_false c23
     clear c23
     by_cases c32 : a0_6 = true
     ·subst c32
      have H1 : (if a0_8 = true then (if a0_5 = true then (some false) else (if a0_7 = true then (some false) else (some ((l0_10.length : Int) == 0)))) else (some true)) = some r := by rw [if_pos rfl] at H; exact H
      clear H
      have H := H1
      clear H1
      by_cases c33 : a0_8 = true
      rotate_left
      ·replace c33 := Bool.eq_false_iff.mpr c33
       subst c33
       have H1 : (some true) = some r := by rw [if_neg (show ¬ (false = true) by decide)] at H; exact H
       clear H
       have H := H1
       clear H1
       obtain rfl := Option.some.inj H
       obtain ⟨hcz39_0, hcz39_1, hcz39_2, hcz39_3, hcz39_4, hcz39_5, hcz39_6, hcz39_7, hcz39_8, hcz39_9, hcz39_10, hfz39_0, hfz39_1, hfz39_2, hfz39_3, hfz39_4, hfz39_5, hfz39_6, hfz39_7, hfz39_8, hfz39_9, hfz39_10⟩ := cells11_ BK116.out
       go_wp2
       go_ret
       exact ⟨by first | rfl | (simp [errW_none, errW_some] <;> rfl) | (simp [*, errW_none, errW_some] <;> rfl), us_ HB.out⟩
      subst c33
      have H1 : (if a0_5 = true then (some false) else (if a0_7 = true then (some false) else (some ((l0_10.length : Int) == 0)))) = some r := by rw [if_pos rfl] at H; exact H
      clear H
      have H := H1
      clear H1
      by_cases c34 : a0_5 = true
      ·subst c34
       have H1 : (some false) = some r := by rw [if_pos rfl] at H; exact H
       clear H
       have H := H1
       clear H1
       obtain rfl := Option.some.inj H
       obtain ⟨hcz35_0, hcz35_1, hcz35_2, hcz35_3, hcz35_4, hcz35_5, hcz35_6, hcz35_7, hcz35_8, hcz35_9, hcz35_10, hfz35_0, hfz35_1, hfz35_2, hfz35_3, hfz35_4, hfz35_5, hfz35_6, hfz35_7, hfz35_8, hfz35_9, hfz35_10⟩ := cells11_ BK116.out
       go_wp2
       go_ret
       exact ⟨by first | rfl | (simp [errW_none, errW_some] <;> rfl) | (simp [*, errW_none, errW_some] <;> rfl), us_ HB.out⟩
      replace c34 := Bool.eq_false_iff.mpr c34
      subst c34
      have H1 : (if a0_7 = true then (some false) else (some ((l0_10.length : Int) == 0))) = some r := by rw [if_neg (show ¬ (false = true) by decide)] at H; exact H
      clear H
      have H := H1
      clear H1
      by_cases c36 : a0_7 = true
      ·subst c36
       have H1 : (some false) = some r := by rw [if_pos rfl] at H; exact H
       clear H
       have H := H1
       clear H1
       obtain rfl := Option.some.inj H
       obtain ⟨hcz37_0, hcz37_1, hcz37_2, hcz37_3, hcz37_4, hcz37_5, hcz37_6, hcz37_7, hcz37_8, hcz37_9, hcz37_10, hfz37_0, hfz37_1, hfz37_2, hfz37_3, hfz37_4, hfz37_5, hfz37_6, hfz37_7, hfz37_8, hfz37_9, hfz37_10⟩ := cells11_ BK116.out
       go_wp2
       go_ret
       exact ⟨by first | rfl | (simp [errW_none, errW_some] <;> rfl) | (simp [*, errW_none, errW_some] <;> rfl), us_ HB.out⟩
      replace c36 := Bool.eq_false_iff.mpr c36
      subst c36
      have H1 : (some ((l0_10.length : Int) == 0)) = some r := by rw [if_neg (show ¬ (false = true) by decide)] at H; exact H
      clear H
      have H := H1
      clear H1
      obtain rfl := Option.some.inj H
      obtain ⟨hcz38_0, hcz38_1, hcz38_2, hcz38_3, hcz38_4, hcz38_5, hcz38_6, hcz38_7, hcz38_8, hcz38_9, hcz38_10, hfz38_0, hfz38_1, hfz38_2, hfz38_3, hfz38_4, hfz38_5, hfz38_6, hfz38_7, hfz38_8, hfz38_9, hfz38_10⟩ := cells11_ BK116.out
      go_wp2
      go_ret
      exact ⟨by first | rfl | (simp [errW_none, errW_some] <;> rfl) | (simp [*, errW_none, errW_some] <;> rfl), us_ HB.out⟩
     replace c32 := Bool.eq_false_iff.mpr c32
     subst c32
     have H1 : (if a0_3 = 0 then (if a0_4 = 0 then (if (l0_9.length : Int) > 0 then (some false) else (if a0_8 = true then (if a0_5 = true then (some false) else (if a0_7 = true then (some false) else (some ((l0_10.length : Int) == 0)))) else (some true))) else (some false)) else (some false)) = some r := by rw [if_neg (show ¬ (false = true) by decide)] at H; exact H
     clear H
     have H := H1
     clear H1
     by_cases c40 : a0_3 = 0
     rotate_left
     ·rw [if_neg c40] at H
      have c40b0 : (a0_3 == 0) = false := beq_eq_false_iff_ne.mpr c40
      have c40b1 : (a0_3 != 0) = true := bne_iff_ne.mpr c40
      obtain rfl := Option.some.inj H
      obtain ⟨hcz52_0, hcz52_1, hcz52_2, hcz52_3, hcz52_4, hcz52_5, hcz52_6, hcz52_7, hcz52_8, hcz52_9, hcz52_10, hfz52_0, hfz52_1, hfz52_2, hfz52_3, hfz52_4, hfz52_5, hfz52_6, hfz52_7, hfz52_8, hfz52_9, hfz52_10⟩ := cells11_ BK116.out
      go_wp2
      go_ret
      exact ⟨by first | rfl | (simp [errW_none, errW_some] <;> rfl) | (simp [*, errW_none, errW_some] <;> rfl), us_ HB.out⟩
     rw [if_pos c40] at H
     have c40b0 : (a0_3 == 0) = true := beq_iff_eq.mpr c40
     have c40b1 : (a0_3 != 0) = false := bne_eq_false_iff_eq.mpr c40
     clear c40
     by_cases c41 : a0_4 = 0
     rotate_left
     ·rw [if_neg c41] at H
      have c41b0 : (a0_4 == 0) = false := beq_eq_false_iff_ne.mpr c41
      have c41b1 : (a0_4 != 0) = true := bne_iff_ne.mpr c41
      obtain rfl := Option.some.inj H
      obtain ⟨hcz51_0, hcz51_1, hcz51_2, hcz51_3, hcz51_4, hcz51_5, hcz51_6, hcz51_7, hcz51_8, hcz51_9, hcz51_10, hfz51_0, hfz51_1, hfz51_2, hfz51_3, hfz51_4, hfz51_5, hfz51_6, hfz51_7, hfz51_8, hfz51_9, hfz51_10⟩ := cells11_ BK116.out
      go_wp2
      go_ret
      exact ⟨by first | rfl | (simp [errW_none, errW_some] <;> rfl) | (simp [*, errW_none, errW_some] <;> rfl), us_ HB.out⟩
     rw [if_pos c41] at H
     have c41b0 : (a0_4 == 0) = true := beq_iff_eq.mpr c41
     have c41b1 : (a0_4 != 0) = false := bne_eq_false_iff_eq.mpr c41
     clear c41
     by_cases c42 : (l0_9.length : Int) > 0
     ·rw [if_pos c42] at H
      have c42b0 : decide (0 < (l0_9.length : Int)) = true := decide_eq_true c42
      have c42b1 : decide (0 < l0_9.length) = true := decide_eq_true (by omega)
      clear c42
      obtain rfl := Option.some.inj H
      obtain ⟨hcz43_0, hcz43_1, hcz43_2, hcz43_3, hcz43_4, hcz43_5, hcz43_6, hcz43_7, hcz43_8, hcz43_9, hcz43_10, hfz43_0, hfz43_1, hfz43_2, hfz43_3, hfz43_4, hfz43_5, hfz43_6, hfz43_7, hfz43_8, hfz43_9, hfz43_10⟩ := cells11_ BK116.out
      go_wp2
      go_ret
      exact ⟨by first | rfl | (simp [errW_none, errW_some] <;> rfl) | (simp [*, errW_none, errW_some] <;> rfl), us_ HB.out⟩
     rw [if_neg c42] at H
     have c42b0 : decide (0 < (l0_9.length : Int)) = false := decide_eq_false c42
     have c42b1 : decide (0 < l0_9.length) = false := decide_eq_false (by omega)
     clear c42
     by_cases c44 : a0_8 = true
     rotate_left
     ·replace c44 := Bool.eq_false_iff.mpr c44
      subst c44
      have H1 : (some true) = some r := by rw [if_neg (show ¬ (false = true) by decide)] at H; exact H
      clear H
      have H := H1
      clear H1
      obtain rfl := Option.some.inj H
      obtain ⟨hcz50_0, hcz50_1, hcz50_2, hcz50_3, hcz50_4, hcz50_5, hcz50_6, hcz50_7, hcz50_8, hcz50_9, hcz50_10, hfz50_0, hfz50_1, hfz50_2, hfz50_3, hfz50_4, hfz50_5, hfz50_6, hfz50_7, hfz50_8, hfz50_9, hfz50_10⟩ := cells11_ BK116.out
      go_wp2
      go_ret
      exact ⟨by first | rfl | (simp [errW_none, errW_some] <;> rfl) | (simp [*, errW_none, errW_some] <;> rfl), us_ HB.out⟩
     subst c44
     have H1 : (if a0_5 = true then (some false) else (if a0_7 = true then (some false) else (some ((l0_10.length : Int) == 0)))) = some r := by rw [if_pos rfl] at H; exact H
     clear H
     have H := H1
     clear H1
     by_cases c45 : a0_5 = true
     ·subst c45
      have H1 : (some false) = some r := by rw [if_pos rfl] at H; exact H
      clear H
      have H := H1
      clear H1
      obtain rfl := Option.some.inj H
      obtain ⟨hcz46_0, hcz46_1, hcz46_2, hcz46_3, hcz46_4, hcz46_5, hcz46_6, hcz46_7, hcz46_8, hcz46_9, hcz46_10, hfz46_0, hfz46_1, hfz46_2, hfz46_3, hfz46_4, hfz46_5, hfz46_6, hfz46_7, hfz46_8, hfz46_9, hfz46_10⟩ := cells11_ BK116.out
      go_wp2
      go_ret
      exact ⟨by first | rfl | (simp [errW_none, errW_some] <;> rfl) | (simp [*, errW_none, errW_some] <;> rfl), us_ HB.out⟩
     replace c45 := Bool.eq_false_iff.mpr c45
     subst c45
     have H1 : (if a0_7 = true then (some false) else (some ((l0_10.length : Int) == 0))) = some r := by rw [if_neg (show ¬ (false = true) by decide)] at H; exact H
     clear H
     have H := H1
     clear H1
     by_cases c47 : a0_7 = true
     ·subst c47
      have H1 : (some false) = some r := by rw [if_pos rfl] at H; exact H
      clear H
      have H := H1
      clear H1
      obtain rfl := Option.some.inj H
      obtain ⟨hcz48_0, hcz48_1, hcz48_2, hcz48_3, hcz48_4, hcz48_5, hcz48_6, hcz48_7, hcz48_8, hcz48_9, hcz48_10, hfz48_0, hfz48_1, hfz48_2, hfz48_3, hfz48_4, hfz48_5, hfz48_6, hfz48_7, hfz48_8, hfz48_9, hfz48_10⟩ := cells11_ BK116.out
      go_wp2
      go_ret
      exact ⟨by first | rfl | (simp [errW_none, errW_some] <;> rfl) | (simp [*, errW_none, errW_some] <;> rfl), us_ HB.out⟩
     replace c47 := Bool.eq_false_iff.mpr c47
     subst c47
     have H1 : (some ((l0_10.length : Int) == 0)) = some r := by rw [if_neg (show ¬ (false = true) by decide)] at H; exact H
     clear H
     have H := H1
     clear H1
     obtain rfl := Option.some.inj H
     obtain ⟨hcz49_0, hcz49_1, hcz49_2, hcz49_3, hcz49_4, hcz49_5, hcz49_6, hcz49_7, hcz49_8, hcz49_9, hcz49_10, hfz49_0, hfz49_1, hfz49_2, hfz49_3, hfz49_4, hfz49_5, hfz49_6, hfz49_7, hfz49_8, hfz49_9, hfz49_10⟩ := cells11_ BK116.out
     go_wp2
     go_ret
     exact ⟨by first | rfl | (simp [errW_none, errW_some] <;> rfl) | (simp [*, errW_none, errW_some] <;> rfl), us_ HB.out⟩

/-! ### impl_portOk: function 32 -/
def impl_portOk.f (a0 : Int) : Option (Bool) := (impl_in.f a0 1 255).bind fun t126 => (some t126)
set_option maxHeartbeats 8000000 in
set_option maxRecDepth 100000 in
theorem impl_portOk.calls (a0 : Int) (r : Bool) (w : World) (h : impl_portOk.f a0 = some r) :
  Calls Try.prog 32 #[.int .i64 a0] w fun e w' => e = .returned (.bool r) ∧ Drawn0 w w' := by
 have H : ((impl_in.f a0 1 255).bind fun t126 => (some t126)) = some r := h
 clear h
 replace H := Option.bind_eq_some_iff.mp H
 obtain ⟨t126, A20, H⟩ := H
 replace H : (some t126) = some r := H
 have A2 := mk_ A20
 clear A20
 obtain rfl := Option.some.inj H
 go_enter Try.func32, Try.ntmps32
 go_wp2_with (first | ((with_reducible refine gate_callee (f := 52) rfl ?_); refine goesL_ (some 4) rfl rfl Try.func52 (by kernel_rfl) rfl #[.int .i64 a0, .int .i64 1, .int .i64 255] rfl (by (try simp only [lm_, lo_, ln_]); first | done | rfl | (simp only [List.length_drop, List.length_take]; rfl)) ?_; (with_reducible refine (impl_in.calls a0 1 255 t126 _ A2.out).mono ?_); rintro e w' ⟨rfl, ⟨nd, rfl⟩⟩; refine ⟨_, rfl, ?_⟩))
 go_ret
 exact ⟨by first | rfl | (simp; done) | (simp [*]; done), by repeat (first | exact Drawn0.refl _ | apply Drawn0.step)⟩

/-! ### impl_word: function 51 -/
def impl_word.f (a0 : Int) : Option (Bool) := (impl_in.f a0 0 65535).bind fun t127 => (some t127)
set_option maxHeartbeats 8000000 in
set_option maxRecDepth 100000 in
theorem impl_word.calls (a0 : Int) (r : Bool) (w : World) (h : impl_word.f a0 = some r) :
  Calls Try.prog 51 #[.int .i64 a0] w fun e w' => e = .returned (.bool r) ∧ Drawn0 w w' := by
 have H : ((impl_in.f a0 0 65535).bind fun t127 => (some t127)) = some r := h
 clear h
 replace H := Option.bind_eq_some_iff.mp H
 obtain ⟨t127, A20, H⟩ := H
 replace H : (some t127) = some r := H
 have A2 := mk_ A20
 clear A20
 obtain rfl := Option.some.inj H
 go_enter Try.func51, Try.ntmps51
 go_wp2_with (first | ((with_reducible refine gate_callee (f := 52) rfl ?_); refine goesL_ (some 4) rfl rfl Try.func52 (by kernel_rfl) rfl #[.int .i64 a0, .int .i64 0, .int .i64 65535] rfl (by (try simp only [lm_, lo_, ln_]); first | done | rfl | (simp only [List.length_drop, List.length_take]; rfl)) ?_; (with_reducible refine (impl_in.calls a0 0 65535 t127 _ A2.out).mono ?_); rintro e w' ⟨rfl, ⟨nd, rfl⟩⟩; refine ⟨_, rfl, ?_⟩))
 go_ret
 exact ⟨by first | rfl | (simp; done) | (simp [*]; done), by repeat (first | exact Drawn0.refl _ | apply Drawn0.step)⟩

end Go.Proofs.Ytfcocnhkimbpbac.MFnSegmentOk
