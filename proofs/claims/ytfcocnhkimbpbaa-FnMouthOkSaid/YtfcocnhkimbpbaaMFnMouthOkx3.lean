/- Functions that the law FnMouthOk reaches, each with the proof that the machine's call comes to just its answer; no conditions but those that each theorem states. Printed by a program of this session over the kit's print. -/
import Derived.Test.YtfcocnhkimbpbaaMFnMouthOkx0
import Derived.Test.YtfcocnhkimbpbaaMFnMouthOkx2
namespace Go.Proofs.Ytfcocnhkimbpbaa.MFnMouthOk
open Go.RowKit Go.Proofs.YtfcocnhkimbpbaaV.PrintWords Go.Proofs.YtfcocnhkimbpbaaV.PrintLast Go.Proofs.YtfcocnhkimbpbaaV.PrintMore
attribute [local go_sem] max2_int min2_int max_two min_two max_three min_three max_four min_four   -- for this text's walks alone
set_option linter.unusedVariables false
set_option linter.unusedSimpArgs false

/-! ### spec_MouthOk: function 32 -/
mutual
def spec_MouthOk.j0 : Nat → Bool → Int → List Int → Int → Int → List (S72) → Option (Bool)
 | 0, _, _, _, _, _, _ => none
 | k + 1, x35, x125000, x125001, x125002, x125003, x125004 => if x35 = true then (some false) else (spec_MouthOk.l0 k 0 x125000 x125001 x125002 x125003 x125004)
def spec_MouthOk.l0 : Nat → Int → Int → List Int → Int → Int → List (S72) → Option (Bool)
 | 0, _, _, _, _, _, _ => none
 | k + 1, x3, x125000, x125001, x125002, x125003, x125004 => if x3 < (x125004.length : Int) then (if 0 ≤ x3 then (if ((rd_T72 x125004 x3).f0) ≤ x125000 then (some false) else (if ((rd_T72 x125004 x3).f1) ≤ ((rd_T72 x125004 x3).f0) then (some false) else (if ((rd_T72 x125004 x3).f1) > (wrap64 (x125000 + x125002)) then (some false) else (if x3 > 0 then (if 0 ≤ (wrap64 (x3 - 1)) then (if (wrap64 (x3 - 1)) < (x125004.length : Int) then (if ((rd_T72 x125004 (wrap64 (x3 - 1))).f1) ≥ ((rd_T72 x125004 x3).f0) then (some false) else (spec_MouthOk.l0 k (wrap64 (x3 + 1)) x125000 x125001 x125002 x125003 x125004)) else (none)) else (none)) else (spec_MouthOk.l0 k (wrap64 (x3 + 1)) x125000 x125001 x125002 x125003 x125004))))) else (none)) else (some true)
end
def spec_MouthOk.f (k : Nat) (a0_0 : Int) (l0_1 : List Int) (a0_2 : Int) (a0_3 : Int) (l0_4 : List (S72)) : Option (Bool) := (spec_l1In.f a0_0 0 1000000).bind fun t125 => (if t125 = true then (if (l0_1.length : Int) > 32 then (spec_MouthOk.j0 k true a0_0 l0_1 a0_2 a0_3 l0_4) else ((spec_l1In.f a0_2 0 (l0_1.length : Int)).bind fun t126 => (if t126 = true then ((spec_l1In.f a0_3 0 255).bind fun t127 => (if t127 = true then (spec_MouthOk.j0 k (decide ((l0_4.length : Int) > 2)) a0_0 l0_1 a0_2 a0_3 l0_4) else (spec_MouthOk.j0 k true a0_0 l0_1 a0_2 a0_3 l0_4))) else (spec_MouthOk.j0 k true a0_0 l0_1 a0_2 a0_3 l0_4)))) else (spec_MouthOk.j0 k true a0_0 l0_1 a0_2 a0_3 l0_4))
theorem spec_MouthOk.mono_l : ∀ k, (∀ y0 y1 y2 y3 y4 y5, LeO (spec_MouthOk.j0 k y0 y1 y2 y3 y4 y5) (spec_MouthOk.j0 (k + 1) y0 y1 y2 y3 y4 y5)) ∧ (∀ y0 y1 y2 y3 y4 y5, LeO (spec_MouthOk.l0 k y0 y1 y2 y3 y4 y5) (spec_MouthOk.l0 (k + 1) y0 y1 y2 y3 y4 y5))
 | 0 => ⟨fun _ _ _ _ _ _ r h => by simp [spec_MouthOk.j0] at h, fun _ _ _ _ _ _ r h => by simp [spec_MouthOk.l0] at h⟩
 | k + 1 => by
  obtain ⟨ih0, ih1⟩ := spec_MouthOk.mono_l k
  refine ⟨?_, ?_⟩
  ·intro y0 y1 y2 y3 y4 y5
   unfold spec_MouthOk.j0
   repeat' first
   | (with_reducible exact ih0 _ _ _ _ _ _)
   | (with_reducible exact ih1 _ _ _ _ _ _)
   | (with_reducible exact LeO.refl _)
   | (with_reducible exact LeO.none _)
   | (with_reducible refine LeO.ite ?_ ?_)
   | (with_reducible refine LeO.bind ?_ (fun _ => ?_))
   | exact ih0 _ _ _ _ _ _
   | exact ih1 _ _ _ _ _ _
   | exact LeO.none _
   | refine LeO.ite ?_ ?_
   | refine LeO.bind ?_ (fun _ => ?_)
  ·intro y0 y1 y2 y3 y4 y5
   unfold spec_MouthOk.l0
   repeat' first
   | (with_reducible exact ih0 _ _ _ _ _ _)
   | (with_reducible exact ih1 _ _ _ _ _ _)
   | (with_reducible exact LeO.refl _)
   | (with_reducible exact LeO.none _)
   | (with_reducible refine LeO.ite ?_ ?_)
   | (with_reducible refine LeO.bind ?_ (fun _ => ?_))
   | exact ih0 _ _ _ _ _ _
   | exact ih1 _ _ _ _ _ _
   | exact LeO.none _
   | refine LeO.ite ?_ ?_
   | refine LeO.bind ?_ (fun _ => ?_)
theorem spec_MouthOk.mono : ∀ a0 a1 a2 a3 a4 k, LeO (spec_MouthOk.f k a0 a1 a2 a3 a4) (spec_MouthOk.f (k + 1) a0 a1 a2 a3 a4) := by
 intro a0 a1 a2 a3 a4 k
 obtain ⟨ih0, ih1⟩ := spec_MouthOk.mono_l k
 unfold spec_MouthOk.f
 repeat' first
   | (with_reducible exact ih0 _ _ _ _ _ _)
   | (with_reducible exact ih1 _ _ _ _ _ _)
   | (with_reducible exact LeO.refl _)
   | (with_reducible exact LeO.none _)
   | (with_reducible refine LeO.ite ?_ ?_)
   | (with_reducible refine LeO.bind ?_ (fun _ => ?_))
   | exact ih0 _ _ _ _ _ _
   | exact ih1 _ _ _ _ _ _
   | exact LeO.none _
   | refine LeO.ite ?_ ?_
   | refine LeO.bind ?_ (fun _ => ?_)
set_option maxHeartbeats 8000000 in
set_option maxRecDepth 100000 in
theorem spec_MouthOk.calls (k : Nat) (a0_0 : Int) (A0_1 : Option Addr) (c0_1 : Nat) (l0_1 : List Int) (a0_2 : Int) (a0_3 : Int) (A0_4 : Option Addr) (c0_4 : Nat) (l0_4 : List (S72)) (r : Bool) (w : World) (hr0_1 : Kd.C (Kd.int .u8) w A0_1 l0_1.length l0_1) (hc0_1 : l0_1.length ≤ c0_1) (hr0_4 : Kd.C k72 w A0_4 l0_4.length l0_4) (hc0_4 : l0_4.length ≤ c0_4) (h : spec_MouthOk.f k a0_0 l0_1 a0_2 a0_3 l0_4 = some r) :
  Calls Try.prog 32 #[.agg #[.int .i64 a0_0, .slice A0_1 l0_1.length c0_1, .int .i64 a0_2, .int .i64 a0_3, .slice A0_4 l0_4.length c0_4]] w fun e w' => e = .returned (.bool r) ∧ Below w.heap.size w w' := by
 have hu51 := Try.underlying51
 have hu72 := Try.underlying72
 have HR0_1 := mk_ hr0_1
 have HC0_1 := mk_ hc0_1
 clear hr0_1 hc0_1
 have HR0_4 := mk_ hr0_4
 have HC0_4 := mk_ hc0_4
 clear hr0_4 hc0_4
 have HB := mk_ (Below.refl w.heap.size w)
 have H : ((spec_l1In.f a0_0 0 1000000).bind fun t125 => (if t125 = true then (if (l0_1.length : Int) > 32 then (spec_MouthOk.j0 k true a0_0 l0_1 a0_2 a0_3 l0_4) else ((spec_l1In.f a0_2 0 (l0_1.length : Int)).bind fun t126 => (if t126 = true then ((spec_l1In.f a0_3 0 255).bind fun t127 => (if t127 = true then (spec_MouthOk.j0 k (decide ((l0_4.length : Int) > 2)) a0_0 l0_1 a0_2 a0_3 l0_4) else (spec_MouthOk.j0 k true a0_0 l0_1 a0_2 a0_3 l0_4))) else (spec_MouthOk.j0 k true a0_0 l0_1 a0_2 a0_3 l0_4)))) else (spec_MouthOk.j0 k true a0_0 l0_1 a0_2 a0_3 l0_4))) = some r := h
 clear h
 have HC2 := mk_ H
 clear H
 go_enter Try.func32, Try.ntmps32
 go_upto_region 1 with (first | ((with_reducible refine gate_dst (N := 1) rfl ?_); refine box_event ?hg (N := 1) ?hd (cs := #[.int .i64 a0_0, .slice A0_1 l0_1.length c0_1, .int .i64 a0_2, .int .i64 a0_3, .slice A0_4 l0_4.length c0_4]) (t := 51) ?hr ?_; (case hd => rfl); (case hg => rfl); (case hr => first | (go_simp; done) | (go_simp; rfl)); intro gb124 hg w3 hbox hb; have n0_ := mk_ (below_step (ub_ HB.out) hb); have n1_ := mk_ (hbox); have n2_ := mk_ ((by rw [hg]; exact (below_size (ub_ HB.out)) : w.heap.size ≤ gb124)); have n3_ := mk_ ((by rw [hg]; exact (below_size (ub_ HB.out)) : w.heap.size ≤ gb124)); clear HB; have HB := n0_; have BK124 := n1_; have GW124 := n2_; have GE124 := ge_ n3_.out; clear n0_ n1_ n2_ n3_; clear hb hbox hg))
 repeat (go_quiet (first | ((with_reducible refine gate_dst (N := 1) rfl ?_); refine box_event ?hg (N := 1) ?hd (cs := #[.int .i64 a0_0, .slice A0_1 l0_1.length c0_1, .int .i64 a0_2, .int .i64 a0_3, .slice A0_4 l0_4.length c0_4]) (t := 51) ?hr ?_; (case hd => rfl); (case hg => rfl); (case hr => first | (go_simp; done) | (go_simp; rfl)); intro gb124 hg w3 hbox hb; have n0_ := mk_ (below_step (ub_ HB.out) hb); have n1_ := mk_ (hbox); have n2_ := mk_ ((by rw [hg]; exact (below_size (ub_ HB.out)) : w.heap.size ≤ gb124)); have n3_ := mk_ ((by rw [hg]; exact (below_size (ub_ HB.out)) : w.heap.size ≤ gb124)); clear HB; have HB := n0_; have BK124 := n1_; have GW124 := n2_; have GE124 := ge_ n3_.out; clear n0_ n1_ n2_ n3_; clear hb hbox hg)); go_upto_region 1 with (first | ((with_reducible refine gate_dst (N := 1) rfl ?_); refine box_event ?hg (N := 1) ?hd (cs := #[.int .i64 a0_0, .slice A0_1 l0_1.length c0_1, .int .i64 a0_2, .int .i64 a0_3, .slice A0_4 l0_4.length c0_4]) (t := 51) ?hr ?_; (case hd => rfl); (case hg => rfl); (case hr => first | (go_simp; done) | (go_simp; rfl)); intro gb124 hg w3 hbox hb; have n0_ := mk_ (below_step (ub_ HB.out) hb); have n1_ := mk_ (hbox); have n2_ := mk_ ((by rw [hg]; exact (below_size (ub_ HB.out)) : w.heap.size ≤ gb124)); have n3_ := mk_ ((by rw [hg]; exact (below_size (ub_ HB.out)) : w.heap.size ≤ gb124)); clear HB; have HB := n0_; have BK124 := n1_; have GW124 := n2_; have GE124 := ge_ n3_.out; clear n0_ n1_ n2_ n3_; clear hb hbox hg)))
 (try simp only [Act.put, la_, lz_, ls_])
 go_cut [35] (fun v35 wc => ∃ (kq : Nat) (x35_1 : Bool), v35 = .bool x35_1 ∧ Aside0 (spec_MouthOk.j0 kq x35_1 a0_0 l0_1 a0_2 a0_3 l0_4 = some r) ∧ Aside0 (kq ≤ k) ∧ Aside0 (wc.heap[gb124]? = some (.cells #[.int .i64 a0_0, (.slice A0_1 l0_1.length c0_1), .int .i64 a0_2, .int .i64 a0_3, (.slice A0_4 l0_4.length c0_4)] 51 (0, 0))) ∧ Aside0 (Below w.heap.size w wc))
 case first =>
  have H := HC2.out
  clear HC2
  replace H := Option.bind_eq_some_iff.mp H
  obtain ⟨t125, A40, H⟩ := H
  replace H : (if t125 = true then (if (l0_1.length : Int) > 32 then (spec_MouthOk.j0 k true a0_0 l0_1 a0_2 a0_3 l0_4) else ((spec_l1In.f a0_2 0 (l0_1.length : Int)).bind fun t126 => (if t126 = true then ((spec_l1In.f a0_3 0 255).bind fun t127 => (if t127 = true then (spec_MouthOk.j0 k (decide ((l0_4.length : Int) > 2)) a0_0 l0_1 a0_2 a0_3 l0_4) else (spec_MouthOk.j0 k true a0_0 l0_1 a0_2 a0_3 l0_4))) else (spec_MouthOk.j0 k true a0_0 l0_1 a0_2 a0_3 l0_4)))) else (spec_MouthOk.j0 k true a0_0 l0_1 a0_2 a0_3 l0_4)) = some r := H
  have A4 := mk_ A40
  clear A40
  by_cases c5 : t125 = true
  rotate_left
  ·replace c5 := Bool.eq_false_iff.mpr c5
   subst c5
   have H1 : (spec_MouthOk.j0 k true a0_0 l0_1 a0_2 a0_3 l0_4) = some r := by rw [if_neg (show ¬ (false = true) by decide)] at H; exact H
   clear H
   have H := H1
   clear H1
   have H' := mk_ H
   clear H
   obtain ⟨hcz15_0, hcz15_1, hcz15_2, hcz15_3, hcz15_4, hfz15_0, hfz15_1, hfz15_2, hfz15_3, hfz15_4⟩ := cells5_ BK124.out
   go_wp2_with (first | (go_at_call 35; (with_reducible refine (spec_l1In.calls a0_0 0 1000000 false _ A4.out).mono ?_); rintro e w' ⟨rfl, ⟨nd, rfl⟩⟩; (try first | exact ⟨rfl, _, World.drewN_drewN _ _ _⟩ | exact ⟨rfl, _, Eq.trans (World.drewN_drewN _ _ _) (congrArg (World.drewN _) (Nat.add_assoc _ _ _))⟩)))
   repeat (go_quiet (first | (go_at_call 35; (with_reducible refine (spec_l1In.calls a0_0 0 1000000 false _ A4.out).mono ?_); rintro e w' ⟨rfl, ⟨nd, rfl⟩⟩; (try first | exact ⟨rfl, _, World.drewN_drewN _ _ _⟩ | exact ⟨rfl, _, Eq.trans (World.drewN_drewN _ _ _) (congrArg (World.drewN _) (Nat.add_assoc _ _ _))⟩))); try go_wp2_with (first | (go_at_call 35; (with_reducible refine (spec_l1In.calls a0_0 0 1000000 false _ A4.out).mono ?_); rintro e w' ⟨rfl, ⟨nd, rfl⟩⟩; (try first | exact ⟨rfl, _, World.drewN_drewN _ _ _⟩ | exact ⟨rfl, _, Eq.trans (World.drewN_drewN _ _ _) (congrArg (World.drewN _) (Nat.add_assoc _ _ _))⟩))))
   go_meet
   case rel => exact ⟨_, (true), (by first | rfl | (simp; done) | (simp [*]; done)), H', ⟨by first | omega | exact Nat.le_refl _⟩, ⟨u_ BK124.out⟩, ⟨us_ HB.out⟩⟩
  subst c5
  have H1 : (if (l0_1.length : Int) > 32 then (spec_MouthOk.j0 k true a0_0 l0_1 a0_2 a0_3 l0_4) else ((spec_l1In.f a0_2 0 (l0_1.length : Int)).bind fun t126 => (if t126 = true then ((spec_l1In.f a0_3 0 255).bind fun t127 => (if t127 = true then (spec_MouthOk.j0 k (decide ((l0_4.length : Int) > 2)) a0_0 l0_1 a0_2 a0_3 l0_4) else (spec_MouthOk.j0 k true a0_0 l0_1 a0_2 a0_3 l0_4))) else (spec_MouthOk.j0 k true a0_0 l0_1 a0_2 a0_3 l0_4)))) = some r := by rw [if_pos rfl] at H; exact H
  clear H
  have H := H1
  clear H1
  by_cases c6 : (l0_1.length : Int) > 32
  ·rw [if_pos c6] at H
   have c6b0 : decide (32 < (l0_1.length : Int)) = true := decide_eq_true c6
   have c6b1 : decide (32 < l0_1.length) = true := decide_eq_true (by omega)
   clear c6
   (first | rw [c6b0] | (simp only [i64_w, i32_w]; rw [c6b0]) | skip)
   have H' := mk_ H
   clear H
   obtain ⟨hcz7_0, hcz7_1, hcz7_2, hcz7_3, hcz7_4, hfz7_0, hfz7_1, hfz7_2, hfz7_3, hfz7_4⟩ := cells5_ BK124.out
   go_wp2_with (first | (go_at_call 35; (with_reducible refine (spec_l1In.calls a0_0 0 1000000 true _ A4.out).mono ?_); rintro e w' ⟨rfl, ⟨nd, rfl⟩⟩; (try first | exact ⟨rfl, _, World.drewN_drewN _ _ _⟩ | exact ⟨rfl, _, Eq.trans (World.drewN_drewN _ _ _) (congrArg (World.drewN _) (Nat.add_assoc _ _ _))⟩)))
   repeat (go_quiet (first | (go_at_call 35; (with_reducible refine (spec_l1In.calls a0_0 0 1000000 true _ A4.out).mono ?_); rintro e w' ⟨rfl, ⟨nd, rfl⟩⟩; (try first | exact ⟨rfl, _, World.drewN_drewN _ _ _⟩ | exact ⟨rfl, _, Eq.trans (World.drewN_drewN _ _ _) (congrArg (World.drewN _) (Nat.add_assoc _ _ _))⟩))); try go_wp2_with (first | (go_at_call 35; (with_reducible refine (spec_l1In.calls a0_0 0 1000000 true _ A4.out).mono ?_); rintro e w' ⟨rfl, ⟨nd, rfl⟩⟩; (try first | exact ⟨rfl, _, World.drewN_drewN _ _ _⟩ | exact ⟨rfl, _, Eq.trans (World.drewN_drewN _ _ _) (congrArg (World.drewN _) (Nat.add_assoc _ _ _))⟩))))
   go_meet
   case rel => exact ⟨_, (true), (by first | rfl | (simp; done) | (simp [*]; done)), H', ⟨by first | omega | exact Nat.le_refl _⟩, ⟨u_ BK124.out⟩, ⟨us_ HB.out⟩⟩
  rw [if_neg c6] at H
  have c6b0 : decide (32 < (l0_1.length : Int)) = false := decide_eq_false c6
  have c6b1 : decide (32 < l0_1.length) = false := decide_eq_false (by omega)
  clear c6
  (first | rw [c6b0] | (simp only [i64_w, i32_w]; rw [c6b0]) | skip)
  replace H := Option.bind_eq_some_iff.mp H
  obtain ⟨t126, A80, H⟩ := H
  replace H : (if t126 = true then ((spec_l1In.f a0_3 0 255).bind fun t127 => (if t127 = true then (spec_MouthOk.j0 k (decide ((l0_4.length : Int) > 2)) a0_0 l0_1 a0_2 a0_3 l0_4) else (spec_MouthOk.j0 k true a0_0 l0_1 a0_2 a0_3 l0_4))) else (spec_MouthOk.j0 k true a0_0 l0_1 a0_2 a0_3 l0_4)) = some r := H
  have A8 := mk_ A80
  clear A80
  by_cases c9 : t126 = true
  rotate_left
  ·replace c9 := Bool.eq_false_iff.mpr c9
   subst c9
   have H1 : (spec_MouthOk.j0 k true a0_0 l0_1 a0_2 a0_3 l0_4) = some r := by rw [if_neg (show ¬ (false = true) by decide)] at H; exact H
   clear H
   have H := H1
   clear H1
   have H' := mk_ H
   clear H
   obtain ⟨hcz14_0, hcz14_1, hcz14_2, hcz14_3, hcz14_4, hfz14_0, hfz14_1, hfz14_2, hfz14_3, hfz14_4⟩ := cells5_ BK124.out
   go_wp2_with (first | (go_at_call 35; have hA_ := A4.out; (with_reducible refine (spec_l1In.calls a0_0 0 1000000 true _ A4.out).mono ?_); rintro e w' ⟨rfl, ⟨nd, rfl⟩⟩; (try first | exact ⟨rfl, _, World.drewN_drewN _ _ _⟩ | exact ⟨rfl, _, Eq.trans (World.drewN_drewN _ _ _) (congrArg (World.drewN _) (Nat.add_assoc _ _ _))⟩); clear hA_ A4) | (go_at_call 35; have hA_ := A8.out; (with_reducible refine (spec_l1In.calls a0_2 0 (l0_1.length : Int) false _ A8.out).mono ?_); rintro e w' ⟨rfl, ⟨nd, rfl⟩⟩; (try first | exact ⟨rfl, _, World.drewN_drewN _ _ _⟩ | exact ⟨rfl, _, Eq.trans (World.drewN_drewN _ _ _) (congrArg (World.drewN _) (Nat.add_assoc _ _ _))⟩); clear hA_ A8))
   repeat (go_quiet (first | (go_at_call 35; (with_reducible refine (spec_l1In.calls a0_0 0 1000000 true _ A4.out).mono ?_); rintro e w' ⟨rfl, ⟨nd, rfl⟩⟩; (try first | exact ⟨rfl, _, World.drewN_drewN _ _ _⟩ | exact ⟨rfl, _, Eq.trans (World.drewN_drewN _ _ _) (congrArg (World.drewN _) (Nat.add_assoc _ _ _))⟩)) | (go_at_call 35; (with_reducible refine (spec_l1In.calls a0_2 0 (l0_1.length : Int) false _ A8.out).mono ?_); rintro e w' ⟨rfl, ⟨nd, rfl⟩⟩; (try first | exact ⟨rfl, _, World.drewN_drewN _ _ _⟩ | exact ⟨rfl, _, Eq.trans (World.drewN_drewN _ _ _) (congrArg (World.drewN _) (Nat.add_assoc _ _ _))⟩))); try go_wp2_with (first | (go_at_call 35; (with_reducible refine (spec_l1In.calls a0_0 0 1000000 true _ A4.out).mono ?_); rintro e w' ⟨rfl, ⟨nd, rfl⟩⟩; (try first | exact ⟨rfl, _, World.drewN_drewN _ _ _⟩ | exact ⟨rfl, _, Eq.trans (World.drewN_drewN _ _ _) (congrArg (World.drewN _) (Nat.add_assoc _ _ _))⟩)) | (go_at_call 35; (with_reducible refine (spec_l1In.calls a0_2 0 (l0_1.length : Int) false _ A8.out).mono ?_); rintro e w' ⟨rfl, ⟨nd, rfl⟩⟩; (try first | exact ⟨rfl, _, World.drewN_drewN _ _ _⟩ | exact ⟨rfl, _, Eq.trans (World.drewN_drewN _ _ _) (congrArg (World.drewN _) (Nat.add_assoc _ _ _))⟩))))
   go_meet
   case rel => exact ⟨_, (true), (by first | rfl | (simp; done) | (simp [*]; done)), H', ⟨by first | omega | exact Nat.le_refl _⟩, ⟨u_ BK124.out⟩, ⟨us_ HB.out⟩⟩
  subst c9
  have H1 : ((spec_l1In.f a0_3 0 255).bind fun t127 => (if t127 = true then (spec_MouthOk.j0 k (decide ((l0_4.length : Int) > 2)) a0_0 l0_1 a0_2 a0_3 l0_4) else (spec_MouthOk.j0 k true a0_0 l0_1 a0_2 a0_3 l0_4))) = some r := by rw [if_pos rfl] at H; exact H
  clear H
  have H := H1
  clear H1
  replace H := Option.bind_eq_some_iff.mp H
  obtain ⟨t127, A100, H⟩ := H
  replace H : (if t127 = true then (spec_MouthOk.j0 k (decide ((l0_4.length : Int) > 2)) a0_0 l0_1 a0_2 a0_3 l0_4) else (spec_MouthOk.j0 k true a0_0 l0_1 a0_2 a0_3 l0_4)) = some r := H
  have A10 := mk_ A100
  clear A100
  by_cases c11 : t127 = true
  ·subst c11
   have H1 : (spec_MouthOk.j0 k (decide ((l0_4.length : Int) > 2)) a0_0 l0_1 a0_2 a0_3 l0_4) = some r := by rw [if_pos rfl] at H; exact H
   clear H
   have H := H1
   clear H1
   have H' := mk_ H
   clear H
   obtain ⟨hcz12_0, hcz12_1, hcz12_2, hcz12_3, hcz12_4, hfz12_0, hfz12_1, hfz12_2, hfz12_3, hfz12_4⟩ := cells5_ BK124.out
   go_wp2_with (first | (go_at_call 35; have hA_ := A4.out; (with_reducible refine (spec_l1In.calls a0_0 0 1000000 true _ A4.out).mono ?_); rintro e w' ⟨rfl, ⟨nd, rfl⟩⟩; (try first | exact ⟨rfl, _, World.drewN_drewN _ _ _⟩ | exact ⟨rfl, _, Eq.trans (World.drewN_drewN _ _ _) (congrArg (World.drewN _) (Nat.add_assoc _ _ _))⟩); clear hA_ A4) | (go_at_call 35; have hA_ := A8.out; (with_reducible refine (spec_l1In.calls a0_2 0 (l0_1.length : Int) true _ A8.out).mono ?_); rintro e w' ⟨rfl, ⟨nd, rfl⟩⟩; (try first | exact ⟨rfl, _, World.drewN_drewN _ _ _⟩ | exact ⟨rfl, _, Eq.trans (World.drewN_drewN _ _ _) (congrArg (World.drewN _) (Nat.add_assoc _ _ _))⟩); clear hA_ A8) | (go_at_call 35; have hA_ := A10.out; (with_reducible refine (spec_l1In.calls a0_3 0 255 true _ A10.out).mono ?_); rintro e w' ⟨rfl, ⟨nd, rfl⟩⟩; (try first | exact ⟨rfl, _, World.drewN_drewN _ _ _⟩ | exact ⟨rfl, _, Eq.trans (World.drewN_drewN _ _ _) (congrArg (World.drewN _) (Nat.add_assoc _ _ _))⟩); clear hA_ A10))
   repeat (go_quiet (first | (go_at_call 35; (with_reducible refine (spec_l1In.calls a0_0 0 1000000 true _ A4.out).mono ?_); rintro e w' ⟨rfl, ⟨nd, rfl⟩⟩; (try first | exact ⟨rfl, _, World.drewN_drewN _ _ _⟩ | exact ⟨rfl, _, Eq.trans (World.drewN_drewN _ _ _) (congrArg (World.drewN _) (Nat.add_assoc _ _ _))⟩)) | (go_at_call 35; (with_reducible refine (spec_l1In.calls a0_2 0 (l0_1.length : Int) true _ A8.out).mono ?_); rintro e w' ⟨rfl, ⟨nd, rfl⟩⟩; (try first | exact ⟨rfl, _, World.drewN_drewN _ _ _⟩ | exact ⟨rfl, _, Eq.trans (World.drewN_drewN _ _ _) (congrArg (World.drewN _) (Nat.add_assoc _ _ _))⟩)) | (go_at_call 35; (with_reducible refine (spec_l1In.calls a0_3 0 255 true _ A10.out).mono ?_); rintro e w' ⟨rfl, ⟨nd, rfl⟩⟩; (try first | exact ⟨rfl, _, World.drewN_drewN _ _ _⟩ | exact ⟨rfl, _, Eq.trans (World.drewN_drewN _ _ _) (congrArg (World.drewN _) (Nat.add_assoc _ _ _))⟩))); try go_wp2_with (first | (go_at_call 35; (with_reducible refine (spec_l1In.calls a0_0 0 1000000 true _ A4.out).mono ?_); rintro e w' ⟨rfl, ⟨nd, rfl⟩⟩; (try first | exact ⟨rfl, _, World.drewN_drewN _ _ _⟩ | exact ⟨rfl, _, Eq.trans (World.drewN_drewN _ _ _) (congrArg (World.drewN _) (Nat.add_assoc _ _ _))⟩)) | (go_at_call 35; (with_reducible refine (spec_l1In.calls a0_2 0 (l0_1.length : Int) true _ A8.out).mono ?_); rintro e w' ⟨rfl, ⟨nd, rfl⟩⟩; (try first | exact ⟨rfl, _, World.drewN_drewN _ _ _⟩ | exact ⟨rfl, _, Eq.trans (World.drewN_drewN _ _ _) (congrArg (World.drewN _) (Nat.add_assoc _ _ _))⟩)) | (go_at_call 35; (with_reducible refine (spec_l1In.calls a0_3 0 255 true _ A10.out).mono ?_); rintro e w' ⟨rfl, ⟨nd, rfl⟩⟩; (try first | exact ⟨rfl, _, World.drewN_drewN _ _ _⟩ | exact ⟨rfl, _, Eq.trans (World.drewN_drewN _ _ _) (congrArg (World.drewN _) (Nat.add_assoc _ _ _))⟩))))
   go_meet
   case rel => exact ⟨_, (decide ((l0_4.length : Int) > 2)), (by first | rfl | (simp; done) | (simp [*]; done)), H', ⟨by first | omega | exact Nat.le_refl _⟩, ⟨u_ BK124.out⟩, ⟨us_ HB.out⟩⟩
  replace c11 := Bool.eq_false_iff.mpr c11
  subst c11
  have H1 : (spec_MouthOk.j0 k true a0_0 l0_1 a0_2 a0_3 l0_4) = some r := by rw [if_neg (show ¬ (false = true) by decide)] at H; exact H
  clear H
  have H := H1
  clear H1
  have H' := mk_ H
  clear H
  obtain ⟨hcz13_0, hcz13_1, hcz13_2, hcz13_3, hcz13_4, hfz13_0, hfz13_1, hfz13_2, hfz13_3, hfz13_4⟩ := cells5_ BK124.out
  go_wp2_with (first | (go_at_call 35; have hA_ := A4.out; (with_reducible refine (spec_l1In.calls a0_0 0 1000000 true _ A4.out).mono ?_); rintro e w' ⟨rfl, ⟨nd, rfl⟩⟩; (try first | exact ⟨rfl, _, World.drewN_drewN _ _ _⟩ | exact ⟨rfl, _, Eq.trans (World.drewN_drewN _ _ _) (congrArg (World.drewN _) (Nat.add_assoc _ _ _))⟩); clear hA_ A4) | (go_at_call 35; have hA_ := A8.out; (with_reducible refine (spec_l1In.calls a0_2 0 (l0_1.length : Int) true _ A8.out).mono ?_); rintro e w' ⟨rfl, ⟨nd, rfl⟩⟩; (try first | exact ⟨rfl, _, World.drewN_drewN _ _ _⟩ | exact ⟨rfl, _, Eq.trans (World.drewN_drewN _ _ _) (congrArg (World.drewN _) (Nat.add_assoc _ _ _))⟩); clear hA_ A8) | (go_at_call 35; have hA_ := A10.out; (with_reducible refine (spec_l1In.calls a0_3 0 255 false _ A10.out).mono ?_); rintro e w' ⟨rfl, ⟨nd, rfl⟩⟩; (try first | exact ⟨rfl, _, World.drewN_drewN _ _ _⟩ | exact ⟨rfl, _, Eq.trans (World.drewN_drewN _ _ _) (congrArg (World.drewN _) (Nat.add_assoc _ _ _))⟩); clear hA_ A10))
  repeat (go_quiet (first | (go_at_call 35; (with_reducible refine (spec_l1In.calls a0_0 0 1000000 true _ A4.out).mono ?_); rintro e w' ⟨rfl, ⟨nd, rfl⟩⟩; (try first | exact ⟨rfl, _, World.drewN_drewN _ _ _⟩ | exact ⟨rfl, _, Eq.trans (World.drewN_drewN _ _ _) (congrArg (World.drewN _) (Nat.add_assoc _ _ _))⟩)) | (go_at_call 35; (with_reducible refine (spec_l1In.calls a0_2 0 (l0_1.length : Int) true _ A8.out).mono ?_); rintro e w' ⟨rfl, ⟨nd, rfl⟩⟩; (try first | exact ⟨rfl, _, World.drewN_drewN _ _ _⟩ | exact ⟨rfl, _, Eq.trans (World.drewN_drewN _ _ _) (congrArg (World.drewN _) (Nat.add_assoc _ _ _))⟩)) | (go_at_call 35; (with_reducible refine (spec_l1In.calls a0_3 0 255 false _ A10.out).mono ?_); rintro e w' ⟨rfl, ⟨nd, rfl⟩⟩; (try first | exact ⟨rfl, _, World.drewN_drewN _ _ _⟩ | exact ⟨rfl, _, Eq.trans (World.drewN_drewN _ _ _) (congrArg (World.drewN _) (Nat.add_assoc _ _ _))⟩))); try go_wp2_with (first | (go_at_call 35; (with_reducible refine (spec_l1In.calls a0_0 0 1000000 true _ A4.out).mono ?_); rintro e w' ⟨rfl, ⟨nd, rfl⟩⟩; (try first | exact ⟨rfl, _, World.drewN_drewN _ _ _⟩ | exact ⟨rfl, _, Eq.trans (World.drewN_drewN _ _ _) (congrArg (World.drewN _) (Nat.add_assoc _ _ _))⟩)) | (go_at_call 35; (with_reducible refine (spec_l1In.calls a0_2 0 (l0_1.length : Int) true _ A8.out).mono ?_); rintro e w' ⟨rfl, ⟨nd, rfl⟩⟩; (try first | exact ⟨rfl, _, World.drewN_drewN _ _ _⟩ | exact ⟨rfl, _, Eq.trans (World.drewN_drewN _ _ _) (congrArg (World.drewN _) (Nat.add_assoc _ _ _))⟩)) | (go_at_call 35; (with_reducible refine (spec_l1In.calls a0_3 0 255 false _ A10.out).mono ?_); rintro e w' ⟨rfl, ⟨nd, rfl⟩⟩; (try first | exact ⟨rfl, _, World.drewN_drewN _ _ _⟩ | exact ⟨rfl, _, Eq.trans (World.drewN_drewN _ _ _) (congrArg (World.drewN _) (Nat.add_assoc _ _ _))⟩))))
  go_meet
  case rel => exact ⟨_, (true), (by first | rfl | (simp; done) | (simp [*]; done)), H', ⟨by first | omega | exact Nat.le_refl _⟩, ⟨u_ BK124.out⟩, ⟨us_ HB.out⟩⟩
 case rest =>
  clear HC2
  try clear c1
  try clear p2
  try clear c3
  try clear c5
  try clear c6
  try clear c6b0
  try clear c6b1
  try clear c9
  try clear c11
  try clear hcz12_0
  try clear hcz12_1
  try clear hcz12_2
  try clear hcz12_3
  try clear hcz12_4
  try clear hcz13_0
  try clear hcz13_1
  try clear hcz13_2
  try clear hcz13_3
  try clear hcz13_4
  try clear hcz14_0
  try clear hcz14_1
  try clear hcz14_2
  try clear hcz14_3
  try clear hcz14_4
  try clear hcz15_0
  try clear hcz15_1
  try clear hcz15_2
  try clear hcz15_3
  try clear hcz15_4
  try clear hcz7_0
  try clear hcz7_1
  try clear hcz7_2
  try clear hcz7_3
  try clear hcz7_4
  try clear hfz12_0
  try clear hfz12_1
  try clear hfz12_2
  try clear hfz12_3
  try clear hfz12_4
  try clear hfz13_0
  try clear hfz13_1
  try clear hfz13_2
  try clear hfz13_3
  try clear hfz13_4
  try clear hfz14_0
  try clear hfz14_1
  try clear hfz14_2
  try clear hfz14_3
  try clear hfz14_4
  try clear hfz15_0
  try clear hfz15_1
  try clear hfz15_2
  try clear hfz15_3
  try clear hfz15_4
  try clear hfz7_0
  try clear hfz7_1
  try clear hfz7_2
  try clear hfz7_3
  try clear hfz7_4
  obtain ⟨kq, x35_1, rfl, HA, HJ1, BK124, HB⟩ := hcut
  cases kq with
  | zero => exact absurd HA.out (by simp [spec_MouthOk.j0])
  | succ kj1 =>
   have H := HA.out
   clear HA
   simp only [spec_MouthOk.j0] at H
   by_cases c16 : x35_1 = true
   ·subst c16
    have H1 : (some false) = some r := by rw [if_pos rfl] at H; exact H
    clear H
    have H := H1
    clear H1
    obtain rfl := Option.some.inj H
    go_wp2
    repeat (go_quiet (fail); try go_wp2)
    go_ret
    exact ⟨by first | rfl | (simp [errW_none, errW_some] <;> rfl) | (simp [*, errW_none, errW_some] <;> rfl), us_ HB.out⟩
   replace c16 := Bool.eq_false_iff.mpr c16
   subst c16
   have H1 : (spec_MouthOk.l0 kj1 0 a0_0 l0_1 a0_2 a0_3 l0_4) = some r := by rw [if_neg (show ¬ (false = true) by decide)] at H; exact H
   clear H
   have H := H1
   clear H1
   have H' := mk_ H
   clear H
   go_wp2
   repeat (go_quiet (fail); try go_wp2)
   go_loopg [3] kj1 (fun kq v3 w' => ∃ (x3_2 : Int), v3 = .int .i64 x3_2 ∧ Aside0 (spec_MouthOk.l0 kq x3_2 a0_0 l0_1 a0_2 a0_3 l0_4 = some r) ∧ Aside0 (kq ≤ kj1) ∧ Aside0 (w'.heap[gb124]? = some (.cells #[.int .i64 a0_0, (.slice A0_1 l0_1.length c0_1), .int .i64 a0_2, .int .i64 a0_3, (.slice A0_4 l0_4.length c0_4)] 51 (0, 0))) ∧ Aside0 (Below w.heap.size w w'))
   case atStart => exact ⟨(0), (by first | rfl | (simp; done) | (simp [*]; done)), H', ⟨Nat.le_refl _⟩, ⟨u_ BK124.out⟩, ⟨us_ HB.out⟩⟩
   case round =>
    clear H'
    try clear c1
    try clear p2
    try clear c3
    try clear c5
    try clear c6
    try clear c6b0
    try clear c6b1
    try clear c9
    try clear c11
    try clear c16
    try clear hcz12_0
    try clear hcz12_1
    try clear hcz12_2
    try clear hcz12_3
    try clear hcz12_4
    try clear hcz13_0
    try clear hcz13_1
    try clear hcz13_2
    try clear hcz13_3
    try clear hcz13_4
    try clear hcz14_0
    try clear hcz14_1
    try clear hcz14_2
    try clear hcz14_3
    try clear hcz14_4
    try clear hcz15_0
    try clear hcz15_1
    try clear hcz15_2
    try clear hcz15_3
    try clear hcz15_4
    try clear hcz7_0
    try clear hcz7_1
    try clear hcz7_2
    try clear hcz7_3
    try clear hcz7_4
    try clear hfz12_0
    try clear hfz12_1
    try clear hfz12_2
    try clear hfz12_3
    try clear hfz12_4
    try clear hfz13_0
    try clear hfz13_1
    try clear hfz13_2
    try clear hfz13_3
    try clear hfz13_4
    try clear hfz14_0
    try clear hfz14_1
    try clear hfz14_2
    try clear hfz14_3
    try clear hfz14_4
    try clear hfz15_0
    try clear hfz15_1
    try clear hfz15_2
    try clear hfz15_3
    try clear hfz15_4
    try clear hfz7_0
    try clear hfz7_1
    try clear hfz7_2
    try clear hfz7_3
    try clear hfz7_4
    try clear p2
    obtain ⟨x3_2, rfl, HA, HK2, BK124, HB⟩ := hrel
    cases gk with
    | zero => exact absurd HA.out (by simp [spec_MouthOk.l0])
    | succ k2 =>
     have H := HA.out
     clear HA
     simp only [spec_MouthOk.l0] at H
     by_cases c17 : x3_2 < (l0_4.length : Int)
     rotate_left
     ·rw [if_neg c17] at H
      have c17b0 : decide (x3_2 < (l0_4.length : Int)) = false := decide_eq_false c17
      clear c17
      obtain rfl := Option.some.inj H
      obtain ⟨hcz57_0, hcz57_1, hcz57_2, hcz57_3, hcz57_4, hfz57_0, hfz57_1, hfz57_2, hfz57_3, hfz57_4⟩ := cells5_ BK124.out
      go_wp2
      repeat (go_quiet (fail); try go_wp2)
      go_ret
      exact ⟨by first | rfl | (simp [errW_none, errW_some] <;> rfl) | (simp [*, errW_none, errW_some] <;> rfl), us_ HB.out⟩
     rw [if_pos c17] at H
     have c17b0 : decide (x3_2 < (l0_4.length : Int)) = true := decide_eq_true c17
     clear c17
     by_cases c18 : 0 ≤ x3_2
     rotate_left
     ·rw [if_neg c18] at H
      exact absurd H (by simp)
     rw [if_pos c18] at H
     have c18b0 : decide (0 ≤ x3_2) = true := decide_eq_true c18
     clear c18
     by_cases c19 : ((rd_T72 l0_4 x3_2).f0) ≤ a0_0
     ·rw [if_pos c19] at H
      have c19b0 : decide (((rd_T72 l0_4 x3_2).f0) ≤ a0_0) = true := decide_eq_true c19
      clear c19
      obtain rfl := Option.some.inj H
      obtain ⟨hcz20_0, hcz20_1, hcz20_2, hcz20_3, hcz20_4, hfz20_0, hfz20_1, hfz20_2, hfz20_3, hfz20_4⟩ := cells5_ BK124.out
      have p128 : 0 ≤ (x3_2 : Int) := of_decide_eq_true (by first | (with_reducible assumption) | assumption)
      have q128 : x3_2 < (l0_4.length : Int) := of_decide_eq_true (by first | (with_reducible assumption) | assumption)
      obtain ⟨ad128, e128, hx128_0, hx128_1⟩ := at_T72 HR0_4.out x3_2 p128 q128
      cases e128
      replace hx128_0 := (HB.out.cell (lc_ w _ hx128_0)).trans hx128_0
      replace hx128_1 := (HB.out.cell (lc_ w _ hx128_1)).trans hx128_1
      replace p128 := eq_true p128
      replace q128 := eq_true q128
      go_wp2_with (first | ((with_reducible refine gate_dst (N := 4) rfl ?_); refine box_event ?hg (N := 4) ?hd (cs := #[.int .i64 0, .int .i64 0]) (t := 72) ?hr ?_; (case hd => rfl); (case hg => rfl); (case hr => first | (go_simp; done) | (go_simp; rfl)); intro gb129 hg w21 hbox hb; have n0_ := mk_ (blk_below (u_ BK124.out) hb); have n1_ := mk_ (below_step (us_ HB.out) hb); have n2_ := mk_ (hbox); have n3_ := mk_ ((by rw [hg]; exact (below_size (us_ HB.out)) : w.heap.size ≤ gb129)); have n4_ := mk_ ((by rw [hg]; exact (below_size (us_ HB.out)) : w.heap.size ≤ gb129)); have n5_ := mk_ ((by rw [hg]; exact Nat.ne_of_lt (blk_lt (u_ BK124.out)) : gb124 ≠ gb129)); have n6_ := mk_ ((by rw [hg]; exact Nat.ne_of_gt (blk_lt (u_ BK124.out)) : gb129 ≠ gb124)); clear BK124; clear HB; have BK124 := n0_; have HB := n1_; have BK129 := n2_; have GW129 := n3_; have GE129 := ge_ n4_.out; have NB124_129 := nq_ n5_.out; have NB129_124 := nq_ n6_.out; clear n0_ n1_ n2_ n3_ n4_ n5_ n6_; clear hb hbox hg; have hnb22 := NB129_124.out; have hnc22 := NB124_129.out; obtain ⟨hcz23_0, hcz23_1, hfz23_0, hfz23_1⟩ := cells2_ BK129.out; obtain ⟨hcz24_0, hcz24_1, hcz24_2, hcz24_3, hcz24_4, hfz24_0, hfz24_1, hfz24_2, hfz24_3, hfz24_4⟩ := cells5_ BK124.out))
      repeat (go_quiet (first | ((with_reducible refine gate_dst (N := 4) rfl ?_); refine box_event ?hg (N := 4) ?hd (cs := #[.int .i64 0, .int .i64 0]) (t := 72) ?hr ?_; (case hd => rfl); (case hg => rfl); (case hr => first | (go_simp; done) | (go_simp; rfl)); intro gb129 hg w21 hbox hb; have n0_ := mk_ (blk_below (u_ BK124.out) hb); have n1_ := mk_ (below_step (us_ HB.out) hb); have n2_ := mk_ (hbox); have n3_ := mk_ ((by rw [hg]; exact (below_size (us_ HB.out)) : w.heap.size ≤ gb129)); have n4_ := mk_ ((by rw [hg]; exact (below_size (us_ HB.out)) : w.heap.size ≤ gb129)); have n5_ := mk_ ((by rw [hg]; exact Nat.ne_of_lt (blk_lt (u_ BK124.out)) : gb124 ≠ gb129)); have n6_ := mk_ ((by rw [hg]; exact Nat.ne_of_gt (blk_lt (u_ BK124.out)) : gb129 ≠ gb124)); clear BK124; clear HB; have BK124 := n0_; have HB := n1_; have BK129 := n2_; have GW129 := n3_; have GE129 := ge_ n4_.out; have NB124_129 := nq_ n5_.out; have NB129_124 := nq_ n6_.out; clear n0_ n1_ n2_ n3_ n4_ n5_ n6_; clear hb hbox hg; have hnb22 := NB129_124.out; have hnc22 := NB124_129.out; obtain ⟨hcz23_0, hcz23_1, hfz23_0, hfz23_1⟩ := cells2_ BK129.out; obtain ⟨hcz24_0, hcz24_1, hcz24_2, hcz24_3, hcz24_4, hfz24_0, hfz24_1, hfz24_2, hfz24_3, hfz24_4⟩ := cells5_ BK124.out)); try go_wp2_with (first | ((with_reducible refine gate_dst (N := 4) rfl ?_); refine box_event ?hg (N := 4) ?hd (cs := #[.int .i64 0, .int .i64 0]) (t := 72) ?hr ?_; (case hd => rfl); (case hg => rfl); (case hr => first | (go_simp; done) | (go_simp; rfl)); intro gb129 hg w21 hbox hb; have n0_ := mk_ (blk_below (u_ BK124.out) hb); have n1_ := mk_ (below_step (us_ HB.out) hb); have n2_ := mk_ (hbox); have n3_ := mk_ ((by rw [hg]; exact (below_size (us_ HB.out)) : w.heap.size ≤ gb129)); have n4_ := mk_ ((by rw [hg]; exact (below_size (us_ HB.out)) : w.heap.size ≤ gb129)); have n5_ := mk_ ((by rw [hg]; exact Nat.ne_of_lt (blk_lt (u_ BK124.out)) : gb124 ≠ gb129)); have n6_ := mk_ ((by rw [hg]; exact Nat.ne_of_gt (blk_lt (u_ BK124.out)) : gb129 ≠ gb124)); clear BK124; clear HB; have BK124 := n0_; have HB := n1_; have BK129 := n2_; have GW129 := n3_; have GE129 := ge_ n4_.out; have NB124_129 := nq_ n5_.out; have NB129_124 := nq_ n6_.out; clear n0_ n1_ n2_ n3_ n4_ n5_ n6_; clear hb hbox hg; have hnb22 := NB129_124.out; have hnc22 := NB124_129.out; obtain ⟨hcz23_0, hcz23_1, hfz23_0, hfz23_1⟩ := cells2_ BK129.out; obtain ⟨hcz24_0, hcz24_1, hcz24_2, hcz24_3, hcz24_4, hfz24_0, hfz24_1, hfz24_2, hfz24_3, hfz24_4⟩ := cells5_ BK124.out)))
      go_ret
      exact ⟨by first | rfl | (simp [errW_none, errW_some] <;> rfl) | (simp [*, errW_none, errW_some] <;> rfl), us_ HB.out⟩
     rw [if_neg c19] at H
     have c19b0 : decide (((rd_T72 l0_4 x3_2).f0) ≤ a0_0) = false := decide_eq_false c19
     clear c19
     by_cases c25 : ((rd_T72 l0_4 x3_2).f1) ≤ ((rd_T72 l0_4 x3_2).f0)
     ·rw [if_pos c25] at H
      have c25b0 : decide (((rd_T72 l0_4 x3_2).f1) ≤ ((rd_T72 l0_4 x3_2).f0)) = true := decide_eq_true c25
      clear c25
      obtain rfl := Option.some.inj H
      obtain ⟨hcz26_0, hcz26_1, hcz26_2, hcz26_3, hcz26_4, hfz26_0, hfz26_1, hfz26_2, hfz26_3, hfz26_4⟩ := cells5_ BK124.out
      have p128 : 0 ≤ (x3_2 : Int) := of_decide_eq_true (by first | (with_reducible assumption) | assumption)
      have q128 : x3_2 < (l0_4.length : Int) := of_decide_eq_true (by first | (with_reducible assumption) | assumption)
      obtain ⟨ad128, e128, hx128_0, hx128_1⟩ := at_T72 HR0_4.out x3_2 p128 q128
      cases e128
      replace hx128_0 := (HB.out.cell (lc_ w _ hx128_0)).trans hx128_0
      replace hx128_1 := (HB.out.cell (lc_ w _ hx128_1)).trans hx128_1
      replace p128 := eq_true p128
      replace q128 := eq_true q128
      go_wp2_with (first | ((with_reducible refine gate_dst (N := 4) rfl ?_); refine box_event ?hg (N := 4) ?hd (cs := #[.int .i64 0, .int .i64 0]) (t := 72) ?hr ?_; (case hd => rfl); (case hg => rfl); (case hr => first | (go_simp; done) | (go_simp; rfl)); intro gb129 hg w27 hbox hb; have n0_ := mk_ (blk_below (u_ BK124.out) hb); have n1_ := mk_ (below_step (us_ HB.out) hb); have n2_ := mk_ (hbox); have n3_ := mk_ ((by rw [hg]; exact (below_size (us_ HB.out)) : w.heap.size ≤ gb129)); have n4_ := mk_ ((by rw [hg]; exact (below_size (us_ HB.out)) : w.heap.size ≤ gb129)); have n5_ := mk_ ((by rw [hg]; exact Nat.ne_of_lt (blk_lt (u_ BK124.out)) : gb124 ≠ gb129)); have n6_ := mk_ ((by rw [hg]; exact Nat.ne_of_gt (blk_lt (u_ BK124.out)) : gb129 ≠ gb124)); clear BK124; clear HB; have BK124 := n0_; have HB := n1_; have BK129 := n2_; have GW129 := n3_; have GE129 := ge_ n4_.out; have NB124_129 := nq_ n5_.out; have NB129_124 := nq_ n6_.out; clear n0_ n1_ n2_ n3_ n4_ n5_ n6_; clear hb hbox hg; have hnb28 := NB129_124.out; have hnc28 := NB124_129.out; obtain ⟨hcz29_0, hcz29_1, hfz29_0, hfz29_1⟩ := cells2_ BK129.out; obtain ⟨hcz30_0, hcz30_1, hcz30_2, hcz30_3, hcz30_4, hfz30_0, hfz30_1, hfz30_2, hfz30_3, hfz30_4⟩ := cells5_ BK124.out))
      repeat (go_quiet (first | ((with_reducible refine gate_dst (N := 4) rfl ?_); refine box_event ?hg (N := 4) ?hd (cs := #[.int .i64 0, .int .i64 0]) (t := 72) ?hr ?_; (case hd => rfl); (case hg => rfl); (case hr => first | (go_simp; done) | (go_simp; rfl)); intro gb129 hg w27 hbox hb; have n0_ := mk_ (blk_below (u_ BK124.out) hb); have n1_ := mk_ (below_step (us_ HB.out) hb); have n2_ := mk_ (hbox); have n3_ := mk_ ((by rw [hg]; exact (below_size (us_ HB.out)) : w.heap.size ≤ gb129)); have n4_ := mk_ ((by rw [hg]; exact (below_size (us_ HB.out)) : w.heap.size ≤ gb129)); have n5_ := mk_ ((by rw [hg]; exact Nat.ne_of_lt (blk_lt (u_ BK124.out)) : gb124 ≠ gb129)); have n6_ := mk_ ((by rw [hg]; exact Nat.ne_of_gt (blk_lt (u_ BK124.out)) : gb129 ≠ gb124)); clear BK124; clear HB; have BK124 := n0_; have HB := n1_; have BK129 := n2_; have GW129 := n3_; have GE129 := ge_ n4_.out; have NB124_129 := nq_ n5_.out; have NB129_124 := nq_ n6_.out; clear n0_ n1_ n2_ n3_ n4_ n5_ n6_; clear hb hbox hg; have hnb28 := NB129_124.out; have hnc28 := NB124_129.out; obtain ⟨hcz29_0, hcz29_1, hfz29_0, hfz29_1⟩ := cells2_ BK129.out; obtain ⟨hcz30_0, hcz30_1, hcz30_2, hcz30_3, hcz30_4, hfz30_0, hfz30_1, hfz30_2, hfz30_3, hfz30_4⟩ := cells5_ BK124.out)); try go_wp2_with (first | ((with_reducible refine gate_dst (N := 4) rfl ?_); refine box_event ?hg (N := 4) ?hd (cs := #[.int .i64 0, .int .i64 0]) (t := 72) ?hr ?_; (case hd => rfl); (case hg => rfl); (case hr => first | (go_simp; done) | (go_simp; rfl)); intro gb129 hg w27 hbox hb; have n0_ := mk_ (blk_below (u_ BK124.out) hb); have n1_ := mk_ (below_step (us_ HB.out) hb); have n2_ := mk_ (hbox); have n3_ := mk_ ((by rw [hg]; exact (below_size (us_ HB.out)) : w.heap.size ≤ gb129)); have n4_ := mk_ ((by rw [hg]; exact (below_size (us_ HB.out)) : w.heap.size ≤ gb129)); have n5_ := mk_ ((by rw [hg]; exact Nat.ne_of_lt (blk_lt (u_ BK124.out)) : gb124 ≠ gb129)); have n6_ := mk_ ((by rw [hg]; exact Nat.ne_of_gt (blk_lt (u_ BK124.out)) : gb129 ≠ gb124)); clear BK124; clear HB; have BK124 := n0_; have HB := n1_; have BK129 := n2_; have GW129 := n3_; have GE129 := ge_ n4_.out; have NB124_129 := nq_ n5_.out; have NB129_124 := nq_ n6_.out; clear n0_ n1_ n2_ n3_ n4_ n5_ n6_; clear hb hbox hg; have hnb28 := NB129_124.out; have hnc28 := NB124_129.out; obtain ⟨hcz29_0, hcz29_1, hfz29_0, hfz29_1⟩ := cells2_ BK129.out; obtain ⟨hcz30_0, hcz30_1, hcz30_2, hcz30_3, hcz30_4, hfz30_0, hfz30_1, hfz30_2, hfz30_3, hfz30_4⟩ := cells5_ BK124.out)))
      go_ret
      exact ⟨by first | rfl | (simp [errW_none, errW_some] <;> rfl) | (simp [*, errW_none, errW_some] <;> rfl), us_ HB.out⟩
     rw [if_neg c25] at H
     have c25b0 : decide (((rd_T72 l0_4 x3_2).f1) ≤ ((rd_T72 l0_4 x3_2).f0)) = false := decide_eq_false c25
     clear c25
     by_cases c31 : ((rd_T72 l0_4 x3_2).f1) > (wrap64 (a0_0 + a0_2))
     ·rw [if_pos c31] at H
      have c31b0 : decide ((wrap64 (a0_0 + a0_2)) < ((rd_T72 l0_4 x3_2).f1)) = true := decide_eq_true c31
      clear c31
      obtain rfl := Option.some.inj H
      obtain ⟨hcz32_0, hcz32_1, hcz32_2, hcz32_3, hcz32_4, hfz32_0, hfz32_1, hfz32_2, hfz32_3, hfz32_4⟩ := cells5_ BK124.out
      have p128 : 0 ≤ (x3_2 : Int) := of_decide_eq_true (by first | (with_reducible assumption) | assumption)
      have q128 : x3_2 < (l0_4.length : Int) := of_decide_eq_true (by first | (with_reducible assumption) | assumption)
      obtain ⟨ad128, e128, hx128_0, hx128_1⟩ := at_T72 HR0_4.out x3_2 p128 q128
      cases e128
      replace hx128_0 := (HB.out.cell (lc_ w _ hx128_0)).trans hx128_0
      replace hx128_1 := (HB.out.cell (lc_ w _ hx128_1)).trans hx128_1
      replace p128 := eq_true p128
      replace q128 := eq_true q128
      go_wp2_with (first | ((with_reducible refine gate_dst (N := 4) rfl ?_); refine box_event ?hg (N := 4) ?hd (cs := #[.int .i64 0, .int .i64 0]) (t := 72) ?hr ?_; (case hd => rfl); (case hg => rfl); (case hr => first | (go_simp; done) | (go_simp; rfl)); intro gb129 hg w33 hbox hb; have n0_ := mk_ (blk_below (u_ BK124.out) hb); have n1_ := mk_ (below_step (us_ HB.out) hb); have n2_ := mk_ (hbox); have n3_ := mk_ ((by rw [hg]; exact (below_size (us_ HB.out)) : w.heap.size ≤ gb129)); have n4_ := mk_ ((by rw [hg]; exact (below_size (us_ HB.out)) : w.heap.size ≤ gb129)); have n5_ := mk_ ((by rw [hg]; exact Nat.ne_of_lt (blk_lt (u_ BK124.out)) : gb124 ≠ gb129)); have n6_ := mk_ ((by rw [hg]; exact Nat.ne_of_gt (blk_lt (u_ BK124.out)) : gb129 ≠ gb124)); clear BK124; clear HB; have BK124 := n0_; have HB := n1_; have BK129 := n2_; have GW129 := n3_; have GE129 := ge_ n4_.out; have NB124_129 := nq_ n5_.out; have NB129_124 := nq_ n6_.out; clear n0_ n1_ n2_ n3_ n4_ n5_ n6_; clear hb hbox hg; have hnb34 := NB129_124.out; have hnc34 := NB124_129.out; obtain ⟨hcz35_0, hcz35_1, hfz35_0, hfz35_1⟩ := cells2_ BK129.out; obtain ⟨hcz36_0, hcz36_1, hcz36_2, hcz36_3, hcz36_4, hfz36_0, hfz36_1, hfz36_2, hfz36_3, hfz36_4⟩ := cells5_ BK124.out))
      repeat (go_quiet (first | ((with_reducible refine gate_dst (N := 4) rfl ?_); refine box_event ?hg (N := 4) ?hd (cs := #[.int .i64 0, .int .i64 0]) (t := 72) ?hr ?_; (case hd => rfl); (case hg => rfl); (case hr => first | (go_simp; done) | (go_simp; rfl)); intro gb129 hg w33 hbox hb; have n0_ := mk_ (blk_below (u_ BK124.out) hb); have n1_ := mk_ (below_step (us_ HB.out) hb); have n2_ := mk_ (hbox); have n3_ := mk_ ((by rw [hg]; exact (below_size (us_ HB.out)) : w.heap.size ≤ gb129)); have n4_ := mk_ ((by rw [hg]; exact (below_size (us_ HB.out)) : w.heap.size ≤ gb129)); have n5_ := mk_ ((by rw [hg]; exact Nat.ne_of_lt (blk_lt (u_ BK124.out)) : gb124 ≠ gb129)); have n6_ := mk_ ((by rw [hg]; exact Nat.ne_of_gt (blk_lt (u_ BK124.out)) : gb129 ≠ gb124)); clear BK124; clear HB; have BK124 := n0_; have HB := n1_; have BK129 := n2_; have GW129 := n3_; have GE129 := ge_ n4_.out; have NB124_129 := nq_ n5_.out; have NB129_124 := nq_ n6_.out; clear n0_ n1_ n2_ n3_ n4_ n5_ n6_; clear hb hbox hg; have hnb34 := NB129_124.out; have hnc34 := NB124_129.out; obtain ⟨hcz35_0, hcz35_1, hfz35_0, hfz35_1⟩ := cells2_ BK129.out; obtain ⟨hcz36_0, hcz36_1, hcz36_2, hcz36_3, hcz36_4, hfz36_0, hfz36_1, hfz36_2, hfz36_3, hfz36_4⟩ := cells5_ BK124.out)); try go_wp2_with (first | ((with_reducible refine gate_dst (N := 4) rfl ?_); refine box_event ?hg (N := 4) ?hd (cs := #[.int .i64 0, .int .i64 0]) (t := 72) ?hr ?_; (case hd => rfl); (case hg => rfl); (case hr => first | (go_simp; done) | (go_simp; rfl)); intro gb129 hg w33 hbox hb; have n0_ := mk_ (blk_below (u_ BK124.out) hb); have n1_ := mk_ (below_step (us_ HB.out) hb); have n2_ := mk_ (hbox); have n3_ := mk_ ((by rw [hg]; exact (below_size (us_ HB.out)) : w.heap.size ≤ gb129)); have n4_ := mk_ ((by rw [hg]; exact (below_size (us_ HB.out)) : w.heap.size ≤ gb129)); have n5_ := mk_ ((by rw [hg]; exact Nat.ne_of_lt (blk_lt (u_ BK124.out)) : gb124 ≠ gb129)); have n6_ := mk_ ((by rw [hg]; exact Nat.ne_of_gt (blk_lt (u_ BK124.out)) : gb129 ≠ gb124)); clear BK124; clear HB; have BK124 := n0_; have HB := n1_; have BK129 := n2_; have GW129 := n3_; have GE129 := ge_ n4_.out; have NB124_129 := nq_ n5_.out; have NB129_124 := nq_ n6_.out; clear n0_ n1_ n2_ n3_ n4_ n5_ n6_; clear hb hbox hg; have hnb34 := NB129_124.out; have hnc34 := NB124_129.out; obtain ⟨hcz35_0, hcz35_1, hfz35_0, hfz35_1⟩ := cells2_ BK129.out; obtain ⟨hcz36_0, hcz36_1, hcz36_2, hcz36_3, hcz36_4, hfz36_0, hfz36_1, hfz36_2, hfz36_3, hfz36_4⟩ := cells5_ BK124.out)))
      go_ret
      exact ⟨by first | rfl | (simp [errW_none, errW_some] <;> rfl) | (simp [*, errW_none, errW_some] <;> rfl), us_ HB.out⟩
     rw [if_neg c31] at H
     have c31b0 : decide ((wrap64 (a0_0 + a0_2)) < ((rd_T72 l0_4 x3_2).f1)) = false := decide_eq_false c31
     clear c31
     by_cases c37 : x3_2 > 0
     rotate_left
     ·rw [if_neg c37] at H
      have c37b0 : decide (0 < x3_2) = false := decide_eq_false c37
      clear c37
      have H' := mk_ H
      clear H
      obtain ⟨hcz52_0, hcz52_1, hcz52_2, hcz52_3, hcz52_4, hfz52_0, hfz52_1, hfz52_2, hfz52_3, hfz52_4⟩ := cells5_ BK124.out
      have p128 : 0 ≤ (x3_2 : Int) := of_decide_eq_true (by first | (with_reducible assumption) | assumption)
      have q128 : x3_2 < (l0_4.length : Int) := of_decide_eq_true (by first | (with_reducible assumption) | assumption)
      obtain ⟨ad128, e128, hx128_0, hx128_1⟩ := at_T72 HR0_4.out x3_2 p128 q128
      cases e128
      replace hx128_0 := (HB.out.cell (lc_ w _ hx128_0)).trans hx128_0
      replace hx128_1 := (HB.out.cell (lc_ w _ hx128_1)).trans hx128_1
      replace p128 := eq_true p128
      replace q128 := eq_true q128
      go_wp2_with (first | ((with_reducible refine gate_dst (N := 4) rfl ?_); refine box_event ?hg (N := 4) ?hd (cs := #[.int .i64 0, .int .i64 0]) (t := 72) ?hr ?_; (case hd => rfl); (case hg => rfl); (case hr => first | (go_simp; done) | (go_simp; rfl)); intro gb129 hg w53 hbox hb; have n0_ := mk_ (blk_below (u_ BK124.out) hb); have n1_ := mk_ (below_step (us_ HB.out) hb); have n2_ := mk_ (hbox); have n3_ := mk_ ((by rw [hg]; exact (below_size (us_ HB.out)) : w.heap.size ≤ gb129)); have n4_ := mk_ ((by rw [hg]; exact (below_size (us_ HB.out)) : w.heap.size ≤ gb129)); have n5_ := mk_ ((by rw [hg]; exact Nat.ne_of_lt (blk_lt (u_ BK124.out)) : gb124 ≠ gb129)); have n6_ := mk_ ((by rw [hg]; exact Nat.ne_of_gt (blk_lt (u_ BK124.out)) : gb129 ≠ gb124)); clear BK124; clear HB; have BK124 := n0_; have HB := n1_; have BK129 := n2_; have GW129 := n3_; have GE129 := ge_ n4_.out; have NB124_129 := nq_ n5_.out; have NB129_124 := nq_ n6_.out; clear n0_ n1_ n2_ n3_ n4_ n5_ n6_; clear hb hbox hg; have hnb54 := NB129_124.out; have hnc54 := NB124_129.out; obtain ⟨hcz55_0, hcz55_1, hfz55_0, hfz55_1⟩ := cells2_ BK129.out; obtain ⟨hcz56_0, hcz56_1, hcz56_2, hcz56_3, hcz56_4, hfz56_0, hfz56_1, hfz56_2, hfz56_3, hfz56_4⟩ := cells5_ BK124.out))
      repeat (go_quiet (first | ((with_reducible refine gate_dst (N := 4) rfl ?_); refine box_event ?hg (N := 4) ?hd (cs := #[.int .i64 0, .int .i64 0]) (t := 72) ?hr ?_; (case hd => rfl); (case hg => rfl); (case hr => first | (go_simp; done) | (go_simp; rfl)); intro gb129 hg w53 hbox hb; have n0_ := mk_ (blk_below (u_ BK124.out) hb); have n1_ := mk_ (below_step (us_ HB.out) hb); have n2_ := mk_ (hbox); have n3_ := mk_ ((by rw [hg]; exact (below_size (us_ HB.out)) : w.heap.size ≤ gb129)); have n4_ := mk_ ((by rw [hg]; exact (below_size (us_ HB.out)) : w.heap.size ≤ gb129)); have n5_ := mk_ ((by rw [hg]; exact Nat.ne_of_lt (blk_lt (u_ BK124.out)) : gb124 ≠ gb129)); have n6_ := mk_ ((by rw [hg]; exact Nat.ne_of_gt (blk_lt (u_ BK124.out)) : gb129 ≠ gb124)); clear BK124; clear HB; have BK124 := n0_; have HB := n1_; have BK129 := n2_; have GW129 := n3_; have GE129 := ge_ n4_.out; have NB124_129 := nq_ n5_.out; have NB129_124 := nq_ n6_.out; clear n0_ n1_ n2_ n3_ n4_ n5_ n6_; clear hb hbox hg; have hnb54 := NB129_124.out; have hnc54 := NB124_129.out; obtain ⟨hcz55_0, hcz55_1, hfz55_0, hfz55_1⟩ := cells2_ BK129.out; obtain ⟨hcz56_0, hcz56_1, hcz56_2, hcz56_3, hcz56_4, hfz56_0, hfz56_1, hfz56_2, hfz56_3, hfz56_4⟩ := cells5_ BK124.out)); try go_wp2_with (first | ((with_reducible refine gate_dst (N := 4) rfl ?_); refine box_event ?hg (N := 4) ?hd (cs := #[.int .i64 0, .int .i64 0]) (t := 72) ?hr ?_; (case hd => rfl); (case hg => rfl); (case hr => first | (go_simp; done) | (go_simp; rfl)); intro gb129 hg w53 hbox hb; have n0_ := mk_ (blk_below (u_ BK124.out) hb); have n1_ := mk_ (below_step (us_ HB.out) hb); have n2_ := mk_ (hbox); have n3_ := mk_ ((by rw [hg]; exact (below_size (us_ HB.out)) : w.heap.size ≤ gb129)); have n4_ := mk_ ((by rw [hg]; exact (below_size (us_ HB.out)) : w.heap.size ≤ gb129)); have n5_ := mk_ ((by rw [hg]; exact Nat.ne_of_lt (blk_lt (u_ BK124.out)) : gb124 ≠ gb129)); have n6_ := mk_ ((by rw [hg]; exact Nat.ne_of_gt (blk_lt (u_ BK124.out)) : gb129 ≠ gb124)); clear BK124; clear HB; have BK124 := n0_; have HB := n1_; have BK129 := n2_; have GW129 := n3_; have GE129 := ge_ n4_.out; have NB124_129 := nq_ n5_.out; have NB129_124 := nq_ n6_.out; clear n0_ n1_ n2_ n3_ n4_ n5_ n6_; clear hb hbox hg; have hnb54 := NB129_124.out; have hnc54 := NB124_129.out; obtain ⟨hcz55_0, hcz55_1, hfz55_0, hfz55_1⟩ := cells2_ BK129.out; obtain ⟨hcz56_0, hcz56_1, hcz56_2, hcz56_3, hcz56_4, hfz56_0, hfz56_1, hfz56_2, hfz56_3, hfz56_4⟩ := cells5_ BK124.out)))
      go_roundg k2
      case measure => have := HJ1.out; have := HK2.out; omega
      case rel => exact ⟨(wrap64 (x3_2 + 1)), (by first | rfl | (simp; done) | (simp [*]; done)), H', ⟨by have := HJ1.out; have := HK2.out; omega⟩, ⟨uf_ BK124.out⟩, ⟨us_ HB.out⟩⟩
     rw [if_pos c37] at H
     have c37b0 : decide (0 < x3_2) = true := decide_eq_true c37
     clear c37
     obtain ⟨ji38, hji38⟩ : ∃ j_ : Int, (wrap64 (x3_2 - 1)) = j_ := ⟨_, rfl⟩
     replace H : (if 0 ≤ (ji38) then (if (ji38) < (l0_4.length : Int) then (if ((rd_T72 l0_4 (ji38)).f1) ≥ ((rd_T72 l0_4 x3_2).f0) then (some false) else (spec_MouthOk.l0 k2 (wrap64 (x3_2 + 1)) a0_0 l0_1 a0_2 a0_3 l0_4)) else (none)) else (none)) = some r := by first | (rw [hji38] at H; exact H) | (simp only [hji38] at H ⊢; exact H)
     have hji38w : (IntKind.i64.wrap (x3_2 - 1)) = ji38 := (i64_w _).trans hji38
     by_cases c39 : 0 ≤ (ji38)
     rotate_left
     ·rw [if_neg c39] at H
      exact absurd H (by simp)
     rw [if_pos c39] at H
     have c39b0 : decide (0 ≤ (ji38)) = true := decide_eq_true c39
     clear c39
     by_cases c40 : (ji38) < (l0_4.length : Int)
     rotate_left
     ·rw [if_neg c40] at H
      exact absurd H (by simp)
     rw [if_pos c40] at H
     have c40b0 : decide ((ji38) < (l0_4.length : Int)) = true := decide_eq_true c40
     clear c40
     by_cases c41 : ((rd_T72 l0_4 (ji38)).f1) ≥ ((rd_T72 l0_4 x3_2).f0)
     ·rw [if_pos c41] at H
      have c41b0 : decide (((rd_T72 l0_4 x3_2).f0) ≤ ((rd_T72 l0_4 (ji38)).f1)) = true := decide_eq_true c41
      clear c41
      obtain rfl := Option.some.inj H
      obtain ⟨hcz42_0, hcz42_1, hcz42_2, hcz42_3, hcz42_4, hfz42_0, hfz42_1, hfz42_2, hfz42_3, hfz42_4⟩ := cells5_ BK124.out
      have p128 : 0 ≤ (x3_2 : Int) := of_decide_eq_true (by first | (with_reducible assumption) | assumption)
      have q128 : x3_2 < (l0_4.length : Int) := of_decide_eq_true (by first | (with_reducible assumption) | assumption)
      obtain ⟨ad128, e128, hx128_0, hx128_1⟩ := at_T72 HR0_4.out x3_2 p128 q128
      cases e128
      replace hx128_0 := (HB.out.cell (lc_ w _ hx128_0)).trans hx128_0
      replace hx128_1 := (HB.out.cell (lc_ w _ hx128_1)).trans hx128_1
      replace p128 := eq_true p128
      replace q128 := eq_true q128
      go_wp2_with (first | ((with_reducible refine gate_dst (N := 4) rfl ?_); refine box_event ?hg (N := 4) ?hd (cs := #[.int .i64 0, .int .i64 0]) (t := 72) ?hr ?_; (case hd => rfl); (case hg => rfl); (case hr => first | (go_simp; done) | (go_simp; rfl)); intro gb129 hg w43 hbox hb; have n0_ := mk_ (blk_below (u_ BK124.out) hb); have n1_ := mk_ (below_step (us_ HB.out) hb); have n2_ := mk_ (hbox); have n3_ := mk_ ((by rw [hg]; exact (below_size (us_ HB.out)) : w.heap.size ≤ gb129)); have n4_ := mk_ ((by rw [hg]; exact (below_size (us_ HB.out)) : w.heap.size ≤ gb129)); have n5_ := mk_ ((by rw [hg]; exact Nat.ne_of_lt (blk_lt (u_ BK124.out)) : gb124 ≠ gb129)); have n6_ := mk_ ((by rw [hg]; exact Nat.ne_of_gt (blk_lt (u_ BK124.out)) : gb129 ≠ gb124)); clear BK124; clear HB; have BK124 := n0_; have HB := n1_; have BK129 := n2_; have GW129 := n3_; have GE129 := ge_ n4_.out; have NB124_129 := nq_ n5_.out; have NB129_124 := nq_ n6_.out; clear n0_ n1_ n2_ n3_ n4_ n5_ n6_; clear hb hbox hg; have hnb44 := NB129_124.out; have hnc44 := NB124_129.out; obtain ⟨hcz45_0, hcz45_1, hfz45_0, hfz45_1⟩ := cells2_ BK129.out; obtain ⟨hcz46_0, hcz46_1, hcz46_2, hcz46_3, hcz46_4, hfz46_0, hfz46_1, hfz46_2, hfz46_3, hfz46_4⟩ := cells5_ BK124.out; have p130 : 0 ≤ ((ji38) : Int) := of_decide_eq_true (by first | (with_reducible assumption) | assumption); have q130 : (ji38) < (l0_4.length : Int) := of_decide_eq_true (by first | (with_reducible assumption) | assumption); obtain ⟨ad130, e130, hx130_0, hx130_1⟩ := at_T72 HR0_4.out (ji38) p130 q130; obtain rfl : ad128 = ad130 := (by injection e130); have hn130_0 : ad128.block ≠ gb129 := (ne1_ (by have := lc_ _ _ hx130_0; first | rwa [add_block] at this | exact this) GW129.out); have hn130_1 : ad128.block ≠ gb129 := (ne1_ (by have := lc_ _ _ hx130_0; first | rwa [add_block] at this | exact this) GW129.out); replace hx130_0 := (HB.out.cell (lc_ w _ hx130_0)).trans hx130_0; replace hx130_1 := (HB.out.cell (lc_ w _ hx130_1)).trans hx130_1; replace hx130_0 := (cell_far (p := ⟨gb129, 0, none⟩) (by first | (rw [add_block]; exact hn130_0) | (show (Addr.add _ _).block ≠ _; rw [add_block]; exact hn130_0) | exact hn130_0) (.int .i64 ((rd_T72 l0_4 x3_2).f0))).trans hx130_0; replace hx130_1 := (cell_far (p := ⟨gb129, 0, none⟩) (by first | (rw [add_block]; exact hn130_0) | (show (Addr.add _ _).block ≠ _; rw [add_block]; exact hn130_0) | exact hn130_0) (.int .i64 ((rd_T72 l0_4 x3_2).f0))).trans hx130_1; replace hx130_0 := (cell_far (p := ⟨gb129, 1, none⟩) (by first | (rw [add_block]; exact hn130_1) | (show (Addr.add _ _).block ≠ _; rw [add_block]; exact hn130_1) | exact hn130_1) (.int .i64 ((rd_T72 l0_4 x3_2).f1))).trans hx130_0; replace hx130_1 := (cell_far (p := ⟨gb129, 1, none⟩) (by first | (rw [add_block]; exact hn130_1) | (show (Addr.add _ _).block ≠ _; rw [add_block]; exact hn130_1) | exact hn130_1) (.int .i64 ((rd_T72 l0_4 x3_2).f1))).trans hx130_1; (try have hy130_0 := fun (n_ : Nat) => (show ((((w43.drewN n_).setCell ⟨gb129, 0, none⟩ (.int .i64 ((rd_T72 l0_4 x3_2).f0))).setCell ⟨gb129, 1, none⟩ (.int .i64 ((rd_T72 l0_4 x3_2).f1)))).cell? _ = some _ from hx130_0)); (try have hy130_1 := fun (n_ : Nat) => (show ((((w43.drewN n_).setCell ⟨gb129, 0, none⟩ (.int .i64 ((rd_T72 l0_4 x3_2).f0))).setCell ⟨gb129, 1, none⟩ (.int .i64 ((rd_T72 l0_4 x3_2).f1)))).cell? _ = some _ from hx130_1)); clear hn130_0; clear hn130_1; replace p130 := eq_true p130; replace q130 := eq_true q130))
      repeat (go_quiet (first | ((with_reducible refine gate_dst (N := 4) rfl ?_); refine box_event ?hg (N := 4) ?hd (cs := #[.int .i64 0, .int .i64 0]) (t := 72) ?hr ?_; (case hd => rfl); (case hg => rfl); (case hr => first | (go_simp; done) | (go_simp; rfl)); intro gb129 hg w43 hbox hb; have n0_ := mk_ (blk_below (u_ BK124.out) hb); have n1_ := mk_ (below_step (us_ HB.out) hb); have n2_ := mk_ (hbox); have n3_ := mk_ ((by rw [hg]; exact (below_size (us_ HB.out)) : w.heap.size ≤ gb129)); have n4_ := mk_ ((by rw [hg]; exact (below_size (us_ HB.out)) : w.heap.size ≤ gb129)); have n5_ := mk_ ((by rw [hg]; exact Nat.ne_of_lt (blk_lt (u_ BK124.out)) : gb124 ≠ gb129)); have n6_ := mk_ ((by rw [hg]; exact Nat.ne_of_gt (blk_lt (u_ BK124.out)) : gb129 ≠ gb124)); clear BK124; clear HB; have BK124 := n0_; have HB := n1_; have BK129 := n2_; have GW129 := n3_; have GE129 := ge_ n4_.out; have NB124_129 := nq_ n5_.out; have NB129_124 := nq_ n6_.out; clear n0_ n1_ n2_ n3_ n4_ n5_ n6_; clear hb hbox hg; have hnb44 := NB129_124.out; have hnc44 := NB124_129.out; obtain ⟨hcz45_0, hcz45_1, hfz45_0, hfz45_1⟩ := cells2_ BK129.out; obtain ⟨hcz46_0, hcz46_1, hcz46_2, hcz46_3, hcz46_4, hfz46_0, hfz46_1, hfz46_2, hfz46_3, hfz46_4⟩ := cells5_ BK124.out; have p130 : 0 ≤ ((ji38) : Int) := of_decide_eq_true (by first | (with_reducible assumption) | assumption); have q130 : (ji38) < (l0_4.length : Int) := of_decide_eq_true (by first | (with_reducible assumption) | assumption); obtain ⟨ad130, e130, hx130_0, hx130_1⟩ := at_T72 HR0_4.out (ji38) p130 q130; obtain rfl : ad128 = ad130 := (by injection e130); have hn130_0 : ad128.block ≠ gb129 := (ne1_ (by have := lc_ _ _ hx130_0; first | rwa [add_block] at this | exact this) GW129.out); have hn130_1 : ad128.block ≠ gb129 := (ne1_ (by have := lc_ _ _ hx130_0; first | rwa [add_block] at this | exact this) GW129.out); replace hx130_0 := (HB.out.cell (lc_ w _ hx130_0)).trans hx130_0; replace hx130_1 := (HB.out.cell (lc_ w _ hx130_1)).trans hx130_1; replace hx130_0 := (cell_far (p := ⟨gb129, 0, none⟩) (by first | (rw [add_block]; exact hn130_0) | (show (Addr.add _ _).block ≠ _; rw [add_block]; exact hn130_0) | exact hn130_0) (.int .i64 ((rd_T72 l0_4 x3_2).f0))).trans hx130_0; replace hx130_1 := (cell_far (p := ⟨gb129, 0, none⟩) (by first | (rw [add_block]; exact hn130_0) | (show (Addr.add _ _).block ≠ _; rw [add_block]; exact hn130_0) | exact hn130_0) (.int .i64 ((rd_T72 l0_4 x3_2).f0))).trans hx130_1; replace hx130_0 := (cell_far (p := ⟨gb129, 1, none⟩) (by first | (rw [add_block]; exact hn130_1) | (show (Addr.add _ _).block ≠ _; rw [add_block]; exact hn130_1) | exact hn130_1) (.int .i64 ((rd_T72 l0_4 x3_2).f1))).trans hx130_0; replace hx130_1 := (cell_far (p := ⟨gb129, 1, none⟩) (by first | (rw [add_block]; exact hn130_1) | (show (Addr.add _ _).block ≠ _; rw [add_block]; exact hn130_1) | exact hn130_1) (.int .i64 ((rd_T72 l0_4 x3_2).f1))).trans hx130_1; (try have hy130_0 := fun (n_ : Nat) => (show ((((w43.drewN n_).setCell ⟨gb129, 0, none⟩ (.int .i64 ((rd_T72 l0_4 x3_2).f0))).setCell ⟨gb129, 1, none⟩ (.int .i64 ((rd_T72 l0_4 x3_2).f1)))).cell? _ = some _ from hx130_0)); (try have hy130_1 := fun (n_ : Nat) => (show ((((w43.drewN n_).setCell ⟨gb129, 0, none⟩ (.int .i64 ((rd_T72 l0_4 x3_2).f0))).setCell ⟨gb129, 1, none⟩ (.int .i64 ((rd_T72 l0_4 x3_2).f1)))).cell? _ = some _ from hx130_1)); clear hn130_0; clear hn130_1; replace p130 := eq_true p130; replace q130 := eq_true q130)); try go_wp2_with (first | ((with_reducible refine gate_dst (N := 4) rfl ?_); refine box_event ?hg (N := 4) ?hd (cs := #[.int .i64 0, .int .i64 0]) (t := 72) ?hr ?_; (case hd => rfl); (case hg => rfl); (case hr => first | (go_simp; done) | (go_simp; rfl)); intro gb129 hg w43 hbox hb; have n0_ := mk_ (blk_below (u_ BK124.out) hb); have n1_ := mk_ (below_step (us_ HB.out) hb); have n2_ := mk_ (hbox); have n3_ := mk_ ((by rw [hg]; exact (below_size (us_ HB.out)) : w.heap.size ≤ gb129)); have n4_ := mk_ ((by rw [hg]; exact (below_size (us_ HB.out)) : w.heap.size ≤ gb129)); have n5_ := mk_ ((by rw [hg]; exact Nat.ne_of_lt (blk_lt (u_ BK124.out)) : gb124 ≠ gb129)); have n6_ := mk_ ((by rw [hg]; exact Nat.ne_of_gt (blk_lt (u_ BK124.out)) : gb129 ≠ gb124)); clear BK124; clear HB; have BK124 := n0_; have HB := n1_; have BK129 := n2_; have GW129 := n3_; have GE129 := ge_ n4_.out; have NB124_129 := nq_ n5_.out; have NB129_124 := nq_ n6_.out; clear n0_ n1_ n2_ n3_ n4_ n5_ n6_; clear hb hbox hg; have hnb44 := NB129_124.out; have hnc44 := NB124_129.out; obtain ⟨hcz45_0, hcz45_1, hfz45_0, hfz45_1⟩ := cells2_ BK129.out; obtain ⟨hcz46_0, hcz46_1, hcz46_2, hcz46_3, hcz46_4, hfz46_0, hfz46_1, hfz46_2, hfz46_3, hfz46_4⟩ := cells5_ BK124.out; have p130 : 0 ≤ ((ji38) : Int) := of_decide_eq_true (by first | (with_reducible assumption) | assumption); have q130 : (ji38) < (l0_4.length : Int) := of_decide_eq_true (by first | (with_reducible assumption) | assumption); obtain ⟨ad130, e130, hx130_0, hx130_1⟩ := at_T72 HR0_4.out (ji38) p130 q130; obtain rfl : ad128 = ad130 := (by injection e130); have hn130_0 : ad128.block ≠ gb129 := (ne1_ (by have := lc_ _ _ hx130_0; first | rwa [add_block] at this | exact this) GW129.out); have hn130_1 : ad128.block ≠ gb129 := (ne1_ (by have := lc_ _ _ hx130_0; first | rwa [add_block] at this | exact this) GW129.out); replace hx130_0 := (HB.out.cell (lc_ w _ hx130_0)).trans hx130_0; replace hx130_1 := (HB.out.cell (lc_ w _ hx130_1)).trans hx130_1; replace hx130_0 := (cell_far (p := ⟨gb129, 0, none⟩) (by first | (rw [add_block]; exact hn130_0) | (show (Addr.add _ _).block ≠ _; rw [add_block]; exact hn130_0) | exact hn130_0) (.int .i64 ((rd_T72 l0_4 x3_2).f0))).trans hx130_0; replace hx130_1 := (cell_far (p := ⟨gb129, 0, none⟩) (by first | (rw [add_block]; exact hn130_0) | (show (Addr.add _ _).block ≠ _; rw [add_block]; exact hn130_0) | exact hn130_0) (.int .i64 ((rd_T72 l0_4 x3_2).f0))).trans hx130_1; replace hx130_0 := (cell_far (p := ⟨gb129, 1, none⟩) (by first | (rw [add_block]; exact hn130_1) | (show (Addr.add _ _).block ≠ _; rw [add_block]; exact hn130_1) | exact hn130_1) (.int .i64 ((rd_T72 l0_4 x3_2).f1))).trans hx130_0; replace hx130_1 := (cell_far (p := ⟨gb129, 1, none⟩) (by first | (rw [add_block]; exact hn130_1) | (show (Addr.add _ _).block ≠ _; rw [add_block]; exact hn130_1) | exact hn130_1) (.int .i64 ((rd_T72 l0_4 x3_2).f1))).trans hx130_1; (try have hy130_0 := fun (n_ : Nat) => (show ((((w43.drewN n_).setCell ⟨gb129, 0, none⟩ (.int .i64 ((rd_T72 l0_4 x3_2).f0))).setCell ⟨gb129, 1, none⟩ (.int .i64 ((rd_T72 l0_4 x3_2).f1)))).cell? _ = some _ from hx130_0)); (try have hy130_1 := fun (n_ : Nat) => (show ((((w43.drewN n_).setCell ⟨gb129, 0, none⟩ (.int .i64 ((rd_T72 l0_4 x3_2).f0))).setCell ⟨gb129, 1, none⟩ (.int .i64 ((rd_T72 l0_4 x3_2).f1)))).cell? _ = some _ from hx130_1)); clear hn130_0; clear hn130_1; replace p130 := eq_true p130; replace q130 := eq_true q130)))
      go_ret
      exact ⟨by first | rfl | (simp [errW_none, errW_some] <;> rfl) | (simp only [← hji38]; first | rfl | (simp [errW_none, errW_some] <;> rfl)) | (simp [*, errW_none, errW_some] <;> rfl), us_ HB.out⟩
     rw [if_neg c41] at H
     have c41b0 : decide (((rd_T72 l0_4 x3_2).f0) ≤ ((rd_T72 l0_4 (ji38)).f1)) = false := decide_eq_false c41
     clear c41
     have H' := mk_ H
     clear H
     obtain ⟨hcz47_0, hcz47_1, hcz47_2, hcz47_3, hcz47_4, hfz47_0, hfz47_1, hfz47_2, hfz47_3, hfz47_4⟩ := cells5_ BK124.out
     have p128 : 0 ≤ (x3_2 : Int) := of_decide_eq_true (by first | (with_reducible assumption) | assumption)
     have q128 : x3_2 < (l0_4.length : Int) := of_decide_eq_true (by first | (with_reducible assumption) | assumption)
     obtain ⟨ad128, e128, hx128_0, hx128_1⟩ := at_T72 HR0_4.out x3_2 p128 q128
     cases e128
     replace hx128_0 := (HB.out.cell (lc_ w _ hx128_0)).trans hx128_0
     replace hx128_1 := (HB.out.cell (lc_ w _ hx128_1)).trans hx128_1
     replace p128 := eq_true p128
     replace q128 := eq_true q128
     go_wp2_with (first | ((with_reducible refine gate_dst (N := 4) rfl ?_); refine box_event ?hg (N := 4) ?hd (cs := #[.int .i64 0, .int .i64 0]) (t := 72) ?hr ?_; (case hd => rfl); (case hg => rfl); (case hr => first | (go_simp; done) | (go_simp; rfl)); intro gb129 hg w48 hbox hb; have n0_ := mk_ (blk_below (u_ BK124.out) hb); have n1_ := mk_ (below_step (us_ HB.out) hb); have n2_ := mk_ (hbox); have n3_ := mk_ ((by rw [hg]; exact (below_size (us_ HB.out)) : w.heap.size ≤ gb129)); have n4_ := mk_ ((by rw [hg]; exact (below_size (us_ HB.out)) : w.heap.size ≤ gb129)); have n5_ := mk_ ((by rw [hg]; exact Nat.ne_of_lt (blk_lt (u_ BK124.out)) : gb124 ≠ gb129)); have n6_ := mk_ ((by rw [hg]; exact Nat.ne_of_gt (blk_lt (u_ BK124.out)) : gb129 ≠ gb124)); clear BK124; clear HB; have BK124 := n0_; have HB := n1_; have BK129 := n2_; have GW129 := n3_; have GE129 := ge_ n4_.out; have NB124_129 := nq_ n5_.out; have NB129_124 := nq_ n6_.out; clear n0_ n1_ n2_ n3_ n4_ n5_ n6_; clear hb hbox hg; have hnb49 := NB129_124.out; have hnc49 := NB124_129.out; obtain ⟨hcz50_0, hcz50_1, hfz50_0, hfz50_1⟩ := cells2_ BK129.out; obtain ⟨hcz51_0, hcz51_1, hcz51_2, hcz51_3, hcz51_4, hfz51_0, hfz51_1, hfz51_2, hfz51_3, hfz51_4⟩ := cells5_ BK124.out; have p130 : 0 ≤ ((ji38) : Int) := of_decide_eq_true (by first | (with_reducible assumption) | assumption); have q130 : (ji38) < (l0_4.length : Int) := of_decide_eq_true (by first | (with_reducible assumption) | assumption); obtain ⟨ad130, e130, hx130_0, hx130_1⟩ := at_T72 HR0_4.out (ji38) p130 q130; obtain rfl : ad128 = ad130 := (by injection e130); have hn130_0 : ad128.block ≠ gb129 := (ne1_ (by have := lc_ _ _ hx130_0; first | rwa [add_block] at this | exact this) GW129.out); have hn130_1 : ad128.block ≠ gb129 := (ne1_ (by have := lc_ _ _ hx130_0; first | rwa [add_block] at this | exact this) GW129.out); replace hx130_0 := (HB.out.cell (lc_ w _ hx130_0)).trans hx130_0; replace hx130_1 := (HB.out.cell (lc_ w _ hx130_1)).trans hx130_1; replace hx130_0 := (cell_far (p := ⟨gb129, 0, none⟩) (by first | (rw [add_block]; exact hn130_0) | (show (Addr.add _ _).block ≠ _; rw [add_block]; exact hn130_0) | exact hn130_0) (.int .i64 ((rd_T72 l0_4 x3_2).f0))).trans hx130_0; replace hx130_1 := (cell_far (p := ⟨gb129, 0, none⟩) (by first | (rw [add_block]; exact hn130_0) | (show (Addr.add _ _).block ≠ _; rw [add_block]; exact hn130_0) | exact hn130_0) (.int .i64 ((rd_T72 l0_4 x3_2).f0))).trans hx130_1; replace hx130_0 := (cell_far (p := ⟨gb129, 1, none⟩) (by first | (rw [add_block]; exact hn130_1) | (show (Addr.add _ _).block ≠ _; rw [add_block]; exact hn130_1) | exact hn130_1) (.int .i64 ((rd_T72 l0_4 x3_2).f1))).trans hx130_0; replace hx130_1 := (cell_far (p := ⟨gb129, 1, none⟩) (by first | (rw [add_block]; exact hn130_1) | (show (Addr.add _ _).block ≠ _; rw [add_block]; exact hn130_1) | exact hn130_1) (.int .i64 ((rd_T72 l0_4 x3_2).f1))).trans hx130_1; (try have hy130_0 := fun (n_ : Nat) => (show ((((w48.drewN n_).setCell ⟨gb129, 0, none⟩ (.int .i64 ((rd_T72 l0_4 x3_2).f0))).setCell ⟨gb129, 1, none⟩ (.int .i64 ((rd_T72 l0_4 x3_2).f1)))).cell? _ = some _ from hx130_0)); (try have hy130_1 := fun (n_ : Nat) => (show ((((w48.drewN n_).setCell ⟨gb129, 0, none⟩ (.int .i64 ((rd_T72 l0_4 x3_2).f0))).setCell ⟨gb129, 1, none⟩ (.int .i64 ((rd_T72 l0_4 x3_2).f1)))).cell? _ = some _ from hx130_1)); clear hn130_0; clear hn130_1; replace p130 := eq_true p130; replace q130 := eq_true q130))
     repeat (go_quiet (first | ((with_reducible refine gate_dst (N := 4) rfl ?_); refine box_event ?hg (N := 4) ?hd (cs := #[.int .i64 0, .int .i64 0]) (t := 72) ?hr ?_; (case hd => rfl); (case hg => rfl); (case hr => first | (go_simp; done) | (go_simp; rfl)); intro gb129 hg w48 hbox hb; have n0_ := mk_ (blk_below (u_ BK124.out) hb); have n1_ := mk_ (below_step (us_ HB.out) hb); have n2_ := mk_ (hbox); have n3_ := mk_ ((by rw [hg]; exact (below_size (us_ HB.out)) : w.heap.size ≤ gb129)); have n4_ := mk_ ((by rw [hg]; exact (below_size (us_ HB.out)) : w.heap.size ≤ gb129)); have n5_ := mk_ ((by rw [hg]; exact Nat.ne_of_lt (blk_lt (u_ BK124.out)) : gb124 ≠ gb129)); have n6_ := mk_ ((by rw [hg]; exact Nat.ne_of_gt (blk_lt (u_ BK124.out)) : gb129 ≠ gb124)); clear BK124; clear HB; have BK124 := n0_; have HB := n1_; have BK129 := n2_; have GW129 := n3_; have GE129 := ge_ n4_.out; have NB124_129 := nq_ n5_.out; have NB129_124 := nq_ n6_.out; clear n0_ n1_ n2_ n3_ n4_ n5_ n6_; clear hb hbox hg; have hnb49 := NB129_124.out; have hnc49 := NB124_129.out; obtain ⟨hcz50_0, hcz50_1, hfz50_0, hfz50_1⟩ := cells2_ BK129.out; obtain ⟨hcz51_0, hcz51_1, hcz51_2, hcz51_3, hcz51_4, hfz51_0, hfz51_1, hfz51_2, hfz51_3, hfz51_4⟩ := cells5_ BK124.out; have p130 : 0 ≤ ((ji38) : Int) := of_decide_eq_true (by first | (with_reducible assumption) | assumption); have q130 : (ji38) < (l0_4.length : Int) := of_decide_eq_true (by first | (with_reducible assumption) | assumption); obtain ⟨ad130, e130, hx130_0, hx130_1⟩ := at_T72 HR0_4.out (ji38) p130 q130; obtain rfl : ad128 = ad130 := (by injection e130); have hn130_0 : ad128.block ≠ gb129 := (ne1_ (by have := lc_ _ _ hx130_0; first | rwa [add_block] at this | exact this) GW129.out); have hn130_1 : ad128.block ≠ gb129 := (ne1_ (by have := lc_ _ _ hx130_0; first | rwa [add_block] at this | exact this) GW129.out); replace hx130_0 := (HB.out.cell (lc_ w _ hx130_0)).trans hx130_0; replace hx130_1 := (HB.out.cell (lc_ w _ hx130_1)).trans hx130_1; replace hx130_0 := (cell_far (p := ⟨gb129, 0, none⟩) (by first | (rw [add_block]; exact hn130_0) | (show (Addr.add _ _).block ≠ _; rw [add_block]; exact hn130_0) | exact hn130_0) (.int .i64 ((rd_T72 l0_4 x3_2).f0))).trans hx130_0; replace hx130_1 := (cell_far (p := ⟨gb129, 0, none⟩) (by first | (rw [add_block]; exact hn130_0) | (show (Addr.add _ _).block ≠ _; rw [add_block]; exact hn130_0) | exact hn130_0) (.int .i64 ((rd_T72 l0_4 x3_2).f0))).trans hx130_1; replace hx130_0 := (cell_far (p := ⟨gb129, 1, none⟩) (by first | (rw [add_block]; exact hn130_1) | (show (Addr.add _ _).block ≠ _; rw [add_block]; exact hn130_1) | exact hn130_1) (.int .i64 ((rd_T72 l0_4 x3_2).f1))).trans hx130_0; replace hx130_1 := (cell_far (p := ⟨gb129, 1, none⟩) (by first | (rw [add_block]; exact hn130_1) | (show (Addr.add _ _).block ≠ _; rw [add_block]; exact hn130_1) | exact hn130_1) (.int .i64 ((rd_T72 l0_4 x3_2).f1))).trans hx130_1; (try have hy130_0 := fun (n_ : Nat) => (show ((((w48.drewN n_).setCell ⟨gb129, 0, none⟩ (.int .i64 ((rd_T72 l0_4 x3_2).f0))).setCell ⟨gb129, 1, none⟩ (.int .i64 ((rd_T72 l0_4 x3_2).f1)))).cell? _ = some _ from hx130_0)); (try have hy130_1 := fun (n_ : Nat) => (show ((((w48.drewN n_).setCell ⟨gb129, 0, none⟩ (.int .i64 ((rd_T72 l0_4 x3_2).f0))).setCell ⟨gb129, 1, none⟩ (.int .i64 ((rd_T72 l0_4 x3_2).f1)))).cell? _ = some _ from hx130_1)); clear hn130_0; clear hn130_1; replace p130 := eq_true p130; replace q130 := eq_true q130)); try go_wp2_with (first | ((with_reducible refine gate_dst (N := 4) rfl ?_); refine box_event ?hg (N := 4) ?hd (cs := #[.int .i64 0, .int .i64 0]) (t := 72) ?hr ?_; (case hd => rfl); (case hg => rfl); (case hr => first | (go_simp; done) | (go_simp; rfl)); intro gb129 hg w48 hbox hb; have n0_ := mk_ (blk_below (u_ BK124.out) hb); have n1_ := mk_ (below_step (us_ HB.out) hb); have n2_ := mk_ (hbox); have n3_ := mk_ ((by rw [hg]; exact (below_size (us_ HB.out)) : w.heap.size ≤ gb129)); have n4_ := mk_ ((by rw [hg]; exact (below_size (us_ HB.out)) : w.heap.size ≤ gb129)); have n5_ := mk_ ((by rw [hg]; exact Nat.ne_of_lt (blk_lt (u_ BK124.out)) : gb124 ≠ gb129)); have n6_ := mk_ ((by rw [hg]; exact Nat.ne_of_gt (blk_lt (u_ BK124.out)) : gb129 ≠ gb124)); clear BK124; clear HB; have BK124 := n0_; have HB := n1_; have BK129 := n2_; have GW129 := n3_; have GE129 := ge_ n4_.out; have NB124_129 := nq_ n5_.out; have NB129_124 := nq_ n6_.out; clear n0_ n1_ n2_ n3_ n4_ n5_ n6_; clear hb hbox hg; have hnb49 := NB129_124.out; have hnc49 := NB124_129.out; obtain ⟨hcz50_0, hcz50_1, hfz50_0, hfz50_1⟩ := cells2_ BK129.out; obtain ⟨hcz51_0, hcz51_1, hcz51_2, hcz51_3, hcz51_4, hfz51_0, hfz51_1, hfz51_2, hfz51_3, hfz51_4⟩ := cells5_ BK124.out; have p130 : 0 ≤ ((ji38) : Int) := of_decide_eq_true (by first | (with_reducible assumption) | assumption); have q130 : (ji38) < (l0_4.length : Int) := of_decide_eq_true (by first | (with_reducible assumption) | assumption); obtain ⟨ad130, e130, hx130_0, hx130_1⟩ := at_T72 HR0_4.out (ji38) p130 q130; obtain rfl : ad128 = ad130 := (by injection e130); have hn130_0 : ad128.block ≠ gb129 := (ne1_ (by have := lc_ _ _ hx130_0; first | rwa [add_block] at this | exact this) GW129.out); have hn130_1 : ad128.block ≠ gb129 := (ne1_ (by have := lc_ _ _ hx130_0; first | rwa [add_block] at this | exact this) GW129.out); replace hx130_0 := (HB.out.cell (lc_ w _ hx130_0)).trans hx130_0; replace hx130_1 := (HB.out.cell (lc_ w _ hx130_1)).trans hx130_1; replace hx130_0 := (cell_far (p := ⟨gb129, 0, none⟩) (by first | (rw [add_block]; exact hn130_0) | (show (Addr.add _ _).block ≠ _; rw [add_block]; exact hn130_0) | exact hn130_0) (.int .i64 ((rd_T72 l0_4 x3_2).f0))).trans hx130_0; replace hx130_1 := (cell_far (p := ⟨gb129, 0, none⟩) (by first | (rw [add_block]; exact hn130_0) | (show (Addr.add _ _).block ≠ _; rw [add_block]; exact hn130_0) | exact hn130_0) (.int .i64 ((rd_T72 l0_4 x3_2).f0))).trans hx130_1; replace hx130_0 := (cell_far (p := ⟨gb129, 1, none⟩) (by first | (rw [add_block]; exact hn130_1) | (show (Addr.add _ _).block ≠ _; rw [add_block]; exact hn130_1) | exact hn130_1) (.int .i64 ((rd_T72 l0_4 x3_2).f1))).trans hx130_0; replace hx130_1 := (cell_far (p := ⟨gb129, 1, none⟩) (by first | (rw [add_block]; exact hn130_1) | (show (Addr.add _ _).block ≠ _; rw [add_block]; exact hn130_1) | exact hn130_1) (.int .i64 ((rd_T72 l0_4 x3_2).f1))).trans hx130_1; (try have hy130_0 := fun (n_ : Nat) => (show ((((w48.drewN n_).setCell ⟨gb129, 0, none⟩ (.int .i64 ((rd_T72 l0_4 x3_2).f0))).setCell ⟨gb129, 1, none⟩ (.int .i64 ((rd_T72 l0_4 x3_2).f1)))).cell? _ = some _ from hx130_0)); (try have hy130_1 := fun (n_ : Nat) => (show ((((w48.drewN n_).setCell ⟨gb129, 0, none⟩ (.int .i64 ((rd_T72 l0_4 x3_2).f0))).setCell ⟨gb129, 1, none⟩ (.int .i64 ((rd_T72 l0_4 x3_2).f1)))).cell? _ = some _ from hx130_1)); clear hn130_0; clear hn130_1; replace p130 := eq_true p130; replace q130 := eq_true q130)))
     go_roundg k2
     case measure => have := HJ1.out; have := HK2.out; omega
     case rel => exact ⟨(wrap64 (x3_2 + 1)), (by first | rfl | (simp; done) | (simp [*]; done)), H', ⟨by have := HJ1.out; have := HK2.out; omega⟩, ⟨uf_ BK124.out⟩, ⟨us_ HB.out⟩⟩

/-! ### spec_l13Copy: function 82 -/
def spec_l13Copy.f (a0_0 : Int) (l0_1 : List Int) (a0_2 : Int) (a0_3 : Int) (l0_4 : List (S72)) : Option (Int × List Int × Int × Int × (List (S72))) := (some (([] : List Int) : List Int)).bind fun y134 => (if y134.length + l0_1.length < 140737488355328 then ((some (([] : List (S72)) : List (S72))).bind fun y140 => (if y140.length + l0_4.length < 8796093022208 then (some (a0_0, (y134 ++ l0_1), a0_2, a0_3, (y140 ++ l0_4))) else (none))) else (none))
set_option maxHeartbeats 8000000 in
set_option maxRecDepth 100000 in
theorem spec_l13Copy.calls (a0_0 : Int) (A0_1 : Option Addr) (c0_1 : Nat) (l0_1 : List Int) (a0_2 : Int) (a0_3 : Int) (A0_4 : Option Addr) (c0_4 : Nat) (l0_4 : List (S72)) (r1 : Int) (r2 : List Int) (r3 : Int) (r4 : Int) (r5 : List (S72)) (w : World) (hr0_1 : Kd.C (Kd.int .u8) w A0_1 l0_1.length l0_1) (hc0_1 : l0_1.length ≤ c0_1) (hr0_4 : Kd.C k72 w A0_4 l0_4.length l0_4) (hc0_4 : l0_4.length ≤ c0_4) (h : spec_l13Copy.f a0_0 l0_1 a0_2 a0_3 l0_4 = some (r1, r2, r3, r4, r5)) :
  Calls Try.prog 82 #[.agg #[.int .i64 a0_0, .slice A0_1 l0_1.length c0_1, .int .i64 a0_2, .int .i64 a0_3, .slice A0_4 l0_4.length c0_4]] w fun e w' => ∃ v1_ v4_ : Value, e = .returned (.agg #[.int .i64 r1, v1_, .int .i64 r3, .int .i64 r4, v4_]) ∧ Kd.R (Kd.int .u8) 5 w' w.heap.size (fun _ => True) v1_ r2 ∧ Kd.R k72 72 w' w.heap.size (fun _ => True) v4_ r5 ∧ Below w.heap.size w w' := by
 have hu51 := Try.underlying51
 have HR0_1 := mk_ hr0_1
 have HC0_1 := mk_ hc0_1
 clear hr0_1 hc0_1
 have HR0_4 := mk_ hr0_4
 have HC0_4 := mk_ hc0_4
 clear hr0_4 hc0_4
 have HB := mk_ (Below.refl w.heap.size w)
 have H : ((some (([] : List Int) : List Int)).bind fun y134 => (if y134.length + l0_1.length < 140737488355328 then ((some (([] : List (S72)) : List (S72))).bind fun y140 => (if y140.length + l0_4.length < 8796093022208 then (some (a0_0, (y134 ++ l0_1), a0_2, a0_3, (y140 ++ l0_4))) else (none))) else (none))) = some (r1, r2, r3, r4, r5) := h
 clear h
 obtain ⟨y134, hy134⟩ : ∃ y_ : List Int, y_ = (([] : List Int)) := ⟨_, rfl⟩
 replace H : (if y134.length + l0_1.length < 140737488355328 then ((some (([] : List (S72)) : List (S72))).bind fun y140 => (if y140.length + l0_4.length < 8796093022208 then (some (a0_0, (y134 ++ l0_1), a0_2, a0_3, (y140 ++ l0_4))) else (none))) else (none)) = some (r1, r2, r3, r4, r5) := by first | (rw [hy134]; with_reducible exact H) | (have H2_ := (Option.bind_some _ _).symm.trans H; rw [hy134]; with_reducible exact H2_) | (have H2_ := (Option.bind_some _ _).symm.trans H; with_reducible exact H2_) | with_reducible exact H | (rw [hy134]; exact H) | exact H
 have Ny134 := mk_ hy134
 clear hy134
 by_cases c2 : y134.length + l0_1.length < 140737488355328
 rotate_left
 ·rw [if_neg c2] at H
  exact absurd H (by simp)
 rw [if_pos c2] at H
 have LMc2 := mk_ c2
 clear c2
 obtain ⟨y137, hy137⟩ : ∃ y_ : List Int, y_ = (y134 ++ l0_1) := ⟨_, rfl⟩
 replace H : ((some (([] : List (S72)) : List (S72))).bind fun y140 => (if y140.length + l0_4.length < 8796093022208 then (some (a0_0, y137, a0_2, a0_3, (y140 ++ l0_4))) else (none))) = some (r1, r2, r3, r4, r5) := by first | (rw [hy137]; with_reducible exact H) | (have H2_ := (Option.bind_some _ _).symm.trans H; rw [hy137]; with_reducible exact H2_) | (have H2_ := (Option.bind_some _ _).symm.trans H; with_reducible exact H2_) | with_reducible exact H | (rw [hy137]; exact H) | exact H
 have Ny137 := mk_ hy137
 clear hy137
 obtain ⟨y140, hy140⟩ : ∃ y_ : List (S72), y_ = (([] : List (S72))) := ⟨_, rfl⟩
 replace H : (if y140.length + l0_4.length < 8796093022208 then (some (a0_0, y137, a0_2, a0_3, (y140 ++ l0_4))) else (none)) = some (r1, r2, r3, r4, r5) := by first | (rw [hy140]; with_reducible exact H) | (have H2_ := (Option.bind_some _ _).symm.trans H; rw [hy140]; with_reducible exact H2_) | (have H2_ := (Option.bind_some _ _).symm.trans H; with_reducible exact H2_) | with_reducible exact H | (rw [hy140]; exact H) | exact H
 have Ny140 := mk_ hy140
 clear hy140
 by_cases c3 : y140.length + l0_4.length < 8796093022208
 rotate_left
 ·rw [if_neg c3] at H
  exact absurd H (by simp)
 rw [if_pos c3] at H
 have LMc3 := mk_ c3
 clear c3
 obtain ⟨y143, hy143⟩ : ∃ y_ : List (S72), y_ = (y140 ++ l0_4) := ⟨_, rfl⟩
 replace H : (some (a0_0, y137, a0_2, a0_3, y143)) = some (r1, r2, r3, r4, r5) := by first | (rw [hy143]; with_reducible exact H) | (have H2_ := (Option.bind_some _ _).symm.trans H; rw [hy143]; with_reducible exact H2_) | (have H2_ := (Option.bind_some _ _).symm.trans H; with_reducible exact H2_) | with_reducible exact H | (rw [hy143]; exact H) | exact H
 have Ny143 := mk_ hy143
 clear hy143
 simp only [Option.some.injEq, Prod.mk.injEq] at H
 obtain ⟨rfl, rfl, rfl, rfl, rfl⟩ := H
 go_enter Try.func82, Try.ntmps82
 go_wp2_with (first | ((with_reducible refine gate_dst (N := 1) rfl ?_); refine box_event ?hg (N := 1) ?hd (cs := #[.int .i64 a0_0, .slice A0_1 l0_1.length c0_1, .int .i64 a0_2, .int .i64 a0_3, .slice A0_4 l0_4.length c0_4]) (t := 51) ?hr ?_; (case hd => rfl); (case hg => rfl); (case hr => first | (go_simp; done) | (go_simp; rfl)); intro gb131 hg w4 hbox hb; have n0_ := mk_ (below_step (ub_ HB.out) hb); have n1_ := mk_ (hbox); have n2_ := mk_ ((by rw [hg]; exact (below_size (ub_ HB.out)) : w.heap.size ≤ gb131)); have n3_ := mk_ ((by rw [hg]; exact (below_size (ub_ HB.out)) : w.heap.size ≤ gb131)); clear HB; have HB := n0_; have BK131 := n1_; have GW131 := n2_; have GE131 := ge_ n3_.out; clear n0_ n1_ n2_ n3_; clear hb hbox hg) | ((with_reducible refine gate_dst (N := 2) rfl ?_); refine box_event ?hg (N := 2) ?hd (cs := #[.int .i64 0, .slice none 0 0, .int .i64 0, .int .i64 0, .slice none 0 0]) (t := 51) ?hr ?_; (case hd => rfl); (case hg => rfl); (case hr => first | (go_simp; done) | (go_simp; rfl)); intro gb132 hg w5 hbox hb; have n0_ := mk_ (blk_below (u_ BK131.out) hb); have n1_ := mk_ (below_step (us_ HB.out) hb); have n2_ := mk_ (hbox); have n3_ := mk_ ((by rw [hg]; exact (below_size (us_ HB.out)) : w.heap.size ≤ gb132)); have n4_ := mk_ ((by rw [hg]; exact (below_size (us_ HB.out)) : w.heap.size ≤ gb132)); have n5_ := mk_ ((by rw [hg]; exact Nat.ne_of_lt (blk_lt (u_ BK131.out)) : gb131 ≠ gb132)); have n6_ := mk_ ((by rw [hg]; exact Nat.ne_of_gt (blk_lt (u_ BK131.out)) : gb132 ≠ gb131)); clear BK131; clear HB; have BK131 := n0_; have HB := n1_; have BK132 := n2_; have GW132 := n3_; have GE132 := ge_ n4_.out; have NB131_132 := nq_ n5_.out; have NB132_131 := nq_ n6_.out; clear n0_ n1_ n2_ n3_ n4_ n5_ n6_; clear hb hbox hg; have hnb6 := NB131_132.out; have hnc6 := NB132_131.out; obtain ⟨hcz7_0, hcz7_1, hcz7_2, hcz7_3, hcz7_4, hfz7_0, hfz7_1, hfz7_2, hfz7_3, hfz7_4⟩ := cells5_ BK131.out) | ((with_reducible refine gate_dst (N := 3) rfl ?_); refine box_event ?hg (N := 3) ?hd (cs := #[.int .i64 0, .slice none 0 0, .int .i64 0, .int .i64 0, .slice none 0 0]) (t := 51) ?hr ?_; (case hd => rfl); (case hg => rfl); (case hr => first | (go_simp; done) | (go_simp; rfl)); intro gb133 hg w8 hbox hb; have n0_ := mk_ (blk_below (u_ BK131.out) hb); have n1_ := mk_ (blk_below (u_ BK132.out) hb); have n2_ := mk_ (below_step (us_ HB.out) hb); have n3_ := mk_ (hbox); have n4_ := mk_ ((by rw [hg]; exact (below_size (us_ HB.out)) : w.heap.size ≤ gb133)); have n5_ := mk_ ((by rw [hg]; exact (below_size (us_ HB.out)) : w.heap.size ≤ gb133)); have n6_ := mk_ ((by rw [hg]; exact Nat.ne_of_lt (blk_lt (u_ BK131.out)) : gb131 ≠ gb133)); have n7_ := mk_ ((by rw [hg]; exact Nat.ne_of_gt (blk_lt (u_ BK131.out)) : gb133 ≠ gb131)); have n8_ := mk_ ((by rw [hg]; exact Nat.ne_of_lt (blk_lt (u_ BK132.out)) : gb132 ≠ gb133)); have n9_ := mk_ ((by rw [hg]; exact Nat.ne_of_gt (blk_lt (u_ BK132.out)) : gb133 ≠ gb132)); clear BK131; clear BK132; clear HB; have BK131 := n0_; have BK132 := n1_; have HB := n2_; have BK133 := n3_; have GW133 := n4_; have GE133 := ge_ n5_.out; have NB131_133 := nq_ n6_.out; have NB133_131 := nq_ n7_.out; have NB132_133 := nq_ n8_.out; have NB133_132 := nq_ n9_.out; clear n0_ n1_ n2_ n3_ n4_ n5_ n6_ n7_ n8_ n9_; clear hb hbox hg; have hnb9 := NB133_131.out; have hnc9 := NB131_133.out; have hnb10 := NB133_132.out; have hnc10 := NB132_133.out; obtain ⟨hcz11_0, hcz11_1, hcz11_2, hcz11_3, hcz11_4, hfz11_0, hfz11_1, hfz11_2, hfz11_3, hfz11_4⟩ := cells5_ BK133.out) | ((with_reducible refine gate_dst (N := 5) rfl ?_); refine Kd.R_lit (Kd.int .u8) _ 5 ?hg (N := 5) ?hd (xs := ([] : List Int)) (inner := []) (ok := fun _ => True) (okp := fun _ => True) ?hr ?hp (fun _ hk => hk) trivial (Below.refl _ _) (Nat.le_refl _) (by simp) ?_; (case hd => rfl); (case hg => rfl); (case hr => first | (go_simp; done) | (go_simp; rfl)); (case hp => exact (Reps.none _ _)); intro v135 w12 ho13 hb hg_ hnew_; clear hg_ hnew_; (first | rw [← Ny134.out] at ho13 | (simp only [Int.reduceToNat] at ho13; rw [← Ny134.out] at ho13)); have n0_ := mk_ (Kd.R_lower ho13 (below_size (us_ HB.out))); have n1_ := mk_ (blk_below (g := gb131) (o := .cells #[.int .i64 a0_0, .slice A0_1 l0_1.length c0_1, .int .i64 a0_2, .int .i64 a0_3, .slice A0_4 l0_4.length c0_4] 51 (0, 0)) (uf_ BK131.out) hb); have n2_ := mk_ (blk_below (g := gb132) (o := .cells #[.int .i64 0, .slice none 0 0, .int .i64 0, .int .i64 0, .slice none 0 0] 51 (0, 0)) (uf_ BK132.out) hb); have n3_ := mk_ (blk_below (g := gb133) (o := .cells #[.int .i64 a0_0, .slice A0_1 l0_1.length c0_1, .int .i64 a0_2, .int .i64 a0_3, .slice A0_4 l0_4.length c0_4] 51 (0, 0)) (by (with_reducible repeat (first | refine bn_ ?_ _ | refine bw_ ?_ | refine ba_ ?_ _)); refine blk_put (cs := #[.int .i64 a0_0, .slice A0_1 l0_1.length c0_1, .int .i64 a0_2, .int .i64 a0_3, .slice none 0 0]) ?_ 4 _ rfl; (with_reducible repeat (first | refine bn_ ?_ _ | refine bw_ ?_ | refine ba_ ?_ _)); refine blk_put (cs := #[.int .i64 a0_0, .slice A0_1 l0_1.length c0_1, .int .i64 a0_2, .int .i64 0, .slice none 0 0]) ?_ 3 _ rfl; (with_reducible repeat (first | refine bn_ ?_ _ | refine bw_ ?_ | refine ba_ ?_ _)); refine blk_put (cs := #[.int .i64 a0_0, .slice A0_1 l0_1.length c0_1, .int .i64 0, .int .i64 0, .slice none 0 0]) ?_ 2 _ rfl; (with_reducible repeat (first | refine bn_ ?_ _ | refine bw_ ?_ | refine ba_ ?_ _)); refine blk_put (cs := #[.int .i64 a0_0, .slice none 0 0, .int .i64 0, .int .i64 0, .slice none 0 0]) ?_ 1 _ rfl; (with_reducible repeat (first | refine bn_ ?_ _ | refine bw_ ?_ | refine ba_ ?_ _)); refine blk_put (cs := #[.int .i64 0, .slice none 0 0, .int .i64 0, .int .i64 0, .slice none 0 0]) ?_ 0 _ rfl; (with_reducible repeat (first | refine bn_ ?_ _ | refine bw_ ?_ | refine ba_ ?_ _)); exact BK133.out) hb); have n4_ := mk_ (below_step (us_ HB.out) hb); clear BK131; clear BK132; clear BK133; clear HB; have HO136 := n0_; have BK131 := n1_; have BK132 := n2_; have BK133 := n3_; have HB := n4_; clear n0_ n1_ n2_ n3_ n4_; clear hb ho13; obtain ⟨hcz14_0, hcz14_1, hcz14_2, hcz14_3, hcz14_4, hfz14_0, hfz14_1, hfz14_2, hfz14_3, hfz14_4⟩ := cells5_ BK131.out) | ((with_reducible refine gate_builtin (b := .append) (xs := #[.tmp 5, .tmp 7]) rfl ?_); at_builtin; refine Kd.R_append_rows (Kd.int .u8) (w0 := w) w.heap.size rfl (.tmp 5) (.tmp 7) 22 5 (.int .u8 0) 1 rfl Try.underlying22 info5 rfl (by decide) (by omega) v135 y134 l0_1 _ _ _ (fun _ => True) (fun _ => False) rfl rfl ?aO ?aR (fun _ _ h => h) (fun _ h => h.elim) ?aF ?aB ?aS ?aL ?_; (case aR => repeat (first | exact (Kd.C_below HR0_1.out HB.out) | (with_reducible refine Kd.C_alloc ?_ _) | (with_reducible refine Kd.C_drewN ?_ _) | (with_reducible refine Kd.C_drew ?_))); (case aB => exact (us_ HB.out)); (case aF => exact (fun _ _ => trivial)); (case aO => exact (Kd.ur_ HO136.out)); (case aS => exact (below_size (us_ HB.out))); (case aL => have := LMc2.out; omega); intro v138 w15 ho hb hg hat; rw [← Ny137.out] at ho; have n0_ := mk_ (blk_grown (g := gb131) (o := .cells #[.int .i64 a0_0, .slice A0_1 l0_1.length c0_1, .int .i64 a0_2, .int .i64 a0_3, .slice A0_4 l0_4.length c0_4] 51 (0, 0)) (u_ BK131.out) hg (Kd.R_ne HO136.out BK131.out (by decide))); have n1_ := mk_ (blk_grown (g := gb132) (o := .cells #[.int .i64 0, .slice none 0 0, .int .i64 0, .int .i64 0, .slice none 0 0] 51 (0, 0)) (u_ BK132.out) hg (Kd.R_ne HO136.out BK132.out (by decide))); have n2_ := mk_ (blk_grown (g := gb133) (o := .cells #[.int .i64 a0_0, .slice A0_1 l0_1.length c0_1, .int .i64 a0_2, .int .i64 a0_3, .slice A0_4 l0_4.length c0_4] 51 (0, 0)) (u_ BK133.out) hg (Kd.R_ne HO136.out BK133.out (by decide))); have n3_ := mk_ (hb); have n4_ := mk_ (ho); clear BK131; clear BK132; clear BK133; clear HB; clear HO136; have BK131 := n0_; have BK132 := n1_; have BK133 := n2_; have HB := n3_; have HO139 := n4_; clear n0_ n1_ n2_ n3_ n4_; clear ho hb hg hat; obtain ⟨Ao16, co16, eo16⟩ := Kd.R_slice HO139.out; subst eo16; obtain ⟨hcz17_0, hcz17_1, hcz17_2, hcz17_3, hcz17_4, hfz17_0, hfz17_1, hfz17_2, hfz17_3, hfz17_4⟩ := cells5_ BK133.out) | ((with_reducible refine gate_dst (N := 10) rfl ?_); refine Kd.R_lit k72 _ 72 ?hg (N := 10) ?hd (xs := ([] : List (S72))) (inner := []) (ok := fun _ => True) (okp := fun _ => True) ?hr ?hp (fun _ hk => hk) trivial (Below.refl _ _) (Nat.le_refl _) (by simp) ?_; (case hd => rfl); (case hg => rfl); (case hr => first | (go_simp; done) | (go_simp; rfl)); (case hp => exact (Reps.none _ _)); intro v141 w18 ho19 hb hg_ hnew_; clear hg_ hnew_; (first | rw [← Ny140.out] at ho19 | (simp only [Int.reduceToNat] at ho19; rw [← Ny140.out] at ho19)); have n0_ := mk_ (Kd.R_below (by (with_reducible repeat (first | apply Kd.R_alloc | apply Kd.R_drewN | apply Kd.R_drew)); exact (Kd.R_mono (Kd.R_far (p := ⟨gb133, 1, none⟩) (Kd.R_types HO139.out BK133.out (by decide)) (fun _ hk => hk.2) (.slice Ao16 y137.length co16)) (fun _ h_ => by first | exact h_.1 | simp only [h_, ne_eq, not_false_eq_true, and_self]))) hb); have n1_ := mk_ (Kd.R_lower ho19 (below_size (us_ HB.out))); have n2_ := mk_ (blk_below (g := gb131) (o := .cells #[.int .i64 a0_0, .slice A0_1 l0_1.length c0_1, .int .i64 a0_2, .int .i64 a0_3, .slice A0_4 l0_4.length c0_4] 51 (0, 0)) (uf_ BK131.out) hb); have n3_ := mk_ (blk_below (g := gb132) (o := .cells #[.int .i64 0, .slice none 0 0, .int .i64 0, .int .i64 0, .slice none 0 0] 51 (0, 0)) (uf_ BK132.out) hb); have n4_ := mk_ (blk_below (g := gb133) (o := .cells #[.int .i64 a0_0, .slice Ao16 y137.length co16, .int .i64 a0_2, .int .i64 a0_3, .slice A0_4 l0_4.length c0_4] 51 (0, 0)) (by (with_reducible repeat (first | refine bn_ ?_ _ | refine bw_ ?_ | refine ba_ ?_ _)); refine blk_put (cs := #[.int .i64 a0_0, .slice A0_1 l0_1.length c0_1, .int .i64 a0_2, .int .i64 a0_3, .slice A0_4 l0_4.length c0_4]) ?_ 1 _ rfl; (with_reducible repeat (first | refine bn_ ?_ _ | refine bw_ ?_ | refine ba_ ?_ _)); exact BK133.out) hb); have n5_ := mk_ (below_step (us_ HB.out) hb); clear HO139; clear BK131; clear BK132; clear BK133; clear HB; have HO139 := n0_; have HO142 := n1_; have BK131 := n2_; have BK132 := n3_; have BK133 := n4_; have HB := n5_; clear n0_ n1_ n2_ n3_ n4_ n5_; clear hb ho19; obtain ⟨hcz20_0, hcz20_1, hcz20_2, hcz20_3, hcz20_4, hfz20_0, hfz20_1, hfz20_2, hfz20_3, hfz20_4⟩ := cells5_ BK131.out) | ((with_reducible refine gate_builtin (b := .append) (xs := #[.tmp 10, .tmp 12]) rfl ?_); at_builtin; refine Kd.R_append_rows k72 (w0 := w) w.heap.size rfl (.tmp 10) (.tmp 12) 49 72 (.agg #[(.int .i64 0), (.int .i64 0)]) 16 rfl Try.underlying49 info72 rfl (by decide) (by omega) v141 y140 l0_4 _ _ _ (fun _ => True) (fun _ => False) rfl rfl ?aO ?aR (fun _ _ h => h) (fun _ h => h.elim) ?aF ?aB ?aS ?aL ?_; (case aR => repeat (first | exact (Kd.C_below HR0_4.out HB.out) | (with_reducible refine Kd.C_alloc ?_ _) | (with_reducible refine Kd.C_drewN ?_ _) | (with_reducible refine Kd.C_drew ?_))); (case aB => exact (us_ HB.out)); (case aF => exact (fun _ _ => trivial)); (case aO => exact (Kd.ur_ HO142.out)); (case aS => exact (below_size (us_ HB.out))); (case aL => have := LMc3.out; omega); intro v144 w21 ho hb hg hat; rw [← Ny143.out] at ho; have n0_ := mk_ (blk_grown (g := gb131) (o := .cells #[.int .i64 a0_0, .slice A0_1 l0_1.length c0_1, .int .i64 a0_2, .int .i64 a0_3, .slice A0_4 l0_4.length c0_4] 51 (0, 0)) (u_ BK131.out) hg (Kd.R_ne HO142.out BK131.out (by decide))); have n1_ := mk_ (blk_grown (g := gb132) (o := .cells #[.int .i64 0, .slice none 0 0, .int .i64 0, .int .i64 0, .slice none 0 0] 51 (0, 0)) (u_ BK132.out) hg (Kd.R_ne HO142.out BK132.out (by decide))); have n2_ := mk_ (blk_grown (g := gb133) (o := .cells #[.int .i64 a0_0, .slice Ao16 y137.length co16, .int .i64 a0_2, .int .i64 a0_3, .slice A0_4 l0_4.length c0_4] 51 (0, 0)) (u_ BK133.out) hg (Kd.R_ne HO142.out BK133.out (by decide))); have n3_ := mk_ (Kd.R_over' (Kd.ur_ HO139.out) (Kd.R_typed (Kd.ur_ HO142.out)) (by decide) hg); have n4_ := mk_ (hb); have n5_ := mk_ (ho); clear BK131; clear BK132; clear BK133; clear HO139; clear HB; clear HO142; have BK131 := n0_; have BK132 := n1_; have BK133 := n2_; have HO139 := n3_; have HB := n4_; have HO145 := n5_; clear n0_ n1_ n2_ n3_ n4_ n5_; clear ho hb hg hat; obtain ⟨Ao22, co22, eo22⟩ := Kd.R_slice HO145.out; subst eo22; obtain ⟨hcz23_0, hcz23_1, hcz23_2, hcz23_3, hcz23_4, hfz23_0, hfz23_1, hfz23_2, hfz23_3, hfz23_4⟩ := cells5_ BK133.out; obtain ⟨hcz24_0, hcz24_1, hcz24_2, hcz24_3, hcz24_4, hfz24_0, hfz24_1, hfz24_2, hfz24_3, hfz24_4⟩ := cells5_ BK132.out))
 refine bodyPost_ret (results_cell_row rfl _ _ gb132 51 #[.int .i64 a0_0, .slice Ao16 y137.length co16, .int .i64 a0_2, .int .i64 a0_3, .slice Ao22 y143.length co22] (0, 0) _ rfl (by (with_reducible repeat (first | refine bn_ ?_ _ | refine bw_ ?_ | refine ba_ ?_ _)); refine blk_put (cs := #[.int .i64 a0_0, .slice Ao16 y137.length co16, .int .i64 a0_2, .int .i64 a0_3, .slice none 0 0]) ?_ 4 _ rfl; (with_reducible repeat (first | refine bn_ ?_ _ | refine bw_ ?_ | refine ba_ ?_ _)); refine blk_put (cs := #[.int .i64 a0_0, .slice Ao16 y137.length co16, .int .i64 a0_2, .int .i64 0, .slice none 0 0]) ?_ 3 _ rfl; (with_reducible repeat (first | refine bn_ ?_ _ | refine bw_ ?_ | refine ba_ ?_ _)); refine blk_put (cs := #[.int .i64 a0_0, .slice Ao16 y137.length co16, .int .i64 0, .int .i64 0, .slice none 0 0]) ?_ 2 _ rfl; (with_reducible repeat (first | refine bn_ ?_ _ | refine bw_ ?_ | refine ba_ ?_ _)); refine blk_put (cs := #[.int .i64 a0_0, .slice none 0 0, .int .i64 0, .int .i64 0, .slice none 0 0]) ?_ 1 _ rfl; (with_reducible repeat (first | refine bn_ ?_ _ | refine bw_ ?_ | refine ba_ ?_ _)); refine blk_put (cs := #[.int .i64 0, .slice none 0 0, .int .i64 0, .int .i64 0, .slice none 0 0]) ?_ 0 _ rfl; (with_reducible repeat (first | refine bn_ ?_ _ | refine bw_ ?_ | refine ba_ ?_ _)); refine blk_far ?_ NB132_133.out _; (with_reducible repeat (first | refine bn_ ?_ _ | refine bw_ ?_ | refine ba_ ?_ _)); exact BK132.out) Try.underlying51 rfl (by kernel_rfl)) rfl ?_
 exact ⟨_, _, by first | rfl | (simp [errW_none, errW_some] <;> rfl) | (simp [*, errW_none, errW_some] <;> rfl), by (with_reducible repeat (first | apply Kd.R_alloc | apply Kd.R_drewN | apply Kd.R_drew)); exact Kd.R_mono (Kd.R_far (p := ⟨gb132, 4, none⟩) (Kd.R_far (p := ⟨gb132, 3, none⟩) (Kd.R_far (p := ⟨gb132, 2, none⟩) (Kd.R_far (p := ⟨gb132, 1, none⟩) (Kd.R_far (p := ⟨gb132, 0, none⟩) (Kd.R_far (p := ⟨gb133, 4, none⟩) (Kd.R_types (Kd.R_types HO139.out BK133.out (by decide)) BK132.out (by decide)) (fun _ hk => hk.1.2) (.slice Ao22 y143.length co22)) (fun _ hk => hk.2) (.int .i64 a0_0)) (fun _ hk => hk.2) (.slice Ao16 y137.length co16)) (fun _ hk => hk.2) (.int .i64 a0_2)) (fun _ hk => hk.2) (.int .i64 a0_3)) (fun _ hk => hk.2) (.slice Ao22 y143.length co22)) (fun _ hk => trivial), by (with_reducible repeat (first | apply Kd.R_alloc | apply Kd.R_drewN | apply Kd.R_drew)); exact Kd.R_mono (Kd.R_far (p := ⟨gb132, 4, none⟩) (Kd.R_far (p := ⟨gb132, 3, none⟩) (Kd.R_far (p := ⟨gb132, 2, none⟩) (Kd.R_far (p := ⟨gb132, 1, none⟩) (Kd.R_far (p := ⟨gb132, 0, none⟩) (Kd.R_far (p := ⟨gb133, 4, none⟩) (Kd.R_types (Kd.R_types HO145.out BK133.out (by decide)) BK132.out (by decide)) (fun _ hk => hk.1.2) (.slice Ao22 y143.length co22)) (fun _ hk => hk.2) (.int .i64 a0_0)) (fun _ hk => hk.2) (.slice Ao16 y137.length co16)) (fun _ hk => hk.2) (.int .i64 a0_2)) (fun _ hk => hk.2) (.int .i64 a0_3)) (fun _ hk => hk.2) (.slice Ao22 y143.length co22)) (fun _ hk => trivial), us_ HB.out⟩

/-! ### spec_MouthWrite: function 72 -/
def spec_MouthWrite.f (k : Nat) (a0_0 : Int) (l0_1 : List Int) (a0_2 : Int) (a0_3 : Int) (l0_4 : List (S72)) (l1 : List Int) : Option (Int × List Int × Int × Int × (List (S72)) × Int) := (spec_MouthOk.f k a0_0 l0_1 a0_2 a0_3 l0_4).bind fun t148 => (if t148 = true then ((spec_l13Copy.f a0_0 l0_1 a0_2 a0_3 l0_4).bind fun bt149 => (if 0 ≤ (mn (l1.length : Int) (wrap64 (32 - (l0_1.length : Int)))) then (if (mn (l1.length : Int) (wrap64 (32 - (l0_1.length : Int)))) ≤ (l1.length : Int) then (if bt149.2.1.length + (l1.take ((mn (l1.length : Int) (wrap64 (32 - (l0_1.length : Int)))) : Int).toNat).length < 140737488355328 then (some (bt149.1, (bt149.2.1 ++ (l1.take ((mn (l1.length : Int) (wrap64 (32 - (l0_1.length : Int)))) : Int).toNat)), bt149.2.2.1, bt149.2.2.2.1, bt149.2.2.2.2, mn (l1.length : Int) (wrap64 (32 - (l0_1.length : Int))))) else (none)) else (none)) else (none))) else (some (0, ([] : List Int), 0, 0, ([] : List (S72)), 0)))
theorem spec_MouthWrite.mono : ∀ a0 a1 a2 a3 a4 a5 k, LeO (spec_MouthWrite.f k a0 a1 a2 a3 a4 a5) (spec_MouthWrite.f (k + 1) a0 a1 a2 a3 a4 a5) := by
 intro a0 a1 a2 a3 a4 a5 k
 unfold spec_MouthWrite.f
 repeat' first
   | (with_reducible exact spec_MouthOk.mono _ _ _ _ _ _)
   | (with_reducible exact LeO.refl _)
   | (with_reducible exact LeO.none _)
   | (with_reducible refine LeO.ite ?_ ?_)
   | (with_reducible refine LeO.bind ?_ (fun _ => ?_))
   | exact spec_MouthOk.mono _ _ _ _ _ _
   | exact LeO.none _
   | refine LeO.ite ?_ ?_
   | refine LeO.bind ?_ (fun _ => ?_)
def spec_MouthWrite.T5 : Bool × List (List Nat × List Nat) := (true, [([], []), ([0], [0]), ([], []), ([], []), ([2, 3], [2, 3]), ([1, 4], [1, 4]), ([0, 1, 2, 3, 4, 5], []), ([6, 5, 5, 0, 1, 2, 3, 4, 5], [5, 6])])
def spec_MouthWrite.B5 : List Nat := [0, 1, 0, 0, 12, 31, 63, 127]
theorem spec_MouthWrite.tab5 : rtab .any (opsOf Try.f72 5) = spec_MouthWrite.T5 := by kernel_rfl
theorem spec_MouthWrite.bits5 : waitsOk spec_MouthWrite.T5.2 spec_MouthWrite.B5 = true := by kernel_rfl
set_option maxHeartbeats 8000000 in
set_option maxRecDepth 100000 in
theorem spec_MouthWrite.calls (k : Nat) (a0_0 : Int) (A0_1 : Option Addr) (c0_1 : Nat) (l0_1 : List Int) (a0_2 : Int) (a0_3 : Int) (A0_4 : Option Addr) (c0_4 : Nat) (l0_4 : List (S72)) (A1 : Option Addr) (c1 : Nat) (l1 : List Int) (r1 : Int) (r2 : List Int) (r3 : Int) (r4 : Int) (r5 : List (S72)) (r6 : Int) (w : World) (hr0_1 : Kd.C (Kd.int .u8) w A0_1 l0_1.length l0_1) (hc0_1 : l0_1.length ≤ c0_1) (hr0_4 : Kd.C k72 w A0_4 l0_4.length l0_4) (hc0_4 : l0_4.length ≤ c0_4) (hr1 : Kd.C (Kd.int .u8) w A1 l1.length l1) (hc1 : l1.length ≤ c1) (h : spec_MouthWrite.f k a0_0 l0_1 a0_2 a0_3 l0_4 l1 = some (r1, r2, r3, r4, r5, r6)) :
  Calls Try.prog 72 #[.agg #[.int .i64 a0_0, .slice A0_1 l0_1.length c0_1, .int .i64 a0_2, .int .i64 a0_3, .slice A0_4 l0_4.length c0_4], .slice A1 l1.length c1] w fun e w' => ∃ v1_ v4_ : Value, e = .returned (.tuple #[.agg #[.int .i64 r1, v1_, .int .i64 r3, .int .i64 r4, v4_], .int .i64 r6]) ∧ Kd.R (Kd.int .u8) 5 w' w.heap.size (fun _ => True) v1_ r2 ∧ Kd.R k72 72 w' w.heap.size (fun _ => True) v4_ r5 ∧ Below w.heap.size w w' := by
 have hu51 := Try.underlying51
 have HR0_1 := mk_ hr0_1
 have HC0_1 := mk_ hc0_1
 clear hr0_1 hc0_1
 have HR0_4 := mk_ hr0_4
 have HC0_4 := mk_ hc0_4
 clear hr0_4 hc0_4
 have HR1 := mk_ hr1
 have HC1 := mk_ hc1
 clear hr1 hc1
 have HB := mk_ (Below.refl w.heap.size w)
 have H : ((spec_MouthOk.f k a0_0 l0_1 a0_2 a0_3 l0_4).bind fun t148 => (if t148 = true then ((spec_l13Copy.f a0_0 l0_1 a0_2 a0_3 l0_4).bind fun bt149 => (if 0 ≤ (mn (l1.length : Int) (wrap64 (32 - (l0_1.length : Int)))) then (if (mn (l1.length : Int) (wrap64 (32 - (l0_1.length : Int)))) ≤ (l1.length : Int) then (if bt149.2.1.length + (l1.take ((mn (l1.length : Int) (wrap64 (32 - (l0_1.length : Int)))) : Int).toNat).length < 140737488355328 then (some (bt149.1, (bt149.2.1 ++ (l1.take ((mn (l1.length : Int) (wrap64 (32 - (l0_1.length : Int)))) : Int).toNat)), bt149.2.2.1, bt149.2.2.2.1, bt149.2.2.2.2, mn (l1.length : Int) (wrap64 (32 - (l0_1.length : Int))))) else (none)) else (none)) else (none))) else (some (0, ([] : List Int), 0, 0, ([] : List (S72)), 0)))) = some (r1, r2, r3, r4, r5, r6) := h
 clear h
 replace H := Option.bind_eq_some_iff.mp H
 obtain ⟨t148, A30, H⟩ := H
 replace H : (if t148 = true then ((spec_l13Copy.f a0_0 l0_1 a0_2 a0_3 l0_4).bind fun bt149 => (if 0 ≤ (mn (l1.length : Int) (wrap64 (32 - (l0_1.length : Int)))) then (if (mn (l1.length : Int) (wrap64 (32 - (l0_1.length : Int)))) ≤ (l1.length : Int) then (if bt149.2.1.length + (l1.take ((mn (l1.length : Int) (wrap64 (32 - (l0_1.length : Int)))) : Int).toNat).length < 140737488355328 then (some (bt149.1, (bt149.2.1 ++ (l1.take ((mn (l1.length : Int) (wrap64 (32 - (l0_1.length : Int)))) : Int).toNat)), bt149.2.2.1, bt149.2.2.2.1, bt149.2.2.2.2, mn (l1.length : Int) (wrap64 (32 - (l0_1.length : Int))))) else (none)) else (none)) else (none))) else (some (0, ([] : List Int), 0, 0, ([] : List (S72)), 0))) = some (r1, r2, r3, r4, r5, r6) := H
 have A3 := mk_ A30
 clear A30
 by_cases c4 : t148 = true
 rotate_left
 ·replace c4 := Bool.eq_false_iff.mpr c4
  subst c4
  have H1 : (some (0, ([] : List Int), 0, 0, ([] : List (S72)), 0)) = some (r1, r2, r3, r4, r5, r6) := by rw [if_neg (show ¬ (false = true) by decide)] at H; exact H
  clear H
  have H := H1
  clear H1
  simp only [Option.some.injEq, Prod.mk.injEq] at H
  obtain ⟨rfl, rfl, rfl, rfl, rfl, rfl⟩ := H
  go_enter Try.func72, Try.ntmps72
  go_wp2_with (first | ((with_reducible refine gate_dst (N := 2) rfl ?_); refine box_event ?hg (N := 2) ?hd (cs := #[.int .i64 a0_0, .slice A0_1 l0_1.length c0_1, .int .i64 a0_2, .int .i64 a0_3, .slice A0_4 l0_4.length c0_4]) (t := 51) ?hr ?_; (case hd => rfl); (case hg => rfl); (case hr => first | (go_simp; done) | (go_simp; rfl)); intro gb146 hg w32 hbox hb; have n0_ := mk_ (below_step (ub_ HB.out) hb); have n1_ := mk_ (hbox); have n2_ := mk_ ((by rw [hg]; exact (below_size (ub_ HB.out)) : w.heap.size ≤ gb146)); have n3_ := mk_ ((by rw [hg]; exact (below_size (ub_ HB.out)) : w.heap.size ≤ gb146)); clear HB; have HB := n0_; have BK146 := n1_; have GW146 := n2_; have GE146 := ge_ n3_.out; clear n0_ n1_ n2_ n3_; clear hb hbox hg) | ((with_reducible refine gate_dst (N := 4) rfl ?_); refine box_event ?hg (N := 4) ?hd (cs := #[.int .i64 0, .slice none 0 0, .int .i64 0, .int .i64 0, .slice none 0 0]) (t := 51) ?hr ?_; (case hd => rfl); (case hg => rfl); (case hr => first | (go_simp; done) | (go_simp; rfl)); intro gb147 hg w33 hbox hb; have n0_ := mk_ (blk_below (u_ BK146.out) hb); have n1_ := mk_ (below_step (us_ HB.out) hb); have n2_ := mk_ (hbox); have n3_ := mk_ ((by rw [hg]; exact (below_size (us_ HB.out)) : w.heap.size ≤ gb147)); have n4_ := mk_ ((by rw [hg]; exact (below_size (us_ HB.out)) : w.heap.size ≤ gb147)); have n5_ := mk_ ((by rw [hg]; exact Nat.ne_of_lt (blk_lt (u_ BK146.out)) : gb146 ≠ gb147)); have n6_ := mk_ ((by rw [hg]; exact Nat.ne_of_gt (blk_lt (u_ BK146.out)) : gb147 ≠ gb146)); clear BK146; clear HB; have BK146 := n0_; have HB := n1_; have BK147 := n2_; have GW147 := n3_; have GE147 := ge_ n4_.out; have NB146_147 := nq_ n5_.out; have NB147_146 := nq_ n6_.out; clear n0_ n1_ n2_ n3_ n4_ n5_ n6_; clear hb hbox hg; have hnb34 := NB146_147.out; have hnc34 := NB147_146.out; obtain ⟨hcz35_0, hcz35_1, hcz35_2, hcz35_3, hcz35_4, hfz35_0, hfz35_1, hfz35_2, hfz35_3, hfz35_4⟩ := cells5_ BK146.out) | ((with_reducible refine gate_callee (f := 32) rfl ?_); refine goesL_ (some 9) rfl rfl Try.func32 (by kernel_rfl) rfl #[.agg #[.int .i64 a0_0, .slice A0_1 l0_1.length c0_1, .int .i64 a0_2, .int .i64 a0_3, .slice A0_4 l0_4.length c0_4]] rfl (by (try simp only [lm_, lo_, ln_]); first | done | rfl | (simp only [List.length_drop, List.length_take]; rfl)) ?_; (with_reducible refine (spec_MouthOk.calls k a0_0 _ _ l0_1 a0_2 a0_3 _ _ l0_4 false _ ?side1 ?side2 ?side3 ?side4 A3.out).mono ?_); (case side1 => repeat (first | exact (Kd.C_below HR0_1.out HB.out) | (with_reducible refine Kd.C_alloc ?_ _) | (with_reducible refine Kd.C_drewN ?_ _) | (with_reducible refine Kd.C_drew ?_))); (case side2 => exact HC0_1.out); (case side3 => repeat (first | exact (Kd.C_below HR0_4.out HB.out) | (with_reducible refine Kd.C_alloc ?_ _) | (with_reducible refine Kd.C_drewN ?_ _) | (with_reducible refine Kd.C_drew ?_))); (case side4 => exact HC0_4.out); rintro e w36 ⟨rfl, hb⟩; refine ⟨_, rfl, ?_⟩; have n0_ := mk_ (blk_below (u_ BK146.out) hb); have n1_ := mk_ (blk_below (u_ BK147.out) hb); have n2_ := mk_ (below_step (us_ HB.out) hb); clear BK146; clear BK147; clear HB; have BK146 := n0_; have BK147 := n1_; have HB := n2_; clear n0_ n1_ n2_; (try clear hb); (try clear hb2); (try clear hk); (try clear hi); obtain ⟨hcz37_0, hcz37_1, hcz37_2, hcz37_3, hcz37_4, hfz37_0, hfz37_1, hfz37_2, hfz37_3, hfz37_4⟩ := cells5_ BK147.out))
  refine bodyPost_ret (results_ct rfl _ _ gb147 51 #[.int .i64 0, .slice none 0 0, .int .i64 0, .int .i64 0, .slice none 0 0] (0, 0) _ rfl (by (with_reducible repeat (first | refine bn_ ?_ _ | refine bw_ ?_ | refine ba_ ?_ _)); refine blk_put (cs := #[.int .i64 0, .slice none 0 0, .int .i64 0, .int .i64 0, .slice none 0 0]) ?_ 4 _ rfl; (with_reducible repeat (first | refine bn_ ?_ _ | refine bw_ ?_ | refine ba_ ?_ _)); refine blk_put (cs := #[.int .i64 0, .slice none 0 0, .int .i64 0, .int .i64 0, .slice none 0 0]) ?_ 3 _ rfl; (with_reducible repeat (first | refine bn_ ?_ _ | refine bw_ ?_ | refine ba_ ?_ _)); refine blk_put (cs := #[.int .i64 0, .slice none 0 0, .int .i64 0, .int .i64 0, .slice none 0 0]) ?_ 2 _ rfl; (with_reducible repeat (first | refine bn_ ?_ _ | refine bw_ ?_ | refine ba_ ?_ _)); refine blk_put (cs := #[.int .i64 0, .slice none 0 0, .int .i64 0, .int .i64 0, .slice none 0 0]) ?_ 1 _ rfl; (with_reducible repeat (first | refine bn_ ?_ _ | refine bw_ ?_ | refine ba_ ?_ _)); refine blk_put (cs := #[.int .i64 0, .slice none 0 0, .int .i64 0, .int .i64 0, .slice none 0 0]) ?_ 0 _ rfl; (with_reducible repeat (first | refine bn_ ?_ _ | refine bw_ ?_ | refine ba_ ?_ _)); exact BK147.out) Try.underlying51 rfl (by kernel_rfl)) rfl ?_
  exact ⟨_, _, by first | rfl | (simp [errW_none, errW_some] <;> rfl) | (simp [*, errW_none, errW_some] <;> rfl), by first | exact Kd.R_nil _ _ _ _ _ | exact Kd.N_nil _ _ _ _ _ | exact Kd.V_nil _ _ _ _ _ | exact Kd.Q_nil _ _ _ _ _ | exact Kd.S_nil _ _ _ _ _, by first | exact Kd.R_nil _ _ _ _ _ | exact Kd.N_nil _ _ _ _ _ | exact Kd.V_nil _ _ _ _ _ | exact Kd.Q_nil _ _ _ _ _ | exact Kd.S_nil _ _ _ _ _, us_ HB.out⟩
 subst c4
 have H1 : ((spec_l13Copy.f a0_0 l0_1 a0_2 a0_3 l0_4).bind fun bt149 => (if 0 ≤ (mn (l1.length : Int) (wrap64 (32 - (l0_1.length : Int)))) then (if (mn (l1.length : Int) (wrap64 (32 - (l0_1.length : Int)))) ≤ (l1.length : Int) then (if bt149.2.1.length + (l1.take ((mn (l1.length : Int) (wrap64 (32 - (l0_1.length : Int)))) : Int).toNat).length < 140737488355328 then (some (bt149.1, (bt149.2.1 ++ (l1.take ((mn (l1.length : Int) (wrap64 (32 - (l0_1.length : Int)))) : Int).toNat)), bt149.2.2.1, bt149.2.2.2.1, bt149.2.2.2.2, mn (l1.length : Int) (wrap64 (32 - (l0_1.length : Int))))) else (none)) else (none)) else (none))) = some (r1, r2, r3, r4, r5, r6) := by rw [if_pos rfl] at H; exact H
 clear H
 have H := H1
 clear H1
 replace H := Option.bind_eq_some_iff.mp H
 obtain ⟨⟨t149, t150, t153, t154, t155⟩, A50, H⟩ := H
 replace H : (if 0 ≤ (mn (l1.length : Int) (wrap64 (32 - (l0_1.length : Int)))) then (if (mn (l1.length : Int) (wrap64 (32 - (l0_1.length : Int)))) ≤ (l1.length : Int) then (if t150.length + (l1.take ((mn (l1.length : Int) (wrap64 (32 - (l0_1.length : Int)))) : Int).toNat).length < 140737488355328 then (some (t149, (t150 ++ (l1.take ((mn (l1.length : Int) (wrap64 (32 - (l0_1.length : Int)))) : Int).toNat)), t153, t154, t155, mn (l1.length : Int) (wrap64 (32 - (l0_1.length : Int))))) else (none)) else (none)) else (none)) = some (r1, r2, r3, r4, r5, r6) := H
 have A5 := mk_ A50
 clear A50
 obtain ⟨ji6, hji6⟩ : ∃ j_ : Int, (mn (l1.length : Int) (wrap64 (32 - (l0_1.length : Int)))) = j_ := ⟨_, rfl⟩
 replace H : (if 0 ≤ (ji6) then (if (ji6) ≤ (l1.length : Int) then (if t150.length + (l1.take ((ji6) : Int).toNat).length < 140737488355328 then (some (t149, (t150 ++ (l1.take ((ji6) : Int).toNat)), t153, t154, t155, ji6)) else (none)) else (none)) else (none)) = some (r1, r2, r3, r4, r5, r6) := by first | (rw [hji6] at H; exact H) | (simp only [hji6] at H ⊢; exact H)
 (try rw [hji6] at A3)
 (try rw [hji6] at A5)
 have hji6_ : (if (wrap64 (32 - (l0_1.length : Int))) < (l1.length : Int) then (wrap64 (32 - (l0_1.length : Int))) else (l1.length : Int)) = ji6 := hji6
 by_cases c7 : 0 ≤ (ji6)
 rotate_left
 ·rw [if_neg c7] at H
  exact absurd H (by simp)
 rw [if_pos c7] at H
 have c7b0 := eq_true c7
 have c7b1 : decide (0 ≤ (ji6)) = true := decide_eq_true c7
 clear c7
 by_cases c8 : (ji6) ≤ (l1.length : Int)
 rotate_left
 ·rw [if_neg c8] at H
  exact absurd H (by simp)
 rw [if_pos c8] at H
 have c8b0 := eq_true c8
 have c8b1 : decide ((ji6) ≤ (l1.length : Int)) = true := decide_eq_true c8
 clear c8
 by_cases c9 : t150.length + (l1.take ((ji6) : Int).toNat).length < 140737488355328
 rotate_left
 ·rw [if_neg c9] at H
  exact absurd H (by simp)
 rw [if_pos c9] at H
 have LMc9 := mk_ c9
 clear c9
 obtain ⟨y160, hy160⟩ : ∃ y_ : List Int, y_ = (t150 ++ (l1.take ((ji6) : Int).toNat)) := ⟨_, rfl⟩
 replace H : (some (t149, y160, t153, t154, t155, ji6)) = some (r1, r2, r3, r4, r5, r6) := by first | (rw [hy160]; with_reducible exact H) | (have H2_ := (Option.bind_some _ _).symm.trans H; rw [hy160]; with_reducible exact H2_) | (have H2_ := (Option.bind_some _ _).symm.trans H; with_reducible exact H2_) | with_reducible exact H | (rw [hy160]; exact H) | exact H
 have Ny160 := mk_ hy160
 clear hy160
 simp only [Option.some.injEq, Prod.mk.injEq] at H
 obtain ⟨rfl, rfl, rfl, rfl, rfl, rfl⟩ := H
 go_enter Try.func72, Try.ntmps72
 try go_wp2_with (first | ((with_reducible refine gate_dst (N := 2) rfl ?_); refine box_event ?hg (N := 2) ?hd (cs := #[.int .i64 a0_0, .slice A0_1 l0_1.length c0_1, .int .i64 a0_2, .int .i64 a0_3, .slice A0_4 l0_4.length c0_4]) (t := 51) ?hr ?_; (case hd => rfl); (case hg => rfl); (case hr => first | (go_simp; done) | (go_simp; rfl)); intro gb146 hg w10 hbox hb; have n0_ := mk_ (below_step (ub_ HB.out) hb); have n1_ := mk_ (hbox); have n2_ := mk_ ((by rw [hg]; exact (below_size (ub_ HB.out)) : w.heap.size ≤ gb146)); have n3_ := mk_ ((by rw [hg]; exact (below_size (ub_ HB.out)) : w.heap.size ≤ gb146)); clear HB; have HB := n0_; have BK146 := n1_; have GW146 := n2_; have GE146 := ge_ n3_.out; clear n0_ n1_ n2_ n3_; clear hb hbox hg) | ((with_reducible refine gate_dst (N := 4) rfl ?_); refine box_event ?hg (N := 4) ?hd (cs := #[.int .i64 0, .slice none 0 0, .int .i64 0, .int .i64 0, .slice none 0 0]) (t := 51) ?hr ?_; (case hd => rfl); (case hg => rfl); (case hr => first | (go_simp; done) | (go_simp; rfl)); intro gb147 hg w11 hbox hb; have n0_ := mk_ (blk_below (u_ BK146.out) hb); have n1_ := mk_ (below_step (us_ HB.out) hb); have n2_ := mk_ (hbox); have n3_ := mk_ ((by rw [hg]; exact (below_size (us_ HB.out)) : w.heap.size ≤ gb147)); have n4_ := mk_ ((by rw [hg]; exact (below_size (us_ HB.out)) : w.heap.size ≤ gb147)); have n5_ := mk_ ((by rw [hg]; exact Nat.ne_of_lt (blk_lt (u_ BK146.out)) : gb146 ≠ gb147)); have n6_ := mk_ ((by rw [hg]; exact Nat.ne_of_gt (blk_lt (u_ BK146.out)) : gb147 ≠ gb146)); clear BK146; clear HB; have BK146 := n0_; have HB := n1_; have BK147 := n2_; have GW147 := n3_; have GE147 := ge_ n4_.out; have NB146_147 := nq_ n5_.out; have NB147_146 := nq_ n6_.out; clear n0_ n1_ n2_ n3_ n4_ n5_ n6_; clear hb hbox hg; have hnb12 := NB146_147.out; have hnc12 := NB147_146.out; obtain ⟨hcz13_0, hcz13_1, hcz13_2, hcz13_3, hcz13_4, hfz13_0, hfz13_1, hfz13_2, hfz13_3, hfz13_4⟩ := cells5_ BK146.out) | ((with_reducible refine gate_callee (f := 32) rfl ?_); refine goesL_ (some 9) rfl rfl Try.func32 (by kernel_rfl) rfl #[.agg #[.int .i64 a0_0, .slice A0_1 l0_1.length c0_1, .int .i64 a0_2, .int .i64 a0_3, .slice A0_4 l0_4.length c0_4]] rfl (by (try simp only [lm_, lo_, ln_]); first | done | rfl | (simp only [List.length_drop, List.length_take]; rfl)) ?_; (with_reducible refine (spec_MouthOk.calls k a0_0 _ _ l0_1 a0_2 a0_3 _ _ l0_4 true _ ?side1 ?side2 ?side3 ?side4 A3.out).mono ?_); (case side1 => repeat (first | exact (Kd.C_below HR0_1.out HB.out) | (with_reducible refine Kd.C_alloc ?_ _) | (with_reducible refine Kd.C_drewN ?_ _) | (with_reducible refine Kd.C_drew ?_))); (case side2 => exact HC0_1.out); (case side3 => repeat (first | exact (Kd.C_below HR0_4.out HB.out) | (with_reducible refine Kd.C_alloc ?_ _) | (with_reducible refine Kd.C_drewN ?_ _) | (with_reducible refine Kd.C_drew ?_))); (case side4 => exact HC0_4.out); rintro e w14 ⟨rfl, hb⟩; refine ⟨_, rfl, ?_⟩; have n0_ := mk_ (blk_below (u_ BK146.out) hb); have n1_ := mk_ (blk_below (u_ BK147.out) hb); have n2_ := mk_ (below_step (us_ HB.out) hb); clear BK146; clear BK147; clear HB; have BK146 := n0_; have BK147 := n1_; have HB := n2_; clear n0_ n1_ n2_; (try clear hb); (try clear hb2); (try clear hk); (try clear hi); obtain ⟨hcz15_0, hcz15_1, hcz15_2, hcz15_3, hcz15_4, hfz15_0, hfz15_1, hfz15_2, hfz15_3, hfz15_4⟩ := cells5_ BK146.out) | ((with_reducible refine gate_callee (f := 82) rfl ?_); refine goesL_ (some 13) rfl rfl Try.func82 (by kernel_rfl) rfl #[.agg #[.int .i64 a0_0, .slice A0_1 l0_1.length c0_1, .int .i64 a0_2, .int .i64 a0_3, .slice A0_4 l0_4.length c0_4]] rfl (by (try simp only [lm_, lo_, ln_]); first | done | rfl | (simp only [List.length_drop, List.length_take]; rfl)) ?_; (with_reducible refine (spec_l13Copy.calls a0_0 _ _ l0_1 a0_2 a0_3 _ _ l0_4 t149 t150 t153 t154 t155 _ ?side1 ?side2 ?side3 ?side4 A5.out).mono ?_); (case side1 => repeat (first | exact (Kd.C_below HR0_1.out HB.out) | (with_reducible refine Kd.C_alloc ?_ _) | (with_reducible refine Kd.C_drewN ?_ _) | (with_reducible refine Kd.C_drew ?_))); (case side2 => exact HC0_1.out); (case side3 => repeat (first | exact (Kd.C_below HR0_4.out HB.out) | (with_reducible refine Kd.C_alloc ?_ _) | (with_reducible refine Kd.C_drewN ?_ _) | (with_reducible refine Kd.C_drew ?_))); (case side4 => exact HC0_4.out); rintro e w16 ⟨v151, v156, rfl, ho0, ho1, hb⟩; refine ⟨_, rfl, ?_⟩; have n0_ := mk_ (Kd.R_lower ho0 (below_size (us_ HB.out))); have n1_ := mk_ (Kd.R_lower ho1 (below_size (us_ HB.out))); have n2_ := mk_ (blk_below (u_ BK146.out) hb); have n3_ := mk_ (blk_below (u_ BK147.out) hb); have n4_ := mk_ (below_step (us_ HB.out) hb); clear BK146; clear BK147; clear HB; have HO152 := n0_; have HO157 := n1_; have BK146 := n2_; have BK147 := n3_; have HB := n4_; clear n0_ n1_ n2_ n3_ n4_; (try clear hb); (try clear hb2); (try clear hk); (try clear hi); (try clear ho0); (try clear ho1)) | ((with_reducible refine gate_dst (N := 6) rfl ?_); refine box_event ?hg (N := 6) ?hd (cs := #[.int .i64 0, .slice none 0 0, .int .i64 0, .int .i64 0, .slice none 0 0]) (t := 51) ?hr ?_; (case hd => rfl); (case hg => rfl); (case hr => first | (go_simp; done) | (go_simp; rfl)); intro gb158 hg w17 hbox hb; have n0_ := mk_ (Kd.R_below (Kd.ur_ HO152.out) hb); have n1_ := mk_ (Kd.R_below (Kd.ur_ HO157.out) hb); have n2_ := mk_ (blk_below (u_ BK146.out) hb); have n3_ := mk_ (blk_below (u_ BK147.out) hb); have n4_ := mk_ (below_step (us_ HB.out) hb); have n5_ := mk_ (hbox); have n6_ := mk_ ((by rw [hg]; exact (below_size (us_ HB.out)) : w.heap.size ≤ gb158)); have n7_ := mk_ ((by rw [hg]; exact (below_size (us_ HB.out)) : w.heap.size ≤ gb158)); have n8_ := mk_ ((by rw [hg]; exact Nat.ne_of_lt (blk_lt (u_ BK146.out)) : gb146 ≠ gb158)); have n9_ := mk_ ((by rw [hg]; exact Nat.ne_of_gt (blk_lt (u_ BK146.out)) : gb158 ≠ gb146)); have n10_ := mk_ ((by rw [hg]; exact Nat.ne_of_lt (blk_lt (u_ BK147.out)) : gb147 ≠ gb158)); have n11_ := mk_ ((by rw [hg]; exact Nat.ne_of_gt (blk_lt (u_ BK147.out)) : gb158 ≠ gb147)); clear HO152; clear HO157; clear BK146; clear BK147; clear HB; have HO152 := n0_; have HO157 := n1_; have BK146 := n2_; have BK147 := n3_; have HB := n4_; have BK158 := n5_; have GW158 := n6_; have GE158 := ge_ n7_.out; have NB146_158 := nq_ n8_.out; have NB158_146 := nq_ n9_.out; have NB147_158 := nq_ n10_.out; have NB158_147 := nq_ n11_.out; clear n0_ n1_ n2_ n3_ n4_ n5_ n6_ n7_ n8_ n9_ n10_ n11_; clear hb hbox hg; have hnb18 := NB158_146.out; have hnc18 := NB146_158.out; have hnb19 := NB158_147.out; have hnc19 := NB147_158.out; obtain ⟨hcz20_0, hcz20_1, hcz20_2, hcz20_3, hcz20_4, hfz20_0, hfz20_1, hfz20_2, hfz20_3, hfz20_4⟩ := cells5_ BK158.out; obtain ⟨Ao21, co21, eo21⟩ := Kd.R_slice HO152.out; subst eo21; obtain ⟨Ao22, co22, eo22⟩ := Kd.R_slice HO157.out; subst eo22; obtain ⟨hcz23_0, hcz23_1, hcz23_2, hcz23_3, hcz23_4, hfz23_0, hfz23_1, hfz23_2, hfz23_3, hfz23_4⟩ := cells5_ BK146.out))
 have n0_ : Aside0 (Kd.R (Kd.int .u8) 5 (((((w17.setCell ⟨gb158, 0, none⟩ (.int .i64 t149)).setCell ⟨gb158, 1, none⟩ (.slice Ao21 t150.length co21)).setCell ⟨gb158, 2, none⟩ (.int .i64 t153)).setCell ⟨gb158, 3, none⟩ (.int .i64 t154)).setCell ⟨gb158, 4, none⟩ (.slice Ao22 t155.length co22)) w.heap.size (fun _ => True) (.slice Ao21 t150.length co21) t150) := ⟨by (with_reducible repeat (first | apply Kd.R_alloc | apply Kd.R_drewN | apply Kd.R_drew)); exact Kd.R_mono (Kd.R_far (p := ⟨gb158, 4, none⟩) (Kd.R_far (p := ⟨gb158, 3, none⟩) (Kd.R_far (p := ⟨gb158, 2, none⟩) (Kd.R_far (p := ⟨gb158, 1, none⟩) (Kd.R_far (p := ⟨gb158, 0, none⟩) (Kd.R_types HO152.out BK158.out (by decide)) (fun _ hk => hk.2) (.int .i64 t149)) (fun _ hk => hk.2) (.slice Ao21 t150.length co21)) (fun _ hk => hk.2) (.int .i64 t153)) (fun _ hk => hk.2) (.int .i64 t154)) (fun _ hk => hk.2) (.slice Ao22 t155.length co22)) (fun _ hk => trivial)⟩
 have n1_ : Aside0 (Kd.R k72 72 (((((w17.setCell ⟨gb158, 0, none⟩ (.int .i64 t149)).setCell ⟨gb158, 1, none⟩ (.slice Ao21 t150.length co21)).setCell ⟨gb158, 2, none⟩ (.int .i64 t153)).setCell ⟨gb158, 3, none⟩ (.int .i64 t154)).setCell ⟨gb158, 4, none⟩ (.slice Ao22 t155.length co22)) w.heap.size (fun _ => True) (.slice Ao22 t155.length co22) t155) := ⟨by (with_reducible repeat (first | apply Kd.R_alloc | apply Kd.R_drewN | apply Kd.R_drew)); exact Kd.R_mono (Kd.R_far (p := ⟨gb158, 4, none⟩) (Kd.R_far (p := ⟨gb158, 3, none⟩) (Kd.R_far (p := ⟨gb158, 2, none⟩) (Kd.R_far (p := ⟨gb158, 1, none⟩) (Kd.R_far (p := ⟨gb158, 0, none⟩) (Kd.R_types HO157.out BK158.out (by decide)) (fun _ hk => hk.2) (.int .i64 t149)) (fun _ hk => hk.2) (.slice Ao21 t150.length co21)) (fun _ hk => hk.2) (.int .i64 t153)) (fun _ hk => hk.2) (.int .i64 t154)) (fun _ hk => hk.2) (.slice Ao22 t155.length co22)) (fun _ hk => trivial)⟩
 have n2_ : Aside0 ((((((w17.setCell ⟨gb158, 0, none⟩ (.int .i64 t149)).setCell ⟨gb158, 1, none⟩ (.slice Ao21 t150.length co21)).setCell ⟨gb158, 2, none⟩ (.int .i64 t153)).setCell ⟨gb158, 3, none⟩ (.int .i64 t154)).setCell ⟨gb158, 4, none⟩ (.slice Ao22 t155.length co22)).heap[gb146]? = some (.cells #[.int .i64 a0_0, .slice A0_1 l0_1.length c0_1, .int .i64 a0_2, .int .i64 a0_3, .slice A0_4 l0_4.length c0_4] 51 (0, 0))) := ⟨uf_ BK146.out⟩
 have n3_ : Aside0 ((((((w17.setCell ⟨gb158, 0, none⟩ (.int .i64 t149)).setCell ⟨gb158, 1, none⟩ (.slice Ao21 t150.length co21)).setCell ⟨gb158, 2, none⟩ (.int .i64 t153)).setCell ⟨gb158, 3, none⟩ (.int .i64 t154)).setCell ⟨gb158, 4, none⟩ (.slice Ao22 t155.length co22)).heap[gb147]? = some (.cells #[.int .i64 0, .slice none 0 0, .int .i64 0, .int .i64 0, .slice none 0 0] 51 (0, 0))) := ⟨uf_ BK147.out⟩
 have n4_ : Aside0 ((((((w17.setCell ⟨gb158, 0, none⟩ (.int .i64 t149)).setCell ⟨gb158, 1, none⟩ (.slice Ao21 t150.length co21)).setCell ⟨gb158, 2, none⟩ (.int .i64 t153)).setCell ⟨gb158, 3, none⟩ (.int .i64 t154)).setCell ⟨gb158, 4, none⟩ (.slice Ao22 t155.length co22)).heap[gb158]? = some (.cells #[.int .i64 t149, .slice Ao21 t150.length co21, .int .i64 t153, .int .i64 t154, .slice Ao22 t155.length co22] 51 (0, 0))) := ⟨by (with_reducible repeat (first | refine bn_ ?_ _ | refine bw_ ?_ | refine ba_ ?_ _)); refine blk_put (cs := #[.int .i64 t149, .slice Ao21 t150.length co21, .int .i64 t153, .int .i64 t154, .slice none 0 0]) ?_ 4 _ rfl; (with_reducible repeat (first | refine bn_ ?_ _ | refine bw_ ?_ | refine ba_ ?_ _)); refine blk_put (cs := #[.int .i64 t149, .slice Ao21 t150.length co21, .int .i64 t153, .int .i64 0, .slice none 0 0]) ?_ 3 _ rfl; (with_reducible repeat (first | refine bn_ ?_ _ | refine bw_ ?_ | refine ba_ ?_ _)); refine blk_put (cs := #[.int .i64 t149, .slice Ao21 t150.length co21, .int .i64 0, .int .i64 0, .slice none 0 0]) ?_ 2 _ rfl; (with_reducible repeat (first | refine bn_ ?_ _ | refine bw_ ?_ | refine ba_ ?_ _)); refine blk_put (cs := #[.int .i64 t149, .slice none 0 0, .int .i64 0, .int .i64 0, .slice none 0 0]) ?_ 1 _ rfl; (with_reducible repeat (first | refine bn_ ?_ _ | refine bw_ ?_ | refine ba_ ?_ _)); refine blk_put (cs := #[.int .i64 0, .slice none 0 0, .int .i64 0, .int .i64 0, .slice none 0 0]) ?_ 0 _ rfl; (with_reducible repeat (first | refine bn_ ?_ _ | refine bw_ ?_ | refine ba_ ?_ _)); exact BK158.out⟩
 have n5_ : Aside0 (Below w.heap.size w (((((w17.setCell ⟨gb158, 0, none⟩ (.int .i64 t149)).setCell ⟨gb158, 1, none⟩ (.slice Ao21 t150.length co21)).setCell ⟨gb158, 2, none⟩ (.int .i64 t153)).setCell ⟨gb158, 3, none⟩ (.int .i64 t154)).setCell ⟨gb158, 4, none⟩ (.slice Ao22 t155.length co22))) := ⟨us_ HB.out⟩
 (try clear HO152)
 (try clear HO157)
 (try clear BK146)
 (try clear BK147)
 (try clear BK158)
 (try clear HB)
 generalize (((((w17.setCell ⟨gb158, 0, none⟩ (.int .i64 t149)).setCell ⟨gb158, 1, none⟩ (.slice Ao21 t150.length co21)).setCell ⟨gb158, 2, none⟩ (.int .i64 t153)).setCell ⟨gb158, 3, none⟩ (.int .i64 t154)).setCell ⟨gb158, 4, none⟩ (.slice Ao22 t155.length co22)) = w24 at n0_ n1_ n2_ n3_ n4_ n5_ ⊢
 have HO152 := n0_
 have HO157 := n1_
 have BK146 := n2_
 have BK147 := n3_
 have BK158 := n4_
 have HB := n5_
 clear n0_ n1_ n2_ n3_ n4_ n5_
 have n0_ := mk_ (Kd.R_drew HO152.out)
 have n1_ := mk_ (Kd.R_drew HO157.out)
 have n2_ := mk_ (blk_drew BK146.out)
 have n3_ := mk_ (blk_drew BK147.out)
 have n4_ := mk_ (blk_drew BK158.out)
 have n5_ := mk_ (below_drew1 HB.out)
 clear HO152
 clear HO157
 clear BK146
 clear BK147
 clear BK158
 clear HB
 have HO152 := n0_
 have HO157 := n1_
 have BK146 := n2_
 have BK147 := n3_
 have BK158 := n4_
 have HB := n5_
 clear n0_ n1_ n2_ n3_ n4_ n5_
 obtain ⟨i026, hi026, _, hsz26, _⟩ := info_parts info5
 obtain ⟨hcut26, hA26, hC26⟩ := print_take_of (P := Try.prog) (Value.int .u8) 0 22 5 .i64 Try.underlying22 hi026 hsz26 A1 c1 l1 (ji6) (of_decide_eq_true (by first | (with_reducible assumption) | assumption)) (of_decide_eq_true (by first | (with_reducible assumption) | assumption)) HC1.out
 have HR159 := mk_ (Kd.C_of_reads (h1 := fun _ => rfl) (hA26 _ (Kd.reads_of_C HR1.out)))
 have HC159 := mk_ hC26
 clear hA26 hC26 hi026 hsz26
 refine start_ (n := 8) (S := fun w' => w'.cell? ⟨gb158, 0, none⟩ = some (.int .i64 t149) ∧ w'.cell? ⟨gb158, 1, none⟩ = some (.slice Ao21 t150.length co21) ∧ w'.cell? ⟨gb158, 2, none⟩ = some (.int .i64 t153) ∧ w'.cell? ⟨gb158, 3, none⟩ = some (.int .i64 t154) ∧ w'.cell? ⟨gb158, 4, none⟩ = some (.slice Ao22 t155.length co22)) (ds := [7]) #[F_, F_, F_, F_, F_, F_, F_, F_] (by kernel_rfl) rfl rfl ⟨(blk_cell BK158.out 0).trans rfl, (blk_cell BK158.out 1).trans rfl, (blk_cell BK158.out 2).trans rfl, (blk_cell BK158.out 3).trans rfl, (blk_cell BK158.out 4).trans rfl⟩ (fun hHeld => ?_); refine with_tabW spec_MouthWrite.tab5 spec_MouthWrite.bits5 (fun HT_ HW_ => ?_)
 generalize w24.drew = w25 at HO152 HO157 BK146 BK147 BK158 HB HR159 hHeld ⊢
 refine pure_ (i := 0) (N := some 21) (v := ?_) (a' := ?_) #[T_, F_, F_, F_, F_, F_, F_, F_] rfl rfl (any_of HT_.out (by kernel_rfl)) (fun _ _ _ h => h) (Or.inl ⟨by rfl, ?_⟩) ?_ ?_
 rotate_left
 ·intro w'
  go_simp
  with_reducible rfl
 rotate_left
 ·simp only [Act.put, la_, lz_, ls_, i64_w, i32_w]
  rfl
 refine pure_ (i := 2) (N := some 23) (v := ?_) (a' := ?_) #[T_, F_, T_, F_, F_, F_, F_, F_] rfl rfl (any_of HT_.out (by kernel_rfl)) (fun _ _ _ h => h) (Or.inl ⟨by rfl, ?_⟩) ?_ ?_
 rotate_left
 ·intro w'
  go_simp
  with_reducible rfl
 rotate_left
 ·simp only [Act.put, la_, lz_, ls_, i64_w, i32_w]
  rfl
 refine pure_ (i := 3) (N := some 24) (v := ?_) (a' := ?_) #[T_, F_, T_, T_, F_, F_, F_, F_] rfl rfl (any_of HT_.out (by kernel_rfl)) (fun _ _ _ h => h) (Or.inl ⟨by rfl, ?_⟩) ?_ ?_
 rotate_left
 ·intro w'
  go_simp
  with_reducible rfl
 rotate_left
 ·simp only [Act.put, la_, lz_, ls_, i64_w, i32_w]
  rfl
 refine pure_ (i := 4) (N := some 25) (v := ?_) (a' := ?_) #[T_, F_, T_, T_, T_, F_, F_, F_] rfl rfl (any_of HT_.out (by kernel_rfl)) (fun _ _ _ h => h) (Or.inl ⟨by rfl, ?_⟩) ?_ ?_
 rotate_left
 ·intro w'
  go_simp
  with_reducible rfl
 rotate_left
 ·simp only [Act.put, la_, lz_, ls_, i64_w, i32_w]
  rfl
 refine take_ (i := 1) (N := some 22) (v := ?_) (a' := ?_) #[T_, T_, T_, T_, T_, F_, F_, F_] rfl rfl (take_ofW HT_.out HW_.out (by kernel_rfl)) (fun _ _ _ h => h) (Or.inl ⟨by rfl, ?_⟩) hHeld ?_ ?_
 rotate_left
 ·rintro w' ⟨s0, s1, s2, s3, s4⟩
  go_simp
  with_reducible rfl
 rotate_left
 ·simp only [Act.put, la_, lz_, ls_, i64_w, i32_w]
  rfl
 refine one_ (i := 5) (N := some 26) #[T_, T_, T_, T_, T_, T_, F_, F_] rfl rfl (one_of HT_.out (by kernel_rfl)) (by decide) (fun K hK => ?_)
 refine Kd.R_append_rows_step (Kd.int .u8) (w0 := w) w.heap.size (by rfl) (.tmp 22) (.tmp 25) 22 5 (.int .u8 0) 1 rfl Try.underlying22 info5 rfl (by decide) (by omega) (.slice Ao21 t150.length co21) t150 (l1.take ((ji6) : Int).toNat) _ _ _ (fun _ => True) (fun _ => False) rfl rfl ?aO ?aR (fun _ _ h => h) (fun _ h => h.elim) ?aF ?aB ?aS ?aL ?_
 (case aR => first | (have e_ := (Kd.C_below HR159.out HB.out); rw [show (l1.take ((ji6) : Int).toNat).length = (ji6).toNat from (by rw [List.length_take]; have h_ : ((ji6) : Int) ≤ (l1.length : Int) := of_decide_eq_true (by first | (with_reducible assumption) | assumption); omega)] at e_; exact e_) | (rw [← show (l1.take ((ji6) : Int).toNat).length = (ji6).toNat from (by rw [List.length_take]; have h_ : ((ji6) : Int) ≤ (l1.length : Int) := of_decide_eq_true (by first | (with_reducible assumption) | assumption); omega)]; repeat (first | exact (Kd.C_below HR159.out HB.out) | (with_reducible refine Kd.C_alloc ?_ _) | (with_reducible refine Kd.C_drewN ?_ _) | (with_reducible refine Kd.C_drew ?_))) | (repeat (first | exact (Kd.C_below HR159.out HB.out) | (with_reducible refine Kd.C_alloc ?_ _) | (with_reducible refine Kd.C_drewN ?_ _) | (with_reducible refine Kd.C_drew ?_))))
 (case aB => exact (us_ HB.out))
 (case aF => exact (fun _ _ => trivial))
 (case aO => exact (Kd.ur_ HO152.out))
 (case aS => exact (below_size (us_ HB.out)))
 (case aL => have := LMc9.out; have hlx_ := (show (l1.take ((ji6) : Int).toNat).length = (ji6).toNat from (by rw [List.length_take]; have h_ : ((ji6) : Int) ≤ (l1.length : Int) := of_decide_eq_true (by first | (with_reducible assumption) | assumption); omega)); omega)
 intro v161 w27 ho hb hg hat
 rw [← Ny160.out] at ho
 have n0_ := mk_ (blk_grown (g := gb146) (o := .cells #[.int .i64 a0_0, .slice A0_1 l0_1.length c0_1, .int .i64 a0_2, .int .i64 a0_3, .slice A0_4 l0_4.length c0_4] 51 (0, 0)) (u_ BK146.out) hg (Kd.R_ne HO152.out BK146.out (by decide)))
 have n1_ := mk_ (blk_grown (g := gb147) (o := .cells #[.int .i64 0, .slice none 0 0, .int .i64 0, .int .i64 0, .slice none 0 0] 51 (0, 0)) (u_ BK147.out) hg (Kd.R_ne HO152.out BK147.out (by decide)))
 have n2_ := mk_ (Kd.R_over' (Kd.ur_ HO157.out) (Kd.R_typed (Kd.ur_ HO152.out)) (by decide) hg)
 have n3_ := mk_ (blk_grown (g := gb158) (o := .cells #[.int .i64 t149, .slice Ao21 t150.length co21, .int .i64 t153, .int .i64 t154, .slice Ao22 t155.length co22] 51 (0, 0)) (u_ BK158.out) hg (Kd.R_ne HO152.out BK158.out (by decide)))
 have n4_ := mk_ (hb)
 have n5_ := mk_ (ho)
 clear BK146
 clear BK147
 clear HO157
 clear BK158
 clear HB
 clear HO152
 have BK146 := n0_
 have BK147 := n1_
 have HO157 := n2_
 have BK158 := n3_
 have HB := n4_
 have HO162 := n5_
 clear n0_ n1_ n2_ n3_ n4_ n5_
 clear ho hb hg hat
 obtain ⟨Ao28, co28, eo28⟩ := Kd.R_slice HO162.out
 (first | subst eo28 | (injection eo28 with f1_ f2_ f3_; have f4_ := f1_.symm; have f5_ := f3_.symm; clear f1_ f2_ f3_; subst f4_; subst f5_))
 refine hK.out _ _ ⟨(blk_cell BK158.out 0).trans rfl, (blk_cell BK158.out 1).trans rfl, (blk_cell BK158.out 2).trans rfl, (blk_cell BK158.out 3).trans rfl, (blk_cell BK158.out 4).trans rfl⟩ (fun hHeld => ?_)
 clear hK K
 refine norm_ (a' := ?_) ?_ ?_
 rotate_left
 ·show Act.put _ (some 26) _ = _
  simp only [Act.put, la_, lz_, ls_, i64_w, i32_w]
  rfl
 refine pure_ (i := 6) (N := some 27) (v := ?_) (a' := ?_) #[T_, T_, T_, T_, T_, T_, T_, F_] rfl rfl (any_of HT_.out (by kernel_rfl)) (fun _ _ _ h => h) (Or.inl ⟨by rfl, ?_⟩) ?_ ?_
 rotate_left
 ·intro w'
  go_simp
  with_reducible rfl
 rotate_left
 ·simp only [Act.put, la_, lz_, ls_, i64_w, i32_w]
  rfl
 refine last_ (i := 7) (N := none) #[T_, T_, T_, T_, T_, T_, T_, T_] rfl rfl (one_of HT_.out (by kernel_rfl)) (by decide) (fun K hK => ?_)
 have hs29 : w27.cell? ⟨gb158, 1, none⟩ = some (.slice Ao21 t150.length co21) := (blk_cell BK158.out 1).trans rfl
 have hfs29 := blk_frozen BK158.out 1
 have hns29_0 := NB146_158.out
 have hns29_1 := NB147_158.out
 have hms29_0 := NB158_146.out
 have hms29_1 := NB158_147.out
 refine skip_ (w1 := ?_) (by rfl) rfl ?_ ?_
 rotate_left
 ·go_simp
  rfl
 refine hK.out _ _ ?_
 clear hK K
 refine done_ (done_of HT_.out (by kernel_rfl)) ?_
 obtain ⟨hcz30_0, hcz30_1, hcz30_2, hcz30_3, hcz30_4, hfz30_0, hfz30_1, hfz30_2, hfz30_3, hfz30_4⟩ := cells5_ BK158.out
 obtain ⟨hcz31_0, hcz31_1, hcz31_2, hcz31_3, hcz31_4, hfz31_0, hfz31_1, hfz31_2, hfz31_3, hfz31_4⟩ := cells5_ BK147.out
 try go_wp2
 refine bodyPost_ret (results_ct rfl _ _ gb147 51 #[.int .i64 t149, .slice Ao28 y160.length co28, .int .i64 t153, .int .i64 t154, .slice Ao22 t155.length co22] (0, 0) _ rfl (by (with_reducible repeat (first | refine bn_ ?_ _ | refine bw_ ?_ | refine ba_ ?_ _)); refine blk_put (cs := #[.int .i64 t149, .slice Ao28 y160.length co28, .int .i64 t153, .int .i64 t154, .slice none 0 0]) ?_ 4 _ rfl; (with_reducible repeat (first | refine bn_ ?_ _ | refine bw_ ?_ | refine ba_ ?_ _)); refine blk_put (cs := #[.int .i64 t149, .slice Ao28 y160.length co28, .int .i64 t153, .int .i64 0, .slice none 0 0]) ?_ 3 _ rfl; (with_reducible repeat (first | refine bn_ ?_ _ | refine bw_ ?_ | refine ba_ ?_ _)); refine blk_put (cs := #[.int .i64 t149, .slice Ao28 y160.length co28, .int .i64 0, .int .i64 0, .slice none 0 0]) ?_ 2 _ rfl; (with_reducible repeat (first | refine bn_ ?_ _ | refine bw_ ?_ | refine ba_ ?_ _)); refine blk_put (cs := #[.int .i64 t149, .slice none 0 0, .int .i64 0, .int .i64 0, .slice none 0 0]) ?_ 1 _ rfl; (with_reducible repeat (first | refine bn_ ?_ _ | refine bw_ ?_ | refine ba_ ?_ _)); refine blk_put (cs := #[.int .i64 0, .slice none 0 0, .int .i64 0, .int .i64 0, .slice none 0 0]) ?_ 0 _ rfl; (with_reducible repeat (first | refine bn_ ?_ _ | refine bw_ ?_ | refine ba_ ?_ _)); refine blk_far ?_ NB147_158.out _; (with_reducible repeat (first | refine bn_ ?_ _ | refine bw_ ?_ | refine ba_ ?_ _)); exact BK147.out) Try.underlying51 rfl (by kernel_rfl)) rfl ?_
 exact ⟨_, _, by first | rfl | (simp [errW_none, errW_some] <;> rfl) | (simp only [← hji6]; first | rfl | (simp [errW_none, errW_some] <;> rfl)) | (simp [*, errW_none, errW_some] <;> rfl), by (with_reducible repeat (first | apply Kd.R_alloc | apply Kd.R_drewN | apply Kd.R_drew)); exact Kd.R_mono (Kd.R_far (p := ⟨gb147, 4, none⟩) (Kd.R_far (p := ⟨gb147, 3, none⟩) (Kd.R_far (p := ⟨gb147, 2, none⟩) (Kd.R_far (p := ⟨gb147, 1, none⟩) (Kd.R_far (p := ⟨gb147, 0, none⟩) (Kd.R_far (p := ⟨gb158, 1, none⟩) (Kd.R_types (Kd.R_types HO162.out BK158.out (by decide)) BK147.out (by decide)) (fun _ hk => hk.1.2) (.slice Ao28 y160.length co28)) (fun _ hk => hk.2) (.int .i64 t149)) (fun _ hk => hk.2) (.slice Ao28 y160.length co28)) (fun _ hk => hk.2) (.int .i64 t153)) (fun _ hk => hk.2) (.int .i64 t154)) (fun _ hk => hk.2) (.slice Ao22 t155.length co22)) (fun _ hk => trivial), by (with_reducible repeat (first | apply Kd.R_alloc | apply Kd.R_drewN | apply Kd.R_drew)); exact Kd.R_mono (Kd.R_far (p := ⟨gb147, 4, none⟩) (Kd.R_far (p := ⟨gb147, 3, none⟩) (Kd.R_far (p := ⟨gb147, 2, none⟩) (Kd.R_far (p := ⟨gb147, 1, none⟩) (Kd.R_far (p := ⟨gb147, 0, none⟩) (Kd.R_far (p := ⟨gb158, 1, none⟩) (Kd.R_types (Kd.R_types HO157.out BK158.out (by decide)) BK147.out (by decide)) (fun _ hk => hk.1.2) (.slice Ao28 y160.length co28)) (fun _ hk => hk.2) (.int .i64 t149)) (fun _ hk => hk.2) (.slice Ao28 y160.length co28)) (fun _ hk => hk.2) (.int .i64 t153)) (fun _ hk => hk.2) (.int .i64 t154)) (fun _ hk => hk.2) (.slice Ao22 t155.length co22)) (fun _ hk => trivial), us_ HB.out⟩

/-! ### spec_l20Stream: function 83 -/
def spec_l20Stream.f (a0 : Int) : Option (Int) := some ((wrap64 (97 + (Int.tmod (wrap64 ((wrap64 (a0 * 7)) + (wrap64 (Int.tdiv a0 5)))) 26))) % 256)
set_option maxHeartbeats 8000000 in
set_option maxRecDepth 100000 in
theorem spec_l20Stream.calls (a0 : Int) (r : Int) (w : World) (h : spec_l20Stream.f a0 = some r) :
  Calls Try.prog 83 #[.int .i64 a0] w fun e w' => e = .returned (.int .u8 r) ∧ Drawn0 w w' := by
 have H : (some ((wrap64 (97 + (Int.tmod (wrap64 ((wrap64 (a0 * 7)) + (wrap64 (Int.tdiv a0 5)))) 26))) % 256)) = some r := h
 clear h
 obtain rfl := Option.some.inj H
 go_enter Try.func83, Try.ntmps83
 go_wp2
 go_ret
 exact ⟨by first | rfl | (simp; done) | (simp [*]; done), by repeat (first | exact Drawn0.refl _ | apply Drawn0.step)⟩

end Go.Proofs.Ytfcocnhkimbpbaa.MFnMouthOk
