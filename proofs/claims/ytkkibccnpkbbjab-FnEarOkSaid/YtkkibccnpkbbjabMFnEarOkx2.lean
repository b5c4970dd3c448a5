/- Functions that the law FnEarOk reaches, each with the proof that the machine's call comes to just its answer; no conditions but those that each theorem states. Printed by a program of this session over the kit's print. -/
import Derived.Test.YtkkibccnpkbbjabMFnEarOkx0
import Derived.Test.YtkkibccnpkbbjabMFnEarOkx1
namespace Go.Proofs.Ytkkibccnpkbbjab.MFnEarOk
open Go.RowKit Go.Proofs.YtkkibccnpkbbjabV.PrintWords Go.Proofs.YtkkibccnpkbbjabV.PrintLast Go.Proofs.YtkkibccnpkbbjabV.PrintMore
attribute [local go_sem] max2_int min2_int max_two min_two max_three min_three max_four min_four   -- for this text's walks alone
set_option linter.unusedVariables false
set_option linter.unusedSimpArgs false

/-! ### spec_EarOk: function 33 -/
mutual
def spec_EarOk.j0 : Nat → Bool → Int → Int → List Int → List (S68) → Option (Bool)
 | 0, _, _, _, _, _ => none
 | k + 1, x21, x125000, x125001, x125002, x125003 => if x21 = true then (some false) else (spec_EarOk.l0 k 0 x125000 x125001 x125002 x125003)
def spec_EarOk.l0 : Nat → Int → Int → Int → List Int → List (S68) → Option (Bool)
 | 0, _, _, _, _, _ => none
 | k + 1, x3, x125000, x125001, x125002, x125003 => if x3 < (x125003.length : Int) then (if 0 ≤ x3 then (if ((rd_T68 x125003 x3).f0) ≤ x125000 then (some false) else (if ((rd_T68 x125003 x3).f0) ≥ (wrap64 ((wrap64 (x125000 + x125001)) - (x125002.length : Int))) then (some false) else (if x3 > 0 then (if 0 ≤ (wrap64 (x3 - 1)) then (if (wrap64 (x3 - 1)) < (x125003.length : Int) then (if ((rd_T68 x125003 (wrap64 (x3 - 1))).f0) ≥ ((rd_T68 x125003 x3).f0) then (some false) else (spec_EarOk.l0 k (wrap64 (x3 + 1)) x125000 x125001 x125002 x125003)) else (none)) else (none)) else (spec_EarOk.l0 k (wrap64 (x3 + 1)) x125000 x125001 x125002 x125003)))) else (none)) else (some true)
end
def spec_EarOk.f (k : Nat) (a0_0 : Int) (a0_1 : Int) (l0_2 : List Int) (l0_3 : List (S68)) : Option (Bool) := (spec_l1In.f a0_0 0 1000000).bind fun t125 => (if t125 = true then ((spec_l1In.f a0_1 1 32).bind fun t126 => (if t126 = true then (spec_EarOk.j0 k (decide ((l0_2.length : Int) > a0_1)) a0_0 a0_1 l0_2 l0_3) else (spec_EarOk.j0 k true a0_0 a0_1 l0_2 l0_3))) else (spec_EarOk.j0 k true a0_0 a0_1 l0_2 l0_3))
theorem spec_EarOk.mono_l : ∀ k, (∀ y0 y1 y2 y3 y4, LeO (spec_EarOk.j0 k y0 y1 y2 y3 y4) (spec_EarOk.j0 (k + 1) y0 y1 y2 y3 y4)) ∧ (∀ y0 y1 y2 y3 y4, LeO (spec_EarOk.l0 k y0 y1 y2 y3 y4) (spec_EarOk.l0 (k + 1) y0 y1 y2 y3 y4))
 | 0 => ⟨fun _ _ _ _ _ r h => by simp [spec_EarOk.j0] at h, fun _ _ _ _ _ r h => by simp [spec_EarOk.l0] at h⟩
 | k + 1 => by
  obtain ⟨ih0, ih1⟩ := spec_EarOk.mono_l k
  refine ⟨?_, ?_⟩
  ·intro y0 y1 y2 y3 y4
   unfold spec_EarOk.j0
   repeat' first
   | (with_reducible exact ih0 _ _ _ _ _)
   | (with_reducible exact ih1 _ _ _ _ _)
   | (with_reducible exact LeO.refl _)
   | (with_reducible exact LeO.none _)
   | (with_reducible refine LeO.ite ?_ ?_)
   | (with_reducible refine LeO.bind ?_ (fun _ => ?_))
   | exact ih0 _ _ _ _ _
   | exact ih1 _ _ _ _ _
   | exact LeO.none _
   | refine LeO.ite ?_ ?_
   | refine LeO.bind ?_ (fun _ => ?_)
  ·intro y0 y1 y2 y3 y4
   unfold spec_EarOk.l0
   repeat' first
   | (with_reducible exact ih0 _ _ _ _ _)
   | (with_reducible exact ih1 _ _ _ _ _)
   | (with_reducible exact LeO.refl _)
   | (with_reducible exact LeO.none _)
   | (with_reducible refine LeO.ite ?_ ?_)
   | (with_reducible refine LeO.bind ?_ (fun _ => ?_))
   | exact ih0 _ _ _ _ _
   | exact ih1 _ _ _ _ _
   | exact LeO.none _
   | refine LeO.ite ?_ ?_
   | refine LeO.bind ?_ (fun _ => ?_)
theorem spec_EarOk.mono : ∀ a0 a1 a2 a3 k, LeO (spec_EarOk.f k a0 a1 a2 a3) (spec_EarOk.f (k + 1) a0 a1 a2 a3) := by
 intro a0 a1 a2 a3 k
 obtain ⟨ih0, ih1⟩ := spec_EarOk.mono_l k
 unfold spec_EarOk.f
 repeat' first
   | (with_reducible exact ih0 _ _ _ _ _)
   | (with_reducible exact ih1 _ _ _ _ _)
   | (with_reducible exact LeO.refl _)
   | (with_reducible exact LeO.none _)
   | (with_reducible refine LeO.ite ?_ ?_)
   | (with_reducible refine LeO.bind ?_ (fun _ => ?_))
   | exact ih0 _ _ _ _ _
   | exact ih1 _ _ _ _ _
   | exact LeO.none _
   | refine LeO.ite ?_ ?_
   | refine LeO.bind ?_ (fun _ => ?_)
set_option maxHeartbeats 8000000 in
set_option maxRecDepth 100000 in
theorem spec_EarOk.calls (k : Nat) (a0_0 : Int) (a0_1 : Int) (A0_2 : Option Addr) (c0_2 : Nat) (l0_2 : List Int) (A0_3 : Option Addr) (c0_3 : Nat) (l0_3 : List (S68)) (r : Bool) (w : World) (hr0_2 : Kd.C (Kd.int .u8) w A0_2 l0_2.length l0_2) (hc0_2 : l0_2.length ≤ c0_2) (hr0_3 : Kd.C k68 w A0_3 l0_3.length l0_3) (hc0_3 : l0_3.length ≤ c0_3) (h : spec_EarOk.f k a0_0 a0_1 l0_2 l0_3 = some r) :
  Calls Try.prog 33 #[.agg #[.int .i64 a0_0, .int .i64 a0_1, .slice A0_2 l0_2.length c0_2, .slice A0_3 l0_3.length c0_3]] w fun e w' => e = .returned (.bool r) ∧ Below w.heap.size w w' := by
 have hu59 := Try.underlying59
 have HR0_2 := mk_ hr0_2
 have HC0_2 := mk_ hc0_2
 clear hr0_2 hc0_2
 have HR0_3 := mk_ hr0_3
 have HC0_3 := mk_ hc0_3
 clear hr0_3 hc0_3
 have HB := mk_ (Below.refl w.heap.size w)
 have H := h
 unfold spec_EarOk.f at H
 clear h
 have HC2 := mk_ H
 clear H
 go_enter Try.func33, Try.ntmps33
 go_upto_region 1 with (first | ((with_reducible refine gate_dst (N := 1) rfl ?_); refine box_event ?hg (N := 1) ?hd (cs := #[.int .i64 a0_0, .int .i64 a0_1, .slice A0_2 l0_2.length c0_2, .slice A0_3 l0_3.length c0_3]) (t := 59) ?hr ?_; (case hd => rfl); (case hg => rfl); (case hr => first | (go_simp; done) | (go_simp; rfl)); intro gb124 hg w3 hbox hb; have n0_ := mk_ (below_step (ub_ HB.out) hb); have BK124 := mk_ (hbox); have GW124 := mk_ ((by rw [hg]; exact (below_size (ub_ HB.out)) : w.heap.size ≤ gb124)); have GE124 := ge_ ((by rw [hg]; exact (below_size (ub_ HB.out)) : w.heap.size ≤ gb124)); replace HB := n0_; clear n0_; clear hb hbox hg))
 repeat (go_quiet (first | ((with_reducible refine gate_dst (N := 1) rfl ?_); refine box_event ?hg (N := 1) ?hd (cs := #[.int .i64 a0_0, .int .i64 a0_1, .slice A0_2 l0_2.length c0_2, .slice A0_3 l0_3.length c0_3]) (t := 59) ?hr ?_; (case hd => rfl); (case hg => rfl); (case hr => first | (go_simp; done) | (go_simp; rfl)); intro gb124 hg w3 hbox hb; have n0_ := mk_ (below_step (ub_ HB.out) hb); have BK124 := mk_ (hbox); have GW124 := mk_ ((by rw [hg]; exact (below_size (ub_ HB.out)) : w.heap.size ≤ gb124)); have GE124 := ge_ ((by rw [hg]; exact (below_size (ub_ HB.out)) : w.heap.size ≤ gb124)); replace HB := n0_; clear n0_; clear hb hbox hg)); go_upto_region 1 with (first | ((with_reducible refine gate_dst (N := 1) rfl ?_); refine box_event ?hg (N := 1) ?hd (cs := #[.int .i64 a0_0, .int .i64 a0_1, .slice A0_2 l0_2.length c0_2, .slice A0_3 l0_3.length c0_3]) (t := 59) ?hr ?_; (case hd => rfl); (case hg => rfl); (case hr => first | (go_simp; done) | (go_simp; rfl)); intro gb124 hg w3 hbox hb; have n0_ := mk_ (below_step (ub_ HB.out) hb); have BK124 := mk_ (hbox); have GW124 := mk_ ((by rw [hg]; exact (below_size (ub_ HB.out)) : w.heap.size ≤ gb124)); have GE124 := ge_ ((by rw [hg]; exact (below_size (ub_ HB.out)) : w.heap.size ≤ gb124)); replace HB := n0_; clear n0_; clear hb hbox hg)))
 (try simp only [Act.put, la_, lz_, ls_])
 go_cut [21] (fun v21 wc => ∃ (kq : Nat) (x21_1 : Bool), v21 = .bool x21_1 ∧ Aside0 (spec_EarOk.j0 kq x21_1 a0_0 a0_1 l0_2 l0_3 = some r) ∧ Aside0 (kq ≤ k) ∧ Aside0 (wc.heap[gb124]? = some (.cells #[.int .i64 a0_0, .int .i64 a0_1, (.slice A0_2 l0_2.length c0_2), (.slice A0_3 l0_3.length c0_3)] 59 (0, 0))) ∧ Aside0 (Below w.heap.size w wc))
 case first =>
  have H := HC2.out
  clear HC2
  replace H := Option.bind_eq_some_iff.mp H
  obtain ⟨t125, A40, H⟩ := H
  (try dsimp only at H)
  have A4 := mk_ A40
  clear A40
  by_cases c5 : t125 = true
  rotate_left
  focus
   replace c5 := Bool.eq_false_iff.mpr c5
   subst c5
   have H1 : (spec_EarOk.j0 k true a0_0 a0_1 l0_2 l0_3) = some r := by rw [if_neg (show ¬ (false = true) by decide)] at H; exact H
   clear H
   have H := H1
   clear H1
   have H' := mk_ H
   clear H
   obtain ⟨hcz10_0, hcz10_1, hcz10_2, hcz10_3, hfz10_0, hfz10_1, hfz10_2, hfz10_3⟩ := cells4_ BK124.out
  rotate_left
  focus
   subst c5
   rw [if_pos rfl] at H
   replace H := Option.bind_eq_some_iff.mp H
   obtain ⟨t126, A60, H⟩ := H
   (try dsimp only at H)
   have A6 := mk_ A60
   clear A60
   by_cases c7 : t126 = true
   focus
    subst c7
    rw [if_pos rfl] at H
    have H' := mk_ H
    clear H
    obtain ⟨hcz8_0, hcz8_1, hcz8_2, hcz8_3, hfz8_0, hfz8_1, hfz8_2, hfz8_3⟩ := cells4_ BK124.out
   rotate_left
   focus
    replace c7 := Bool.eq_false_iff.mpr c7
    subst c7
    have H1 : (spec_EarOk.j0 k true a0_0 a0_1 l0_2 l0_3) = some r := by rw [if_neg (show ¬ (false = true) by decide)] at H; exact H
    clear H
    have H := H1
    clear H1
    have H' := mk_ H
    clear H
    obtain ⟨hcz9_0, hcz9_1, hcz9_2, hcz9_3, hfz9_0, hfz9_1, hfz9_2, hfz9_3⟩ := cells4_ BK124.out
   rotate_left
  rotate_left 2
  all_goals
   go_wp2_with (first | (go_at_call 53; (with_reducible refine (spec_l1In.calls a0_0 0 1000000 false _ A4.out).mono ?_); rintro e w' ⟨rfl, ⟨nd, rfl⟩⟩; (try first | exact ⟨rfl, _, World.drewN_drewN _ _ _⟩ | exact ⟨rfl, _, Eq.trans (World.drewN_drewN _ _ _) (congrArg (World.drewN _) (Nat.add_assoc _ _ _))⟩)) | (go_at_call 53; have hA_ := A4.out; (with_reducible refine (spec_l1In.calls a0_0 0 1000000 true _ A4.out).mono ?_); rintro e w' ⟨rfl, ⟨nd, rfl⟩⟩; (try first | exact ⟨rfl, _, World.drewN_drewN _ _ _⟩ | exact ⟨rfl, _, Eq.trans (World.drewN_drewN _ _ _) (congrArg (World.drewN _) (Nat.add_assoc _ _ _))⟩); clear hA_ A4) | (go_at_call 53; have hA_ := A6.out; (with_reducible refine (spec_l1In.calls a0_1 1 32 true _ A6.out).mono ?_); rintro e w' ⟨rfl, ⟨nd, rfl⟩⟩; (try first | exact ⟨rfl, _, World.drewN_drewN _ _ _⟩ | exact ⟨rfl, _, Eq.trans (World.drewN_drewN _ _ _) (congrArg (World.drewN _) (Nat.add_assoc _ _ _))⟩); clear hA_ A6) | (go_at_call 53; have hA_ := A6.out; (with_reducible refine (spec_l1In.calls a0_1 1 32 false _ A6.out).mono ?_); rintro e w' ⟨rfl, ⟨nd, rfl⟩⟩; (try first | exact ⟨rfl, _, World.drewN_drewN _ _ _⟩ | exact ⟨rfl, _, Eq.trans (World.drewN_drewN _ _ _) (congrArg (World.drewN _) (Nat.add_assoc _ _ _))⟩); clear hA_ A6))
  ·repeat (go_quiet (first | (go_at_call 53; (with_reducible refine (spec_l1In.calls a0_0 0 1000000 false _ A4.out).mono ?_); rintro e w' ⟨rfl, ⟨nd, rfl⟩⟩; (try first | exact ⟨rfl, _, World.drewN_drewN _ _ _⟩ | exact ⟨rfl, _, Eq.trans (World.drewN_drewN _ _ _) (congrArg (World.drewN _) (Nat.add_assoc _ _ _))⟩))); try go_wp2_with (first | (go_at_call 53; (with_reducible refine (spec_l1In.calls a0_0 0 1000000 false _ A4.out).mono ?_); rintro e w' ⟨rfl, ⟨nd, rfl⟩⟩; (try first | exact ⟨rfl, _, World.drewN_drewN _ _ _⟩ | exact ⟨rfl, _, Eq.trans (World.drewN_drewN _ _ _) (congrArg (World.drewN _) (Nat.add_assoc _ _ _))⟩))))
   go_meet
   case rel => exact ⟨_, (true), (by first | rfl | (simp; done) | (simp [*]; done)), H', ⟨by first | omega | exact Nat.le_refl _⟩, ⟨u_ BK124.out⟩, ⟨us_ HB.out⟩⟩
  ·repeat (go_quiet (first | (go_at_call 53; (with_reducible refine (spec_l1In.calls a0_0 0 1000000 true _ A4.out).mono ?_); rintro e w' ⟨rfl, ⟨nd, rfl⟩⟩; (try first | exact ⟨rfl, _, World.drewN_drewN _ _ _⟩ | exact ⟨rfl, _, Eq.trans (World.drewN_drewN _ _ _) (congrArg (World.drewN _) (Nat.add_assoc _ _ _))⟩)) | (go_at_call 53; (with_reducible refine (spec_l1In.calls a0_1 1 32 true _ A6.out).mono ?_); rintro e w' ⟨rfl, ⟨nd, rfl⟩⟩; (try first | exact ⟨rfl, _, World.drewN_drewN _ _ _⟩ | exact ⟨rfl, _, Eq.trans (World.drewN_drewN _ _ _) (congrArg (World.drewN _) (Nat.add_assoc _ _ _))⟩))); try go_wp2_with (first | (go_at_call 53; (with_reducible refine (spec_l1In.calls a0_0 0 1000000 true _ A4.out).mono ?_); rintro e w' ⟨rfl, ⟨nd, rfl⟩⟩; (try first | exact ⟨rfl, _, World.drewN_drewN _ _ _⟩ | exact ⟨rfl, _, Eq.trans (World.drewN_drewN _ _ _) (congrArg (World.drewN _) (Nat.add_assoc _ _ _))⟩)) | (go_at_call 53; (with_reducible refine (spec_l1In.calls a0_1 1 32 true _ A6.out).mono ?_); rintro e w' ⟨rfl, ⟨nd, rfl⟩⟩; (try first | exact ⟨rfl, _, World.drewN_drewN _ _ _⟩ | exact ⟨rfl, _, Eq.trans (World.drewN_drewN _ _ _) (congrArg (World.drewN _) (Nat.add_assoc _ _ _))⟩))))
   go_meet
   case rel => exact ⟨_, (decide ((l0_2.length : Int) > a0_1)), (by first | rfl | (simp; done) | (simp [*]; done)), H', ⟨by first | omega | exact Nat.le_refl _⟩, ⟨u_ BK124.out⟩, ⟨us_ HB.out⟩⟩
  ·repeat (go_quiet (first | (go_at_call 53; (with_reducible refine (spec_l1In.calls a0_0 0 1000000 true _ A4.out).mono ?_); rintro e w' ⟨rfl, ⟨nd, rfl⟩⟩; (try first | exact ⟨rfl, _, World.drewN_drewN _ _ _⟩ | exact ⟨rfl, _, Eq.trans (World.drewN_drewN _ _ _) (congrArg (World.drewN _) (Nat.add_assoc _ _ _))⟩)) | (go_at_call 53; (with_reducible refine (spec_l1In.calls a0_1 1 32 false _ A6.out).mono ?_); rintro e w' ⟨rfl, ⟨nd, rfl⟩⟩; (try first | exact ⟨rfl, _, World.drewN_drewN _ _ _⟩ | exact ⟨rfl, _, Eq.trans (World.drewN_drewN _ _ _) (congrArg (World.drewN _) (Nat.add_assoc _ _ _))⟩))); try go_wp2_with (first | (go_at_call 53; (with_reducible refine (spec_l1In.calls a0_0 0 1000000 true _ A4.out).mono ?_); rintro e w' ⟨rfl, ⟨nd, rfl⟩⟩; (try first | exact ⟨rfl, _, World.drewN_drewN _ _ _⟩ | exact ⟨rfl, _, Eq.trans (World.drewN_drewN _ _ _) (congrArg (World.drewN _) (Nat.add_assoc _ _ _))⟩)) | (go_at_call 53; (with_reducible refine (spec_l1In.calls a0_1 1 32 false _ A6.out).mono ?_); rintro e w' ⟨rfl, ⟨nd, rfl⟩⟩; (try first | exact ⟨rfl, _, World.drewN_drewN _ _ _⟩ | exact ⟨rfl, _, Eq.trans (World.drewN_drewN _ _ _) (congrArg (World.drewN _) (Nat.add_assoc _ _ _))⟩))))
   go_meet
   case rel => exact ⟨_, (true), (by first | rfl | (simp; done) | (simp [*]; done)), H', ⟨by first | omega | exact Nat.le_refl _⟩, ⟨u_ BK124.out⟩, ⟨us_ HB.out⟩⟩
 case rest =>
  clear HC2
  try clear p2
  try clear c3
  try clear c5
  try clear c7
  try clear hcz10_0
  try clear hcz10_1
  try clear hcz10_2
  try clear hcz10_3
  try clear hcz8_0
  try clear hcz8_1
  try clear hcz8_2
  try clear hcz8_3
  try clear hcz9_0
  try clear hcz9_1
  try clear hcz9_2
  try clear hcz9_3
  try clear hfz10_0
  try clear hfz10_1
  try clear hfz10_2
  try clear hfz10_3
  try clear hfz8_0
  try clear hfz8_1
  try clear hfz8_2
  try clear hfz8_3
  try clear hfz9_0
  try clear hfz9_1
  try clear hfz9_2
  try clear hfz9_3
  obtain ⟨kq, x21_1, rfl, HA, HJ1, BK124, HB⟩ := hcut
  cases kq with
  | zero => exact absurd HA.out (by simp [spec_EarOk.j0])
  | succ kj1 =>
   have H := HA.out
   clear HA
   simp only [spec_EarOk.j0] at H
   by_cases c11 : x21_1 = true
   ·subst c11
    have H1 : (some false) = some r := by rw [if_pos rfl] at H; exact H
    clear H
    have H := H1
    clear H1
    obtain rfl := Option.some.inj H
    go_wp2
    repeat (go_quiet (fail); try go_wp2)
    go_ret
    exact ⟨by first | rfl | (simp [errW_none, errW_some] <;> rfl) | (simp [*, errW_none, errW_some] <;> rfl), us_ HB.out⟩
   replace c11 := Bool.eq_false_iff.mpr c11
   subst c11
   have H1 : (spec_EarOk.l0 kj1 0 a0_0 a0_1 l0_2 l0_3) = some r := by rw [if_neg (show ¬ (false = true) by decide)] at H; exact H
   clear H
   have H := H1
   clear H1
   have H' := mk_ H
   clear H
   go_wp2
   repeat (go_quiet (fail); try go_wp2)
   go_loopg [3] kj1 (fun kq v3 w' => ∃ (x3_2 : Int), v3 = .int .i64 x3_2 ∧ Aside0 (spec_EarOk.l0 kq x3_2 a0_0 a0_1 l0_2 l0_3 = some r) ∧ Aside0 (kq ≤ kj1) ∧ Aside0 (w'.heap[gb124]? = some (.cells #[.int .i64 a0_0, .int .i64 a0_1, (.slice A0_2 l0_2.length c0_2), (.slice A0_3 l0_3.length c0_3)] 59 (0, 0))) ∧ Aside0 (Below w.heap.size w w'))
   case atStart => exact ⟨(0), (by first | rfl | (simp; done) | (simp [*]; done)), H', ⟨Nat.le_refl _⟩, ⟨u_ BK124.out⟩, ⟨us_ HB.out⟩⟩
   case round =>
    clear H'
    try clear c1
    try clear p2
    try clear c3
    try clear c5
    try clear c7
    try clear c11
    try clear hcz10_0
    try clear hcz10_1
    try clear hcz10_2
    try clear hcz10_3
    try clear hcz8_0
    try clear hcz8_1
    try clear hcz8_2
    try clear hcz8_3
    try clear hcz9_0
    try clear hcz9_1
    try clear hcz9_2
    try clear hcz9_3
    try clear hfz10_0
    try clear hfz10_1
    try clear hfz10_2
    try clear hfz10_3
    try clear hfz8_0
    try clear hfz8_1
    try clear hfz8_2
    try clear hfz8_3
    try clear hfz9_0
    try clear hfz9_1
    try clear hfz9_2
    try clear hfz9_3
    try clear p2
    obtain ⟨x3_2, rfl, HA, HK2, BK124, HB⟩ := hrel
    cases gk with
    | zero => exact absurd HA.out (by simp [spec_EarOk.l0])
    | succ k2 =>
     have H := HA.out
     clear HA
     simp only [spec_EarOk.l0] at H
     by_cases c12 : x3_2 < (l0_3.length : Int)
     rotate_left
     ·rw [if_neg c12] at H
      have c12b0 : decide (x3_2 < (l0_3.length : Int)) = false := decide_eq_false c12
      clear c12
      obtain rfl := Option.some.inj H
      obtain ⟨_, _, _, _, _, _, _, _⟩ := cells4_ BK124.out
      go_wp2
      repeat (go_quiet (fail); try go_wp2)
      go_ret
      exact ⟨by first | rfl | (simp [errW_none, errW_some] <;> rfl) | (simp [*, errW_none, errW_some] <;> rfl), us_ HB.out⟩
     rw [if_pos c12] at H
     have c12b0 : decide (x3_2 < (l0_3.length : Int)) = true := decide_eq_true c12
     clear c12
     by_cases c13 : 0 ≤ x3_2
     rotate_left
     ·rw [if_neg c13] at H
      exact absurd H (by simp)
     rw [if_pos c13] at H
     have c13b0 : decide (0 ≤ x3_2) = true := decide_eq_true c13
     clear c13
     by_cases c14 : ((rd_T68 l0_3 x3_2).f0) ≤ a0_0
     ·rw [if_pos c14] at H
      have c14b0 : decide (((rd_T68 l0_3 x3_2).f0) ≤ a0_0) = true := decide_eq_true c14
      clear c14
      obtain rfl := Option.some.inj H
      obtain ⟨_, _, _, _, _, _, _, _⟩ := cells4_ BK124.out
      have p127 : 0 ≤ (x3_2 : Int) := of_decide_eq_true (by first | (with_reducible assumption) | assumption)
      have q127 : x3_2 < (l0_3.length : Int) := of_decide_eq_true (by first | (with_reducible assumption) | assumption)
      obtain ⟨ad127, e127, hx127_0, hx127_1⟩ := at_T68 HR0_3.out x3_2 p127 q127
      cases e127
      replace hx127_0 := (HB.out.cell (lc_ w _ hx127_0)).trans hx127_0
      replace hx127_1 := (HB.out.cell (lc_ w _ hx127_1)).trans hx127_1
      replace p127 := eq_true p127
      replace q127 := eq_true q127
      go_wp2
      repeat (go_quiet (fail); try go_wp2)
      go_ret
      exact ⟨by first | rfl | (simp [errW_none, errW_some] <;> rfl) | (simp [*, errW_none, errW_some] <;> rfl), us_ HB.out⟩
     rw [if_neg c14] at H
     have c14b0 : decide (((rd_T68 l0_3 x3_2).f0) ≤ a0_0) = false := decide_eq_false c14
     clear c14
     by_cases c16 : ((rd_T68 l0_3 x3_2).f0) ≥ (wrap64 ((wrap64 (a0_0 + a0_1)) - (l0_2.length : Int)))
     ·rw [if_pos c16] at H
      have c16b0 : decide ((wrap64 ((wrap64 (a0_0 + a0_1)) - (l0_2.length : Int))) ≤ ((rd_T68 l0_3 x3_2).f0)) = true := decide_eq_true c16
      clear c16
      obtain rfl := Option.some.inj H
      obtain ⟨hcz17_0, hcz17_1, _, _, hfz17_0, hfz17_1, _, _⟩ := cells4_ BK124.out
      have p127 : 0 ≤ (x3_2 : Int) := of_decide_eq_true (by first | (with_reducible assumption) | assumption)
      have q127 : x3_2 < (l0_3.length : Int) := of_decide_eq_true (by first | (with_reducible assumption) | assumption)
      obtain ⟨ad127, e127, hx127_0, hx127_1⟩ := at_T68 HR0_3.out x3_2 p127 q127
      cases e127
      replace hx127_0 := (HB.out.cell (lc_ w _ hx127_0)).trans hx127_0
      replace hx127_1 := (HB.out.cell (lc_ w _ hx127_1)).trans hx127_1
      replace p127 := eq_true p127
      replace q127 := eq_true q127
      have p128 : 0 ≤ (x3_2 : Int) := of_decide_eq_true (by first | (with_reducible assumption) | assumption)
      have q128 : x3_2 < (l0_3.length : Int) := of_decide_eq_true (by first | (with_reducible assumption) | assumption)
      obtain ⟨ad128, e128, hx128_0, hx128_1⟩ := at_T68 HR0_3.out x3_2 p128 q128
      obtain rfl : ad127 = ad128 := (by injection e128)
      replace hx128_0 := (HB.out.cell (lc_ w _ hx128_0)).trans hx128_0
      replace hx128_1 := (HB.out.cell (lc_ w _ hx128_1)).trans hx128_1
      replace p128 := eq_true p128
      replace q128 := eq_true q128
      go_wp2
      repeat (go_quiet (fail); try go_wp2)
      go_ret
      exact ⟨by first | rfl | (simp [errW_none, errW_some] <;> rfl) | (simp [*, errW_none, errW_some] <;> rfl), us_ HB.out⟩
     rw [if_neg c16] at H
     have c16b0 : decide ((wrap64 ((wrap64 (a0_0 + a0_1)) - (l0_2.length : Int))) ≤ ((rd_T68 l0_3 x3_2).f0)) = false := decide_eq_false c16
     clear c16
     by_cases c18 : x3_2 > 0
     rotate_left
     ·rw [if_neg c18] at H
      have c18b0 : decide (0 < x3_2) = false := decide_eq_false c18
      clear c18
      have H' := mk_ H
      clear H
      obtain ⟨_, _, _, _, _, _, _, _⟩ := cells4_ BK124.out
      have p127 : 0 ≤ (x3_2 : Int) := of_decide_eq_true (by first | (with_reducible assumption) | assumption)
      have q127 : x3_2 < (l0_3.length : Int) := of_decide_eq_true (by first | (with_reducible assumption) | assumption)
      obtain ⟨ad127, e127, hx127_0, hx127_1⟩ := at_T68 HR0_3.out x3_2 p127 q127
      cases e127
      replace hx127_0 := (HB.out.cell (lc_ w _ hx127_0)).trans hx127_0
      replace hx127_1 := (HB.out.cell (lc_ w _ hx127_1)).trans hx127_1
      replace p127 := eq_true p127
      replace q127 := eq_true q127
      have p128 : 0 ≤ (x3_2 : Int) := of_decide_eq_true (by first | (with_reducible assumption) | assumption)
      have q128 : x3_2 < (l0_3.length : Int) := of_decide_eq_true (by first | (with_reducible assumption) | assumption)
      obtain ⟨ad128, e128, hx128_0, hx128_1⟩ := at_T68 HR0_3.out x3_2 p128 q128
      obtain rfl : ad127 = ad128 := (by injection e128)
      replace hx128_0 := (HB.out.cell (lc_ w _ hx128_0)).trans hx128_0
      replace hx128_1 := (HB.out.cell (lc_ w _ hx128_1)).trans hx128_1
      replace p128 := eq_true p128
      replace q128 := eq_true q128
      go_wp2
      repeat (go_quiet (fail); try go_wp2)
      go_roundg k2
      case measure => have := HJ1.out; have := HK2.out; omega
      case rel => exact ⟨(wrap64 (x3_2 + 1)), (by first | rfl | (simp; done) | (simp [*]; done)), H', ⟨by have := HJ1.out; have := HK2.out; omega⟩, ⟨u_ BK124.out⟩, ⟨us_ HB.out⟩⟩
     rw [if_pos c18] at H
     have c18b0 : decide (0 < x3_2) = true := decide_eq_true c18
     clear c18
     obtain ⟨ji19, hji19⟩ : ∃ j_ : Int, (wrap64 (x3_2 - 1)) = j_ := ⟨_, rfl⟩
     replace H : (if 0 ≤ (ji19) then (if (ji19) < (l0_3.length : Int) then (if ((rd_T68 l0_3 (ji19)).f0) ≥ ((rd_T68 l0_3 x3_2).f0) then (some false) else (spec_EarOk.l0 k2 (wrap64 (x3_2 + 1)) a0_0 a0_1 l0_2 l0_3)) else (none)) else (none)) = some r := by first | (rw [hji19] at H; exact H) | (simp only [hji19] at H ⊢; exact H)
     have hji19w : (IntKind.i64.wrap (x3_2 - 1)) = ji19 := (i64_w _).trans hji19
     by_cases c20 : 0 ≤ (ji19)
     rotate_left
     ·rw [if_neg c20] at H
      exact absurd H (by simp)
     rw [if_pos c20] at H
     have c20b0 : decide (0 ≤ (ji19)) = true := decide_eq_true c20
     clear c20
     by_cases c21 : (ji19) < (l0_3.length : Int)
     rotate_left
     ·rw [if_neg c21] at H
      exact absurd H (by simp)
     rw [if_pos c21] at H
     have c21b0 : decide ((ji19) < (l0_3.length : Int)) = true := decide_eq_true c21
     clear c21
     by_cases c22 : ((rd_T68 l0_3 (ji19)).f0) ≥ ((rd_T68 l0_3 x3_2).f0)
     ·rw [if_pos c22] at H
      have c22b0 : decide (((rd_T68 l0_3 x3_2).f0) ≤ ((rd_T68 l0_3 (ji19)).f0)) = true := decide_eq_true c22
      clear c22
      obtain rfl := Option.some.inj H
      obtain ⟨_, _, _, _, _, _, _, _⟩ := cells4_ BK124.out
      have p127 : 0 ≤ (x3_2 : Int) := of_decide_eq_true (by first | (with_reducible assumption) | assumption)
      have q127 : x3_2 < (l0_3.length : Int) := of_decide_eq_true (by first | (with_reducible assumption) | assumption)
      obtain ⟨ad127, e127, hx127_0, hx127_1⟩ := at_T68 HR0_3.out x3_2 p127 q127
      cases e127
      replace hx127_0 := (HB.out.cell (lc_ w _ hx127_0)).trans hx127_0
      replace hx127_1 := (HB.out.cell (lc_ w _ hx127_1)).trans hx127_1
      replace p127 := eq_true p127
      replace q127 := eq_true q127
      have p128 : 0 ≤ (x3_2 : Int) := of_decide_eq_true (by first | (with_reducible assumption) | assumption)
      have q128 : x3_2 < (l0_3.length : Int) := of_decide_eq_true (by first | (with_reducible assumption) | assumption)
      obtain ⟨ad128, e128, hx128_0, hx128_1⟩ := at_T68 HR0_3.out x3_2 p128 q128
      obtain rfl : ad127 = ad128 := (by injection e128)
      replace hx128_0 := (HB.out.cell (lc_ w _ hx128_0)).trans hx128_0
      replace hx128_1 := (HB.out.cell (lc_ w _ hx128_1)).trans hx128_1
      replace p128 := eq_true p128
      replace q128 := eq_true q128
      have p129 : 0 ≤ ((ji19) : Int) := of_decide_eq_true (by first | (with_reducible assumption) | assumption)
      have q129 : (ji19) < (l0_3.length : Int) := of_decide_eq_true (by first | (with_reducible assumption) | assumption)
      obtain ⟨ad129, e129, hx129_0, hx129_1⟩ := at_T68 HR0_3.out (ji19) p129 q129
      obtain rfl : ad127 = ad129 := (by injection e129)
      replace hx129_0 := (HB.out.cell (lc_ w _ hx129_0)).trans hx129_0
      replace hx129_1 := (HB.out.cell (lc_ w _ hx129_1)).trans hx129_1
      replace p129 := eq_true p129
      replace q129 := eq_true q129
      have p130 : 0 ≤ (x3_2 : Int) := of_decide_eq_true (by first | (with_reducible assumption) | assumption)
      have q130 : x3_2 < (l0_3.length : Int) := of_decide_eq_true (by first | (with_reducible assumption) | assumption)
      obtain ⟨ad130, e130, hx130_0, hx130_1⟩ := at_T68 HR0_3.out x3_2 p130 q130
      obtain rfl : ad127 = ad130 := (by injection e130)
      replace hx130_0 := (HB.out.cell (lc_ w _ hx130_0)).trans hx130_0
      replace hx130_1 := (HB.out.cell (lc_ w _ hx130_1)).trans hx130_1
      replace p130 := eq_true p130
      replace q130 := eq_true q130
      go_wp2
      repeat (go_quiet (fail); try go_wp2)
      go_ret
      exact ⟨by first | rfl | (simp [errW_none, errW_some] <;> rfl) | (simp only [← hji19]; first | rfl | (simp [errW_none, errW_some] <;> rfl)) | (simp [*, errW_none, errW_some] <;> rfl), us_ HB.out⟩
     rw [if_neg c22] at H
     have c22b0 : decide (((rd_T68 l0_3 x3_2).f0) ≤ ((rd_T68 l0_3 (ji19)).f0)) = false := decide_eq_false c22
     clear c22
     have H' := mk_ H
     clear H
     obtain ⟨hcz24_0, hcz24_1, _, _, hfz24_0, hfz24_1, _, _⟩ := cells4_ BK124.out
     have p127 : 0 ≤ (x3_2 : Int) := of_decide_eq_true (by first | (with_reducible assumption) | assumption)
     have q127 : x3_2 < (l0_3.length : Int) := of_decide_eq_true (by first | (with_reducible assumption) | assumption)
     obtain ⟨ad127, e127, hx127_0, hx127_1⟩ := at_T68 HR0_3.out x3_2 p127 q127
     cases e127
     replace hx127_0 := (HB.out.cell (lc_ w _ hx127_0)).trans hx127_0
     replace hx127_1 := (HB.out.cell (lc_ w _ hx127_1)).trans hx127_1
     replace p127 := eq_true p127
     replace q127 := eq_true q127
     have p128 : 0 ≤ (x3_2 : Int) := of_decide_eq_true (by first | (with_reducible assumption) | assumption)
     have q128 : x3_2 < (l0_3.length : Int) := of_decide_eq_true (by first | (with_reducible assumption) | assumption)
     obtain ⟨ad128, e128, hx128_0, hx128_1⟩ := at_T68 HR0_3.out x3_2 p128 q128
     obtain rfl : ad127 = ad128 := (by injection e128)
     replace hx128_0 := (HB.out.cell (lc_ w _ hx128_0)).trans hx128_0
     replace hx128_1 := (HB.out.cell (lc_ w _ hx128_1)).trans hx128_1
     replace p128 := eq_true p128
     replace q128 := eq_true q128
     have p129 : 0 ≤ ((ji19) : Int) := of_decide_eq_true (by first | (with_reducible assumption) | assumption)
     have q129 : (ji19) < (l0_3.length : Int) := of_decide_eq_true (by first | (with_reducible assumption) | assumption)
     obtain ⟨ad129, e129, hx129_0, hx129_1⟩ := at_T68 HR0_3.out (ji19) p129 q129
     obtain rfl : ad127 = ad129 := (by injection e129)
     replace hx129_0 := (HB.out.cell (lc_ w _ hx129_0)).trans hx129_0
     replace hx129_1 := (HB.out.cell (lc_ w _ hx129_1)).trans hx129_1
     replace p129 := eq_true p129
     replace q129 := eq_true q129
     have p130 : 0 ≤ (x3_2 : Int) := of_decide_eq_true (by first | (with_reducible assumption) | assumption)
     have q130 : x3_2 < (l0_3.length : Int) := of_decide_eq_true (by first | (with_reducible assumption) | assumption)
     obtain ⟨ad130, e130, hx130_0, hx130_1⟩ := at_T68 HR0_3.out x3_2 p130 q130
     obtain rfl : ad127 = ad130 := (by injection e130)
     replace hx130_0 := (HB.out.cell (lc_ w _ hx130_0)).trans hx130_0
     replace hx130_1 := (HB.out.cell (lc_ w _ hx130_1)).trans hx130_1
     replace p130 := eq_true p130
     replace q130 := eq_true q130
     go_wp2
     repeat (go_quiet (fail); try go_wp2)
     go_roundg k2
     case measure => have := HJ1.out; have := HK2.out; omega
     case rel => exact ⟨(wrap64 (x3_2 + 1)), (by first | rfl | (simp; done) | (simp [*]; done)), H', ⟨by have := HJ1.out; have := HK2.out; omega⟩, ⟨u_ BK124.out⟩, ⟨us_ HB.out⟩⟩

/-! ### spec_EarFree: function 130 -/
def spec_EarFree.f (k : Nat) (a0_0 : Int) (a0_1 : Int) (l0_2 : List Int) (l0_3 : List (S68)) : Option (Int) := (spec_EarOk.f k a0_0 a0_1 l0_2 l0_3).bind fun t132 => (if t132 = true then (some (wrap64 (a0_1 - (l0_2.length : Int)))) else (some 0))
theorem spec_EarFree.mono : ∀ a0 a1 a2 a3 k, LeO (spec_EarFree.f k a0 a1 a2 a3) (spec_EarFree.f (k + 1) a0 a1 a2 a3) := by
 intro a0 a1 a2 a3 k
 unfold spec_EarFree.f
 repeat' first
   | (with_reducible exact spec_EarOk.mono _ _ _ _ _)
   | (with_reducible exact LeO.refl _)
   | (with_reducible exact LeO.none _)
   | (with_reducible refine LeO.ite ?_ ?_)
   | (with_reducible refine LeO.bind ?_ (fun _ => ?_))
   | exact spec_EarOk.mono _ _ _ _ _
   | exact LeO.none _
   | refine LeO.ite ?_ ?_
   | refine LeO.bind ?_ (fun _ => ?_)
set_option maxHeartbeats 8000000 in
set_option maxRecDepth 100000 in
theorem spec_EarFree.calls (k : Nat) (a0_0 : Int) (a0_1 : Int) (A0_2 : Option Addr) (c0_2 : Nat) (l0_2 : List Int) (A0_3 : Option Addr) (c0_3 : Nat) (l0_3 : List (S68)) (r : Int) (w : World) (hr0_2 : Kd.C (Kd.int .u8) w A0_2 l0_2.length l0_2) (hc0_2 : l0_2.length ≤ c0_2) (hr0_3 : Kd.C k68 w A0_3 l0_3.length l0_3) (hc0_3 : l0_3.length ≤ c0_3) (h : spec_EarFree.f k a0_0 a0_1 l0_2 l0_3 = some r) :
  Calls Try.prog 130 #[.agg #[.int .i64 a0_0, .int .i64 a0_1, .slice A0_2 l0_2.length c0_2, .slice A0_3 l0_3.length c0_3]] w fun e w' => e = .returned (.int .i64 r) ∧ Below w.heap.size w w' := by
 have hu59 := Try.underlying59
 have HR0_2 := mk_ hr0_2
 have HC0_2 := mk_ hc0_2
 clear hr0_2 hc0_2
 have HR0_3 := mk_ hr0_3
 have HC0_3 := mk_ hc0_3
 clear hr0_3 hc0_3
 have HB := mk_ (Below.refl w.heap.size w)
 have H := h
 unfold spec_EarFree.f at H
 clear h
 replace H := Option.bind_eq_some_iff.mp H
 obtain ⟨t132, A20, H⟩ := H
 replace H : (if t132 = true then (some (wrap64 (a0_1 - (l0_2.length : Int)))) else (some 0)) = some r := H
 have A2 := mk_ A20
 clear A20
 by_cases c3 : t132 = true
 focus
  subst c3
  have H1 : (some (wrap64 (a0_1 - (l0_2.length : Int)))) = some r := by rw [if_pos rfl] at H; exact H
  clear H
  have H := H1
  clear H1
  obtain rfl := Option.some.inj H
 rotate_left
 focus
  replace c3 := Bool.eq_false_iff.mpr c3
  subst c3
  have H1 : (some 0) = some r := by rw [if_neg (show ¬ (false = true) by decide)] at H; exact H
  clear H
  have H := H1
  clear H1
  obtain rfl := Option.some.inj H
 rotate_left
 all_goals
  go_enter Try.func130, Try.ntmps130
  go_wp2_with (first | ((with_reducible refine gate_dst (N := 1) rfl ?_); refine box_event ?hg (N := 1) ?hd (cs := #[.int .i64 a0_0, .int .i64 a0_1, .slice A0_2 l0_2.length c0_2, .slice A0_3 l0_3.length c0_3]) (t := 59) ?hr ?_; (case hd => rfl); (case hg => rfl); (case hr => first | (go_simp; done) | (go_simp; rfl)); intro gb2320 hg w2321 hbox hb; have n0_ := mk_ (below_step (ub_ HB.out) hb); have BK131 := mk_ (hbox); have GW131 := mk_ ((by rw [hg]; exact (below_size (ub_ HB.out)) : w.heap.size ≤ gb2320)); have GE131 := ge_ ((by rw [hg]; exact (below_size (ub_ HB.out)) : w.heap.size ≤ gb2320)); replace HB := n0_; clear n0_; clear hb hbox hg; obtain ⟨hcz330131_0, hcz330131_1, hcz330131_2, hcz330131_3, hfz330131_0, hfz330131_1, hfz330131_2, hfz330131_3⟩ := cells4_ BK131.out) | ((with_reducible refine gate_callee (f := 33) rfl ?_); refine goesL_ (some 4) rfl rfl Try.func33 (by kernel_rfl) rfl #[.agg #[.int .i64 a0_0, .int .i64 a0_1, .slice A0_2 l0_2.length c0_2, .slice A0_3 l0_3.length c0_3]] rfl (by (try simp only [lm_, lo_, ln_]); try rfl) ?_; (with_reducible refine (spec_EarOk.calls k a0_0 a0_1 _ _ l0_2 _ _ l0_3 true _ ?side1 ?side2 ?side3 ?side4 A2.out).mono ?_); (case side1 => repeat (first | exact (Kd.C_below HR0_2.out HB.out) | (with_reducible refine Kd.C_alloc ?_ _) | (with_reducible refine Kd.C_drewN ?_ _) | (with_reducible refine Kd.C_drew ?_))); (case side2 => exact HC0_2.out); (case side3 => repeat (first | exact (Kd.C_below HR0_3.out HB.out) | (with_reducible refine Kd.C_alloc ?_ _) | (with_reducible refine Kd.C_drewN ?_ _) | (with_reducible refine Kd.C_drew ?_))); (case side4 => exact HC0_3.out); rintro e w2360 ⟨rfl, hb⟩; refine ⟨_, rfl, ?_⟩; replace BK131 := mk_ (blk_below (u_ BK131.out) hb); replace HB := mk_ (below_step (us_ HB.out) hb); obtain ⟨_, _, _, _, _, _, _, _⟩ := cells4_ BK131.out) | ((with_reducible refine gate_callee (f := 33) rfl ?_); refine goesL_ (some 4) rfl rfl Try.func33 (by kernel_rfl) rfl #[.agg #[.int .i64 a0_0, .int .i64 a0_1, .slice A0_2 l0_2.length c0_2, .slice A0_3 l0_3.length c0_3]] rfl (by (try simp only [lm_, lo_, ln_]); try rfl) ?_; (with_reducible refine (spec_EarOk.calls k a0_0 a0_1 _ _ l0_2 _ _ l0_3 false _ ?side1 ?side2 ?side3 ?side4 A2.out).mono ?_); (case side1 => repeat (first | exact (Kd.C_below HR0_2.out HB.out) | (with_reducible refine Kd.C_alloc ?_ _) | (with_reducible refine Kd.C_drewN ?_ _) | (with_reducible refine Kd.C_drew ?_))); (case side2 => exact HC0_2.out); (case side3 => repeat (first | exact (Kd.C_below HR0_3.out HB.out) | (with_reducible refine Kd.C_alloc ?_ _) | (with_reducible refine Kd.C_drewN ?_ _) | (with_reducible refine Kd.C_drew ?_))); (case side4 => exact HC0_3.out); rintro e w2360 ⟨rfl, hb⟩; refine ⟨_, rfl, ?_⟩; replace BK131 := mk_ (blk_below (u_ BK131.out) hb); replace HB := mk_ (below_step (us_ HB.out) hb)))
  go_ret
  exact ⟨by first | rfl | (simp [errW_none, errW_some] <;> rfl) | (simp [*, errW_none, errW_some] <;> rfl), us_ HB.out⟩

/-! ### spec_l12Put: function 131 -/
mutual
def spec_l12Put.l0 : Nat → List (S68) → List (S68) → Bool → Int → Int → Int → Option ((List (S68)))
 | 0, _, _, _, _, _, _ => none
 | k + 1, x0, x5, x6, x7, x134000, x134001 => if x7 < (x0.length : Int) then (if x6 = true then (spec_l12Put.j1 k x0 x5 x6 x7 false x134000 x134001) else (if 0 ≤ x7 then (spec_l12Put.j1 k x0 x5 x6 x7 (decide (x134000 < ((rd_T68 x0 x7).f0))) x134000 x134001) else (none))) else (if x6 = true then (some x5) else (if x5.length < 8796093022208 then (some (x5 ++ [(⟨x134000, x134001⟩ : S68)])) else (none)))
def spec_l12Put.j1 : Nat → List (S68) → List (S68) → Bool → Int → Bool → Int → Int → Option ((List (S68)))
 | 0, _, _, _, _, _, _, _ => none
 | k + 1, x0, x5, x6, x7, x26, x134000, x134001 => if x26 = true then (if x5.length < 8796093022208 then ((some (x5 ++ [(⟨x134000, x134001⟩ : S68)] : List (S68))).bind fun y141 => (if 0 ≤ x7 then (if x7 < (x0.length : Int) then (if x134000 = ((rd_T68 x0 x7).f0) then (if y141.length < 8796093022208 then (spec_l12Put.l0 k x0 (y141 ++ [(⟨(rd_T68 x0 x7).f0, (rd_T68 x0 x7).f1⟩ : S68)]) true (wrap64 (x7 + 1)) x134000 x134001) else (none)) else (if y141.length < 8796093022208 then (spec_l12Put.l0 k x0 (y141 ++ [(⟨(rd_T68 x0 x7).f0, (rd_T68 x0 x7).f1⟩ : S68)]) true (wrap64 (x7 + 1)) x134000 x134001) else (none))) else (none)) else (none))) else (none)) else (if 0 ≤ x7 then (if x7 < (x0.length : Int) then (if x134000 = ((rd_T68 x0 x7).f0) then (if x5.length < 8796093022208 then (spec_l12Put.l0 k x0 (x5 ++ [(⟨(rd_T68 x0 x7).f0, (rd_T68 x0 x7).f1⟩ : S68)]) true (wrap64 (x7 + 1)) x134000 x134001) else (none)) else (if x5.length < 8796093022208 then (spec_l12Put.l0 k x0 (x5 ++ [(⟨(rd_T68 x0 x7).f0, (rd_T68 x0 x7).f1⟩ : S68)]) x6 (wrap64 (x7 + 1)) x134000 x134001) else (none))) else (none)) else (none))
end
def spec_l12Put.f (k : Nat) (l0 : List (S68)) (a1_0 : Int) (a1_1 : Int) : Option ((List (S68))) := spec_l12Put.l0 k l0 (([] : List (S68))) false 0 a1_0 a1_1
theorem spec_l12Put.mono_l : ∀ k, (∀ y0 y1 y2 y3 y4 y5, LeO (spec_l12Put.l0 k y0 y1 y2 y3 y4 y5) (spec_l12Put.l0 (k + 1) y0 y1 y2 y3 y4 y5)) ∧ (∀ y0 y1 y2 y3 y4 y5 y6, LeO (spec_l12Put.j1 k y0 y1 y2 y3 y4 y5 y6) (spec_l12Put.j1 (k + 1) y0 y1 y2 y3 y4 y5 y6))
 | 0 => ⟨fun _ _ _ _ _ _ r h => by simp [spec_l12Put.l0] at h, fun _ _ _ _ _ _ _ r h => by simp [spec_l12Put.j1] at h⟩
 | k + 1 => by
  obtain ⟨ih0, ih1⟩ := spec_l12Put.mono_l k
  refine ⟨?_, ?_⟩
  ·intro y0 y1 y2 y3 y4 y5
   unfold spec_l12Put.l0
   repeat' first
   | (with_reducible exact ih0 _ _ _ _ _ _)
   | (with_reducible exact ih1 _ _ _ _ _ _ _)
   | (with_reducible exact LeO.refl _)
   | (with_reducible exact LeO.none _)
   | (with_reducible refine LeO.ite ?_ ?_)
   | (with_reducible refine LeO.bind ?_ (fun _ => ?_))
   | exact ih0 _ _ _ _ _ _
   | exact ih1 _ _ _ _ _ _ _
   | exact LeO.none _
   | refine LeO.ite ?_ ?_
   | refine LeO.bind ?_ (fun _ => ?_)
  ·intro y0 y1 y2 y3 y4 y5 y6
   unfold spec_l12Put.j1
   repeat' first
   | (with_reducible exact ih0 _ _ _ _ _ _)
   | (with_reducible exact ih1 _ _ _ _ _ _ _)
   | (with_reducible exact LeO.refl _)
   | (with_reducible exact LeO.none _)
   | (with_reducible refine LeO.ite ?_ ?_)
   | (with_reducible refine LeO.bind ?_ (fun _ => ?_))
   | exact ih0 _ _ _ _ _ _
   | exact ih1 _ _ _ _ _ _ _
   | exact LeO.none _
   | refine LeO.ite ?_ ?_
   | refine LeO.bind ?_ (fun _ => ?_)
theorem spec_l12Put.mono : ∀ a0 a1 a2 k, LeO (spec_l12Put.f k a0 a1 a2) (spec_l12Put.f (k + 1) a0 a1 a2) := by
 intro a0 a1 a2 k
 obtain ⟨ih0, ih1⟩ := spec_l12Put.mono_l k
 unfold spec_l12Put.f
 repeat' first
   | (with_reducible exact ih0 _ _ _ _ _ _)
   | (with_reducible exact ih1 _ _ _ _ _ _ _)
   | (with_reducible exact LeO.refl _)
   | (with_reducible exact LeO.none _)
   | (with_reducible refine LeO.ite ?_ ?_)
   | (with_reducible refine LeO.bind ?_ (fun _ => ?_))
   | exact ih0 _ _ _ _ _ _
   | exact ih1 _ _ _ _ _ _ _
   | exact LeO.none _
   | refine LeO.ite ?_ ?_
   | refine LeO.bind ?_ (fun _ => ?_)
set_option maxHeartbeats 8000000 in
set_option maxRecDepth 100000 in
theorem spec_l12Put.calls (k : Nat) (A0 : Option Addr) (c0 : Nat) (l0 : List (S68)) (a1_0 : Int) (a1_1 : Int) (r : List (S68)) (w : World) (hr0 : Kd.C k68 w A0 l0.length l0) (hc0 : l0.length ≤ c0) (h : spec_l12Put.f k l0 a1_0 a1_1 = some r) :
  Calls Try.prog 131 #[.slice A0 l0.length c0, .agg #[.int .i64 a1_0, .int .u8 a1_1]] w fun e w' => ∃ v0_ : Value, e = .returned (v0_) ∧ Kd.R k68 68 w' w.heap.size (fun _ => True) v0_ r ∧ Below w.heap.size w w' := by
 have hu68 := Try.underlying68
 have HR0 := mk_ hr0
 have HC0 := mk_ hc0
 clear hr0 hc0
 have HB := mk_ (Below.refl w.heap.size w)
 have H : (spec_l12Put.l0 k l0 (([] : List (S68))) false 0 a1_0 a1_1) = some r := h
 clear h
 obtain ⟨y134, hy134⟩ : ∃ y_ : List (S68), y_ = (([] : List (S68))) := ⟨_, rfl⟩
 replace H : (spec_l12Put.l0 k l0 y134 false 0 a1_0 a1_1) = some r := by first | (rw [hy134]; with_reducible exact H) | (have H2_ := (Option.bind_some _ _).symm.trans H; rw [hy134]; with_reducible exact H2_) | (have H2_ := (Option.bind_some _ _).symm.trans H; with_reducible exact H2_) | with_reducible exact H | (rw [hy134]; exact H) | exact H
 have Ny134 := mk_ hy134
 clear hy134
 have H' := mk_ H
 clear H
 go_enter Try.func131, Try.ntmps131
 go_wp2_with (first | ((with_reducible refine gate_dst (N := 3) rfl ?_); refine box_event ?hg (N := 3) ?hd (cs := #[.int .i64 a1_0, .int .u8 a1_1]) (t := 68) ?hr ?_; (case hd => rfl); (case hg => rfl); (case hr => first | (go_simp; done) | (go_simp; rfl)); intro gb133 hg w3 hbox hb; have n0_ := mk_ (below_step (ub_ HB.out) hb); have BK133 := mk_ (hbox); have GW133 := mk_ ((by rw [hg]; exact (below_size (ub_ HB.out)) : w.heap.size ≤ gb133)); have GE133 := ge_ ((by rw [hg]; exact (below_size (ub_ HB.out)) : w.heap.size ≤ gb133)); replace HB := n0_; clear n0_; clear hb hbox hg) | ((with_reducible refine gate_dst (N := 8) rfl ?_); refine Kd.R_lit k68 _ 68 ?hg (N := 8) ?hd (xs := ([] : List (S68))) (inner := []) (ok := fun _ => True) (okp := fun _ => True) ?hr ?hp (fun _ hk => hk) trivial (Below.refl _ _) (Nat.le_refl _) (by simp) ?_; (case hd => rfl); (case hg => rfl); (case hr => first | (go_simp; done) | (go_simp; rfl)); (case hp => exact (Reps.none _ _)); intro v135 w4 ho5 hb hg_ hnew_; clear hg_ hnew_; (first | rw [← Ny134.out] at ho5 | (simp only [Int.reduceToNat] at ho5; rw [← Ny134.out] at ho5)); have HO136 := mk_ (Kd.R_lower (Kd.R_newB ho5 (g := gb133) (o := .cells #[.int .i64 a1_0, .int .u8 a1_1] 68 (0, 0)) (u_ BK133.out)) (below_size (us_ HB.out))); replace BK133 := mk_ (blk_below (u_ BK133.out) hb); replace HB := mk_ (below_step (us_ HB.out) hb); clear hb ho5))
 repeat (go_quiet (first | ((with_reducible refine gate_dst (N := 3) rfl ?_); refine box_event ?hg (N := 3) ?hd (cs := #[.int .i64 a1_0, .int .u8 a1_1]) (t := 68) ?hr ?_; (case hd => rfl); (case hg => rfl); (case hr => first | (go_simp; done) | (go_simp; rfl)); intro gb133 hg w3 hbox hb; have n0_ := mk_ (below_step (ub_ HB.out) hb); have BK133 := mk_ (hbox); have GW133 := mk_ ((by rw [hg]; exact (below_size (ub_ HB.out)) : w.heap.size ≤ gb133)); have GE133 := ge_ ((by rw [hg]; exact (below_size (ub_ HB.out)) : w.heap.size ≤ gb133)); replace HB := n0_; clear n0_; clear hb hbox hg) | ((with_reducible refine gate_dst (N := 8) rfl ?_); refine Kd.R_lit k68 _ 68 ?hg (N := 8) ?hd (xs := ([] : List (S68))) (inner := []) (ok := fun _ => True) (okp := fun _ => True) ?hr ?hp (fun _ hk => hk) trivial (Below.refl _ _) (Nat.le_refl _) (by simp) ?_; (case hd => rfl); (case hg => rfl); (case hr => first | (go_simp; done) | (go_simp; rfl)); (case hp => exact (Reps.none _ _)); intro v135 w4 ho5 hb hg_ hnew_; clear hg_ hnew_; (first | rw [← Ny134.out] at ho5 | (simp only [Int.reduceToNat] at ho5; rw [← Ny134.out] at ho5)); have HO136 := mk_ (Kd.R_lower (Kd.R_newB ho5 (g := gb133) (o := .cells #[.int .i64 a1_0, .int .u8 a1_1] 68 (0, 0)) (u_ BK133.out)) (below_size (us_ HB.out))); replace BK133 := mk_ (blk_below (u_ BK133.out) hb); replace HB := mk_ (below_step (us_ HB.out) hb); clear hb ho5)); try go_wp2_with (first | ((with_reducible refine gate_dst (N := 3) rfl ?_); refine box_event ?hg (N := 3) ?hd (cs := #[.int .i64 a1_0, .int .u8 a1_1]) (t := 68) ?hr ?_; (case hd => rfl); (case hg => rfl); (case hr => first | (go_simp; done) | (go_simp; rfl)); intro gb133 hg w3 hbox hb; have n0_ := mk_ (below_step (ub_ HB.out) hb); have BK133 := mk_ (hbox); have GW133 := mk_ ((by rw [hg]; exact (below_size (ub_ HB.out)) : w.heap.size ≤ gb133)); have GE133 := ge_ ((by rw [hg]; exact (below_size (ub_ HB.out)) : w.heap.size ≤ gb133)); replace HB := n0_; clear n0_; clear hb hbox hg) | ((with_reducible refine gate_dst (N := 8) rfl ?_); refine Kd.R_lit k68 _ 68 ?hg (N := 8) ?hd (xs := ([] : List (S68))) (inner := []) (ok := fun _ => True) (okp := fun _ => True) ?hr ?hp (fun _ hk => hk) trivial (Below.refl _ _) (Nat.le_refl _) (by simp) ?_; (case hd => rfl); (case hg => rfl); (case hr => first | (go_simp; done) | (go_simp; rfl)); (case hp => exact (Reps.none _ _)); intro v135 w4 ho5 hb hg_ hnew_; clear hg_ hnew_; (first | rw [← Ny134.out] at ho5 | (simp only [Int.reduceToNat] at ho5; rw [← Ny134.out] at ho5)); have HO136 := mk_ (Kd.R_lower (Kd.R_newB ho5 (g := gb133) (o := .cells #[.int .i64 a1_0, .int .u8 a1_1] 68 (0, 0)) (u_ BK133.out)) (below_size (us_ HB.out))); replace BK133 := mk_ (blk_below (u_ BK133.out) hb); replace HB := mk_ (below_step (us_ HB.out) hb); clear hb ho5)))
 go_loopg [5, 6, 7] k (fun kq v5 v6 v7 w' => ∃ (x5_1 : List (S68)) (x6_1 : Bool) (x7_1 : Int), v6 = .bool x6_1 ∧ v7 = .int .i64 x7_1 ∧ Aside0 (spec_l12Put.l0 kq l0 x5_1 x6_1 x7_1 a1_0 a1_1 = some r) ∧ Aside0 (kq ≤ k) ∧ Aside0 (Kd.R k68 68 w' w.heap.size (fun k_ => k_ ≠ gb133) v5 x5_1) ∧ Aside0 (w'.heap[gb133]? = some (.cells #[.int .i64 a1_0, .int .u8 a1_1] 68 (0, 0))) ∧ Aside0 (Below w.heap.size w w'))
 case atStart => exact ⟨(y134), (false), (0), (by first | rfl | (simp; done) | (simp [*]; done)), (by first | rfl | (simp; done) | (simp [*]; done)), H', ⟨Nat.le_refl _⟩, ⟨by (with_reducible repeat (first | apply Kd.R_alloc | apply Kd.R_drewN | apply Kd.R_drew)); exact Kd.R_mono HO136.out (fun _ hk => hk.2)⟩, ⟨u_ BK133.out⟩, ⟨us_ HB.out⟩⟩
 case round =>
  clear H'
  try clear c1
  try clear p2
  obtain ⟨x5_1, x6_1, x7_1, rfl, rfl, HA, HK1, HO_5, BK133, HB⟩ := hrel
  cases gk with
  | zero => exact absurd HA.out (by simp [spec_l12Put.l0])
  | succ k1 =>
   have H := HA.out
   clear HA
   simp only [spec_l12Put.l0] at H
   by_cases c6 : x7_1 < (l0.length : Int)
   rotate_left
   ·rw [if_neg c6] at H
    have c6b0 : decide (x7_1 < (l0.length : Int)) = false := decide_eq_false c6
    clear c6
    by_cases c35 : x6_1 = true
    ·subst c35
     have H1 : (some x5_1) = some r := by rw [if_pos rfl] at H; exact H
     clear H
     have H := H1
     clear H1
     obtain rfl := Option.some.inj H
     go_wp2
     repeat (go_quiet (fail); try go_wp2)
     go_ret
     exact ⟨_, by first | rfl | (simp [errW_none, errW_some] <;> rfl) | (simp [*, errW_none, errW_some] <;> rfl), by (with_reducible repeat (first | apply Kd.R_alloc | apply Kd.R_drewN | apply Kd.R_drew)); exact Kd.R_mono HO_5.out (fun _ hk => trivial), us_ HB.out⟩
    replace c35 := Bool.eq_false_iff.mpr c35
    subst c35
    rw [if_neg (show ¬ (false = true) by decide)] at H
    by_cases c36 : x5_1.length < 8796093022208
    rotate_left
    ·rw [if_neg c36] at H
     exact absurd H (by simp)
    rw [if_pos c36] at H
    have LMc36 := mk_ c36
    clear c36
    obtain ⟨y137, hy137⟩ : ∃ y_ : List (S68), y_ = (x5_1 ++ [(⟨a1_0, a1_1⟩ : S68)]) := ⟨_, rfl⟩
    replace H : (some y137) = some r := by first | (rw [hy137]; with_reducible exact H) | (have H2_ := (Option.bind_some _ _).symm.trans H; rw [hy137]; with_reducible exact H2_) | (have H2_ := (Option.bind_some _ _).symm.trans H; with_reducible exact H2_) | with_reducible exact H | (rw [hy137]; exact H) | exact H
    have Ny137 := mk_ hy137
    clear hy137
    obtain rfl := Option.some.inj H
    obtain ⟨_, _, _, _⟩ := cells2_ BK133.out
    go_wp2_with (first | ((with_reducible refine gate_builtin (b := .append) (xs := #[.tmp 48, .tmp 50]) rfl ?_); at_builtin; refine Kd.R_append k68 (w0 := w) w.heap.size rfl (.tmp 48) (.tmp 50) 57 68 (.agg #[(.int .i64 0), (.int .u8 0)]) 16 rfl Try.underlying57 info68 rfl (by decide) (by omega) u5 x5_1 (⟨a1_0, a1_1⟩ : S68) [.int .i64 a1_0, .int .u8 a1_1] (fun k_ => k_ ≠ gb133) (fun _ => False) rfl rfl ?aP (fun _ hk => hk.elim) ?aF ?aO ?aB ?aS ?aL ?_; (case aP => exact k68_mkM _ _ _ (⟨a1_0, a1_1⟩ : S68)); (case aB => exact (us_ HB.out)); (case aF => exact (fun k_ hk => Kd.freshB (g := gb133) (o := .cells #[.int .i64 a1_0, .int .u8 a1_1] 68 (0, 0)) (u_ BK133.out) k_ hk)); (case aO => exact (Kd.ur_ HO_5.out)); (case aS => exact (below_size (us_ HB.out))); (case aL => have := LMc36.out; omega); intro v138 w38 ho hb hg hat; rw [← Ny137.out] at ho; replace BK133 := mk_ (blk_grown (g := gb133) (o := .cells #[.int .i64 a1_0, .int .u8 a1_1] 68 (0, 0)) (u_ BK133.out) hg (Kd.R_away HO_5.out (fun _ hk => hk))); replace HB := mk_ (hb); have HO139 := mk_ (ho); clear HO_5; clear ho hb hg hat))
    repeat (go_quiet (first | ((with_reducible refine gate_builtin (b := .append) (xs := #[.tmp 48, .tmp 50]) rfl ?_); at_builtin; refine Kd.R_append k68 (w0 := w) w.heap.size rfl (.tmp 48) (.tmp 50) 57 68 (.agg #[(.int .i64 0), (.int .u8 0)]) 16 rfl Try.underlying57 info68 rfl (by decide) (by omega) u5 x5_1 (⟨a1_0, a1_1⟩ : S68) [.int .i64 a1_0, .int .u8 a1_1] (fun k_ => k_ ≠ gb133) (fun _ => False) rfl rfl ?aP (fun _ hk => hk.elim) ?aF ?aO ?aB ?aS ?aL ?_; (case aP => exact k68_mkM _ _ _ (⟨a1_0, a1_1⟩ : S68)); (case aB => exact (us_ HB.out)); (case aF => exact (fun k_ hk => Kd.freshB (g := gb133) (o := .cells #[.int .i64 a1_0, .int .u8 a1_1] 68 (0, 0)) (u_ BK133.out) k_ hk)); (case aO => exact (Kd.ur_ HO_5.out)); (case aS => exact (below_size (us_ HB.out))); (case aL => have := LMc36.out; omega); intro v138 w38 ho hb hg hat; rw [← Ny137.out] at ho; replace BK133 := mk_ (blk_grown (g := gb133) (o := .cells #[.int .i64 a1_0, .int .u8 a1_1] 68 (0, 0)) (u_ BK133.out) hg (Kd.R_away HO_5.out (fun _ hk => hk))); replace HB := mk_ (hb); have HO139 := mk_ (ho); clear HO_5; clear ho hb hg hat)); try go_wp2_with (first | ((with_reducible refine gate_builtin (b := .append) (xs := #[.tmp 48, .tmp 50]) rfl ?_); at_builtin; refine Kd.R_append k68 (w0 := w) w.heap.size rfl (.tmp 48) (.tmp 50) 57 68 (.agg #[(.int .i64 0), (.int .u8 0)]) 16 rfl Try.underlying57 info68 rfl (by decide) (by omega) u5 x5_1 (⟨a1_0, a1_1⟩ : S68) [.int .i64 a1_0, .int .u8 a1_1] (fun k_ => k_ ≠ gb133) (fun _ => False) rfl rfl ?aP (fun _ hk => hk.elim) ?aF ?aO ?aB ?aS ?aL ?_; (case aP => exact k68_mkM _ _ _ (⟨a1_0, a1_1⟩ : S68)); (case aB => exact (us_ HB.out)); (case aF => exact (fun k_ hk => Kd.freshB (g := gb133) (o := .cells #[.int .i64 a1_0, .int .u8 a1_1] 68 (0, 0)) (u_ BK133.out) k_ hk)); (case aO => exact (Kd.ur_ HO_5.out)); (case aS => exact (below_size (us_ HB.out))); (case aL => have := LMc36.out; omega); intro v138 w38 ho hb hg hat; rw [← Ny137.out] at ho; replace BK133 := mk_ (blk_grown (g := gb133) (o := .cells #[.int .i64 a1_0, .int .u8 a1_1] 68 (0, 0)) (u_ BK133.out) hg (Kd.R_away HO_5.out (fun _ hk => hk))); replace HB := mk_ (hb); have HO139 := mk_ (ho); clear HO_5; clear ho hb hg hat)))
    go_ret
    exact ⟨_, by first | rfl | (simp [errW_none, errW_some] <;> rfl) | (simp [*, errW_none, errW_some] <;> rfl), by (with_reducible repeat (first | apply Kd.R_alloc | apply Kd.R_drewN | apply Kd.R_drew)); exact Kd.R_mono HO139.out (fun _ hk => trivial), us_ HB.out⟩
   rw [if_pos c6] at H
   have c6b0 : decide (x7_1 < (l0.length : Int)) = true := decide_eq_true c6
   clear c6
   have HC7 := mk_ H
   clear H
   go_upto_region 6 with (fail)
   repeat (go_quiet (fail); go_upto_region 6 with (fail))
   go_cut [26] (fun v26 wc => ∃ (kq : Nat) (x26_6 : Bool), v26 = .bool x26_6 ∧ Aside0 (spec_l12Put.j1 kq l0 x5_1 x6_1 x7_1 x26_6 a1_0 a1_1 = some r) ∧ Aside0 (kq ≤ k1) ∧ Aside0 (Kd.R k68 68 wc w.heap.size (fun k_ => k_ ≠ gb133) u5 x5_1) ∧ Aside0 (wc.heap[gb133]? = some (.cells #[.int .i64 a1_0, .int .u8 a1_1] 68 (0, 0))) ∧ Aside0 (Below w.heap.size w wc))
   case first =>
    have H := HC7.out
    clear HC7
    by_cases c8 : x6_1 = true
    ·subst c8
     rw [if_pos rfl] at H
     have H' := mk_ H
     clear H
     go_wp2
     repeat (go_quiet (fail); try go_wp2)
     go_meet
     case rel => exact ⟨_, (false), (by first | rfl | (simp; done) | (simp [*]; done)), H', ⟨by have := HK1.out; first | omega | exact Nat.le_refl _⟩, ⟨Kd.ur_ HO_5.out⟩, ⟨u_ BK133.out⟩, ⟨us_ HB.out⟩⟩
    replace c8 := Bool.eq_false_iff.mpr c8
    subst c8
    rw [if_neg (show ¬ (false = true) by decide)] at H
    by_cases c9 : 0 ≤ x7_1
    rotate_left
    ·rw [if_neg c9] at H
     exact absurd H (by simp)
    rw [if_pos c9] at H
    have c9b0 : decide (0 ≤ x7_1) = true := decide_eq_true c9
    clear c9
    (first | rw [c9b0] | (simp only [i64_w, i32_w]; rw [c9b0]) | skip)
    have H' := mk_ H
    clear H
    obtain ⟨hcz10_0, hcz10_1, hfz10_0, hfz10_1⟩ := cells2_ BK133.out
    have p140 : 0 ≤ (x7_1 : Int) := of_decide_eq_true (by first | (with_reducible assumption) | assumption)
    have q140 : x7_1 < (l0.length : Int) := of_decide_eq_true (by first | (with_reducible assumption) | assumption)
    obtain ⟨ad140, e140, hx140_0, hx140_1⟩ := at_T68 HR0.out x7_1 p140 q140
    cases e140
    replace hx140_0 := (HB.out.cell (lc_ w _ hx140_0)).trans hx140_0
    replace hx140_1 := (HB.out.cell (lc_ w _ hx140_1)).trans hx140_1
    replace p140 := eq_true p140
    replace q140 := eq_true q140
    go_wp2
    repeat (go_quiet (fail); try go_wp2)
    go_meet
    case rel => exact ⟨_, (decide (a1_0 < ((rd_T68 l0 x7_1).f0))), (by first | rfl | (simp; done) | (simp [*]; done)), H', ⟨by have := HK1.out; first | omega | exact Nat.le_refl _⟩, ⟨Kd.ur_ HO_5.out⟩, ⟨u_ BK133.out⟩, ⟨us_ HB.out⟩⟩
   case rest =>
    clear HC7
    try clear c1
    try clear p1
    try clear q1
    try clear hx1
    try clear p2
    try clear c6
    try clear c6b0
    try clear c8
    try clear c9
    try clear c9b0
    try clear hcz10_0
    try clear hcz10_1
    try clear hfz10_0
    try clear hfz10_1
    try clear hx140_0
    try clear hx140_1
    try clear p140
    try clear p2
    try clear q140
    obtain ⟨kq, x26_6, rfl, HA, HJ6, HO_5, BK133, HB⟩ := hcut
    cases kq with
    | zero => exact absurd HA.out (by simp [spec_l12Put.j1])
    | succ kj6 =>
     have H := HA.out
     clear HA
     simp only [spec_l12Put.j1] at H
     by_cases c11 : x26_6 = true
     ·subst c11
      rw [if_pos rfl] at H
      by_cases c12 : x5_1.length < 8796093022208
      rotate_left
      ·rw [if_neg c12] at H
       exact absurd H (by simp)
      rw [if_pos c12] at H
      have LMc12 := mk_ c12
      clear c12
      obtain ⟨y141, hy141⟩ : ∃ y_ : List (S68), y_ = (x5_1 ++ [(⟨a1_0, a1_1⟩ : S68)]) := ⟨_, rfl⟩
      replace H : (if 0 ≤ x7_1 then (if x7_1 < (l0.length : Int) then (if a1_0 = ((rd_T68 l0 x7_1).f0) then (if y141.length < 8796093022208 then (spec_l12Put.l0 kj6 l0 (y141 ++ [(⟨(rd_T68 l0 x7_1).f0, (rd_T68 l0 x7_1).f1⟩ : S68)]) true (wrap64 (x7_1 + 1)) a1_0 a1_1) else (none)) else (if y141.length < 8796093022208 then (spec_l12Put.l0 kj6 l0 (y141 ++ [(⟨(rd_T68 l0 x7_1).f0, (rd_T68 l0 x7_1).f1⟩ : S68)]) true (wrap64 (x7_1 + 1)) a1_0 a1_1) else (none))) else (none)) else (none)) = some r := by first | (rw [hy141]; with_reducible exact H) | (have H2_ := (Option.bind_some _ _).symm.trans H; rw [hy141]; with_reducible exact H2_) | (have H2_ := (Option.bind_some _ _).symm.trans H; with_reducible exact H2_) | with_reducible exact H | (rw [hy141]; exact H) | exact H
      have Ny141 := mk_ hy141
      clear hy141
      by_cases c13 : 0 ≤ x7_1
      rotate_left
      ·rw [if_neg c13] at H
       exact absurd H (by simp)
      rw [if_pos c13] at H
      have c13b0 : decide (0 ≤ x7_1) = true := decide_eq_true c13
      clear c13
      by_cases c14 : x7_1 < (l0.length : Int)
      rotate_left
      ·rw [if_neg c14] at H
       exact absurd H (by simp)
      rw [if_pos c14] at H
      have c14b0 : decide (x7_1 < (l0.length : Int)) = true := decide_eq_true c14
      clear c14
      by_cases c15 : a1_0 = ((rd_T68 l0 x7_1).f0)
      rotate_left
      ·rw [if_neg c15] at H
       have c15b0 : (a1_0 == ((rd_T68 l0 x7_1).f0)) = false := beq_eq_false_iff_ne.mpr c15
       have c15b1 : (a1_0 != ((rd_T68 l0 x7_1).f0)) = true := bne_iff_ne.mpr c15
       by_cases c21 : y141.length < 8796093022208
       rotate_left
       ·rw [if_neg c21] at H
        exact absurd H (by simp)
       rw [if_pos c21] at H
       have LMc21 := mk_ c21
       clear c21
       obtain ⟨y150, hy150⟩ : ∃ y_ : List (S68), y_ = (y141 ++ [(⟨(rd_T68 l0 x7_1).f0, (rd_T68 l0 x7_1).f1⟩ : S68)]) := ⟨_, rfl⟩
       replace H : (spec_l12Put.l0 kj6 l0 y150 true (wrap64 (x7_1 + 1)) a1_0 a1_1) = some r := by first | (rw [hy150]; with_reducible exact H) | (have H2_ := (Option.bind_some _ _).symm.trans H; rw [hy150]; with_reducible exact H2_) | (have H2_ := (Option.bind_some _ _).symm.trans H; with_reducible exact H2_) | with_reducible exact H | (rw [hy150]; exact H) | exact H
       have Ny150 := mk_ hy150
       clear hy150
       have H' := mk_ H
       clear H
       obtain ⟨_, _, _, _⟩ := cells2_ BK133.out
       go_wp2_with (first | ((with_reducible refine gate_builtin (b := .append) (xs := #[.tmp 27, .tmp 29]) rfl ?_); at_builtin; refine Kd.R_append k68 (w0 := w) w.heap.size rfl (.tmp 27) (.tmp 29) 57 68 (.agg #[(.int .i64 0), (.int .u8 0)]) 16 rfl Try.underlying57 info68 rfl (by decide) (by omega) u5 x5_1 (⟨a1_0, a1_1⟩ : S68) [.int .i64 a1_0, .int .u8 a1_1] (fun k_ => k_ ≠ gb133) (fun _ => False) rfl rfl ?aP (fun _ hk => hk.elim) ?aF ?aO ?aB ?aS ?aL ?_; (case aP => exact k68_mkM _ _ _ (⟨a1_0, a1_1⟩ : S68)); (case aB => exact (us_ HB.out)); (case aF => exact (fun k_ hk => Kd.freshB (g := gb133) (o := .cells #[.int .i64 a1_0, .int .u8 a1_1] 68 (0, 0)) (u_ BK133.out) k_ hk)); (case aO => exact (Kd.ur_ HO_5.out)); (case aS => exact (below_size (us_ HB.out))); (case aL => have := LMc12.out; omega); intro v142 w23 ho hb hg hat; rw [← Ny141.out] at ho; replace BK133 := mk_ (blk_grown (g := gb133) (o := .cells #[.int .i64 a1_0, .int .u8 a1_1] 68 (0, 0)) (u_ BK133.out) hg (Kd.R_away HO_5.out (fun _ hk => hk))); replace HB := mk_ (hb); have HO143 := mk_ (ho); clear HO_5; clear ho hb hg hat; obtain ⟨hcz24_0, hcz24_1, hfz24_0, hfz24_1⟩ := cells2_ BK133.out; have p144 : 0 ≤ (x7_1 : Int) := of_decide_eq_true (by first | (with_reducible assumption) | assumption); have q144 : x7_1 < (l0.length : Int) := of_decide_eq_true (by first | (with_reducible assumption) | assumption); obtain ⟨ad144, e144, hx144_0, hx144_1⟩ := at_T68 HR0.out x7_1 p144 q144; cases e144; replace hx144_0 := (HB.out.cell (lc_ w _ hx144_0)).trans hx144_0; replace hx144_1 := (HB.out.cell (lc_ w _ hx144_1)).trans hx144_1; replace p144 := eq_true p144; replace q144 := eq_true q144; have p149 : 0 ≤ (x7_1 : Int) := of_decide_eq_true (by first | (with_reducible assumption) | assumption); have q149 : x7_1 < (l0.length : Int) := of_decide_eq_true (by first | (with_reducible assumption) | assumption); obtain ⟨ad149, e149, hx149_0, hx149_1⟩ := at_T68 HR0.out x7_1 p149 q149; obtain rfl : ad144 = ad149 := (by injection e149); replace hx149_0 := (HB.out.cell (lc_ w _ hx149_0)).trans hx149_0; replace hx149_1 := (HB.out.cell (lc_ w _ hx149_1)).trans hx149_1; replace p149 := eq_true p149; replace q149 := eq_true q149) | ((with_reducible refine gate_builtin (b := .append) (xs := #[.tmp 39, .tmp 44]) rfl ?_); at_builtin; refine Kd.R_append k68 (w0 := w) w.heap.size rfl (.tmp 39) (.tmp 44) 57 68 (.agg #[(.int .i64 0), (.int .u8 0)]) 16 rfl Try.underlying57 info68 rfl (by decide) (by omega) v142 y141 (⟨(rd_T68 l0 x7_1).f0, (rd_T68 l0 x7_1).f1⟩ : S68) [.int .i64 ((rd_T68 l0 x7_1).f0), .int .u8 ((rd_T68 l0 x7_1).f1)] (fun k_ => k_ ≠ gb133) (fun _ => False) rfl rfl ?aP (fun _ hk => hk.elim) ?aF ?aO ?aB ?aS ?aL ?_; (case aP => exact k68_mkM _ _ _ (⟨(rd_T68 l0 x7_1).f0, (rd_T68 l0 x7_1).f1⟩ : S68)); (case aB => exact (us_ HB.out)); (case aF => exact (fun k_ hk => Kd.freshB (g := gb133) (o := .cells #[.int .i64 a1_0, .int .u8 a1_1] 68 (0, 0)) (u_ BK133.out) k_ hk)); (case aO => exact (Kd.ur_ HO143.out)); (case aS => exact (below_size (us_ HB.out))); (case aL => have := LMc21.out; omega); intro v151 w25 ho hb hg hat; rw [← Ny150.out] at ho; replace BK133 := mk_ (blk_grown (g := gb133) (o := .cells #[.int .i64 a1_0, .int .u8 a1_1] 68 (0, 0)) (u_ BK133.out) hg (Kd.R_away HO143.out (fun _ hk => hk))); replace HB := mk_ (hb); have HO152 := mk_ (ho); clear HO143; clear ho hb hg hat))
       repeat (go_quiet (first | ((with_reducible refine gate_builtin (b := .append) (xs := #[.tmp 27, .tmp 29]) rfl ?_); at_builtin; refine Kd.R_append k68 (w0 := w) w.heap.size rfl (.tmp 27) (.tmp 29) 57 68 (.agg #[(.int .i64 0), (.int .u8 0)]) 16 rfl Try.underlying57 info68 rfl (by decide) (by omega) u5 x5_1 (⟨a1_0, a1_1⟩ : S68) [.int .i64 a1_0, .int .u8 a1_1] (fun k_ => k_ ≠ gb133) (fun _ => False) rfl rfl ?aP (fun _ hk => hk.elim) ?aF ?aO ?aB ?aS ?aL ?_; (case aP => exact k68_mkM _ _ _ (⟨a1_0, a1_1⟩ : S68)); (case aB => exact (us_ HB.out)); (case aF => exact (fun k_ hk => Kd.freshB (g := gb133) (o := .cells #[.int .i64 a1_0, .int .u8 a1_1] 68 (0, 0)) (u_ BK133.out) k_ hk)); (case aO => exact (Kd.ur_ HO_5.out)); (case aS => exact (below_size (us_ HB.out))); (case aL => have := LMc12.out; omega); intro v142 w23 ho hb hg hat; rw [← Ny141.out] at ho; replace BK133 := mk_ (blk_grown (g := gb133) (o := .cells #[.int .i64 a1_0, .int .u8 a1_1] 68 (0, 0)) (u_ BK133.out) hg (Kd.R_away HO_5.out (fun _ hk => hk))); replace HB := mk_ (hb); have HO143 := mk_ (ho); clear HO_5; clear ho hb hg hat; obtain ⟨hcz24_0, hcz24_1, hfz24_0, hfz24_1⟩ := cells2_ BK133.out; have p144 : 0 ≤ (x7_1 : Int) := of_decide_eq_true (by first | (with_reducible assumption) | assumption); have q144 : x7_1 < (l0.length : Int) := of_decide_eq_true (by first | (with_reducible assumption) | assumption); obtain ⟨ad144, e144, hx144_0, hx144_1⟩ := at_T68 HR0.out x7_1 p144 q144; cases e144; replace hx144_0 := (HB.out.cell (lc_ w _ hx144_0)).trans hx144_0; replace hx144_1 := (HB.out.cell (lc_ w _ hx144_1)).trans hx144_1; replace p144 := eq_true p144; replace q144 := eq_true q144; have p149 : 0 ≤ (x7_1 : Int) := of_decide_eq_true (by first | (with_reducible assumption) | assumption); have q149 : x7_1 < (l0.length : Int) := of_decide_eq_true (by first | (with_reducible assumption) | assumption); obtain ⟨ad149, e149, hx149_0, hx149_1⟩ := at_T68 HR0.out x7_1 p149 q149; obtain rfl : ad144 = ad149 := (by injection e149); replace hx149_0 := (HB.out.cell (lc_ w _ hx149_0)).trans hx149_0; replace hx149_1 := (HB.out.cell (lc_ w _ hx149_1)).trans hx149_1; replace p149 := eq_true p149; replace q149 := eq_true q149) | ((with_reducible refine gate_builtin (b := .append) (xs := #[.tmp 39, .tmp 44]) rfl ?_); at_builtin; refine Kd.R_append k68 (w0 := w) w.heap.size rfl (.tmp 39) (.tmp 44) 57 68 (.agg #[(.int .i64 0), (.int .u8 0)]) 16 rfl Try.underlying57 info68 rfl (by decide) (by omega) v142 y141 (⟨(rd_T68 l0 x7_1).f0, (rd_T68 l0 x7_1).f1⟩ : S68) [.int .i64 ((rd_T68 l0 x7_1).f0), .int .u8 ((rd_T68 l0 x7_1).f1)] (fun k_ => k_ ≠ gb133) (fun _ => False) rfl rfl ?aP (fun _ hk => hk.elim) ?aF ?aO ?aB ?aS ?aL ?_; (case aP => exact k68_mkM _ _ _ (⟨(rd_T68 l0 x7_1).f0, (rd_T68 l0 x7_1).f1⟩ : S68)); (case aB => exact (us_ HB.out)); (case aF => exact (fun k_ hk => Kd.freshB (g := gb133) (o := .cells #[.int .i64 a1_0, .int .u8 a1_1] 68 (0, 0)) (u_ BK133.out) k_ hk)); (case aO => exact (Kd.ur_ HO143.out)); (case aS => exact (below_size (us_ HB.out))); (case aL => have := LMc21.out; omega); intro v151 w25 ho hb hg hat; rw [← Ny150.out] at ho; replace BK133 := mk_ (blk_grown (g := gb133) (o := .cells #[.int .i64 a1_0, .int .u8 a1_1] 68 (0, 0)) (u_ BK133.out) hg (Kd.R_away HO143.out (fun _ hk => hk))); replace HB := mk_ (hb); have HO152 := mk_ (ho); clear HO143; clear ho hb hg hat)); try go_wp2_with (first | ((with_reducible refine gate_builtin (b := .append) (xs := #[.tmp 27, .tmp 29]) rfl ?_); at_builtin; refine Kd.R_append k68 (w0 := w) w.heap.size rfl (.tmp 27) (.tmp 29) 57 68 (.agg #[(.int .i64 0), (.int .u8 0)]) 16 rfl Try.underlying57 info68 rfl (by decide) (by omega) u5 x5_1 (⟨a1_0, a1_1⟩ : S68) [.int .i64 a1_0, .int .u8 a1_1] (fun k_ => k_ ≠ gb133) (fun _ => False) rfl rfl ?aP (fun _ hk => hk.elim) ?aF ?aO ?aB ?aS ?aL ?_; (case aP => exact k68_mkM _ _ _ (⟨a1_0, a1_1⟩ : S68)); (case aB => exact (us_ HB.out)); (case aF => exact (fun k_ hk => Kd.freshB (g := gb133) (o := .cells #[.int .i64 a1_0, .int .u8 a1_1] 68 (0, 0)) (u_ BK133.out) k_ hk)); (case aO => exact (Kd.ur_ HO_5.out)); (case aS => exact (below_size (us_ HB.out))); (case aL => have := LMc12.out; omega); intro v142 w23 ho hb hg hat; rw [← Ny141.out] at ho; replace BK133 := mk_ (blk_grown (g := gb133) (o := .cells #[.int .i64 a1_0, .int .u8 a1_1] 68 (0, 0)) (u_ BK133.out) hg (Kd.R_away HO_5.out (fun _ hk => hk))); replace HB := mk_ (hb); have HO143 := mk_ (ho); clear HO_5; clear ho hb hg hat; obtain ⟨hcz24_0, hcz24_1, hfz24_0, hfz24_1⟩ := cells2_ BK133.out; have p144 : 0 ≤ (x7_1 : Int) := of_decide_eq_true (by first | (with_reducible assumption) | assumption); have q144 : x7_1 < (l0.length : Int) := of_decide_eq_true (by first | (with_reducible assumption) | assumption); obtain ⟨ad144, e144, hx144_0, hx144_1⟩ := at_T68 HR0.out x7_1 p144 q144; cases e144; replace hx144_0 := (HB.out.cell (lc_ w _ hx144_0)).trans hx144_0; replace hx144_1 := (HB.out.cell (lc_ w _ hx144_1)).trans hx144_1; replace p144 := eq_true p144; replace q144 := eq_true q144; have p149 : 0 ≤ (x7_1 : Int) := of_decide_eq_true (by first | (with_reducible assumption) | assumption); have q149 : x7_1 < (l0.length : Int) := of_decide_eq_true (by first | (with_reducible assumption) | assumption); obtain ⟨ad149, e149, hx149_0, hx149_1⟩ := at_T68 HR0.out x7_1 p149 q149; obtain rfl : ad144 = ad149 := (by injection e149); replace hx149_0 := (HB.out.cell (lc_ w _ hx149_0)).trans hx149_0; replace hx149_1 := (HB.out.cell (lc_ w _ hx149_1)).trans hx149_1; replace p149 := eq_true p149; replace q149 := eq_true q149) | ((with_reducible refine gate_builtin (b := .append) (xs := #[.tmp 39, .tmp 44]) rfl ?_); at_builtin; refine Kd.R_append k68 (w0 := w) w.heap.size rfl (.tmp 39) (.tmp 44) 57 68 (.agg #[(.int .i64 0), (.int .u8 0)]) 16 rfl Try.underlying57 info68 rfl (by decide) (by omega) v142 y141 (⟨(rd_T68 l0 x7_1).f0, (rd_T68 l0 x7_1).f1⟩ : S68) [.int .i64 ((rd_T68 l0 x7_1).f0), .int .u8 ((rd_T68 l0 x7_1).f1)] (fun k_ => k_ ≠ gb133) (fun _ => False) rfl rfl ?aP (fun _ hk => hk.elim) ?aF ?aO ?aB ?aS ?aL ?_; (case aP => exact k68_mkM _ _ _ (⟨(rd_T68 l0 x7_1).f0, (rd_T68 l0 x7_1).f1⟩ : S68)); (case aB => exact (us_ HB.out)); (case aF => exact (fun k_ hk => Kd.freshB (g := gb133) (o := .cells #[.int .i64 a1_0, .int .u8 a1_1] 68 (0, 0)) (u_ BK133.out) k_ hk)); (case aO => exact (Kd.ur_ HO143.out)); (case aS => exact (below_size (us_ HB.out))); (case aL => have := LMc21.out; omega); intro v151 w25 ho hb hg hat; rw [← Ny150.out] at ho; replace BK133 := mk_ (blk_grown (g := gb133) (o := .cells #[.int .i64 a1_0, .int .u8 a1_1] 68 (0, 0)) (u_ BK133.out) hg (Kd.R_away HO143.out (fun _ hk => hk))); replace HB := mk_ (hb); have HO152 := mk_ (ho); clear HO143; clear ho hb hg hat)))
       go_roundg kj6
       case measure => have := HK1.out; have := HJ6.out; omega
       case rel => exact ⟨(y150), (true), (wrap64 (x7_1 + 1)), (by first | rfl | (simp; done) | (simp [*]; done)), (by first | rfl | (simp; done) | (simp [*]; done)), H', ⟨by have := HK1.out; have := HJ6.out; omega⟩, ⟨Kd.ur_ HO152.out⟩, ⟨u_ BK133.out⟩, ⟨us_ HB.out⟩⟩
      rw [if_pos c15] at H
      have c15b0 : (a1_0 == ((rd_T68 l0 x7_1).f0)) = true := beq_iff_eq.mpr c15
      have c15b1 : (a1_0 != ((rd_T68 l0 x7_1).f0)) = false := bne_eq_false_iff_eq.mpr c15
      clear c15
      by_cases c16 : y141.length < 8796093022208
      rotate_left
      ·rw [if_neg c16] at H
       exact absurd H (by simp)
      rw [if_pos c16] at H
      have LMc16 := mk_ c16
      clear c16
      obtain ⟨y146, hy146⟩ : ∃ y_ : List (S68), y_ = (y141 ++ [(⟨(rd_T68 l0 x7_1).f0, (rd_T68 l0 x7_1).f1⟩ : S68)]) := ⟨_, rfl⟩
      replace H : (spec_l12Put.l0 kj6 l0 y146 true (wrap64 (x7_1 + 1)) a1_0 a1_1) = some r := by first | (rw [hy146]; with_reducible exact H) | (have H2_ := (Option.bind_some _ _).symm.trans H; rw [hy146]; with_reducible exact H2_) | (have H2_ := (Option.bind_some _ _).symm.trans H; with_reducible exact H2_) | with_reducible exact H | (rw [hy146]; exact H) | exact H
      have Ny146 := mk_ hy146
      clear hy146
      have H' := mk_ H
      clear H
      obtain ⟨hcz17_0, hcz17_1, hfz17_0, hfz17_1⟩ := cells2_ BK133.out
      go_wp2_with (first | ((with_reducible refine gate_builtin (b := .append) (xs := #[.tmp 27, .tmp 29]) rfl ?_); at_builtin; refine Kd.R_append k68 (w0 := w) w.heap.size rfl (.tmp 27) (.tmp 29) 57 68 (.agg #[(.int .i64 0), (.int .u8 0)]) 16 rfl Try.underlying57 info68 rfl (by decide) (by omega) u5 x5_1 (⟨a1_0, a1_1⟩ : S68) [.int .i64 a1_0, .int .u8 a1_1] (fun k_ => k_ ≠ gb133) (fun _ => False) rfl rfl ?aP (fun _ hk => hk.elim) ?aF ?aO ?aB ?aS ?aL ?_; (case aP => exact k68_mkM _ _ _ (⟨a1_0, a1_1⟩ : S68)); (case aB => exact (us_ HB.out)); (case aF => exact (fun k_ hk => Kd.freshB (g := gb133) (o := .cells #[.int .i64 a1_0, .int .u8 a1_1] 68 (0, 0)) (u_ BK133.out) k_ hk)); (case aO => exact (Kd.ur_ HO_5.out)); (case aS => exact (below_size (us_ HB.out))); (case aL => have := LMc12.out; omega); intro v142 w18 ho hb hg hat; rw [← Ny141.out] at ho; replace BK133 := mk_ (blk_grown (g := gb133) (o := .cells #[.int .i64 a1_0, .int .u8 a1_1] 68 (0, 0)) (u_ BK133.out) hg (Kd.R_away HO_5.out (fun _ hk => hk))); replace HB := mk_ (hb); have HO143 := mk_ (ho); clear HO_5; clear ho hb hg hat; obtain ⟨hcz19_0, hcz19_1, hfz19_0, hfz19_1⟩ := cells2_ BK133.out; have p144 : 0 ≤ (x7_1 : Int) := of_decide_eq_true (by first | (with_reducible assumption) | assumption); have q144 : x7_1 < (l0.length : Int) := of_decide_eq_true (by first | (with_reducible assumption) | assumption); obtain ⟨ad144, e144, hx144_0, hx144_1⟩ := at_T68 HR0.out x7_1 p144 q144; cases e144; replace hx144_0 := (HB.out.cell (lc_ w _ hx144_0)).trans hx144_0; replace hx144_1 := (HB.out.cell (lc_ w _ hx144_1)).trans hx144_1; replace p144 := eq_true p144; replace q144 := eq_true q144; have p145 : 0 ≤ (x7_1 : Int) := of_decide_eq_true (by first | (with_reducible assumption) | assumption); have q145 : x7_1 < (l0.length : Int) := of_decide_eq_true (by first | (with_reducible assumption) | assumption); obtain ⟨ad145, e145, hx145_0, hx145_1⟩ := at_T68 HR0.out x7_1 p145 q145; obtain rfl : ad144 = ad145 := (by injection e145); replace hx145_0 := (HB.out.cell (lc_ w _ hx145_0)).trans hx145_0; replace hx145_1 := (HB.out.cell (lc_ w _ hx145_1)).trans hx145_1; replace p145 := eq_true p145; replace q145 := eq_true q145) | ((with_reducible refine gate_builtin (b := .append) (xs := #[.tmp 39, .tmp 44]) rfl ?_); at_builtin; refine Kd.R_append k68 (w0 := w) w.heap.size rfl (.tmp 39) (.tmp 44) 57 68 (.agg #[(.int .i64 0), (.int .u8 0)]) 16 rfl Try.underlying57 info68 rfl (by decide) (by omega) v142 y141 (⟨(rd_T68 l0 x7_1).f0, (rd_T68 l0 x7_1).f1⟩ : S68) [.int .i64 ((rd_T68 l0 x7_1).f0), .int .u8 ((rd_T68 l0 x7_1).f1)] (fun k_ => k_ ≠ gb133) (fun _ => False) rfl rfl ?aP (fun _ hk => hk.elim) ?aF ?aO ?aB ?aS ?aL ?_; (case aP => exact k68_mkM _ _ _ (⟨(rd_T68 l0 x7_1).f0, (rd_T68 l0 x7_1).f1⟩ : S68)); (case aB => exact (us_ HB.out)); (case aF => exact (fun k_ hk => Kd.freshB (g := gb133) (o := .cells #[.int .i64 a1_0, .int .u8 a1_1] 68 (0, 0)) (u_ BK133.out) k_ hk)); (case aO => exact (Kd.ur_ HO143.out)); (case aS => exact (below_size (us_ HB.out))); (case aL => have := LMc16.out; omega); intro v147 w20 ho hb hg hat; rw [← Ny146.out] at ho; replace BK133 := mk_ (blk_grown (g := gb133) (o := .cells #[.int .i64 a1_0, .int .u8 a1_1] 68 (0, 0)) (u_ BK133.out) hg (Kd.R_away HO143.out (fun _ hk => hk))); replace HB := mk_ (hb); have HO148 := mk_ (ho); clear HO143; clear ho hb hg hat))
      repeat (go_quiet (first | ((with_reducible refine gate_builtin (b := .append) (xs := #[.tmp 27, .tmp 29]) rfl ?_); at_builtin; refine Kd.R_append k68 (w0 := w) w.heap.size rfl (.tmp 27) (.tmp 29) 57 68 (.agg #[(.int .i64 0), (.int .u8 0)]) 16 rfl Try.underlying57 info68 rfl (by decide) (by omega) u5 x5_1 (⟨a1_0, a1_1⟩ : S68) [.int .i64 a1_0, .int .u8 a1_1] (fun k_ => k_ ≠ gb133) (fun _ => False) rfl rfl ?aP (fun _ hk => hk.elim) ?aF ?aO ?aB ?aS ?aL ?_; (case aP => exact k68_mkM _ _ _ (⟨a1_0, a1_1⟩ : S68)); (case aB => exact (us_ HB.out)); (case aF => exact (fun k_ hk => Kd.freshB (g := gb133) (o := .cells #[.int .i64 a1_0, .int .u8 a1_1] 68 (0, 0)) (u_ BK133.out) k_ hk)); (case aO => exact (Kd.ur_ HO_5.out)); (case aS => exact (below_size (us_ HB.out))); (case aL => have := LMc12.out; omega); intro v142 w18 ho hb hg hat; rw [← Ny141.out] at ho; replace BK133 := mk_ (blk_grown (g := gb133) (o := .cells #[.int .i64 a1_0, .int .u8 a1_1] 68 (0, 0)) (u_ BK133.out) hg (Kd.R_away HO_5.out (fun _ hk => hk))); replace HB := mk_ (hb); have HO143 := mk_ (ho); clear HO_5; clear ho hb hg hat; obtain ⟨hcz19_0, hcz19_1, hfz19_0, hfz19_1⟩ := cells2_ BK133.out; have p144 : 0 ≤ (x7_1 : Int) := of_decide_eq_true (by first | (with_reducible assumption) | assumption); have q144 : x7_1 < (l0.length : Int) := of_decide_eq_true (by first | (with_reducible assumption) | assumption); obtain ⟨ad144, e144, hx144_0, hx144_1⟩ := at_T68 HR0.out x7_1 p144 q144; cases e144; replace hx144_0 := (HB.out.cell (lc_ w _ hx144_0)).trans hx144_0; replace hx144_1 := (HB.out.cell (lc_ w _ hx144_1)).trans hx144_1; replace p144 := eq_true p144; replace q144 := eq_true q144; have p145 : 0 ≤ (x7_1 : Int) := of_decide_eq_true (by first | (with_reducible assumption) | assumption); have q145 : x7_1 < (l0.length : Int) := of_decide_eq_true (by first | (with_reducible assumption) | assumption); obtain ⟨ad145, e145, hx145_0, hx145_1⟩ := at_T68 HR0.out x7_1 p145 q145; obtain rfl : ad144 = ad145 := (by injection e145); replace hx145_0 := (HB.out.cell (lc_ w _ hx145_0)).trans hx145_0; replace hx145_1 := (HB.out.cell (lc_ w _ hx145_1)).trans hx145_1; replace p145 := eq_true p145; replace q145 := eq_true q145) | ((with_reducible refine gate_builtin (b := .append) (xs := #[.tmp 39, .tmp 44]) rfl ?_); at_builtin; refine Kd.R_append k68 (w0 := w) w.heap.size rfl (.tmp 39) (.tmp 44) 57 68 (.agg #[(.int .i64 0), (.int .u8 0)]) 16 rfl Try.underlying57 info68 rfl (by decide) (by omega) v142 y141 (⟨(rd_T68 l0 x7_1).f0, (rd_T68 l0 x7_1).f1⟩ : S68) [.int .i64 ((rd_T68 l0 x7_1).f0), .int .u8 ((rd_T68 l0 x7_1).f1)] (fun k_ => k_ ≠ gb133) (fun _ => False) rfl rfl ?aP (fun _ hk => hk.elim) ?aF ?aO ?aB ?aS ?aL ?_; (case aP => exact k68_mkM _ _ _ (⟨(rd_T68 l0 x7_1).f0, (rd_T68 l0 x7_1).f1⟩ : S68)); (case aB => exact (us_ HB.out)); (case aF => exact (fun k_ hk => Kd.freshB (g := gb133) (o := .cells #[.int .i64 a1_0, .int .u8 a1_1] 68 (0, 0)) (u_ BK133.out) k_ hk)); (case aO => exact (Kd.ur_ HO143.out)); (case aS => exact (below_size (us_ HB.out))); (case aL => have := LMc16.out; omega); intro v147 w20 ho hb hg hat; rw [← Ny146.out] at ho; replace BK133 := mk_ (blk_grown (g := gb133) (o := .cells #[.int .i64 a1_0, .int .u8 a1_1] 68 (0, 0)) (u_ BK133.out) hg (Kd.R_away HO143.out (fun _ hk => hk))); replace HB := mk_ (hb); have HO148 := mk_ (ho); clear HO143; clear ho hb hg hat)); try go_wp2_with (first | ((with_reducible refine gate_builtin (b := .append) (xs := #[.tmp 27, .tmp 29]) rfl ?_); at_builtin; refine Kd.R_append k68 (w0 := w) w.heap.size rfl (.tmp 27) (.tmp 29) 57 68 (.agg #[(.int .i64 0), (.int .u8 0)]) 16 rfl Try.underlying57 info68 rfl (by decide) (by omega) u5 x5_1 (⟨a1_0, a1_1⟩ : S68) [.int .i64 a1_0, .int .u8 a1_1] (fun k_ => k_ ≠ gb133) (fun _ => False) rfl rfl ?aP (fun _ hk => hk.elim) ?aF ?aO ?aB ?aS ?aL ?_; (case aP => exact k68_mkM _ _ _ (⟨a1_0, a1_1⟩ : S68)); (case aB => exact (us_ HB.out)); (case aF => exact (fun k_ hk => Kd.freshB (g := gb133) (o := .cells #[.int .i64 a1_0, .int .u8 a1_1] 68 (0, 0)) (u_ BK133.out) k_ hk)); (case aO => exact (Kd.ur_ HO_5.out)); (case aS => exact (below_size (us_ HB.out))); (case aL => have := LMc12.out; omega); intro v142 w18 ho hb hg hat; rw [← Ny141.out] at ho; replace BK133 := mk_ (blk_grown (g := gb133) (o := .cells #[.int .i64 a1_0, .int .u8 a1_1] 68 (0, 0)) (u_ BK133.out) hg (Kd.R_away HO_5.out (fun _ hk => hk))); replace HB := mk_ (hb); have HO143 := mk_ (ho); clear HO_5; clear ho hb hg hat; obtain ⟨hcz19_0, hcz19_1, hfz19_0, hfz19_1⟩ := cells2_ BK133.out; have p144 : 0 ≤ (x7_1 : Int) := of_decide_eq_true (by first | (with_reducible assumption) | assumption); have q144 : x7_1 < (l0.length : Int) := of_decide_eq_true (by first | (with_reducible assumption) | assumption); obtain ⟨ad144, e144, hx144_0, hx144_1⟩ := at_T68 HR0.out x7_1 p144 q144; cases e144; replace hx144_0 := (HB.out.cell (lc_ w _ hx144_0)).trans hx144_0; replace hx144_1 := (HB.out.cell (lc_ w _ hx144_1)).trans hx144_1; replace p144 := eq_true p144; replace q144 := eq_true q144; have p145 : 0 ≤ (x7_1 : Int) := of_decide_eq_true (by first | (with_reducible assumption) | assumption); have q145 : x7_1 < (l0.length : Int) := of_decide_eq_true (by first | (with_reducible assumption) | assumption); obtain ⟨ad145, e145, hx145_0, hx145_1⟩ := at_T68 HR0.out x7_1 p145 q145; obtain rfl : ad144 = ad145 := (by injection e145); replace hx145_0 := (HB.out.cell (lc_ w _ hx145_0)).trans hx145_0; replace hx145_1 := (HB.out.cell (lc_ w _ hx145_1)).trans hx145_1; replace p145 := eq_true p145; replace q145 := eq_true q145) | ((with_reducible refine gate_builtin (b := .append) (xs := #[.tmp 39, .tmp 44]) rfl ?_); at_builtin; refine Kd.R_append k68 (w0 := w) w.heap.size rfl (.tmp 39) (.tmp 44) 57 68 (.agg #[(.int .i64 0), (.int .u8 0)]) 16 rfl Try.underlying57 info68 rfl (by decide) (by omega) v142 y141 (⟨(rd_T68 l0 x7_1).f0, (rd_T68 l0 x7_1).f1⟩ : S68) [.int .i64 ((rd_T68 l0 x7_1).f0), .int .u8 ((rd_T68 l0 x7_1).f1)] (fun k_ => k_ ≠ gb133) (fun _ => False) rfl rfl ?aP (fun _ hk => hk.elim) ?aF ?aO ?aB ?aS ?aL ?_; (case aP => exact k68_mkM _ _ _ (⟨(rd_T68 l0 x7_1).f0, (rd_T68 l0 x7_1).f1⟩ : S68)); (case aB => exact (us_ HB.out)); (case aF => exact (fun k_ hk => Kd.freshB (g := gb133) (o := .cells #[.int .i64 a1_0, .int .u8 a1_1] 68 (0, 0)) (u_ BK133.out) k_ hk)); (case aO => exact (Kd.ur_ HO143.out)); (case aS => exact (below_size (us_ HB.out))); (case aL => have := LMc16.out; omega); intro v147 w20 ho hb hg hat; rw [← Ny146.out] at ho; replace BK133 := mk_ (blk_grown (g := gb133) (o := .cells #[.int .i64 a1_0, .int .u8 a1_1] 68 (0, 0)) (u_ BK133.out) hg (Kd.R_away HO143.out (fun _ hk => hk))); replace HB := mk_ (hb); have HO148 := mk_ (ho); clear HO143; clear ho hb hg hat)))
      go_roundg kj6
      case measure => have := HK1.out; have := HJ6.out; omega
      case rel => exact ⟨(y146), (true), (wrap64 (x7_1 + 1)), (by first | rfl | (simp; done) | (simp [*]; done)), (by first | rfl | (simp; done) | (simp [*]; done)), H', ⟨by have := HK1.out; have := HJ6.out; omega⟩, ⟨Kd.ur_ HO148.out⟩, ⟨u_ BK133.out⟩, ⟨us_ HB.out⟩⟩
     replace c11 := Bool.eq_false_iff.mpr c11
     subst c11
     rw [if_neg (show ¬ (false = true) by decide)] at H
     by_cases c26 : 0 ≤ x7_1
     rotate_left
     ·rw [if_neg c26] at H
      exact absurd H (by simp)
     rw [if_pos c26] at H
     have c26b0 : decide (0 ≤ x7_1) = true := decide_eq_true c26
     clear c26
     by_cases c27 : x7_1 < (l0.length : Int)
     rotate_left
     ·rw [if_neg c27] at H
      exact absurd H (by simp)
     rw [if_pos c27] at H
     have c27b0 : decide (x7_1 < (l0.length : Int)) = true := decide_eq_true c27
     clear c27
     by_cases c28 : a1_0 = ((rd_T68 l0 x7_1).f0)
     rotate_left
     ·rw [if_neg c28] at H
      have c28b0 : (a1_0 == ((rd_T68 l0 x7_1).f0)) = false := beq_eq_false_iff_ne.mpr c28
      have c28b1 : (a1_0 != ((rd_T68 l0 x7_1).f0)) = true := bne_iff_ne.mpr c28
      by_cases c32 : x5_1.length < 8796093022208
      rotate_left
      ·rw [if_neg c32] at H
       exact absurd H (by simp)
      rw [if_pos c32] at H
      have LMc32 := mk_ c32
      clear c32
      obtain ⟨y159, hy159⟩ : ∃ y_ : List (S68), y_ = (x5_1 ++ [(⟨(rd_T68 l0 x7_1).f0, (rd_T68 l0 x7_1).f1⟩ : S68)]) := ⟨_, rfl⟩
      replace H : (spec_l12Put.l0 kj6 l0 y159 x6_1 (wrap64 (x7_1 + 1)) a1_0 a1_1) = some r := by first | (rw [hy159]; with_reducible exact H) | (have H2_ := (Option.bind_some _ _).symm.trans H; rw [hy159]; with_reducible exact H2_) | (have H2_ := (Option.bind_some _ _).symm.trans H; with_reducible exact H2_) | with_reducible exact H | (rw [hy159]; exact H) | exact H
      have Ny159 := mk_ hy159
      clear hy159
      have H' := mk_ H
      clear H
      obtain ⟨_, _, _, _⟩ := cells2_ BK133.out
      have p153 : 0 ≤ (x7_1 : Int) := of_decide_eq_true (by first | (with_reducible assumption) | assumption)
      have q153 : x7_1 < (l0.length : Int) := of_decide_eq_true (by first | (with_reducible assumption) | assumption)
      obtain ⟨ad153, e153, hx153_0, hx153_1⟩ := at_T68 HR0.out x7_1 p153 q153
      cases e153
      replace hx153_0 := (HB.out.cell (lc_ w _ hx153_0)).trans hx153_0
      replace hx153_1 := (HB.out.cell (lc_ w _ hx153_1)).trans hx153_1
      replace p153 := eq_true p153
      replace q153 := eq_true q153
      have p158 : 0 ≤ (x7_1 : Int) := of_decide_eq_true (by first | (with_reducible assumption) | assumption)
      have q158 : x7_1 < (l0.length : Int) := of_decide_eq_true (by first | (with_reducible assumption) | assumption)
      obtain ⟨ad158, e158, hx158_0, hx158_1⟩ := at_T68 HR0.out x7_1 p158 q158
      obtain rfl : ad153 = ad158 := (by injection e158)
      replace hx158_0 := (HB.out.cell (lc_ w _ hx158_0)).trans hx158_0
      replace hx158_1 := (HB.out.cell (lc_ w _ hx158_1)).trans hx158_1
      replace p158 := eq_true p158
      replace q158 := eq_true q158
      go_wp2_with (first | ((with_reducible refine gate_builtin (b := .append) (xs := #[.tmp 39, .tmp 44]) rfl ?_); at_builtin; refine Kd.R_append k68 (w0 := w) w.heap.size rfl (.tmp 39) (.tmp 44) 57 68 (.agg #[(.int .i64 0), (.int .u8 0)]) 16 rfl Try.underlying57 info68 rfl (by decide) (by omega) u5 x5_1 (⟨(rd_T68 l0 x7_1).f0, (rd_T68 l0 x7_1).f1⟩ : S68) [.int .i64 ((rd_T68 l0 x7_1).f0), .int .u8 ((rd_T68 l0 x7_1).f1)] (fun k_ => k_ ≠ gb133) (fun _ => False) rfl rfl ?aP (fun _ hk => hk.elim) ?aF ?aO ?aB ?aS ?aL ?_; (case aP => exact k68_mkM _ _ _ (⟨(rd_T68 l0 x7_1).f0, (rd_T68 l0 x7_1).f1⟩ : S68)); (case aB => exact (us_ HB.out)); (case aF => exact (fun k_ hk => Kd.freshB (g := gb133) (o := .cells #[.int .i64 a1_0, .int .u8 a1_1] 68 (0, 0)) (u_ BK133.out) k_ hk)); (case aO => exact (Kd.ur_ HO_5.out)); (case aS => exact (below_size (us_ HB.out))); (case aL => have := LMc32.out; omega); intro v160 w34 ho hb hg hat; rw [← Ny159.out] at ho; replace BK133 := mk_ (blk_grown (g := gb133) (o := .cells #[.int .i64 a1_0, .int .u8 a1_1] 68 (0, 0)) (u_ BK133.out) hg (Kd.R_away HO_5.out (fun _ hk => hk))); replace HB := mk_ (hb); have HO161 := mk_ (ho); clear HO_5; clear ho hb hg hat))
      repeat (go_quiet (first | ((with_reducible refine gate_builtin (b := .append) (xs := #[.tmp 39, .tmp 44]) rfl ?_); at_builtin; refine Kd.R_append k68 (w0 := w) w.heap.size rfl (.tmp 39) (.tmp 44) 57 68 (.agg #[(.int .i64 0), (.int .u8 0)]) 16 rfl Try.underlying57 info68 rfl (by decide) (by omega) u5 x5_1 (⟨(rd_T68 l0 x7_1).f0, (rd_T68 l0 x7_1).f1⟩ : S68) [.int .i64 ((rd_T68 l0 x7_1).f0), .int .u8 ((rd_T68 l0 x7_1).f1)] (fun k_ => k_ ≠ gb133) (fun _ => False) rfl rfl ?aP (fun _ hk => hk.elim) ?aF ?aO ?aB ?aS ?aL ?_; (case aP => exact k68_mkM _ _ _ (⟨(rd_T68 l0 x7_1).f0, (rd_T68 l0 x7_1).f1⟩ : S68)); (case aB => exact (us_ HB.out)); (case aF => exact (fun k_ hk => Kd.freshB (g := gb133) (o := .cells #[.int .i64 a1_0, .int .u8 a1_1] 68 (0, 0)) (u_ BK133.out) k_ hk)); (case aO => exact (Kd.ur_ HO_5.out)); (case aS => exact (below_size (us_ HB.out))); (case aL => have := LMc32.out; omega); intro v160 w34 ho hb hg hat; rw [← Ny159.out] at ho; replace BK133 := mk_ (blk_grown (g := gb133) (o := .cells #[.int .i64 a1_0, .int .u8 a1_1] 68 (0, 0)) (u_ BK133.out) hg (Kd.R_away HO_5.out (fun _ hk => hk))); replace HB := mk_ (hb); have HO161 := mk_ (ho); clear HO_5; clear ho hb hg hat)); try go_wp2_with (first | ((with_reducible refine gate_builtin (b := .append) (xs := #[.tmp 39, .tmp 44]) rfl ?_); at_builtin; refine Kd.R_append k68 (w0 := w) w.heap.size rfl (.tmp 39) (.tmp 44) 57 68 (.agg #[(.int .i64 0), (.int .u8 0)]) 16 rfl Try.underlying57 info68 rfl (by decide) (by omega) u5 x5_1 (⟨(rd_T68 l0 x7_1).f0, (rd_T68 l0 x7_1).f1⟩ : S68) [.int .i64 ((rd_T68 l0 x7_1).f0), .int .u8 ((rd_T68 l0 x7_1).f1)] (fun k_ => k_ ≠ gb133) (fun _ => False) rfl rfl ?aP (fun _ hk => hk.elim) ?aF ?aO ?aB ?aS ?aL ?_; (case aP => exact k68_mkM _ _ _ (⟨(rd_T68 l0 x7_1).f0, (rd_T68 l0 x7_1).f1⟩ : S68)); (case aB => exact (us_ HB.out)); (case aF => exact (fun k_ hk => Kd.freshB (g := gb133) (o := .cells #[.int .i64 a1_0, .int .u8 a1_1] 68 (0, 0)) (u_ BK133.out) k_ hk)); (case aO => exact (Kd.ur_ HO_5.out)); (case aS => exact (below_size (us_ HB.out))); (case aL => have := LMc32.out; omega); intro v160 w34 ho hb hg hat; rw [← Ny159.out] at ho; replace BK133 := mk_ (blk_grown (g := gb133) (o := .cells #[.int .i64 a1_0, .int .u8 a1_1] 68 (0, 0)) (u_ BK133.out) hg (Kd.R_away HO_5.out (fun _ hk => hk))); replace HB := mk_ (hb); have HO161 := mk_ (ho); clear HO_5; clear ho hb hg hat)))
      go_roundg kj6
      case measure => have := HK1.out; have := HJ6.out; omega
      case rel => exact ⟨(y159), (x6_1), (wrap64 (x7_1 + 1)), (by first | rfl | (simp; done) | (simp [*]; done)), (by first | rfl | (simp; done) | (simp [*]; done)), H', ⟨by have := HK1.out; have := HJ6.out; omega⟩, ⟨Kd.ur_ HO161.out⟩, ⟨u_ BK133.out⟩, ⟨us_ HB.out⟩⟩
     rw [if_pos c28] at H
     have c28b0 : (a1_0 == ((rd_T68 l0 x7_1).f0)) = true := beq_iff_eq.mpr c28
     have c28b1 : (a1_0 != ((rd_T68 l0 x7_1).f0)) = false := bne_eq_false_iff_eq.mpr c28
     clear c28
     by_cases c29 : x5_1.length < 8796093022208
     rotate_left
     ·rw [if_neg c29] at H
      exact absurd H (by simp)
     rw [if_pos c29] at H
     have LMc29 := mk_ c29
     clear c29
     obtain ⟨y155, hy155⟩ : ∃ y_ : List (S68), y_ = (x5_1 ++ [(⟨(rd_T68 l0 x7_1).f0, (rd_T68 l0 x7_1).f1⟩ : S68)]) := ⟨_, rfl⟩
     replace H : (spec_l12Put.l0 kj6 l0 y155 true (wrap64 (x7_1 + 1)) a1_0 a1_1) = some r := by first | (rw [hy155]; with_reducible exact H) | (have H2_ := (Option.bind_some _ _).symm.trans H; rw [hy155]; with_reducible exact H2_) | (have H2_ := (Option.bind_some _ _).symm.trans H; with_reducible exact H2_) | with_reducible exact H | (rw [hy155]; exact H) | exact H
     have Ny155 := mk_ hy155
     clear hy155
     have H' := mk_ H
     clear H
     obtain ⟨_, _, _, _⟩ := cells2_ BK133.out
     have p153 : 0 ≤ (x7_1 : Int) := of_decide_eq_true (by first | (with_reducible assumption) | assumption)
     have q153 : x7_1 < (l0.length : Int) := of_decide_eq_true (by first | (with_reducible assumption) | assumption)
     obtain ⟨ad153, e153, hx153_0, hx153_1⟩ := at_T68 HR0.out x7_1 p153 q153
     cases e153
     replace hx153_0 := (HB.out.cell (lc_ w _ hx153_0)).trans hx153_0
     replace hx153_1 := (HB.out.cell (lc_ w _ hx153_1)).trans hx153_1
     replace p153 := eq_true p153
     replace q153 := eq_true q153
     have p154 : 0 ≤ (x7_1 : Int) := of_decide_eq_true (by first | (with_reducible assumption) | assumption)
     have q154 : x7_1 < (l0.length : Int) := of_decide_eq_true (by first | (with_reducible assumption) | assumption)
     obtain ⟨ad154, e154, hx154_0, hx154_1⟩ := at_T68 HR0.out x7_1 p154 q154
     obtain rfl : ad153 = ad154 := (by injection e154)
     replace hx154_0 := (HB.out.cell (lc_ w _ hx154_0)).trans hx154_0
     replace hx154_1 := (HB.out.cell (lc_ w _ hx154_1)).trans hx154_1
     replace p154 := eq_true p154
     replace q154 := eq_true q154
     go_wp2_with (first | ((with_reducible refine gate_builtin (b := .append) (xs := #[.tmp 39, .tmp 44]) rfl ?_); at_builtin; refine Kd.R_append k68 (w0 := w) w.heap.size rfl (.tmp 39) (.tmp 44) 57 68 (.agg #[(.int .i64 0), (.int .u8 0)]) 16 rfl Try.underlying57 info68 rfl (by decide) (by omega) u5 x5_1 (⟨(rd_T68 l0 x7_1).f0, (rd_T68 l0 x7_1).f1⟩ : S68) [.int .i64 ((rd_T68 l0 x7_1).f0), .int .u8 ((rd_T68 l0 x7_1).f1)] (fun k_ => k_ ≠ gb133) (fun _ => False) rfl rfl ?aP (fun _ hk => hk.elim) ?aF ?aO ?aB ?aS ?aL ?_; (case aP => exact k68_mkM _ _ _ (⟨(rd_T68 l0 x7_1).f0, (rd_T68 l0 x7_1).f1⟩ : S68)); (case aB => exact (us_ HB.out)); (case aF => exact (fun k_ hk => Kd.freshB (g := gb133) (o := .cells #[.int .i64 a1_0, .int .u8 a1_1] 68 (0, 0)) (u_ BK133.out) k_ hk)); (case aO => exact (Kd.ur_ HO_5.out)); (case aS => exact (below_size (us_ HB.out))); (case aL => have := LMc29.out; omega); intro v156 w31 ho hb hg hat; rw [← Ny155.out] at ho; replace BK133 := mk_ (blk_grown (g := gb133) (o := .cells #[.int .i64 a1_0, .int .u8 a1_1] 68 (0, 0)) (u_ BK133.out) hg (Kd.R_away HO_5.out (fun _ hk => hk))); replace HB := mk_ (hb); have HO157 := mk_ (ho); clear HO_5; clear ho hb hg hat))
     repeat (go_quiet (first | ((with_reducible refine gate_builtin (b := .append) (xs := #[.tmp 39, .tmp 44]) rfl ?_); at_builtin; refine Kd.R_append k68 (w0 := w) w.heap.size rfl (.tmp 39) (.tmp 44) 57 68 (.agg #[(.int .i64 0), (.int .u8 0)]) 16 rfl Try.underlying57 info68 rfl (by decide) (by omega) u5 x5_1 (⟨(rd_T68 l0 x7_1).f0, (rd_T68 l0 x7_1).f1⟩ : S68) [.int .i64 ((rd_T68 l0 x7_1).f0), .int .u8 ((rd_T68 l0 x7_1).f1)] (fun k_ => k_ ≠ gb133) (fun _ => False) rfl rfl ?aP (fun _ hk => hk.elim) ?aF ?aO ?aB ?aS ?aL ?_; (case aP => exact k68_mkM _ _ _ (⟨(rd_T68 l0 x7_1).f0, (rd_T68 l0 x7_1).f1⟩ : S68)); (case aB => exact (us_ HB.out)); (case aF => exact (fun k_ hk => Kd.freshB (g := gb133) (o := .cells #[.int .i64 a1_0, .int .u8 a1_1] 68 (0, 0)) (u_ BK133.out) k_ hk)); (case aO => exact (Kd.ur_ HO_5.out)); (case aS => exact (below_size (us_ HB.out))); (case aL => have := LMc29.out; omega); intro v156 w31 ho hb hg hat; rw [← Ny155.out] at ho; replace BK133 := mk_ (blk_grown (g := gb133) (o := .cells #[.int .i64 a1_0, .int .u8 a1_1] 68 (0, 0)) (u_ BK133.out) hg (Kd.R_away HO_5.out (fun _ hk => hk))); replace HB := mk_ (hb); have HO157 := mk_ (ho); clear HO_5; clear ho hb hg hat)); try go_wp2_with (first | ((with_reducible refine gate_builtin (b := .append) (xs := #[.tmp 39, .tmp 44]) rfl ?_); at_builtin; refine Kd.R_append k68 (w0 := w) w.heap.size rfl (.tmp 39) (.tmp 44) 57 68 (.agg #[(.int .i64 0), (.int .u8 0)]) 16 rfl Try.underlying57 info68 rfl (by decide) (by omega) u5 x5_1 (⟨(rd_T68 l0 x7_1).f0, (rd_T68 l0 x7_1).f1⟩ : S68) [.int .i64 ((rd_T68 l0 x7_1).f0), .int .u8 ((rd_T68 l0 x7_1).f1)] (fun k_ => k_ ≠ gb133) (fun _ => False) rfl rfl ?aP (fun _ hk => hk.elim) ?aF ?aO ?aB ?aS ?aL ?_; (case aP => exact k68_mkM _ _ _ (⟨(rd_T68 l0 x7_1).f0, (rd_T68 l0 x7_1).f1⟩ : S68)); (case aB => exact (us_ HB.out)); (case aF => exact (fun k_ hk => Kd.freshB (g := gb133) (o := .cells #[.int .i64 a1_0, .int .u8 a1_1] 68 (0, 0)) (u_ BK133.out) k_ hk)); (case aO => exact (Kd.ur_ HO_5.out)); (case aS => exact (below_size (us_ HB.out))); (case aL => have := LMc29.out; omega); intro v156 w31 ho hb hg hat; rw [← Ny155.out] at ho; replace BK133 := mk_ (blk_grown (g := gb133) (o := .cells #[.int .i64 a1_0, .int .u8 a1_1] 68 (0, 0)) (u_ BK133.out) hg (Kd.R_away HO_5.out (fun _ hk => hk))); replace HB := mk_ (hb); have HO157 := mk_ (ho); clear HO_5; clear ho hb hg hat)))
     go_roundg kj6
     case measure => have := HK1.out; have := HJ6.out; omega
     case rel => exact ⟨(y155), (true), (wrap64 (x7_1 + 1)), (by first | rfl | (simp; done) | (simp [*]; done)), (by first | rfl | (simp; done) | (simp [*]; done)), H', ⟨by have := HK1.out; have := HJ6.out; omega⟩, ⟨Kd.ur_ HO157.out⟩, ⟨u_ BK133.out⟩, ⟨us_ HB.out⟩⟩

end Go.Proofs.Ytkkibccnpkbbjab.MFnEarOk
