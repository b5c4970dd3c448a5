/- Functions that the law FnEarOk reaches, each with the proof that the machine's call comes to just its answer; no conditions but those that each theorem states. Printed by a program of this session over the kit's print. -/
import Derived.Test.YtkkibccnpkbbjabMFnEarOkx0
import Derived.Test.YtkkibccnpkbbjabMFnEarOkx1
import Derived.Test.YtkkibccnpkbbjabMFnEarOkx2
namespace Go.Proofs.Ytkkibccnpkbbjab.MFnEarOk
open Go.RowKit Go.Proofs.YtkkibccnpkbbjabV.PrintWords Go.Proofs.YtkkibccnpkbbjabV.PrintLast Go.Proofs.YtkkibccnpkbbjabV.PrintMore
attribute [local go_sem] max2_int min2_int max_two min_two max_three min_three max_four min_four   -- for this text's walks alone
set_option linter.unusedVariables false
set_option linter.unusedSimpArgs false

/-! ### spec_EarHear: function 111 -/
mutual
def spec_EarHear.j0 : Nat → Int → List Int → Bool → Int → Int → List Int → List (S68) → Option (Int × Int × List Int × (List (S68)))
 | 0, _, _, _, _, _, _, _ => none
 | k + 1, x1, x2, x19, x163000, x163001, x163002, x163003 => if x19 = true then (some (0, 0, ([] : List Int), ([] : List (S68)))) else ((spec_EarFree.f k x163000 x163001 x163002 x163003).bind fun t166 => ((some (([] : List (S68)) : List (S68))).bind fun y167 => (if y167.length + x163003.length < 8796093022208 then (spec_EarHear.l0 k x1 x2 t166 (y167 ++ x163003) 0 x163000 x163001 x163002 x163003) else (none))))
def spec_EarHear.l0 : Nat → Int → List Int → Int → List (S68) → Int → Int → Int → List Int → List (S68) → Option (Int × Int × List Int × (List (S68)))
 | 0, _, _, _, _, _, _, _, _, _ => none
 | k + 1, x1, x2, x7, x8, x9, x163000, x163001, x163002, x163003 => if x9 < (x2.length : Int) then (if (wrap64 (x1 + x9)) ≥ x163000 then (if (wrap64 (x1 + x9)) < (wrap64 (x163000 + x7)) then (if 0 ≤ x9 then ((spec_l12Put.f k x8 (wrap64 (x1 + x9)) (rd x2 x9)).bind fun t174 => (spec_EarHear.l0 k x1 x2 x7 t174 (wrap64 (x9 + 1)) x163000 x163001 x163002 x163003)) else (none)) else (spec_EarHear.l0 k x1 x2 x7 x8 (wrap64 (x9 + 1)) x163000 x163001 x163002 x163003)) else (spec_EarHear.l0 k x1 x2 x7 x8 (wrap64 (x9 + 1)) x163000 x163001 x163002 x163003)) else ((some (([] : List Int) : List Int)).bind fun y177 => (if y177.length + x163002.length < 140737488355328 then (spec_EarHear.l1 k x8 0 x163000 x163001 (y177 ++ x163002)) else (none)))
def spec_EarHear.l1 : Nat → List (S68) → Int → Int → Int → List Int → Option (Int × Int × List Int × (List (S68)))
 | 0, _, _, _, _, _ => none
 | k + 1, x8, x11, x184000, x184001, x184002 => if x11 < (x8.length : Int) then (if 0 ≤ x11 then (if ((rd_T68 x8 x11).f0) = x184000 then (if x184002.length < 140737488355328 then (spec_EarHear.l1 k x8 (wrap64 (x11 + 1)) (wrap64 (x184000 + 1)) x184001 (x184002 ++ [(rd_T68 x8 x11).f1])) else (none)) else (if x11 ≤ (x8.length : Int) then (if x184000 > 1000000 then (some (0, 0, ([] : List Int), ([] : List (S68)))) else (some (x184000, x184001, x184002, (x8.drop (x11 : Int).toNat)))) else (none))) else (none)) else (if 0 ≤ x11 then (if x11 ≤ (x8.length : Int) then (if x184000 > 1000000 then (some (0, 0, ([] : List Int), ([] : List (S68)))) else (some (x184000, x184001, x184002, (x8.drop (x11 : Int).toNat)))) else (none)) else (none))
end
def spec_EarHear.f (k : Nat) (a0_0 : Int) (a0_1 : Int) (l0_2 : List Int) (l0_3 : List (S68)) (a1 : Int) (l2 : List Int) : Option (Int × Int × List Int × (List (S68))) := (spec_EarOk.f k a0_0 a0_1 l0_2 l0_3).bind fun t164 => (if t164 = true then ((spec_l1In.f a1 0 1000000).bind fun t165 => (spec_EarHear.j0 k a1 l2 (!t165) a0_0 a0_1 l0_2 l0_3)) else (spec_EarHear.j0 k a1 l2 true a0_0 a0_1 l0_2 l0_3))
theorem spec_EarHear.mono_l : ∀ k, (∀ y0 y1 y2 y3 y4 y5 y6, LeO (spec_EarHear.j0 k y0 y1 y2 y3 y4 y5 y6) (spec_EarHear.j0 (k + 1) y0 y1 y2 y3 y4 y5 y6)) ∧ (∀ y0 y1 y2 y3 y4 y5 y6 y7 y8, LeO (spec_EarHear.l0 k y0 y1 y2 y3 y4 y5 y6 y7 y8) (spec_EarHear.l0 (k + 1) y0 y1 y2 y3 y4 y5 y6 y7 y8)) ∧ (∀ y0 y1 y2 y3 y4, LeO (spec_EarHear.l1 k y0 y1 y2 y3 y4) (spec_EarHear.l1 (k + 1) y0 y1 y2 y3 y4))
 | 0 => ⟨fun _ _ _ _ _ _ _ r h => by simp [spec_EarHear.j0] at h, fun _ _ _ _ _ _ _ _ _ r h => by simp [spec_EarHear.l0] at h, fun _ _ _ _ _ r h => by simp [spec_EarHear.l1] at h⟩
 | k + 1 => by
  obtain ⟨ih0, ih1, ih2⟩ := spec_EarHear.mono_l k
  refine ⟨?_, ?_, ?_⟩
  ·intro y0 y1 y2 y3 y4 y5 y6
   unfold spec_EarHear.j0
   repeat' first
   | (with_reducible exact ih0 _ _ _ _ _ _ _)
   | (with_reducible exact ih1 _ _ _ _ _ _ _ _ _)
   | (with_reducible exact ih2 _ _ _ _ _)
   | (with_reducible exact spec_EarFree.mono _ _ _ _ _)
   | (with_reducible exact spec_EarOk.mono _ _ _ _ _)
   | (with_reducible exact spec_l12Put.mono _ _ _ _)
   | (with_reducible exact LeO.refl _)
   | (with_reducible exact LeO.none _)
   | (with_reducible refine LeO.ite ?_ ?_)
   | (with_reducible refine LeO.bind ?_ (fun _ => ?_))
   | exact ih0 _ _ _ _ _ _ _
   | exact ih1 _ _ _ _ _ _ _ _ _
   | exact ih2 _ _ _ _ _
   | exact spec_EarFree.mono _ _ _ _ _
   | exact spec_EarOk.mono _ _ _ _ _
   | exact spec_l12Put.mono _ _ _ _
   | exact LeO.none _
   | refine LeO.ite ?_ ?_
   | refine LeO.bind ?_ (fun _ => ?_)
  ·intro y0 y1 y2 y3 y4 y5 y6 y7 y8
   unfold spec_EarHear.l0
   repeat' first
   | (with_reducible exact ih0 _ _ _ _ _ _ _)
   | (with_reducible exact ih1 _ _ _ _ _ _ _ _ _)
   | (with_reducible exact ih2 _ _ _ _ _)
   | (with_reducible exact spec_EarFree.mono _ _ _ _ _)
   | (with_reducible exact spec_EarOk.mono _ _ _ _ _)
   | (with_reducible exact spec_l12Put.mono _ _ _ _)
   | (with_reducible exact LeO.refl _)
   | (with_reducible exact LeO.none _)
   | (with_reducible refine LeO.ite ?_ ?_)
   | (with_reducible refine LeO.bind ?_ (fun _ => ?_))
   | exact ih0 _ _ _ _ _ _ _
   | exact ih1 _ _ _ _ _ _ _ _ _
   | exact ih2 _ _ _ _ _
   | exact spec_EarFree.mono _ _ _ _ _
   | exact spec_EarOk.mono _ _ _ _ _
   | exact spec_l12Put.mono _ _ _ _
   | exact LeO.none _
   | refine LeO.ite ?_ ?_
   | refine LeO.bind ?_ (fun _ => ?_)
  ·intro y0 y1 y2 y3 y4
   unfold spec_EarHear.l1
   repeat' first
   | (with_reducible exact ih0 _ _ _ _ _ _ _)
   | (with_reducible exact ih1 _ _ _ _ _ _ _ _ _)
   | (with_reducible exact ih2 _ _ _ _ _)
   | (with_reducible exact spec_EarFree.mono _ _ _ _ _)
   | (with_reducible exact spec_EarOk.mono _ _ _ _ _)
   | (with_reducible exact spec_l12Put.mono _ _ _ _)
   | (with_reducible exact LeO.refl _)
   | (with_reducible exact LeO.none _)
   | (with_reducible refine LeO.ite ?_ ?_)
   | (with_reducible refine LeO.bind ?_ (fun _ => ?_))
   | exact ih0 _ _ _ _ _ _ _
   | exact ih1 _ _ _ _ _ _ _ _ _
   | exact ih2 _ _ _ _ _
   | exact spec_EarFree.mono _ _ _ _ _
   | exact spec_EarOk.mono _ _ _ _ _
   | exact spec_l12Put.mono _ _ _ _
   | exact LeO.none _
   | refine LeO.ite ?_ ?_
   | refine LeO.bind ?_ (fun _ => ?_)
theorem spec_EarHear.mono : ∀ a0 a1 a2 a3 a4 a5 k, LeO (spec_EarHear.f k a0 a1 a2 a3 a4 a5) (spec_EarHear.f (k + 1) a0 a1 a2 a3 a4 a5) := by
 intro a0 a1 a2 a3 a4 a5 k
 obtain ⟨ih0, ih1, ih2⟩ := spec_EarHear.mono_l k
 unfold spec_EarHear.f
 repeat' first
   | (with_reducible exact ih0 _ _ _ _ _ _ _)
   | (with_reducible exact ih1 _ _ _ _ _ _ _ _ _)
   | (with_reducible exact ih2 _ _ _ _ _)
   | (with_reducible exact spec_EarFree.mono _ _ _ _ _)
   | (with_reducible exact spec_EarOk.mono _ _ _ _ _)
   | (with_reducible exact spec_l12Put.mono _ _ _ _)
   | (with_reducible exact LeO.refl _)
   | (with_reducible exact LeO.none _)
   | (with_reducible refine LeO.ite ?_ ?_)
   | (with_reducible refine LeO.bind ?_ (fun _ => ?_))
   | exact ih0 _ _ _ _ _ _ _
   | exact ih1 _ _ _ _ _ _ _ _ _
   | exact ih2 _ _ _ _ _
   | exact spec_EarFree.mono _ _ _ _ _
   | exact spec_EarOk.mono _ _ _ _ _
   | exact spec_l12Put.mono _ _ _ _
   | exact LeO.none _
   | refine LeO.ite ?_ ?_
   | refine LeO.bind ?_ (fun _ => ?_)
def spec_EarHear.T10 : Bool × List (List Nat × List Nat) := (true, [([], []), ([0], [0]), ([], []), ([2], [2]), ([], []), ([], []), ([5], [5]), ([4, 6], [4, 6]), ([1, 3, 7], [1, 3, 7]), ([], []), ([9, 8, 7, 0, 1, 2, 3, 4, 5, 6, 7, 8, 9], [8, 9])])
def spec_EarHear.B10 : List Nat := [0, 1, 0, 4, 0, 0, 32, 112, 255, 0, 1023]
theorem spec_EarHear.tab10 : rtab .any (opsOf Try.f111 10) = spec_EarHear.T10 := by kernel_rfl
theorem spec_EarHear.bits10 : waitsOk spec_EarHear.T10.2 spec_EarHear.B10 = true := by kernel_rfl
def spec_EarHear.T12 : Bool × List (List Nat × List Nat) := (true, [([], []), ([], []), ([1], [1]), ([0, 2], [0, 2]), ([3], [3]), ([4], [4]), ([4], [4]), ([5, 6, 4], [4, 5, 6]), ([7, 4], [4, 7]), ([8, 4], [4, 8]), ([4], [4]), ([10, 4], [4, 10]), ([9, 11, 4], [4, 9, 11]), ([4, 12], [4, 12])])
def spec_EarHear.B12 : List Nat := [0, 0, 2, 7, 15, 31, 31, 127, 255, 511, 31, 1055, 4095, 8191]
theorem spec_EarHear.tab12 : rtab .any (opsOf Try.f111 12) = spec_EarHear.T12 := by kernel_rfl
theorem spec_EarHear.bits12 : waitsOk spec_EarHear.T12.2 spec_EarHear.B12 = true := by kernel_rfl
def spec_EarHear.T13 : Bool × List (List Nat × List Nat) := (true, [([], []), ([0], [0]), ([], []), ([], []), ([2, 3], [2, 3]), ([4], [4]), ([5], [5]), ([6], [6]), ([1, 7], [1, 7]), ([0, 1, 2, 3, 4, 5, 6, 7, 8], []), ([9, 8, 8, 0, 1, 2, 3, 4, 5, 6, 7, 8], [8, 9])])
def spec_EarHear.B13 : List Nat := [0, 1, 0, 0, 12, 28, 60, 124, 255, 511, 1023]
theorem spec_EarHear.tab13 : rtab .any (opsOf Try.f111 13) = spec_EarHear.T13 := by kernel_rfl
theorem spec_EarHear.bits13 : waitsOk spec_EarHear.T13.2 spec_EarHear.B13 = true := by kernel_rfl
set_option maxHeartbeats 8000000 in
set_option maxRecDepth 100000 in
theorem spec_EarHear.calls (k : Nat) (a0_0 : Int) (a0_1 : Int) (A0_2 : Option Addr) (c0_2 : Nat) (l0_2 : List Int) (A0_3 : Option Addr) (c0_3 : Nat) (l0_3 : List (S68)) (a1 : Int) (A2 : Option Addr) (c2 : Nat) (l2 : List Int) (r1 : Int) (r2 : Int) (r3 : List Int) (r4 : List (S68)) (w : World) (hr0_2 : Kd.C (Kd.int .u8) w A0_2 l0_2.length l0_2) (hc0_2 : l0_2.length ≤ c0_2) (hr0_3 : Kd.C k68 w A0_3 l0_3.length l0_3) (hc0_3 : l0_3.length ≤ c0_3) (hr2 : Kd.C (Kd.int .u8) w A2 l2.length l2) (hc2 : l2.length ≤ c2) (h : spec_EarHear.f k a0_0 a0_1 l0_2 l0_3 a1 l2 = some (r1, r2, r3, r4)) :
  Calls Try.prog 111 #[.agg #[.int .i64 a0_0, .int .i64 a0_1, .slice A0_2 l0_2.length c0_2, .slice A0_3 l0_3.length c0_3], .int .i64 a1, .slice A2 l2.length c2] w fun e w' => ∃ v2_ v3_ : Value, e = .returned (.agg #[.int .i64 r1, .int .i64 r2, v2_, v3_]) ∧ Kd.R (Kd.int .u8) 5 w' w.heap.size (fun _ => True) v2_ r3 ∧ Kd.Q k68 68 w' w.heap.size (fun _ => True) v3_ r4 ∧ Below w.heap.size w w' := by
 have hu59 := Try.underlying59
 have hu68 := Try.underlying68
 have HR0_2 := mk_ hr0_2
 have HC0_2 := mk_ hc0_2
 clear hr0_2 hc0_2
 have HR0_3 := mk_ hr0_3
 have HC0_3 := mk_ hc0_3
 clear hr0_3 hc0_3
 have HR2 := mk_ hr2
 have HC2 := mk_ hc2
 clear hr2 hc2
 have HB := mk_ (Below.refl w.heap.size w)
 have H := h
 unfold spec_EarHear.f at H
 clear h
 have HC4 := mk_ H
 clear H
 go_enter Try.func111, Try.ntmps111
 go_upto_region 1 with (first | ((with_reducible refine gate_dst (N := 3) rfl ?_); refine box_event ?hg (N := 3) ?hd (cs := #[.int .i64 a0_0, .int .i64 a0_1, .slice A0_2 l0_2.length c0_2, .slice A0_3 l0_3.length c0_3]) (t := 59) ?hr ?_; (case hd => rfl); (case hg => rfl); (case hr => first | (go_simp; done) | (go_simp; rfl)); intro gb162 hg w5 hbox hb; have n0_ := mk_ (below_step (ub_ HB.out) hb); have BK162 := mk_ (hbox); have GW162 := mk_ ((by rw [hg]; exact (below_size (ub_ HB.out)) : w.heap.size ≤ gb162)); have GE162 := ge_ ((by rw [hg]; exact (below_size (ub_ HB.out)) : w.heap.size ≤ gb162)); replace HB := n0_; clear n0_; clear hb hbox hg) | ((with_reducible refine gate_dst (N := 6) rfl ?_); refine box_event ?hg (N := 6) ?hd (cs := #[.int .i64 0, .int .i64 0, .slice none 0 0, .slice none 0 0]) (t := 59) ?hr ?_; (case hd => rfl); (case hg => rfl); (case hr => first | (go_simp; done) | (go_simp; rfl)); intro gb163 hg w6 hbox hb; have n0_ := mk_ (blk_below (u_ BK162.out) hb); have n1_ := mk_ (below_step (us_ HB.out) hb); have BK163 := mk_ (hbox); have GW163 := mk_ ((by rw [hg]; exact (below_size (us_ HB.out)) : w.heap.size ≤ gb163)); have GE163 := ge_ ((by rw [hg]; exact (below_size (us_ HB.out)) : w.heap.size ≤ gb163)); have NB162_163 := nq_ ((by rw [hg]; exact Nat.ne_of_lt (blk_lt (u_ BK162.out)) : gb162 ≠ gb163)); have NB163_162 := nq_ ((by rw [hg]; exact Nat.ne_of_gt (blk_lt (u_ BK162.out)) : gb163 ≠ gb162)); replace BK162 := n0_; replace HB := n1_; clear n0_ n1_; clear hb hbox hg))
 (try simp only [Act.put, la_, lz_, ls_])
 go_cut [19] (fun v19 wc => ∃ (kq : Nat) (x19_3 : Bool), v19 = .bool x19_3 ∧ Aside0 (spec_EarHear.j0 kq a1 l2 x19_3 a0_0 a0_1 l0_2 l0_3 = some (r1, r2, r3, r4)) ∧ Aside0 (kq ≤ k) ∧ Aside0 (wc.heap[gb162]? = some (.cells #[.int .i64 a0_0, .int .i64 a0_1, (.slice A0_2 l0_2.length c0_2), (.slice A0_3 l0_3.length c0_3)] 59 (0, 0))) ∧ Aside0 (wc.heap[gb163]? = some (.cells #[.int .i64 0, .int .i64 0, (.slice none 0 0), (.slice none 0 0)] 59 (0, 0))) ∧ Aside0 (Below w.heap.size w wc))
 case first =>
  have H := HC4.out
  clear HC4
  replace H := Option.bind_eq_some_iff.mp H
  obtain ⟨t164, A70, H⟩ := H
  (try dsimp only at H)
  have A7 := mk_ A70
  clear A70
  by_cases c8 : t164 = true
  rotate_left
  ·replace c8 := Bool.eq_false_iff.mpr c8
   subst c8
   rw [if_neg (show ¬ (false = true) by decide)] at H
   have H' := mk_ H
   clear H
   have hnb13 := NB162_163.out
   have hnc13 := NB163_162.out
   obtain ⟨hcz14_0, hcz14_1, hcz14_2, hcz14_3, hfz14_0, hfz14_1, hfz14_2, hfz14_3⟩ := cells4_ BK162.out
   go_wp2_with (first | ((with_reducible refine gate_callee (f := 33) rfl ?_); refine goesL_ (some 13) rfl rfl Try.func33 (by kernel_rfl) rfl #[.agg #[.int .i64 a0_0, .int .i64 a0_1, .slice A0_2 l0_2.length c0_2, .slice A0_3 l0_3.length c0_3]] rfl (by (try simp only [lm_, lo_, ln_]); try rfl) ?_; (with_reducible refine (spec_EarOk.calls k a0_0 a0_1 _ _ l0_2 _ _ l0_3 false _ ?side1 ?side2 ?side3 ?side4 A7.out).mono ?_); (case side1 => repeat (first | exact (Kd.C_below HR0_2.out HB.out) | (with_reducible refine Kd.C_alloc ?_ _) | (with_reducible refine Kd.C_drewN ?_ _) | (with_reducible refine Kd.C_drew ?_))); (case side2 => exact HC0_2.out); (case side3 => repeat (first | exact (Kd.C_below HR0_3.out HB.out) | (with_reducible refine Kd.C_alloc ?_ _) | (with_reducible refine Kd.C_drewN ?_ _) | (with_reducible refine Kd.C_drew ?_))); (case side4 => exact HC0_3.out); rintro e w15 ⟨rfl, hb⟩; refine ⟨_, rfl, ?_⟩; replace BK162 := mk_ (blk_below (u_ BK162.out) hb); replace BK163 := mk_ (blk_below (u_ BK163.out) hb); replace HB := mk_ (below_step (us_ HB.out) hb)))
   go_meet
   case rel => exact ⟨_, (true), (by first | rfl | (simp; done) | (simp [*]; done)), H', ⟨by first | omega | exact Nat.le_refl _⟩, ⟨u_ BK162.out⟩, ⟨u_ BK163.out⟩, ⟨us_ HB.out⟩⟩
  subst c8
  rw [if_pos rfl] at H
  replace H := Option.bind_eq_some_iff.mp H
  obtain ⟨t165, A90, H⟩ := H
  replace H : (spec_EarHear.j0 k a1 l2 (!t165) a0_0 a0_1 l0_2 l0_3) = some (r1, r2, r3, r4) := H
  have A9 := mk_ A90
  clear A90
  have H' := mk_ H
  clear H
  have hnb10 := NB162_163.out
  have hnc10 := NB163_162.out
  obtain ⟨hcz11_0, hcz11_1, hcz11_2, hcz11_3, hfz11_0, hfz11_1, hfz11_2, hfz11_3⟩ := cells4_ BK162.out
  go_wp2_with (first | ((with_reducible refine gate_callee (f := 33) rfl ?_); refine goesL_ (some 13) rfl rfl Try.func33 (by kernel_rfl) rfl #[.agg #[.int .i64 a0_0, .int .i64 a0_1, .slice A0_2 l0_2.length c0_2, .slice A0_3 l0_3.length c0_3]] rfl (by (try simp only [lm_, lo_, ln_]); try rfl) ?_; (with_reducible refine (spec_EarOk.calls k a0_0 a0_1 _ _ l0_2 _ _ l0_3 true _ ?side1 ?side2 ?side3 ?side4 A7.out).mono ?_); (case side1 => repeat (first | exact (Kd.C_below HR0_2.out HB.out) | (with_reducible refine Kd.C_alloc ?_ _) | (with_reducible refine Kd.C_drewN ?_ _) | (with_reducible refine Kd.C_drew ?_))); (case side2 => exact HC0_2.out); (case side3 => repeat (first | exact (Kd.C_below HR0_3.out HB.out) | (with_reducible refine Kd.C_alloc ?_ _) | (with_reducible refine Kd.C_drewN ?_ _) | (with_reducible refine Kd.C_drew ?_))); (case side4 => exact HC0_3.out); rintro e w12 ⟨rfl, hb⟩; refine ⟨_, rfl, ?_⟩; replace BK162 := mk_ (blk_below (u_ BK162.out) hb); replace BK163 := mk_ (blk_below (u_ BK163.out) hb); replace HB := mk_ (below_step (us_ HB.out) hb)) | (go_at_call 53; (with_reducible refine (spec_l1In.calls a1 0 1000000 t165 _ A9.out).mono ?_); rintro e w' ⟨rfl, ⟨nd, rfl⟩⟩))
  go_meet
  case rel => exact ⟨_, (!t165), (by first | rfl | (simp; done) | (simp [*]; done)), H', ⟨by first | omega | exact Nat.le_refl _⟩, ⟨u_ BK162.out⟩, ⟨u_ BK163.out⟩, ⟨us_ HB.out⟩⟩
 case rest =>
  clear HC4
  try clear c1
  try clear c2
  try clear p2
  try clear c3
  try clear c8
  try clear c10
  try clear c11
  try clear c13
  try clear hcz11_0
  try clear hcz11_1
  try clear hcz11_2
  try clear hcz11_3
  try clear hcz14_0
  try clear hcz14_1
  try clear hcz14_2
  try clear hcz14_3
  try clear hfz11_0
  try clear hfz11_1
  try clear hfz11_2
  try clear hfz11_3
  try clear hfz14_0
  try clear hfz14_1
  try clear hfz14_2
  try clear hfz14_3
  obtain ⟨kq, x19_3, rfl, HA, HJ3, BK162, BK163, HB⟩ := hcut
  cases kq with
  | zero => exact absurd HA.out (by simp [spec_EarHear.j0])
  | succ kj3 =>
   have H := HA.out
   clear HA
   simp only [spec_EarHear.j0] at H
   by_cases c16 : x19_3 = true
   ·subst c16
    rw [if_pos rfl] at H
    simp only [Option.some.injEq, Prod.mk.injEq] at H
    obtain ⟨rfl, rfl, rfl, rfl⟩ := H
    have hnb17 := NB163_162.out
    have hnc17 := NB162_163.out
    obtain ⟨hcz18_0, hcz18_1, hcz18_2, hcz18_3, hfz18_0, hfz18_1, hfz18_2, hfz18_3⟩ := cells4_ BK163.out
    go_wp2
    refine bodyPost_ret (results_cell_row rfl _ _ gb163 59 #[.int .i64 0, .int .i64 0, .slice none 0 0, .slice none 0 0] (0, 0) _ rfl (by (with_reducible repeat (first | refine bn_ ?_ _ | refine bw_ ?_ | refine ba_ ?_ _)); refine blk_put (cs := #[.int .i64 0, .int .i64 0, .slice none 0 0, .slice none 0 0]) ?_ 3 _ rfl; (with_reducible repeat (first | refine bn_ ?_ _ | refine bw_ ?_ | refine ba_ ?_ _)); refine blk_put (cs := #[.int .i64 0, .int .i64 0, .slice none 0 0, .slice none 0 0]) ?_ 2 _ rfl; (with_reducible repeat (first | refine bn_ ?_ _ | refine bw_ ?_ | refine ba_ ?_ _)); refine blk_put (cs := #[.int .i64 0, .int .i64 0, .slice none 0 0, .slice none 0 0]) ?_ 1 _ rfl; (with_reducible repeat (first | refine bn_ ?_ _ | refine bw_ ?_ | refine ba_ ?_ _)); refine blk_put (cs := #[.int .i64 0, .int .i64 0, .slice none 0 0, .slice none 0 0]) ?_ 0 _ rfl; (with_reducible repeat (first | refine bn_ ?_ _ | refine bw_ ?_ | refine ba_ ?_ _)); exact BK163.out) Try.underlying59 rfl (by kernel_rfl)) rfl ?_
    exact ⟨_, _, by first | rfl | (simp [errW_none, errW_some] <;> rfl) | (simp [*, errW_none, errW_some] <;> rfl), by first | exact Kd.R_nil _ _ _ _ _ | exact Kd.N_nil _ _ _ _ _ | exact Kd.V_nil _ _ _ _ _ | exact Kd.Q_nil _ _ _ _ _ | exact Kd.S_nil _ _ _ _ _, Kd.Q_of_R (by first | exact Kd.R_nil _ _ _ _ _ | exact Kd.N_nil _ _ _ _ _ | exact Kd.V_nil _ _ _ _ _ | exact Kd.Q_nil _ _ _ _ _ | exact Kd.S_nil _ _ _ _ _), us_ HB.out⟩
   replace c16 := Bool.eq_false_iff.mpr c16
   subst c16
   rw [if_neg (show ¬ (false = true) by decide)] at H
   replace H := Option.bind_eq_some_iff.mp H
   obtain ⟨t166, A190, H⟩ := H
   (try dsimp only at H)
   have A19 := mk_ A190
   clear A190
   obtain ⟨y167, hy167⟩ : ∃ y_ : List (S68), y_ = (([] : List (S68))) := ⟨_, rfl⟩
   replace H : (if y167.length + l0_3.length < 8796093022208 then (spec_EarHear.l0 kj3 a1 l2 t166 (y167 ++ l0_3) 0 a0_0 a0_1 l0_2 l0_3) else (none)) = some (r1, r2, r3, r4) := by first | (rw [hy167]; with_reducible exact H) | (have H2_ := (Option.bind_some _ _).symm.trans H; rw [hy167]; with_reducible exact H2_) | (have H2_ := (Option.bind_some _ _).symm.trans H; with_reducible exact H2_) | with_reducible exact H | (rw [hy167]; exact H) | exact H
   have Ny167 := mk_ hy167
   clear hy167
   by_cases c20 : y167.length + l0_3.length < 8796093022208
   rotate_left
   ·rw [if_neg c20] at H
    exact absurd H (by simp)
   rw [if_pos c20] at H
   have LMc20 := mk_ c20
   clear c20
   obtain ⟨y170, hy170⟩ : ∃ y_ : List (S68), y_ = (y167 ++ l0_3) := ⟨_, rfl⟩
   replace H : (spec_EarHear.l0 kj3 a1 l2 t166 y170 0 a0_0 a0_1 l0_2 l0_3) = some (r1, r2, r3, r4) := by first | (rw [hy170]; with_reducible exact H) | (have H2_ := (Option.bind_some _ _).symm.trans H; rw [hy170]; with_reducible exact H2_) | (have H2_ := (Option.bind_some _ _).symm.trans H; with_reducible exact H2_) | with_reducible exact H | (rw [hy170]; exact H) | exact H
   have Ny170 := mk_ hy170
   clear hy170
   have H' := mk_ H
   clear H
   have hnb21 := NB162_163.out
   have hnc21 := NB163_162.out
   obtain ⟨hcz22_0, hcz22_1, hcz22_2, hcz22_3, hfz22_0, hfz22_1, hfz22_2, hfz22_3⟩ := cells4_ BK162.out
   go_wp2_with (first | ((with_reducible refine gate_callee (f := 130) rfl ?_); refine goesL_ (some 22) rfl rfl Try.func130 (by kernel_rfl) rfl #[.agg #[.int .i64 a0_0, .int .i64 a0_1, .slice A0_2 l0_2.length c0_2, .slice A0_3 l0_3.length c0_3]] rfl (by (try simp only [lm_, lo_, ln_]); try rfl) ?_; (with_reducible refine (spec_EarFree.calls kj3 a0_0 a0_1 _ _ l0_2 _ _ l0_3 t166 _ ?side1 ?side2 ?side3 ?side4 A19.out).mono ?_); (case side1 => repeat (first | exact (Kd.C_below HR0_2.out HB.out) | (with_reducible refine Kd.C_alloc ?_ _) | (with_reducible refine Kd.C_drewN ?_ _) | (with_reducible refine Kd.C_drew ?_))); (case side2 => exact HC0_2.out); (case side3 => repeat (first | exact (Kd.C_below HR0_3.out HB.out) | (with_reducible refine Kd.C_alloc ?_ _) | (with_reducible refine Kd.C_drewN ?_ _) | (with_reducible refine Kd.C_drew ?_))); (case side4 => exact HC0_3.out); rintro e w23 ⟨rfl, hb⟩; refine ⟨_, rfl, ?_⟩; replace BK162 := mk_ (blk_below (u_ BK162.out) hb); replace BK163 := mk_ (blk_below (u_ BK163.out) hb); replace HB := mk_ (below_step (us_ HB.out) hb)) | ((with_reducible refine gate_dst (N := 23) rfl ?_); refine Kd.R_lit k68 _ 68 ?hg (N := 23) ?hd (xs := ([] : List (S68))) (inner := []) (ok := fun _ => True) (okp := fun _ => True) ?hr ?hp (fun _ hk => hk) trivial (Below.refl _ _) (Nat.le_refl _) (by simp) ?_; (case hd => rfl); (case hg => rfl); (case hr => first | (go_simp; done) | (go_simp; rfl)); (case hp => exact (Reps.none _ _)); intro v168 w24 ho25 hb hg_ hnew_; clear hg_ hnew_; (first | rw [← Ny167.out] at ho25 | (simp only [Int.reduceToNat] at ho25; rw [← Ny167.out] at ho25)); have HO169 := mk_ (Kd.R_lower ho25 (below_size (us_ HB.out))); replace BK162 := mk_ (blk_below (u_ BK162.out) hb); replace BK163 := mk_ (blk_below (u_ BK163.out) hb); replace HB := mk_ (below_step (us_ HB.out) hb); clear hb ho25; obtain ⟨hcz26_0, hcz26_1, hcz26_2, hcz26_3, hfz26_0, hfz26_1, hfz26_2, hfz26_3⟩ := cells4_ BK162.out) | ((with_reducible refine gate_builtin (b := .append) (xs := #[.tmp 23, .tmp 25]) rfl ?_); at_builtin; refine Kd.R_append_rows k68 (w0 := w) w.heap.size rfl (.tmp 23) (.tmp 25) 57 68 (.agg #[(.int .i64 0), (.int .u8 0)]) 16 rfl Try.underlying57 info68 rfl (by decide) (by omega) v168 y167 l0_3 _ _ _ (fun _ => True) (fun _ => False) rfl rfl ?aO ?aR (fun _ _ h => h) (fun _ h => h.elim) ?aF ?aB ?aS ?aL ?_; (case aR => repeat (first | exact (Kd.C_below HR0_3.out HB.out) | (with_reducible refine Kd.C_alloc ?_ _) | (with_reducible refine Kd.C_drewN ?_ _) | (with_reducible refine Kd.C_drew ?_))); (case aB => exact (us_ HB.out)); (case aF => exact (fun _ _ => trivial)); (case aO => exact (Kd.ur_ HO169.out)); (case aS => exact (below_size (us_ HB.out))); (case aL => have := LMc20.out; omega); intro v171 w27 ho hb hg hat; rw [← Ny170.out] at ho; replace BK162 := mk_ (blk_grown (g := gb162) (o := .cells #[.int .i64 a0_0, .int .i64 a0_1, .slice A0_2 l0_2.length c0_2, .slice A0_3 l0_3.length c0_3] 59 (0, 0)) (u_ BK162.out) hg (Kd.R_ne HO169.out BK162.out (by decide))); replace BK163 := mk_ (blk_grown (g := gb163) (o := .cells #[.int .i64 0, .int .i64 0, .slice none 0 0, .slice none 0 0] 59 (0, 0)) (u_ BK163.out) hg (Kd.R_ne HO169.out BK163.out (by decide))); replace HB := mk_ (hb); have HO172 := mk_ (ho); clear HO169; clear ho hb hg hat))
   go_loopg [8, 9] kj3 (fun kq v8 v9 w' => ∃ (x8_2 : List (S68)) (x9_2 : Int), v9 = .int .i64 x9_2 ∧ Aside0 (spec_EarHear.l0 kq a1 l2 t166 x8_2 x9_2 a0_0 a0_1 l0_2 l0_3 = some (r1, r2, r3, r4)) ∧ Aside0 (kq ≤ kj3) ∧ Aside0 (Kd.R k68 68 w' w.heap.size (fun _ => True) v8 x8_2) ∧ Aside0 (w'.heap[gb162]? = some (.cells #[.int .i64 a0_0, .int .i64 a0_1, (.slice A0_2 l0_2.length c0_2), (.slice A0_3 l0_3.length c0_3)] 59 (0, 0))) ∧ Aside0 (w'.heap[gb163]? = some (.cells #[.int .i64 0, .int .i64 0, (.slice none 0 0), (.slice none 0 0)] 59 (0, 0))) ∧ Aside0 (Below w.heap.size w w'))
   case atStart => exact ⟨(y170), (0), (by first | rfl | (simp; done) | (simp [*]; done)), H', ⟨Nat.le_refl _⟩, ⟨Kd.ur_ HO172.out⟩, ⟨u_ BK162.out⟩, ⟨u_ BK163.out⟩, ⟨us_ HB.out⟩⟩
   case round =>
    clear H'
    try clear c1
    try clear c2
    try clear p2
    try clear c3
    try clear c8
    try clear c10
    try clear c11
    try clear c13
    try clear c16
    try clear c17
    try clear c20
    try clear c21
    try clear hcz11_0
    try clear hcz11_1
    try clear hcz11_2
    try clear hcz11_3
    try clear hcz14_0
    try clear hcz14_1
    try clear hcz14_2
    try clear hcz14_3
    try clear hcz18_0
    try clear hcz18_1
    try clear hcz18_2
    try clear hcz18_3
    try clear hcz22_0
    try clear hcz22_1
    try clear hcz22_2
    try clear hcz22_3
    try clear hcz26_0
    try clear hcz26_1
    try clear hcz26_2
    try clear hcz26_3
    try clear hfz11_0
    try clear hfz11_1
    try clear hfz11_2
    try clear hfz11_3
    try clear hfz14_0
    try clear hfz14_1
    try clear hfz14_2
    try clear hfz14_3
    try clear hfz18_0
    try clear hfz18_1
    try clear hfz18_2
    try clear hfz18_3
    try clear hfz22_0
    try clear hfz22_1
    try clear hfz22_2
    try clear hfz22_3
    try clear hfz26_0
    try clear hfz26_1
    try clear hfz26_2
    try clear hfz26_3
    try clear p2
    obtain ⟨x8_2, x9_2, rfl, HA, HK2, HO_8, BK162, BK163, HB⟩ := hrel
    cases gk with
    | zero => exact absurd HA.out (by simp [spec_EarHear.l0])
    | succ k2 =>
     have H := HA.out
     clear HA
     simp only [spec_EarHear.l0] at H
     by_cases c28 : x9_2 < (l2.length : Int)
     ·rw [if_pos c28] at H
      have c28b0 : decide (x9_2 < (l2.length : Int)) = true := decide_eq_true c28
      clear c28
      by_cases c29 : (wrap64 (a1 + x9_2)) ≥ a0_0
      rotate_left
      ·rw [if_neg c29] at H
       have c29b0 : decide (a0_0 ≤ (wrap64 (a1 + x9_2))) = false := decide_eq_false c29
       clear c29
       have H' := mk_ H
       clear H
       have hnb39 := NB162_163.out
       have hnc39 := NB163_162.out
       obtain ⟨hcz40_0, hcz40_1, hcz40_2, hcz40_3, hfz40_0, hfz40_1, hfz40_2, hfz40_3⟩ := cells4_ BK162.out
       go_wp2
       go_roundg k2
       case measure => have := HJ3.out; have := HK2.out; omega
       case rel => exact ⟨(x8_2), (wrap64 (x9_2 + 1)), (by first | rfl | (simp; done) | (simp [*]; done)), H', ⟨by have := HJ3.out; have := HK2.out; omega⟩, ⟨Kd.ur_ HO_8.out⟩, ⟨u_ BK162.out⟩, ⟨u_ BK163.out⟩, ⟨us_ HB.out⟩⟩
      rw [if_pos c29] at H
      have c29b0 : decide (a0_0 ≤ (wrap64 (a1 + x9_2))) = true := decide_eq_true c29
      clear c29
      by_cases c30 : (wrap64 (a1 + x9_2)) < (wrap64 (a0_0 + t166))
      rotate_left
      ·rw [if_neg c30] at H
       have c30b0 : decide ((wrap64 (a1 + x9_2)) < (wrap64 (a0_0 + t166))) = false := decide_eq_false c30
       clear c30
       have H' := mk_ H
       clear H
       have hnb37 := NB162_163.out
       have hnc37 := NB163_162.out
       obtain ⟨hcz38_0, hcz38_1, hcz38_2, hcz38_3, hfz38_0, hfz38_1, hfz38_2, hfz38_3⟩ := cells4_ BK162.out
       go_wp2
       go_roundg k2
       case measure => have := HJ3.out; have := HK2.out; omega
       case rel => exact ⟨(x8_2), (wrap64 (x9_2 + 1)), (by first | rfl | (simp; done) | (simp [*]; done)), H', ⟨by have := HJ3.out; have := HK2.out; omega⟩, ⟨Kd.ur_ HO_8.out⟩, ⟨u_ BK162.out⟩, ⟨u_ BK163.out⟩, ⟨us_ HB.out⟩⟩
      rw [if_pos c30] at H
      have c30b0 : decide ((wrap64 (a1 + x9_2)) < (wrap64 (a0_0 + t166))) = true := decide_eq_true c30
      clear c30
      by_cases c31 : 0 ≤ x9_2
      rotate_left
      ·rw [if_neg c31] at H
       exact absurd H (by simp)
      rw [if_pos c31] at H
      have c31b0 : decide (0 ≤ x9_2) = true := decide_eq_true c31
      clear c31
      replace H := Option.bind_eq_some_iff.mp H
      obtain ⟨t174, A320, H⟩ := H
      replace H : (spec_EarHear.l0 k2 a1 l2 t166 t174 (wrap64 (x9_2 + 1)) a0_0 a0_1 l0_2 l0_3) = some (r1, r2, r3, r4) := H
      have A32 := mk_ A320
      clear A320
      have H' := mk_ H
      clear H
      have hnb33 := NB162_163.out
      have hnc33 := NB163_162.out
      obtain ⟨hcz34_0, hcz34_1, hcz34_2, hcz34_3, hfz34_0, hfz34_1, hfz34_2, hfz34_3⟩ := cells4_ BK162.out
      have p173 : 0 ≤ (x9_2 : Int) := of_decide_eq_true (by first | (with_reducible assumption) | assumption)
      have q173 : x9_2 < (l2.length : Int) := of_decide_eq_true (by first | (with_reducible assumption) | assumption)
      obtain ⟨ad173, e173, hx173_0⟩ := Kd.at_int HR2.out x9_2 p173 q173
      cases e173
      replace hx173_0 := (HB.out.cell (lc_ w _ hx173_0)).trans hx173_0
      replace p173 := eq_true p173
      replace q173 := eq_true q173
      obtain ⟨Ao35, co35, eo35⟩ := Kd.R_slice HO_8.out
      subst eo35
      go_wp2_with (first | ((with_reducible refine gate_callee (f := 131) rfl ?_); refine goesL_ (some 58) rfl rfl Try.func131 (by kernel_rfl) rfl #[.slice Ao35 x8_2.length co35, .agg #[.int .i64 (wrap64 (a1 + x9_2)), .int .u8 (rd l2 x9_2)]] rfl (by (try simp only [lm_, lo_, ln_]); try rfl) ?_; (with_reducible refine (spec_l12Put.calls k2 _ _ x8_2 (wrap64 (a1 + x9_2)) (rd l2 x9_2) t174 _ ?side1 ?side2 A32.out).mono ?_); (case side1 => repeat (first | exact (Kd.R_reads' HO_8.out).2.2 | (with_reducible refine Kd.C_alloc ?_ _) | (with_reducible refine Kd.C_drewN ?_ _) | (with_reducible refine Kd.C_drew ?_))); (case side2 => exact (Kd.R_reads' HO_8.out).2.1); rintro e w36 ⟨v175, rfl, ho0, hb⟩; refine ⟨_, rfl, ?_⟩; have n0_ := mk_ (Kd.R_elder' (Kd.ur_ HO_8.out) (Kd.R_base ho0) hb); have HO176 := mk_ (Kd.R_lower (Kd.R_new' ho0 (Kd.R_lt (Kd.ur_ HO_8.out))) (below_size (us_ HB.out))); replace BK162 := mk_ (blk_below (u_ BK162.out) hb); replace BK163 := mk_ (blk_below (u_ BK163.out) hb); replace HB := mk_ (below_step (us_ HB.out) hb); replace HO_8 := n0_; clear n0_))
      go_roundg k2
      case measure => have := HJ3.out; have := HK2.out; omega
      case rel => exact ⟨(t174), (wrap64 (x9_2 + 1)), (by first | rfl | (simp; done) | (simp [*]; done)), H', ⟨by have := HJ3.out; have := HK2.out; omega⟩, ⟨by (with_reducible repeat (first | apply Kd.R_alloc | apply Kd.R_drewN | apply Kd.R_drew)); exact Kd.R_mono HO176.out (fun _ hk => trivial)⟩, ⟨u_ BK162.out⟩, ⟨u_ BK163.out⟩, ⟨us_ HB.out⟩⟩
     rw [if_neg c28] at H
     have c28b0 : decide (x9_2 < (l2.length : Int)) = false := decide_eq_false c28
     clear c28
     obtain ⟨y177, hy177⟩ : ∃ y_ : List Int, y_ = (([] : List Int)) := ⟨_, rfl⟩
     replace H : (if y177.length + l0_2.length < 140737488355328 then (spec_EarHear.l1 k2 x8_2 0 a0_0 a0_1 (y177 ++ l0_2)) else (none)) = some (r1, r2, r3, r4) := by first | (rw [hy177]; with_reducible exact H) | (have H2_ := (Option.bind_some _ _).symm.trans H; rw [hy177]; with_reducible exact H2_) | (have H2_ := (Option.bind_some _ _).symm.trans H; with_reducible exact H2_) | with_reducible exact H | (rw [hy177]; exact H) | exact H
     have Ny177 := mk_ hy177
     clear hy177
     by_cases c41 : y177.length + l0_2.length < 140737488355328
     rotate_left
     ·rw [if_neg c41] at H
      exact absurd H (by simp)
     rw [if_pos c41] at H
     have LMc41 := mk_ c41
     clear c41
     obtain ⟨y180, hy180⟩ : ∃ y_ : List Int, y_ = (y177 ++ l0_2) := ⟨_, rfl⟩
     replace H : (spec_EarHear.l1 k2 x8_2 0 a0_0 a0_1 y180) = some (r1, r2, r3, r4) := by first | (rw [hy180]; with_reducible exact H) | (have H2_ := (Option.bind_some _ _).symm.trans H; rw [hy180]; with_reducible exact H2_) | (have H2_ := (Option.bind_some _ _).symm.trans H; with_reducible exact H2_) | with_reducible exact H | (rw [hy180]; exact H) | exact H
     have Ny180 := mk_ hy180
     clear hy180
     have H' := mk_ H
     clear H
     try go_wp2
     have n0_ := mk_ (Kd.R_drew HO_8.out)
     have n1_ := mk_ (blk_drew BK162.out)
     have n2_ := mk_ (blk_drew BK163.out)
     have n3_ := mk_ (below_drew1 HB.out)
     clear HO_8
     clear BK162
     clear BK163
     clear HB
     have HO_8 := n0_
     have BK162 := n1_
     have BK163 := n2_
     have HB := n3_
     clear n0_ n1_ n2_ n3_
     refine start_ (n := 11) (S := fun w' => w'.cell? ⟨gb162, 0, none⟩ = some (.int .i64 a0_0) ∧ w'.cell? ⟨gb162, 1, none⟩ = some (.int .i64 a0_1) ∧ w'.cell? ⟨gb162, 2, none⟩ = some (.slice A0_2 l0_2.length c0_2) ∧ w'.cell? ⟨gb162, 3, none⟩ = some (.slice A0_3 l0_3.length c0_3)) (ds := []) #[F_, F_, F_, F_, F_, F_, F_, F_, F_, F_, F_] (by kernel_rfl) rfl rfl ⟨(blk_cell BK162.out 0).trans rfl, (blk_cell BK162.out 1).trans rfl, (blk_cell BK162.out 2).trans rfl, (blk_cell BK162.out 3).trans rfl⟩ (fun hHeld => ?_); refine with_tabW spec_EarHear.tab10 spec_EarHear.bits10 (fun HT_ HW_ => ?_)
     generalize wr.drew = w42 at HO_8 BK162 BK163 HB hHeld ⊢
     refine pure_ (i := 0) (N := some 59) (v := ?_) (a' := ?_) #[T_, F_, F_, F_, F_, F_, F_, F_, F_, F_, F_] rfl rfl (any_of HT_.out (by kernel_rfl)) (fun _ _ _ h => h) (Or.inl ⟨by rfl, ?_⟩) ?_ ?_
     rotate_left
     ·intro w'
      go_simp
      with_reducible rfl
     rotate_left
     ·simp only [Act.put, la_, lz_, ls_, i64_w, i32_w]
      rfl
     refine pure_ (i := 2) (N := some 61) (v := ?_) (a' := ?_) #[T_, F_, T_, F_, F_, F_, F_, F_, F_, F_, F_] rfl rfl (any_of HT_.out (by kernel_rfl)) (fun _ _ _ h => h) (Or.inl ⟨by rfl, ?_⟩) ?_ ?_
     rotate_left
     ·intro w'
      go_simp
      with_reducible rfl
     rotate_left
     ·simp only [Act.put, la_, lz_, ls_, i64_w, i32_w]
      rfl
     refine pure_ (i := 5) (N := some 64) (v := ?_) (a' := ?_) #[T_, F_, T_, F_, F_, T_, F_, F_, F_, F_, F_] rfl rfl (any_of HT_.out (by kernel_rfl)) (fun _ _ _ h => h) (Or.inl ⟨by rfl, ?_⟩) ?_ ?_
     rotate_left
     ·intro w'
      go_simp
      with_reducible rfl
     rotate_left
     ·simp only [Act.put, la_, lz_, ls_, i64_w, i32_w]
      rfl
     refine take_ (i := 1) (N := some 60) (v := ?_) (a' := ?_) #[T_, T_, T_, F_, F_, T_, F_, F_, F_, F_, F_] rfl rfl (take_ofW HT_.out HW_.out (by kernel_rfl)) (fun _ _ _ h => h) (Or.inl ⟨by rfl, ?_⟩) hHeld ?_ ?_
     rotate_left
     ·rintro w' ⟨s0, s1, s2, s3⟩
      go_simp
      with_reducible rfl
     rotate_left
     ·simp only [Act.put, la_, lz_, ls_, i64_w, i32_w]
      rfl
     refine take_ (i := 3) (N := some 62) (v := ?_) (a' := ?_) #[T_, T_, T_, T_, F_, T_, F_, F_, F_, F_, F_] rfl rfl (take_ofW HT_.out HW_.out (by kernel_rfl)) (fun _ _ _ h => h) (Or.inl ⟨by rfl, ?_⟩) hHeld ?_ ?_
     rotate_left
     ·rintro w' ⟨s0, s1, s2, s3⟩
      go_simp
      with_reducible rfl
     rotate_left
     ·simp only [Act.put, la_, lz_, ls_, i64_w, i32_w]
      rfl
     refine take_ (i := 6) (N := some 65) (v := ?_) (a' := ?_) #[T_, T_, T_, T_, F_, T_, T_, F_, F_, F_, F_] rfl rfl (take_ofW HT_.out HW_.out (by kernel_rfl)) (fun _ _ _ h => h) (Or.inl ⟨by rfl, ?_⟩) hHeld ?_ ?_
     rotate_left
     ·rintro w' ⟨s0, s1, s2, s3⟩
      go_simp
      with_reducible rfl
     rotate_left
     ·simp only [Act.put, la_, lz_, ls_, i64_w, i32_w]
      rfl
     refine join_ (σ := Value × Value × Nat) 1 #[T_, T_, T_, T_, T_, T_, T_, T_, T_, T_, F_] (fun s_ => [(63, s_.1), (66, s_.2.1), (10, .pointer (some ⟨s_.2.2, 0, none⟩)), (67, .agg #[.int .i64 a0_0, .int .i64 a0_1, s_.2.1, .slice none 0 0])]) (fun s_ w' => (w'.cell? ⟨gb162, 0, none⟩ = some (.int .i64 a0_0) ∧ w'.cell? ⟨gb162, 1, none⟩ = some (.int .i64 a0_1) ∧ w'.cell? ⟨gb162, 2, none⟩ = some (.slice A0_2 l0_2.length c0_2) ∧ w'.cell? ⟨gb162, 3, none⟩ = some (.slice A0_3 l0_3.length c0_3)) ∧ (Kd.R (Kd.int .u8) 5 w' w.heap.size (fun _ => True) s_.2.1 y180) ∧ (Kd.R k68 68 w' w.heap.size (fun _ => True) u8 x8_2) ∧ (w'.heap[gb162]? = some (.cells #[.int .i64 a0_0, .int .i64 a0_1, .slice A0_2 l0_2.length c0_2, .slice A0_3 l0_3.length c0_3] 59 (0, 0))) ∧ (w'.heap[gb163]? = some (.cells #[.int .i64 0, .int .i64 0, .slice none 0 0, .slice none 0 0] 59 (0, 0))) ∧ (w'.heap[s_.2.2]? = some (.cells #[.int .i64 0, .int .i64 0, .slice none 0 0, .slice none 0 0] 59 (0, 0))) ∧ (w.heap.size ≤ s_.2.2) ∧ (w.heap.size ≤ s_.2.2) ∧ (gb162 ≠ s_.2.2) ∧ (s_.2.2 ≠ gb162) ∧ (gb163 ≠ s_.2.2) ∧ (s_.2.2 ≠ gb163) ∧ (Below w.heap.size w w')) ?_ ?_
     rotate_left
     ·intro hCont
      refine two_ (i := 4) (j := 9) (Ni := some 63) (Nj := some 10) #[T_, T_, T_, T_, T_, T_, T_, F_, F_, F_, F_] #[T_, T_, T_, T_, F_, T_, T_, F_, F_, T_, F_] rfl rfl rfl rfl (two_of HT_.out (by kernel_rfl)) (by decide) (by decide) (fun K hK => ?_) (fun K hK => ?_)
      ·skip
       refine Kd.R_lit_step (Kd.int .u8) _ 5 ?hg (N := 63) ?hd (xs := ([] : List Int)) (inner := []) (ok := fun _ => True) (okp := fun _ => True) ?hr ?hp (fun _ hk => hk) trivial (Below.refl _ _) (Nat.le_refl _) (by simp) ?_; (case hd => rfl); (case hg => rfl); (case hr => first | (go_simp; done) | (go_simp; rfl)); (case hp => exact (Reps.none _ _))
       intro v178 w43 ho44 hb hg_ hnew_
       clear hg_ hnew_
       (first | rw [← Ny177.out] at ho44 | (simp only [Int.reduceToNat] at ho44; rw [← Ny177.out] at ho44))
       have n0_ := mk_ (Kd.R_below (Kd.ur_ HO_8.out) hb)
       have n1_ := mk_ (Kd.R_lower ho44 (below_size (us_ HB.out)))
       have n2_ := mk_ (blk_below (u_ BK162.out) hb)
       have n3_ := mk_ (blk_below (u_ BK163.out) hb)
       have n4_ := mk_ (below_step (us_ HB.out) hb)
       clear HO_8
       clear BK162
       clear BK163
       clear HB
       have HO_8 := n0_
       have HO179 := n1_
       have BK162 := n2_
       have BK163 := n3_
       have HB := n4_
       clear n0_ n1_ n2_ n3_ n4_
       clear hb ho44
       refine hK.out _ _ ⟨(blk_cell BK162.out 0).trans rfl, (blk_cell BK162.out 1).trans rfl, (blk_cell BK162.out 2).trans rfl, (blk_cell BK162.out 3).trans rfl⟩ (fun hHeld => ?_)
       clear hK K
       refine norm_ (a' := ?_) ?_ ?_
       rotate_left
       ·show Act.put _ (some 63) _ = _
        simp only [Act.put, la_, lz_, ls_, i64_w, i32_w]
        rfl
       refine two_ (i := 7) (j := 9) (Ni := some 66) (Nj := some 10) #[T_, T_, T_, T_, T_, T_, T_, T_, F_, F_, F_] #[T_, T_, T_, T_, T_, T_, T_, F_, F_, T_, F_] rfl rfl rfl rfl (two_of HT_.out (by kernel_rfl)) (by decide) (by decide) (fun K hK => ?_) (fun K hK => ?_)
       ·skip
        refine Kd.R_append_rows_step (Kd.int .u8) (w0 := w) w.heap.size (by rfl) (.tmp 63) (.tmp 65) 22 5 (.int .u8 0) 1 rfl Try.underlying22 info5 rfl (by decide) (by omega) v178 y177 l0_2 _ _ _ (fun _ => True) (fun _ => False) rfl rfl ?aO ?aR (fun _ _ h => h) (fun _ h => h.elim) ?aF ?aB ?aS ?aL ?_
        (case aR => repeat (first | exact (Kd.C_below HR0_2.out HB.out) | (with_reducible refine Kd.C_alloc ?_ _) | (with_reducible refine Kd.C_drewN ?_ _) | (with_reducible refine Kd.C_drew ?_)))
        (case aB => exact (us_ HB.out))
        (case aF => exact (fun _ _ => trivial))
        (case aO => exact (Kd.ur_ HO179.out))
        (case aS => exact (below_size (us_ HB.out)))
        (case aL => have := LMc41.out; omega)
        intro v181 w45 ho hb hg hat
        rw [← Ny180.out] at ho
        have n0_ := mk_ (Kd.R_over' (Kd.ur_ HO_8.out) (Kd.R_typed (Kd.ur_ HO179.out)) (by decide) hg)
        have n1_ := mk_ (blk_grown (g := gb162) (o := .cells #[.int .i64 a0_0, .int .i64 a0_1, .slice A0_2 l0_2.length c0_2, .slice A0_3 l0_3.length c0_3] 59 (0, 0)) (u_ BK162.out) hg (Kd.R_ne HO179.out BK162.out (by decide)))
        have n2_ := mk_ (blk_grown (g := gb163) (o := .cells #[.int .i64 0, .int .i64 0, .slice none 0 0, .slice none 0 0] 59 (0, 0)) (u_ BK163.out) hg (Kd.R_ne HO179.out BK163.out (by decide)))
        have n3_ := mk_ (hb)
        have n4_ := mk_ (ho)
        clear HO_8
        clear BK162
        clear BK163
        clear HB
        clear HO179
        have HO_8 := n0_
        have BK162 := n1_
        have BK163 := n2_
        have HB := n3_
        have HO182 := n4_
        clear n0_ n1_ n2_ n3_ n4_
        clear ho hb hg hat
        obtain ⟨Ao46, co46, eo46⟩ := Kd.R_slice HO182.out
        (first | subst eo46 | (injection eo46 with f1_ f2_ f3_; have f4_ := f1_.symm; have f5_ := f3_.symm; clear f1_ f2_ f3_; subst f4_; subst f5_))
        refine hK.out _ _ ⟨(blk_cell BK162.out 0).trans rfl, (blk_cell BK162.out 1).trans rfl, (blk_cell BK162.out 2).trans rfl, (blk_cell BK162.out 3).trans rfl⟩ (fun hHeld => ?_)
        clear hK K
        refine norm_ (a' := ?_) ?_ ?_
        rotate_left
        ·show Act.put _ (some 66) _ = _
         simp only [Act.put, la_, lz_, ls_, i64_w, i32_w]
         rfl
        refine pure_ (i := 8) (N := some 67) (v := ?_) (a' := ?_) #[T_, T_, T_, T_, T_, T_, T_, T_, T_, F_, F_] rfl rfl (any_of HT_.out (by kernel_rfl)) (fun _ _ _ h => h) (Or.inl ⟨by rfl, ?_⟩) ?_ ?_
        rotate_left
        ·intro w'
         go_simp
         with_reducible rfl
        rotate_left
        ·simp only [Act.put, la_, lz_, ls_, i64_w, i32_w]
         rfl
        refine one_ (i := 9) (N := some 10) #[T_, T_, T_, T_, T_, T_, T_, T_, T_, T_, F_] rfl rfl (one_of HT_.out (by kernel_rfl)) (by decide) (fun K hK => ?_)
        refine box_step ?hg (N := 10) ?hd (cs := #[.int .i64 0, .int .i64 0, .slice none 0 0, .slice none 0 0]) (t := 59) ?hr ?_; (case hd => rfl); (case hg => rfl); (case hr => first | (go_simp; done) | (go_simp; rfl))
        intro gb183 hg w47 hbox hb
        have n0_ := mk_ (Kd.R_below (Kd.ur_ HO_8.out) hb)
        have n1_ := mk_ (Kd.R_below (Kd.ur_ HO182.out) hb)
        have n2_ := mk_ (blk_below (u_ BK162.out) hb)
        have n3_ := mk_ (blk_below (u_ BK163.out) hb)
        have n4_ := mk_ (below_step (us_ HB.out) hb)
        have n5_ := mk_ (hbox)
        have n6_ := mk_ ((by rw [hg]; exact (below_size (us_ HB.out)) : w.heap.size ≤ gb183))
        have n7_ := mk_ ((by rw [hg]; exact (below_size (us_ HB.out)) : w.heap.size ≤ gb183))
        have n8_ := mk_ ((by rw [hg]; exact Nat.ne_of_lt (blk_lt (u_ BK162.out)) : gb162 ≠ gb183))
        have n9_ := mk_ ((by rw [hg]; exact Nat.ne_of_gt (blk_lt (u_ BK162.out)) : gb183 ≠ gb162))
        have n10_ := mk_ ((by rw [hg]; exact Nat.ne_of_lt (blk_lt (u_ BK163.out)) : gb163 ≠ gb183))
        have n11_ := mk_ ((by rw [hg]; exact Nat.ne_of_gt (blk_lt (u_ BK163.out)) : gb183 ≠ gb163))
        clear HO_8
        clear HO182
        clear BK162
        clear BK163
        clear HB
        have HO_8 := n0_
        have HO182 := n1_
        have BK162 := n2_
        have BK163 := n3_
        have HB := n4_
        have BK183 := n5_
        have GW183 := n6_
        have GE183 := ge_ n7_.out
        have NB162_183 := nq_ n8_.out
        have NB183_162 := nq_ n9_.out
        have NB163_183 := nq_ n10_.out
        have NB183_163 := nq_ n11_.out
        clear n0_ n1_ n2_ n3_ n4_ n5_ n6_ n7_ n8_ n9_ n10_ n11_
        clear hb hbox hg
        refine hK.out _ _ ⟨(blk_cell BK162.out 0).trans rfl, (blk_cell BK162.out 1).trans rfl, (blk_cell BK162.out 2).trans rfl, (blk_cell BK162.out 3).trans rfl⟩ (fun hHeld => ?_)
        clear hK K
        refine norm_ (a' := ?_) ?_ ?_
        rotate_left
        ·show Act.put _ (some 10) _ = _
         simp only [Act.put, la_, lz_, ls_, i64_w, i32_w]
         rfl
        exact norm_ (by simp only [putAll, Act.put, la_, lz_, ls_]) (hCont (v178, .slice Ao46 y180.length co46, gb183) _ ⟨hHeld, (Kd.ur_ HO182.out), (Kd.ur_ HO_8.out), (u_ BK162.out), (u_ BK163.out), (u_ BK183.out), GW183.out, GE183.out, NB162_183.out, NB183_162.out, NB163_183.out, NB183_163.out, (us_ HB.out)⟩)
       skip
       refine box_step ?hg (N := 10) ?hd (cs := #[.int .i64 0, .int .i64 0, .slice none 0 0, .slice none 0 0]) (t := 59) ?hr ?_; (case hd => rfl); (case hg => rfl); (case hr => first | (go_simp; done) | (go_simp; rfl))
       intro gb183 hg w45 hbox hb
       have n0_ := mk_ (Kd.R_below (Kd.ur_ HO_8.out) hb)
       have n1_ := mk_ (Kd.R_below (Kd.ur_ HO179.out) hb)
       have n2_ := mk_ (blk_below (u_ BK162.out) hb)
       have n3_ := mk_ (blk_below (u_ BK163.out) hb)
       have n4_ := mk_ (below_step (us_ HB.out) hb)
       have n5_ := mk_ (hbox)
       have n6_ := mk_ ((by rw [hg]; exact (below_size (us_ HB.out)) : w.heap.size ≤ gb183))
       have n7_ := mk_ ((by rw [hg]; exact (below_size (us_ HB.out)) : w.heap.size ≤ gb183))
       have n8_ := mk_ ((by rw [hg]; exact Nat.ne_of_lt (blk_lt (u_ BK162.out)) : gb162 ≠ gb183))
       have n9_ := mk_ ((by rw [hg]; exact Nat.ne_of_gt (blk_lt (u_ BK162.out)) : gb183 ≠ gb162))
       have n10_ := mk_ ((by rw [hg]; exact Nat.ne_of_lt (blk_lt (u_ BK163.out)) : gb163 ≠ gb183))
       have n11_ := mk_ ((by rw [hg]; exact Nat.ne_of_gt (blk_lt (u_ BK163.out)) : gb183 ≠ gb163))
       clear HO_8
       clear HO179
       clear BK162
       clear BK163
       clear HB
       have HO_8 := n0_
       have HO179 := n1_
       have BK162 := n2_
       have BK163 := n3_
       have HB := n4_
       have BK183 := n5_
       have GW183 := n6_
       have GE183 := ge_ n7_.out
       have NB162_183 := nq_ n8_.out
       have NB183_162 := nq_ n9_.out
       have NB163_183 := nq_ n10_.out
       have NB183_163 := nq_ n11_.out
       clear n0_ n1_ n2_ n3_ n4_ n5_ n6_ n7_ n8_ n9_ n10_ n11_
       clear hb hbox hg
       refine hK.out _ _ ⟨(blk_cell BK162.out 0).trans rfl, (blk_cell BK162.out 1).trans rfl, (blk_cell BK162.out 2).trans rfl, (blk_cell BK162.out 3).trans rfl⟩ (fun hHeld => ?_)
       clear hK K
       refine norm_ (a' := ?_) ?_ ?_
       rotate_left
       ·show Act.put _ (some 10) _ = _
        simp only [Act.put, la_, lz_, ls_, i64_w, i32_w]
        rfl
       refine one_ (i := 7) (N := some 66) #[T_, T_, T_, T_, T_, T_, T_, T_, F_, T_, F_] rfl rfl (one_of HT_.out (by kernel_rfl)) (by decide) (fun K hK => ?_)
       refine Kd.R_append_rows_step (Kd.int .u8) (w0 := w) w.heap.size (by rfl) (.tmp 63) (.tmp 65) 22 5 (.int .u8 0) 1 rfl Try.underlying22 info5 rfl (by decide) (by omega) v178 y177 l0_2 _ _ _ (fun _ => True) (fun _ => False) rfl rfl ?aO ?aR (fun _ _ h => h) (fun _ h => h.elim) ?aF ?aB ?aS ?aL ?_
       (case aR => repeat (first | exact (Kd.C_below HR0_2.out HB.out) | (with_reducible refine Kd.C_alloc ?_ _) | (with_reducible refine Kd.C_drewN ?_ _) | (with_reducible refine Kd.C_drew ?_)))
       (case aB => exact (us_ HB.out))
       (case aF => exact (fun _ _ => trivial))
       (case aO => exact (Kd.ur_ HO179.out))
       (case aS => exact (below_size (us_ HB.out)))
       (case aL => have := LMc41.out; omega)
       intro v181 w46 ho hb hg hat
       rw [← Ny180.out] at ho
       have n0_ := mk_ (Kd.R_over' (Kd.ur_ HO_8.out) (Kd.R_typed (Kd.ur_ HO179.out)) (by decide) hg)
       have n1_ := mk_ (blk_grown (g := gb162) (o := .cells #[.int .i64 a0_0, .int .i64 a0_1, .slice A0_2 l0_2.length c0_2, .slice A0_3 l0_3.length c0_3] 59 (0, 0)) (u_ BK162.out) hg (Kd.R_ne HO179.out BK162.out (by decide)))
       have n2_ := mk_ (blk_grown (g := gb163) (o := .cells #[.int .i64 0, .int .i64 0, .slice none 0 0, .slice none 0 0] 59 (0, 0)) (u_ BK163.out) hg (Kd.R_ne HO179.out BK163.out (by decide)))
       have n3_ := mk_ (blk_grown (g := gb183) (o := .cells #[.int .i64 0, .int .i64 0, .slice none 0 0, .slice none 0 0] 59 (0, 0)) (u_ BK183.out) hg (Kd.R_ne HO179.out BK183.out (by decide)))
       have n4_ := mk_ (hb)
       have n5_ := mk_ (ho)
       clear HO_8
       clear BK162
       clear BK163
       clear BK183
       clear HB
       clear HO179
       have HO_8 := n0_
       have BK162 := n1_
       have BK163 := n2_
       have BK183 := n3_
       have HB := n4_
       have HO182 := n5_
       clear n0_ n1_ n2_ n3_ n4_ n5_
       clear ho hb hg hat
       obtain ⟨Ao47, co47, eo47⟩ := Kd.R_slice HO182.out
       (first | subst eo47 | (injection eo47 with f1_ f2_ f3_; have f4_ := f1_.symm; have f5_ := f3_.symm; clear f1_ f2_ f3_; subst f4_; subst f5_))
       refine hK.out _ _ ⟨(blk_cell BK162.out 0).trans rfl, (blk_cell BK162.out 1).trans rfl, (blk_cell BK162.out 2).trans rfl, (blk_cell BK162.out 3).trans rfl⟩ (fun hHeld => ?_)
       clear hK K
       refine norm_ (a' := ?_) ?_ ?_
       rotate_left
       ·show Act.put _ (some 66) _ = _
        simp only [Act.put, la_, lz_, ls_, i64_w, i32_w]
        rfl
       refine pure_ (i := 8) (N := some 67) (v := ?_) (a' := ?_) #[T_, T_, T_, T_, T_, T_, T_, T_, T_, T_, F_] rfl rfl (any_of HT_.out (by kernel_rfl)) (fun _ _ _ h => h) (Or.inl ⟨by rfl, ?_⟩) ?_ ?_
       rotate_left
       ·intro w'
        go_simp
        with_reducible rfl
       rotate_left
       ·simp only [Act.put, la_, lz_, ls_, i64_w, i32_w]
        rfl
       exact norm_ (by simp only [putAll, Act.put, la_, lz_, ls_]) (hCont (v178, .slice Ao47 y180.length co47, gb183) _ ⟨hHeld, (Kd.ur_ HO182.out), (Kd.ur_ HO_8.out), (u_ BK162.out), (u_ BK163.out), (u_ BK183.out), GW183.out, GE183.out, NB162_183.out, NB183_162.out, NB163_183.out, NB183_163.out, (us_ HB.out)⟩)
      skip
      refine box_step ?hg (N := 10) ?hd (cs := #[.int .i64 0, .int .i64 0, .slice none 0 0, .slice none 0 0]) (t := 59) ?hr ?_; (case hd => rfl); (case hg => rfl); (case hr => first | (go_simp; done) | (go_simp; rfl))
      intro gb183 hg w43 hbox hb
      have n0_ := mk_ (Kd.R_below (Kd.ur_ HO_8.out) hb)
      have n1_ := mk_ (blk_below (u_ BK162.out) hb)
      have n2_ := mk_ (blk_below (u_ BK163.out) hb)
      have n3_ := mk_ (below_step (us_ HB.out) hb)
      have n4_ := mk_ (hbox)
      have n5_ := mk_ ((by rw [hg]; exact (below_size (us_ HB.out)) : w.heap.size ≤ gb183))
      have n6_ := mk_ ((by rw [hg]; exact (below_size (us_ HB.out)) : w.heap.size ≤ gb183))
      have n7_ := mk_ ((by rw [hg]; exact Nat.ne_of_lt (blk_lt (u_ BK162.out)) : gb162 ≠ gb183))
      have n8_ := mk_ ((by rw [hg]; exact Nat.ne_of_gt (blk_lt (u_ BK162.out)) : gb183 ≠ gb162))
      have n9_ := mk_ ((by rw [hg]; exact Nat.ne_of_lt (blk_lt (u_ BK163.out)) : gb163 ≠ gb183))
      have n10_ := mk_ ((by rw [hg]; exact Nat.ne_of_gt (blk_lt (u_ BK163.out)) : gb183 ≠ gb163))
      clear HO_8
      clear BK162
      clear BK163
      clear HB
      have HO_8 := n0_
      have BK162 := n1_
      have BK163 := n2_
      have HB := n3_
      have BK183 := n4_
      have GW183 := n5_
      have GE183 := ge_ n6_.out
      have NB162_183 := nq_ n7_.out
      have NB183_162 := nq_ n8_.out
      have NB163_183 := nq_ n9_.out
      have NB183_163 := nq_ n10_.out
      clear n0_ n1_ n2_ n3_ n4_ n5_ n6_ n7_ n8_ n9_ n10_
      clear hb hbox hg
      refine hK.out _ _ ⟨(blk_cell BK162.out 0).trans rfl, (blk_cell BK162.out 1).trans rfl, (blk_cell BK162.out 2).trans rfl, (blk_cell BK162.out 3).trans rfl⟩ (fun hHeld => ?_)
      clear hK K
      refine norm_ (a' := ?_) ?_ ?_
      rotate_left
      ·show Act.put _ (some 10) _ = _
       simp only [Act.put, la_, lz_, ls_, i64_w, i32_w]
       rfl
      refine one_ (i := 4) (N := some 63) #[T_, T_, T_, T_, T_, T_, T_, F_, F_, T_, F_] rfl rfl (one_of HT_.out (by kernel_rfl)) (by decide) (fun K hK => ?_)
      refine Kd.R_lit_step (Kd.int .u8) _ 5 ?hg (N := 63) ?hd (xs := ([] : List Int)) (inner := []) (ok := fun _ => True) (okp := fun _ => True) ?hr ?hp (fun _ hk => hk) trivial (Below.refl _ _) (Nat.le_refl _) (by simp) ?_; (case hd => rfl); (case hg => rfl); (case hr => first | (go_simp; done) | (go_simp; rfl)); (case hp => exact (Reps.none _ _))
      intro v178 w44 ho45 hb hg_ hnew_
      clear hg_ hnew_
      (first | rw [← Ny177.out] at ho45 | (simp only [Int.reduceToNat] at ho45; rw [← Ny177.out] at ho45))
      have n0_ := mk_ (Kd.R_below (Kd.ur_ HO_8.out) hb)
      have n1_ := mk_ (Kd.R_lower ho45 (below_size (us_ HB.out)))
      have n2_ := mk_ (blk_below (u_ BK162.out) hb)
      have n3_ := mk_ (blk_below (u_ BK163.out) hb)
      have n4_ := mk_ (blk_below (u_ BK183.out) hb)
      have n5_ := mk_ (below_step (us_ HB.out) hb)
      clear HO_8
      clear BK162
      clear BK163
      clear BK183
      clear HB
      have HO_8 := n0_
      have HO179 := n1_
      have BK162 := n2_
      have BK163 := n3_
      have BK183 := n4_
      have HB := n5_
      clear n0_ n1_ n2_ n3_ n4_ n5_
      clear hb ho45
      refine hK.out _ _ ⟨(blk_cell BK162.out 0).trans rfl, (blk_cell BK162.out 1).trans rfl, (blk_cell BK162.out 2).trans rfl, (blk_cell BK162.out 3).trans rfl⟩ (fun hHeld => ?_)
      clear hK K
      refine norm_ (a' := ?_) ?_ ?_
      rotate_left
      ·show Act.put _ (some 63) _ = _
       simp only [Act.put, la_, lz_, ls_, i64_w, i32_w]
       rfl
      refine one_ (i := 7) (N := some 66) #[T_, T_, T_, T_, T_, T_, T_, T_, F_, T_, F_] rfl rfl (one_of HT_.out (by kernel_rfl)) (by decide) (fun K hK => ?_)
      refine Kd.R_append_rows_step (Kd.int .u8) (w0 := w) w.heap.size (by rfl) (.tmp 63) (.tmp 65) 22 5 (.int .u8 0) 1 rfl Try.underlying22 info5 rfl (by decide) (by omega) v178 y177 l0_2 _ _ _ (fun _ => True) (fun _ => False) rfl rfl ?aO ?aR (fun _ _ h => h) (fun _ h => h.elim) ?aF ?aB ?aS ?aL ?_
      (case aR => repeat (first | exact (Kd.C_below HR0_2.out HB.out) | (with_reducible refine Kd.C_alloc ?_ _) | (with_reducible refine Kd.C_drewN ?_ _) | (with_reducible refine Kd.C_drew ?_)))
      (case aB => exact (us_ HB.out))
      (case aF => exact (fun _ _ => trivial))
      (case aO => exact (Kd.ur_ HO179.out))
      (case aS => exact (below_size (us_ HB.out)))
      (case aL => have := LMc41.out; omega)
      intro v181 w46 ho hb hg hat
      rw [← Ny180.out] at ho
      have n0_ := mk_ (Kd.R_over' (Kd.ur_ HO_8.out) (Kd.R_typed (Kd.ur_ HO179.out)) (by decide) hg)
      have n1_ := mk_ (blk_grown (g := gb162) (o := .cells #[.int .i64 a0_0, .int .i64 a0_1, .slice A0_2 l0_2.length c0_2, .slice A0_3 l0_3.length c0_3] 59 (0, 0)) (u_ BK162.out) hg (Kd.R_ne HO179.out BK162.out (by decide)))
      have n2_ := mk_ (blk_grown (g := gb163) (o := .cells #[.int .i64 0, .int .i64 0, .slice none 0 0, .slice none 0 0] 59 (0, 0)) (u_ BK163.out) hg (Kd.R_ne HO179.out BK163.out (by decide)))
      have n3_ := mk_ (blk_grown (g := gb183) (o := .cells #[.int .i64 0, .int .i64 0, .slice none 0 0, .slice none 0 0] 59 (0, 0)) (u_ BK183.out) hg (Kd.R_ne HO179.out BK183.out (by decide)))
      have n4_ := mk_ (hb)
      have n5_ := mk_ (ho)
      clear HO_8
      clear BK162
      clear BK163
      clear BK183
      clear HB
      clear HO179
      have HO_8 := n0_
      have BK162 := n1_
      have BK163 := n2_
      have BK183 := n3_
      have HB := n4_
      have HO182 := n5_
      clear n0_ n1_ n2_ n3_ n4_ n5_
      clear ho hb hg hat
      obtain ⟨Ao47, co47, eo47⟩ := Kd.R_slice HO182.out
      (first | subst eo47 | (injection eo47 with f1_ f2_ f3_; have f4_ := f1_.symm; have f5_ := f3_.symm; clear f1_ f2_ f3_; subst f4_; subst f5_))
      refine hK.out _ _ ⟨(blk_cell BK162.out 0).trans rfl, (blk_cell BK162.out 1).trans rfl, (blk_cell BK162.out 2).trans rfl, (blk_cell BK162.out 3).trans rfl⟩ (fun hHeld => ?_)
      clear hK K
      refine norm_ (a' := ?_) ?_ ?_
      rotate_left
      ·show Act.put _ (some 66) _ = _
       simp only [Act.put, la_, lz_, ls_, i64_w, i32_w]
       rfl
      refine pure_ (i := 8) (N := some 67) (v := ?_) (a' := ?_) #[T_, T_, T_, T_, T_, T_, T_, T_, T_, T_, F_] rfl rfl (any_of HT_.out (by kernel_rfl)) (fun _ _ _ h => h) (Or.inl ⟨by rfl, ?_⟩) ?_ ?_
      rotate_left
      ·intro w'
       go_simp
       with_reducible rfl
      rotate_left
      ·simp only [Act.put, la_, lz_, ls_, i64_w, i32_w]
       rfl
      exact norm_ (by simp only [putAll, Act.put, la_, lz_, ls_]) (hCont (v178, .slice Ao47 y180.length co47, gb183) _ ⟨hHeld, (Kd.ur_ HO182.out), (Kd.ur_ HO_8.out), (u_ BK162.out), (u_ BK163.out), (u_ BK183.out), GW183.out, GE183.out, NB162_183.out, NB183_162.out, NB163_183.out, NB183_163.out, (us_ HB.out)⟩)
     rintro ⟨v178, v181, gb183⟩ w48 ⟨hS_, h0_, h1_, h2_, h3_, h4_, h5_, h6_, h7_, h8_, h9_, h10_, h11_⟩
     have n0_ : Aside0 (Kd.R (Kd.int .u8) 5 w48 w.heap.size (fun _ => True) v181 y180) := ⟨h0_⟩
     have n1_ : Aside0 (Kd.R k68 68 w48 w.heap.size (fun _ => True) u8 x8_2) := ⟨h1_⟩
     have n2_ : Aside0 (w48.heap[gb162]? = some (.cells #[.int .i64 a0_0, .int .i64 a0_1, .slice A0_2 l0_2.length c0_2, .slice A0_3 l0_3.length c0_3] 59 (0, 0))) := ⟨h2_⟩
     have n3_ : Aside0 (w48.heap[gb163]? = some (.cells #[.int .i64 0, .int .i64 0, .slice none 0 0, .slice none 0 0] 59 (0, 0))) := ⟨h3_⟩
     have n4_ : Aside0 (w48.heap[gb183]? = some (.cells #[.int .i64 0, .int .i64 0, .slice none 0 0, .slice none 0 0] 59 (0, 0))) := ⟨h4_⟩
     have n5_ : Aside0 (w.heap.size ≤ gb183) := ⟨h5_⟩
     have n6_ : Aside0 (w.heap.size ≤ gb183) := ⟨h6_⟩
     have n7_ : Aside0 (gb162 ≠ gb183) := ⟨h7_⟩
     have n8_ : Aside0 (gb183 ≠ gb162) := ⟨h8_⟩
     have n9_ : Aside0 (gb163 ≠ gb183) := ⟨h9_⟩
     have n10_ : Aside0 (gb183 ≠ gb163) := ⟨h10_⟩
     have n11_ : Aside0 (Below w.heap.size w w48) := ⟨h11_⟩
     clear HO_8
     clear BK162
     clear BK163
     clear HB
     clear h0_ h1_ h2_ h3_ h4_ h5_ h6_ h7_ h8_ h9_ h10_ h11_
     have HO182 := n0_
     have HO_8 := n1_
     have BK162 := n2_
     have BK163 := n3_
     have BK183 := n4_
     have GW183 := n5_
     have GE183 := ge_ n6_.out
     have NB162_183 := nq_ n7_.out
     have NB183_162 := nq_ n8_.out
     have NB163_183 := nq_ n9_.out
     have NB183_163 := nq_ n10_.out
     have HB := n11_
     clear n0_ n1_ n2_ n3_ n4_ n5_ n6_ n7_ n8_ n9_ n10_ n11_
     have hHeld : w48.cell? ⟨gb162, 0, none⟩ = some (.int .i64 a0_0) ∧ w48.cell? ⟨gb162, 1, none⟩ = some (.int .i64 a0_1) ∧ w48.cell? ⟨gb162, 2, none⟩ = some (.slice A0_2 l0_2.length c0_2) ∧ w48.cell? ⟨gb162, 3, none⟩ = some (.slice A0_3 l0_3.length c0_3) := hS_
     obtain ⟨Ao49, co49, eo49⟩ := Kd.R_slice HO182.out
     (first | subst eo49 | (injection eo49 with f1_ f2_ f3_; have f4_ := f1_.symm; have f5_ := f3_.symm; clear f1_ f2_ f3_; subst f4_; subst f5_))
     refine norm_ (a' := ?_) ?_ ?_
     rotate_left
     ·simp only [putAll, Act.put, la_, lz_, ls_]
      rfl
     refine one_ (i := 10) (N := none) #[T_, T_, T_, T_, T_, T_, T_, T_, T_, T_, T_] rfl rfl (one_of HT_.out (by kernel_rfl)) (by decide) (fun K hK => ?_)
     have hs50 : w48.cell? ⟨gb183, 0, none⟩ = some (.int .i64 0) := (blk_cell BK183.out 0).trans rfl
     have hfs50 := blk_frozen BK183.out 0
     have hns50_0 := NB162_183.out
     have hns50_1 := NB163_183.out
     have hms50_0 := NB183_162.out
     have hms50_1 := NB183_163.out
     have hs51 : w48.cell? ⟨gb183, 1, none⟩ = some (.int .i64 0) := (blk_cell BK183.out 1).trans rfl
     have hfs51 := blk_frozen BK183.out 1
     have hns51_0 := NB162_183.out
     have hns51_1 := NB163_183.out
     have hms51_0 := NB183_162.out
     have hms51_1 := NB183_163.out
     have hs52 : w48.cell? ⟨gb183, 2, none⟩ = some (.slice none 0 0) := (blk_cell BK183.out 2).trans rfl
     have hfs52 := blk_frozen BK183.out 2
     have hns52_0 := NB162_183.out
     have hns52_1 := NB163_183.out
     have hms52_0 := NB183_162.out
     have hms52_1 := NB183_163.out
     have hs53 : w48.cell? ⟨gb183, 3, none⟩ = some (.slice none 0 0) := (blk_cell BK183.out 3).trans rfl
     have hfs53 := blk_frozen BK183.out 3
     have hns53_0 := NB162_183.out
     have hns53_1 := NB163_183.out
     have hms53_0 := NB183_162.out
     have hms53_1 := NB183_163.out
     refine skip_ (w1 := ?_) (by rfl) rfl ?_ ?_
     rotate_left
     ·go_simp
      rfl
     refine hK.out _ _ ⟨((cell_far (p := ⟨gb183, _, none⟩) NB162_183.out _).trans (((cell_far (p := ⟨gb183, _, none⟩) NB162_183.out _).trans (((cell_far (p := ⟨gb183, _, none⟩) NB162_183.out _).trans (((cell_far (p := ⟨gb183, _, none⟩) NB162_183.out _).trans (hHeld.1)))))))), ((cell_far (p := ⟨gb183, _, none⟩) NB162_183.out _).trans (((cell_far (p := ⟨gb183, _, none⟩) NB162_183.out _).trans (((cell_far (p := ⟨gb183, _, none⟩) NB162_183.out _).trans (((cell_far (p := ⟨gb183, _, none⟩) NB162_183.out _).trans (hHeld.2.1)))))))), ((cell_far (p := ⟨gb183, _, none⟩) NB162_183.out _).trans (((cell_far (p := ⟨gb183, _, none⟩) NB162_183.out _).trans (((cell_far (p := ⟨gb183, _, none⟩) NB162_183.out _).trans (((cell_far (p := ⟨gb183, _, none⟩) NB162_183.out _).trans (hHeld.2.2.1)))))))), ((cell_far (p := ⟨gb183, _, none⟩) NB162_183.out _).trans (((cell_far (p := ⟨gb183, _, none⟩) NB162_183.out _).trans (((cell_far (p := ⟨gb183, _, none⟩) NB162_183.out _).trans (((cell_far (p := ⟨gb183, _, none⟩) NB162_183.out _).trans (hHeld.2.2.2))))))))⟩ (fun hHeld => ?_)
     clear hK K
     refine done_ (done_of HT_.out (by kernel_rfl)) ?_
     try go_wp2
     go_loopg [11] k2 (fun kq v11 w' => ∃ (x11_3 : Int) (x184000_3 : Int) (x184002_3 : List Int) (u184002 : Value), v11 = .int .i64 x11_3 ∧ Aside0 (spec_EarHear.l1 kq x8_2 x11_3 x184000_3 a0_1 x184002_3 = some (r1, r2, r3, r4)) ∧ Aside0 (kq ≤ k2) ∧ Aside0 (Kd.R k68 68 w' w.heap.size (fun _ => True) u8 x8_2) ∧ Aside0 (Kd.R (Kd.int .u8) 5 w' w.heap.size (fun _ => True) u184002 x184002_3) ∧ Aside0 (w'.heap[gb162]? = some (.cells #[.int .i64 a0_0, .int .i64 a0_1, (.slice A0_2 l0_2.length c0_2), (.slice A0_3 l0_3.length c0_3)] 59 (0, 0))) ∧ Aside0 (w'.heap[gb163]? = some (.cells #[.int .i64 0, .int .i64 0, (.slice none 0 0), (.slice none 0 0)] 59 (0, 0))) ∧ Aside0 (w'.heap[gb183]? = some (.cells #[.int .i64 x184000_3, .int .i64 a0_1, u184002, (.slice none 0 0)] 59 (0, 0))) ∧ Aside0 (Below w.heap.size w w'))
     case atStart => exact ⟨(0), (a0_0), (y180), (.slice Ao49 y180.length co49), (by first | rfl | (simp; done) | (simp [*]; done)), H', ⟨Nat.le_refl _⟩, ⟨by (with_reducible repeat (first | apply Kd.R_alloc | apply Kd.R_drewN | apply Kd.R_drew)); exact Kd.R_mono (Kd.R_far (p := ⟨gb183, 3, none⟩) (Kd.R_far (p := ⟨gb183, 2, none⟩) (Kd.R_far (p := ⟨gb183, 1, none⟩) (Kd.R_far (p := ⟨gb183, 0, none⟩) (Kd.R_types HO_8.out BK183.out (by decide)) (fun _ hk => hk.2) (.int .i64 a0_0)) (fun _ hk => hk.2) (.int .i64 a0_1)) (fun _ hk => hk.2) (.slice Ao49 y180.length co49)) (fun _ hk => hk.2) (.slice none 0 0)) (fun _ hk => trivial)⟩, ⟨by (with_reducible repeat (first | apply Kd.R_alloc | apply Kd.R_drewN | apply Kd.R_drew)); exact Kd.R_mono (Kd.R_far (p := ⟨gb183, 3, none⟩) (Kd.R_far (p := ⟨gb183, 2, none⟩) (Kd.R_far (p := ⟨gb183, 1, none⟩) (Kd.R_far (p := ⟨gb183, 0, none⟩) (Kd.R_types HO182.out BK183.out (by decide)) (fun _ hk => hk.2) (.int .i64 a0_0)) (fun _ hk => hk.2) (.int .i64 a0_1)) (fun _ hk => hk.2) (.slice Ao49 y180.length co49)) (fun _ hk => hk.2) (.slice none 0 0)) (fun _ hk => trivial)⟩, ⟨uf_ BK162.out⟩, ⟨uf_ BK163.out⟩, ⟨by (with_reducible repeat (first | refine bn_ ?_ _ | refine bw_ ?_ | refine ba_ ?_ _)); refine blk_put (cs := #[.int .i64 a0_0, .int .i64 a0_1, .slice Ao49 y180.length co49, .slice none 0 0]) ?_ 3 _ rfl; (with_reducible repeat (first | refine bn_ ?_ _ | refine bw_ ?_ | refine ba_ ?_ _)); refine blk_put (cs := #[.int .i64 a0_0, .int .i64 a0_1, .slice none 0 0, .slice none 0 0]) ?_ 2 _ rfl; (with_reducible repeat (first | refine bn_ ?_ _ | refine bw_ ?_ | refine ba_ ?_ _)); refine blk_put (cs := #[.int .i64 a0_0, .int .i64 0, .slice none 0 0, .slice none 0 0]) ?_ 1 _ rfl; (with_reducible repeat (first | refine bn_ ?_ _ | refine bw_ ?_ | refine ba_ ?_ _)); refine blk_put (cs := #[.int .i64 0, .int .i64 0, .slice none 0 0, .slice none 0 0]) ?_ 0 _ rfl; (with_reducible repeat (first | refine bn_ ?_ _ | refine bw_ ?_ | refine ba_ ?_ _)); exact BK183.out⟩, ⟨us_ HB.out⟩⟩
     case round =>
      clear H'
      try clear c1
      try clear p1
      try clear q1
      try clear hx1
      try clear c2
      try clear p2
      try clear c3
      try clear c4
      try clear p6
      try clear c13
      try clear p17
      try clear q17
      try clear hx17
      try clear c28
      try clear c28b0
      try clear c29
      try clear c29b0
      try clear c30
      try clear c30b0
      try clear c31
      try clear c31b0
      try clear c33
      try clear c37
      try clear c39
      try clear c41
      try clear hcz22_3
      try clear hcz26_0
      try clear hcz26_1
      try clear hcz26_2
      try clear hcz26_3
      try clear hcz34_0
      try clear hcz34_1
      try clear hcz34_2
      try clear hcz34_3
      try clear hcz38_0
      try clear hcz38_1
      try clear hcz38_2
      try clear hcz38_3
      try clear hcz40_0
      try clear hcz40_1
      try clear hcz40_2
      try clear hcz40_3
      try clear hfz11_0
      try clear hfz11_1
      try clear hfz11_2
      try clear hfz11_3
      try clear hfz14_0
      try clear hfz14_1
      try clear hfz14_2
      try clear hfz14_3
      try clear hfz18_0
      try clear hfz18_1
      try clear hfz18_2
      try clear hfz18_3
      try clear hfz22_0
      try clear hfz22_1
      try clear hfz22_2
      try clear hfz22_3
      try clear hfz26_0
      try clear hfz26_1
      try clear hfz26_2
      try clear hfz26_3
      try clear hfz34_0
      try clear hfz34_1
      try clear hfz34_2
      try clear hfz34_3
      try clear hfz38_0
      try clear hfz38_1
      try clear hfz38_2
      try clear hfz38_3
      try clear hfz40_0
      try clear hfz40_1
      try clear hfz40_2
      try clear hfz40_3
      try clear hx173_0
      try clear p173
      try clear p2
      try clear q173
      obtain ⟨x11_3, x184000_3, x184002_3, u184002, rfl, HA, HK3, HO_8, HO_184002, BK162, BK163, BK183, HB⟩ := hrel
      cases gk with
      | zero => exact absurd HA.out (by simp [spec_EarHear.l1])
      | succ k3 =>
       have H := HA.out
       clear HA
       simp only [spec_EarHear.l1] at H
       by_cases c54 : x11_3 < (x8_2.length : Int)
       rotate_left
       focus
        rw [if_neg c54] at H
        have c54b0 : decide (x11_3 < (x8_2.length : Int)) = false := decide_eq_false c54
        clear c54
        by_cases c86 : 0 ≤ x11_3
        rotate_left
        ·rw [if_neg c86] at H
         exact absurd H (by simp)
        rw [if_pos c86] at H
        have c86b0 := eq_true c86
        have c86b1 : decide (0 ≤ x11_3) = true := decide_eq_true c86
        clear c86
        by_cases c87 : x11_3 ≤ (x8_2.length : Int)
        rotate_left
        ·rw [if_neg c87] at H
         exact absurd H (by simp)
        rw [if_pos c87] at H
        have c87b0 := eq_true c87
        have c87b1 : decide (x11_3 ≤ (x8_2.length : Int)) = true := decide_eq_true c87
        clear c87
        obtain ⟨y192, hy192⟩ : ∃ y_ : List (S68), y_ = (x8_2.drop (x11_3 : Int).toNat) := ⟨_, rfl⟩
        replace H : (if x184000_3 > 1000000 then (some (0, 0, ([] : List Int), ([] : List (S68)))) else (some (x184000_3, a0_1, x184002_3, y192))) = some (r1, r2, r3, r4) := by first | (rw [hy192]; with_reducible exact H) | (have H2_ := (Option.bind_some _ _).symm.trans H; rw [hy192]; with_reducible exact H2_) | (have H2_ := (Option.bind_some _ _).symm.trans H; with_reducible exact H2_) | with_reducible exact H | (rw [hy192]; exact H) | exact H
        have Ny192 := mk_ hy192
        clear hy192
        by_cases c88 : x184000_3 > 1000000
        focus
         rw [if_pos c88] at H
         have c88b0 : decide (1000000 < x184000_3) = true := decide_eq_true c88
         clear c88
         simp only [Option.some.injEq, Prod.mk.injEq] at H
         obtain ⟨rfl, rfl, rfl, rfl⟩ := H
        rotate_left
        focus
         rw [if_neg c88] at H
         have c88b0 : decide (1000000 < x184000_3) = false := decide_eq_false c88
         clear c88
         simp only [Option.some.injEq, Prod.mk.injEq] at H
         obtain ⟨rfl, rfl, rfl, rfl⟩ := H
        rotate_left
       rotate_left 2
       focus
        rw [if_pos c54] at H
        have c54b0 : decide (x11_3 < (x8_2.length : Int)) = true := decide_eq_true c54
        clear c54
        by_cases c55 : 0 ≤ x11_3
        rotate_left
        ·rw [if_neg c55] at H
         exact absurd H (by simp)
        rw [if_pos c55] at H
        have c55b0 : decide (0 ≤ x11_3) = true := decide_eq_true c55
        clear c55
        by_cases c56 : ((rd_T68 x8_2 x11_3).f0) = x184000_3
        focus
         rw [if_pos c56] at H
         have c56b0 : (((rd_T68 x8_2 x11_3).f0) == x184000_3) = true := beq_iff_eq.mpr c56
         have c56b1 : (((rd_T68 x8_2 x11_3).f0) != x184000_3) = false := bne_eq_false_iff_eq.mpr c56
         clear c56
         by_cases c57 : x184002_3.length < 140737488355328
         rotate_left
         ·rw [if_neg c57] at H
          exact absurd H (by simp)
         rw [if_pos c57] at H
         have LMc57 := mk_ c57
         clear c57
         obtain ⟨y186, hy186⟩ : ∃ y_ : List Int, y_ = (x184002_3 ++ [(rd_T68 x8_2 x11_3).f1]) := ⟨_, rfl⟩
         replace H : (spec_EarHear.l1 k3 x8_2 (wrap64 (x11_3 + 1)) (wrap64 (x184000_3 + 1)) a0_1 y186) = some (r1, r2, r3, r4) := by first | (rw [hy186]; with_reducible exact H) | (have H2_ := (Option.bind_some _ _).symm.trans H; rw [hy186]; with_reducible exact H2_) | (have H2_ := (Option.bind_some _ _).symm.trans H; with_reducible exact H2_) | with_reducible exact H | (rw [hy186]; exact H) | exact H
         have Ny186 := mk_ hy186
         clear hy186
         have H' := mk_ H
         clear H
        rotate_left
        focus
         rw [if_neg c56] at H
         have c56b0 : (((rd_T68 x8_2 x11_3).f0) == x184000_3) = false := beq_eq_false_iff_ne.mpr c56
         have c56b1 : (((rd_T68 x8_2 x11_3).f0) != x184000_3) = true := bne_iff_ne.mpr c56
         by_cases c67 : x11_3 ≤ (x8_2.length : Int)
         rotate_left
         ·rw [if_neg c67] at H
          exact absurd H (by simp)
         rw [if_pos c67] at H
         have c67b0 := eq_true c67
         have c67b1 : decide (x11_3 ≤ (x8_2.length : Int)) = true := decide_eq_true c67
         clear c67
         obtain ⟨y189, hy189⟩ : ∃ y_ : List (S68), y_ = (x8_2.drop (x11_3 : Int).toNat) := ⟨_, rfl⟩
         replace H : (if x184000_3 > 1000000 then (some (0, 0, ([] : List Int), ([] : List (S68)))) else (some (x184000_3, a0_1, x184002_3, y189))) = some (r1, r2, r3, r4) := by first | (rw [hy189]; with_reducible exact H) | (have H2_ := (Option.bind_some _ _).symm.trans H; rw [hy189]; with_reducible exact H2_) | (have H2_ := (Option.bind_some _ _).symm.trans H; with_reducible exact H2_) | with_reducible exact H | (rw [hy189]; exact H) | exact H
         have Ny189 := mk_ hy189
         clear hy189
         by_cases c68 : x184000_3 > 1000000
         focus
          rw [if_pos c68] at H
          have c68b0 : decide (1000000 < x184000_3) = true := decide_eq_true c68
          clear c68
          simp only [Option.some.injEq, Prod.mk.injEq] at H
          obtain ⟨rfl, rfl, rfl, rfl⟩ := H
         rotate_left
         focus
          rw [if_neg c68] at H
          have c68b0 : decide (1000000 < x184000_3) = false := decide_eq_false c68
          clear c68
          simp only [Option.some.injEq, Prod.mk.injEq] at H
          obtain ⟨rfl, rfl, rfl, rfl⟩ := H
         rotate_left
        rotate_left 2
       rotate_left 3
       all_goals
        try go_wp2
        have n0_ := mk_ (Kd.R_drew HO_8.out)
        have n1_ := mk_ (Kd.R_drew HO_184002.out)
        have n2_ := mk_ (blk_drew BK162.out)
        have n3_ := mk_ (blk_drew BK163.out)
        have n4_ := mk_ (blk_drew BK183.out)
        have n5_ := mk_ (below_drew1 HB.out)
        clear HO_8
        clear HO_184002
        clear BK162
        clear BK163
        clear BK183
        clear HB
        have HO_8 := n0_
        have HO_184002 := n1_
        have BK162 := n2_
        have BK163 := n3_
        have BK183 := n4_
        have HB := n5_
        clear n0_ n1_ n2_ n3_ n4_ n5_
        obtain ⟨Ao8480, co8480, eo8480⟩ := Kd.R_slice HO_8.out
        (first | subst eo8480 | (injection eo8480 with f1_ f2_ f3_; have f4_ := f1_.symm; have f5_ := f3_.symm; clear f1_ f2_ f3_; subst f4_; subst f5_))
       iterate 2
        focus
         refine start_ (n := 14) (S := fun w' => True) (ds := []) #[F_, F_, F_, F_, F_, F_, F_, F_, F_, F_, F_, F_, F_, F_] (by kernel_rfl) rfl rfl trivial (fun hHeld => ?_); refine with_tabW spec_EarHear.tab12 spec_EarHear.bits12 (fun HT_ HW_ => ?_)
         generalize wr.drew = w8560 at HO_8 HO_184002 BK162 BK163 BK183 HB hHeld ⊢
         refine pure_ (i := 0) (N := some 68) (v := ?_) (a' := ?_) #[T_, F_, F_, F_, F_, F_, F_, F_, F_, F_, F_, F_, F_, F_] rfl rfl (any_of HT_.out (by kernel_rfl)) (fun _ _ _ h => h) (Or.inl ⟨by rfl, ?_⟩) ?_ ?_
         rotate_left
         ·intro w'
          go_simp
          with_reducible rfl
         rotate_left
         ·simp only [Act.put, la_, lz_, ls_, i64_w, i32_w]
          rfl
         refine pure_ (i := 1) (N := some 69) (v := ?_) (a' := ?_) #[T_, T_, F_, F_, F_, F_, F_, F_, F_, F_, F_, F_, F_, F_] rfl rfl (any_of HT_.out (by kernel_rfl)) (fun _ _ _ h => h) (Or.inl ⟨by rfl, ?_⟩) ?_ ?_
         rotate_left
         ·intro w'
          go_simp
          with_reducible rfl
         rotate_left
         ·simp only [Act.put, la_, lz_, ls_, i64_w, i32_w]
          rfl
         refine pure_ (i := 2) (N := some 70) (v := ?_) (a' := ?_) #[T_, T_, T_, F_, F_, F_, F_, F_, F_, F_, F_, F_, F_, F_] rfl rfl (any_of HT_.out (by kernel_rfl)) (fun _ _ _ h => h) (Or.inl ⟨by rfl, ?_⟩) ?_ ?_
         rotate_left
         ·intro w'
          go_simp
          with_reducible rfl
         rotate_left
         ·simp only [Act.put, la_, lz_, ls_, i64_w, i32_w]
          rfl
         refine pure_ (i := 3) (N := some 71) (v := ?_) (a' := ?_) #[T_, T_, T_, T_, F_, F_, F_, F_, F_, F_, F_, F_, F_, F_] rfl rfl (any_of HT_.out (by kernel_rfl)) (fun _ _ _ h => h) (Or.inl ⟨by rfl, ?_⟩) ?_ ?_
         rotate_left
         ·intro w'
          go_simp
          with_reducible rfl
         rotate_left
         ·simp only [Act.put, la_, lz_, ls_, i64_w, i32_w]
          rfl
         refine pure_ (i := 4) (N := some 72) (v := ?_) (a' := ?_) #[T_, T_, T_, T_, T_, F_, F_, F_, F_, F_, F_, F_, F_, F_] rfl rfl (any_of HT_.out (by kernel_rfl)) (fun _ _ _ h => h) (Or.inl ⟨by rfl, ?_⟩) ?_ ?_
         rotate_left
         ·intro w'
          go_simp
          with_reducible rfl
         rotate_left
         ·simp only [Act.put, la_, lz_, ls_, i64_w, i32_w]
          rfl
         refine pure_ (i := 5) (N := some 73) (v := undef) (a' := ?_) #[T_, T_, T_, T_, T_, T_, F_, F_, F_, F_, F_, F_, F_, F_] rfl rfl (any_of HT_.out (by kernel_rfl)) (fun _ _ _ h => h) (Or.inr ⟨by rfl, rfl⟩) ?_ ?_
         rotate_left
         ·simp only [Act.put, la_, lz_, ls_, i64_w, i32_w]
          rfl
         refine pure_ (i := 6) (N := some 74) (v := undef) (a' := ?_) #[T_, T_, T_, T_, T_, T_, T_, F_, F_, F_, F_, F_, F_, F_] rfl rfl (any_of HT_.out (by kernel_rfl)) (fun _ _ _ h => h) (Or.inr ⟨by rfl, rfl⟩) ?_ ?_
         rotate_left
         ·simp only [Act.put, la_, lz_, ls_, i64_w, i32_w]
          rfl
         refine pure_ (i := 7) (N := some 75) (v := undef) (a' := ?_) #[T_, T_, T_, T_, T_, T_, T_, T_, F_, F_, F_, F_, F_, F_] rfl rfl (any_of HT_.out (by kernel_rfl)) (fun _ _ _ h => h) (Or.inr ⟨by rfl, rfl⟩) ?_ ?_
         rotate_left
         ·simp only [Act.put, la_, lz_, ls_, i64_w, i32_w]
          rfl
         refine pure_ (i := 8) (N := some 76) (v := undef) (a' := ?_) #[T_, T_, T_, T_, T_, T_, T_, T_, T_, F_, F_, F_, F_, F_] rfl rfl (any_of HT_.out (by kernel_rfl)) (fun _ _ _ h => h) (Or.inr ⟨by rfl, rfl⟩) ?_ ?_
         rotate_left
         ·simp only [Act.put, la_, lz_, ls_, i64_w, i32_w]
          rfl
         refine pure_ (i := 9) (N := some 77) (v := undef) (a' := ?_) #[T_, T_, T_, T_, T_, T_, T_, T_, T_, T_, F_, F_, F_, F_] rfl rfl (any_of HT_.out (by kernel_rfl)) (fun _ _ _ h => h) (Or.inr ⟨by rfl, rfl⟩) ?_ ?_
         rotate_left
         ·simp only [Act.put, la_, lz_, ls_, i64_w, i32_w]
          rfl
         refine pure_ (i := 10) (N := some 78) (v := undef) (a' := ?_) #[T_, T_, T_, T_, T_, T_, T_, T_, T_, T_, T_, F_, F_, F_] rfl rfl (any_of HT_.out (by kernel_rfl)) (fun _ _ _ h => h) (Or.inr ⟨by rfl, rfl⟩) ?_ ?_
         rotate_left
         ·simp only [Act.put, la_, lz_, ls_, i64_w, i32_w]
          rfl
         refine pure_ (i := 11) (N := some 79) (v := undef) (a' := ?_) #[T_, T_, T_, T_, T_, T_, T_, T_, T_, T_, T_, T_, F_, F_] rfl rfl (any_of HT_.out (by kernel_rfl)) (fun _ _ _ h => h) (Or.inr ⟨by rfl, rfl⟩) ?_ ?_
         rotate_left
         ·simp only [Act.put, la_, lz_, ls_, i64_w, i32_w]
          rfl
         refine pure_ (i := 12) (N := some 80) (v := undef) (a' := ?_) #[T_, T_, T_, T_, T_, T_, T_, T_, T_, T_, T_, T_, T_, F_] rfl rfl (any_of HT_.out (by kernel_rfl)) (fun _ _ _ h => h) (Or.inr ⟨by rfl, rfl⟩) ?_ ?_
         rotate_left
         ·simp only [Act.put, la_, lz_, ls_, i64_w, i32_w]
          rfl
         refine pure_ (i := 13) (N := some 81) (v := ?_) (a' := ?_) #[T_, T_, T_, T_, T_, T_, T_, T_, T_, T_, T_, T_, T_, T_] rfl rfl (any_of HT_.out (by kernel_rfl)) (fun _ _ _ h => h) (Or.inl ⟨by rfl, ?_⟩) ?_ ?_
         rotate_left
         ·intro w'
          go_simp
          with_reducible rfl
         rotate_left
         ·simp only [Act.put, la_, lz_, ls_, i64_w, i32_w]
          rfl
         refine done_ (done_of HT_.out (by kernel_rfl)) ?_
         have q9680 : (x11_3 : Int) ≤ ((x8_2.length : Int) : Int) := of_decide_eq_true (by first | (with_reducible assumption) | assumption)
         obtain ⟨i9720, hi9720, _, hsz9680, _⟩ := info_parts info68
         have hcut9680 := cut_from (P := Try.prog) 57 68 .i64 Try.underlying57 hi9720 2 hsz9680 Ao8480 x8_2.length co8480 x11_3 (of_decide_eq_true (by first | (with_reducible assumption) | assumption)) q9680
         have hr9680 := Kd.Q_drop (k := (x11_3 : Int).toNat) (Kd.Q_of_R HO_8.out) (by omega)
        rotate_left
       rotate_right 2
       ·obtain ⟨A91, hA91⟩ : ∃ A1, A1 = (if co8480 = (x11_3 : Int).toNat then Ao8480 else (Ao8480 : Option Addr).map (·.add ((x11_3 : Int).toNat * 2))) := ⟨_, rfl⟩
        obtain ⟨c91, hc91⟩ : ∃ c1, c1 = co8480 - (x11_3 : Int).toNat := ⟨_, rfl⟩
        have hy9680 : y192.length = x8_2.length - (x11_3 : Int).toNat := (by rw [Ny192.out, List.length_drop])
        rw [← Ny192.out] at hr9680
        rw [← hy9680, ← hA91, ← hc91] at hcut9680
        replace hr9680 : Kd.Q k68 68 w8560 w.heap.size (fun _ => True) (.slice A91 y192.length c91) y192 := (by rw [hA91, hc91, hy9680]; exact hr9680)
        have HE9680 : Aside0 ((Value.slice A91 y192.length c91).ownBlock = (.slice Ao8480 x8_2.length co8480 : Value).ownBlock) := ⟨by rw [hA91]; split <;> (cases (Ao8480 : Option Addr) <;> first | rfl | (simp only [Option.map_some, Value.ownBlock, Addr.add]; split <;> rfl))⟩
        clear hy9680 hi9720 hsz9680 HO_8 hA91 hc91
        have HO194 := mk_ hr9680
        clear hr9680
        replace q9680 := eq_true q9680
        have hnb2320162183 := NB183_162.out
        have hnc2320162183 := NB162_183.out
        have hnb2340163183 := NB183_163.out
        have hnc2340163183 := NB163_183.out
        obtain ⟨_, _, _, _, _, _, _, _⟩ := cells4_ BK183.out
        have hnb2370162163 := NB163_162.out
        have hnc2370162163 := NB162_163.out
        obtain ⟨_, _, _, _, _, _, _, _⟩ := cells4_ BK163.out
        try go_wp2
        refine bodyPost_ret (results_cell_row rfl _ _ gb163 59 #[.int .i64 0, .int .i64 0, .slice none 0 0, .slice none 0 0] (0, 0) _ rfl (by (with_reducible repeat (first | refine bn_ ?_ _ | refine bw_ ?_ | refine ba_ ?_ _)); refine blk_put (cs := #[.int .i64 0, .int .i64 0, .slice none 0 0, .slice none 0 0]) ?_ 3 _ rfl; (with_reducible repeat (first | refine bn_ ?_ _ | refine bw_ ?_ | refine ba_ ?_ _)); refine blk_put (cs := #[.int .i64 0, .int .i64 0, .slice none 0 0, .slice none 0 0]) ?_ 2 _ rfl; (with_reducible repeat (first | refine bn_ ?_ _ | refine bw_ ?_ | refine ba_ ?_ _)); refine blk_put (cs := #[.int .i64 0, .int .i64 0, .slice none 0 0, .slice none 0 0]) ?_ 1 _ rfl; (with_reducible repeat (first | refine bn_ ?_ _ | refine bw_ ?_ | refine ba_ ?_ _)); refine blk_put (cs := #[.int .i64 0, .int .i64 0, .slice none 0 0, .slice none 0 0]) ?_ 0 _ rfl; (with_reducible repeat (first | refine bn_ ?_ _ | refine bw_ ?_ | refine ba_ ?_ _)); refine blk_far ?_ NB163_183.out _; (with_reducible repeat (first | refine bn_ ?_ _ | refine bw_ ?_ | refine ba_ ?_ _)); exact BK163.out) Try.underlying59 rfl (by kernel_rfl)) rfl ?_
        exact ⟨_, _, by first | rfl | (simp [errW_none, errW_some] <;> rfl) | (simp [*, errW_none, errW_some] <;> rfl), by first | exact Kd.R_nil _ _ _ _ _ | exact Kd.N_nil _ _ _ _ _ | exact Kd.V_nil _ _ _ _ _ | exact Kd.Q_nil _ _ _ _ _ | exact Kd.S_nil _ _ _ _ _, Kd.Q_of_R (by first | exact Kd.R_nil _ _ _ _ _ | exact Kd.N_nil _ _ _ _ _ | exact Kd.V_nil _ _ _ _ _ | exact Kd.Q_nil _ _ _ _ _ | exact Kd.S_nil _ _ _ _ _), us_ HB.out⟩
       ·obtain ⟨A99, hA99⟩ : ∃ A1, A1 = (if co8480 = (x11_3 : Int).toNat then Ao8480 else (Ao8480 : Option Addr).map (·.add ((x11_3 : Int).toNat * 2))) := ⟨_, rfl⟩
        obtain ⟨c99, hc99⟩ : ∃ c1, c1 = co8480 - (x11_3 : Int).toNat := ⟨_, rfl⟩
        have hy9680 : y192.length = x8_2.length - (x11_3 : Int).toNat := (by rw [Ny192.out, List.length_drop])
        rw [← Ny192.out] at hr9680
        rw [← hy9680, ← hA99, ← hc99] at hcut9680
        replace hr9680 : Kd.Q k68 68 w8560 w.heap.size (fun _ => True) (.slice A99 y192.length c99) y192 := (by rw [hA99, hc99, hy9680]; exact hr9680)
        have HE9680 : Aside0 ((Value.slice A99 y192.length c99).ownBlock = (.slice Ao8480 x8_2.length co8480 : Value).ownBlock) := ⟨by rw [hA99]; split <;> (cases (Ao8480 : Option Addr) <;> first | rfl | (simp only [Option.map_some, Value.ownBlock, Addr.add]; split <;> rfl))⟩
        clear hy9680 hi9720 hsz9680 HO_8 hA99 hc99
        have HO194 := mk_ hr9680
        clear hr9680
        replace q9680 := eq_true q9680
        have hnb2320162183 := NB183_162.out
        have hnc2320162183 := NB162_183.out
        have hnb2340163183 := NB183_163.out
        have hnc2340163183 := NB163_183.out
        obtain ⟨_, _, _, _, _, _, _, _⟩ := cells4_ BK183.out
        have hnb2370162163 := NB163_162.out
        have hnc2370162163 := NB162_163.out
        obtain ⟨_, _, _, _, _, _, _, _⟩ := cells4_ BK163.out
        obtain ⟨Ao10600, co10600, eo10600⟩ := Kd.R_slice HO_184002.out
        subst eo10600
        try go_wp2
        refine bodyPost_ret (results_cell_row rfl _ _ gb163 59 #[.int .i64 x184000_3, .int .i64 a0_1, .slice Ao10600 x184002_3.length co10600, .slice A99 y192.length c99] (0, 0) _ rfl (by (with_reducible repeat (first | refine bn_ ?_ _ | refine bw_ ?_ | refine ba_ ?_ _)); refine blk_put (cs := #[.int .i64 x184000_3, .int .i64 a0_1, .slice Ao10600 x184002_3.length co10600, .slice none 0 0]) ?_ 3 _ rfl; (with_reducible repeat (first | refine bn_ ?_ _ | refine bw_ ?_ | refine ba_ ?_ _)); refine blk_put (cs := #[.int .i64 x184000_3, .int .i64 a0_1, .slice none 0 0, .slice none 0 0]) ?_ 2 _ rfl; (with_reducible repeat (first | refine bn_ ?_ _ | refine bw_ ?_ | refine ba_ ?_ _)); refine blk_put (cs := #[.int .i64 x184000_3, .int .i64 0, .slice none 0 0, .slice none 0 0]) ?_ 1 _ rfl; (with_reducible repeat (first | refine bn_ ?_ _ | refine bw_ ?_ | refine ba_ ?_ _)); refine blk_put (cs := #[.int .i64 0, .int .i64 0, .slice none 0 0, .slice none 0 0]) ?_ 0 _ rfl; (with_reducible repeat (first | refine bn_ ?_ _ | refine bw_ ?_ | refine ba_ ?_ _)); refine blk_far ?_ NB163_183.out _; (with_reducible repeat (first | refine bn_ ?_ _ | refine bw_ ?_ | refine ba_ ?_ _)); exact BK163.out) Try.underlying59 rfl (by kernel_rfl)) rfl ?_
        exact ⟨_, _, by first | rfl | (simp [errW_none, errW_some] <;> rfl) | (simp [*, errW_none, errW_some] <;> rfl), by (with_reducible repeat (first | apply Kd.R_alloc | apply Kd.R_drewN | apply Kd.R_drew)); exact Kd.R_mono (Kd.R_far (p := ⟨gb163, 3, none⟩) (Kd.R_far (p := ⟨gb163, 2, none⟩) (Kd.R_far (p := ⟨gb163, 1, none⟩) (Kd.R_far (p := ⟨gb163, 0, none⟩) (Kd.R_far (p := ⟨gb183, 3, none⟩) (Kd.R_types (Kd.R_types HO_184002.out BK183.out (by decide)) BK163.out (by decide)) (fun _ hk => hk.1.2) (.slice A99 y192.length c99)) (fun _ hk => hk.2) (.int .i64 x184000_3)) (fun _ hk => hk.2) (.int .i64 a0_1)) (fun _ hk => hk.2) (.slice Ao10600 x184002_3.length co10600)) (fun _ hk => hk.2) (.slice A99 y192.length c99)) (fun _ hk => trivial), by (with_reducible repeat (first | apply Kd.Q_alloc | apply Kd.Q_drewN | apply Kd.Q_drew)); exact Kd.Q_mono (Kd.Q_far (p := ⟨gb163, 3, none⟩) (Kd.Q_far (p := ⟨gb163, 2, none⟩) (Kd.Q_far (p := ⟨gb163, 1, none⟩) (Kd.Q_far (p := ⟨gb163, 0, none⟩) (Kd.Q_far (p := ⟨gb183, 3, none⟩) (Kd.Q_types (Kd.Q_types HO194.out BK183.out (by decide)) BK163.out (by decide)) (fun _ hk => hk.1.2) (.slice A99 y192.length c99)) (fun _ hk => hk.2) (.int .i64 x184000_3)) (fun _ hk => hk.2) (.int .i64 a0_1)) (fun _ hk => hk.2) (.slice Ao10600 x184002_3.length co10600)) (fun _ hk => hk.2) (.slice A99 y192.length c99)) (fun _ hk => trivial), us_ HB.out⟩
       all_goals
        have p10680 : 0 ≤ (x11_3 : Int) := of_decide_eq_true (by first | (with_reducible assumption) | assumption)
        have q10680 : x11_3 < (x8_2.length : Int) := of_decide_eq_true (by first | (with_reducible assumption) | assumption)
        obtain ⟨ad10680, e10680, hx184_0, hx184_1⟩ := at_T68 (Kd.R_reads' HO_8.out).2.2 x11_3 p10680 q10680
        cases e10680
        replace p10680 := eq_true p10680
        replace q10680 := eq_true q10680
        refine start_ (n := 14) (S := fun w' => w'.cell? ⟨gb183, 0, none⟩ = some (.int .i64 x184000_3) ∧ w'.cell? ⟨gb183, 1, none⟩ = some (.int .i64 a0_1) ∧ w'.cell? ⟨gb183, 2, none⟩ = some (u184002) ∧ w'.cell? ⟨gb183, 3, none⟩ = some (.slice none 0 0) ∧ w'.cell? (ad10680.add ((x11_3).toNat * 2)) = some (.int .i64 ((rd_T68 x8_2 x11_3).f0)) ∧ w'.cell? ⟨(ad10680.add ((x11_3).toNat * 2)).block, (ad10680.add ((x11_3).toNat * 2)).off + 1, none⟩ = some (.int .u8 ((rd_T68 x8_2 x11_3).f1))) (ds := []) #[F_, F_, F_, F_, F_, F_, F_, F_, F_, F_, F_, F_, F_, F_] (by kernel_rfl) rfl rfl ⟨(blk_cell BK183.out 0).trans rfl, (blk_cell BK183.out 1).trans rfl, (blk_cell BK183.out 2).trans rfl, (blk_cell BK183.out 3).trans rfl, hx184_0, hx184_1⟩ (fun hHeld => ?_); refine with_tabW spec_EarHear.tab12 spec_EarHear.bits12 (fun HT_ HW_ => ?_)
        generalize wr.drew = w8560 at HO_8 HO_184002 BK162 BK163 BK183 HB hx184_0 hx184_1 hHeld ⊢
        refine pure_ (i := 0) (N := some 68) (v := ?_) (a' := ?_) #[T_, F_, F_, F_, F_, F_, F_, F_, F_, F_, F_, F_, F_, F_] rfl rfl (any_of HT_.out (by kernel_rfl)) (fun _ _ _ h => h) (Or.inl ⟨by rfl, ?_⟩) ?_ ?_
        rotate_left
        ·intro w'
         go_simp
         with_reducible rfl
        rotate_left
        ·simp only [Act.put, la_, lz_, ls_, i64_w, i32_w]
         rfl
        refine pure_ (i := 1) (N := some 69) (v := ?_) (a' := ?_) #[T_, T_, F_, F_, F_, F_, F_, F_, F_, F_, F_, F_, F_, F_] rfl rfl (any_of HT_.out (by kernel_rfl)) (fun _ _ _ h => h) (Or.inl ⟨by rfl, ?_⟩) ?_ ?_
        rotate_left
        ·intro w'
         go_simp
         with_reducible rfl
        rotate_left
        ·simp only [Act.put, la_, lz_, ls_, i64_w, i32_w]
         rfl
        refine pure_ (i := 2) (N := some 70) (v := ?_) (a' := ?_) #[T_, T_, T_, F_, F_, F_, F_, F_, F_, F_, F_, F_, F_, F_] rfl rfl (any_of HT_.out (by kernel_rfl)) (fun _ _ _ h => h) (Or.inl ⟨by rfl, ?_⟩) ?_ ?_
        rotate_left
        ·intro w'
         go_simp
         with_reducible rfl
        rotate_left
        ·simp only [Act.put, la_, lz_, ls_, i64_w, i32_w]
         rfl
        refine pure_ (i := 3) (N := some 71) (v := ?_) (a' := ?_) #[T_, T_, T_, T_, F_, F_, F_, F_, F_, F_, F_, F_, F_, F_] rfl rfl (any_of HT_.out (by kernel_rfl)) (fun _ _ _ h => h) (Or.inl ⟨by rfl, ?_⟩) ?_ ?_
        rotate_left
        ·intro w'
         go_simp
         with_reducible rfl
        rotate_left
        ·simp only [Act.put, la_, lz_, ls_, i64_w, i32_w]
         rfl
        refine pure_ (i := 4) (N := some 72) (v := ?_) (a' := ?_) #[T_, T_, T_, T_, T_, F_, F_, F_, F_, F_, F_, F_, F_, F_] rfl rfl (any_of HT_.out (by kernel_rfl)) (fun _ _ _ h => h) (Or.inl ⟨by rfl, ?_⟩) ?_ ?_
        rotate_left
        ·intro w'
         go_simp
         with_reducible rfl
        rotate_left
        ·simp only [Act.put, la_, lz_, ls_, i64_w, i32_w]
         rfl
        refine pure_ (i := 5) (N := some 73) (v := ?_) (a' := ?_) #[T_, T_, T_, T_, T_, T_, F_, F_, F_, F_, F_, F_, F_, F_] rfl rfl (any_of HT_.out (by kernel_rfl)) (fun _ _ _ h => h) (Or.inl ⟨by rfl, ?_⟩) ?_ ?_
        rotate_left
        ·intro w'
         go_simp
         with_reducible rfl
        rotate_left
        ·simp only [Act.put, la_, lz_, ls_, i64_w, i32_w]
         rfl
        refine pure_ (i := 6) (N := some 74) (v := ?_) (a' := ?_) #[T_, T_, T_, T_, T_, T_, T_, F_, F_, F_, F_, F_, F_, F_] rfl rfl (any_of HT_.out (by kernel_rfl)) (fun _ _ _ h => h) (Or.inl ⟨by rfl, ?_⟩) ?_ ?_
        rotate_left
        ·intro w'
         go_simp
         with_reducible rfl
        rotate_left
        ·simp only [Act.put, la_, lz_, ls_, i64_w, i32_w]
         rfl
        refine pure_ (i := 7) (N := some 75) (v := ?_) (a' := ?_) #[T_, T_, T_, T_, T_, T_, T_, T_, F_, F_, F_, F_, F_, F_] rfl rfl (any_of HT_.out (by kernel_rfl)) (fun _ _ _ h => h) (Or.inl ⟨by rfl, ?_⟩) ?_ ?_
        rotate_left
        ·intro w'
         go_simp
         with_reducible rfl
        rotate_left
        ·simp only [Act.put, la_, lz_, ls_, i64_w, i32_w]
         rfl
        refine pure_ (i := 8) (N := some 76) (v := ?_) (a' := ?_) #[T_, T_, T_, T_, T_, T_, T_, T_, T_, F_, F_, F_, F_, F_] rfl rfl (any_of HT_.out (by kernel_rfl)) (fun _ _ _ h => h) (Or.inl ⟨by rfl, ?_⟩) ?_ ?_
        rotate_left
        ·intro w'
         go_simp
         with_reducible rfl
        rotate_left
        ·simp only [Act.put, la_, lz_, ls_, i64_w, i32_w]
         rfl
        refine pure_ (i := 10) (N := some 78) (v := ?_) (a' := ?_) #[T_, T_, T_, T_, T_, T_, T_, T_, T_, F_, T_, F_, F_, F_] rfl rfl (any_of HT_.out (by kernel_rfl)) (fun _ _ _ h => h) (Or.inl ⟨by rfl, ?_⟩) ?_ ?_
        rotate_left
        ·intro w'
         go_simp
         with_reducible rfl
        rotate_left
        ·simp only [Act.put, la_, lz_, ls_, i64_w, i32_w]
         rfl
        refine take_ (i := 9) (N := some 77) (v := ?_) (a' := ?_) #[T_, T_, T_, T_, T_, T_, T_, T_, T_, T_, T_, F_, F_, F_] rfl rfl (take_ofW HT_.out HW_.out (by kernel_rfl)) (fun _ _ _ h => h) (Or.inl ⟨by rfl, ?_⟩) hHeld ?_ ?_
        rotate_left
        ·rintro w' ⟨s0, s1, s2, s3, s11240, s11241⟩
         go_simp
         with_reducible rfl
        rotate_left
        ·simp only [Act.put, la_, lz_, ls_, i64_w, i32_w]
         rfl
        refine take_ (i := 11) (N := some 79) (v := ?_) (a' := ?_) #[T_, T_, T_, T_, T_, T_, T_, T_, T_, T_, T_, T_, F_, F_] rfl rfl (take_ofW HT_.out HW_.out (by kernel_rfl)) (fun _ _ _ h => h) (Or.inl ⟨by rfl, ?_⟩) hHeld ?_ ?_
        rotate_left
        ·rintro w' ⟨s0, s1, s2, s3, s11240, s11241⟩
         go_simp
         with_reducible rfl
        rotate_left
        ·simp only [Act.put, la_, lz_, ls_, i64_w, i32_w]
         rfl
        refine pure_ (i := 12) (N := some 80) (v := ?_) (a' := ?_) #[T_, T_, T_, T_, T_, T_, T_, T_, T_, T_, T_, T_, T_, F_] rfl rfl (any_of HT_.out (by kernel_rfl)) (fun _ _ _ h => h) (Or.inl ⟨by rfl, ?_⟩) ?_ ?_
        rotate_left
        ·intro w'
         go_simp
         with_reducible rfl
        rotate_left
        ·simp only [Act.put, la_, lz_, ls_, i64_w, i32_w]
         rfl
        refine pure_ (i := 13) (N := some 81) (v := ?_) (a' := ?_) #[T_, T_, T_, T_, T_, T_, T_, T_, T_, T_, T_, T_, T_, T_] rfl rfl (any_of HT_.out (by kernel_rfl)) (fun _ _ _ h => h) (Or.inl ⟨by rfl, ?_⟩) ?_ ?_
        rotate_left
        ·intro w'
         go_simp
         with_reducible rfl
        rotate_left
        ·simp only [Act.put, la_, lz_, ls_, i64_w, i32_w]
         rfl
        refine done_ (done_of HT_.out (by kernel_rfl)) ?_
       ·try go_wp2
        have n0_ := mk_ (Kd.R_drew HO_8.out)
        have n1_ := mk_ (Kd.R_drew HO_184002.out)
        have n2_ := mk_ (blk_drew BK162.out)
        have n3_ := mk_ (blk_drew BK163.out)
        have n4_ := mk_ (blk_drew BK183.out)
        have n5_ := mk_ (below_drew1 HB.out)
        clear HO_8
        clear HO_184002
        clear BK162
        clear BK163
        clear BK183
        clear HB
        have HO_8 := n0_
        have HO_184002 := n1_
        have BK162 := n2_
        have BK163 := n3_
        have BK183 := n4_
        have HB := n5_
        clear n0_ n1_ n2_ n3_ n4_ n5_
        have p12360 : 0 ≤ (x11_3 : Int) := of_decide_eq_true (by first | (with_reducible assumption) | assumption)
        have q12360 : x11_3 < (x8_2.length : Int) := of_decide_eq_true (by first | (with_reducible assumption) | assumption)
        obtain ⟨ad12360, e12360, hx185_0, hx185_1⟩ := at_T68 (Kd.R_reads' HO_8.out).2.2 x11_3 p12360 q12360
        obtain rfl : ad10680 = ad12360 := (by injection e12360)
        replace p12360 := eq_true p12360
        replace q12360 := eq_true q12360
        refine start_ (n := 11) (S := fun w' => w'.cell? ⟨gb183, 0, none⟩ = some (.int .i64 x184000_3) ∧ w'.cell? ⟨gb183, 1, none⟩ = some (.int .i64 a0_1) ∧ w'.cell? ⟨gb183, 2, none⟩ = some (u184002) ∧ w'.cell? ⟨gb183, 3, none⟩ = some (.slice none 0 0) ∧ w'.cell? (ad10680.add ((x11_3).toNat * 2)) = some (.int .i64 ((rd_T68 x8_2 x11_3).f0)) ∧ w'.cell? ⟨(ad10680.add ((x11_3).toNat * 2)).block, (ad10680.add ((x11_3).toNat * 2)).off + 1, none⟩ = some (.int .u8 ((rd_T68 x8_2 x11_3).f1))) (ds := [8, 10]) #[F_, F_, F_, F_, F_, F_, F_, F_, F_, F_, F_] (by kernel_rfl) rfl rfl ⟨(blk_cell BK183.out 0).trans rfl, (blk_cell BK183.out 1).trans rfl, (blk_cell BK183.out 2).trans rfl, (blk_cell BK183.out 3).trans rfl, hx185_0, hx185_1⟩ (fun hHeld => ?_); refine with_tabW spec_EarHear.tab13 spec_EarHear.bits13 (fun HT_ HW_ => ?_)
        generalize w8560.drew = w12640 at HO_8 HO_184002 BK162 BK163 BK183 HB hx185_0 hx185_1 hHeld ⊢
        refine pure_ (i := 0) (N := some 82) (v := ?_) (a' := ?_) #[T_, F_, F_, F_, F_, F_, F_, F_, F_, F_, F_] rfl rfl (any_of HT_.out (by kernel_rfl)) (fun _ _ _ h => h) (Or.inl ⟨by rfl, ?_⟩) ?_ ?_
        rotate_left
        ·intro w'
         go_simp
         with_reducible rfl
        rotate_left
        ·simp only [Act.put, la_, lz_, ls_, i64_w, i32_w]
         rfl
        refine pure_ (i := 2) (N := some 84) (v := ?_) (a' := ?_) #[T_, F_, T_, F_, F_, F_, F_, F_, F_, F_, F_] rfl rfl (any_of HT_.out (by kernel_rfl)) (fun _ _ _ h => h) (Or.inl ⟨by rfl, ?_⟩) ?_ ?_
        rotate_left
        ·intro w'
         go_simp
         with_reducible rfl
        rotate_left
        ·simp only [Act.put, la_, lz_, ls_, i64_w, i32_w]
         rfl
        refine pure_ (i := 3) (N := some 85) (v := ?_) (a' := ?_) #[T_, F_, T_, T_, F_, F_, F_, F_, F_, F_, F_] rfl rfl (any_of HT_.out (by kernel_rfl)) (fun _ _ _ h => h) (Or.inl ⟨by rfl, ?_⟩) ?_ ?_
        rotate_left
        ·intro w'
         go_simp
         with_reducible rfl
        rotate_left
        ·simp only [Act.put, la_, lz_, ls_, i64_w, i32_w]
         rfl
        refine pure_ (i := 4) (N := some 86) (v := ?_) (a' := ?_) #[T_, F_, T_, T_, T_, F_, F_, F_, F_, F_, F_] rfl rfl (any_of HT_.out (by kernel_rfl)) (fun _ _ _ h => h) (Or.inl ⟨by rfl, ?_⟩) ?_ ?_
        rotate_left
        ·intro w'
         go_simp
         with_reducible rfl
        rotate_left
        ·simp only [Act.put, la_, lz_, ls_, i64_w, i32_w]
         rfl
        refine pure_ (i := 5) (N := some 87) (v := ?_) (a' := ?_) #[T_, F_, T_, T_, T_, T_, F_, F_, F_, F_, F_] rfl rfl (any_of HT_.out (by kernel_rfl)) (fun _ _ _ h => h) (Or.inl ⟨by rfl, ?_⟩) ?_ ?_
        rotate_left
        ·intro w'
         go_simp
         with_reducible rfl
        rotate_left
        ·simp only [Act.put, la_, lz_, ls_, i64_w, i32_w]
         rfl
        refine take_ (i := 1) (N := some 83) (v := ?_) (a' := ?_) #[T_, T_, T_, T_, T_, T_, F_, F_, F_, F_, F_] rfl rfl (take_ofW HT_.out HW_.out (by kernel_rfl)) (fun _ _ _ h => h) (Or.inl ⟨by rfl, ?_⟩) hHeld ?_ ?_
        rotate_left
        ·rintro w' ⟨s0, s1, s2, s3, s11240, s11241⟩
         go_simp
         with_reducible rfl
        rotate_left
        ·simp only [Act.put, la_, lz_, ls_, i64_w, i32_w]
         rfl
        refine take_ (i := 6) (N := some 88) (v := ?_) (a' := ?_) #[T_, T_, T_, T_, T_, T_, T_, F_, F_, F_, F_] rfl rfl (take_ofW HT_.out HW_.out (by kernel_rfl)) (fun _ _ _ h => h) (Or.inl ⟨by rfl, ?_⟩) hHeld ?_ ?_
        rotate_left
        ·rintro w' ⟨s0, s1, s2, s3, s11240, s11241⟩
         go_simp
         with_reducible rfl
        rotate_left
        ·simp only [Act.put, la_, lz_, ls_, i64_w, i32_w]
         rfl
        refine one_ (i := 7) (N := some 89) #[T_, T_, T_, T_, T_, T_, T_, T_, F_, F_, F_] rfl rfl (one_of HT_.out (by kernel_rfl)) (by decide) (fun K hK => ?_)
        refine value_ (w1 := ?_) (v := ?_) (by rfl) rfl ?_ ?_
        rotate_left 2
        ·go_simp
         constructor
         ·rfl
         rfl
        refine hK.out _ _ ⟨(blk_cell (blk_alloc BK183.out _) 0).trans rfl, (blk_cell (blk_alloc BK183.out _) 1).trans rfl, (blk_cell (blk_alloc BK183.out _) 2).trans rfl, (blk_cell (blk_alloc BK183.out _) 3).trans rfl, (World.cell?_alloc_lt _ _ _ (lc_ _ _ (hHeld.2.2.2.2.1))).trans (hHeld.2.2.2.2.1), (World.cell?_alloc_lt _ _ _ (lc_ _ _ (hHeld.2.2.2.2.2))).trans (hHeld.2.2.2.2.2)⟩ (fun hHeld => ?_)
        clear hK K
        refine norm_ (a' := ?_) ?_ ?_
        rotate_left
        ·show Act.put _ (some 89) _ = _
         simp only [Act.put, la_, lz_, ls_, i64_w, i32_w]
         rfl
        refine last_ (i := 8) (N := some 90) #[T_, T_, T_, T_, T_, T_, T_, T_, T_, F_, F_] rfl rfl (one_of HT_.out (by kernel_rfl)) (by decide) (fun K hK => ?_)
        refine Kd.R_append_step (Kd.int .u8) (w0 := w) w.heap.size (by rfl) (.tmp 83) (.tmp 89) 22 5 (.int .u8 0) 1 rfl Try.underlying22 info5 rfl (by decide) (by omega) u184002 x184002_3 ((rd_T68 x8_2 x11_3).f1) [.int .u8 ((rd_T68 x8_2 x11_3).f1)] (fun _ => True) (fun _ => False) rfl rfl ?aP (fun _ hk => hk.elim) ?aF ?aO ?aB ?aS ?aL ?_
        (case aP => exact rfl)
        (case aB => exact (us_ HB.out))
        (case aF => exact (fun _ _ => trivial))
        (case aO => exact (Kd.ur_ HO_184002.out))
        (case aS => exact (below_size (us_ HB.out)))
        (case aL => have := LMc57.out; omega)
        intro v14600 w14601 ho hb hg hat
        rw [← Ny186.out] at ho
        have n0_ := mk_ (Kd.R_over' (Kd.ur_ HO_8.out) (Kd.R_typed (Kd.ur_ HO_184002.out)) (by decide) hg)
        have n1_ := mk_ (blk_grown (g := gb162) (o := .cells #[.int .i64 a0_0, .int .i64 a0_1, .slice A0_2 l0_2.length c0_2, .slice A0_3 l0_3.length c0_3] 59 (0, 0)) (u_ BK162.out) hg (Kd.R_ne HO_184002.out BK162.out (by decide)))
        have n2_ := mk_ (blk_grown (g := gb163) (o := .cells #[.int .i64 0, .int .i64 0, .slice none 0 0, .slice none 0 0] 59 (0, 0)) (u_ BK163.out) hg (Kd.R_ne HO_184002.out BK163.out (by decide)))
        have n3_ := mk_ (blk_grown (g := gb183) (o := .cells #[.int .i64 x184000_3, .int .i64 a0_1, u184002, .slice none 0 0] 59 (0, 0)) (u_ BK183.out) hg (Kd.R_ne HO_184002.out BK183.out (by decide)))
        have n4_ := mk_ (hb)
        have n5_ := mk_ (ho)
        clear HO_8
        clear BK162
        clear BK163
        clear BK183
        clear HB
        clear HO_184002
        have HO_8 := n0_
        have BK162 := n1_
        have BK163 := n2_
        have BK183 := n3_
        have HB := n4_
        have HO188 := n5_
        clear n0_ n1_ n2_ n3_ n4_ n5_
        clear ho hb hg hat
        obtain ⟨Ao1450188, co1450188, eo1450188⟩ := Kd.R_slice HO188.out
        (first | subst eo1450188 | (injection eo1450188 with f1_ f2_ f3_; have f4_ := f1_.symm; have f5_ := f3_.symm; clear f1_ f2_ f3_; subst f4_; subst f5_))
        refine hK.out _ _ ?_
        clear hK K
        refine norm_ (a' := ?_) ?_ ?_
        rotate_left
        ·show Act.put _ (some 90) _ = _
         simp only [Act.put, la_, lz_, ls_, i64_w, i32_w]
         rfl
        refine pure_ (i := 9) (N := some 91) (v := ?_) (a' := ?_) #[T_, T_, T_, T_, T_, T_, T_, T_, T_, T_, F_] rfl rfl (any_of HT_.out (by kernel_rfl)) (fun _ _ _ h => h) (Or.inl ⟨by rfl, ?_⟩) ?_ ?_
        rotate_left
        ·intro w'
         go_simp
         with_reducible rfl
        rotate_left
        ·simp only [Act.put, la_, lz_, ls_, i64_w, i32_w]
         rfl
        refine last_ (i := 10) (N := none) #[T_, T_, T_, T_, T_, T_, T_, T_, T_, T_, T_] rfl rfl (one_of HT_.out (by kernel_rfl)) (by decide) (fun K hK => ?_)
        have hs15920 : w14601.cell? ⟨gb183, 2, none⟩ = some (u184002) := (blk_cell BK183.out 2).trans rfl
        have hfs15920 := blk_frozen BK183.out 2
        have hns15920_0 := NB162_183.out
        have hns15920_1 := NB163_183.out
        have hms15920_0 := NB183_162.out
        have hms15920_1 := NB183_163.out
        refine skip_ (w1 := ?_) (by rfl) rfl ?_ ?_
        rotate_left
        ·go_simp
         rfl
        refine hK.out _ _ ?_
        clear hK K
        refine done_ (done_of HT_.out (by kernel_rfl)) ?_
        have hnb2320162183 := NB183_162.out
        have hnc2320162183 := NB162_183.out
        have hnb2340163183 := NB183_163.out
        have hnc2340163183 := NB163_183.out
        obtain ⟨_, _, _, _, _, _, _, _⟩ := cells4_ BK183.out
        try go_wp2
        go_roundg k3
        case measure => have := HJ3.out; have := HK2.out; have := HK3.out; omega
        case rel => exact ⟨(wrap64 (x11_3 + 1)), (wrap64 (x184000_3 + 1)), (y186), (.slice Ao1450188 y186.length co1450188), (by first | rfl | (simp; done) | (simp [*]; done)), H', ⟨by have := HJ3.out; have := HK2.out; have := HK3.out; omega⟩, ⟨by (with_reducible repeat (first | apply Kd.R_alloc | apply Kd.R_drewN | apply Kd.R_drew)); exact Kd.R_mono (Kd.R_far (p := ⟨gb183, 0, none⟩) (Kd.R_far (p := ⟨gb183, 2, none⟩) (Kd.R_types HO_8.out BK183.out (by decide)) (fun _ hk => hk.2) (.slice Ao1450188 y186.length co1450188)) (fun _ hk => hk.2) (.int .i64 (wrap64 (x184000_3 + 1)))) (fun _ hk => trivial)⟩, ⟨by (with_reducible repeat (first | apply Kd.R_alloc | apply Kd.R_drewN | apply Kd.R_drew)); exact Kd.R_mono (Kd.R_far (p := ⟨gb183, 0, none⟩) (Kd.R_far (p := ⟨gb183, 2, none⟩) (Kd.R_types HO188.out BK183.out (by decide)) (fun _ hk => hk.2) (.slice Ao1450188 y186.length co1450188)) (fun _ hk => hk.2) (.int .i64 (wrap64 (x184000_3 + 1)))) (fun _ hk => trivial)⟩, ⟨uf_ BK162.out⟩, ⟨uf_ BK163.out⟩, ⟨by (with_reducible repeat (first | refine bn_ ?_ _ | refine bw_ ?_ | refine ba_ ?_ _)); refine blk_put (cs := #[.int .i64 x184000_3, .int .i64 a0_1, .slice Ao1450188 y186.length co1450188, .slice none 0 0]) ?_ 0 _ rfl; (with_reducible repeat (first | refine bn_ ?_ _ | refine bw_ ?_ | refine ba_ ?_ _)); refine blk_put (cs := #[.int .i64 x184000_3, .int .i64 a0_1, u184002, .slice none 0 0]) ?_ 2 _ rfl; (with_reducible repeat (first | refine bn_ ?_ _ | refine bw_ ?_ | refine ba_ ?_ _)); exact BK183.out⟩, ⟨us_ HB.out⟩⟩
       all_goals
        have q9680 : (x11_3 : Int) ≤ ((x8_2.length : Int) : Int) := of_decide_eq_true (by first | (with_reducible assumption) | assumption)
        obtain ⟨i9720, hi9720, _, hsz9680, _⟩ := info_parts info68
        have hcut9680 := cut_from (P := Try.prog) 57 68 .i64 Try.underlying57 hi9720 2 hsz9680 (some ad10680) x8_2.length co8480 x11_3 (of_decide_eq_true (by first | (with_reducible assumption) | assumption)) q9680
        have hr9680 := Kd.Q_drop (k := (x11_3 : Int).toNat) (Kd.Q_of_R HO_8.out) (by omega)
       ·obtain ⟨A71, hA71⟩ : ∃ A1, A1 = (if co8480 = (x11_3 : Int).toNat then (some ad10680) else ((some ad10680) : Option Addr).map (·.add ((x11_3 : Int).toNat * 2))) := ⟨_, rfl⟩
        obtain ⟨c71, hc71⟩ : ∃ c1, c1 = co8480 - (x11_3 : Int).toNat := ⟨_, rfl⟩
        have hy9680 : y189.length = x8_2.length - (x11_3 : Int).toNat := (by rw [Ny189.out, List.length_drop])
        rw [← Ny189.out] at hr9680
        rw [← hy9680, ← hA71, ← hc71] at hcut9680
        replace hr9680 : Kd.Q k68 68 w8560 w.heap.size (fun _ => True) (.slice A71 y189.length c71) y189 := (by rw [hA71, hc71, hy9680]; exact hr9680)
        have HE9680 : Aside0 ((Value.slice A71 y189.length c71).ownBlock = (.slice (some ad10680) x8_2.length co8480 : Value).ownBlock) := ⟨by rw [hA71]; split <;> (cases ((some ad10680) : Option Addr) <;> first | rfl | (simp only [Option.map_some, Value.ownBlock, Addr.add]; split <;> rfl))⟩
        clear hy9680 hi9720 hsz9680 HO_8 hA71 hc71
        have HO191 := mk_ hr9680
        clear hr9680
        replace q9680 := eq_true q9680
        have hnb2320162183 := NB183_162.out
        have hnc2320162183 := NB162_183.out
        have hnb2340163183 := NB183_163.out
        have hnc2340163183 := NB163_183.out
        obtain ⟨_, _, _, _, _, _, _, _⟩ := cells4_ BK183.out
        have hnb2370162163 := NB163_162.out
        have hnc2370162163 := NB162_163.out
        obtain ⟨_, _, _, _, _, _, _, _⟩ := cells4_ BK163.out
        try go_wp2
        refine bodyPost_ret (results_cell_row rfl _ _ gb163 59 #[.int .i64 0, .int .i64 0, .slice none 0 0, .slice none 0 0] (0, 0) _ rfl (by (with_reducible repeat (first | refine bn_ ?_ _ | refine bw_ ?_ | refine ba_ ?_ _)); refine blk_put (cs := #[.int .i64 0, .int .i64 0, .slice none 0 0, .slice none 0 0]) ?_ 3 _ rfl; (with_reducible repeat (first | refine bn_ ?_ _ | refine bw_ ?_ | refine ba_ ?_ _)); refine blk_put (cs := #[.int .i64 0, .int .i64 0, .slice none 0 0, .slice none 0 0]) ?_ 2 _ rfl; (with_reducible repeat (first | refine bn_ ?_ _ | refine bw_ ?_ | refine ba_ ?_ _)); refine blk_put (cs := #[.int .i64 0, .int .i64 0, .slice none 0 0, .slice none 0 0]) ?_ 1 _ rfl; (with_reducible repeat (first | refine bn_ ?_ _ | refine bw_ ?_ | refine ba_ ?_ _)); refine blk_put (cs := #[.int .i64 0, .int .i64 0, .slice none 0 0, .slice none 0 0]) ?_ 0 _ rfl; (with_reducible repeat (first | refine bn_ ?_ _ | refine bw_ ?_ | refine ba_ ?_ _)); refine blk_far ?_ NB163_183.out _; (with_reducible repeat (first | refine bn_ ?_ _ | refine bw_ ?_ | refine ba_ ?_ _)); exact BK163.out) Try.underlying59 rfl (by kernel_rfl)) rfl ?_
        exact ⟨_, _, by first | rfl | (simp [errW_none, errW_some] <;> rfl) | (simp [*, errW_none, errW_some] <;> rfl), by first | exact Kd.R_nil _ _ _ _ _ | exact Kd.N_nil _ _ _ _ _ | exact Kd.V_nil _ _ _ _ _ | exact Kd.Q_nil _ _ _ _ _ | exact Kd.S_nil _ _ _ _ _, Kd.Q_of_R (by first | exact Kd.R_nil _ _ _ _ _ | exact Kd.N_nil _ _ _ _ _ | exact Kd.V_nil _ _ _ _ _ | exact Kd.Q_nil _ _ _ _ _ | exact Kd.S_nil _ _ _ _ _), us_ HB.out⟩
       ·obtain ⟨A79, hA79⟩ : ∃ A1, A1 = (if co8480 = (x11_3 : Int).toNat then (some ad10680) else ((some ad10680) : Option Addr).map (·.add ((x11_3 : Int).toNat * 2))) := ⟨_, rfl⟩
        obtain ⟨c79, hc79⟩ : ∃ c1, c1 = co8480 - (x11_3 : Int).toNat := ⟨_, rfl⟩
        have hy9680 : y189.length = x8_2.length - (x11_3 : Int).toNat := (by rw [Ny189.out, List.length_drop])
        rw [← Ny189.out] at hr9680
        rw [← hy9680, ← hA79, ← hc79] at hcut9680
        replace hr9680 : Kd.Q k68 68 w8560 w.heap.size (fun _ => True) (.slice A79 y189.length c79) y189 := (by rw [hA79, hc79, hy9680]; exact hr9680)
        have HE9680 : Aside0 ((Value.slice A79 y189.length c79).ownBlock = (.slice (some ad10680) x8_2.length co8480 : Value).ownBlock) := ⟨by rw [hA79]; split <;> (cases ((some ad10680) : Option Addr) <;> first | rfl | (simp only [Option.map_some, Value.ownBlock, Addr.add]; split <;> rfl))⟩
        clear hy9680 hi9720 hsz9680 HO_8 hA79 hc79
        have HO191 := mk_ hr9680
        clear hr9680
        replace q9680 := eq_true q9680
        have hnb2320162183 := NB183_162.out
        have hnc2320162183 := NB162_183.out
        have hnb2340163183 := NB183_163.out
        have hnc2340163183 := NB163_183.out
        obtain ⟨_, _, _, _, _, _, _, _⟩ := cells4_ BK183.out
        have hnb2370162163 := NB163_162.out
        have hnc2370162163 := NB162_163.out
        obtain ⟨_, _, _, _, _, _, _, _⟩ := cells4_ BK163.out
        obtain ⟨Ao10600, co10600, eo10600⟩ := Kd.R_slice HO_184002.out
        subst eo10600
        try go_wp2
        refine bodyPost_ret (results_cell_row rfl _ _ gb163 59 #[.int .i64 x184000_3, .int .i64 a0_1, .slice Ao10600 x184002_3.length co10600, .slice A79 y189.length c79] (0, 0) _ rfl (by (with_reducible repeat (first | refine bn_ ?_ _ | refine bw_ ?_ | refine ba_ ?_ _)); refine blk_put (cs := #[.int .i64 x184000_3, .int .i64 a0_1, .slice Ao10600 x184002_3.length co10600, .slice none 0 0]) ?_ 3 _ rfl; (with_reducible repeat (first | refine bn_ ?_ _ | refine bw_ ?_ | refine ba_ ?_ _)); refine blk_put (cs := #[.int .i64 x184000_3, .int .i64 a0_1, .slice none 0 0, .slice none 0 0]) ?_ 2 _ rfl; (with_reducible repeat (first | refine bn_ ?_ _ | refine bw_ ?_ | refine ba_ ?_ _)); refine blk_put (cs := #[.int .i64 x184000_3, .int .i64 0, .slice none 0 0, .slice none 0 0]) ?_ 1 _ rfl; (with_reducible repeat (first | refine bn_ ?_ _ | refine bw_ ?_ | refine ba_ ?_ _)); refine blk_put (cs := #[.int .i64 0, .int .i64 0, .slice none 0 0, .slice none 0 0]) ?_ 0 _ rfl; (with_reducible repeat (first | refine bn_ ?_ _ | refine bw_ ?_ | refine ba_ ?_ _)); refine blk_far ?_ NB163_183.out _; (with_reducible repeat (first | refine bn_ ?_ _ | refine bw_ ?_ | refine ba_ ?_ _)); exact BK163.out) Try.underlying59 rfl (by kernel_rfl)) rfl ?_
        exact ⟨_, _, by first | rfl | (simp [errW_none, errW_some] <;> rfl) | (simp [*, errW_none, errW_some] <;> rfl), by (with_reducible repeat (first | apply Kd.R_alloc | apply Kd.R_drewN | apply Kd.R_drew)); exact Kd.R_mono (Kd.R_far (p := ⟨gb163, 3, none⟩) (Kd.R_far (p := ⟨gb163, 2, none⟩) (Kd.R_far (p := ⟨gb163, 1, none⟩) (Kd.R_far (p := ⟨gb163, 0, none⟩) (Kd.R_far (p := ⟨gb183, 3, none⟩) (Kd.R_types (Kd.R_types HO_184002.out BK183.out (by decide)) BK163.out (by decide)) (fun _ hk => hk.1.2) (.slice A79 y189.length c79)) (fun _ hk => hk.2) (.int .i64 x184000_3)) (fun _ hk => hk.2) (.int .i64 a0_1)) (fun _ hk => hk.2) (.slice Ao10600 x184002_3.length co10600)) (fun _ hk => hk.2) (.slice A79 y189.length c79)) (fun _ hk => trivial), by (with_reducible repeat (first | apply Kd.Q_alloc | apply Kd.Q_drewN | apply Kd.Q_drew)); exact Kd.Q_mono (Kd.Q_far (p := ⟨gb163, 3, none⟩) (Kd.Q_far (p := ⟨gb163, 2, none⟩) (Kd.Q_far (p := ⟨gb163, 1, none⟩) (Kd.Q_far (p := ⟨gb163, 0, none⟩) (Kd.Q_far (p := ⟨gb183, 3, none⟩) (Kd.Q_types (Kd.Q_types HO191.out BK183.out (by decide)) BK163.out (by decide)) (fun _ hk => hk.1.2) (.slice A79 y189.length c79)) (fun _ hk => hk.2) (.int .i64 x184000_3)) (fun _ hk => hk.2) (.int .i64 a0_1)) (fun _ hk => hk.2) (.slice Ao10600 x184002_3.length co10600)) (fun _ hk => hk.2) (.slice A79 y189.length c79)) (fun _ hk => trivial), us_ HB.out⟩

end Go.Proofs.Ytkkibccnpkbbjab.MFnEarOk
