/- Functions that the law FnEarOk reaches, each with the proof that the machine's call comes to just its answer; no conditions but those that each theorem states. Printed by a program of this session over the kit's print. -/
import Derived.Test.YtkkibccnpkbbjabMFnEarOkx0
import Derived.Test.YtkkibccnpkbbjabMFnEarOkx1
import Derived.Test.YtkkibccnpkbbjabMFnEarOkx7
namespace Go.Proofs.Ytkkibccnpkbbjab.MFnEarOk
open Go.RowKit Go.Proofs.YtkkibccnpkbbjabV.PrintWords Go.Proofs.YtkkibccnpkbbjabV.PrintLast Go.Proofs.YtkkibccnpkbbjabV.PrintMore
attribute [local go_sem] max2_int min2_int max_two min_two max_three min_three max_four min_four   -- for this text's walks alone
set_option linter.unusedVariables false
set_option linter.unusedSimpArgs false

/-! ### impl_EarOk: function 32 -/
mutual
def impl_EarOk.j0 : Nat → Bool → Int → Int → List Int → List (S68) → Option (Bool)
 | 0, _, _, _, _, _ => none
 | k + 1, x19, x299000, x299001, x299002, x299003 => if x19 = true then (some false) else (impl_EarOk.l0 k x299003 (x299003.length : Int) 0 x299000 x299001 x299002 x299003)
def impl_EarOk.l0 : Nat → List (S68) → Int → Int → Int → Int → List Int → List (S68) → Option (Bool)
 | 0, _, _, _, _, _, _, _ => none
 | k + 1, x21, x22, x23, x299000, x299001, x299002, x299003 => if x23 < x22 then (if 0 ≤ x23 then (if x23 < (x21.length : Int) then ((impl_Ear_free.f x299000 x299001 x299002 x299003).bind fun t304 => ((impl_in.f ((rd_T68 x21 x23).f0) (wrap64 (x299000 + 1)) (wrap64 ((wrap64 (x299000 + t304)) - 1))).bind fun t305 => (if t305 = true then (if x23 > 0 then (if 0 ≤ (wrap64 (x23 - 1)) then (if (wrap64 (x23 - 1)) < (x299003.length : Int) then (if ((rd_T68 x299003 (wrap64 (x23 - 1))).f0) ≥ ((rd_T68 x21 x23).f0) then (some false) else (impl_EarOk.l0 k x21 x22 (wrap64 (x23 + 1)) x299000 x299001 x299002 x299003)) else (none)) else (none)) else (impl_EarOk.l0 k x21 x22 (wrap64 (x23 + 1)) x299000 x299001 x299002 x299003)) else (some false)))) else (none)) else (none)) else (some true)
end
def impl_EarOk.f (k : Nat) (a0_0 : Int) (a0_1 : Int) (l0_2 : List Int) (l0_3 : List (S68)) : Option (Bool) := (impl_in.f a0_0 0 1000000).bind fun t299 => (if t299 = true then ((impl_in.f a0_1 1 32).bind fun t300 => (if t300 = true then ((impl_Ear_free.f a0_0 a0_1 l0_2 l0_3).bind fun t301 => (impl_EarOk.j0 k (decide (t301 < 0)) a0_0 a0_1 l0_2 l0_3)) else (impl_EarOk.j0 k true a0_0 a0_1 l0_2 l0_3))) else (impl_EarOk.j0 k true a0_0 a0_1 l0_2 l0_3))
theorem impl_EarOk.mono_l : ∀ k, (∀ y0 y1 y2 y3 y4, LeO (impl_EarOk.j0 k y0 y1 y2 y3 y4) (impl_EarOk.j0 (k + 1) y0 y1 y2 y3 y4)) ∧ (∀ y0 y1 y2 y3 y4 y5 y6, LeO (impl_EarOk.l0 k y0 y1 y2 y3 y4 y5 y6) (impl_EarOk.l0 (k + 1) y0 y1 y2 y3 y4 y5 y6))
 | 0 => ⟨fun _ _ _ _ _ r h => by simp [impl_EarOk.j0] at h, fun _ _ _ _ _ _ _ r h => by simp [impl_EarOk.l0] at h⟩
 | k + 1 => by
  obtain ⟨ih0, ih1⟩ := impl_EarOk.mono_l k
  refine ⟨?_, ?_⟩
  ·intro y0 y1 y2 y3 y4
   unfold impl_EarOk.j0
   repeat' first
   | (with_reducible exact ih0 _ _ _ _ _)
   | (with_reducible exact ih1 _ _ _ _ _ _ _)
   | (with_reducible exact LeO.refl _)
   | (with_reducible exact LeO.none _)
   | (with_reducible refine LeO.ite ?_ ?_)
   | (with_reducible refine LeO.bind ?_ (fun _ => ?_))
   | exact ih0 _ _ _ _ _
   | exact ih1 _ _ _ _ _ _ _
   | exact LeO.none _
   | refine LeO.ite ?_ ?_
   | refine LeO.bind ?_ (fun _ => ?_)
  ·intro y0 y1 y2 y3 y4 y5 y6
   unfold impl_EarOk.l0
   repeat' first
   | (with_reducible exact ih0 _ _ _ _ _)
   | (with_reducible exact ih1 _ _ _ _ _ _ _)
   | (with_reducible exact LeO.refl _)
   | (with_reducible exact LeO.none _)
   | (with_reducible refine LeO.ite ?_ ?_)
   | (with_reducible refine LeO.bind ?_ (fun _ => ?_))
   | exact ih0 _ _ _ _ _
   | exact ih1 _ _ _ _ _ _ _
   | exact LeO.none _
   | refine LeO.ite ?_ ?_
   | refine LeO.bind ?_ (fun _ => ?_)
theorem impl_EarOk.mono : ∀ a0 a1 a2 a3 k, LeO (impl_EarOk.f k a0 a1 a2 a3) (impl_EarOk.f (k + 1) a0 a1 a2 a3) := by
 intro a0 a1 a2 a3 k
 obtain ⟨ih0, ih1⟩ := impl_EarOk.mono_l k
 unfold impl_EarOk.f
 repeat' first
   | (with_reducible exact ih0 _ _ _ _ _)
   | (with_reducible exact ih1 _ _ _ _ _ _ _)
   | (with_reducible exact LeO.refl _)
   | (with_reducible exact LeO.none _)
   | (with_reducible refine LeO.ite ?_ ?_)
   | (with_reducible refine LeO.bind ?_ (fun _ => ?_))
   | exact ih0 _ _ _ _ _
   | exact ih1 _ _ _ _ _ _ _
   | exact LeO.none _
   | refine LeO.ite ?_ ?_
   | refine LeO.bind ?_ (fun _ => ?_)
def impl_EarOk.T6 : Bool × List (List Nat × List Nat) := (true, [([], []), ([0], [0]), ([], []), ([2], [2]), ([3], [3]), ([], []), ([5], [5]), ([], []), ([7], [7]), ([6, 8], [6, 8]), ([9], [9]), ([1, 4, 10, 8], [1, 4, 10]), ([11], [11]), ([12, 11], [12]), ([13], [13]), ([14, 13], [13, 14]), ([15, 13, 13], [13, 15]), ([16], [16]), ([17, 16], [16, 17]), ([16], [16]), ([19, 16], [16, 19]), ([18, 20, 16], [16, 18, 20]), ([21, 16], [16, 21]), ([22, 16], [16, 22]), ([16], [16]), ([24, 16], [16, 24]), ([23, 25, 16], [16, 23, 25]), ([16, 26, 13], [13, 16, 26]), ([13, 27], [13, 27])])
def impl_EarOk.B6 : List Nat := [0, 1, 0, 4, 12, 0, 32, 0, 128, 480, 992, 2047, 4095, 8191, 16383, 32767, 65535, 131071, 262143, 131071, 655359, 2097151, 4194303, 8388607, 131071, 16908287, 67108863, 134217727, 268435455]
theorem impl_EarOk.tab6 : rtab .any (opsOf Try.f32 6) = impl_EarOk.T6 := by kernel_rfl
theorem impl_EarOk.bits6 : waitsOk impl_EarOk.T6.2 impl_EarOk.B6 = true := by kernel_rfl
set_option maxHeartbeats 8000000 in
set_option maxRecDepth 100000 in
theorem impl_EarOk.calls (k : Nat) (a0_0 : Int) (a0_1 : Int) (A0_2 : Option Addr) (c0_2 : Nat) (l0_2 : List Int) (A0_3 : Option Addr) (c0_3 : Nat) (l0_3 : List (S68)) (r : Bool) (w : World) (hr0_2 : Kd.C (Kd.int .u8) w A0_2 l0_2.length l0_2) (hc0_2 : l0_2.length ≤ c0_2) (hr0_3 : Kd.C k68 w A0_3 l0_3.length l0_3) (hc0_3 : l0_3.length ≤ c0_3) (h : impl_EarOk.f k a0_0 a0_1 l0_2 l0_3 = some r) :
  Calls Try.prog 32 #[.agg #[.int .i64 a0_0, .int .i64 a0_1, .slice A0_2 l0_2.length c0_2, .slice A0_3 l0_3.length c0_3]] w fun e w' => e = .returned (.bool r) ∧ Below w.heap.size w w' := by
 have hu59 := Try.underlying59
 have hu68 := Try.underlying68
 have HR0_2 := mk_ hr0_2
 have HC0_2 := mk_ hc0_2
 clear hr0_2 hc0_2
 have HR0_3 := mk_ hr0_3
 have HC0_3 := mk_ hc0_3
 clear hr0_3 hc0_3
 have HB := mk_ (Below.refl w.heap.size w)
 have H := h
 unfold impl_EarOk.f at H
 clear h
 have HC2 := mk_ H
 clear H
 go_enter Try.func32, Try.ntmps32
 go_upto_region 1 with (first | ((with_reducible refine gate_dst (N := 1) rfl ?_); refine box_event ?hg (N := 1) ?hd (cs := #[.int .i64 a0_0, .int .i64 a0_1, .slice A0_2 l0_2.length c0_2, .slice A0_3 l0_3.length c0_3]) (t := 59) ?hr ?_; (case hd => rfl); (case hg => rfl); (case hr => first | (go_simp; done) | (go_simp; rfl)); intro gb298 hg w3 hbox hb; have n0_ := mk_ (below_step (ub_ HB.out) hb); have BK298 := mk_ (hbox); have GW298 := mk_ ((by rw [hg]; exact (below_size (ub_ HB.out)) : w.heap.size ≤ gb298)); have GE298 := ge_ ((by rw [hg]; exact (below_size (ub_ HB.out)) : w.heap.size ≤ gb298)); replace HB := n0_; clear n0_; clear hb hbox hg))
 (try simp only [Act.put, la_, lz_, ls_])
 go_cut [19] (fun v19 wc => ∃ (kq : Nat) (x19_1 : Bool), v19 = .bool x19_1 ∧ Aside0 (impl_EarOk.j0 kq x19_1 a0_0 a0_1 l0_2 l0_3 = some r) ∧ Aside0 (kq ≤ k) ∧ Aside0 (wc.heap[gb298]? = some (.cells #[.int .i64 a0_0, .int .i64 a0_1, (.slice A0_2 l0_2.length c0_2), (.slice A0_3 l0_3.length c0_3)] 59 (0, 0))) ∧ Aside0 (Below w.heap.size w wc))
 case first =>
  have H := HC2.out
  clear HC2
  replace H := Option.bind_eq_some_iff.mp H
  obtain ⟨t299, A40, H⟩ := H
  (try dsimp only at H)
  have A4 := mk_ A40
  clear A40
  by_cases c5 : t299 = true
  rotate_left
  focus
   replace c5 := Bool.eq_false_iff.mpr c5
   subst c5
   have H1 : (impl_EarOk.j0 k true a0_0 a0_1 l0_2 l0_3) = some r := by rw [if_neg (show ¬ (false = true) by decide)] at H; exact H
   clear H
   have H := H1
   clear H1
   have H' := mk_ H
   clear H
   obtain ⟨hcz12_0, hcz12_1, hcz12_2, hcz12_3, hfz12_0, hfz12_1, hfz12_2, hfz12_3⟩ := cells4_ BK298.out
  rotate_left
  focus
   subst c5
   rw [if_pos rfl] at H
   replace H := Option.bind_eq_some_iff.mp H
   obtain ⟨t300, A60, H⟩ := H
   (try dsimp only at H)
   have A6 := mk_ A60
   clear A60
   by_cases c7 : t300 = true
   rotate_left
   focus
    replace c7 := Bool.eq_false_iff.mpr c7
    subst c7
    have H1 : (impl_EarOk.j0 k true a0_0 a0_1 l0_2 l0_3) = some r := by rw [if_neg (show ¬ (false = true) by decide)] at H; exact H
    clear H
    have H := H1
    clear H1
    have H' := mk_ H
    clear H
    obtain ⟨hcz11_0, hcz11_1, hcz11_2, hcz11_3, hfz11_0, hfz11_1, hfz11_2, hfz11_3⟩ := cells4_ BK298.out
   rotate_left
   focus
    subst c7
    rw [if_pos rfl] at H
    replace H := Option.bind_eq_some_iff.mp H
    obtain ⟨t301, A80, H⟩ := H
    replace H : (impl_EarOk.j0 k (decide (t301 < 0)) a0_0 a0_1 l0_2 l0_3) = some r := H
    have A8 := mk_ A80
    clear A80
    have H' := mk_ H
    clear H
    obtain ⟨hcz9_0, hcz9_1, hcz9_2, hcz9_3, hfz9_0, hfz9_1, hfz9_2, hfz9_3⟩ := cells4_ BK298.out
   rotate_left
  rotate_left 2
  all_goals
   go_wp2_with (first | ((with_reducible refine gate_callee (f := 48) rfl ?_); refine goesL_ (some 7) rfl rfl Try.func48 (by kernel_rfl) rfl #[.int .i64 a0_0, .int .i64 0, .int .i64 1000000] rfl (by (try simp only [lm_, lo_, ln_]); try rfl) ?_; (with_reducible refine (impl_in.calls a0_0 0 1000000 false _ A4.out).mono ?_); rintro e w' ⟨rfl, ⟨nd, rfl⟩⟩; refine ⟨_, rfl, ?_⟩) | ((with_reducible refine gate_callee (f := 48) rfl ?_); have hA_ := A4.out; refine goesL_ (some 7) rfl rfl Try.func48 (by kernel_rfl) rfl #[.int .i64 a0_0, .int .i64 0, .int .i64 1000000] rfl (by (try simp only [lm_, lo_, ln_]); try rfl) ?_; (with_reducible refine (impl_in.calls a0_0 0 1000000 true _ A4.out).mono ?_); rintro e w' ⟨rfl, ⟨nd, rfl⟩⟩; refine ⟨_, rfl, ?_⟩; clear hA_ A4) | (go_at_call 48; have hA_ := A6.out; (with_reducible refine (impl_in.calls a0_1 1 32 false _ A6.out).mono ?_); rintro e w' ⟨rfl, ⟨nd, rfl⟩⟩; clear hA_ A6) | (go_at_call 48; have hA_ := A6.out; (with_reducible refine (impl_in.calls a0_1 1 32 true _ A6.out).mono ?_); rintro e w' ⟨rfl, ⟨nd, rfl⟩⟩; clear hA_ A6) | (go_at_call 76; (with_reducible refine (impl_Ear_free.calls a0_0 a0_1 _ _ l0_2 _ _ l0_3 t301 _ ?side1 ?side2 ?side3 ?side4 A8.out).mono ?_); (case side1 => repeat (first | exact (Kd.C_below HR0_2.out (us_ HB.out)) | (with_reducible refine Kd.C_alloc ?_ _) | (with_reducible refine Kd.C_drewN ?_ _) | (with_reducible refine Kd.C_drew ?_))); (case side2 => exact HC0_2.out); (case side3 => repeat (first | exact (Kd.C_below HR0_3.out (us_ HB.out)) | (with_reducible refine Kd.C_alloc ?_ _) | (with_reducible refine Kd.C_drewN ?_ _) | (with_reducible refine Kd.C_drew ?_))); (case side4 => exact HC0_3.out); rintro e w34840 ⟨rfl, hb⟩; replace BK298 := mk_ (blk_below (u_ BK298.out) hb); replace HB := mk_ (below_step (us_ HB.out) hb)))
   go_meet
  iterate 2
   focus
    case rel => exact ⟨_, (true), (by first | rfl | (simp; done) | (simp [*]; done)), H', ⟨by first | omega | exact Nat.le_refl _⟩, ⟨u_ BK298.out⟩, ⟨us_ HB.out⟩⟩
  ·case rel => exact ⟨_, (decide (t301 < 0)), (by first | rfl | (simp; done) | (simp [*]; done)), H', ⟨by first | omega | exact Nat.le_refl _⟩, ⟨u_ BK298.out⟩, ⟨us_ HB.out⟩⟩
 case rest =>
  clear HC2
  try clear p2
  try clear c3
  try clear c4
  try clear c5
  try clear c7
  try clear hcz11_0
  try clear hcz11_1
  try clear hcz11_2
  try clear hcz11_3
  try clear hcz12_0
  try clear hcz12_1
  try clear hcz12_2
  try clear hcz12_3
  try clear hcz9_0
  try clear hcz9_1
  try clear hcz9_2
  try clear hcz9_3
  try clear hfz11_0
  try clear hfz11_1
  try clear hfz11_2
  try clear hfz11_3
  try clear hfz12_0
  try clear hfz12_1
  try clear hfz12_2
  try clear hfz12_3
  try clear hfz9_0
  try clear hfz9_1
  try clear hfz9_2
  try clear hfz9_3
  obtain ⟨kq, x19_1, rfl, HA, HJ1, BK298, HB⟩ := hcut
  cases kq with
  | zero => exact absurd HA.out (by simp [impl_EarOk.j0])
  | succ kj1 =>
   have H := HA.out
   clear HA
   simp only [impl_EarOk.j0] at H
   by_cases c13 : x19_1 = true
   ·subst c13
    have H1 : (some false) = some r := by rw [if_pos rfl] at H; exact H
    clear H
    have H := H1
    clear H1
    obtain rfl := Option.some.inj H
    go_wp2
    go_ret
    exact ⟨by first | rfl | (simp [errW_none, errW_some] <;> rfl) | (simp [*, errW_none, errW_some] <;> rfl), us_ HB.out⟩
   replace c13 := Bool.eq_false_iff.mpr c13
   subst c13
   rw [if_neg (show ¬ (false = true) by decide)] at H
   have H' := mk_ H
   clear H
   obtain ⟨hcz14_0, hcz14_1, hcz14_2, hcz14_3, hfz14_0, hfz14_1, hfz14_2, hfz14_3⟩ := cells4_ BK298.out
   go_wp2
   go_loopg [23] kj1 (fun kq v23 w' => ∃ (x23_2 : Int), v23 = .int .i64 x23_2 ∧ Aside0 (impl_EarOk.l0 kq l0_3 (l0_3.length : Int) x23_2 a0_0 a0_1 l0_2 l0_3 = some r) ∧ Aside0 (kq ≤ kj1) ∧ Aside0 (w'.heap[gb298]? = some (.cells #[.int .i64 a0_0, .int .i64 a0_1, (.slice A0_2 l0_2.length c0_2), (.slice A0_3 l0_3.length c0_3)] 59 (0, 0))) ∧ Aside0 (Below w.heap.size w w'))
   case atStart => exact ⟨(0), (by first | rfl | (simp; done) | (simp [*]; done)), H', ⟨Nat.le_refl _⟩, ⟨u_ BK298.out⟩, ⟨us_ HB.out⟩⟩
   case round =>
    clear H'
    try clear c1
    try clear p2
    try clear c3
    try clear c4
    try clear c5
    try clear c7
    try clear c13
    try clear hcz11_0
    try clear hcz11_1
    try clear hcz11_2
    try clear hcz11_3
    try clear hcz12_0
    try clear hcz12_1
    try clear hcz12_2
    try clear hcz12_3
    try clear hcz14_0
    try clear hcz14_1
    try clear hcz14_2
    try clear hcz14_3
    try clear hcz9_0
    try clear hcz9_1
    try clear hcz9_2
    try clear hcz9_3
    try clear hfz11_0
    try clear hfz11_1
    try clear hfz11_2
    try clear hfz11_3
    try clear hfz12_0
    try clear hfz12_1
    try clear hfz12_2
    try clear hfz12_3
    try clear hfz14_0
    try clear hfz14_1
    try clear hfz14_2
    try clear hfz14_3
    try clear hfz9_0
    try clear hfz9_1
    try clear hfz9_2
    try clear hfz9_3
    try clear p2
    obtain ⟨x23_2, rfl, HA, HK2, BK298, HB⟩ := hrel
    cases gk with
    | zero => exact absurd HA.out (by simp [impl_EarOk.l0])
    | succ k2 =>
     have H := HA.out
     clear HA
     simp only [impl_EarOk.l0] at H
     by_cases c15 : x23_2 < (l0_3.length : Int)
     rotate_left
     focus
      rw [if_neg c15] at H
      have c15b0 : decide (x23_2 < (l0_3.length : Int)) = false := decide_eq_false c15
      clear c15
      obtain rfl := Option.some.inj H
     rotate_left
     focus
      rw [if_pos c15] at H
      have c15b0 : decide (x23_2 < (l0_3.length : Int)) = true := decide_eq_true c15
      clear c15
      by_cases c16 : 0 ≤ x23_2
      rotate_left
      ·rw [if_neg c16] at H
       exact absurd H (by simp)
      rw [if_pos c16] at H
      have c16b0 : decide (0 ≤ x23_2) = true := decide_eq_true c16
      clear c16
      by_cases c17 : x23_2 < (l0_3.length : Int)
      rotate_left
      ·rw [if_neg c17] at H
       exact absurd H (by simp)
      rw [if_pos c17] at H
      have c17b0 : decide (x23_2 < (l0_3.length : Int)) = true := decide_eq_true c17
      clear c17
      replace H := Option.bind_eq_some_iff.mp H
      obtain ⟨t304, A180, H⟩ := H
      (try dsimp only at H)
      have A18 := mk_ A180
      clear A180
      replace H := Option.bind_eq_some_iff.mp H
      obtain ⟨t305, A190, H⟩ := H
      (try dsimp only at H)
      have A19 := mk_ A190
      clear A190
      by_cases c20 : t305 = true
      rotate_left
      focus
       replace c20 := Bool.eq_false_iff.mpr c20
       subst c20
       have H1 : (some false) = some r := by rw [if_neg (show ¬ (false = true) by decide)] at H; exact H
       clear H
       have H := H1
       clear H1
       obtain rfl := Option.some.inj H
       have p302 : 0 ≤ (x23_2 : Int) := of_decide_eq_true (by first | (with_reducible assumption) | assumption)
       have q302 : x23_2 < (l0_3.length : Int) := of_decide_eq_true (by first | (with_reducible assumption) | assumption)
       obtain ⟨ad302, e302, hx302_0, hx302_1⟩ := at_T68 HR0_3.out x23_2 p302 q302
       cases e302
       replace hx302_0 := (HB.out.cell (lc_ w _ hx302_0)).trans hx302_0
       replace hx302_1 := (HB.out.cell (lc_ w _ hx302_1)).trans hx302_1
       replace p302 := eq_true p302
       replace q302 := eq_true q302
      rotate_left
      focus
       subst c20
       rw [if_pos rfl] at H
       by_cases c21 : x23_2 > 0
       rotate_left
       focus
        rw [if_neg c21] at H
        have c21b0 : decide (0 < x23_2) = false := decide_eq_false c21
        clear c21
        have H' := mk_ H
        clear H
        have p302 : 0 ≤ (x23_2 : Int) := of_decide_eq_true (by first | (with_reducible assumption) | assumption)
        have q302 : x23_2 < (l0_3.length : Int) := of_decide_eq_true (by first | (with_reducible assumption) | assumption)
        obtain ⟨ad302, e302, hx302_0, hx302_1⟩ := at_T68 HR0_3.out x23_2 p302 q302
        cases e302
        replace hx302_0 := (HB.out.cell (lc_ w _ hx302_0)).trans hx302_0
        replace hx302_1 := (HB.out.cell (lc_ w _ hx302_1)).trans hx302_1
        replace p302 := eq_true p302
        replace q302 := eq_true q302
       rotate_left
       focus
        rw [if_pos c21] at H
        have c21b0 : decide (0 < x23_2) = true := decide_eq_true c21
        clear c21
        obtain ⟨ji22, hji22⟩ : ∃ j_ : Int, (wrap64 (x23_2 - 1)) = j_ := ⟨_, rfl⟩
        replace H : (if 0 ≤ (ji22) then (if (ji22) < (l0_3.length : Int) then (if ((rd_T68 l0_3 (ji22)).f0) ≥ ((rd_T68 l0_3 x23_2).f0) then (some false) else (impl_EarOk.l0 k2 l0_3 (l0_3.length : Int) (wrap64 (x23_2 + 1)) a0_0 a0_1 l0_2 l0_3)) else (none)) else (none)) = some r := by first | (rw [hji22] at H; exact H) | (simp only [hji22] at H ⊢; exact H)
        (try rw [hji22] at A18)
        (try rw [hji22] at A19)
        have hji22w : (IntKind.i64.wrap (x23_2 - 1)) = ji22 := (i64_w _).trans hji22
        by_cases c23 : 0 ≤ (ji22)
        rotate_left
        ·rw [if_neg c23] at H
         exact absurd H (by simp)
        rw [if_pos c23] at H
        have c23b0 : decide (0 ≤ (ji22)) = true := decide_eq_true c23
        clear c23
        by_cases c24 : (ji22) < (l0_3.length : Int)
        rotate_left
        ·rw [if_neg c24] at H
         exact absurd H (by simp)
        rw [if_pos c24] at H
        have c24b0 : decide ((ji22) < (l0_3.length : Int)) = true := decide_eq_true c24
        clear c24
        by_cases c25 : ((rd_T68 l0_3 (ji22)).f0) ≥ ((rd_T68 l0_3 x23_2).f0)
        focus
         rw [if_pos c25] at H
         have c25b0 : decide (((rd_T68 l0_3 x23_2).f0) ≤ ((rd_T68 l0_3 (ji22)).f0)) = true := decide_eq_true c25
         clear c25
         obtain rfl := Option.some.inj H
         have p302 : 0 ≤ (x23_2 : Int) := of_decide_eq_true (by first | (with_reducible assumption) | assumption)
         have q302 : x23_2 < (l0_3.length : Int) := of_decide_eq_true (by first | (with_reducible assumption) | assumption)
         obtain ⟨ad302, e302, hx302_0, hx302_1⟩ := at_T68 HR0_3.out x23_2 p302 q302
         cases e302
         replace hx302_0 := (HB.out.cell (lc_ w _ hx302_0)).trans hx302_0
         replace hx302_1 := (HB.out.cell (lc_ w _ hx302_1)).trans hx302_1
         replace p302 := eq_true p302
         replace q302 := eq_true q302
        rotate_left
        focus
         rw [if_neg c25] at H
         have c25b0 : decide (((rd_T68 l0_3 x23_2).f0) ≤ ((rd_T68 l0_3 (ji22)).f0)) = false := decide_eq_false c25
         clear c25
         have H' := mk_ H
         clear H
         have p302 : 0 ≤ (x23_2 : Int) := of_decide_eq_true (by first | (with_reducible assumption) | assumption)
         have q302 : x23_2 < (l0_3.length : Int) := of_decide_eq_true (by first | (with_reducible assumption) | assumption)
         obtain ⟨ad302, e302, hx302_0, hx302_1⟩ := at_T68 HR0_3.out x23_2 p302 q302
         cases e302
         replace hx302_0 := (HB.out.cell (lc_ w _ hx302_0)).trans hx302_0
         replace hx302_1 := (HB.out.cell (lc_ w _ hx302_1)).trans hx302_1
         replace p302 := eq_true p302
         replace q302 := eq_true q302
        rotate_left
       rotate_left 2
      rotate_left 3
     rotate_left 4
     all_goals
      try go_wp2_with (first | ((with_reducible refine gate_dst (N := 4) rfl ?_); refine box_event ?hg (N := 4) ?hd (cs := #[.int .i64 0, .int .u8 0]) (t := 68) ?hr ?_; (case hd => rfl); (case hg => rfl); (case hr => first | (go_simp; done) | (go_simp; rfl)); intro gb18440 hg w18441 hbox hb; have n0_ := mk_ (blk_below (u_ BK298.out) hb); have n1_ := mk_ (below_step (us_ HB.out) hb); have BK303 := mk_ (hbox); have GW303 := mk_ ((by rw [hg]; exact (below_size (us_ HB.out)) : w.heap.size ≤ gb18440)); have GE303 := ge_ ((by rw [hg]; exact (below_size (us_ HB.out)) : w.heap.size ≤ gb18440)); have NB298_303 := nq_ ((by rw [hg]; exact Nat.ne_of_lt (blk_lt (u_ BK298.out)) : gb298 ≠ gb18440)); have NB303_298 := nq_ ((by rw [hg]; exact Nat.ne_of_gt (blk_lt (u_ BK298.out)) : gb18440 ≠ gb298)); replace BK298 := n0_; replace HB := n1_; clear n0_ n1_; clear hb hbox hg; have hnb4360298303 := NB303_298.out; have hnc4360298303 := NB298_303.out; obtain ⟨_, _, _, _⟩ := cells2_ BK303.out))
     ·go_ret
      exact ⟨by first | rfl | (simp [errW_none, errW_some] <;> rfl) | (simp [*, errW_none, errW_some] <;> rfl), us_ HB.out⟩
     all_goals
      have n0_ : Aside0 (((w18441.setCell ⟨gb18440, 0, none⟩ (.int .i64 ((rd_T68 l0_3 x23_2).f0))).setCell ⟨gb18440, 1, none⟩ (.int .u8 ((rd_T68 l0_3 x23_2).f1))).heap[gb298]? = some (.cells #[.int .i64 a0_0, .int .i64 a0_1, .slice A0_2 l0_2.length c0_2, .slice (some ad302) l0_3.length c0_3] 59 (0, 0))) := ⟨uf_ BK298.out⟩
      have n1_ : Aside0 (((w18441.setCell ⟨gb18440, 0, none⟩ (.int .i64 ((rd_T68 l0_3 x23_2).f0))).setCell ⟨gb18440, 1, none⟩ (.int .u8 ((rd_T68 l0_3 x23_2).f1))).heap[gb18440]? = some (.cells #[.int .i64 ((rd_T68 l0_3 x23_2).f0), .int .u8 ((rd_T68 l0_3 x23_2).f1)] 68 (0, 0))) := ⟨by (with_reducible repeat (first | refine bn_ ?_ _ | refine bw_ ?_ | refine ba_ ?_ _)); refine blk_put (cs := #[.int .i64 ((rd_T68 l0_3 x23_2).f0), .int .u8 0]) ?_ 1 _ rfl; (with_reducible repeat (first | refine bn_ ?_ _ | refine bw_ ?_ | refine ba_ ?_ _)); refine blk_put (cs := #[.int .i64 0, .int .u8 0]) ?_ 0 _ rfl; (with_reducible repeat (first | refine bn_ ?_ _ | refine bw_ ?_ | refine ba_ ?_ _)); exact BK303.out⟩
      have n2_ : Aside0 (Below w.heap.size w ((w18441.setCell ⟨gb18440, 0, none⟩ (.int .i64 ((rd_T68 l0_3 x23_2).f0))).setCell ⟨gb18440, 1, none⟩ (.int .u8 ((rd_T68 l0_3 x23_2).f1)))) := ⟨us_ HB.out⟩
      (try clear BK298)
      (try clear BK303)
      (try clear HB)
      generalize ((w18441.setCell ⟨gb18440, 0, none⟩ (.int .i64 ((rd_T68 l0_3 x23_2).f0))).setCell ⟨gb18440, 1, none⟩ (.int .u8 ((rd_T68 l0_3 x23_2).f1))) = w35080 at n0_ n1_ n2_ ⊢
      have BK298 := n0_
      have BK303 := n1_
      have HB := n2_
      clear n0_ n1_ n2_
      have n0_ := mk_ (blk_drew BK298.out)
      have n1_ := mk_ (blk_drew BK303.out)
      have n2_ := mk_ (below_drew1 HB.out)
      clear BK298
      clear BK303
      clear HB
      have BK298 := n0_
      have BK303 := n1_
      have HB := n2_
      clear n0_ n1_ n2_
     iterate 2
      focus
       refine start_ (n := 29) (S := fun w' => w'.cell? ⟨gb18440, 0, none⟩ = some (.int .i64 ((rd_T68 l0_3 x23_2).f0)) ∧ w'.cell? ⟨gb18440, 1, none⟩ = some (.int .u8 ((rd_T68 l0_3 x23_2).f1)) ∧ w'.cell? ⟨gb298, 0, none⟩ = some (.int .i64 a0_0) ∧ w'.cell? ⟨gb298, 1, none⟩ = some (.int .i64 a0_1) ∧ w'.cell? ⟨gb298, 2, none⟩ = some (.slice A0_2 l0_2.length c0_2) ∧ w'.cell? ⟨gb298, 3, none⟩ = some (.slice (some ad302) l0_3.length c0_3)) (ds := []) #[F_, F_, F_, F_, F_, F_, F_, F_, F_, F_, F_, F_, F_, F_, F_, F_, F_, F_, F_, F_, F_, F_, F_, F_, F_, F_, F_, F_, F_] (by kernel_rfl) rfl rfl ⟨(blk_cell BK303.out 0).trans rfl, (blk_cell BK303.out 1).trans rfl, (blk_cell BK298.out 0).trans rfl, (blk_cell BK298.out 1).trans rfl, (blk_cell BK298.out 2).trans rfl, (blk_cell BK298.out 3).trans rfl⟩ (fun hHeld => ?_); refine with_tabW impl_EarOk.tab6 impl_EarOk.bits6 (fun HT_ HW_ => ?_)
       generalize w35080.drew = w35160 at BK298 BK303 HB hHeld ⊢
       refine pure_ (i := 0) (N := some 28) (v := ?_) (a' := ?_) #[T_, F_, F_, F_, F_, F_, F_, F_, F_, F_, F_, F_, F_, F_, F_, F_, F_, F_, F_, F_, F_, F_, F_, F_, F_, F_, F_, F_, F_] rfl rfl (any_of HT_.out (by kernel_rfl)) (fun _ _ _ h => h) (Or.inl ⟨by rfl, ?_⟩) ?_ ?_
       rotate_left
       ·intro w'
        go_simp
        with_reducible rfl
       rotate_left
       ·simp only [Act.put, la_, lz_, ls_, i64_w, i32_w]
        rfl
       refine pure_ (i := 2) (N := some 30) (v := ?_) (a' := ?_) #[T_, F_, T_, F_, F_, F_, F_, F_, F_, F_, F_, F_, F_, F_, F_, F_, F_, F_, F_, F_, F_, F_, F_, F_, F_, F_, F_, F_, F_] rfl rfl (any_of HT_.out (by kernel_rfl)) (fun _ _ _ h => h) (Or.inl ⟨by rfl, ?_⟩) ?_ ?_
       rotate_left
       ·intro w'
        go_simp
        with_reducible rfl
       rotate_left
       ·simp only [Act.put, la_, lz_, ls_, i64_w, i32_w]
        rfl
       refine pure_ (i := 5) (N := some 33) (v := ?_) (a' := ?_) #[T_, F_, T_, F_, F_, T_, F_, F_, F_, F_, F_, F_, F_, F_, F_, F_, F_, F_, F_, F_, F_, F_, F_, F_, F_, F_, F_, F_, F_] rfl rfl (any_of HT_.out (by kernel_rfl)) (fun _ _ _ h => h) (Or.inl ⟨by rfl, ?_⟩) ?_ ?_
       rotate_left
       ·intro w'
        go_simp
        with_reducible rfl
       rotate_left
       ·simp only [Act.put, la_, lz_, ls_, i64_w, i32_w]
        rfl
       refine take_ (i := 1) (N := some 29) (v := ?_) (a' := ?_) #[T_, T_, T_, F_, F_, T_, F_, F_, F_, F_, F_, F_, F_, F_, F_, F_, F_, F_, F_, F_, F_, F_, F_, F_, F_, F_, F_, F_, F_] rfl rfl (take_ofW HT_.out HW_.out (by kernel_rfl)) (fun _ _ _ h => h) (Or.inl ⟨by rfl, ?_⟩) hHeld ?_ ?_
       rotate_left
       ·rintro w' ⟨s11240, s11241, s11242, s11243, s11244, s11245⟩
        go_simp
        with_reducible rfl
       rotate_left
       ·simp only [Act.put, la_, lz_, ls_, i64_w, i32_w]
        rfl
       refine take_ (i := 3) (N := some 31) (v := ?_) (a' := ?_) #[T_, T_, T_, T_, F_, T_, F_, F_, F_, F_, F_, F_, F_, F_, F_, F_, F_, F_, F_, F_, F_, F_, F_, F_, F_, F_, F_, F_, F_] rfl rfl (take_ofW HT_.out HW_.out (by kernel_rfl)) (fun _ _ _ h => h) (Or.inl ⟨by rfl, ?_⟩) hHeld ?_ ?_
       rotate_left
       ·rintro w' ⟨s11240, s11241, s11242, s11243, s11244, s11245⟩
        go_simp
        with_reducible rfl
       rotate_left
       ·simp only [Act.put, la_, lz_, ls_, i64_w, i32_w]
        rfl
       refine pure_ (i := 4) (N := some 32) (v := ?_) (a' := ?_) #[T_, T_, T_, T_, T_, T_, F_, F_, F_, F_, F_, F_, F_, F_, F_, F_, F_, F_, F_, F_, F_, F_, F_, F_, F_, F_, F_, F_, F_] rfl rfl (any_of HT_.out (by kernel_rfl)) (fun _ _ _ h => h) (Or.inl ⟨by rfl, ?_⟩) ?_ ?_
       rotate_left
       ·intro w'
        go_simp
        with_reducible rfl
       rotate_left
       ·simp only [Act.put, la_, lz_, ls_, i64_w, i32_w]
        rfl
       refine take_ (i := 6) (N := some 34) (v := ?_) (a' := ?_) #[T_, T_, T_, T_, T_, T_, T_, F_, F_, F_, F_, F_, F_, F_, F_, F_, F_, F_, F_, F_, F_, F_, F_, F_, F_, F_, F_, F_, F_] rfl rfl (take_ofW HT_.out HW_.out (by kernel_rfl)) (fun _ _ _ h => h) (Or.inl ⟨by rfl, ?_⟩) hHeld ?_ ?_
       rotate_left
       ·rintro w' ⟨s11240, s11241, s11242, s11243, s11244, s11245⟩
        go_simp
        with_reducible rfl
       rotate_left
       ·simp only [Act.put, la_, lz_, ls_, i64_w, i32_w]
        rfl
       refine take_ (i := 7) (N := some 35) (v := ?_) (a' := ?_) #[T_, T_, T_, T_, T_, T_, T_, T_, F_, F_, F_, F_, F_, F_, F_, F_, F_, F_, F_, F_, F_, F_, F_, F_, F_, F_, F_, F_, F_] rfl rfl (take_ofW HT_.out HW_.out (by kernel_rfl)) (fun _ _ _ h => h) (Or.inl ⟨by rfl, ?_⟩) hHeld ?_ ?_
       rotate_left
       ·rintro w' ⟨s11240, s11241, s11242, s11243, s11244, s11245⟩
        go_simp
        with_reducible rfl
       rotate_left
       ·simp only [Act.put, la_, lz_, ls_, i64_w, i32_w]
        rfl
       refine one_ (i := 8) (N := some 36) #[T_, T_, T_, T_, T_, T_, T_, T_, T_, F_, F_, F_, F_, F_, F_, F_, F_, F_, F_, F_, F_, F_, F_, F_, F_, F_, F_, F_, F_] rfl rfl (one_of HT_.out (by kernel_rfl)) (by decide) (fun K hK => ?_)
       refine goes_ Try.func76 (by kernel_rfl) rfl #[.agg #[.int .i64 a0_0, .int .i64 a0_1, .slice A0_2 l0_2.length c0_2, .slice (some ad302) l0_3.length c0_3]] (by rfl) rfl rfl (by (try simp only [lm_, lo_, ln_]); try rfl) ?_
       with_reducible refine (impl_Ear_free.calls a0_0 a0_1 _ _ l0_2 _ _ l0_3 t304 _ ?side1 ?side2 ?side3 ?side4 A18.out).mono ?_
       (case side1 => repeat (first | exact (Kd.C_below HR0_2.out HB.out) | (with_reducible refine Kd.C_alloc ?_ _) | (with_reducible refine Kd.C_drewN ?_ _) | (with_reducible refine Kd.C_drew ?_)))
       (case side2 => exact HC0_2.out)
       (case side3 => repeat (first | exact (Kd.C_below HR0_3.out HB.out) | (with_reducible refine Kd.C_alloc ?_ _) | (with_reducible refine Kd.C_drewN ?_ _) | (with_reducible refine Kd.C_drew ?_)))
       (case side4 => exact HC0_3.out)
       rintro e w35440 ⟨rfl, hb⟩
       refine ⟨_, rfl, ?_⟩
       have n0_ := mk_ (blk_below (u_ BK298.out) hb)
       have n1_ := mk_ (blk_below (u_ BK303.out) hb)
       have n2_ := mk_ (below_step (us_ HB.out) hb)
       clear BK298
       clear BK303
       clear HB
       have BK298 := n0_
       have BK303 := n1_
       have HB := n2_
       clear n0_ n1_ n2_
       (try clear hb)
       (try clear hb2)
       (try clear hk)
       (try clear hi)
       refine hK.out _ _ ⟨(blk_cell BK303.out 0).trans rfl, (blk_cell BK303.out 1).trans rfl, (blk_cell BK298.out 0).trans rfl, (blk_cell BK298.out 1).trans rfl, (blk_cell BK298.out 2).trans rfl, (blk_cell BK298.out 3).trans rfl⟩ (fun hHeld => ?_)
       clear hK K
       refine norm_ (a' := ?_) ?_ ?_
       rotate_left
       ·show Act.put _ (some 36) _ = _
        simp only [Act.put, la_, lz_, ls_, i64_w, i32_w]
        rfl
       refine pure_ (i := 9) (N := some 37) (v := ?_) (a' := ?_) #[T_, T_, T_, T_, T_, T_, T_, T_, T_, T_, F_, F_, F_, F_, F_, F_, F_, F_, F_, F_, F_, F_, F_, F_, F_, F_, F_, F_, F_] rfl rfl (any_of HT_.out (by kernel_rfl)) (fun _ _ _ h => h) (Or.inl ⟨by rfl, ?_⟩) ?_ ?_
       rotate_left
       ·intro w'
        go_simp
        with_reducible rfl
       rotate_left
       ·simp only [Act.put, la_, lz_, ls_, i64_w, i32_w]
        rfl
       refine pure_ (i := 10) (N := some 38) (v := ?_) (a' := ?_) #[T_, T_, T_, T_, T_, T_, T_, T_, T_, T_, T_, F_, F_, F_, F_, F_, F_, F_, F_, F_, F_, F_, F_, F_, F_, F_, F_, F_, F_] rfl rfl (any_of HT_.out (by kernel_rfl)) (fun _ _ _ h => h) (Or.inl ⟨by rfl, ?_⟩) ?_ ?_
       rotate_left
       ·intro w'
        go_simp
        with_reducible rfl
       rotate_left
       ·simp only [Act.put, la_, lz_, ls_, i64_w, i32_w]
        rfl
       refine one_ (i := 11) (N := some 39) #[T_, T_, T_, T_, T_, T_, T_, T_, T_, T_, T_, T_, F_, F_, F_, F_, F_, F_, F_, F_, F_, F_, F_, F_, F_, F_, F_, F_, F_] rfl rfl (one_of HT_.out (by kernel_rfl)) (by decide) (fun K hK => ?_)
       refine goes_ Try.func48 (by kernel_rfl) rfl #[.int .i64 ((rd_T68 l0_3 x23_2).f0), .int .i64 (wrap64 (a0_0 + 1)), .int .i64 (wrap64 ((wrap64 (a0_0 + t304)) - 1))] (by rfl) rfl rfl (by (try simp only [lm_, lo_, ln_]); try rfl) ?_
      rotate_left
     rotate_right 2
     ·with_reducible refine (impl_in.calls ((rd_T68 l0_3 x23_2).f0) (wrap64 (a0_0 + 1)) (wrap64 ((wrap64 (a0_0 + t304)) - 1)) false _ A19.out).mono ?_
      rintro e w' ⟨rfl, ⟨nd, rfl⟩⟩
      refine ⟨_, rfl, ?_⟩
      refine hK.out _ _ ⟨(blk_cell BK303.out 0).trans rfl, (blk_cell BK303.out 1).trans rfl, (blk_cell BK298.out 0).trans rfl, (blk_cell BK298.out 1).trans rfl, (blk_cell BK298.out 2).trans rfl, (blk_cell BK298.out 3).trans rfl⟩ (fun hHeld => ?_)
      clear hK K
      refine norm_ (a' := ?_) ?_ ?_
      rotate_left
      ·show Act.put _ (some 39) _ = _
       simp only [Act.put, la_, lz_, ls_, i64_w, i32_w]
       rfl
      refine pure_ (i := 12) (N := some 40) (v := ?_) (a' := ?_) #[T_, T_, T_, T_, T_, T_, T_, T_, T_, T_, T_, T_, T_, F_, F_, F_, F_, F_, F_, F_, F_, F_, F_, F_, F_, F_, F_, F_, F_] rfl rfl (any_of HT_.out (by kernel_rfl)) (fun _ _ _ h => h) (Or.inl ⟨by rfl, ?_⟩) ?_ ?_
      rotate_left
      ·intro w'
       go_simp
       with_reducible rfl
      rotate_left
      ·simp only [Act.put, la_, lz_, ls_, i64_w, i32_w]
       rfl
      refine pure_ (i := 13) (N := some 41) (v := ?_) (a' := ?_) #[T_, T_, T_, T_, T_, T_, T_, T_, T_, T_, T_, T_, T_, T_, F_, F_, F_, F_, F_, F_, F_, F_, F_, F_, F_, F_, F_, F_, F_] rfl rfl (any_of HT_.out (by kernel_rfl)) (fun _ _ _ h => h) (Or.inl ⟨by rfl, ?_⟩) ?_ ?_
      rotate_left
      ·intro w'
       go_simp
       with_reducible rfl
      rotate_left
      ·simp only [Act.put, la_, lz_, ls_, i64_w, i32_w]
       rfl
      refine pure_ (i := 14) (N := some 42) (v := undef) (a' := ?_) #[T_, T_, T_, T_, T_, T_, T_, T_, T_, T_, T_, T_, T_, T_, T_, F_, F_, F_, F_, F_, F_, F_, F_, F_, F_, F_, F_, F_, F_] rfl rfl (any_of HT_.out (by kernel_rfl)) (fun _ _ _ h => h) (Or.inr ⟨by rfl, rfl⟩) ?_ ?_
      rotate_left
      ·simp only [Act.put, la_, lz_, ls_, i64_w, i32_w]
       rfl
      refine pure_ (i := 15) (N := some 43) (v := undef) (a' := ?_) #[T_, T_, T_, T_, T_, T_, T_, T_, T_, T_, T_, T_, T_, T_, T_, T_, F_, F_, F_, F_, F_, F_, F_, F_, F_, F_, F_, F_, F_] rfl rfl (any_of HT_.out (by kernel_rfl)) (fun _ _ _ h => h) (Or.inr ⟨by rfl, rfl⟩) ?_ ?_
      rotate_left
      ·simp only [Act.put, la_, lz_, ls_, i64_w, i32_w]
       rfl
      refine pure_ (i := 16) (N := some 44) (v := undef) (a' := ?_) #[T_, T_, T_, T_, T_, T_, T_, T_, T_, T_, T_, T_, T_, T_, T_, T_, T_, F_, F_, F_, F_, F_, F_, F_, F_, F_, F_, F_, F_] rfl rfl (any_of HT_.out (by kernel_rfl)) (fun _ _ _ h => h) (Or.inr ⟨by rfl, rfl⟩) ?_ ?_
      rotate_left
      ·simp only [Act.put, la_, lz_, ls_, i64_w, i32_w]
       rfl
      refine pure_ (i := 17) (N := some 45) (v := undef) (a' := ?_) #[T_, T_, T_, T_, T_, T_, T_, T_, T_, T_, T_, T_, T_, T_, T_, T_, T_, T_, F_, F_, F_, F_, F_, F_, F_, F_, F_, F_, F_] rfl rfl (any_of HT_.out (by kernel_rfl)) (fun _ _ _ h => h) (Or.inr ⟨by rfl, rfl⟩) ?_ ?_
      rotate_left
      ·simp only [Act.put, la_, lz_, ls_, i64_w, i32_w]
       rfl
      refine pure_ (i := 18) (N := some 46) (v := undef) (a' := ?_) #[T_, T_, T_, T_, T_, T_, T_, T_, T_, T_, T_, T_, T_, T_, T_, T_, T_, T_, T_, F_, F_, F_, F_, F_, F_, F_, F_, F_, F_] rfl rfl (any_of HT_.out (by kernel_rfl)) (fun _ _ _ h => h) (Or.inr ⟨by rfl, rfl⟩) ?_ ?_
      rotate_left
      ·simp only [Act.put, la_, lz_, ls_, i64_w, i32_w]
       rfl
      refine pure_ (i := 19) (N := some 47) (v := undef) (a' := ?_) #[T_, T_, T_, T_, T_, T_, T_, T_, T_, T_, T_, T_, T_, T_, T_, T_, T_, T_, T_, T_, F_, F_, F_, F_, F_, F_, F_, F_, F_] rfl rfl (any_of HT_.out (by kernel_rfl)) (fun _ _ _ h => h) (Or.inr ⟨by rfl, rfl⟩) ?_ ?_
      rotate_left
      ·simp only [Act.put, la_, lz_, ls_, i64_w, i32_w]
       rfl
      refine pure_ (i := 20) (N := some 48) (v := undef) (a' := ?_) #[T_, T_, T_, T_, T_, T_, T_, T_, T_, T_, T_, T_, T_, T_, T_, T_, T_, T_, T_, T_, T_, F_, F_, F_, F_, F_, F_, F_, F_] rfl rfl (any_of HT_.out (by kernel_rfl)) (fun _ _ _ h => h) (Or.inr ⟨by rfl, rfl⟩) ?_ ?_
      rotate_left
      ·simp only [Act.put, la_, lz_, ls_, i64_w, i32_w]
       rfl
      refine pure_ (i := 21) (N := some 49) (v := undef) (a' := ?_) #[T_, T_, T_, T_, T_, T_, T_, T_, T_, T_, T_, T_, T_, T_, T_, T_, T_, T_, T_, T_, T_, T_, F_, F_, F_, F_, F_, F_, F_] rfl rfl (any_of HT_.out (by kernel_rfl)) (fun _ _ _ h => h) (Or.inr ⟨by rfl, rfl⟩) ?_ ?_
      rotate_left
      ·simp only [Act.put, la_, lz_, ls_, i64_w, i32_w]
       rfl
      refine pure_ (i := 22) (N := some 50) (v := undef) (a' := ?_) #[T_, T_, T_, T_, T_, T_, T_, T_, T_, T_, T_, T_, T_, T_, T_, T_, T_, T_, T_, T_, T_, T_, T_, F_, F_, F_, F_, F_, F_] rfl rfl (any_of HT_.out (by kernel_rfl)) (fun _ _ _ h => h) (Or.inr ⟨by rfl, rfl⟩) ?_ ?_
      rotate_left
      ·simp only [Act.put, la_, lz_, ls_, i64_w, i32_w]
       rfl
      refine pure_ (i := 23) (N := some 51) (v := undef) (a' := ?_) #[T_, T_, T_, T_, T_, T_, T_, T_, T_, T_, T_, T_, T_, T_, T_, T_, T_, T_, T_, T_, T_, T_, T_, T_, F_, F_, F_, F_, F_] rfl rfl (any_of HT_.out (by kernel_rfl)) (fun _ _ _ h => h) (Or.inr ⟨by rfl, rfl⟩) ?_ ?_
      rotate_left
      ·simp only [Act.put, la_, lz_, ls_, i64_w, i32_w]
       rfl
      refine pure_ (i := 24) (N := some 52) (v := undef) (a' := ?_) #[T_, T_, T_, T_, T_, T_, T_, T_, T_, T_, T_, T_, T_, T_, T_, T_, T_, T_, T_, T_, T_, T_, T_, T_, T_, F_, F_, F_, F_] rfl rfl (any_of HT_.out (by kernel_rfl)) (fun _ _ _ h => h) (Or.inr ⟨by rfl, rfl⟩) ?_ ?_
      rotate_left
      ·simp only [Act.put, la_, lz_, ls_, i64_w, i32_w]
       rfl
      refine pure_ (i := 25) (N := some 53) (v := undef) (a' := ?_) #[T_, T_, T_, T_, T_, T_, T_, T_, T_, T_, T_, T_, T_, T_, T_, T_, T_, T_, T_, T_, T_, T_, T_, T_, T_, T_, F_, F_, F_] rfl rfl (any_of HT_.out (by kernel_rfl)) (fun _ _ _ h => h) (Or.inr ⟨by rfl, rfl⟩) ?_ ?_
      rotate_left
      ·simp only [Act.put, la_, lz_, ls_, i64_w, i32_w]
       rfl
      refine pure_ (i := 26) (N := some 54) (v := undef) (a' := ?_) #[T_, T_, T_, T_, T_, T_, T_, T_, T_, T_, T_, T_, T_, T_, T_, T_, T_, T_, T_, T_, T_, T_, T_, T_, T_, T_, T_, F_, F_] rfl rfl (any_of HT_.out (by kernel_rfl)) (fun _ _ _ h => h) (Or.inr ⟨by rfl, rfl⟩) ?_ ?_
      rotate_left
      ·simp only [Act.put, la_, lz_, ls_, i64_w, i32_w]
       rfl
      refine pure_ (i := 27) (N := some 55) (v := undef) (a' := ?_) #[T_, T_, T_, T_, T_, T_, T_, T_, T_, T_, T_, T_, T_, T_, T_, T_, T_, T_, T_, T_, T_, T_, T_, T_, T_, T_, T_, T_, F_] rfl rfl (any_of HT_.out (by kernel_rfl)) (fun _ _ _ h => h) (Or.inr ⟨by rfl, rfl⟩) ?_ ?_
      rotate_left
      ·simp only [Act.put, la_, lz_, ls_, i64_w, i32_w]
       rfl
      refine pure_ (i := 28) (N := some 56) (v := ?_) (a' := ?_) #[T_, T_, T_, T_, T_, T_, T_, T_, T_, T_, T_, T_, T_, T_, T_, T_, T_, T_, T_, T_, T_, T_, T_, T_, T_, T_, T_, T_, T_] rfl rfl (any_of HT_.out (by kernel_rfl)) (fun _ _ _ h => h) (Or.inl ⟨by rfl, ?_⟩) ?_ ?_
      rotate_left
      ·intro w'
       go_simp
       with_reducible rfl
      rotate_left
      ·simp only [Act.put, la_, lz_, ls_, i64_w, i32_w]
       rfl
      refine done_ (done_of HT_.out (by kernel_rfl)) ?_
      try go_wp2
      go_ret
      exact ⟨by first | rfl | (simp [errW_none, errW_some] <;> rfl) | (simp [*, errW_none, errW_some] <;> rfl), us_ HB.out⟩
     ·with_reducible refine (impl_in.calls ((rd_T68 l0_3 x23_2).f0) (wrap64 (a0_0 + 1)) (wrap64 ((wrap64 (a0_0 + t304)) - 1)) true _ A19.out).mono ?_
      rintro e w' ⟨rfl, ⟨nd, rfl⟩⟩
      refine ⟨_, rfl, ?_⟩
      refine hK.out _ _ ⟨(blk_cell BK303.out 0).trans rfl, (blk_cell BK303.out 1).trans rfl, (blk_cell BK298.out 0).trans rfl, (blk_cell BK298.out 1).trans rfl, (blk_cell BK298.out 2).trans rfl, (blk_cell BK298.out 3).trans rfl⟩ (fun hHeld => ?_)
      clear hK K
      refine norm_ (a' := ?_) ?_ ?_
      rotate_left
      ·show Act.put _ (some 39) _ = _
       simp only [Act.put, la_, lz_, ls_, i64_w, i32_w]
       rfl
      refine pure_ (i := 12) (N := some 40) (v := ?_) (a' := ?_) #[T_, T_, T_, T_, T_, T_, T_, T_, T_, T_, T_, T_, T_, F_, F_, F_, F_, F_, F_, F_, F_, F_, F_, F_, F_, F_, F_, F_, F_] rfl rfl (any_of HT_.out (by kernel_rfl)) (fun _ _ _ h => h) (Or.inl ⟨by rfl, ?_⟩) ?_ ?_
      rotate_left
      ·intro w'
       go_simp
       with_reducible rfl
      rotate_left
      ·simp only [Act.put, la_, lz_, ls_, i64_w, i32_w]
       rfl
      refine pure_ (i := 13) (N := some 41) (v := ?_) (a' := ?_) #[T_, T_, T_, T_, T_, T_, T_, T_, T_, T_, T_, T_, T_, T_, F_, F_, F_, F_, F_, F_, F_, F_, F_, F_, F_, F_, F_, F_, F_] rfl rfl (any_of HT_.out (by kernel_rfl)) (fun _ _ _ h => h) (Or.inl ⟨by rfl, ?_⟩) ?_ ?_
      rotate_left
      ·intro w'
       go_simp
       with_reducible rfl
      rotate_left
      ·simp only [Act.put, la_, lz_, ls_, i64_w, i32_w]
       rfl
      refine pure_ (i := 14) (N := some 42) (v := ?_) (a' := ?_) #[T_, T_, T_, T_, T_, T_, T_, T_, T_, T_, T_, T_, T_, T_, T_, F_, F_, F_, F_, F_, F_, F_, F_, F_, F_, F_, F_, F_, F_] rfl rfl (any_of HT_.out (by kernel_rfl)) (fun _ _ _ h => h) (Or.inl ⟨by rfl, ?_⟩) ?_ ?_
      rotate_left
      ·intro w'
       go_simp
       with_reducible rfl
      rotate_left
      ·simp only [Act.put, la_, lz_, ls_, i64_w, i32_w]
       rfl
      refine pure_ (i := 15) (N := some 43) (v := ?_) (a' := ?_) #[T_, T_, T_, T_, T_, T_, T_, T_, T_, T_, T_, T_, T_, T_, T_, T_, F_, F_, F_, F_, F_, F_, F_, F_, F_, F_, F_, F_, F_] rfl rfl (any_of HT_.out (by kernel_rfl)) (fun _ _ _ h => h) (Or.inl ⟨by rfl, ?_⟩) ?_ ?_
      rotate_left
      ·intro w'
       go_simp
       with_reducible rfl
      rotate_left
      ·simp only [Act.put, la_, lz_, ls_, i64_w, i32_w]
       rfl
      refine pure_ (i := 16) (N := some 44) (v := ?_) (a' := ?_) #[T_, T_, T_, T_, T_, T_, T_, T_, T_, T_, T_, T_, T_, T_, T_, T_, T_, F_, F_, F_, F_, F_, F_, F_, F_, F_, F_, F_, F_] rfl rfl (any_of HT_.out (by kernel_rfl)) (fun _ _ _ h => h) (Or.inl ⟨by rfl, ?_⟩) ?_ ?_
      rotate_left
      ·intro w'
       go_simp
       with_reducible rfl
      rotate_left
      ·simp only [Act.put, la_, lz_, ls_, i64_w, i32_w]
       rfl
      refine pure_ (i := 17) (N := some 45) (v := undef) (a' := ?_) #[T_, T_, T_, T_, T_, T_, T_, T_, T_, T_, T_, T_, T_, T_, T_, T_, T_, T_, F_, F_, F_, F_, F_, F_, F_, F_, F_, F_, F_] rfl rfl (any_of HT_.out (by kernel_rfl)) (fun _ _ _ h => h) (Or.inr ⟨by rfl, rfl⟩) ?_ ?_
      rotate_left
      ·simp only [Act.put, la_, lz_, ls_, i64_w, i32_w]
       rfl
      refine pure_ (i := 18) (N := some 46) (v := undef) (a' := ?_) #[T_, T_, T_, T_, T_, T_, T_, T_, T_, T_, T_, T_, T_, T_, T_, T_, T_, T_, T_, F_, F_, F_, F_, F_, F_, F_, F_, F_, F_] rfl rfl (any_of HT_.out (by kernel_rfl)) (fun _ _ _ h => h) (Or.inr ⟨by rfl, rfl⟩) ?_ ?_
      rotate_left
      ·simp only [Act.put, la_, lz_, ls_, i64_w, i32_w]
       rfl
      refine pure_ (i := 19) (N := some 47) (v := undef) (a' := ?_) #[T_, T_, T_, T_, T_, T_, T_, T_, T_, T_, T_, T_, T_, T_, T_, T_, T_, T_, T_, T_, F_, F_, F_, F_, F_, F_, F_, F_, F_] rfl rfl (any_of HT_.out (by kernel_rfl)) (fun _ _ _ h => h) (Or.inr ⟨by rfl, rfl⟩) ?_ ?_
      rotate_left
      ·simp only [Act.put, la_, lz_, ls_, i64_w, i32_w]
       rfl
      refine pure_ (i := 20) (N := some 48) (v := undef) (a' := ?_) #[T_, T_, T_, T_, T_, T_, T_, T_, T_, T_, T_, T_, T_, T_, T_, T_, T_, T_, T_, T_, T_, F_, F_, F_, F_, F_, F_, F_, F_] rfl rfl (any_of HT_.out (by kernel_rfl)) (fun _ _ _ h => h) (Or.inr ⟨by rfl, rfl⟩) ?_ ?_
      rotate_left
      ·simp only [Act.put, la_, lz_, ls_, i64_w, i32_w]
       rfl
      refine pure_ (i := 21) (N := some 49) (v := undef) (a' := ?_) #[T_, T_, T_, T_, T_, T_, T_, T_, T_, T_, T_, T_, T_, T_, T_, T_, T_, T_, T_, T_, T_, T_, F_, F_, F_, F_, F_, F_, F_] rfl rfl (any_of HT_.out (by kernel_rfl)) (fun _ _ _ h => h) (Or.inr ⟨by rfl, rfl⟩) ?_ ?_
      rotate_left
      ·simp only [Act.put, la_, lz_, ls_, i64_w, i32_w]
       rfl
      refine pure_ (i := 22) (N := some 50) (v := undef) (a' := ?_) #[T_, T_, T_, T_, T_, T_, T_, T_, T_, T_, T_, T_, T_, T_, T_, T_, T_, T_, T_, T_, T_, T_, T_, F_, F_, F_, F_, F_, F_] rfl rfl (any_of HT_.out (by kernel_rfl)) (fun _ _ _ h => h) (Or.inr ⟨by rfl, rfl⟩) ?_ ?_
      rotate_left
      ·simp only [Act.put, la_, lz_, ls_, i64_w, i32_w]
       rfl
      refine pure_ (i := 23) (N := some 51) (v := undef) (a' := ?_) #[T_, T_, T_, T_, T_, T_, T_, T_, T_, T_, T_, T_, T_, T_, T_, T_, T_, T_, T_, T_, T_, T_, T_, T_, F_, F_, F_, F_, F_] rfl rfl (any_of HT_.out (by kernel_rfl)) (fun _ _ _ h => h) (Or.inr ⟨by rfl, rfl⟩) ?_ ?_
      rotate_left
      ·simp only [Act.put, la_, lz_, ls_, i64_w, i32_w]
       rfl
      refine pure_ (i := 24) (N := some 52) (v := undef) (a' := ?_) #[T_, T_, T_, T_, T_, T_, T_, T_, T_, T_, T_, T_, T_, T_, T_, T_, T_, T_, T_, T_, T_, T_, T_, T_, T_, F_, F_, F_, F_] rfl rfl (any_of HT_.out (by kernel_rfl)) (fun _ _ _ h => h) (Or.inr ⟨by rfl, rfl⟩) ?_ ?_
      rotate_left
      ·simp only [Act.put, la_, lz_, ls_, i64_w, i32_w]
       rfl
      refine pure_ (i := 25) (N := some 53) (v := undef) (a' := ?_) #[T_, T_, T_, T_, T_, T_, T_, T_, T_, T_, T_, T_, T_, T_, T_, T_, T_, T_, T_, T_, T_, T_, T_, T_, T_, T_, F_, F_, F_] rfl rfl (any_of HT_.out (by kernel_rfl)) (fun _ _ _ h => h) (Or.inr ⟨by rfl, rfl⟩) ?_ ?_
      rotate_left
      ·simp only [Act.put, la_, lz_, ls_, i64_w, i32_w]
       rfl
      refine pure_ (i := 26) (N := some 54) (v := undef) (a' := ?_) #[T_, T_, T_, T_, T_, T_, T_, T_, T_, T_, T_, T_, T_, T_, T_, T_, T_, T_, T_, T_, T_, T_, T_, T_, T_, T_, T_, F_, F_] rfl rfl (any_of HT_.out (by kernel_rfl)) (fun _ _ _ h => h) (Or.inr ⟨by rfl, rfl⟩) ?_ ?_
      rotate_left
      ·simp only [Act.put, la_, lz_, ls_, i64_w, i32_w]
       rfl
      refine pure_ (i := 27) (N := some 55) (v := ?_) (a' := ?_) #[T_, T_, T_, T_, T_, T_, T_, T_, T_, T_, T_, T_, T_, T_, T_, T_, T_, T_, T_, T_, T_, T_, T_, T_, T_, T_, T_, T_, F_] rfl rfl (any_of HT_.out (by kernel_rfl)) (fun _ _ _ h => h) (Or.inl ⟨by rfl, ?_⟩) ?_ ?_
      rotate_left
      ·intro w'
       go_simp
       with_reducible rfl
      rotate_left
      ·simp only [Act.put, la_, lz_, ls_, i64_w, i32_w]
       rfl
      refine pure_ (i := 28) (N := some 56) (v := ?_) (a' := ?_) #[T_, T_, T_, T_, T_, T_, T_, T_, T_, T_, T_, T_, T_, T_, T_, T_, T_, T_, T_, T_, T_, T_, T_, T_, T_, T_, T_, T_, T_] rfl rfl (any_of HT_.out (by kernel_rfl)) (fun _ _ _ h => h) (Or.inl ⟨by rfl, ?_⟩) ?_ ?_
      rotate_left
      ·intro w'
       go_simp
       with_reducible rfl
      rotate_left
      ·simp only [Act.put, la_, lz_, ls_, i64_w, i32_w]
       rfl
      refine done_ (done_of HT_.out (by kernel_rfl)) ?_
      try go_wp2
      go_roundg k2
      case measure => have := HJ1.out; have := HK2.out; omega
      case rel => exact ⟨(wrap64 (x23_2 + 1)), (by first | rfl | (simp; done) | (simp [*]; done)), H', ⟨by have := HJ1.out; have := HK2.out; omega⟩, ⟨u_ BK298.out⟩, ⟨us_ HB.out⟩⟩
     all_goals
      have p36520 : 0 ≤ ((ji22) : Int) := of_decide_eq_true (by first | (with_reducible assumption) | assumption)
      have q36520 : (ji22) < (l0_3.length : Int) := of_decide_eq_true (by first | (with_reducible assumption) | assumption)
      obtain ⟨ad36520, e36520, hx306_0, hx306_1⟩ := at_T68 HR0_3.out (ji22) p36520 q36520
      have hw306_1 := hx306_1
      have hw306_0 := hx306_0
      obtain rfl : ad302 = ad36520 := (by injection e36520)
      replace hx306_0 := (HB.out.cell (lc_ w _ hx306_0)).trans hx306_0
      replace hx306_1 := (HB.out.cell (lc_ w _ hx306_1)).trans hx306_1
      replace p36520 := eq_true p36520
      replace q36520 := eq_true q36520
      refine start_ (n := 29) (S := fun w' => w'.cell? ⟨gb18440, 0, none⟩ = some (.int .i64 ((rd_T68 l0_3 x23_2).f0)) ∧ w'.cell? ⟨gb18440, 1, none⟩ = some (.int .u8 ((rd_T68 l0_3 x23_2).f1)) ∧ w'.cell? ⟨gb298, 0, none⟩ = some (.int .i64 a0_0) ∧ w'.cell? ⟨gb298, 1, none⟩ = some (.int .i64 a0_1) ∧ w'.cell? ⟨gb298, 2, none⟩ = some (.slice A0_2 l0_2.length c0_2) ∧ w'.cell? ⟨gb298, 3, none⟩ = some (.slice (some ad302) l0_3.length c0_3) ∧ w'.cell? (ad302.add (((ji22)).toNat * 2)) = some (.int .i64 ((rd_T68 l0_3 (ji22)).f0)) ∧ w'.cell? ⟨(ad302.add (((ji22)).toNat * 2)).block, (ad302.add (((ji22)).toNat * 2)).off + 1, none⟩ = some (.int .u8 ((rd_T68 l0_3 (ji22)).f1))) (ds := []) #[F_, F_, F_, F_, F_, F_, F_, F_, F_, F_, F_, F_, F_, F_, F_, F_, F_, F_, F_, F_, F_, F_, F_, F_, F_, F_, F_, F_, F_] (by kernel_rfl) rfl rfl ⟨(blk_cell BK303.out 0).trans rfl, (blk_cell BK303.out 1).trans rfl, (blk_cell BK298.out 0).trans rfl, (blk_cell BK298.out 1).trans rfl, (blk_cell BK298.out 2).trans rfl, (blk_cell BK298.out 3).trans rfl, ((HB.out.cell (lc_ w _ hw306_0)).trans hw306_0), ((HB.out.cell (lc_ w _ hw306_1)).trans hw306_1)⟩ (fun hHeld => ?_); refine with_tabW impl_EarOk.tab6 impl_EarOk.bits6 (fun HT_ HW_ => ?_)
      generalize w35080.drew = w36800 at BK298 BK303 HB hx306_0 hx306_1 hHeld ⊢
      refine pure_ (i := 0) (N := some 28) (v := ?_) (a' := ?_) #[T_, F_, F_, F_, F_, F_, F_, F_, F_, F_, F_, F_, F_, F_, F_, F_, F_, F_, F_, F_, F_, F_, F_, F_, F_, F_, F_, F_, F_] rfl rfl (any_of HT_.out (by kernel_rfl)) (fun _ _ _ h => h) (Or.inl ⟨by rfl, ?_⟩) ?_ ?_
      rotate_left
      ·intro w'
       go_simp
       with_reducible rfl
      rotate_left
      ·simp only [Act.put, la_, lz_, ls_, i64_w, i32_w]
       rfl
      refine pure_ (i := 2) (N := some 30) (v := ?_) (a' := ?_) #[T_, F_, T_, F_, F_, F_, F_, F_, F_, F_, F_, F_, F_, F_, F_, F_, F_, F_, F_, F_, F_, F_, F_, F_, F_, F_, F_, F_, F_] rfl rfl (any_of HT_.out (by kernel_rfl)) (fun _ _ _ h => h) (Or.inl ⟨by rfl, ?_⟩) ?_ ?_
      rotate_left
      ·intro w'
       go_simp
       with_reducible rfl
      rotate_left
      ·simp only [Act.put, la_, lz_, ls_, i64_w, i32_w]
       rfl
      refine pure_ (i := 5) (N := some 33) (v := ?_) (a' := ?_) #[T_, F_, T_, F_, F_, T_, F_, F_, F_, F_, F_, F_, F_, F_, F_, F_, F_, F_, F_, F_, F_, F_, F_, F_, F_, F_, F_, F_, F_] rfl rfl (any_of HT_.out (by kernel_rfl)) (fun _ _ _ h => h) (Or.inl ⟨by rfl, ?_⟩) ?_ ?_
      rotate_left
      ·intro w'
       go_simp
       with_reducible rfl
      rotate_left
      ·simp only [Act.put, la_, lz_, ls_, i64_w, i32_w]
       rfl
      refine take_ (i := 1) (N := some 29) (v := ?_) (a' := ?_) #[T_, T_, T_, F_, F_, T_, F_, F_, F_, F_, F_, F_, F_, F_, F_, F_, F_, F_, F_, F_, F_, F_, F_, F_, F_, F_, F_, F_, F_] rfl rfl (take_ofW HT_.out HW_.out (by kernel_rfl)) (fun _ _ _ h => h) (Or.inl ⟨by rfl, ?_⟩) hHeld ?_ ?_
      rotate_left
      ·rintro w' ⟨s20400, s20401, s20402, s20403, s20404, s20405, s20406, s20407⟩
       go_simp
       with_reducible rfl
      rotate_left
      ·simp only [Act.put, la_, lz_, ls_, i64_w, i32_w]
       rfl
      refine take_ (i := 3) (N := some 31) (v := ?_) (a' := ?_) #[T_, T_, T_, T_, F_, T_, F_, F_, F_, F_, F_, F_, F_, F_, F_, F_, F_, F_, F_, F_, F_, F_, F_, F_, F_, F_, F_, F_, F_] rfl rfl (take_ofW HT_.out HW_.out (by kernel_rfl)) (fun _ _ _ h => h) (Or.inl ⟨by rfl, ?_⟩) hHeld ?_ ?_
      rotate_left
      ·rintro w' ⟨s20400, s20401, s20402, s20403, s20404, s20405, s20406, s20407⟩
       go_simp
       with_reducible rfl
      rotate_left
      ·simp only [Act.put, la_, lz_, ls_, i64_w, i32_w]
       rfl
      refine pure_ (i := 4) (N := some 32) (v := ?_) (a' := ?_) #[T_, T_, T_, T_, T_, T_, F_, F_, F_, F_, F_, F_, F_, F_, F_, F_, F_, F_, F_, F_, F_, F_, F_, F_, F_, F_, F_, F_, F_] rfl rfl (any_of HT_.out (by kernel_rfl)) (fun _ _ _ h => h) (Or.inl ⟨by rfl, ?_⟩) ?_ ?_
      rotate_left
      ·intro w'
       go_simp
       with_reducible rfl
      rotate_left
      ·simp only [Act.put, la_, lz_, ls_, i64_w, i32_w]
       rfl
      refine take_ (i := 6) (N := some 34) (v := ?_) (a' := ?_) #[T_, T_, T_, T_, T_, T_, T_, F_, F_, F_, F_, F_, F_, F_, F_, F_, F_, F_, F_, F_, F_, F_, F_, F_, F_, F_, F_, F_, F_] rfl rfl (take_ofW HT_.out HW_.out (by kernel_rfl)) (fun _ _ _ h => h) (Or.inl ⟨by rfl, ?_⟩) hHeld ?_ ?_
      rotate_left
      ·rintro w' ⟨s20400, s20401, s20402, s20403, s20404, s20405, s20406, s20407⟩
       go_simp
       with_reducible rfl
      rotate_left
      ·simp only [Act.put, la_, lz_, ls_, i64_w, i32_w]
       rfl
      refine take_ (i := 7) (N := some 35) (v := ?_) (a' := ?_) #[T_, T_, T_, T_, T_, T_, T_, T_, F_, F_, F_, F_, F_, F_, F_, F_, F_, F_, F_, F_, F_, F_, F_, F_, F_, F_, F_, F_, F_] rfl rfl (take_ofW HT_.out HW_.out (by kernel_rfl)) (fun _ _ _ h => h) (Or.inl ⟨by rfl, ?_⟩) hHeld ?_ ?_
      rotate_left
      ·rintro w' ⟨s20400, s20401, s20402, s20403, s20404, s20405, s20406, s20407⟩
       go_simp
       with_reducible rfl
      rotate_left
      ·simp only [Act.put, la_, lz_, ls_, i64_w, i32_w]
       rfl
      refine one_ (i := 8) (N := some 36) #[T_, T_, T_, T_, T_, T_, T_, T_, T_, F_, F_, F_, F_, F_, F_, F_, F_, F_, F_, F_, F_, F_, F_, F_, F_, F_, F_, F_, F_] rfl rfl (one_of HT_.out (by kernel_rfl)) (by decide) (fun K hK => ?_)
      refine goes_ Try.func76 (by kernel_rfl) rfl #[.agg #[.int .i64 a0_0, .int .i64 a0_1, .slice A0_2 l0_2.length c0_2, .slice (some ad302) l0_3.length c0_3]] (by rfl) rfl rfl (by (try simp only [lm_, lo_, ln_]); try rfl) ?_
      with_reducible refine (impl_Ear_free.calls a0_0 a0_1 _ _ l0_2 _ _ l0_3 t304 _ ?side1 ?side2 ?side3 ?side4 A18.out).mono ?_
      (case side1 => repeat (first | exact (Kd.C_below HR0_2.out HB.out) | (with_reducible refine Kd.C_alloc ?_ _) | (with_reducible refine Kd.C_drewN ?_ _) | (with_reducible refine Kd.C_drew ?_)))
      (case side2 => exact HC0_2.out)
      (case side3 => repeat (first | exact (Kd.C_below HR0_3.out HB.out) | (with_reducible refine Kd.C_alloc ?_ _) | (with_reducible refine Kd.C_drewN ?_ _) | (with_reducible refine Kd.C_drew ?_)))
      (case side4 => exact HC0_3.out)
      rintro e w35440 ⟨rfl, hb⟩
      refine ⟨_, rfl, ?_⟩
      have n0_ := mk_ (blk_below (u_ BK298.out) hb)
      have n1_ := mk_ (blk_below (u_ BK303.out) hb)
      have n2_ := mk_ (below_step (us_ HB.out) hb)
      clear BK298
      clear BK303
      clear HB
      have BK298 := n0_
      have BK303 := n1_
      have HB := n2_
      clear n0_ n1_ n2_
      (try clear hb)
      (try clear hb2)
      (try clear hk)
      (try clear hi)
      refine hK.out _ _ ⟨(blk_cell BK303.out 0).trans rfl, (blk_cell BK303.out 1).trans rfl, (blk_cell BK298.out 0).trans rfl, (blk_cell BK298.out 1).trans rfl, (blk_cell BK298.out 2).trans rfl, (blk_cell BK298.out 3).trans rfl, ((HB.out.cell (lc_ w _ hw306_0)).trans hw306_0), ((HB.out.cell (lc_ w _ hw306_1)).trans hw306_1)⟩ (fun hHeld => ?_)
      clear hK K
      refine norm_ (a' := ?_) ?_ ?_
      rotate_left
      ·show Act.put _ (some 36) _ = _
       simp only [Act.put, la_, lz_, ls_, i64_w, i32_w]
       rfl
      refine pure_ (i := 9) (N := some 37) (v := ?_) (a' := ?_) #[T_, T_, T_, T_, T_, T_, T_, T_, T_, T_, F_, F_, F_, F_, F_, F_, F_, F_, F_, F_, F_, F_, F_, F_, F_, F_, F_, F_, F_] rfl rfl (any_of HT_.out (by kernel_rfl)) (fun _ _ _ h => h) (Or.inl ⟨by rfl, ?_⟩) ?_ ?_
      rotate_left
      ·intro w'
       go_simp
       with_reducible rfl
      rotate_left
      ·simp only [Act.put, la_, lz_, ls_, i64_w, i32_w]
       rfl
      refine pure_ (i := 10) (N := some 38) (v := ?_) (a' := ?_) #[T_, T_, T_, T_, T_, T_, T_, T_, T_, T_, T_, F_, F_, F_, F_, F_, F_, F_, F_, F_, F_, F_, F_, F_, F_, F_, F_, F_, F_] rfl rfl (any_of HT_.out (by kernel_rfl)) (fun _ _ _ h => h) (Or.inl ⟨by rfl, ?_⟩) ?_ ?_
      rotate_left
      ·intro w'
       go_simp
       with_reducible rfl
      rotate_left
      ·simp only [Act.put, la_, lz_, ls_, i64_w, i32_w]
       rfl
      refine one_ (i := 11) (N := some 39) #[T_, T_, T_, T_, T_, T_, T_, T_, T_, T_, T_, T_, F_, F_, F_, F_, F_, F_, F_, F_, F_, F_, F_, F_, F_, F_, F_, F_, F_] rfl rfl (one_of HT_.out (by kernel_rfl)) (by decide) (fun K hK => ?_)
      refine goes_ Try.func48 (by kernel_rfl) rfl #[.int .i64 ((rd_T68 l0_3 x23_2).f0), .int .i64 (wrap64 (a0_0 + 1)), .int .i64 (wrap64 ((wrap64 (a0_0 + t304)) - 1))] (by rfl) rfl rfl (by (try simp only [lm_, lo_, ln_]); try rfl) ?_
      with_reducible refine (impl_in.calls ((rd_T68 l0_3 x23_2).f0) (wrap64 (a0_0 + 1)) (wrap64 ((wrap64 (a0_0 + t304)) - 1)) true _ A19.out).mono ?_
      rintro e w' ⟨rfl, ⟨nd, rfl⟩⟩
      refine ⟨_, rfl, ?_⟩
      refine hK.out _ _ ⟨(blk_cell BK303.out 0).trans rfl, (blk_cell BK303.out 1).trans rfl, (blk_cell BK298.out 0).trans rfl, (blk_cell BK298.out 1).trans rfl, (blk_cell BK298.out 2).trans rfl, (blk_cell BK298.out 3).trans rfl, ((HB.out.cell (lc_ w _ hw306_0)).trans hw306_0), ((HB.out.cell (lc_ w _ hw306_1)).trans hw306_1)⟩ (fun hHeld => ?_)
      clear hK K
      refine norm_ (a' := ?_) ?_ ?_
      rotate_left
      ·show Act.put _ (some 39) _ = _
       simp only [Act.put, la_, lz_, ls_, i64_w, i32_w]
       rfl
      refine pure_ (i := 12) (N := some 40) (v := ?_) (a' := ?_) #[T_, T_, T_, T_, T_, T_, T_, T_, T_, T_, T_, T_, T_, F_, F_, F_, F_, F_, F_, F_, F_, F_, F_, F_, F_, F_, F_, F_, F_] rfl rfl (any_of HT_.out (by kernel_rfl)) (fun _ _ _ h => h) (Or.inl ⟨by rfl, ?_⟩) ?_ ?_
      rotate_left
      ·intro w'
       go_simp
       with_reducible rfl
      rotate_left
      ·simp only [Act.put, la_, lz_, ls_, i64_w, i32_w]
       rfl
      refine pure_ (i := 13) (N := some 41) (v := ?_) (a' := ?_) #[T_, T_, T_, T_, T_, T_, T_, T_, T_, T_, T_, T_, T_, T_, F_, F_, F_, F_, F_, F_, F_, F_, F_, F_, F_, F_, F_, F_, F_] rfl rfl (any_of HT_.out (by kernel_rfl)) (fun _ _ _ h => h) (Or.inl ⟨by rfl, ?_⟩) ?_ ?_
      rotate_left
      ·intro w'
       go_simp
       with_reducible rfl
      rotate_left
      ·simp only [Act.put, la_, lz_, ls_, i64_w, i32_w]
       rfl
      refine pure_ (i := 14) (N := some 42) (v := ?_) (a' := ?_) #[T_, T_, T_, T_, T_, T_, T_, T_, T_, T_, T_, T_, T_, T_, T_, F_, F_, F_, F_, F_, F_, F_, F_, F_, F_, F_, F_, F_, F_] rfl rfl (any_of HT_.out (by kernel_rfl)) (fun _ _ _ h => h) (Or.inl ⟨by rfl, ?_⟩) ?_ ?_
      rotate_left
      ·intro w'
       go_simp
       with_reducible rfl
      rotate_left
      ·simp only [Act.put, la_, lz_, ls_, i64_w, i32_w]
       rfl
      refine pure_ (i := 15) (N := some 43) (v := ?_) (a' := ?_) #[T_, T_, T_, T_, T_, T_, T_, T_, T_, T_, T_, T_, T_, T_, T_, T_, F_, F_, F_, F_, F_, F_, F_, F_, F_, F_, F_, F_, F_] rfl rfl (any_of HT_.out (by kernel_rfl)) (fun _ _ _ h => h) (Or.inl ⟨by rfl, ?_⟩) ?_ ?_
      rotate_left
      ·intro w'
       go_simp
       with_reducible rfl
      rotate_left
      ·simp only [Act.put, la_, lz_, ls_, i64_w, i32_w]
       rfl
      refine pure_ (i := 16) (N := some 44) (v := ?_) (a' := ?_) #[T_, T_, T_, T_, T_, T_, T_, T_, T_, T_, T_, T_, T_, T_, T_, T_, T_, F_, F_, F_, F_, F_, F_, F_, F_, F_, F_, F_, F_] rfl rfl (any_of HT_.out (by kernel_rfl)) (fun _ _ _ h => h) (Or.inl ⟨by rfl, ?_⟩) ?_ ?_
      rotate_left
      ·intro w'
       go_simp
       with_reducible rfl
      rotate_left
      ·simp only [Act.put, la_, lz_, ls_, i64_w, i32_w]
       rfl
      refine pure_ (i := 17) (N := some 45) (v := ?_) (a' := ?_) #[T_, T_, T_, T_, T_, T_, T_, T_, T_, T_, T_, T_, T_, T_, T_, T_, T_, T_, F_, F_, F_, F_, F_, F_, F_, F_, F_, F_, F_] rfl rfl (any_of HT_.out (by kernel_rfl)) (fun _ _ _ h => h) (Or.inl ⟨by rfl, ?_⟩) ?_ ?_
      rotate_left
      ·intro w'
       go_simp
       with_reducible rfl
      rotate_left
      ·simp only [Act.put, la_, lz_, ls_, i64_w, i32_w]
       rfl
      refine pure_ (i := 19) (N := some 47) (v := ?_) (a' := ?_) #[T_, T_, T_, T_, T_, T_, T_, T_, T_, T_, T_, T_, T_, T_, T_, T_, T_, T_, F_, T_, F_, F_, F_, F_, F_, F_, F_, F_, F_] rfl rfl (any_of HT_.out (by kernel_rfl)) (fun _ _ _ h => h) (Or.inl ⟨by rfl, ?_⟩) ?_ ?_
      rotate_left
      ·intro w'
       go_simp
       with_reducible rfl
      rotate_left
      ·simp only [Act.put, la_, lz_, ls_, i64_w, i32_w]
       rfl
      refine pure_ (i := 20) (N := some 48) (v := ?_) (a' := ?_) #[T_, T_, T_, T_, T_, T_, T_, T_, T_, T_, T_, T_, T_, T_, T_, T_, T_, T_, F_, T_, T_, F_, F_, F_, F_, F_, F_, F_, F_] rfl rfl (any_of HT_.out (by kernel_rfl)) (fun _ _ _ h => h) (Or.inl ⟨by rfl, ?_⟩) ?_ ?_
      rotate_left
      ·intro w'
       go_simp
       with_reducible rfl
      rotate_left
      ·simp only [Act.put, la_, lz_, ls_, i64_w, i32_w]
       rfl
      refine pure_ (i := 24) (N := some 52) (v := ?_) (a' := ?_) #[T_, T_, T_, T_, T_, T_, T_, T_, T_, T_, T_, T_, T_, T_, T_, T_, T_, T_, F_, T_, T_, F_, F_, F_, T_, F_, F_, F_, F_] rfl rfl (any_of HT_.out (by kernel_rfl)) (fun _ _ _ h => h) (Or.inl ⟨by rfl, ?_⟩) ?_ ?_
      rotate_left
      ·intro w'
       go_simp
       with_reducible rfl
      rotate_left
      ·simp only [Act.put, la_, lz_, ls_, i64_w, i32_w]
       rfl
      refine take_ (i := 18) (N := some 46) (v := ?_) (a' := ?_) #[T_, T_, T_, T_, T_, T_, T_, T_, T_, T_, T_, T_, T_, T_, T_, T_, T_, T_, T_, T_, T_, F_, F_, F_, T_, F_, F_, F_, F_] rfl rfl (take_ofW HT_.out HW_.out (by kernel_rfl)) (fun _ _ _ h => h) (Or.inl ⟨by rfl, ?_⟩) hHeld ?_ ?_
      rotate_left
      ·rintro w' ⟨s20400, s20401, s20402, s20403, s20404, s20405, s20406, s20407⟩
       go_simp
       with_reducible rfl
      rotate_left
      ·simp only [Act.put, la_, lz_, ls_, i64_w, i32_w]
       rfl
      refine pure_ (i := 21) (N := some 49) (v := ?_) (a' := ?_) #[T_, T_, T_, T_, T_, T_, T_, T_, T_, T_, T_, T_, T_, T_, T_, T_, T_, T_, T_, T_, T_, T_, F_, F_, T_, F_, F_, F_, F_] rfl rfl (any_of HT_.out (by kernel_rfl)) (fun _ _ _ h => h) (Or.inl ⟨by rfl, ?_⟩) ?_ ?_
      rotate_left
      ·intro w'
       go_simp
       with_reducible rfl
      rotate_left
      ·simp only [Act.put, la_, lz_, ls_, i64_w, i32_w]
       rfl
      refine pure_ (i := 22) (N := some 50) (v := ?_) (a' := ?_) #[T_, T_, T_, T_, T_, T_, T_, T_, T_, T_, T_, T_, T_, T_, T_, T_, T_, T_, T_, T_, T_, T_, T_, F_, T_, F_, F_, F_, F_] rfl rfl (any_of HT_.out (by kernel_rfl)) (fun _ _ _ h => h) (Or.inl ⟨by rfl, ?_⟩) ?_ ?_
      rotate_left
      ·intro w'
       go_simp
       with_reducible rfl
      rotate_left
      ·simp only [Act.put, la_, lz_, ls_, i64_w, i32_w]
       rfl
      refine take_ (i := 23) (N := some 51) (v := ?_) (a' := ?_) #[T_, T_, T_, T_, T_, T_, T_, T_, T_, T_, T_, T_, T_, T_, T_, T_, T_, T_, T_, T_, T_, T_, T_, T_, T_, F_, F_, F_, F_] rfl rfl (take_ofW HT_.out HW_.out (by kernel_rfl)) (fun _ _ _ h => h) (Or.inl ⟨by rfl, ?_⟩) hHeld ?_ ?_
      rotate_left
      ·rintro w' ⟨s20400, s20401, s20402, s20403, s20404, s20405, s20406, s20407⟩
       go_simp
       with_reducible rfl
      rotate_left
      ·simp only [Act.put, la_, lz_, ls_, i64_w, i32_w]
       rfl
      refine take_ (i := 25) (N := some 53) (v := ?_) (a' := ?_) #[T_, T_, T_, T_, T_, T_, T_, T_, T_, T_, T_, T_, T_, T_, T_, T_, T_, T_, T_, T_, T_, T_, T_, T_, T_, T_, F_, F_, F_] rfl rfl (take_ofW HT_.out HW_.out (by kernel_rfl)) (fun _ _ _ h => h) (Or.inl ⟨by rfl, ?_⟩) hHeld ?_ ?_
      rotate_left
      ·rintro w' ⟨s20400, s20401, s20402, s20403, s20404, s20405, s20406, s20407⟩
       go_simp
       with_reducible rfl
      rotate_left
      ·simp only [Act.put, la_, lz_, ls_, i64_w, i32_w]
       rfl
      refine pure_ (i := 26) (N := some 54) (v := ?_) (a' := ?_) #[T_, T_, T_, T_, T_, T_, T_, T_, T_, T_, T_, T_, T_, T_, T_, T_, T_, T_, T_, T_, T_, T_, T_, T_, T_, T_, T_, F_, F_] rfl rfl (any_of HT_.out (by kernel_rfl)) (fun _ _ _ h => h) (Or.inl ⟨by rfl, ?_⟩) ?_ ?_
      rotate_left
      ·intro w'
       go_simp
       with_reducible rfl
      rotate_left
      ·simp only [Act.put, la_, lz_, ls_, i64_w, i32_w]
       rfl
      refine pure_ (i := 27) (N := some 55) (v := ?_) (a' := ?_) #[T_, T_, T_, T_, T_, T_, T_, T_, T_, T_, T_, T_, T_, T_, T_, T_, T_, T_, T_, T_, T_, T_, T_, T_, T_, T_, T_, T_, F_] rfl rfl (any_of HT_.out (by kernel_rfl)) (fun _ _ _ h => h) (Or.inl ⟨by rfl, ?_⟩) ?_ ?_
      rotate_left
      ·intro w'
       go_simp
       with_reducible rfl
      rotate_left
      ·simp only [Act.put, la_, lz_, ls_, i64_w, i32_w]
       rfl
      refine pure_ (i := 28) (N := some 56) (v := ?_) (a' := ?_) #[T_, T_, T_, T_, T_, T_, T_, T_, T_, T_, T_, T_, T_, T_, T_, T_, T_, T_, T_, T_, T_, T_, T_, T_, T_, T_, T_, T_, T_] rfl rfl (any_of HT_.out (by kernel_rfl)) (fun _ _ _ h => h) (Or.inl ⟨by rfl, ?_⟩) ?_ ?_
      rotate_left
      ·intro w'
       go_simp
       with_reducible rfl
      rotate_left
      ·simp only [Act.put, la_, lz_, ls_, i64_w, i32_w]
       rfl
      refine done_ (done_of HT_.out (by kernel_rfl)) ?_
      try go_wp2
     ·go_ret
      exact ⟨by first | rfl | (simp [errW_none, errW_some] <;> rfl) | (simp only [← hji22]; first | rfl | (simp [errW_none, errW_some] <;> rfl)) | (simp [*, errW_none, errW_some] <;> rfl), us_ HB.out⟩
     ·go_roundg k2
      case measure => have := HJ1.out; have := HK2.out; omega
      case rel => exact ⟨(wrap64 (x23_2 + 1)), (by first | rfl | (simp; done) | (simp [*]; done)), H', ⟨by have := HJ1.out; have := HK2.out; omega⟩, ⟨u_ BK298.out⟩, ⟨us_ HB.out⟩⟩

end Go.Proofs.Ytkkibccnpkbbjab.MFnEarOk
