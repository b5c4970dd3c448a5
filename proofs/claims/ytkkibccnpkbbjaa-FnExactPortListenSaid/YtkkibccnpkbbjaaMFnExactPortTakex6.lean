/- Functions that the law FnExactPortTake reaches, each with the proof that the machine's call comes to just its answer; no conditions but those that each theorem states. Printed by a program of this session over the kit's print. -/
import Derived.Test.YtkkibccnpkbbjaaMFnExactPortTakex0
import Derived.Test.YtkkibccnpkbbjaaMFnExactPortTakex5
namespace Go.Proofs.Ytkkibccnpkbbjaa.MFnExactPortTake
open Go.RowKit Go.Proofs.YtkkibccnpkbbjaaV.PrintWords Go.Proofs.YtkkibccnpkbbjaaV.PrintLast Go.Proofs.YtkkibccnpkbbjaaV.PrintMore
attribute [local go_sem] max2_int min2_int max_two min_two max_three min_three max_four min_four   -- for this text's walks alone
set_option linter.unusedVariables false
set_option linter.unusedSimpArgs false

/-! ### spec_l9At: function 51 -/
def spec_l9At.l0 : Nat → List (S47) → Int → Int → Option (Int)
 | 0, _, _, _ => none
 | k + 1, x0, x1, x5 => if x5 < (x0.length : Int) then (if 0 ≤ x5 then (if ((rd_T47 x0 x5).f0) = x1 then (some x5) else (spec_l9At.l0 k x0 x1 (wrap64 (x5 + 1)))) else (none)) else (some (-1))
def spec_l9At.f (k : Nat) (l0 : List (S47)) (a1 : Int) : Option (Int) := spec_l9At.l0 k l0 a1 0
theorem spec_l9At.mono_l : ∀ k, (∀ y0 y1 y2, LeO (spec_l9At.l0 k y0 y1 y2) (spec_l9At.l0 (k + 1) y0 y1 y2))
 | 0 => fun _ _ _ r h => by simp [spec_l9At.l0] at h
 | k + 1 => by
  have ih0 := spec_l9At.mono_l k
  ·intro y0 y1 y2
   unfold spec_l9At.l0
   repeat' first
   | (with_reducible exact ih0 _ _ _)
   | (with_reducible exact LeO.refl _)
   | (with_reducible exact LeO.none _)
   | (with_reducible refine LeO.ite ?_ ?_)
   | (with_reducible refine LeO.bind ?_ (fun _ => ?_))
   | exact ih0 _ _ _
   | exact LeO.none _
   | refine LeO.ite ?_ ?_
   | refine LeO.bind ?_ (fun _ => ?_)
theorem spec_l9At.mono : ∀ a0 a1 k, LeO (spec_l9At.f k a0 a1) (spec_l9At.f (k + 1) a0 a1) := by
 intro a0 a1 k
 have ih0 := spec_l9At.mono_l k
 unfold spec_l9At.f
 repeat' first
   | (with_reducible exact ih0 _ _ _)
   | (with_reducible exact LeO.refl _)
   | (with_reducible exact LeO.none _)
   | (with_reducible refine LeO.ite ?_ ?_)
   | (with_reducible refine LeO.bind ?_ (fun _ => ?_))
   | exact ih0 _ _ _
   | exact LeO.none _
   | refine LeO.ite ?_ ?_
   | refine LeO.bind ?_ (fun _ => ?_)
set_option maxHeartbeats 8000000 in
set_option maxRecDepth 100000 in
theorem spec_l9At.calls (k : Nat) (A0 : Option Addr) (c0 : Nat) (l0 : List (S47)) (a1 : Int) (r : Int) (w : World) (hr0 : Kd.C k47 w A0 l0.length l0) (hc0 : l0.length ≤ c0) (h : spec_l9At.f k l0 a1 = some r) :
  Calls Try.prog 51 #[.slice A0 l0.length c0, .int .i64 a1] w fun e w' => e = .returned (.int .i64 r) ∧ Drawn0 w w' := by
 have HR0 := mk_ hr0
 have HC0 := mk_ hc0
 clear hr0 hc0
 have H : (spec_l9At.l0 k l0 a1 0) = some r := h
 clear h
 have H' := mk_ H
 clear H
 go_enter Try.func51, Try.ntmps51
 go_wp2
 go_loopg [5] k (fun kq v5 w' => ∃ (x5_1 : Int), v5 = .int .i64 x5_1 ∧ Aside0 (spec_l9At.l0 kq l0 a1 x5_1 = some r) ∧ Aside0 (kq ≤ k) ∧ Drawn0 w w')
 case atStart => exact ⟨(0), (by first | rfl | (simp; done) | (simp [*]; done)), H', ⟨Nat.le_refl _⟩, by repeat (first | exact Drawn0.refl _ | apply Drawn0.step)⟩
 case round =>
  clear H'
  try clear p2
  obtain ⟨x5_1, rfl, HA, HK1, ⟨m1, rfl⟩⟩ := hrel
  cases gk with
  | zero => exact absurd HA.out (by simp [spec_l9At.l0])
  | succ k1 =>
   have H := HA.out
   clear HA
   simp only [spec_l9At.l0] at H
   by_cases c3 : x5_1 < (l0.length : Int)
   rotate_left
   ·rw [if_neg c3] at H
    have c3b0 : decide (x5_1 < (l0.length : Int)) = false := decide_eq_false c3
    clear c3
    obtain rfl := Option.some.inj H
    go_wp2
    go_ret
    exact ⟨by first | rfl | (simp; done) | (simp [*]; done), by repeat (first | exact Drawn0.refl _ | apply Drawn0.step)⟩
   rw [if_pos c3] at H
   have c3b0 : decide (x5_1 < (l0.length : Int)) = true := decide_eq_true c3
   clear c3
   by_cases c4 : 0 ≤ x5_1
   rotate_left
   ·rw [if_neg c4] at H
    exact absurd H (by simp)
   rw [if_pos c4] at H
   have c4b0 : decide (0 ≤ x5_1) = true := decide_eq_true c4
   clear c4
   by_cases c5 : ((rd_T47 l0 x5_1).f0) = a1
   ·rw [if_pos c5] at H
    have c5b0 : (((rd_T47 l0 x5_1).f0) == a1) = true := beq_iff_eq.mpr c5
    have c5b1 : (((rd_T47 l0 x5_1).f0) != a1) = false := bne_eq_false_iff_eq.mpr c5
    clear c5
    obtain rfl := Option.some.inj H
    have p187 : 0 ≤ (x5_1 : Int) := of_decide_eq_true (by first | (with_reducible assumption) | assumption)
    have q187 : x5_1 < (l0.length : Int) := of_decide_eq_true (by first | (with_reducible assumption) | assumption)
    obtain ⟨ad187, A187_1, c187_1, e187, hx187_0, hx187_1, hl187_1, hi187_1⟩ := at_T47 HR0.out x5_1 p187 q187
    cases e187
    have HR187_1 := mk_ hi187_1
    have HC187_1 := mk_ hl187_1
    clear hi187_1 hl187_1
    replace p187 := eq_true p187
    replace q187 := eq_true q187
    go_wp2
    go_ret
    exact ⟨by first | rfl | (simp; done) | (simp [*]; done), by repeat (first | exact Drawn0.refl _ | apply Drawn0.step)⟩
   rw [if_neg c5] at H
   have c5b0 : (((rd_T47 l0 x5_1).f0) == a1) = false := beq_eq_false_iff_ne.mpr c5
   have c5b1 : (((rd_T47 l0 x5_1).f0) != a1) = true := bne_iff_ne.mpr c5
   have H' := mk_ H
   clear H
   have p187 : 0 ≤ (x5_1 : Int) := of_decide_eq_true (by first | (with_reducible assumption) | assumption)
   have q187 : x5_1 < (l0.length : Int) := of_decide_eq_true (by first | (with_reducible assumption) | assumption)
   obtain ⟨ad187, A187_1, c187_1, e187, hx187_0, hx187_1, hl187_1, hi187_1⟩ := at_T47 HR0.out x5_1 p187 q187
   cases e187
   have HR187_1 := mk_ hi187_1
   have HC187_1 := mk_ hl187_1
   clear hi187_1 hl187_1
   replace p187 := eq_true p187
   replace q187 := eq_true q187
   go_wp2
   go_roundg k1
   case measure => have := HK1.out; omega
   case rel => exact ⟨(wrap64 (x5_1 + 1)), (by first | rfl | (simp; done) | (simp [*]; done)), H', ⟨by have := HK1.out; omega⟩, by repeat (first | exact Drawn0.refl _ | apply Drawn0.step)⟩

/-! ### spec_l9Copy: function 52 -/
mutual
def spec_l9Copy.l0 : Nat → List (S47) → List (S47) → Int → Option ((List (S47)))
 | 0, _, _, _ => none
 | k + 1, x0, x3, x4 => if x4 < (x0.length : Int) then (if 0 ≤ x4 then (spec_l9Copy.l1 k x0 x3 x4 0 ((rd_T47 x0 x4).f0) ([] : List (S40))) else (none)) else (some x3)
def spec_l9Copy.l1 : Nat → List (S47) → List (S47) → Int → Int → Int → List (S40) → Option ((List (S47)))
 | 0, _, _, _, _, _, _ => none
 | k + 1, x0, x3, x4, x6, x193000, x193001 => if 0 ≤ x4 then (if x4 < (x0.length : Int) then (if x6 < (((rd_T47 x0 x4).f1).length : Int) then (if 0 ≤ x6 then ((some (([] : List Int) : List Int)).bind fun y197 => (if y197.length + ((rd_T40 ((rd_T47 x0 x4).f1) x6).f3).length < 140737488355328 then (if x193001.length < 2932031007402 then (spec_l9Copy.l1 k x0 x3 x4 (wrap64 (x6 + 1)) x193000 (x193001 ++ [(⟨(rd_T40 ((rd_T47 x0 x4).f1) x6).f0, (rd_T40 ((rd_T47 x0 x4).f1) x6).f1, (rd_T40 ((rd_T47 x0 x4).f1) x6).f2, (y197 ++ ((rd_T40 ((rd_T47 x0 x4).f1) x6).f3))⟩ : S40)])) else (none)) else (none))) else (none)) else (if x3.length < 4398046511104 then (spec_l9Copy.l0 k x0 (x3 ++ [(⟨x193000, x193001⟩ : S47)]) (wrap64 (x4 + 1))) else (none))) else (none)) else (none)
end
def spec_l9Copy.f (k : Nat) (l0 : List (S47)) : Option ((List (S47))) := spec_l9Copy.l0 k l0 (([] : List (S47))) 0
theorem spec_l9Copy.mono_l : ∀ k, (∀ y0 y1 y2, LeO (spec_l9Copy.l0 k y0 y1 y2) (spec_l9Copy.l0 (k + 1) y0 y1 y2)) ∧ (∀ y0 y1 y2 y3 y4 y5, LeO (spec_l9Copy.l1 k y0 y1 y2 y3 y4 y5) (spec_l9Copy.l1 (k + 1) y0 y1 y2 y3 y4 y5))
 | 0 => ⟨fun _ _ _ r h => by simp [spec_l9Copy.l0] at h, fun _ _ _ _ _ _ r h => by simp [spec_l9Copy.l1] at h⟩
 | k + 1 => by
  obtain ⟨ih0, ih1⟩ := spec_l9Copy.mono_l k
  refine ⟨?_, ?_⟩
  ·intro y0 y1 y2
   unfold spec_l9Copy.l0
   repeat' first
   | (with_reducible exact ih0 _ _ _)
   | (with_reducible exact ih1 _ _ _ _ _ _)
   | (with_reducible exact LeO.refl _)
   | (with_reducible exact LeO.none _)
   | (with_reducible refine LeO.ite ?_ ?_)
   | (with_reducible refine LeO.bind ?_ (fun _ => ?_))
   | exact ih0 _ _ _
   | exact ih1 _ _ _ _ _ _
   | exact LeO.none _
   | refine LeO.ite ?_ ?_
   | refine LeO.bind ?_ (fun _ => ?_)
  ·intro y0 y1 y2 y3 y4 y5
   unfold spec_l9Copy.l1
   repeat' first
   | (with_reducible exact ih0 _ _ _)
   | (with_reducible exact ih1 _ _ _ _ _ _)
   | (with_reducible exact LeO.refl _)
   | (with_reducible exact LeO.none _)
   | (with_reducible refine LeO.ite ?_ ?_)
   | (with_reducible refine LeO.bind ?_ (fun _ => ?_))
   | exact ih0 _ _ _
   | exact ih1 _ _ _ _ _ _
   | exact LeO.none _
   | refine LeO.ite ?_ ?_
   | refine LeO.bind ?_ (fun _ => ?_)
theorem spec_l9Copy.mono : ∀ a0 k, LeO (spec_l9Copy.f k a0) (spec_l9Copy.f (k + 1) a0) := by
 intro a0 k
 obtain ⟨ih0, ih1⟩ := spec_l9Copy.mono_l k
 unfold spec_l9Copy.f
 repeat' first
   | (with_reducible exact ih0 _ _ _)
   | (with_reducible exact ih1 _ _ _ _ _ _)
   | (with_reducible exact LeO.refl _)
   | (with_reducible exact LeO.none _)
   | (with_reducible refine LeO.ite ?_ ?_)
   | (with_reducible refine LeO.bind ?_ (fun _ => ?_))
   | exact ih0 _ _ _
   | exact ih1 _ _ _ _ _ _
   | exact LeO.none _
   | refine LeO.ite ?_ ?_
   | refine LeO.bind ?_ (fun _ => ?_)
set_option maxHeartbeats 8000000 in
set_option maxRecDepth 100000 in
theorem spec_l9Copy.calls (k : Nat) (A0 : Option Addr) (c0 : Nat) (l0 : List (S47)) (r : List (S47)) (w : World) (hr0 : Kd.C k47 w A0 l0.length l0) (hc0 : l0.length ≤ c0) (h : spec_l9Copy.f k l0 = some r) :
  Calls Try.prog 52 #[.slice A0 l0.length c0] w fun e w' => ∃ v0_ : Value, e = .returned (v0_) ∧ Kd.R k47 47 w' w.heap.size (fun _ => True) v0_ r ∧ Below w.heap.size w w' := by
 have hu47 := Try.underlying47
 have hu40 := Try.underlying40
 have HR0 := mk_ hr0
 have HC0 := mk_ hc0
 clear hr0 hc0
 have HB := mk_ (Below.refl w.heap.size w)
 have H : (spec_l9Copy.l0 k l0 (([] : List (S47))) 0) = some r := h
 clear h
 obtain ⟨y188, hy188⟩ : ∃ y_ : List (S47), y_ = (([] : List (S47))) := ⟨_, rfl⟩
 replace H : (spec_l9Copy.l0 k l0 y188 0) = some r := by first | (rw [hy188]; with_reducible exact H) | (have H2_ := (Option.bind_some _ _).symm.trans H; rw [hy188]; with_reducible exact H2_) | (have H2_ := (Option.bind_some _ _).symm.trans H; with_reducible exact H2_) | with_reducible exact H | (rw [hy188]; exact H) | exact H
 have Ny188 := mk_ hy188
 clear hy188
 have H' := mk_ H
 clear H
 go_enter Try.func52, Try.ntmps52
 go_wp2_with (first | ((with_reducible refine gate_dst (N := 8) rfl ?_); refine Kd.R_lit k47 _ 47 ?hg (N := 8) ?hd (xs := ([] : List (S47))) (inner := []) (ok := fun _ => True) (okp := fun _ => True) ?hr ?hp (fun _ hk => hk) trivial (Below.refl _ _) (Nat.le_refl _) (by simp) ?_; (case hd => rfl); (case hg => rfl); (case hr => first | (go_simp; done) | (go_simp; rfl)); (case hp => exact (Reps.none _ _)); intro v189 w2 ho3 hb hg_ hnew_; clear hg_ hnew_; (first | rw [← Ny188.out] at ho3 | (simp only [Int.reduceToNat] at ho3; rw [← Ny188.out] at ho3)); have HO190 := mk_ (Kd.R_lower ho3 (below_size (ub_ HB.out))); replace HB := mk_ (below_step (ub_ HB.out) hb); clear hb ho3))
 go_loopg [3, 4] k (fun kq v3 v4 w' => ∃ (x3_1 : List (S47)) (x4_1 : Int), v4 = .int .i64 x4_1 ∧ Aside0 (spec_l9Copy.l0 kq l0 x3_1 x4_1 = some r) ∧ Aside0 (kq ≤ k) ∧ Aside0 (Kd.R k47 47 w' w.heap.size (fun _ => True) v3 x3_1) ∧ Aside0 (Below w.heap.size w w'))
 case atStart => exact ⟨(y188), (0), (by first | rfl | (simp; done) | (simp [*]; done)), H', ⟨Nat.le_refl _⟩, ⟨Kd.ur_ HO190.out⟩, ⟨ub_ HB.out⟩⟩
 case round =>
  clear H'
  try clear p2
  obtain ⟨x3_1, x4_1, rfl, HA, HK1, HO_3, HB⟩ := hrel
  cases gk with
  | zero => exact absurd HA.out (by simp [spec_l9Copy.l0])
  | succ k1 =>
   have H := HA.out
   clear HA
   simp only [spec_l9Copy.l0] at H
   by_cases c4 : x4_1 < (l0.length : Int)
   rotate_left
   ·rw [if_neg c4] at H
    have c4b0 : decide (x4_1 < (l0.length : Int)) = false := decide_eq_false c4
    clear c4
    obtain rfl := Option.some.inj H
    go_wp2
    go_ret
    exact ⟨_, by first | rfl | (simp [errW_none, errW_some] <;> rfl) | (simp [*, errW_none, errW_some] <;> rfl), by (with_reducible repeat (first | apply Kd.R_alloc | apply Kd.R_drewN | apply Kd.R_drew)); exact HO_3.out, by repeat (first | (with_reducible first | exact HB.out | apply na_ | apply nn_ | apply nw_) | exact HB.out)⟩
   rw [if_pos c4] at H
   have c4b0 : decide (x4_1 < (l0.length : Int)) = true := decide_eq_true c4
   clear c4
   by_cases c5 : 0 ≤ x4_1
   rotate_left
   ·rw [if_neg c5] at H
    exact absurd H (by simp)
   rw [if_pos c5] at H
   have c5b0 : decide (0 ≤ x4_1) = true := decide_eq_true c5
   clear c5
   have H' := mk_ H
   clear H
   have p191 : 0 ≤ (x4_1 : Int) := of_decide_eq_true (by first | (with_reducible assumption) | assumption)
   have q191 : x4_1 < (l0.length : Int) := of_decide_eq_true (by first | (with_reducible assumption) | assumption)
   obtain ⟨ad191, A191_1, c191_1, e191, hx191_0, hx191_1, hl191_1, hi191_1⟩ := at_T47 HR0.out x4_1 p191 q191
   cases e191
   replace hx191_0 := (HB.out.cell (lc_ w _ hx191_0)).trans hx191_0
   replace hx191_1 := (HB.out.cell (lc_ w _ hx191_1)).trans hx191_1
   have HR191_1 := mk_ hi191_1
   have HC191_1 := mk_ hl191_1
   clear hi191_1 hl191_1
   replace p191 := eq_true p191
   replace q191 := eq_true q191
   go_wp2_with (first | ((with_reducible refine gate_dst (N := 5) rfl ?_); refine box_event ?hg (N := 5) ?hd (cs := #[.int .i64 0, .slice none 0 0]) (t := 47) ?hr ?_; (case hd => rfl); (case hg => rfl); (case hr => first | (go_simp; done) | (go_simp; rfl)); intro gb192 hg w6 hbox hb; replace HO_3 := mk_ (Kd.R_below (Kd.R_elderB (Kd.ur_ HO_3.out) gb192 (Nat.le_of_eq hg.symm)) hb); have n1_ := mk_ (below_step (ub_ HB.out) hb); have BK192 := mk_ (hbox); have GW192 := mk_ ((by rw [hg]; exact (below_size (ub_ HB.out)) : w.heap.size ≤ gb192)); have GE192 := ge_ ((by rw [hg]; exact (below_size (ub_ HB.out)) : w.heap.size ≤ gb192)); replace HB := n1_; clear n1_; clear hb hbox hg; obtain ⟨hcz7_0, hcz7_1, hfz7_0, hfz7_1⟩ := cells2_ BK192.out))
   go_loopg [6] k1 (fun kq v6 w' => ∃ (x6_2 : Int) (x193001_2 : List (S40)) (u193001 : Value), v6 = .int .i64 x6_2 ∧ Aside0 (spec_l9Copy.l1 kq l0 x3_1 x4_1 x6_2 ((rd_T47 l0 x4_1).f0) x193001_2 = some r) ∧ Aside0 (kq ≤ k1) ∧ Aside0 (Kd.R k47 47 w' w.heap.size (fun k_ => some k_ ≠ (u193001 : Value).ownBlock ∧ k_ ≠ gb192) u3 x3_1) ∧ Aside0 (Kd.S k40 40 w' w.heap.size (fun _ => True) u193001 x193001_2) ∧ Aside0 (w'.heap[gb192]? = some (.cells #[.int .i64 ((rd_T47 l0 x4_1).f0), u193001] 47 (0, 0))) ∧ Aside0 (Below w.heap.size w w'))
   case atStart => exact ⟨(0), (([] : List (S40))), (.slice none 0 0), (by first | rfl | (simp; done) | (simp [*]; done)), H', ⟨Nat.le_refl _⟩, ⟨by (with_reducible repeat (first | apply Kd.R_alloc | apply Kd.R_drewN | apply Kd.R_drew)); exact Kd.R_mono (Kd.R_far (p := ⟨gb192, 1, none⟩) (Kd.R_far (p := ⟨gb192, 0, none⟩) (Kd.R_mono HO_3.out (fun k_ hk => (⟨hk, hk.2⟩ : _ ∧ k_ ≠ gb192))) (fun _ hk => hk.2) (.int .i64 ((rd_T47 l0 x4_1).f0))) (fun _ hk => hk.2) (.slice none 0 0)) (fun _ hk => ⟨(by simp [Value.ownBlock]), hk.1.2⟩)⟩, ⟨by first | exact Kd.S_nil _ _ _ _ _ | exact Kd.N_nil _ _ _ _ _ | exact Kd.V_nil _ _ _ _ _ | exact Kd.Q_nil _ _ _ _ _ | exact Kd.R_nil _ _ _ _ _⟩, ⟨by (with_reducible repeat (first | refine bn_ ?_ _ | refine bw_ ?_ | refine ba_ ?_ _)); refine blk_put (cs := #[.int .i64 ((rd_T47 l0 x4_1).f0), .slice none 0 0]) ?_ 1 _ rfl; (with_reducible repeat (first | refine bn_ ?_ _ | refine bw_ ?_ | refine ba_ ?_ _)); refine blk_put (cs := #[.int .i64 0, .slice none 0 0]) ?_ 0 _ rfl; (with_reducible repeat (first | refine bn_ ?_ _ | refine bw_ ?_ | refine ba_ ?_ _)); exact BK192.out⟩, ⟨us_ HB.out⟩⟩
   case round =>
    clear H'
    try clear c1
    try clear p1
    try clear q1
    try clear hx1
    try clear p2
    try clear c4
    try clear c4b0
    try clear c5
    try clear c5b0
    try clear hcz7_0
    try clear hcz7_1
    try clear hfz7_0
    try clear hfz7_1
    try clear hx191_0
    try clear hx191_1
    try clear p191
    try clear p2
    try clear q191
    obtain ⟨x6_2, x193001_2, u193001, rfl, HA, HK2, HO_3, HO_193001, BK192, HB⟩ := hrel
    cases gk with
    | zero => exact absurd HA.out (by simp [spec_l9Copy.l1])
    | succ k2 =>
     have H := HA.out
     clear HA
     simp only [spec_l9Copy.l1] at H
     by_cases c8 : 0 ≤ x4_1
     rotate_left
     ·rw [if_neg c8] at H
      exact absurd H (by simp)
     rw [if_pos c8] at H
     have c8b0 : decide (0 ≤ x4_1) = true := decide_eq_true c8
     clear c8
     by_cases c9 : x4_1 < (l0.length : Int)
     rotate_left
     ·rw [if_neg c9] at H
      exact absurd H (by simp)
     rw [if_pos c9] at H
     have c9b0 : decide (x4_1 < (l0.length : Int)) = true := decide_eq_true c9
     clear c9
     by_cases c10 : x6_2 < (((rd_T47 l0 x4_1).f1).length : Int)
     rotate_left
     ·rw [if_neg c10] at H
      have c10b0 : decide (x6_2 < (((rd_T47 l0 x4_1).f1).length : Int)) = false := decide_eq_false c10
      clear c10
      by_cases c29 : x3_1.length < 4398046511104
      rotate_left
      ·rw [if_neg c29] at H
       exact absurd H (by simp)
      rw [if_pos c29] at H
      have LMc29 := mk_ c29
      clear c29
      obtain ⟨y206, hy206⟩ : ∃ y_ : List (S47), y_ = (x3_1 ++ [(⟨((rd_T47 l0 x4_1).f0), x193001_2⟩ : S47)]) := ⟨_, rfl⟩
      replace H : (spec_l9Copy.l0 k2 l0 y206 (wrap64 (x4_1 + 1))) = some r := by first | (rw [hy206]; with_reducible exact H) | (have H2_ := (Option.bind_some _ _).symm.trans H; rw [hy206]; with_reducible exact H2_) | (have H2_ := (Option.bind_some _ _).symm.trans H; with_reducible exact H2_) | with_reducible exact H | (rw [hy206]; exact H) | exact H
      have Ny206 := mk_ hy206
      clear hy206
      have H' := mk_ H
      clear H
      have p193 : 0 ≤ (x4_1 : Int) := of_decide_eq_true (by first | (with_reducible assumption) | assumption)
      have q193 : x4_1 < (l0.length : Int) := of_decide_eq_true (by first | (with_reducible assumption) | assumption)
      obtain ⟨ad193, A193_1, c193_1, e193, hx193_0, hx193_1, hl193_1, hi193_1⟩ := at_T47 HR0.out x4_1 p193 q193
      obtain rfl : ad191 = ad193 := (by injection e193)
      replace hx193_0 := (HB.out.cell (lc_ w _ hx193_0)).trans hx193_0
      replace hx193_1 := (HB.out.cell (lc_ w _ hx193_1)).trans hx193_1
      have HR193_1 := mk_ hi193_1
      have HC193_1 := mk_ hl193_1
      clear hi193_1 hl193_1
      replace p193 := eq_true p193
      replace q193 := eq_true q193
      obtain ⟨_, _, _, _⟩ := cells2_ BK192.out
      obtain ⟨Ao32, co32, eo32⟩ := Kd.S_slice HO_193001.out
      subst eo32
      go_wp2_with (first | ((with_reducible refine gate_builtin (b := .append) (xs := #[.tmp 50, .tmp 52]) rfl ?_); at_builtin; refine Kd.R_append k47 (w0 := w) w.heap.size rfl (.tmp 50) (.tmp 52) 25 47 (.agg #[(.int .i64 0), (.slice none 0 0)]) 32 rfl Try.underlying25 info47 rfl (by decide) (by omega) u3 x3_1 (⟨((rd_T47 l0 x4_1).f0), x193001_2⟩ : S47) [.int .i64 ((rd_T47 l0 x4_1).f0), .slice Ao32 x193001_2.length co32] (fun k_ => k_ ≠ gb192) (fun k_ => ((fun k_ => k_ ≠ gb192)) k_ ∧ some k_ ≠ (u3 : Value).ownBlock) rfl rfl ?aP (fun _ hk => hk) ?aF ?aO ?aB ?aS ?aL ?_; (case aP => exact k47_mkM _ _ _ (⟨((rd_T47 l0 x4_1).f0), x193001_2⟩ : S47) (Kd.R_mono (Kd.R_types (Kd.R_apart' ((Kd.S_R HO_193001.out)) (Kd.R_typed HO_3.out) (by decide)) BK192.out (by decide)) (fun k_ hk => ⟨hk.2, hk.1.2⟩))); (case aB => exact (us_ HB.out)); (case aF => exact (fun k_ hk => Kd.freshB (g := gb192) (o := .cells #[.int .i64 ((rd_T47 l0 x4_1).f0), .slice Ao32 x193001_2.length co32] 47 (0, 0)) (u_ BK192.out) k_ hk)); (case aO => exact (by (with_reducible repeat (first | apply Kd.R_alloc | apply Kd.R_drewN | apply Kd.R_drew)); exact Kd.R_mono HO_3.out (fun _ hk => hk.2))); (case aS => exact (below_size (us_ HB.out))); (case aL => have := LMc29.out; omega); intro v207 w31 ho hb hg hat; rw [← Ny206.out] at ho; replace BK192 := mk_ (blk_grown (g := gb192) (o := .cells #[.int .i64 ((rd_T47 l0 x4_1).f0), .slice Ao32 x193001_2.length co32] 47 (0, 0)) (u_ BK192.out) hg (Kd.R_away HO_3.out (fun _ hk => hk.2))); replace HB := mk_ (hb); have HO208 := mk_ (ho); clear HO_3 HO_193001; clear ho hb hg hat))
      go_roundg k2
      case measure => have := HK1.out; have := HK2.out; omega
      case rel => exact ⟨(y206), (wrap64 (x4_1 + 1)), (by first | rfl | (simp; done) | (simp [*]; done)), H', ⟨by have := HK1.out; have := HK2.out; omega⟩, ⟨by (with_reducible repeat (first | apply Kd.R_alloc | apply Kd.R_drewN | apply Kd.R_drew)); exact Kd.R_mono HO208.out (fun _ hk => trivial)⟩, ⟨us_ HB.out⟩⟩
     rw [if_pos c10] at H
     have c10b0 : decide (x6_2 < (((rd_T47 l0 x4_1).f1).length : Int)) = true := decide_eq_true c10
     clear c10
     by_cases c11 : 0 ≤ x6_2
     rotate_left
     ·rw [if_neg c11] at H
      exact absurd H (by simp)
     rw [if_pos c11] at H
     have c11b0 : decide (0 ≤ x6_2) = true := decide_eq_true c11
     clear c11
     obtain ⟨y197, hy197⟩ : ∃ y_ : List Int, y_ = (([] : List Int)) := ⟨_, rfl⟩
     replace H : (if y197.length + ((rd_T40 ((rd_T47 l0 x4_1).f1) x6_2).f3).length < 140737488355328 then (if x193001_2.length < 2932031007402 then (spec_l9Copy.l1 k2 l0 x3_1 x4_1 (wrap64 (x6_2 + 1)) ((rd_T47 l0 x4_1).f0) (x193001_2 ++ [(⟨(rd_T40 ((rd_T47 l0 x4_1).f1) x6_2).f0, (rd_T40 ((rd_T47 l0 x4_1).f1) x6_2).f1, (rd_T40 ((rd_T47 l0 x4_1).f1) x6_2).f2, (y197 ++ ((rd_T40 ((rd_T47 l0 x4_1).f1) x6_2).f3))⟩ : S40)])) else (none)) else (none)) = some r := by first | (rw [hy197]; with_reducible exact H) | (have H2_ := (Option.bind_some _ _).symm.trans H; rw [hy197]; with_reducible exact H2_) | (have H2_ := (Option.bind_some _ _).symm.trans H; with_reducible exact H2_) | with_reducible exact H | (rw [hy197]; exact H) | exact H
     have Ny197 := mk_ hy197
     clear hy197
     by_cases c12 : y197.length + ((rd_T40 ((rd_T47 l0 x4_1).f1) x6_2).f3).length < 140737488355328
     rotate_left
     ·rw [if_neg c12] at H
      exact absurd H (by simp)
     rw [if_pos c12] at H
     have LMc12 := mk_ c12
     clear c12
     obtain ⟨y200, hy200⟩ : ∃ y_ : List Int, y_ = (y197 ++ ((rd_T40 ((rd_T47 l0 x4_1).f1) x6_2).f3)) := ⟨_, rfl⟩
     replace H : (if x193001_2.length < 2932031007402 then (spec_l9Copy.l1 k2 l0 x3_1 x4_1 (wrap64 (x6_2 + 1)) ((rd_T47 l0 x4_1).f0) (x193001_2 ++ [(⟨(rd_T40 ((rd_T47 l0 x4_1).f1) x6_2).f0, (rd_T40 ((rd_T47 l0 x4_1).f1) x6_2).f1, (rd_T40 ((rd_T47 l0 x4_1).f1) x6_2).f2, y200⟩ : S40)])) else (none)) = some r := by first | (rw [hy200]; with_reducible exact H) | (have H2_ := (Option.bind_some _ _).symm.trans H; rw [hy200]; with_reducible exact H2_) | (have H2_ := (Option.bind_some _ _).symm.trans H; with_reducible exact H2_) | with_reducible exact H | (rw [hy200]; exact H) | exact H
     have Ny200 := mk_ hy200
     clear hy200
     by_cases c13 : x193001_2.length < 2932031007402
     rotate_left
     ·rw [if_neg c13] at H
      exact absurd H (by simp)
     rw [if_pos c13] at H
     have LMc13 := mk_ c13
     clear c13
     obtain ⟨y203, hy203⟩ : ∃ y_ : List (S40), y_ = (x193001_2 ++ [(⟨(rd_T40 ((rd_T47 l0 x4_1).f1) x6_2).f0, (rd_T40 ((rd_T47 l0 x4_1).f1) x6_2).f1, (rd_T40 ((rd_T47 l0 x4_1).f1) x6_2).f2, y200⟩ : S40)]) := ⟨_, rfl⟩
     replace H : (spec_l9Copy.l1 k2 l0 x3_1 x4_1 (wrap64 (x6_2 + 1)) ((rd_T47 l0 x4_1).f0) y203) = some r := by first | (rw [hy203]; with_reducible exact H) | (have H2_ := (Option.bind_some _ _).symm.trans H; rw [hy203]; with_reducible exact H2_) | (have H2_ := (Option.bind_some _ _).symm.trans H; with_reducible exact H2_) | with_reducible exact H | (rw [hy203]; exact H) | exact H
     have Ny203 := mk_ hy203
     clear hy203
     have H' := mk_ H
     clear H
     have p193 : 0 ≤ (x4_1 : Int) := of_decide_eq_true (by first | (with_reducible assumption) | assumption)
     have q193 : x4_1 < (l0.length : Int) := of_decide_eq_true (by first | (with_reducible assumption) | assumption)
     obtain ⟨ad193, A193_1, c193_1, e193, hx193_0, hx193_1, hl193_1, hi193_1⟩ := at_T47 HR0.out x4_1 p193 q193
     obtain rfl : ad191 = ad193 := (by injection e193)
     replace hx193_0 := (HB.out.cell (lc_ w _ hx193_0)).trans hx193_0
     replace hx193_1 := (HB.out.cell (lc_ w _ hx193_1)).trans hx193_1
     have HR193_1 := mk_ hi193_1
     have HC193_1 := mk_ hl193_1
     clear hi193_1 hl193_1
     replace p193 := eq_true p193
     replace q193 := eq_true q193
     have p194 : 0 ≤ (x4_1 : Int) := of_decide_eq_true (by first | (with_reducible assumption) | assumption)
     have q194 : x4_1 < (l0.length : Int) := of_decide_eq_true (by first | (with_reducible assumption) | assumption)
     obtain ⟨ad194, A194_1, c194_1, e194, hx194_0, hx194_1, hl194_1, hi194_1⟩ := at_T47 HR0.out x4_1 p194 q194
     obtain rfl : ad191 = ad194 := (by injection e194)
     replace hx194_0 := (HB.out.cell (lc_ w _ hx194_0)).trans hx194_0
     replace hx194_1 := (HB.out.cell (lc_ w _ hx194_1)).trans hx194_1
     have HR194_1 := mk_ hi194_1
     have HC194_1 := mk_ hl194_1
     clear hi194_1 hl194_1
     replace p194 := eq_true p194
     replace q194 := eq_true q194
     have ea_ := Option.some.inj (hx193_1.symm.trans hx194_1)
     injection ea_ with ea_ en_ ec_
     subst ea_
     subst ec_
     clear en_
     have p195 : 0 ≤ (x6_2 : Int) := of_decide_eq_true (by first | (with_reducible assumption) | assumption)
     have q195 : x6_2 < (((rd_T47 l0 x4_1).f1).length : Int) := of_decide_eq_true (by first | (with_reducible assumption) | assumption)
     obtain ⟨ad195, A195_3, c195_3, e195, hx195_0, hx195_1, hx195_2, hx195_3, hl195_3, hi195_3⟩ := at_T40 HR194_1.out x6_2 p195 q195
     cases e195
     replace hx195_0 := (HB.out.cell (lc_ w _ hx195_0)).trans hx195_0
     replace hx195_1 := (HB.out.cell (lc_ w _ hx195_1)).trans hx195_1
     replace hx195_2 := (HB.out.cell (lc_ w _ hx195_2)).trans hx195_2
     replace hx195_3 := (HB.out.cell (lc_ w _ hx195_3)).trans hx195_3
     have HR195_3 := mk_ hi195_3
     have HC195_3 := mk_ hl195_3
     clear hi195_3 hl195_3
     replace p195 := eq_true p195
     replace q195 := eq_true q195
     go_wp2_with (first | ((with_reducible refine gate_dst (N := 7) rfl ?_); refine box_event ?hg (N := 7) ?hd (cs := #[.int .i64 0, .int .i64 0, .int .i64 0, .slice none 0 0]) (t := 40) ?hr ?_; (case hd => rfl); (case hg => rfl); (case hr => first | (go_simp; done) | (go_simp; rfl)); intro gb196 hg w14 hbox hb; replace HO_3 := mk_ (Kd.R_below (Kd.R_elderB (Kd.ur_ HO_3.out) gb196 (Nat.le_of_eq hg.symm)) hb); replace HO_193001 := mk_ (Kd.S_below (Kd.S_elderB (by (with_reducible repeat (first | apply Kd.S_alloc | apply Kd.S_drewN | apply Kd.S_drew)); exact HO_193001.out) gb196 (Nat.le_of_eq hg.symm)) hb); have n2_ := mk_ (blk_below (u_ BK192.out) hb); have n3_ := mk_ (below_step (us_ HB.out) hb); have BK196 := mk_ (hbox); have GW196 := mk_ ((by rw [hg]; exact (below_size (us_ HB.out)) : w.heap.size ≤ gb196)); have GE196 := ge_ ((by rw [hg]; exact (below_size (us_ HB.out)) : w.heap.size ≤ gb196)); have NB192_196 := nq_ ((by rw [hg]; exact Nat.ne_of_lt (blk_lt (u_ BK192.out)) : gb192 ≠ gb196)); have NB196_192 := nq_ ((by rw [hg]; exact Nat.ne_of_gt (blk_lt (u_ BK192.out)) : gb196 ≠ gb192)); replace BK192 := n2_; replace HB := n3_; clear n2_ n3_; clear hb hbox hg; have hnb15 := NB196_192.out; have hnc15 := NB192_196.out; obtain ⟨_, _, _, _, _, _, _, _⟩ := cells4_ BK196.out) | ((with_reducible refine gate_dst (N := 39) rfl ?_); refine Kd.R_lit (Kd.int .u8) _ 5 ?hg (N := 39) ?hd (xs := ([] : List Int)) (inner := []) (ok := fun _ => True) (okp := fun _ => True) ?hr ?hp (fun _ hk => hk) trivial (Below.refl _ _) (Nat.le_refl _) (by simp) ?_; (case hd => rfl); (case hg => rfl); (case hr => first | (go_simp; done) | (go_simp; rfl)); (case hp => exact (Reps.none _ _)); intro v198 w17 ho18 hb hg_ hnew_; clear hg_ hnew_; (first | rw [← Ny197.out] at ho18 | (simp only [Int.reduceToNat] at ho18; rw [← Ny197.out] at ho18)); replace HO_3 := mk_ (Kd.R_elder' (by (with_reducible repeat (first | apply Kd.R_alloc | apply Kd.R_drewN | apply Kd.R_drew)); exact (Kd.R_mono (Kd.R_far (p := ⟨gb196, 3, none⟩) (Kd.R_far (p := ⟨gb196, 2, none⟩) (Kd.R_far (p := ⟨gb196, 1, none⟩) (Kd.R_far (p := ⟨gb196, 0, none⟩) (Kd.R_mono HO_3.out (fun k_ hk => (⟨hk, hk.2⟩ : _ ∧ k_ ≠ gb196))) (fun _ hk => hk.2) (.int .i64 ((rd_T40 ((rd_T47 l0 x4_1).f1) x6_2).f0))) (fun _ hk => hk.2) (.int .i64 ((rd_T40 ((rd_T47 l0 x4_1).f1) x6_2).f1))) (fun _ hk => hk.2) (.int .i64 ((rd_T40 ((rd_T47 l0 x4_1).f1) x6_2).f2))) (fun _ hk => hk.2) (.slice A195_3 ((rd_T40 ((rd_T47 l0 x4_1).f1) x6_2).f3).length c195_3)) (fun _ h_ => by first | exact h_.1 | simp only [h_, ne_eq, not_false_eq_true, and_self]))) (Kd.R_base ho18) hb); replace HO_193001 := mk_ (Kd.S_elder' (by (with_reducible repeat (first | apply Kd.S_alloc | apply Kd.S_drewN | apply Kd.S_drew)); exact (Kd.S_mono (Kd.S_far (p := ⟨gb196, 3, none⟩) (Kd.S_far (p := ⟨gb196, 2, none⟩) (Kd.S_far (p := ⟨gb196, 1, none⟩) (Kd.S_far (p := ⟨gb196, 0, none⟩) (Kd.S_mono HO_193001.out (fun k_ hk => (⟨hk, hk.2⟩ : _ ∧ k_ ≠ gb196))) (fun _ hk => hk.2) (.int .i64 ((rd_T40 ((rd_T47 l0 x4_1).f1) x6_2).f0))) (fun _ hk => hk.2) (.int .i64 ((rd_T40 ((rd_T47 l0 x4_1).f1) x6_2).f1))) (fun _ hk => hk.2) (.int .i64 ((rd_T40 ((rd_T47 l0 x4_1).f1) x6_2).f2))) (fun _ hk => hk.2) (.slice A195_3 ((rd_T40 ((rd_T47 l0 x4_1).f1) x6_2).f3).length c195_3)) (fun _ h_ => by first | exact h_.1 | simp only [h_, ne_eq, not_false_eq_true, and_self]))) (Kd.R_base ho18) hb); have HO199 := mk_ (Kd.R_lower ho18 (below_size (us_ HB.out))); replace BK192 := mk_ (blk_below (g := gb192) (o := .cells #[.int .i64 ((rd_T47 l0 x4_1).f0), u193001] 47 (0, 0)) (uf_ BK192.out) hb); replace BK196 := mk_ (blk_below (g := gb196) (o := .cells #[.int .i64 ((rd_T40 ((rd_T47 l0 x4_1).f1) x6_2).f0), .int .i64 ((rd_T40 ((rd_T47 l0 x4_1).f1) x6_2).f1), .int .i64 ((rd_T40 ((rd_T47 l0 x4_1).f1) x6_2).f2), .slice A195_3 ((rd_T40 ((rd_T47 l0 x4_1).f1) x6_2).f3).length c195_3] 40 (0, 0)) (by (with_reducible repeat (first | refine bn_ ?_ _ | refine bw_ ?_ | refine ba_ ?_ _)); refine blk_put (cs := #[.int .i64 ((rd_T40 ((rd_T47 l0 x4_1).f1) x6_2).f0), .int .i64 ((rd_T40 ((rd_T47 l0 x4_1).f1) x6_2).f1), .int .i64 ((rd_T40 ((rd_T47 l0 x4_1).f1) x6_2).f2), .slice none 0 0]) ?_ 3 _ rfl; (with_reducible repeat (first | refine bn_ ?_ _ | refine bw_ ?_ | refine ba_ ?_ _)); refine blk_put (cs := #[.int .i64 ((rd_T40 ((rd_T47 l0 x4_1).f1) x6_2).f0), .int .i64 ((rd_T40 ((rd_T47 l0 x4_1).f1) x6_2).f1), .int .i64 0, .slice none 0 0]) ?_ 2 _ rfl; (with_reducible repeat (first | refine bn_ ?_ _ | refine bw_ ?_ | refine ba_ ?_ _)); refine blk_put (cs := #[.int .i64 ((rd_T40 ((rd_T47 l0 x4_1).f1) x6_2).f0), .int .i64 0, .int .i64 0, .slice none 0 0]) ?_ 1 _ rfl; (with_reducible repeat (first | refine bn_ ?_ _ | refine bw_ ?_ | refine ba_ ?_ _)); refine blk_put (cs := #[.int .i64 0, .int .i64 0, .int .i64 0, .slice none 0 0]) ?_ 0 _ rfl; (with_reducible repeat (first | refine bn_ ?_ _ | refine bw_ ?_ | refine ba_ ?_ _)); exact BK196.out) hb); replace HB := mk_ (below_step (us_ HB.out) hb); clear hb ho18; obtain ⟨hcz19_0, hcz19_1, hcz19_2, hcz19_3, hfz19_0, hfz19_1, hfz19_2, hfz19_3⟩ := cells4_ BK196.out) | ((with_reducible refine gate_builtin (b := .append) (xs := #[.tmp 39, .tmp 41]) rfl ?_); at_builtin; refine Kd.R_append_rows (Kd.int .u8) (w0 := w) w.heap.size rfl (.tmp 39) (.tmp 41) 29 5 (.int .u8 0) 1 rfl Try.underlying29 info5 rfl (by decide) (by omega) v198 y197 ((rd_T40 ((rd_T47 l0 x4_1).f1) x6_2).f3) _ _ _ (fun _ => True) (fun _ => False) rfl rfl ?aO ?aR (fun _ _ h => h) (fun _ h => h.elim) ?aF ?aB ?aS ?aL ?_; (case aR => repeat (first | exact (Kd.C_below HR195_3.out HB.out) | (with_reducible refine Kd.C_alloc ?_ _) | (with_reducible refine Kd.C_drewN ?_ _) | (with_reducible refine Kd.C_drew ?_))); (case aB => exact (us_ HB.out)); (case aF => exact (fun _ _ => trivial)); (case aO => exact (Kd.ur_ HO199.out)); (case aS => exact (below_size (us_ HB.out))); (case aL => have := LMc12.out; omega); intro v201 w20 ho hb hg hat; rw [← Ny200.out] at ho; replace HO_3 := mk_ (Kd.R_after (ok := (fun k_ => some k_ ≠ (u193001 : Value).ownBlock ∧ k_ ≠ gb192 ∧ k_ ≠ gb196)) (by (with_reducible repeat (first | apply Kd.R_alloc | apply Kd.R_drewN | apply Kd.R_drew)); exact Kd.R_mono HO_3.out (fun _ hk => by first | exact ⟨⟨hk.1.1.1, ⟨hk.1.1.2, hk.1.2⟩⟩, hk.2⟩ | exact hk.1 | exact hk | exact ⟨hk.1, hk.2⟩ | exact ⟨.inr hk.1, hk.2⟩ | simp only [hk, ne_eq, not_false_eq_true, and_self])) hg hat); replace HO_193001 := mk_ (Kd.S_after (ok := (fun k_ => k_ ≠ gb196)) (by (with_reducible repeat (first | apply Kd.S_alloc | apply Kd.S_drewN | apply Kd.S_drew)); exact Kd.S_mono HO_193001.out (fun _ hk => ⟨hk.1.2, hk.2⟩)) hg hat); replace BK192 := mk_ (blk_grown (g := gb192) (o := .cells #[.int .i64 ((rd_T47 l0 x4_1).f0), u193001] 47 (0, 0)) (u_ BK192.out) hg (Kd.R_ne HO199.out BK192.out (by decide))); replace BK196 := mk_ (blk_grown (g := gb196) (o := .cells #[.int .i64 ((rd_T40 ((rd_T47 l0 x4_1).f1) x6_2).f0), .int .i64 ((rd_T40 ((rd_T47 l0 x4_1).f1) x6_2).f1), .int .i64 ((rd_T40 ((rd_T47 l0 x4_1).f1) x6_2).f2), .slice A195_3 ((rd_T40 ((rd_T47 l0 x4_1).f1) x6_2).f3).length c195_3] 40 (0, 0)) (u_ BK196.out) hg (Kd.R_ne HO199.out BK196.out (by decide))); replace HB := mk_ (hb); have HO202 := mk_ (ho); clear HO199; clear ho hb hg hat; obtain ⟨Ao21, co21, eo21⟩ := Kd.R_slice HO202.out; subst eo21; obtain ⟨_, _, _, _, _, _, _, _⟩ := cells4_ BK196.out) | ((with_reducible refine gate_store (t := 29) (p := 43) rfl ?_); refine store_event (t := 29) (p := 43) (v := ?vo_w23) (w1 := ?w1_1) ?hg ?ho ?hn ?hr ?_; (case ho => rfl); (case hg => rfl); (case hn => rfl); (case hr => first | (go_simp; done) | (go_simp; rfl)); intro w23 hw; have n0_ : Aside0 (Kd.R k47 47 w23 w.heap.size (fun k_ => some k_ ≠ (u193001 : Value).ownBlock ∧ some k_ ≠ (.slice Ao21 y200.length co21 : Value).ownBlock ∧ k_ ≠ gb192 ∧ k_ ≠ gb196) u3 x3_1) := ⟨(by rw [hw]; exact (by (with_reducible repeat (first | apply Kd.R_alloc | apply Kd.R_drewN | apply Kd.R_drew)); exact Kd.R_mono (Kd.R_far (p := ⟨gb196, 3, none⟩) (Kd.R_mono HO_3.out (fun k_ hk => (⟨hk, hk.1.2.2⟩ : _ ∧ k_ ≠ gb196))) (fun _ hk => hk.2) (.slice Ao21 y200.length co21)) (fun _ hk => by first | exact ⟨hk.1.1.1, ⟨hk.1.2, ⟨hk.1.1.2.1, hk.1.1.2.2⟩⟩⟩ | exact hk.1 | exact hk | exact ⟨hk.1, hk.2⟩ | exact ⟨.inr hk.1, hk.2⟩ | simp only [hk, ne_eq, not_false_eq_true, and_self])))⟩; have n1_ : Aside0 (Kd.S k40 40 w23 w.heap.size (fun k_ => some k_ ≠ (.slice Ao21 y200.length co21 : Value).ownBlock ∧ k_ ≠ gb196) u193001 x193001_2) := ⟨(by rw [hw]; exact (by (with_reducible repeat (first | apply Kd.S_alloc | apply Kd.S_drewN | apply Kd.S_drew)); exact Kd.S_mono (Kd.S_far (p := ⟨gb196, 3, none⟩) (Kd.S_mono HO_193001.out (fun k_ hk => (⟨hk, hk.1⟩ : _ ∧ k_ ≠ gb196))) (fun _ hk => hk.2) (.slice Ao21 y200.length co21)) (fun _ hk => by first | exact ⟨hk.1.2, hk.1.1⟩ | exact hk.1 | exact hk | exact ⟨hk.1, hk.2⟩ | exact ⟨.inr hk.1, hk.2⟩ | simp only [hk, ne_eq, not_false_eq_true, and_self])))⟩; have n2_ : Aside0 (Kd.R (Kd.int .u8) 5 w23 w.heap.size (fun _ => True) (.slice Ao21 y200.length co21) y200) := ⟨(by rw [hw]; exact (by (with_reducible repeat (first | apply Kd.R_alloc | apply Kd.R_drewN | apply Kd.R_drew)); exact Kd.R_mono (Kd.R_far (p := ⟨gb196, 3, none⟩) (Kd.R_types HO202.out BK196.out (by decide)) (fun _ hk => hk.2) (.slice Ao21 y200.length co21)) (fun _ hk => trivial)))⟩; have n3_ : Aside0 (w23.heap[gb192]? = some (.cells #[.int .i64 ((rd_T47 l0 x4_1).f0), u193001] 47 (0, 0))) := ⟨(by rw [hw]; exact (uf_ BK192.out))⟩; have n4_ : Aside0 (w23.heap[gb196]? = some (.cells #[.int .i64 ((rd_T40 ((rd_T47 l0 x4_1).f1) x6_2).f0), .int .i64 ((rd_T40 ((rd_T47 l0 x4_1).f1) x6_2).f1), .int .i64 ((rd_T40 ((rd_T47 l0 x4_1).f1) x6_2).f2), .slice Ao21 y200.length co21] 40 (0, 0))) := ⟨(by rw [hw]; exact (by (with_reducible repeat (first | refine bn_ ?_ _ | refine bw_ ?_ | refine ba_ ?_ _)); refine blk_put (cs := #[.int .i64 ((rd_T40 ((rd_T47 l0 x4_1).f1) x6_2).f0), .int .i64 ((rd_T40 ((rd_T47 l0 x4_1).f1) x6_2).f1), .int .i64 ((rd_T40 ((rd_T47 l0 x4_1).f1) x6_2).f2), .slice A195_3 ((rd_T40 ((rd_T47 l0 x4_1).f1) x6_2).f3).length c195_3]) ?_ 3 _ rfl; (with_reducible repeat (first | refine bn_ ?_ _ | refine bw_ ?_ | refine ba_ ?_ _)); exact BK196.out))⟩; have n5_ : Aside0 (Below w.heap.size w w23) := ⟨(by rw [hw]; exact (us_ HB.out))⟩; clear hw; clear HO_3; clear HO_193001; clear HO202; clear BK192; clear BK196; clear HB; have HO_3 := n0_; have HO_193001 := n1_; have HO202 := n2_; have BK192 := n3_; have BK196 := n4_; have HB := n5_; clear n0_ n1_ n2_ n3_ n4_ n5_; obtain ⟨_, _, _, _⟩ := cells2_ BK192.out; obtain ⟨_, _, _, _, _, _, _, _⟩ := cells4_ BK196.out) | ((with_reducible refine gate_builtin (b := .append) (xs := #[.tmp 45, .tmp 47]) rfl ?_); at_builtin; refine Kd.S_append k40 (w0 := w) w.heap.size rfl (.tmp 45) (.tmp 47) 45 40 (.agg #[(.int .i64 0), (.int .i64 0), (.int .i64 0), (.slice none 0 0)]) 48 rfl Try.underlying45 info40 rfl (by decide) (by omega) u193001 x193001_2 (⟨(rd_T40 ((rd_T47 l0 x4_1).f1) x6_2).f0, (rd_T40 ((rd_T47 l0 x4_1).f1) x6_2).f1, (rd_T40 ((rd_T47 l0 x4_1).f1) x6_2).f2, y200⟩ : S40) [.int .i64 ((rd_T40 ((rd_T47 l0 x4_1).f1) x6_2).f0), .int .i64 ((rd_T40 ((rd_T47 l0 x4_1).f1) x6_2).f1), .int .i64 ((rd_T40 ((rd_T47 l0 x4_1).f1) x6_2).f2), .slice Ao21 y200.length co21] (fun k_ => k_ ≠ gb196) (fun k_ => some k_ = (.slice Ao21 y200.length co21 : Value).ownBlock) rfl rfl ?aP (fun k_ hk_ => ((Kd.R_mono (ok' := fun k_ => ((fun k_ => k_ ≠ gb196)) k_ ∧ some k_ ≠ (u193001 : Value).ownBlock) (Kd.R_types (Kd.R_apart' (HO202.out) (Kd.S_typed HO_193001.out) (by decide)) BK196.out (by decide)) (fun k_ hk => ⟨hk.2, hk.1.2⟩))).1 k_ hk_.symm) ?aF ?aO ?aB ?aS ?aL ?_; (case aP => exact k40_mkM _ _ _ (⟨(rd_T40 ((rd_T47 l0 x4_1).f1) x6_2).f0, (rd_T40 ((rd_T47 l0 x4_1).f1) x6_2).f1, (rd_T40 ((rd_T47 l0 x4_1).f1) x6_2).f2, y200⟩ : S40) (Kd.R_mono (Kd.R_tight rfl (Kd.R_mono (ok' := fun k_ => ((fun k_ => k_ ≠ gb196)) k_ ∧ some k_ ≠ (u193001 : Value).ownBlock) (Kd.R_types (Kd.R_apart' (HO202.out) (Kd.S_typed HO_193001.out) (by decide)) BK196.out (by decide)) (fun k_ hk => ⟨hk.2, hk.1.2⟩))) (fun _ h_ => h_))); (case aB => exact (us_ HB.out)); (case aF => exact (fun k_ hk => Kd.freshB (g := gb196) (o := .cells #[.int .i64 ((rd_T40 ((rd_T47 l0 x4_1).f1) x6_2).f0), .int .i64 ((rd_T40 ((rd_T47 l0 x4_1).f1) x6_2).f1), .int .i64 ((rd_T40 ((rd_T47 l0 x4_1).f1) x6_2).f2), .slice Ao21 y200.length co21] 40 (0, 0)) (u_ BK196.out) k_ hk)); (case aO => exact (by (with_reducible repeat (first | apply Kd.S_alloc | apply Kd.S_drewN | apply Kd.S_drew)); exact Kd.S_mono HO_193001.out (fun k_ hk => ⟨hk.2, fun e_ => hk.1 e_⟩))); (case aS => exact (below_size (us_ HB.out))); (case aL => have := LMc13.out; omega); intro v204 w26 ho hb hg hat; rw [← Ny203.out] at ho; replace HO_3 := mk_ (Kd.R_after (ok := (fun k_ => some k_ ≠ (.slice Ao21 y200.length co21 : Value).ownBlock ∧ k_ ≠ gb192 ∧ k_ ≠ gb196)) (by (with_reducible repeat (first | apply Kd.R_alloc | apply Kd.R_drewN | apply Kd.R_drew)); exact Kd.R_mono HO_3.out (fun _ hk => by first | exact ⟨⟨hk.2.1, ⟨hk.2.2.1, hk.2.2.2⟩⟩, hk.1⟩ | exact hk.1 | exact hk | exact ⟨hk.1, hk.2⟩ | exact ⟨.inr hk.1, hk.2⟩ | simp only [hk, ne_eq, not_false_eq_true, and_self])) hg hat); replace BK192 := mk_ (blk_grown (g := gb192) (o := .cells #[.int .i64 ((rd_T47 l0 x4_1).f0), u193001] 47 (0, 0)) (u_ BK192.out) hg (Kd.S_ne HO_193001.out BK192.out (by decide))); replace BK196 := mk_ (blk_grown (g := gb196) (o := .cells #[.int .i64 ((rd_T40 ((rd_T47 l0 x4_1).f1) x6_2).f0), .int .i64 ((rd_T40 ((rd_T47 l0 x4_1).f1) x6_2).f1), .int .i64 ((rd_T40 ((rd_T47 l0 x4_1).f1) x6_2).f2), .slice Ao21 y200.length co21] 40 (0, 0)) (u_ BK196.out) hg (Kd.S_away HO_193001.out (fun _ hk => hk.2))); replace HB := mk_ (hb); have HO205 := mk_ (ho); clear HO_193001 HO202; clear ho hb hg hat; obtain ⟨Ao27, co27, eo27⟩ := Kd.S_slice HO205.out; subst eo27; obtain ⟨_, _, _, _⟩ := cells2_ BK192.out))
     go_roundg k2
     case measure => have := HK1.out; have := HK2.out; omega
     case rel => exact ⟨(wrap64 (x6_2 + 1)), (y203), (.slice Ao27 y203.length co27), (by first | rfl | (simp; done) | (simp [*]; done)), H', ⟨by have := HK1.out; have := HK2.out; omega⟩, ⟨by (with_reducible repeat (first | apply Kd.R_alloc | apply Kd.R_drewN | apply Kd.R_drew)); exact Kd.R_mono (Kd.R_far (p := ⟨gb192, 1, none⟩) (Kd.R_mono HO_3.out (fun k_ hk => (⟨hk, hk.1.2.1⟩ : _ ∧ k_ ≠ gb192))) (fun _ hk => hk.2) (.slice Ao27 y203.length co27)) (fun _ hk => by first | exact ⟨hk.1.2, hk.1.1.2.1⟩ | exact hk.1 | exact hk | exact ⟨hk.1, hk.2⟩ | exact ⟨.inr hk.1, hk.2⟩ | simp only [hk, ne_eq, not_false_eq_true, and_self])⟩, ⟨by (with_reducible repeat (first | apply Kd.S_alloc | apply Kd.S_drewN | apply Kd.S_drew)); exact Kd.S_mono (Kd.S_far (p := ⟨gb192, 1, none⟩) (Kd.S_types HO205.out BK192.out (by decide)) (fun _ hk => hk.2) (.slice Ao27 y203.length co27)) (fun _ hk => trivial)⟩, ⟨by (with_reducible repeat (first | refine bn_ ?_ _ | refine bw_ ?_ | refine ba_ ?_ _)); refine blk_put (cs := #[.int .i64 ((rd_T47 l0 x4_1).f0), u193001]) ?_ 1 _ rfl; (with_reducible repeat (first | refine bn_ ?_ _ | refine bw_ ?_ | refine ba_ ?_ _)); exact BK192.out⟩, ⟨us_ HB.out⟩⟩

/-! ### spec_PortTake: function 24 -/
def spec_PortTake.f (k : Nat) (l0 : List (S47)) (a1 : Int) : Option ((List (S47)) × Int × Int × Int × List Int × Bool) := (spec_PortsOk.f k l0).bind fun t210 => (if t210 = true then ((spec_l9Copy.f k l0).bind fun t214 => ((spec_l9At.f k l0 a1).bind fun t217 => (if t217 < 0 then (some (t214, 0, 0, 0, ([] : List Int), false)) else (if 0 ≤ t217 then (if t217 < (t214.length : Int) then (if (((rd_T47 t214 t217).f1).length : Int) = 0 then (some (t214, 0, 0, 0, ([] : List Int), false)) else (if 0 < (((rd_T47 t214 t217).f1).length : Int) then (if 1 ≤ (((rd_T47 t214 t217).f1).length : Int) then (some ((t214.set (t217 : Int).toNat (⟨(rd_T47 t214 t217).f0, (((rd_T47 t214 t217).f1).drop 1)⟩ : S47)), (rd_T40 ((rd_T47 t214 t217).f1) 0).f0, (rd_T40 ((rd_T47 t214 t217).f1) 0).f1, (rd_T40 ((rd_T47 t214 t217).f1) 0).f2, (rd_T40 ((rd_T47 t214 t217).f1) 0).f3, true)) else (none)) else (none))) else (none)) else (none))))) else (some ((([] : List (S47))), 0, 0, 0, ([] : List Int), false)))
theorem spec_PortTake.mono : ∀ a0 a1 k, LeO (spec_PortTake.f k a0 a1) (spec_PortTake.f (k + 1) a0 a1) := by
 intro a0 a1 k
 unfold spec_PortTake.f
 repeat' first
   | (with_reducible exact spec_PortsOk.mono _ _)
   | (with_reducible exact spec_l9At.mono _ _ _)
   | (with_reducible exact spec_l9Copy.mono _ _)
   | (with_reducible exact LeO.refl _)
   | (with_reducible exact LeO.none _)
   | (with_reducible refine LeO.ite ?_ ?_)
   | (with_reducible refine LeO.bind ?_ (fun _ => ?_))
   | exact spec_PortsOk.mono _ _
   | exact spec_l9At.mono _ _ _
   | exact spec_l9Copy.mono _ _
   | exact LeO.none _
   | refine LeO.ite ?_ ?_
   | refine LeO.bind ?_ (fun _ => ?_)
set_option maxHeartbeats 8000000 in
set_option maxRecDepth 100000 in
theorem spec_PortTake.calls (k : Nat) (A0 : Option Addr) (c0 : Nat) (l0 : List (S47)) (a1 : Int) (r1 : List (S47)) (r2 : Int) (r3 : Int) (r4 : Int) (r5 : List Int) (r6 : Bool) (w : World) (hr0 : Kd.C k47 w A0 l0.length l0) (hc0 : l0.length ≤ c0) (h : spec_PortTake.f k l0 a1 = some (r1, r2, r3, r4, r5, r6)) :
  Calls Try.prog 24 #[.slice A0 l0.length c0, .int .i64 a1] w fun e w' => ∃ v0_ v4_ : Value, e = .returned (.tuple #[v0_, .agg #[.int .i64 r2, .int .i64 r3, .int .i64 r4, v4_], .bool r6]) ∧ Kd.N k47 47 w' w.heap.size (fun k_ => (w.heap.size ≤ k_)) v0_ r1 ∧ Kd.V (Kd.int .u8) 5 w' w.heap.size (fun k_ => (w.heap.size ≤ k_) ∧ some k_ ≠ (v0_ : Value).ownBlock) v4_ r5 ∧ Below w.heap.size w w' := by
 have hu40 := Try.underlying40
 have HR0 := mk_ hr0
 have HC0 := mk_ hc0
 clear hr0 hc0
 have HB := mk_ (Below.refl w.heap.size w)
 have H : ((spec_PortsOk.f k l0).bind fun t210 => (if t210 = true then ((spec_l9Copy.f k l0).bind fun t214 => ((spec_l9At.f k l0 a1).bind fun t217 => (if t217 < 0 then (some (t214, 0, 0, 0, ([] : List Int), false)) else (if 0 ≤ t217 then (if t217 < (t214.length : Int) then (if (((rd_T47 t214 t217).f1).length : Int) = 0 then (some (t214, 0, 0, 0, ([] : List Int), false)) else (if 0 < (((rd_T47 t214 t217).f1).length : Int) then (if 1 ≤ (((rd_T47 t214 t217).f1).length : Int) then (some ((t214.set (t217 : Int).toNat (⟨(rd_T47 t214 t217).f0, (((rd_T47 t214 t217).f1).drop 1)⟩ : S47)), (rd_T40 ((rd_T47 t214 t217).f1) 0).f0, (rd_T40 ((rd_T47 t214 t217).f1) 0).f1, (rd_T40 ((rd_T47 t214 t217).f1) 0).f2, (rd_T40 ((rd_T47 t214 t217).f1) 0).f3, true)) else (none)) else (none))) else (none)) else (none))))) else (some ((([] : List (S47))), 0, 0, 0, ([] : List Int), false)))) = some (r1, r2, r3, r4, r5, r6) := h
 clear h
 replace H := Option.bind_eq_some_iff.mp H
 obtain ⟨t210, A30, H⟩ := H
 replace H : (if t210 = true then ((spec_l9Copy.f k l0).bind fun t214 => ((spec_l9At.f k l0 a1).bind fun t217 => (if t217 < 0 then (some (t214, 0, 0, 0, ([] : List Int), false)) else (if 0 ≤ t217 then (if t217 < (t214.length : Int) then (if (((rd_T47 t214 t217).f1).length : Int) = 0 then (some (t214, 0, 0, 0, ([] : List Int), false)) else (if 0 < (((rd_T47 t214 t217).f1).length : Int) then (if 1 ≤ (((rd_T47 t214 t217).f1).length : Int) then (some ((t214.set (t217 : Int).toNat (⟨(rd_T47 t214 t217).f0, (((rd_T47 t214 t217).f1).drop 1)⟩ : S47)), (rd_T40 ((rd_T47 t214 t217).f1) 0).f0, (rd_T40 ((rd_T47 t214 t217).f1) 0).f1, (rd_T40 ((rd_T47 t214 t217).f1) 0).f2, (rd_T40 ((rd_T47 t214 t217).f1) 0).f3, true)) else (none)) else (none))) else (none)) else (none))))) else (some ((([] : List (S47))), 0, 0, 0, ([] : List Int), false))) = some (r1, r2, r3, r4, r5, r6) := H
 have A3 := mk_ A30
 clear A30
 by_cases c4 : t210 = true
 rotate_left
 ·replace c4 := Bool.eq_false_iff.mpr c4
  subst c4
  have H1 : (some ((([] : List (S47))), 0, 0, 0, ([] : List Int), false)) = some (r1, r2, r3, r4, r5, r6) := by rw [if_neg (show ¬ (false = true) by decide)] at H; exact H
  clear H
  have H := H1
  clear H1
  obtain ⟨y211, hy211⟩ : ∃ y_ : List (S47), y_ = (([] : List (S47))) := ⟨_, rfl⟩
  replace H : (some (y211, 0, 0, 0, ([] : List Int), false)) = some (r1, r2, r3, r4, r5, r6) := by first | (rw [hy211]; with_reducible exact H) | (have H2_ := (Option.bind_some _ _).symm.trans H; rw [hy211]; with_reducible exact H2_) | (have H2_ := (Option.bind_some _ _).symm.trans H; with_reducible exact H2_) | with_reducible exact H | (rw [hy211]; exact H) | exact H
  have Ny211 := mk_ hy211
  clear hy211
  simp only [Option.some.injEq, Prod.mk.injEq] at H
  obtain ⟨rfl, rfl, rfl, rfl, rfl, rfl⟩ := H
  go_enter Try.func24, Try.ntmps24
  go_wp2_with (first | ((with_reducible refine gate_dst (N := 5) rfl ?_); refine box_event ?hg (N := 5) ?hd (cs := #[.int .i64 0, .int .i64 0, .int .i64 0, .slice none 0 0]) (t := 40) ?hr ?_; (case hd => rfl); (case hg => rfl); (case hr => first | (go_simp; done) | (go_simp; rfl)); intro gb209 hg w39 hbox hb; have n0_ := mk_ (below_step (ub_ HB.out) hb); have BK209 := mk_ (hbox); have GW209 := mk_ ((by rw [hg]; exact (below_size (ub_ HB.out)) : w.heap.size ≤ gb209)); have GE209 := ge_ ((by rw [hg]; exact (below_size (ub_ HB.out)) : w.heap.size ≤ gb209)); replace HB := n0_; clear n0_; clear hb hbox hg) | ((with_reducible refine gate_callee (f := 12) rfl ?_); refine goesL_ (some 11) rfl rfl Try.func12 (by kernel_rfl) rfl #[.slice A0 l0.length c0] rfl (by (try simp only [lm_, lo_, ln_]); try rfl) ?_; (with_reducible refine (spec_PortsOk.calls k _ _ l0 false _ ?side1 ?side2 A3.out).mono ?_); (case side1 => repeat (first | exact (Kd.C_below HR0.out HB.out) | (with_reducible refine Kd.C_alloc ?_ _) | (with_reducible refine Kd.C_drewN ?_ _) | (with_reducible refine Kd.C_drew ?_))); (case side2 => exact HC0.out); rintro e w40 ⟨rfl, hb⟩; refine ⟨_, rfl, ?_⟩; replace BK209 := mk_ (blk_below (u_ BK209.out) hb); replace HB := mk_ (below_step (us_ HB.out) hb)) | ((with_reducible refine gate_dst (N := 13) rfl ?_); refine Kd.N_lit k47 _ 47 ?hg (N' := 13) ?hd (xs := ([] : List (S47))) (inner := []) (ok := (fun k_ => (w.heap.size ≤ k_) ∧ k_ ≠ gb209)) (okp := (fun k_ => (w.heap.size ≤ k_) ∧ k_ ≠ gb209)) ?hr ?hp (fun _ hk => hk) ((show ∀ k_, w40.heap.size ≤ k_ → (fun k_ => (w.heap.size ≤ k_) ∧ k_ ≠ gb209) k_ from fun k_ hk => ⟨(Nat.le_trans (below_size (us_ HB.out)) hk), Kd.freshB (g := gb209) (o := .cells #[.int .i64 0, .int .i64 0, .int .i64 0, .slice none 0 0] 40 (0, 0)) (u_ BK209.out) k_ hk⟩) _ (Nat.le_refl _)) (Below.refl _ _) (Nat.le_refl _) (by simp) ?_; (case hd => rfl); (case hg => rfl); (case hr => first | (go_simp; done) | (go_simp; rfl)); (case hp => exact (Reps.none _ _)); intro v212 w41 ho42 hb hg_ hnew_; clear hg_ hnew_; (first | rw [← Ny211.out] at ho42 | (simp only [Int.reduceToNat] at ho42; rw [← Ny211.out] at ho42)); have HO213 := mk_ (Kd.N_lower ho42 (below_size (us_ HB.out))); replace BK209 := mk_ (blk_below (u_ BK209.out) hb); replace HB := mk_ (below_step (us_ HB.out) hb); clear hb ho42; obtain ⟨_, _, _, _, _, _, _, _⟩ := cells4_ BK209.out))
  refine bodyPost_ret (results_list (rs := [.tmp 4, .cell 5 40, .tmp 6]) rfl (by simp) (.tmp (.cell gb209 40 #[.int .i64 0, .int .i64 0, .int .i64 0, .slice none 0 0] (0, 0) _ rfl (by (with_reducible repeat (first | refine bn_ ?_ _ | refine bw_ ?_ | refine ba_ ?_ _)); refine blk_put (cs := #[.int .i64 0, .int .i64 0, .int .i64 0, .slice none 0 0]) ?_ 3 _ rfl; (with_reducible repeat (first | refine bn_ ?_ _ | refine bw_ ?_ | refine ba_ ?_ _)); refine blk_put (cs := #[.int .i64 0, .int .i64 0, .int .i64 0, .slice none 0 0]) ?_ 2 _ rfl; (with_reducible repeat (first | refine bn_ ?_ _ | refine bw_ ?_ | refine ba_ ?_ _)); refine blk_put (cs := #[.int .i64 0, .int .i64 0, .int .i64 0, .slice none 0 0]) ?_ 1 _ rfl; (with_reducible repeat (first | refine bn_ ?_ _ | refine bw_ ?_ | refine ba_ ?_ _)); refine blk_put (cs := #[.int .i64 0, .int .i64 0, .int .i64 0, .slice none 0 0]) ?_ 0 _ rfl; (with_reducible repeat (first | refine bn_ ?_ _ | refine bw_ ?_ | refine ba_ ?_ _)); exact BK209.out) Try.underlying40 rfl (by kernel_rfl) (.tmp .nil)))) rfl ?_
  exact ⟨_, _, by first | rfl | (simp [errW_none, errW_some] <;> rfl) | (simp [*, errW_none, errW_some] <;> rfl), by (with_reducible repeat (first | apply Kd.N_alloc | apply Kd.N_drewN | apply Kd.N_drew)); exact Kd.N_mono (Kd.N_far (p := ⟨gb209, 3, none⟩) (Kd.N_far (p := ⟨gb209, 2, none⟩) (Kd.N_far (p := ⟨gb209, 1, none⟩) (Kd.N_far (p := ⟨gb209, 0, none⟩) (Kd.N_mono HO213.out (fun k_ hk => (⟨hk, hk.2⟩ : _ ∧ k_ ≠ gb209))) (fun _ hk => hk.2) (.int .i64 0)) (fun _ hk => hk.2) (.int .i64 0)) (fun _ hk => hk.2) (.int .i64 0)) (fun _ hk => hk.2) (.slice none 0 0)) (fun _ hk => hk.1.1), Kd.R_V (base := w.heap.size) (by first | exact Kd.R_nil _ _ _ _ _ | exact Kd.N_nil _ _ _ _ _ | exact Kd.V_nil _ _ _ _ _ | exact Kd.Q_nil _ _ _ _ _ | exact Kd.S_nil _ _ _ _ _), us_ HB.out⟩
 subst c4
 have H1 : ((spec_l9Copy.f k l0).bind fun t214 => ((spec_l9At.f k l0 a1).bind fun t217 => (if t217 < 0 then (some (t214, 0, 0, 0, ([] : List Int), false)) else (if 0 ≤ t217 then (if t217 < (t214.length : Int) then (if (((rd_T47 t214 t217).f1).length : Int) = 0 then (some (t214, 0, 0, 0, ([] : List Int), false)) else (if 0 < (((rd_T47 t214 t217).f1).length : Int) then (if 1 ≤ (((rd_T47 t214 t217).f1).length : Int) then (some ((t214.set (t217 : Int).toNat (⟨(rd_T47 t214 t217).f0, (((rd_T47 t214 t217).f1).drop 1)⟩ : S47)), (rd_T40 ((rd_T47 t214 t217).f1) 0).f0, (rd_T40 ((rd_T47 t214 t217).f1) 0).f1, (rd_T40 ((rd_T47 t214 t217).f1) 0).f2, (rd_T40 ((rd_T47 t214 t217).f1) 0).f3, true)) else (none)) else (none))) else (none)) else (none))))) = some (r1, r2, r3, r4, r5, r6) := by rw [if_pos rfl] at H; exact H
 clear H
 have H := H1
 clear H1
 replace H := Option.bind_eq_some_iff.mp H
 obtain ⟨t214, A50, H⟩ := H
 replace H : ((spec_l9At.f k l0 a1).bind fun t217 => (if t217 < 0 then (some (t214, 0, 0, 0, ([] : List Int), false)) else (if 0 ≤ t217 then (if t217 < (t214.length : Int) then (if (((rd_T47 t214 t217).f1).length : Int) = 0 then (some (t214, 0, 0, 0, ([] : List Int), false)) else (if 0 < (((rd_T47 t214 t217).f1).length : Int) then (if 1 ≤ (((rd_T47 t214 t217).f1).length : Int) then (some ((t214.set (t217 : Int).toNat (⟨(rd_T47 t214 t217).f0, (((rd_T47 t214 t217).f1).drop 1)⟩ : S47)), (rd_T40 ((rd_T47 t214 t217).f1) 0).f0, (rd_T40 ((rd_T47 t214 t217).f1) 0).f1, (rd_T40 ((rd_T47 t214 t217).f1) 0).f2, (rd_T40 ((rd_T47 t214 t217).f1) 0).f3, true)) else (none)) else (none))) else (none)) else (none)))) = some (r1, r2, r3, r4, r5, r6) := H
 have A5 := mk_ A50
 clear A50
 replace H := Option.bind_eq_some_iff.mp H
 obtain ⟨t217, A60, H⟩ := H
 replace H : (if t217 < 0 then (some (t214, 0, 0, 0, ([] : List Int), false)) else (if 0 ≤ t217 then (if t217 < (t214.length : Int) then (if (((rd_T47 t214 t217).f1).length : Int) = 0 then (some (t214, 0, 0, 0, ([] : List Int), false)) else (if 0 < (((rd_T47 t214 t217).f1).length : Int) then (if 1 ≤ (((rd_T47 t214 t217).f1).length : Int) then (some ((t214.set (t217 : Int).toNat (⟨(rd_T47 t214 t217).f0, (((rd_T47 t214 t217).f1).drop 1)⟩ : S47)), (rd_T40 ((rd_T47 t214 t217).f1) 0).f0, (rd_T40 ((rd_T47 t214 t217).f1) 0).f1, (rd_T40 ((rd_T47 t214 t217).f1) 0).f2, (rd_T40 ((rd_T47 t214 t217).f1) 0).f3, true)) else (none)) else (none))) else (none)) else (none))) = some (r1, r2, r3, r4, r5, r6) := H
 have A6 := mk_ A60
 clear A60
 by_cases c7 : t217 < 0
 ·rw [if_pos c7] at H
  have c7b0 : decide (t217 < 0) = true := decide_eq_true c7
  clear c7
  simp only [Option.some.injEq, Prod.mk.injEq] at H
  obtain ⟨rfl, rfl, rfl, rfl, rfl, rfl⟩ := H
  go_enter Try.func24, Try.ntmps24
  go_wp2_with (first | ((with_reducible refine gate_dst (N := 5) rfl ?_); refine box_event ?hg (N := 5) ?hd (cs := #[.int .i64 0, .int .i64 0, .int .i64 0, .slice none 0 0]) (t := 40) ?hr ?_; (case hd => rfl); (case hg => rfl); (case hr => first | (go_simp; done) | (go_simp; rfl)); intro gb209 hg w8 hbox hb; have n0_ := mk_ (below_step (ub_ HB.out) hb); have BK209 := mk_ (hbox); have GW209 := mk_ ((by rw [hg]; exact (below_size (ub_ HB.out)) : w.heap.size ≤ gb209)); have GE209 := ge_ ((by rw [hg]; exact (below_size (ub_ HB.out)) : w.heap.size ≤ gb209)); replace HB := n0_; clear n0_; clear hb hbox hg) | ((with_reducible refine gate_callee (f := 12) rfl ?_); refine goesL_ (some 11) rfl rfl Try.func12 (by kernel_rfl) rfl #[.slice A0 l0.length c0] rfl (by (try simp only [lm_, lo_, ln_]); try rfl) ?_; (with_reducible refine (spec_PortsOk.calls k _ _ l0 true _ ?side1 ?side2 A3.out).mono ?_); (case side1 => repeat (first | exact (Kd.C_below HR0.out HB.out) | (with_reducible refine Kd.C_alloc ?_ _) | (with_reducible refine Kd.C_drewN ?_ _) | (with_reducible refine Kd.C_drew ?_))); (case side2 => exact HC0.out); rintro e w9 ⟨rfl, hb⟩; refine ⟨_, rfl, ?_⟩; replace BK209 := mk_ (blk_below (u_ BK209.out) hb); replace HB := mk_ (below_step (us_ HB.out) hb)) | ((with_reducible refine gate_callee (f := 52) rfl ?_); refine goesL_ (some 16) rfl rfl Try.func52 (by kernel_rfl) rfl #[.slice A0 l0.length c0] rfl (by (try simp only [lm_, lo_, ln_]); try rfl) ?_; (with_reducible refine (spec_l9Copy.calls k _ _ l0 t214 _ ?side1 ?side2 A5.out).mono ?_); (case side1 => repeat (first | exact (Kd.C_below HR0.out HB.out) | (with_reducible refine Kd.C_alloc ?_ _) | (with_reducible refine Kd.C_drewN ?_ _) | (with_reducible refine Kd.C_drew ?_))); (case side2 => exact HC0.out); rintro e w10 ⟨v215, rfl, ho0, hb⟩; refine ⟨_, rfl, ?_⟩; have HO216 := mk_ (Kd.N_lower (Kd.N_mono (ok' := fun k_ => (w.heap.size ≤ k_) ∧ k_ ≠ gb209) (Kd.R_N (Kd.R_bound ho0)) (fun k_ hk_ => ⟨(Nat.le_trans (below_size (us_ HB.out)) hk_.2.1), (Kd.freshB (g := gb209) (o := .cells #[.int .i64 0, .int .i64 0, .int .i64 0, .slice none 0 0] 40 (0, 0)) (u_ BK209.out) k_ hk_.2.1)⟩)) (below_size (us_ HB.out))); replace BK209 := mk_ (blk_below (u_ BK209.out) hb); replace HB := mk_ (below_step (us_ HB.out) hb)) | ((with_reducible refine gate_callee (f := 51) rfl ?_); refine goesL_ (some 19) rfl rfl Try.func51 (by kernel_rfl) rfl #[.slice A0 l0.length c0, .int .i64 a1] rfl (by (try simp only [lm_, lo_, ln_]); try rfl) ?_; (with_reducible refine (spec_l9At.calls k _ _ l0 a1 t217 _ ?side1 ?side2 A6.out).mono ?_); (case side1 => repeat (first | exact (Kd.C_below HR0.out HB.out) | (with_reducible refine Kd.C_alloc ?_ _) | (with_reducible refine Kd.C_drewN ?_ _) | (with_reducible refine Kd.C_drew ?_))); (case side2 => exact HC0.out); rintro e w' ⟨rfl, ⟨nd, rfl⟩⟩; refine ⟨_, rfl, ?_⟩; (try simp only [World.drewN_drewN]); (try (rw [drewN_self w10]; generalize hq_ : World.drewN w10 _ = w10; have n0_ : Aside0 (Kd.N k47 47 w10 w.heap.size (fun k_ => (w.heap.size ≤ k_) ∧ k_ ≠ gb209) v215 t214) := ⟨by rw [← hq_]; exact (by (with_reducible repeat (first | apply Kd.N_alloc | apply Kd.N_drewN | apply Kd.N_drew)); exact HO216.out)⟩; have n1_ : Aside0 (w10.heap[gb209]? = some (.cells #[.int .i64 0, .int .i64 0, .int .i64 0, .slice none 0 0] 40 (0, 0))) := ⟨by rw [← hq_]; exact (u_ BK209.out)⟩; have n2_ : Aside0 (Below w.heap.size w w10) := ⟨by rw [← hq_]; exact (us_ HB.out)⟩; clear HO216 BK209 HB hq_; have HO216 := n0_; have BK209 := n1_; have HB := n2_; clear n0_ n1_ n2_)); obtain ⟨hcz11_0, hcz11_1, hcz11_2, hcz11_3, hfz11_0, hfz11_1, hfz11_2, hfz11_3⟩ := cells4_ BK209.out))
  refine bodyPost_ret (results_list (rs := [.tmp 4, .cell 5 40, .tmp 6]) rfl (by simp) (.tmp (.cell gb209 40 #[.int .i64 0, .int .i64 0, .int .i64 0, .slice none 0 0] (0, 0) _ rfl (by (with_reducible repeat (first | refine bn_ ?_ _ | refine bw_ ?_ | refine ba_ ?_ _)); refine blk_put (cs := #[.int .i64 0, .int .i64 0, .int .i64 0, .slice none 0 0]) ?_ 3 _ rfl; (with_reducible repeat (first | refine bn_ ?_ _ | refine bw_ ?_ | refine ba_ ?_ _)); refine blk_put (cs := #[.int .i64 0, .int .i64 0, .int .i64 0, .slice none 0 0]) ?_ 2 _ rfl; (with_reducible repeat (first | refine bn_ ?_ _ | refine bw_ ?_ | refine ba_ ?_ _)); refine blk_put (cs := #[.int .i64 0, .int .i64 0, .int .i64 0, .slice none 0 0]) ?_ 1 _ rfl; (with_reducible repeat (first | refine bn_ ?_ _ | refine bw_ ?_ | refine ba_ ?_ _)); refine blk_put (cs := #[.int .i64 0, .int .i64 0, .int .i64 0, .slice none 0 0]) ?_ 0 _ rfl; (with_reducible repeat (first | refine bn_ ?_ _ | refine bw_ ?_ | refine ba_ ?_ _)); exact BK209.out) Try.underlying40 rfl (by kernel_rfl) (.tmp .nil)))) rfl ?_
  exact ⟨_, _, by first | rfl | (simp [errW_none, errW_some] <;> rfl) | (simp [*, errW_none, errW_some] <;> rfl), by (with_reducible repeat (first | apply Kd.N_alloc | apply Kd.N_drewN | apply Kd.N_drew)); exact Kd.N_mono (Kd.N_far (p := ⟨gb209, 3, none⟩) (Kd.N_far (p := ⟨gb209, 2, none⟩) (Kd.N_far (p := ⟨gb209, 1, none⟩) (Kd.N_far (p := ⟨gb209, 0, none⟩) (Kd.N_mono HO216.out (fun k_ hk => (⟨hk, hk.2⟩ : _ ∧ k_ ≠ gb209))) (fun _ hk => hk.2) (.int .i64 0)) (fun _ hk => hk.2) (.int .i64 0)) (fun _ hk => hk.2) (.int .i64 0)) (fun _ hk => hk.2) (.slice none 0 0)) (fun _ hk => hk.1.1), Kd.R_V (base := w.heap.size) (by first | exact Kd.R_nil _ _ _ _ _ | exact Kd.N_nil _ _ _ _ _ | exact Kd.V_nil _ _ _ _ _ | exact Kd.Q_nil _ _ _ _ _ | exact Kd.S_nil _ _ _ _ _), us_ HB.out⟩
 rw [if_neg c7] at H
 have c7b0 : decide (t217 < 0) = false := decide_eq_false c7
 clear c7
 by_cases c12 : 0 ≤ t217
 rotate_left
 ·rw [if_neg c12] at H
  exact absurd H (by simp)
 rw [if_pos c12] at H
 have c12b0 : decide (0 ≤ t217) = true := decide_eq_true c12
 clear c12
 by_cases c13 : t217 < (t214.length : Int)
 rotate_left
 ·rw [if_neg c13] at H
  exact absurd H (by simp)
 rw [if_pos c13] at H
 have c13b0 : decide (t217 < (t214.length : Int)) = true := decide_eq_true c13
 clear c13
 by_cases c14 : (((rd_T47 t214 t217).f1).length : Int) = 0
 ·rw [if_pos c14] at H
  have c14b0 : ((((rd_T47 t214 t217).f1).length : Int) == 0) = true := beq_iff_eq.mpr c14
  have c14b1 : ((((rd_T47 t214 t217).f1).length : Int) != 0) = false := bne_eq_false_iff_eq.mpr c14
  clear c14
  simp only [Option.some.injEq, Prod.mk.injEq] at H
  obtain ⟨rfl, rfl, rfl, rfl, rfl, rfl⟩ := H
  go_enter Try.func24, Try.ntmps24
  go_wp2_with (first | ((with_reducible refine gate_dst (N := 5) rfl ?_); refine box_event ?hg (N := 5) ?hd (cs := #[.int .i64 0, .int .i64 0, .int .i64 0, .slice none 0 0]) (t := 40) ?hr ?_; (case hd => rfl); (case hg => rfl); (case hr => first | (go_simp; done) | (go_simp; rfl)); intro gb209 hg w15 hbox hb; have n0_ := mk_ (below_step (ub_ HB.out) hb); have BK209 := mk_ (hbox); have GW209 := mk_ ((by rw [hg]; exact (below_size (ub_ HB.out)) : w.heap.size ≤ gb209)); have GE209 := ge_ ((by rw [hg]; exact (below_size (ub_ HB.out)) : w.heap.size ≤ gb209)); replace HB := n0_; clear n0_; clear hb hbox hg) | ((with_reducible refine gate_callee (f := 12) rfl ?_); refine goesL_ (some 11) rfl rfl Try.func12 (by kernel_rfl) rfl #[.slice A0 l0.length c0] rfl (by (try simp only [lm_, lo_, ln_]); try rfl) ?_; (with_reducible refine (spec_PortsOk.calls k _ _ l0 true _ ?side1 ?side2 A3.out).mono ?_); (case side1 => repeat (first | exact (Kd.C_below HR0.out HB.out) | (with_reducible refine Kd.C_alloc ?_ _) | (with_reducible refine Kd.C_drewN ?_ _) | (with_reducible refine Kd.C_drew ?_))); (case side2 => exact HC0.out); rintro e w16 ⟨rfl, hb⟩; refine ⟨_, rfl, ?_⟩; replace BK209 := mk_ (blk_below (u_ BK209.out) hb); replace HB := mk_ (below_step (us_ HB.out) hb)) | ((with_reducible refine gate_callee (f := 52) rfl ?_); refine goesL_ (some 16) rfl rfl Try.func52 (by kernel_rfl) rfl #[.slice A0 l0.length c0] rfl (by (try simp only [lm_, lo_, ln_]); try rfl) ?_; (with_reducible refine (spec_l9Copy.calls k _ _ l0 t214 _ ?side1 ?side2 A5.out).mono ?_); (case side1 => repeat (first | exact (Kd.C_below HR0.out HB.out) | (with_reducible refine Kd.C_alloc ?_ _) | (with_reducible refine Kd.C_drewN ?_ _) | (with_reducible refine Kd.C_drew ?_))); (case side2 => exact HC0.out); rintro e w17 ⟨v215, rfl, ho0, hb⟩; refine ⟨_, rfl, ?_⟩; have HO216 := mk_ (Kd.N_lower (Kd.N_mono (ok' := fun k_ => (w.heap.size ≤ k_) ∧ k_ ≠ gb209) (Kd.R_N (Kd.R_bound ho0)) (fun k_ hk_ => ⟨(Nat.le_trans (below_size (us_ HB.out)) hk_.2.1), (Kd.freshB (g := gb209) (o := .cells #[.int .i64 0, .int .i64 0, .int .i64 0, .slice none 0 0] 40 (0, 0)) (u_ BK209.out) k_ hk_.2.1)⟩)) (below_size (us_ HB.out))); replace BK209 := mk_ (blk_below (u_ BK209.out) hb); replace HB := mk_ (below_step (us_ HB.out) hb)) | ((with_reducible refine gate_callee (f := 51) rfl ?_); refine goesL_ (some 19) rfl rfl Try.func51 (by kernel_rfl) rfl #[.slice A0 l0.length c0, .int .i64 a1] rfl (by (try simp only [lm_, lo_, ln_]); try rfl) ?_; (with_reducible refine (spec_l9At.calls k _ _ l0 a1 t217 _ ?side1 ?side2 A6.out).mono ?_); (case side1 => repeat (first | exact (Kd.C_below HR0.out HB.out) | (with_reducible refine Kd.C_alloc ?_ _) | (with_reducible refine Kd.C_drewN ?_ _) | (with_reducible refine Kd.C_drew ?_))); (case side2 => exact HC0.out); rintro e w' ⟨rfl, ⟨nd, rfl⟩⟩; refine ⟨_, rfl, ?_⟩; (try simp only [World.drewN_drewN]); (try (rw [drewN_self w17]; generalize hq_ : World.drewN w17 _ = w17; have n0_ : Aside0 (Kd.N k47 47 w17 w.heap.size (fun k_ => (w.heap.size ≤ k_) ∧ k_ ≠ gb209) v215 t214) := ⟨by rw [← hq_]; exact (by (with_reducible repeat (first | apply Kd.N_alloc | apply Kd.N_drewN | apply Kd.N_drew)); exact HO216.out)⟩; have n1_ : Aside0 (w17.heap[gb209]? = some (.cells #[.int .i64 0, .int .i64 0, .int .i64 0, .slice none 0 0] 40 (0, 0))) := ⟨by rw [← hq_]; exact (u_ BK209.out)⟩; have n2_ : Aside0 (Below w.heap.size w w17) := ⟨by rw [← hq_]; exact (us_ HB.out)⟩; clear HO216 BK209 HB hq_; have HO216 := n0_; have BK209 := n1_; have HB := n2_; clear n0_ n1_ n2_)); obtain ⟨Ao18, co18, eo18⟩ := Kd.N_slice HO216.out; subst eo18; have p218 : 0 ≤ (t217 : Int) := of_decide_eq_true (by first | (with_reducible assumption) | assumption); have q218 : t217 < (t214.length : Int) := of_decide_eq_true (by first | (with_reducible assumption) | assumption); obtain ⟨ad218, A218_1, c218_1, e218, hx218_0, hx218_1, hl218_1, hi218_1⟩ := at_T47 (Kd.N_reads' HO216.out).2.2 t217 p218 q218; cases e218; obtain ⟨ce218, hce218, hMe218, hcc218⟩ := Kd.N_get HO216.out z47 t217 p218 (by first | exact q218 | exact of_decide_eq_true (by first | (with_reducible assumption) | assumption) | (have e_ := (Kd.N_reads' HO216.out).1; omega)); obtain ⟨ua218_1, uc218_1, rfl, ul218_1, ge218_1⟩ := k47_openF hMe218; have hv218_1 := hcc218 1 _ rfl; rw [add_field _ _ 1 (by omega)] at hv218_1; replace hv218_1 := Option.some.inj (hv218_1.symm.trans hx218_1); injection hv218_1 with hva_ hvn_ hvc_; rw [hva_] at ge218_1; rw [hvc_] at ul218_1; have HL218_1 := mk_ (show Kd.V k40 40 _ w.heap.size _ _ ((rd_T47 t214 t217).f1) from Kd.V_mk ul218_1 ge218_1); clear hva_ hvn_ hvc_ ge218_1 ul218_1; clear hcc218 hce218; have HR218_1 := mk_ hi218_1; have HC218_1 := mk_ hl218_1; clear hi218_1 hl218_1; replace p218 := eq_true p218; replace q218 := eq_true q218; obtain ⟨hcz19_0, hcz19_1, hcz19_2, hcz19_3, hfz19_0, hfz19_1, hfz19_2, hfz19_3⟩ := cells4_ BK209.out))
  refine bodyPost_ret (results_list (rs := [.tmp 4, .cell 5 40, .tmp 6]) rfl (by simp) (.tmp (.cell gb209 40 #[.int .i64 0, .int .i64 0, .int .i64 0, .slice none 0 0] (0, 0) _ rfl (by (with_reducible repeat (first | refine bn_ ?_ _ | refine bw_ ?_ | refine ba_ ?_ _)); refine blk_put (cs := #[.int .i64 0, .int .i64 0, .int .i64 0, .slice none 0 0]) ?_ 3 _ rfl; (with_reducible repeat (first | refine bn_ ?_ _ | refine bw_ ?_ | refine ba_ ?_ _)); refine blk_put (cs := #[.int .i64 0, .int .i64 0, .int .i64 0, .slice none 0 0]) ?_ 2 _ rfl; (with_reducible repeat (first | refine bn_ ?_ _ | refine bw_ ?_ | refine ba_ ?_ _)); refine blk_put (cs := #[.int .i64 0, .int .i64 0, .int .i64 0, .slice none 0 0]) ?_ 1 _ rfl; (with_reducible repeat (first | refine bn_ ?_ _ | refine bw_ ?_ | refine ba_ ?_ _)); refine blk_put (cs := #[.int .i64 0, .int .i64 0, .int .i64 0, .slice none 0 0]) ?_ 0 _ rfl; (with_reducible repeat (first | refine bn_ ?_ _ | refine bw_ ?_ | refine ba_ ?_ _)); exact BK209.out) Try.underlying40 rfl (by kernel_rfl) (.tmp .nil)))) rfl ?_
  exact ⟨_, _, by first | rfl | (simp [errW_none, errW_some] <;> rfl) | (simp [*, errW_none, errW_some] <;> rfl), by (with_reducible repeat (first | apply Kd.N_alloc | apply Kd.N_drewN | apply Kd.N_drew)); exact Kd.N_mono (Kd.N_far (p := ⟨gb209, 3, none⟩) (Kd.N_far (p := ⟨gb209, 2, none⟩) (Kd.N_far (p := ⟨gb209, 1, none⟩) (Kd.N_far (p := ⟨gb209, 0, none⟩) (Kd.N_mono HO216.out (fun k_ hk => (⟨hk, hk.2⟩ : _ ∧ k_ ≠ gb209))) (fun _ hk => hk.2) (.int .i64 0)) (fun _ hk => hk.2) (.int .i64 0)) (fun _ hk => hk.2) (.int .i64 0)) (fun _ hk => hk.2) (.slice none 0 0)) (fun _ hk => hk.1.1), Kd.R_V (base := w.heap.size) (by first | exact Kd.R_nil _ _ _ _ _ | exact Kd.N_nil _ _ _ _ _ | exact Kd.V_nil _ _ _ _ _ | exact Kd.Q_nil _ _ _ _ _ | exact Kd.S_nil _ _ _ _ _), us_ HB.out⟩
 rw [if_neg c14] at H
 have c14b0 : ((((rd_T47 t214 t217).f1).length : Int) == 0) = false := beq_eq_false_iff_ne.mpr c14
 have c14b1 : ((((rd_T47 t214 t217).f1).length : Int) != 0) = true := bne_iff_ne.mpr c14
 have c14b2 : ¬ (((rd_T47 t214 t217).f1) = []) := fun h_ => c14 (by rw [h_]; rfl)
 by_cases c20 : 0 < (((rd_T47 t214 t217).f1).length : Int)
 rotate_left
 ·rw [if_neg c20] at H
  exact absurd H (by simp)
 rw [if_pos c20] at H
 have c20b0 : decide (0 < (((rd_T47 t214 t217).f1).length : Int)) = true := decide_eq_true c20
 have c20b1 : decide (0 < ((rd_T47 t214 t217).f1).length) = true := decide_eq_true (by omega)
 clear c20
 by_cases c21 : 1 ≤ (((rd_T47 t214 t217).f1).length : Int)
 rotate_left
 ·rw [if_neg c21] at H
  exact absurd H (by simp)
 rw [if_pos c21] at H
 have c21b0 := eq_true c21
 have c21b1 : decide (1 ≤ (((rd_T47 t214 t217).f1).length : Int)) = true := decide_eq_true c21
 clear c21
 obtain ⟨y223, hy223⟩ : ∃ y_ : List (S40), y_ = (((rd_T47 t214 t217).f1).drop 1) := ⟨_, rfl⟩
 replace H : (some ((t214.set (t217 : Int).toNat (⟨(rd_T47 t214 t217).f0, y223⟩ : S47)), (rd_T40 ((rd_T47 t214 t217).f1) 0).f0, (rd_T40 ((rd_T47 t214 t217).f1) 0).f1, (rd_T40 ((rd_T47 t214 t217).f1) 0).f2, (rd_T40 ((rd_T47 t214 t217).f1) 0).f3, true)) = some (r1, r2, r3, r4, r5, r6) := by first | (rw [hy223]; with_reducible exact H) | (have H2_ := (Option.bind_some _ _).symm.trans H; rw [hy223]; with_reducible exact H2_) | (have H2_ := (Option.bind_some _ _).symm.trans H; with_reducible exact H2_) | with_reducible exact H | (rw [hy223]; exact H) | exact H
 have Ny223 := mk_ hy223
 clear hy223
 obtain ⟨y228, hy228⟩ : ∃ y_ : List (S47), y_ = (t214.set (t217 : Int).toNat (⟨(rd_T47 t214 t217).f0, y223⟩ : S47)) := ⟨_, rfl⟩
 replace H : (some (y228, (rd_T40 ((rd_T47 t214 t217).f1) 0).f0, (rd_T40 ((rd_T47 t214 t217).f1) 0).f1, (rd_T40 ((rd_T47 t214 t217).f1) 0).f2, (rd_T40 ((rd_T47 t214 t217).f1) 0).f3, true)) = some (r1, r2, r3, r4, r5, r6) := by first | (rw [hy228]; with_reducible exact H) | (have H2_ := (Option.bind_some _ _).symm.trans H; rw [hy228]; with_reducible exact H2_) | (have H2_ := (Option.bind_some _ _).symm.trans H; with_reducible exact H2_) | with_reducible exact H | (rw [hy228]; exact H) | exact H
 have Ny228 := mk_ hy228
 clear hy228
 simp only [Option.some.injEq, Prod.mk.injEq] at H
 obtain ⟨rfl, rfl, rfl, rfl, rfl, rfl⟩ := H
 go_enter Try.func24, Try.ntmps24
 try go_wp2_with (first | ((with_reducible refine gate_dst (N := 5) rfl ?_); refine box_event ?hg (N := 5) ?hd (cs := #[.int .i64 0, .int .i64 0, .int .i64 0, .slice none 0 0]) (t := 40) ?hr ?_; (case hd => rfl); (case hg => rfl); (case hr => first | (go_simp; done) | (go_simp; rfl)); intro gb209 hg w23 hbox hb; have n0_ := mk_ (below_step (ub_ HB.out) hb); have BK209 := mk_ (hbox); have GW209 := mk_ ((by rw [hg]; exact (below_size (ub_ HB.out)) : w.heap.size ≤ gb209)); have GE209 := ge_ ((by rw [hg]; exact (below_size (ub_ HB.out)) : w.heap.size ≤ gb209)); replace HB := n0_; clear n0_; clear hb hbox hg) | ((with_reducible refine gate_callee (f := 12) rfl ?_); refine goesL_ (some 11) rfl rfl Try.func12 (by kernel_rfl) rfl #[.slice A0 l0.length c0] rfl (by (try simp only [lm_, lo_, ln_]); try rfl) ?_; (with_reducible refine (spec_PortsOk.calls k _ _ l0 true _ ?side1 ?side2 A3.out).mono ?_); (case side1 => repeat (first | exact (Kd.C_below HR0.out HB.out) | (with_reducible refine Kd.C_alloc ?_ _) | (with_reducible refine Kd.C_drewN ?_ _) | (with_reducible refine Kd.C_drew ?_))); (case side2 => exact HC0.out); rintro e w24 ⟨rfl, hb⟩; refine ⟨_, rfl, ?_⟩; replace BK209 := mk_ (blk_below (u_ BK209.out) hb); replace HB := mk_ (below_step (us_ HB.out) hb)) | ((with_reducible refine gate_callee (f := 52) rfl ?_); refine goesL_ (some 16) rfl rfl Try.func52 (by kernel_rfl) rfl #[.slice A0 l0.length c0] rfl (by (try simp only [lm_, lo_, ln_]); try rfl) ?_; (with_reducible refine (spec_l9Copy.calls k _ _ l0 t214 _ ?side1 ?side2 A5.out).mono ?_); (case side1 => repeat (first | exact (Kd.C_below HR0.out HB.out) | (with_reducible refine Kd.C_alloc ?_ _) | (with_reducible refine Kd.C_drewN ?_ _) | (with_reducible refine Kd.C_drew ?_))); (case side2 => exact HC0.out); rintro e w25 ⟨v215, rfl, ho0, hb⟩; refine ⟨_, rfl, ?_⟩; have HO216 := mk_ (Kd.N_lower (Kd.N_mono (ok' := fun k_ => (w.heap.size ≤ k_) ∧ k_ ≠ gb209) (Kd.R_N (Kd.R_bound ho0)) (fun k_ hk_ => ⟨(Nat.le_trans (below_size (us_ HB.out)) hk_.2.1), (Kd.freshB (g := gb209) (o := .cells #[.int .i64 0, .int .i64 0, .int .i64 0, .slice none 0 0] 40 (0, 0)) (u_ BK209.out) k_ hk_.2.1)⟩)) (below_size (us_ HB.out))); replace BK209 := mk_ (blk_below (u_ BK209.out) hb); replace HB := mk_ (below_step (us_ HB.out) hb)) | ((with_reducible refine gate_callee (f := 51) rfl ?_); refine goesL_ (some 19) rfl rfl Try.func51 (by kernel_rfl) rfl #[.slice A0 l0.length c0, .int .i64 a1] rfl (by (try simp only [lm_, lo_, ln_]); try rfl) ?_; (with_reducible refine (spec_l9At.calls k _ _ l0 a1 t217 _ ?side1 ?side2 A6.out).mono ?_); (case side1 => repeat (first | exact (Kd.C_below HR0.out HB.out) | (with_reducible refine Kd.C_alloc ?_ _) | (with_reducible refine Kd.C_drewN ?_ _) | (with_reducible refine Kd.C_drew ?_))); (case side2 => exact HC0.out); rintro e w' ⟨rfl, ⟨nd, rfl⟩⟩; refine ⟨_, rfl, ?_⟩; (try simp only [World.drewN_drewN]); (try (rw [drewN_self w25]; generalize hq_ : World.drewN w25 _ = w25; have n0_ : Aside0 (Kd.N k47 47 w25 w.heap.size (fun k_ => (w.heap.size ≤ k_) ∧ k_ ≠ gb209) v215 t214) := ⟨by rw [← hq_]; exact (by (with_reducible repeat (first | apply Kd.N_alloc | apply Kd.N_drewN | apply Kd.N_drew)); exact HO216.out)⟩; have n1_ : Aside0 (w25.heap[gb209]? = some (.cells #[.int .i64 0, .int .i64 0, .int .i64 0, .slice none 0 0] 40 (0, 0))) := ⟨by rw [← hq_]; exact (u_ BK209.out)⟩; have n2_ : Aside0 (Below w.heap.size w w25) := ⟨by rw [← hq_]; exact (us_ HB.out)⟩; clear HO216 BK209 HB hq_; have HO216 := n0_; have BK209 := n1_; have HB := n2_; clear n0_ n1_ n2_)); obtain ⟨Ao26, co26, eo26⟩ := Kd.N_slice HO216.out; subst eo26; have p218 : 0 ≤ (t217 : Int) := of_decide_eq_true (by first | (with_reducible assumption) | assumption); have q218 : t217 < (t214.length : Int) := of_decide_eq_true (by first | (with_reducible assumption) | assumption); obtain ⟨ad218, A218_1, c218_1, e218, hx218_0, hx218_1, hl218_1, hi218_1⟩ := at_T47 (Kd.N_reads' HO216.out).2.2 t217 p218 q218; cases e218; obtain ⟨ce218, hce218, hMe218, hcc218⟩ := Kd.N_get HO216.out z47 t217 p218 (by first | exact q218 | exact of_decide_eq_true (by first | (with_reducible assumption) | assumption) | (have e_ := (Kd.N_reads' HO216.out).1; omega)); obtain ⟨ua218_1, uc218_1, rfl, ul218_1, ge218_1⟩ := k47_openF hMe218; have hv218_1 := hcc218 1 _ rfl; rw [add_field _ _ 1 (by omega)] at hv218_1; replace hv218_1 := Option.some.inj (hv218_1.symm.trans hx218_1); injection hv218_1 with hva_ hvn_ hvc_; rw [hva_] at ge218_1; rw [hvc_] at ul218_1; have HL218_1 := mk_ (show Kd.V k40 40 _ w.heap.size _ _ ((rd_T47 t214 t217).f1) from Kd.V_mk ul218_1 ge218_1); clear hva_ hvn_ hvc_ ge218_1 ul218_1; clear hcc218 hce218; have HR218_1 := mk_ hi218_1; have HC218_1 := mk_ hl218_1; clear hi218_1 hl218_1; replace p218 := eq_true p218; replace q218 := eq_true q218; have p219 : 0 ≤ (t217 : Int) := of_decide_eq_true (by first | (with_reducible assumption) | assumption); have q219 : t217 < (t214.length : Int) := of_decide_eq_true (by first | (with_reducible assumption) | assumption); obtain ⟨ad219, A219_1, c219_1, e219, hx219_0, hx219_1, hl219_1, hi219_1⟩ := at_T47 (Kd.N_reads' HO216.out).2.2 t217 p219 q219; obtain rfl : ad218 = ad219 := (by injection e219); obtain ⟨ce219, hce219, hMe219, hcc219⟩ := Kd.N_get HO216.out z47 t217 p219 (by first | exact q219 | exact of_decide_eq_true (by first | (with_reducible assumption) | assumption) | (have e_ := (Kd.N_reads' HO216.out).1; omega)); obtain ⟨ua219_1, uc219_1, rfl, ul219_1, ge219_1⟩ := k47_openF hMe219; have hv219_1 := hcc219 1 _ rfl; rw [add_field _ _ 1 (by omega)] at hv219_1; replace hv219_1 := Option.some.inj (hv219_1.symm.trans hx219_1); injection hv219_1 with hva_ hvn_ hvc_; rw [hva_] at ge219_1; rw [hvc_] at ul219_1; have HL219_1 := mk_ (show Kd.V k40 40 _ w.heap.size _ _ ((rd_T47 t214 t217).f1) from Kd.V_mk ul219_1 ge219_1); clear hva_ hvn_ hvc_ ge219_1 ul219_1; clear hcc219 hce219; have HR219_1 := mk_ hi219_1; have HC219_1 := mk_ hl219_1; clear hi219_1 hl219_1; replace p219 := eq_true p219; replace q219 := eq_true q219; have ea_ := Option.some.inj (hx218_1.symm.trans hx219_1); injection ea_ with ea_ en_ ec_; subst ea_; subst ec_; clear en_; have p220 : 0 ≤ (0 : Int) := (by omega); have q220 : 0 < (((rd_T47 t214 t217).f1).length : Int) := of_decide_eq_true (by first | (with_reducible assumption) | assumption); obtain ⟨ad220, A220_3, c220_3, e220, hx220_0, hx220_1, hx220_2, hx220_3, hl220_3, hi220_3⟩ := at_T40 (by repeat (first | (with_reducible exact HR219_1.out) | (with_reducible refine Kd.C_alloc ?_ _) | (with_reducible refine Kd.C_drewN ?_ _) | (with_reducible refine Kd.C_drew ?_) | exact HR219_1.out)) 0 p220 q220; cases e220; obtain ⟨ce220, hce220, hMe220, hcc220⟩ := Kd.V_get HL219_1.out z40 0 p220 (by first | exact q220 | exact of_decide_eq_true (by first | (with_reducible assumption) | assumption) | (have e_ := (Kd.V_reads' HL219_1.out).1; omega)); obtain ⟨ua220_3, uc220_3, rfl, ul220_3, ge220_3⟩ := k40_openF hMe220; have hv220_3 := hcc220 3 _ rfl; rw [add_field _ _ 3 (by omega)] at hv220_3; replace hv220_3 := Option.some.inj (hv220_3.symm.trans hx220_3); injection hv220_3 with hva_ hvn_ hvc_; rw [hva_] at ge220_3; rw [hvc_] at ul220_3; have HL220_3 := mk_ (show Kd.V (Kd.int .u8) 5 _ w.heap.size _ _ ((rd_T40 ((rd_T47 t214 t217).f1) 0).f3) from Kd.V_mk ul220_3 ge220_3); clear hva_ hvn_ hvc_ ge220_3 ul220_3; clear hcc220 hce220; have qi220 : (0 < ((rd_T47 t214 t217).f1).length) = True := eq_true (by omega); (try rw [show ((0 : Int)).toNat = 0 from rfl] at hx220_0); (try rw [show 0 * 4 = 0 from rfl] at hx220_0); (try rw [Addr.add_zero'] at hx220_0); (try rw [show ((0 : Int)).toNat = 0 from rfl] at hx220_1); (try rw [show 0 * 4 = 0 from rfl] at hx220_1); (try rw [Addr.add_zero'] at hx220_1); (try rw [show ((0 : Int)).toNat = 0 from rfl] at hx220_2); (try rw [show 0 * 4 = 0 from rfl] at hx220_2); (try rw [Addr.add_zero'] at hx220_2); (try rw [show ((0 : Int)).toNat = 0 from rfl] at hx220_3); (try rw [show 0 * 4 = 0 from rfl] at hx220_3); (try rw [Addr.add_zero'] at hx220_3); have HR220_3 := mk_ hi220_3; have HC220_3 := mk_ hl220_3; clear hi220_3 hl220_3; replace p220 := eq_true p220; replace q220 := eq_true q220) | ((with_reducible refine gate_dst (N := 9) rfl ?_); refine box_event ?hg (N := 9) ?hd (cs := #[.int .i64 0, .int .i64 0, .int .i64 0, .slice none 0 0]) (t := 40) ?hr ?_; (case hd => rfl); (case hg => rfl); (case hr => first | (go_simp; done) | (go_simp; rfl)); intro gb221 hg w27 hbox hb; replace HO216 := mk_ (Kd.N_below (Kd.N_elderB (by (with_reducible repeat (first | apply Kd.N_alloc | apply Kd.N_drewN | apply Kd.N_drew)); exact HO216.out) gb221 (Nat.le_of_eq hg.symm)) hb); replace HL218_1 := mk_ (Kd.V_below (Kd.V_elderB (by (with_reducible repeat (first | apply Kd.V_alloc | apply Kd.V_drewN | apply Kd.V_drew)); exact HL218_1.out) gb221 (Nat.le_of_eq hg.symm)) hb); replace HL219_1 := mk_ (Kd.V_below (Kd.V_elderB (by (with_reducible repeat (first | apply Kd.V_alloc | apply Kd.V_drewN | apply Kd.V_drew)); exact HL219_1.out) gb221 (Nat.le_of_eq hg.symm)) hb); replace HL220_3 := mk_ (Kd.V_below (Kd.V_elderB (by (with_reducible repeat (first | apply Kd.V_alloc | apply Kd.V_drewN | apply Kd.V_drew)); exact HL220_3.out) gb221 (Nat.le_of_eq hg.symm)) hb); have n4_ := mk_ (blk_below (u_ BK209.out) hb); replace HR218_1 := mk_ (Kd.C_below (by repeat (first | (with_reducible exact HR218_1.out) | (with_reducible refine Kd.C_alloc ?_ _) | (with_reducible refine Kd.C_drewN ?_ _) | (with_reducible refine Kd.C_drew ?_) | exact HR218_1.out)) hb); replace HR219_1 := mk_ (Kd.C_below (by repeat (first | (with_reducible exact HR219_1.out) | (with_reducible refine Kd.C_alloc ?_ _) | (with_reducible refine Kd.C_drewN ?_ _) | (with_reducible refine Kd.C_drew ?_) | exact HR219_1.out)) hb); replace HR220_3 := mk_ (Kd.C_below (by repeat (first | (with_reducible exact HR220_3.out) | (with_reducible refine Kd.C_alloc ?_ _) | (with_reducible refine Kd.C_drewN ?_ _) | (with_reducible refine Kd.C_drew ?_) | exact HR220_3.out)) hb); have n8_ := mk_ (below_step (us_ HB.out) hb); have BK221 := mk_ (hbox); have GW221 := mk_ ((by rw [hg]; exact (below_size (us_ HB.out)) : w.heap.size ≤ gb221)); have GE221 := ge_ ((by rw [hg]; exact (below_size (us_ HB.out)) : w.heap.size ≤ gb221)); have NB209_221 := nq_ ((by rw [hg]; exact Nat.ne_of_lt (blk_lt (u_ BK209.out)) : gb209 ≠ gb221)); have NB221_209 := nq_ ((by rw [hg]; exact Nat.ne_of_gt (blk_lt (u_ BK209.out)) : gb221 ≠ gb209)); replace BK209 := n4_; replace HB := n8_; clear n4_ n8_; clear hb hbox hg; have hnb28 := NB221_209.out; have hnc28 := NB209_221.out; obtain ⟨_, _, _, _, _, _, _, _⟩ := cells4_ BK221.out) | ((with_reducible refine gate_store (t := 40) (p := 9) rfl ?_); refine store_event (t := 40) (p := 9) (v := ?vo_w30) (w1 := ?w1_2) ?hg ?ho ?hn ?hr ?_; (case ho => rfl); (case hg => rfl); (case hn => rfl); (case hr => first | (go_simp; done) | (go_simp; rfl)); intro w30 hw; have n0_ : Aside0 (Kd.N k47 47 w30 w.heap.size (fun k_ => (w.heap.size ≤ k_) ∧ k_ ≠ gb209 ∧ k_ ≠ gb221) (.slice (some ad218) t214.length co26) t214) := ⟨(by rw [hw]; exact (by (with_reducible repeat (first | apply Kd.N_alloc | apply Kd.N_drewN | apply Kd.N_drew)); exact Kd.N_mono (Kd.N_far (p := ⟨gb221, 3, none⟩) (Kd.N_far (p := ⟨gb221, 2, none⟩) (Kd.N_far (p := ⟨gb221, 1, none⟩) (Kd.N_far (p := ⟨gb221, 0, none⟩) (Kd.N_mono HO216.out (fun k_ hk => (⟨hk, hk.2⟩ : _ ∧ k_ ≠ gb221))) (fun _ hk => hk.2) (.int .i64 ((rd_T40 ((rd_T47 t214 t217).f1) 0).f0))) (fun _ hk => hk.2) (.int .i64 ((rd_T40 ((rd_T47 t214 t217).f1) 0).f1))) (fun _ hk => hk.2) (.int .i64 ((rd_T40 ((rd_T47 t214 t217).f1) 0).f2))) (fun _ hk => hk.2) (.slice A220_3 ((rd_T40 ((rd_T47 t214 t217).f1) 0).f3).length c220_3)) (fun _ hk => by first | exact ⟨hk.1.1.1, ⟨hk.1.1.2, hk.1.2⟩⟩ | exact hk.1 | exact hk | exact ⟨hk.1, hk.2⟩ | exact ⟨.inr hk.1, hk.2⟩ | simp only [hk, ne_eq, not_false_eq_true, and_self])))⟩; have n1_ : Aside0 (Kd.V k40 40 w30 w.heap.size (fun k_ => (w.heap.size ≤ k_) ∧ some k_ ≠ (.slice (some ad218) t214.length co26 : Value).ownBlock ∧ k_ ≠ gb209 ∧ k_ ≠ gb221) (.slice (some ad220) ((rd_T47 t214 t217).f1).length c218_1) ((rd_T47 t214 t217).f1)) := ⟨(by rw [hw]; exact (by (with_reducible repeat (first | apply Kd.V_alloc | apply Kd.V_drewN | apply Kd.V_drew)); exact Kd.V_mono (Kd.V_far (p := ⟨gb221, 3, none⟩) (Kd.V_far (p := ⟨gb221, 2, none⟩) (Kd.V_far (p := ⟨gb221, 1, none⟩) (Kd.V_far (p := ⟨gb221, 0, none⟩) (Kd.V_mono HL218_1.out (fun k_ hk => (⟨hk, hk.2⟩ : _ ∧ k_ ≠ gb221))) (fun _ hk => hk.2) (.int .i64 ((rd_T40 ((rd_T47 t214 t217).f1) 0).f0))) (fun _ hk => hk.2) (.int .i64 ((rd_T40 ((rd_T47 t214 t217).f1) 0).f1))) (fun _ hk => hk.2) (.int .i64 ((rd_T40 ((rd_T47 t214 t217).f1) 0).f2))) (fun _ hk => hk.2) (.slice A220_3 ((rd_T40 ((rd_T47 t214 t217).f1) 0).f3).length c220_3)) (fun _ hk => by first | exact ⟨hk.1.1.1.1, ⟨hk.1.1.2, ⟨hk.1.1.1.2, hk.1.2⟩⟩⟩ | exact hk.1 | exact hk | exact ⟨hk.1, hk.2⟩ | exact ⟨.inr hk.1, hk.2⟩ | simp only [hk, ne_eq, not_false_eq_true, and_self])))⟩; have n2_ : Aside0 (Kd.V k40 40 w30 w.heap.size (fun k_ => (w.heap.size ≤ k_) ∧ some k_ ≠ (.slice (some ad218) t214.length co26 : Value).ownBlock ∧ k_ ≠ gb209 ∧ k_ ≠ gb221) (.slice (some ad220) ((rd_T47 t214 t217).f1).length c218_1) ((rd_T47 t214 t217).f1)) := ⟨(by rw [hw]; exact (by (with_reducible repeat (first | apply Kd.V_alloc | apply Kd.V_drewN | apply Kd.V_drew)); exact Kd.V_mono (Kd.V_far (p := ⟨gb221, 3, none⟩) (Kd.V_far (p := ⟨gb221, 2, none⟩) (Kd.V_far (p := ⟨gb221, 1, none⟩) (Kd.V_far (p := ⟨gb221, 0, none⟩) (Kd.V_mono HL219_1.out (fun k_ hk => (⟨hk, hk.2⟩ : _ ∧ k_ ≠ gb221))) (fun _ hk => hk.2) (.int .i64 ((rd_T40 ((rd_T47 t214 t217).f1) 0).f0))) (fun _ hk => hk.2) (.int .i64 ((rd_T40 ((rd_T47 t214 t217).f1) 0).f1))) (fun _ hk => hk.2) (.int .i64 ((rd_T40 ((rd_T47 t214 t217).f1) 0).f2))) (fun _ hk => hk.2) (.slice A220_3 ((rd_T40 ((rd_T47 t214 t217).f1) 0).f3).length c220_3)) (fun _ hk => by first | exact ⟨hk.1.1.1.1, ⟨hk.1.1.2, ⟨hk.1.1.1.2, hk.1.2⟩⟩⟩ | exact hk.1 | exact hk | exact ⟨hk.1, hk.2⟩ | exact ⟨.inr hk.1, hk.2⟩ | simp only [hk, ne_eq, not_false_eq_true, and_self])))⟩; have n3_ : Aside0 (Kd.V (Kd.int .u8) 5 w30 w.heap.size (fun k_ => (w.heap.size ≤ k_) ∧ some k_ ≠ (.slice (some ad218) t214.length co26 : Value).ownBlock ∧ k_ ≠ gb209 ∧ k_ ≠ gb221) (.slice A220_3 ((rd_T40 ((rd_T47 t214 t217).f1) 0).f3).length c220_3) ((rd_T40 ((rd_T47 t214 t217).f1) 0).f3)) := ⟨(by rw [hw]; exact (by (with_reducible repeat (first | apply Kd.V_alloc | apply Kd.V_drewN | apply Kd.V_drew)); exact Kd.V_mono (Kd.V_far (p := ⟨gb221, 3, none⟩) (Kd.V_far (p := ⟨gb221, 2, none⟩) (Kd.V_far (p := ⟨gb221, 1, none⟩) (Kd.V_far (p := ⟨gb221, 0, none⟩) (Kd.V_mono HL220_3.out (fun k_ hk => (⟨hk, hk.2⟩ : _ ∧ k_ ≠ gb221))) (fun _ hk => hk.2) (.int .i64 ((rd_T40 ((rd_T47 t214 t217).f1) 0).f0))) (fun _ hk => hk.2) (.int .i64 ((rd_T40 ((rd_T47 t214 t217).f1) 0).f1))) (fun _ hk => hk.2) (.int .i64 ((rd_T40 ((rd_T47 t214 t217).f1) 0).f2))) (fun _ hk => hk.2) (.slice A220_3 ((rd_T40 ((rd_T47 t214 t217).f1) 0).f3).length c220_3)) (fun _ hk => by first | exact ⟨hk.1.1.1.1, ⟨hk.1.1.2, ⟨hk.1.1.1.2, hk.1.2⟩⟩⟩ | exact hk.1 | exact hk | exact ⟨hk.1, hk.2⟩ | exact ⟨.inr hk.1, hk.2⟩ | simp only [hk, ne_eq, not_false_eq_true, and_self])))⟩; have n4_ : Aside0 (w30.heap[gb209]? = some (.cells #[.int .i64 0, .int .i64 0, .int .i64 0, .slice none 0 0] 40 (0, 0))) := ⟨(by rw [hw]; exact (uf_ BK209.out))⟩; have n5_ : Aside0 (w30.heap[gb221]? = some (.cells #[.int .i64 ((rd_T40 ((rd_T47 t214 t217).f1) 0).f0), .int .i64 ((rd_T40 ((rd_T47 t214 t217).f1) 0).f1), .int .i64 ((rd_T40 ((rd_T47 t214 t217).f1) 0).f2), .slice A220_3 ((rd_T40 ((rd_T47 t214 t217).f1) 0).f3).length c220_3] 40 (0, 0))) := ⟨(by rw [hw]; exact (by (with_reducible repeat (first | refine bn_ ?_ _ | refine bw_ ?_ | refine ba_ ?_ _)); refine blk_put (cs := #[.int .i64 ((rd_T40 ((rd_T47 t214 t217).f1) 0).f0), .int .i64 ((rd_T40 ((rd_T47 t214 t217).f1) 0).f1), .int .i64 ((rd_T40 ((rd_T47 t214 t217).f1) 0).f2), .slice none 0 0]) ?_ 3 _ rfl; (with_reducible repeat (first | refine bn_ ?_ _ | refine bw_ ?_ | refine ba_ ?_ _)); refine blk_put (cs := #[.int .i64 ((rd_T40 ((rd_T47 t214 t217).f1) 0).f0), .int .i64 ((rd_T40 ((rd_T47 t214 t217).f1) 0).f1), .int .i64 0, .slice none 0 0]) ?_ 2 _ rfl; (with_reducible repeat (first | refine bn_ ?_ _ | refine bw_ ?_ | refine ba_ ?_ _)); refine blk_put (cs := #[.int .i64 ((rd_T40 ((rd_T47 t214 t217).f1) 0).f0), .int .i64 0, .int .i64 0, .slice none 0 0]) ?_ 1 _ rfl; (with_reducible repeat (first | refine bn_ ?_ _ | refine bw_ ?_ | refine ba_ ?_ _)); refine blk_put (cs := #[.int .i64 0, .int .i64 0, .int .i64 0, .slice none 0 0]) ?_ 0 _ rfl; (with_reducible repeat (first | refine bn_ ?_ _ | refine bw_ ?_ | refine ba_ ?_ _)); exact BK221.out))⟩; have n6_ : Aside0 (Below w.heap.size w w30) := ⟨(by rw [hw]; exact (us_ HB.out))⟩; clear hw; clear HO216; clear HL218_1; clear HL219_1; clear HL220_3; clear BK209; clear BK221; clear HB; have HO216 := n0_; have HL218_1 := n1_; have HL219_1 := n2_; have HL220_3 := n3_; have BK209 := n4_; have BK221 := n5_; have HB := n6_; clear n0_ n1_ n2_ n3_ n4_ n5_ n6_; have p222 : 0 ≤ (t217 : Int) := of_decide_eq_true (by first | (with_reducible assumption) | assumption); have q222 : t217 < (t214.length : Int) := of_decide_eq_true (by first | (with_reducible assumption) | assumption); obtain ⟨ad222, A222_1, c222_1, e222, hx222_0, hx222_1, hl222_1, hi222_1⟩ := at_T47 (Kd.N_reads' HO216.out).2.2 t217 p222 q222; obtain rfl : ad218 = ad222 := (by injection e222); obtain ⟨ce222, hce222, hMe222, hcc222⟩ := Kd.N_get HO216.out z47 t217 p222 (by first | exact q222 | exact of_decide_eq_true (by first | (with_reducible assumption) | assumption) | (have e_ := (Kd.N_reads' HO216.out).1; omega)); obtain ⟨ua222_1, uc222_1, rfl, ul222_1, ge222_1⟩ := k47_openF hMe222; have hv222_1 := hcc222 1 _ rfl; rw [add_field _ _ 1 (by omega)] at hv222_1; replace hv222_1 := Option.some.inj (hv222_1.symm.trans hx222_1); injection hv222_1 with hva_ hvn_ hvc_; rw [hva_] at ge222_1; rw [hvc_] at ul222_1; have HL222_1 := mk_ (show Kd.V k40 40 _ w.heap.size _ _ ((rd_T47 t214 t217).f1) from Kd.V_mk ul222_1 ge222_1); clear hva_ hvn_ hvc_ ge222_1 ul222_1; clear hcc222 hce222; have HR222_1 := mk_ hi222_1; have HC222_1 := mk_ hl222_1; clear hi222_1 hl222_1; replace p222 := eq_true p222; replace q222 := eq_true q222; have q31 : (1 : Int) ≤ ((((rd_T47 t214 t217).f1).length : Int) : Int) := of_decide_eq_true (by first | (with_reducible assumption) | assumption); obtain ⟨i031, hi031, _, hsz31, _⟩ := info_parts info40; have hroom31 : ((rd_T47 t214 t217).f1).length ≤ c222_1 := HC222_1.out; have hC31 : Kd.F k40 _ _ A222_1 ((rd_T47 t214 t217).f1).length ((rd_T47 t214 t217).f1) := (Kd.V_at (base := w.heap.size) HL222_1.out).2.2; have hcut31 := cut_from (P := Try.prog) 45 40 .i64 Try.underlying45 hi031 4 hsz31 A222_1 ((rd_T47 t214 t217).f1).length c222_1 1 (by omega) q31; have hr31 := Kd.F_cut (m := (1 : Int).toNat) (c := c222_1) hC31 (by omega) hroom31; obtain ⟨A31, hA31⟩ : ∃ A1, A1 = (if c222_1 = (1 : Int).toNat then A222_1 else (A222_1 : Option Addr).map (·.add ((1 : Int).toNat * 4))) := ⟨_, rfl⟩; obtain ⟨c31, hc31⟩ : ∃ c1, c1 = c222_1 - (1 : Int).toNat := ⟨_, rfl⟩; have hy31 : y223.length = ((rd_T47 t214 t217).f1).length - (1 : Int).toNat := (by rw [Ny223.out, List.length_drop] <;> omega); rw [show ((rd_T47 t214 t217).f1).drop (1 : Int).toNat = y223 from Ny223.out.symm] at hr31; replace hr31 : Kd.F k40 _ _ A31 y223.length y223 := (by rw [hA31]; exact hr31); rw [← hy31, ← hA31, ← hc31] at hcut31; have HO227 := mk_ (show Kd.V k40 40 _ w.heap.size _ (.slice A31 y223.length c31) y223 from Kd.V_mk (by rw [hy31, hc31]; exact Nat.sub_le_sub_right hroom31 _) hr31); have HC227 := mk_ (show y223.length ≤ c31 from by rw [hy31, hc31]; exact Nat.sub_le_sub_right hroom31 _); clear hr31 hC31 hroom31 hi031 hsz31 hc31; have KY31 := mk_ hy31; have KA31 := mk_ hA31; clear hy31 hA31; replace q31 := eq_true q31; have p22 : 0 ≤ (t217 : Int) := of_decide_eq_true (by first | (with_reducible assumption) | assumption); have q22 : (t217 : Int) < ((t214.length : Int) : Int) := of_decide_eq_true (by first | (with_reducible assumption) | assumption); obtain ⟨go22, co22, eo22, gb22, gl22, cl22, HG22⟩ := Kd.N_form HO216.out (by omega); (first | cases eo22 | (injection eo22 with ea_ en_ ec_; (first | subst ea_ | (injection ea_ with ea_; subst ea_)); subst ec_; clear en_)); have GB22 := mk_ gb22; have GG22 := mk_ HG22; clear gb22 gl22 HG22; (first | simp only [add_plain] at hx218_0 | skip); (first | simp only [add_plain] at hx218_1 | skip); (first | simp only [add_plain] at hx219_0 | skip); (first | simp only [add_plain] at hx219_1 | skip); (first | simp only [add_plain] at hx222_0 | skip); (first | simp only [add_plain] at hx222_1 | skip); obtain ⟨ce22, hcl22, hM22, hcc22, hfr22⟩ := Kd.N_elem HO216.out z47 (t217 : Int) p22 q22; obtain ⟨ua22_1, uc22_1, rfl, ul22_1, ge22_1⟩ := k47_openF hM22; have hx22_0 : w30.cell? ⟨go22, (t217 : Int).toNat * 2, none⟩ = some (.int .i64 ((rd_T47 t214 t217).f0)) := hcc22 0 _ rfl; have hx22_1 : w30.cell? ⟨go22, (t217 : Int).toNat * 2 + 1, none⟩ = some (.slice ua22_1 ((rd_T47 t214 t217).f1).length uc22_1) := hcc22 1 _ rfl; have hf22_0 : w30.frozen? ⟨go22, (t217 : Int).toNat * 2, none⟩ = false := hfr22 0; have hf22_1 : w30.frozen? ⟨go22, (t217 : Int).toNat * 2 + 1, none⟩ = false := hfr22 1; clear hcl22 hcc22 hfr22 hM22; replace p22 := eq_true p22; replace q22 := eq_true q22; have HX32 := mk_ (show Kd.N k47 47 w30 w.heap.size (fun k_ => (w.heap.size ≤ k_) ∧ k_ ≠ gb209 ∧ k_ ≠ gb221) (.slice (some ⟨go22, 0, none⟩) t214.length co26) t214 from (by (with_reducible repeat (first | apply Kd.N_alloc | apply Kd.N_drewN | apply Kd.N_drew)); exact HO216.out)); obtain ⟨ce32, hcl32, hM32, hcc32, hfr32⟩ := Kd.N_elem HX32.out z47 (t217 : Int) (of_decide_eq_true (by first | (with_reducible assumption) | assumption)) (by have h_ : (t217 : Int) < ((t214.length : Int) : Int) := of_decide_eq_true (by first | (with_reducible assumption) | assumption); first | exact h_ | (have e_ := (Kd.N_reads' HO216.out).1; omega) | simpa using h_); obtain ⟨ua32_1, uc32_1, rfl, ul32_1, ge32_1⟩ := k47_openF hM32; have HP32 := Kd.N_seg HX32.out (t217 : Int) (of_decide_eq_true (by first | (with_reducible assumption) | assumption)) (by have h_ : (t217 : Int) < ((t214.length : Int) : Int) := of_decide_eq_true (by first | (with_reducible assumption) | assumption); first | exact h_ | (have e_ := (Kd.N_reads' HO216.out).1; omega) | simpa using h_) (seg := [.slice A31 y223.length c31]) (j := 1) hcl32 hcc32 (show 2 ≤ 2 from by decide) (x' := (⟨(rd_T47 t214 t217).f0, y223⟩ : S47)) (k47_mkF _ _ (⟨(rd_T47 t214 t217).f0, y223⟩ : S47) (Kd.V_reads' (Kd.V_mono (ok' := (fun k_ => ((fun k_ => (w.heap.size ≤ k_) ∧ k_ ≠ gb209 ∧ k_ ≠ gb221)) k_ ∧ k_ ≠ go22)) (HO227.out) (fun k_ hk => ⟨⟨hk.1.1, ⟨hk.1.2.1, hk.1.2.2⟩⟩, fun e_ => (hk.2) (by rw [e_]; rfl)⟩))).2.1 (Kd.V_F (Kd.V_mono (ok' := (fun k_ => ((fun k_ => (w.heap.size ≤ k_) ∧ k_ ≠ gb209 ∧ k_ ≠ gb221)) k_ ∧ k_ ≠ go22)) (HO227.out) (fun k_ hk => ⟨⟨hk.1.1, ⟨hk.1.2.1, hk.1.2.2⟩⟩, fun e_ => (hk.2) (by rw [e_]; rfl)⟩)))) (fun _ hk => hk); have hx32_1 := hcc32 1 _ rfl; (try simp only [show (k47).sz = 2 from rfl, Nat.mul_one, Nat.add_zero] at hx32_1); have hf32_1 := hfr32 1; (try simp only [show (k47).sz = 2 from rfl, Nat.mul_one, Nat.add_zero] at hf32_1); clear hcl32 hcc32 hfr32 hM32) | ((with_reducible refine gate_store (t := 45) (p := 49) rfl ?_); refine store_event (t := 45) (p := 49) (v := ?vo_w33) (w1 := (w30.setCell ⟨go22, (t217 : Int).toNat * 2 + 1, none⟩ (.slice A31 y223.length c31))) ?hg ?ho ?hn ?hr ?_; (case ho => rfl); (case hg => rfl); (case hn => rfl); (case hr => first | (go_simp; done) | (go_simp; rfl)); intro w33 hw; have hg : w30.grownBy w33 (some go22) := (by rw [hw]; exact HP32.2); have hp_ : Kd.N k47 47 w33 w.heap.size (fun k_ => (w.heap.size ≤ k_) ∧ k_ ≠ gb209 ∧ k_ ≠ gb221) (.slice (some ⟨go22, 0, none⟩) t214.length co26) y228 := (by rw [hw, Ny228.out]; exact HP32.1); clear HP32; replace BK209 := mk_ (blk_grown (g := gb209) (o := .cells #[.int .i64 0, .int .i64 0, .int .i64 0, .slice none 0 0] 40 (0, 0)) (u_ BK209.out) hg (Kd.N_ne HO216.out BK209.out (by decide))); have n1_ := mk_ (hp_); replace HL218_1 := mk_ (Kd.V_afterv (v := (.slice (some ⟨go22, 0, none⟩) t214.length co26)) (v1 := (.slice (some ⟨go22, 0, none⟩) t214.length co26)) (ok := (fun k_ => (w.heap.size ≤ k_) ∧ k_ ≠ gb209 ∧ k_ ≠ gb221)) (by (with_reducible repeat (first | apply Kd.V_alloc | apply Kd.V_drewN | apply Kd.V_drew)); exact Kd.V_mono HL218_1.out (fun _ hk => by first | exact ⟨⟨hk.1, ⟨hk.2.2.1, hk.2.2.2⟩⟩, hk.2.1⟩ | exact hk.1 | exact hk | exact ⟨hk.1, hk.2⟩ | exact ⟨.inr hk.1, hk.2⟩ | simp only [hk, ne_eq, not_false_eq_true, and_self])) hg (.inl rfl)); replace HL219_1 := mk_ (Kd.V_afterv (v := (.slice (some ⟨go22, 0, none⟩) t214.length co26)) (v1 := (.slice (some ⟨go22, 0, none⟩) t214.length co26)) (ok := (fun k_ => (w.heap.size ≤ k_) ∧ k_ ≠ gb209 ∧ k_ ≠ gb221)) (by (with_reducible repeat (first | apply Kd.V_alloc | apply Kd.V_drewN | apply Kd.V_drew)); exact Kd.V_mono HL219_1.out (fun _ hk => by first | exact ⟨⟨hk.1, ⟨hk.2.2.1, hk.2.2.2⟩⟩, hk.2.1⟩ | exact hk.1 | exact hk | exact ⟨hk.1, hk.2⟩ | exact ⟨.inr hk.1, hk.2⟩ | simp only [hk, ne_eq, not_false_eq_true, and_self])) hg (.inl rfl)); replace HL220_3 := mk_ (Kd.V_afterv (v := (.slice (some ⟨go22, 0, none⟩) t214.length co26)) (v1 := (.slice (some ⟨go22, 0, none⟩) t214.length co26)) (ok := (fun k_ => (w.heap.size ≤ k_) ∧ k_ ≠ gb209 ∧ k_ ≠ gb221)) (by (with_reducible repeat (first | apply Kd.V_alloc | apply Kd.V_drewN | apply Kd.V_drew)); exact Kd.V_mono HL220_3.out (fun _ hk => by first | exact ⟨⟨hk.1, ⟨hk.2.2.1, hk.2.2.2⟩⟩, hk.2.1⟩ | exact hk.1 | exact hk | exact ⟨hk.1, hk.2⟩ | exact ⟨.inr hk.1, hk.2⟩ | simp only [hk, ne_eq, not_false_eq_true, and_self])) hg (.inl rfl)); replace BK221 := mk_ (blk_grown (g := gb221) (o := .cells #[.int .i64 ((rd_T40 ((rd_T47 t214 t217).f1) 0).f0), .int .i64 ((rd_T40 ((rd_T47 t214 t217).f1) 0).f1), .int .i64 ((rd_T40 ((rd_T47 t214 t217).f1) 0).f2), .slice A220_3 ((rd_T40 ((rd_T47 t214 t217).f1) 0).f3).length c220_3] 40 (0, 0)) (u_ BK221.out) hg (Kd.N_ne HO216.out BK221.out (by decide))); replace HL222_1 := mk_ (Kd.V_afterv (v := (.slice (some ⟨go22, 0, none⟩) t214.length co26)) (v1 := (.slice (some ⟨go22, 0, none⟩) t214.length co26)) (ok := (fun k_ => (w.heap.size ≤ k_) ∧ k_ ≠ gb209 ∧ k_ ≠ gb221)) (by (with_reducible repeat (first | apply Kd.V_alloc | apply Kd.V_drewN | apply Kd.V_drew)); exact HL222_1.out) hg (.inl rfl)); replace HO227 := mk_ (Kd.V_afterv (v := (.slice (some ⟨go22, 0, none⟩) t214.length co26)) (v1 := (.slice (some ⟨go22, 0, none⟩) t214.length co26)) (ok := (fun k_ => (w.heap.size ≤ k_) ∧ k_ ≠ gb209 ∧ k_ ≠ gb221)) (by (with_reducible repeat (first | apply Kd.V_alloc | apply Kd.V_drewN | apply Kd.V_drew)); exact HO227.out) hg (.inl rfl)); replace HB := mk_ ((by rw [hw]; exact below_set (HB.out) GB22.out : Below w.heap.size w w33)); replace HO216 := n1_; clear n1_; clear hg hw hp_))
 have n0_ := mk_ (Kd.N_drew HO216.out)
 have n1_ := mk_ (Kd.V_drew HL218_1.out)
 have n2_ := mk_ (Kd.V_drew HL219_1.out)
 have n3_ := mk_ (Kd.V_drew HL220_3.out)
 have n4_ := mk_ (Kd.V_drew HL222_1.out)
 have n5_ := mk_ (Kd.V_drew HO227.out)
 have n6_ := mk_ (blk_drew BK209.out)
 have n7_ := mk_ (blk_drew BK221.out)
 have n8_ := mk_ (below_drew1 HB.out)
 clear HO216
 clear HL218_1
 clear HL219_1
 clear HL220_3
 clear HL222_1
 clear HO227
 clear BK209
 clear BK221
 clear HB
 have HO216 := n0_
 have HL218_1 := n1_
 have HL219_1 := n2_
 have HL220_3 := n3_
 have HL222_1 := n4_
 have HO227 := n5_
 have BK209 := n6_
 have BK221 := n7_
 have HB := n8_
 clear n0_ n1_ n2_ n3_ n4_ n5_ n6_ n7_ n8_
 refine start_ (n := 5) (S := fun w' => w'.cell? ⟨gb221, 0, none⟩ = some (.int .i64 ((rd_T40 ((rd_T47 t214 t217).f1) 0).f0)) ∧ w'.cell? ⟨gb221, 1, none⟩ = some (.int .i64 ((rd_T40 ((rd_T47 t214 t217).f1) 0).f1)) ∧ w'.cell? ⟨gb221, 2, none⟩ = some (.int .i64 ((rd_T40 ((rd_T47 t214 t217).f1) 0).f2)) ∧ w'.cell? ⟨gb221, 3, none⟩ = some (.slice A220_3 ((rd_T40 ((rd_T47 t214 t217).f1) 0).f3).length c220_3)) (ds := []) #[false, false, false, false, false] (by kernel_rfl) rfl rfl ⟨(blk_cell BK221.out 0).trans rfl, (blk_cell BK221.out 1).trans rfl, (blk_cell BK221.out 2).trans rfl, (blk_cell BK221.out 3).trans rfl⟩ (fun hHeld => ?_)
 generalize w33.drew = w34 at HO216 HL218_1 HL219_1 HL220_3 HL222_1 HO227 BK209 BK221 HB hHeld ⊢
 refine pure_ (i := 0) (N := some 50) (v := ?_) (a' := ?_) #[true, false, false, false, false] rfl rfl (by kernel_rfl) (fun _ _ _ h => h) (Or.inl ⟨by rfl, ?_⟩) ?_ ?_
 rotate_left
 ·intro w'
  go_simp
  with_reducible rfl
 rotate_left
 ·simp only [Act.put, la_, lz_, ls_, i64_w, i32_w]
  rfl
 refine pure_ (i := 2) (N := some 4) (v := ?_) (a' := ?_) #[true, false, true, false, false] rfl rfl (by kernel_rfl) (fun _ _ _ h => h) (Or.inl ⟨by rfl, ?_⟩) ?_ ?_
 rotate_left
 ·intro w'
  go_simp
  with_reducible rfl
 rotate_left
 ·simp only [Act.put, la_, lz_, ls_, i64_w, i32_w]
  rfl
 refine take_ (i := 1) (N := some 51) (v := ?_) (a' := ?_) #[true, true, true, false, false] rfl rfl (by kernel_rfl) (fun _ _ _ h => h) (Or.inl ⟨by rfl, ?_⟩) hHeld ?_ ?_
 rotate_left
 ·rintro w' ⟨s0, s1, s2, s3⟩
  go_simp
  with_reducible rfl
 rotate_left
 ·simp only [Act.put, la_, lz_, ls_, i64_w, i32_w]
  rfl
 refine one_ (i := 3) (N := none) #[true, true, true, true, false] rfl rfl (by kernel_rfl) (by decide) (fun K hK => ?_)
 have hs35 : w34.cell? ⟨gb209, 0, none⟩ = some (.int .i64 0) := (blk_cell BK209.out 0).trans rfl
 have hfs35 := blk_frozen BK209.out 0
 have hns35_1 := NB221_209.out
 have hms35_1 := NB209_221.out
 have hs36 : w34.cell? ⟨gb209, 1, none⟩ = some (.int .i64 0) := (blk_cell BK209.out 1).trans rfl
 have hfs36 := blk_frozen BK209.out 1
 have hns36_1 := NB221_209.out
 have hms36_1 := NB209_221.out
 have hs37 : w34.cell? ⟨gb209, 2, none⟩ = some (.int .i64 0) := (blk_cell BK209.out 2).trans rfl
 have hfs37 := blk_frozen BK209.out 2
 have hns37_1 := NB221_209.out
 have hms37_1 := NB209_221.out
 have hs38 : w34.cell? ⟨gb209, 3, none⟩ = some (.slice none 0 0) := (blk_cell BK209.out 3).trans rfl
 have hfs38 := blk_frozen BK209.out 3
 have hns38_1 := NB221_209.out
 have hms38_1 := NB209_221.out
 refine skip_ (w1 := ?_) (by rfl) rfl ?_ ?_
 rotate_left
 ·go_simp
  rfl
 refine hK.out _ _ ⟨((cell_far (p := ⟨gb209, _, none⟩) NB221_209.out _).trans (((cell_far (p := ⟨gb209, _, none⟩) NB221_209.out _).trans (((cell_far (p := ⟨gb209, _, none⟩) NB221_209.out _).trans (((cell_far (p := ⟨gb209, _, none⟩) NB221_209.out _).trans (hHeld.1)))))))), ((cell_far (p := ⟨gb209, _, none⟩) NB221_209.out _).trans (((cell_far (p := ⟨gb209, _, none⟩) NB221_209.out _).trans (((cell_far (p := ⟨gb209, _, none⟩) NB221_209.out _).trans (((cell_far (p := ⟨gb209, _, none⟩) NB221_209.out _).trans (hHeld.2.1)))))))), ((cell_far (p := ⟨gb209, _, none⟩) NB221_209.out _).trans (((cell_far (p := ⟨gb209, _, none⟩) NB221_209.out _).trans (((cell_far (p := ⟨gb209, _, none⟩) NB221_209.out _).trans (((cell_far (p := ⟨gb209, _, none⟩) NB221_209.out _).trans (hHeld.2.2.1)))))))), ((cell_far (p := ⟨gb209, _, none⟩) NB221_209.out _).trans (((cell_far (p := ⟨gb209, _, none⟩) NB221_209.out _).trans (((cell_far (p := ⟨gb209, _, none⟩) NB221_209.out _).trans (((cell_far (p := ⟨gb209, _, none⟩) NB221_209.out _).trans (hHeld.2.2.2))))))))⟩ (fun hHeld => ?_)
 clear hK K
 refine pure_ (i := 4) (N := some 6) (v := ?_) (a' := ?_) #[true, true, true, true, true] rfl rfl (by kernel_rfl) (fun _ _ _ h => h) (Or.inl ⟨by rfl, ?_⟩) ?_ ?_
 rotate_left
 ·intro w'
  go_simp
  with_reducible rfl
 rotate_left
 ·simp only [Act.put, la_, lz_, ls_, i64_w, i32_w]
  rfl
 refine done_ (by kernel_rfl) ?_
 try go_wp2
 refine bodyPost_ret (results_list (rs := [.tmp 4, .cell 5 40, .tmp 6]) rfl (by simp) (.tmp (.cell gb209 40 #[.int .i64 ((rd_T40 ((rd_T47 t214 t217).f1) 0).f0), .int .i64 ((rd_T40 ((rd_T47 t214 t217).f1) 0).f1), .int .i64 ((rd_T40 ((rd_T47 t214 t217).f1) 0).f2), .slice A220_3 ((rd_T40 ((rd_T47 t214 t217).f1) 0).f3).length c220_3] (0, 0) _ rfl (by (with_reducible repeat (first | refine bn_ ?_ _ | refine bw_ ?_ | refine ba_ ?_ _)); refine blk_put (cs := #[.int .i64 ((rd_T40 ((rd_T47 t214 t217).f1) 0).f0), .int .i64 ((rd_T40 ((rd_T47 t214 t217).f1) 0).f1), .int .i64 ((rd_T40 ((rd_T47 t214 t217).f1) 0).f2), .slice none 0 0]) ?_ 3 _ rfl; (with_reducible repeat (first | refine bn_ ?_ _ | refine bw_ ?_ | refine ba_ ?_ _)); refine blk_put (cs := #[.int .i64 ((rd_T40 ((rd_T47 t214 t217).f1) 0).f0), .int .i64 ((rd_T40 ((rd_T47 t214 t217).f1) 0).f1), .int .i64 0, .slice none 0 0]) ?_ 2 _ rfl; (with_reducible repeat (first | refine bn_ ?_ _ | refine bw_ ?_ | refine ba_ ?_ _)); refine blk_put (cs := #[.int .i64 ((rd_T40 ((rd_T47 t214 t217).f1) 0).f0), .int .i64 0, .int .i64 0, .slice none 0 0]) ?_ 1 _ rfl; (with_reducible repeat (first | refine bn_ ?_ _ | refine bw_ ?_ | refine ba_ ?_ _)); refine blk_put (cs := #[.int .i64 0, .int .i64 0, .int .i64 0, .slice none 0 0]) ?_ 0 _ rfl; (with_reducible repeat (first | refine bn_ ?_ _ | refine bw_ ?_ | refine ba_ ?_ _)); exact BK209.out) Try.underlying40 rfl (by kernel_rfl) (.tmp .nil)))) rfl ?_
 exact ⟨_, _, by first | rfl | (simp [errW_none, errW_some] <;> rfl) | (simp [*, errW_none, errW_some] <;> rfl), by (with_reducible repeat (first | apply Kd.N_alloc | apply Kd.N_drewN | apply Kd.N_drew)); exact Kd.N_mono (Kd.N_far (p := ⟨gb209, 3, none⟩) (Kd.N_far (p := ⟨gb209, 2, none⟩) (Kd.N_far (p := ⟨gb209, 1, none⟩) (Kd.N_far (p := ⟨gb209, 0, none⟩) (Kd.N_mono HO216.out (fun k_ hk => (⟨hk, hk.2.1⟩ : _ ∧ k_ ≠ gb209))) (fun _ hk => hk.2) (.int .i64 ((rd_T40 ((rd_T47 t214 t217).f1) 0).f0))) (fun _ hk => hk.2) (.int .i64 ((rd_T40 ((rd_T47 t214 t217).f1) 0).f1))) (fun _ hk => hk.2) (.int .i64 ((rd_T40 ((rd_T47 t214 t217).f1) 0).f2))) (fun _ hk => hk.2) (.slice A220_3 ((rd_T40 ((rd_T47 t214 t217).f1) 0).f3).length c220_3)) (fun _ hk => hk.1.1), by (with_reducible repeat (first | apply Kd.V_alloc | apply Kd.V_drewN | apply Kd.V_drew)); exact Kd.V_mono (Kd.V_far (p := ⟨gb209, 3, none⟩) (Kd.V_far (p := ⟨gb209, 2, none⟩) (Kd.V_far (p := ⟨gb209, 1, none⟩) (Kd.V_far (p := ⟨gb209, 0, none⟩) (Kd.V_mono HL220_3.out (fun k_ hk => (⟨hk, hk.1.2.1⟩ : _ ∧ k_ ≠ gb209))) (fun _ hk => hk.2) (.int .i64 ((rd_T40 ((rd_T47 t214 t217).f1) 0).f0))) (fun _ hk => hk.2) (.int .i64 ((rd_T40 ((rd_T47 t214 t217).f1) 0).f1))) (fun _ hk => hk.2) (.int .i64 ((rd_T40 ((rd_T47 t214 t217).f1) 0).f2))) (fun _ hk => hk.2) (.slice A220_3 ((rd_T40 ((rd_T47 t214 t217).f1) 0).f3).length c220_3)) (fun _ hk => by first | exact ⟨hk.1.1.1, hk.1.2⟩ | exact hk.1 | exact hk | exact ⟨hk.1, hk.2⟩ | exact ⟨.inr hk.1, hk.2⟩ | simp only [hk, ne_eq, not_false_eq_true, and_self]), us_ HB.out⟩

/-! ### impl_in: function 76 -/
def impl_in.f (a0 : Int) (a1 : Int) (a2 : Int) : Option (Bool) := if a0 ≥ a1 then (some (decide (a0 ≤ a2))) else (some false)
set_option maxHeartbeats 8000000 in
set_option maxRecDepth 100000 in
theorem impl_in.calls (a0 : Int) (a1 : Int) (a2 : Int) (r : Bool) (w : World) (h : impl_in.f a0 a1 a2 = some r) :
  Calls Try.prog 76 #[.int .i64 a0, .int .i64 a1, .int .i64 a2] w fun e w' => e = .returned (.bool r) ∧ Drawn0 w w' := by
 have H : (if a0 ≥ a1 then (some (decide (a0 ≤ a2))) else (some false)) = some r := h
 clear h
 by_cases c4 : a0 ≥ a1
 ·rw [if_pos c4] at H
  have c4b0 : decide (a1 ≤ a0) = true := decide_eq_true c4
  clear c4
  obtain rfl := Option.some.inj H
  go_enter Try.func76, Try.ntmps76
  go_wp2
  go_ret
  exact ⟨by first | rfl | (simp; done) | (simp [*]; done), by repeat (first | exact Drawn0.refl _ | apply Drawn0.step)⟩
 rw [if_neg c4] at H
 have c4b0 : decide (a1 ≤ a0) = false := decide_eq_false c4
 clear c4
 obtain rfl := Option.some.inj H
 go_enter Try.func76, Try.ntmps76
 go_wp2
 go_ret
 exact ⟨by first | rfl | (simp; done) | (simp [*]; done), by repeat (first | exact Drawn0.refl _ | apply Drawn0.step)⟩

/-! ### impl_portOk: function 43 -/
def impl_portOk.f (a0 : Int) : Option (Bool) := (impl_in.f a0 1 255).bind fun t229 => (some t229)
set_option maxHeartbeats 8000000 in
set_option maxRecDepth 100000 in
theorem impl_portOk.calls (a0 : Int) (r : Bool) (w : World) (h : impl_portOk.f a0 = some r) :
  Calls Try.prog 43 #[.int .i64 a0] w fun e w' => e = .returned (.bool r) ∧ Drawn0 w w' := by
 have H : ((impl_in.f a0 1 255).bind fun t229 => (some t229)) = some r := h
 clear h
 replace H := Option.bind_eq_some_iff.mp H
 obtain ⟨t229, A20, H⟩ := H
 replace H : (some t229) = some r := H
 have A2 := mk_ A20
 clear A20
 obtain rfl := Option.some.inj H
 go_enter Try.func43, Try.ntmps43
 go_wp2_with (first | ((with_reducible refine gate_callee (f := 76) rfl ?_); refine goesL_ (some 4) rfl rfl Try.func76 (by kernel_rfl) rfl #[.int .i64 a0, .int .i64 1, .int .i64 255] rfl (by (try simp only [lm_, lo_, ln_]); try rfl) ?_; (with_reducible refine (impl_in.calls a0 1 255 t229 _ A2.out).mono ?_); rintro e w' ⟨rfl, ⟨nd, rfl⟩⟩; refine ⟨_, rfl, ?_⟩))
 go_ret
 exact ⟨by first | rfl | (simp; done) | (simp [*]; done), by repeat (first | exact Drawn0.refl _ | apply Drawn0.step)⟩

-- impl_Mail_77: see impl.PortsOk

-- impl_Mail_44: see impl.PortsOk

/-! ### impl_word: function 78 -/
def impl_word.f (a0 : Int) : Option (Bool) := (impl_in.f a0 0 65535).bind fun t230 => (some t230)
set_option maxHeartbeats 8000000 in
set_option maxRecDepth 100000 in
theorem impl_word.calls (a0 : Int) (r : Bool) (w : World) (h : impl_word.f a0 = some r) :
  Calls Try.prog 78 #[.int .i64 a0] w fun e w' => e = .returned (.bool r) ∧ Drawn0 w w' := by
 have H : ((impl_in.f a0 0 65535).bind fun t230 => (some t230)) = some r := h
 clear h
 replace H := Option.bind_eq_some_iff.mp H
 obtain ⟨t230, A20, H⟩ := H
 replace H : (some t230) = some r := H
 have A2 := mk_ A20
 clear A20
 obtain rfl := Option.some.inj H
 go_enter Try.func78, Try.ntmps78
 go_wp2_with (first | ((with_reducible refine gate_callee (f := 76) rfl ?_); refine goesL_ (some 4) rfl rfl Try.func76 (by kernel_rfl) rfl #[.int .i64 a0, .int .i64 0, .int .i64 65535] rfl (by (try simp only [lm_, lo_, ln_]); try rfl) ?_; (with_reducible refine (impl_in.calls a0 0 65535 t230 _ A2.out).mono ?_); rintro e w' ⟨rfl, ⟨nd, rfl⟩⟩; refine ⟨_, rfl, ?_⟩))
 go_ret
 exact ⟨by first | rfl | (simp; done) | (simp [*]; done), by repeat (first | exact Drawn0.refl _ | apply Drawn0.step)⟩

/-! ### impl_MailOk: function 46 -/
def impl_MailOk.f (a0_0 : Int) (a0_1 : Int) (a0_2 : Int) (l0_3 : List Int) : Option (Bool) := (impl_word.f a0_0).bind fun t232 => (if t232 = true then ((impl_portOk.f a0_1).bind fun t233 => (if t233 = true then ((impl_portOk.f a0_2).bind fun t234 => (if t234 = true then (some (decide ((l0_3.length : Int) ≤ 40))) else (some false))) else (some false))) else (some false))
set_option maxHeartbeats 8000000 in
set_option maxRecDepth 100000 in
theorem impl_MailOk.calls (a0_0 : Int) (a0_1 : Int) (a0_2 : Int) (A0_3 : Option Addr) (c0_3 : Nat) (l0_3 : List Int) (r : Bool) (w : World) (hr0_3 : Kd.C (Kd.int .u8) w A0_3 l0_3.length l0_3) (hc0_3 : l0_3.length ≤ c0_3) (h : impl_MailOk.f a0_0 a0_1 a0_2 l0_3 = some r) :
  Calls Try.prog 46 #[.agg #[.int .i64 a0_0, .int .i64 a0_1, .int .i64 a0_2, .slice A0_3 l0_3.length c0_3]] w fun e w' => e = .returned (.bool r) ∧ Below w.heap.size w w' := by
 have hu40 := Try.underlying40
 have HR0_3 := mk_ hr0_3
 have HC0_3 := mk_ hc0_3
 clear hr0_3 hc0_3
 have HB := mk_ (Below.refl w.heap.size w)
 have H : ((impl_word.f a0_0).bind fun t232 => (if t232 = true then ((impl_portOk.f a0_1).bind fun t233 => (if t233 = true then ((impl_portOk.f a0_2).bind fun t234 => (if t234 = true then (some (decide ((l0_3.length : Int) ≤ 40))) else (some false))) else (some false))) else (some false))) = some r := h
 clear h
 replace H := Option.bind_eq_some_iff.mp H
 obtain ⟨t232, A20, H⟩ := H
 replace H : (if t232 = true then ((impl_portOk.f a0_1).bind fun t233 => (if t233 = true then ((impl_portOk.f a0_2).bind fun t234 => (if t234 = true then (some (decide ((l0_3.length : Int) ≤ 40))) else (some false))) else (some false))) else (some false)) = some r := H
 have A2 := mk_ A20
 clear A20
 by_cases c3 : t232 = true
 rotate_left
 ·replace c3 := Bool.eq_false_iff.mpr c3
  subst c3
  have H1 : (some false) = some r := by rw [if_neg (show ¬ (false = true) by decide)] at H; exact H
  clear H
  have H := H1
  clear H1
  obtain rfl := Option.some.inj H
  go_enter Try.func46, Try.ntmps46
  go_wp2_with (first | ((with_reducible refine gate_dst (N := 1) rfl ?_); refine box_event ?hg (N := 1) ?hd (cs := #[.int .i64 a0_0, .int .i64 a0_1, .int .i64 a0_2, .slice A0_3 l0_3.length c0_3]) (t := 40) ?hr ?_; (case hd => rfl); (case hg => rfl); (case hr => first | (go_simp; done) | (go_simp; rfl)); intro gb231 hg w14 hbox hb; have n0_ := mk_ (below_step (ub_ HB.out) hb); have BK231 := mk_ (hbox); have GW231 := mk_ ((by rw [hg]; exact (below_size (ub_ HB.out)) : w.heap.size ≤ gb231)); have GE231 := ge_ ((by rw [hg]; exact (below_size (ub_ HB.out)) : w.heap.size ≤ gb231)); replace HB := n0_; clear n0_; clear hb hbox hg; obtain ⟨_, _, _, _, _, _, _, _⟩ := cells4_ BK231.out) | ((with_reducible refine gate_callee (f := 78) rfl ?_); refine goesL_ (some 5) rfl rfl Try.func78 (by kernel_rfl) rfl #[.int .i64 a0_0] rfl (by (try simp only [lm_, lo_, ln_]); try rfl) ?_; (with_reducible refine (impl_word.calls a0_0 false _ A2.out).mono ?_); rintro e w' ⟨rfl, ⟨nd, rfl⟩⟩; refine ⟨_, rfl, ?_⟩))
  go_ret
  exact ⟨by first | rfl | (simp [errW_none, errW_some] <;> rfl) | (simp [*, errW_none, errW_some] <;> rfl), us_ HB.out⟩
 subst c3
 have H1 : ((impl_portOk.f a0_1).bind fun t233 => (if t233 = true then ((impl_portOk.f a0_2).bind fun t234 => (if t234 = true then (some (decide ((l0_3.length : Int) ≤ 40))) else (some false))) else (some false))) = some r := by rw [if_pos rfl] at H; exact H
 clear H
 have H := H1
 clear H1
 replace H := Option.bind_eq_some_iff.mp H
 obtain ⟨t233, A40, H⟩ := H
 replace H : (if t233 = true then ((impl_portOk.f a0_2).bind fun t234 => (if t234 = true then (some (decide ((l0_3.length : Int) ≤ 40))) else (some false))) else (some false)) = some r := H
 have A4 := mk_ A40
 clear A40
 by_cases c5 : t233 = true
 rotate_left
 ·replace c5 := Bool.eq_false_iff.mpr c5
  subst c5
  have H1 : (some false) = some r := by rw [if_neg (show ¬ (false = true) by decide)] at H; exact H
  clear H
  have H := H1
  clear H1
  obtain rfl := Option.some.inj H
  go_enter Try.func46, Try.ntmps46
  go_wp2_with (first | ((with_reducible refine gate_dst (N := 1) rfl ?_); refine box_event ?hg (N := 1) ?hd (cs := #[.int .i64 a0_0, .int .i64 a0_1, .int .i64 a0_2, .slice A0_3 l0_3.length c0_3]) (t := 40) ?hr ?_; (case hd => rfl); (case hg => rfl); (case hr => first | (go_simp; done) | (go_simp; rfl)); intro gb231 hg w12 hbox hb; have n0_ := mk_ (below_step (ub_ HB.out) hb); have BK231 := mk_ (hbox); have GW231 := mk_ ((by rw [hg]; exact (below_size (ub_ HB.out)) : w.heap.size ≤ gb231)); have GE231 := ge_ ((by rw [hg]; exact (below_size (ub_ HB.out)) : w.heap.size ≤ gb231)); replace HB := n0_; clear n0_; clear hb hbox hg; obtain ⟨_, _, _, _, _, _, _, _⟩ := cells4_ BK231.out) | ((with_reducible refine gate_callee (f := 78) rfl ?_); refine goesL_ (some 5) rfl rfl Try.func78 (by kernel_rfl) rfl #[.int .i64 a0_0] rfl (by (try simp only [lm_, lo_, ln_]); try rfl) ?_; (with_reducible refine (impl_word.calls a0_0 true _ A2.out).mono ?_); rintro e w' ⟨rfl, ⟨nd, rfl⟩⟩; refine ⟨_, rfl, ?_⟩) | (go_at_call 43; (with_reducible refine (impl_portOk.calls a0_1 false _ A4.out).mono ?_); rintro e w' ⟨rfl, ⟨nd, rfl⟩⟩))
  go_ret
  exact ⟨by first | rfl | (simp [errW_none, errW_some] <;> rfl) | (simp [*, errW_none, errW_some] <;> rfl), us_ HB.out⟩
 subst c5
 have H1 : ((impl_portOk.f a0_2).bind fun t234 => (if t234 = true then (some (decide ((l0_3.length : Int) ≤ 40))) else (some false))) = some r := by rw [if_pos rfl] at H; exact H
 clear H
 have H := H1
 clear H1
 replace H := Option.bind_eq_some_iff.mp H
 obtain ⟨t234, A60, H⟩ := H
 replace H : (if t234 = true then (some (decide ((l0_3.length : Int) ≤ 40))) else (some false)) = some r := H
 have A6 := mk_ A60
 clear A60
 by_cases c7 : t234 = true
 ·subst c7
  have H1 : (some (decide ((l0_3.length : Int) ≤ 40))) = some r := by rw [if_pos rfl] at H; exact H
  clear H
  have H := H1
  clear H1
  obtain rfl := Option.some.inj H
  go_enter Try.func46, Try.ntmps46
  go_wp2_with (first | ((with_reducible refine gate_dst (N := 1) rfl ?_); refine box_event ?hg (N := 1) ?hd (cs := #[.int .i64 a0_0, .int .i64 a0_1, .int .i64 a0_2, .slice A0_3 l0_3.length c0_3]) (t := 40) ?hr ?_; (case hd => rfl); (case hg => rfl); (case hr => first | (go_simp; done) | (go_simp; rfl)); intro gb231 hg w8 hbox hb; have n0_ := mk_ (below_step (ub_ HB.out) hb); have BK231 := mk_ (hbox); have GW231 := mk_ ((by rw [hg]; exact (below_size (ub_ HB.out)) : w.heap.size ≤ gb231)); have GE231 := ge_ ((by rw [hg]; exact (below_size (ub_ HB.out)) : w.heap.size ≤ gb231)); replace HB := n0_; clear n0_; clear hb hbox hg; obtain ⟨_, _, _, _, _, _, _, _⟩ := cells4_ BK231.out) | ((with_reducible refine gate_callee (f := 78) rfl ?_); refine goesL_ (some 5) rfl rfl Try.func78 (by kernel_rfl) rfl #[.int .i64 a0_0] rfl (by (try simp only [lm_, lo_, ln_]); try rfl) ?_; (with_reducible refine (impl_word.calls a0_0 true _ A2.out).mono ?_); rintro e w' ⟨rfl, ⟨nd, rfl⟩⟩; refine ⟨_, rfl, ?_⟩) | (go_at_call 43; have hA_ := A4.out; (with_reducible refine (impl_portOk.calls a0_1 true _ A4.out).mono ?_); rintro e w' ⟨rfl, ⟨nd, rfl⟩⟩; clear hA_ A4) | (go_at_call 43; have hA_ := A6.out; (with_reducible refine (impl_portOk.calls a0_2 true _ A6.out).mono ?_); rintro e w' ⟨rfl, ⟨nd, rfl⟩⟩; clear hA_ A6))
  go_ret
  exact ⟨by first | rfl | (simp [errW_none, errW_some] <;> rfl) | (simp [*, errW_none, errW_some] <;> rfl), us_ HB.out⟩
 replace c7 := Bool.eq_false_iff.mpr c7
 subst c7
 have H1 : (some false) = some r := by rw [if_neg (show ¬ (false = true) by decide)] at H; exact H
 clear H
 have H := H1
 clear H1
 obtain rfl := Option.some.inj H
 go_enter Try.func46, Try.ntmps46
 go_wp2_with (first | ((with_reducible refine gate_dst (N := 1) rfl ?_); refine box_event ?hg (N := 1) ?hd (cs := #[.int .i64 a0_0, .int .i64 a0_1, .int .i64 a0_2, .slice A0_3 l0_3.length c0_3]) (t := 40) ?hr ?_; (case hd => rfl); (case hg => rfl); (case hr => first | (go_simp; done) | (go_simp; rfl)); intro gb231 hg w10 hbox hb; have n0_ := mk_ (below_step (ub_ HB.out) hb); have BK231 := mk_ (hbox); have GW231 := mk_ ((by rw [hg]; exact (below_size (ub_ HB.out)) : w.heap.size ≤ gb231)); have GE231 := ge_ ((by rw [hg]; exact (below_size (ub_ HB.out)) : w.heap.size ≤ gb231)); replace HB := n0_; clear n0_; clear hb hbox hg; obtain ⟨hcz11_0, hcz11_1, hcz11_2, hcz11_3, hfz11_0, hfz11_1, hfz11_2, hfz11_3⟩ := cells4_ BK231.out) | ((with_reducible refine gate_callee (f := 78) rfl ?_); refine goesL_ (some 5) rfl rfl Try.func78 (by kernel_rfl) rfl #[.int .i64 a0_0] rfl (by (try simp only [lm_, lo_, ln_]); try rfl) ?_; (with_reducible refine (impl_word.calls a0_0 true _ A2.out).mono ?_); rintro e w' ⟨rfl, ⟨nd, rfl⟩⟩; refine ⟨_, rfl, ?_⟩) | (go_at_call 43; have hA_ := A4.out; (with_reducible refine (impl_portOk.calls a0_1 true _ A4.out).mono ?_); rintro e w' ⟨rfl, ⟨nd, rfl⟩⟩; clear hA_ A4) | (go_at_call 43; have hA_ := A6.out; (with_reducible refine (impl_portOk.calls a0_2 false _ A6.out).mono ?_); rintro e w' ⟨rfl, ⟨nd, rfl⟩⟩; clear hA_ A6))
 go_ret
 exact ⟨by first | rfl | (simp [errW_none, errW_some] <;> rfl) | (simp [*, errW_none, errW_some] <;> rfl), us_ HB.out⟩

-- impl_PortsOk_1: see impl.PortsOk

end Go.Proofs.Ytkkibccnpkbbjaa.MFnExactPortTake
