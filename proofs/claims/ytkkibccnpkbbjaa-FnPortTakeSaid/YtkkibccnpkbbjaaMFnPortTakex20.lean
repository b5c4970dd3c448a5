/- Functions that the law FnPortTake reaches, typed by hand (part 1 of 2): what the program's and the reference's ports' functions do, and the walk of the law; no conditions but those that each theorem states. -/
import Derived.Test.YtkkibccnpkbbjaaMFnPortListenx21
import Derived.StillTailTactics
import Derived.IntWalk
import Derived.Deep.RegionHeld3
import Derived.Shelf.Spec.SlicesInsertGrow
import Derived.Deep.QuietTactic
import Derived.BigQuiet
import Derived.Deep.RegionLaw
namespace Go.Proofs.Ytkkibccnpkbbjaa.MFnPortsOk
open Go.RowKit Go.Proofs.YtkkibccnpkbbjaaV.PrintWords Go.Proofs.YtkkibccnpkbbjaaV.PrintLast Go.Proofs.YtkkibccnpkbbjaaV.PrintMore
attribute [local go_sem] max2_int min2_int max_two min_two max_three min_three max_four min_four
set_option linter.unusedVariables false
set_option linter.unusedSimpArgs false
/-! ### spec_l9Copy: function 52 -/
mutual
def spec_l9Copy.l0 : Nat → List (S47) → List (S47) → Int → Option ((List (S47)))
 | 0, _, _, _ => none
 | k + 1, x0, x3, x4 => if x4 < (x0.length : Int) then (if 0 ≤ x4 then (spec_l9Copy.l1 k x0 x3 x4 0 ((rd_T47 x0 x4).f0) ([] : List (S40))) else (none)) else (some x3)
def spec_l9Copy.l1 : Nat → List (S47) → List (S47) → Int → Int → Int → List (S40) → Option ((List (S47)))
 | 0, _, _, _, _, _, _ => none
 | k + 1, x0, x3, x4, x6, x158000, x158001 => if 0 ≤ x4 then (if x4 < (x0.length : Int) then (if x6 < (((rd_T47 x0 x4).f1).length : Int) then (if 0 ≤ x6 then ((some (([] : List Int) : List Int)).bind fun y162 => (if y162.length + ((rd_T40 ((rd_T47 x0 x4).f1) x6).f3).length < 140737488355328 then (if x158001.length < 2932031007402 then (spec_l9Copy.l1 k x0 x3 x4 (wrap64 (x6 + 1)) x158000 (x158001 ++ [(⟨(rd_T40 ((rd_T47 x0 x4).f1) x6).f0, (rd_T40 ((rd_T47 x0 x4).f1) x6).f1, (rd_T40 ((rd_T47 x0 x4).f1) x6).f2, (y162 ++ ((rd_T40 ((rd_T47 x0 x4).f1) x6).f3))⟩ : S40)])) else (none)) else (none))) else (none)) else (if x3.length < 4398046511104 then (spec_l9Copy.l0 k x0 (x3 ++ [(⟨x158000, x158001⟩ : S47)]) (wrap64 (x4 + 1))) else (none))) else (none)) else (none)
end
def spec_l9Copy.f (k : Nat) (l0 : List (S47)) : Option ((List (S47))) := spec_l9Copy.l0 k l0 (([] : List (S47))) 0
theorem spec_l9Copy.mono_l : ∀ k, (∀ y0 y1 y2, LeO (spec_l9Copy.l0 k y0 y1 y2) (spec_l9Copy.l0 (k + 1) y0 y1 y2)) ∧ (∀ y0 y1 y2 y3 y4 y5, LeO (spec_l9Copy.l1 k y0 y1 y2 y3 y4 y5) (spec_l9Copy.l1 (k + 1) y0 y1 y2 y3 y4 y5))
 | 0 => ⟨fun _ _ _ r h => by simp [spec_l9Copy.l0] at h, fun _ _ _ _ _ _ r h => by simp [spec_l9Copy.l1] at h⟩
 | k + 1 => by
  obtain ⟨ih0, ih1⟩ := spec_l9Copy.mono_l k
  refine ⟨?_, ?_⟩
  ·intro y0 y1 y2
   unfold spec_l9Copy.l0
   repeat' first
   | (with_reducible exact ih0 _ _ _)
   | (with_reducible exact ih1 _ _ _ _ _ _)
   | (with_reducible exact LeO.refl _)
   | (with_reducible exact LeO.none _)
   | (with_reducible refine LeO.ite ?_ ?_)
   | (with_reducible refine LeO.bind ?_ (fun _ => ?_))
   | exact ih0 _ _ _
   | exact ih1 _ _ _ _ _ _
   | exact LeO.none _
   | refine LeO.ite ?_ ?_
   | refine LeO.bind ?_ (fun _ => ?_)
  ·intro y0 y1 y2 y3 y4 y5
   unfold spec_l9Copy.l1
   repeat' first
   | (with_reducible exact ih0 _ _ _)
   | (with_reducible exact ih1 _ _ _ _ _ _)
   | (with_reducible exact LeO.refl _)
   | (with_reducible exact LeO.none _)
   | (with_reducible refine LeO.ite ?_ ?_)
   | (with_reducible refine LeO.bind ?_ (fun _ => ?_))
   | exact ih0 _ _ _
   | exact ih1 _ _ _ _ _ _
   | exact LeO.none _
   | refine LeO.ite ?_ ?_
   | refine LeO.bind ?_ (fun _ => ?_)
theorem spec_l9Copy.mono : ∀ a0 k, LeO (spec_l9Copy.f k a0) (spec_l9Copy.f (k + 1) a0) := by
 intro a0 k
 obtain ⟨ih0, ih1⟩ := spec_l9Copy.mono_l k
 unfold spec_l9Copy.f
 repeat' first
   | (with_reducible exact ih0 _ _ _)
   | (with_reducible exact ih1 _ _ _ _ _ _)
   | (with_reducible exact LeO.refl _)
   | (with_reducible exact LeO.none _)
   | (with_reducible refine LeO.ite ?_ ?_)
   | (with_reducible refine LeO.bind ?_ (fun _ => ?_))
   | exact ih0 _ _ _
   | exact ih1 _ _ _ _ _ _
   | exact LeO.none _
   | refine LeO.ite ?_ ?_
   | refine LeO.bind ?_ (fun _ => ?_)
set_option maxHeartbeats 8000000 in
set_option maxRecDepth 100000 in
theorem spec_l9Copy.calls (k : Nat) (A0 : Option Addr) (c0 : Nat) (l0 : List (S47)) (r : List (S47)) (w : World) (hr0 : Kd.C k47 w A0 l0.length l0) (hc0 : l0.length ≤ c0) (h : spec_l9Copy.f k l0 = some r) :
  Calls Try.prog 52 #[.slice A0 l0.length c0] w fun e w' => ∃ v0_ : Value, e = .returned (v0_) ∧ Kd.R k47 47 w' w.heap.size (fun _ => True) v0_ r ∧ Below w.heap.size w w' := by
 have hu47 := Try.underlying47
 have hu40 := Try.underlying40
 have HR0 := mk_ hr0
 have HC0 := mk_ hc0
 clear hr0 hc0
 have HB := mk_ (Below.refl w.heap.size w)
 have H : (spec_l9Copy.l0 k l0 (([] : List (S47))) 0) = some r := h
 clear h
 obtain ⟨y153, hy153⟩ : ∃ y_ : List (S47), y_ = (([] : List (S47))) := ⟨_, rfl⟩
 replace H : (spec_l9Copy.l0 k l0 y153 0) = some r := by first | (rw [hy153]; with_reducible exact H) | (have H2_ := (Option.bind_some _ _).symm.trans H; rw [hy153]; with_reducible exact H2_) | (have H2_ := (Option.bind_some _ _).symm.trans H; with_reducible exact H2_) | with_reducible exact H | (rw [hy153]; exact H) | exact H
 have Ny153 := mk_ hy153
 clear hy153
 have H' := mk_ H
 clear H
 go_enter Try.func52, Try.ntmps52
 go_wp2_with (first | ((with_reducible refine gate_dst (N := 8) rfl ?_); refine Kd.R_lit k47 _ 47 ?hg (N := 8) ?hd (xs := ([] : List (S47))) (inner := []) (ok := fun _ => True) (okp := fun _ => True) ?hr ?hp (fun _ hk => hk) trivial (Below.refl _ _) (Nat.le_refl _) (by simp) ?_; (case hd => rfl); (case hg => rfl); (case hr => first | (go_simp; done) | (go_simp; rfl)); (case hp => exact (Reps.none _ _)); intro v154 w2 ho3 hb hg_ hnew_; clear hg_ hnew_; (first | rw [← Ny153.out] at ho3 | (simp only [Int.reduceToNat] at ho3; rw [← Ny153.out] at ho3)); have HO155 := mk_ (Kd.R_lower ho3 (below_size (ub_ HB.out))); replace HB := mk_ (below_step (ub_ HB.out) hb); clear hb ho3))
 go_loopg [3, 4] k (fun kq v3 v4 w' => ∃ (x3_1 : List (S47)) (x4_1 : Int), v4 = .int .i64 x4_1 ∧ Aside0 (spec_l9Copy.l0 kq l0 x3_1 x4_1 = some r) ∧ Aside0 (kq ≤ k) ∧ Aside0 (Kd.R k47 47 w' w.heap.size (fun _ => True) v3 x3_1) ∧ Aside0 (Below w.heap.size w w'))
 case atStart => exact ⟨(y153), (0), (by first | rfl | (simp; done) | (simp [*]; done)), H', ⟨Nat.le_refl _⟩, ⟨Kd.ur_ HO155.out⟩, ⟨ub_ HB.out⟩⟩
 case round =>
  clear H'
  try clear p2
  obtain ⟨x3_1, x4_1, rfl, HA, HK1, HO_3, HB⟩ := hrel
  cases gk with
  | zero => exact absurd HA.out (by simp [spec_l9Copy.l0])
  | succ k1 =>
   have H := HA.out
   clear HA
   simp only [spec_l9Copy.l0] at H
   by_cases c4 : x4_1 < (l0.length : Int)
   rotate_left
   ·rw [if_neg c4] at H
    have c4b0 : decide (x4_1 < (l0.length : Int)) = false := decide_eq_false c4
    clear c4
    obtain rfl := Option.some.inj H
    go_wp2
    go_ret
    exact ⟨_, by first | rfl | (simp [errW_none, errW_some] <;> rfl) | (simp [*, errW_none, errW_some] <;> rfl), by (with_reducible repeat (first | apply Kd.R_alloc | apply Kd.R_drewN | apply Kd.R_drew)); exact HO_3.out, by repeat (first | (with_reducible first | exact HB.out | apply na_ | apply nn_ | apply nw_) | exact HB.out)⟩
   rw [if_pos c4] at H
   have c4b0 : decide (x4_1 < (l0.length : Int)) = true := decide_eq_true c4
   clear c4
   by_cases c5 : 0 ≤ x4_1
   rotate_left
   ·rw [if_neg c5] at H
    exact absurd H (by simp)
   rw [if_pos c5] at H
   have c5b0 : decide (0 ≤ x4_1) = true := decide_eq_true c5
   clear c5
   have H' := mk_ H
   clear H
   have p156 : 0 ≤ (x4_1 : Int) := of_decide_eq_true (by first | (with_reducible assumption) | assumption)
   have q156 : x4_1 < (l0.length : Int) := of_decide_eq_true (by first | (with_reducible assumption) | assumption)
   obtain ⟨ad156, A156_1, c156_1, e156, hx156_0, hx156_1, hl156_1, hi156_1⟩ := at_T47 HR0.out x4_1 p156 q156
   cases e156
   replace hx156_0 := (HB.out.cell (lc_ w _ hx156_0)).trans hx156_0
   replace hx156_1 := (HB.out.cell (lc_ w _ hx156_1)).trans hx156_1
   have HR156_1 := mk_ hi156_1
   have HC156_1 := mk_ hl156_1
   clear hi156_1 hl156_1
   replace p156 := eq_true p156
   replace q156 := eq_true q156
   go_wp2_with (first | ((with_reducible refine gate_dst (N := 5) rfl ?_); refine box_event ?hg (N := 5) ?hd (cs := #[.int .i64 0, .slice none 0 0]) (t := 47) ?hr ?_; (case hd => rfl); (case hg => rfl); (case hr => first | (go_simp; done) | (go_simp; rfl)); intro gb157 hg w6 hbox hb; replace HO_3 := mk_ (Kd.R_below (Kd.R_elderB (Kd.ur_ HO_3.out) gb157 (Nat.le_of_eq hg.symm)) hb); have n1_ := mk_ (below_step (ub_ HB.out) hb); have BK157 := mk_ (hbox); have GW157 := mk_ ((by rw [hg]; exact (below_size (ub_ HB.out)) : w.heap.size ≤ gb157)); have GE157 := ge_ ((by rw [hg]; exact (below_size (ub_ HB.out)) : w.heap.size ≤ gb157)); replace HB := n1_; clear n1_; clear hb hbox hg; obtain ⟨hcz7_0, hcz7_1, hfz7_0, hfz7_1⟩ := cells2_ BK157.out))
   go_loopg [6] k1 (fun kq v6 w' => ∃ (x6_2 : Int) (x158001_2 : List (S40)) (u158001 : Value), v6 = .int .i64 x6_2 ∧ Aside0 (spec_l9Copy.l1 kq l0 x3_1 x4_1 x6_2 ((rd_T47 l0 x4_1).f0) x158001_2 = some r) ∧ Aside0 (kq ≤ k1) ∧ Aside0 (Kd.R k47 47 w' w.heap.size (fun k_ => some k_ ≠ (u158001 : Value).ownBlock ∧ k_ ≠ gb157) u3 x3_1) ∧ Aside0 (Kd.S k40 40 w' w.heap.size (fun _ => True) u158001 x158001_2) ∧ Aside0 (w'.heap[gb157]? = some (.cells #[.int .i64 ((rd_T47 l0 x4_1).f0), u158001] 47 (0, 0))) ∧ Aside0 (Below w.heap.size w w'))
   case atStart => exact ⟨(0), (([] : List (S40))), (.slice none 0 0), (by first | rfl | (simp; done) | (simp [*]; done)), H', ⟨Nat.le_refl _⟩, ⟨by (with_reducible repeat (first | apply Kd.R_alloc | apply Kd.R_drewN | apply Kd.R_drew)); exact Kd.R_mono (Kd.R_far (p := ⟨gb157, 1, none⟩) (Kd.R_far (p := ⟨gb157, 0, none⟩) (Kd.R_mono HO_3.out (fun k_ hk => (⟨hk, hk.2⟩ : _ ∧ k_ ≠ gb157))) (fun _ hk => hk.2) (.int .i64 ((rd_T47 l0 x4_1).f0))) (fun _ hk => hk.2) (.slice none 0 0)) (fun _ hk => ⟨(by simp [Value.ownBlock]), hk.1.2⟩)⟩, ⟨by first | exact Kd.S_nil _ _ _ _ _ | exact Kd.N_nil _ _ _ _ _ | exact Kd.V_nil _ _ _ _ _ | exact Kd.Q_nil _ _ _ _ _ | exact Kd.R_nil _ _ _ _ _⟩, ⟨by (with_reducible repeat (first | refine bn_ ?_ _ | refine bw_ ?_ | refine ba_ ?_ _)); refine blk_put (cs := #[.int .i64 ((rd_T47 l0 x4_1).f0), .slice none 0 0]) ?_ 1 _ rfl; (with_reducible repeat (first | refine bn_ ?_ _ | refine bw_ ?_ | refine ba_ ?_ _)); refine blk_put (cs := #[.int .i64 0, .slice none 0 0]) ?_ 0 _ rfl; (with_reducible repeat (first | refine bn_ ?_ _ | refine bw_ ?_ | refine ba_ ?_ _)); exact BK157.out⟩, ⟨us_ HB.out⟩⟩
   case round =>
    clear H'
    try clear c1
    try clear p1
    try clear q1
    try clear hx1
    try clear p2
    try clear c4
    try clear c4b0
    try clear c5
    try clear c5b0
    try clear hcz7_0
    try clear hcz7_1
    try clear hfz7_0
    try clear hfz7_1
    try clear hx156_0
    try clear hx156_1
    try clear p156
    try clear p2
    try clear q156
    obtain ⟨x6_2, x158001_2, u158001, rfl, HA, HK2, HO_3, HO_158001, BK157, HB⟩ := hrel
    cases gk with
    | zero => exact absurd HA.out (by simp [spec_l9Copy.l1])
    | succ k2 =>
     have H := HA.out
     clear HA
     simp only [spec_l9Copy.l1] at H
     by_cases c8 : 0 ≤ x4_1
     rotate_left
     ·rw [if_neg c8] at H
      exact absurd H (by simp)
     rw [if_pos c8] at H
     have c8b0 : decide (0 ≤ x4_1) = true := decide_eq_true c8
     clear c8
     by_cases c9 : x4_1 < (l0.length : Int)
     rotate_left
     ·rw [if_neg c9] at H
      exact absurd H (by simp)
     rw [if_pos c9] at H
     have c9b0 : decide (x4_1 < (l0.length : Int)) = true := decide_eq_true c9
     clear c9
     by_cases c10 : x6_2 < (((rd_T47 l0 x4_1).f1).length : Int)
     rotate_left
     ·rw [if_neg c10] at H
      have c10b0 : decide (x6_2 < (((rd_T47 l0 x4_1).f1).length : Int)) = false := decide_eq_false c10
      clear c10
      by_cases c29 : x3_1.length < 4398046511104
      rotate_left
      ·rw [if_neg c29] at H
       exact absurd H (by simp)
      rw [if_pos c29] at H
      have LMc29 := mk_ c29
      clear c29
      obtain ⟨y171, hy171⟩ : ∃ y_ : List (S47), y_ = (x3_1 ++ [(⟨((rd_T47 l0 x4_1).f0), x158001_2⟩ : S47)]) := ⟨_, rfl⟩
      replace H : (spec_l9Copy.l0 k2 l0 y171 (wrap64 (x4_1 + 1))) = some r := by first | (rw [hy171]; with_reducible exact H) | (have H2_ := (Option.bind_some _ _).symm.trans H; rw [hy171]; with_reducible exact H2_) | (have H2_ := (Option.bind_some _ _).symm.trans H; with_reducible exact H2_) | with_reducible exact H | (rw [hy171]; exact H) | exact H
      have Ny171 := mk_ hy171
      clear hy171
      have H' := mk_ H
      clear H
      have p158 : 0 ≤ (x4_1 : Int) := of_decide_eq_true (by first | (with_reducible assumption) | assumption)
      have q158 : x4_1 < (l0.length : Int) := of_decide_eq_true (by first | (with_reducible assumption) | assumption)
      obtain ⟨ad158, A158_1, c158_1, e158, hx158_0, hx158_1, hl158_1, hi158_1⟩ := at_T47 HR0.out x4_1 p158 q158
      obtain rfl : ad156 = ad158 := (by injection e158)
      replace hx158_0 := (HB.out.cell (lc_ w _ hx158_0)).trans hx158_0
      replace hx158_1 := (HB.out.cell (lc_ w _ hx158_1)).trans hx158_1
      have HR158_1 := mk_ hi158_1
      have HC158_1 := mk_ hl158_1
      clear hi158_1 hl158_1
      replace p158 := eq_true p158
      replace q158 := eq_true q158
      obtain ⟨_, _, _, _⟩ := cells2_ BK157.out
      obtain ⟨Ao32, co32, eo32⟩ := Kd.S_slice HO_158001.out
      subst eo32
      go_wp2_with (first | ((with_reducible refine gate_builtin (b := .append) (xs := #[.tmp 50, .tmp 52]) rfl ?_); at_builtin; refine Kd.R_append k47 (w0 := w) w.heap.size rfl (.tmp 50) (.tmp 52) 25 47 (.agg #[(.int .i64 0), (.slice none 0 0)]) 32 rfl Try.underlying25 info47 rfl (by decide) (by omega) u3 x3_1 (⟨((rd_T47 l0 x4_1).f0), x158001_2⟩ : S47) [.int .i64 ((rd_T47 l0 x4_1).f0), .slice Ao32 x158001_2.length co32] (fun k_ => k_ ≠ gb157) (fun k_ => ((fun k_ => k_ ≠ gb157)) k_ ∧ some k_ ≠ (u3 : Value).ownBlock) rfl rfl ?aP (fun _ hk => hk) ?aF ?aO ?aB ?aS ?aL ?_; (case aP => exact k47_mkM _ _ _ (⟨((rd_T47 l0 x4_1).f0), x158001_2⟩ : S47) (Kd.R_mono (Kd.R_types (Kd.R_apart' ((Kd.S_R HO_158001.out)) (Kd.R_typed HO_3.out) (by decide)) BK157.out (by decide)) (fun k_ hk => ⟨hk.2, hk.1.2⟩))); (case aB => exact (us_ HB.out)); (case aF => exact (fun k_ hk => Kd.freshB (g := gb157) (o := .cells #[.int .i64 ((rd_T47 l0 x4_1).f0), .slice Ao32 x158001_2.length co32] 47 (0, 0)) (u_ BK157.out) k_ hk)); (case aO => exact (by (with_reducible repeat (first | apply Kd.R_alloc | apply Kd.R_drewN | apply Kd.R_drew)); exact Kd.R_mono HO_3.out (fun _ hk => hk.2))); (case aS => exact (below_size (us_ HB.out))); (case aL => have := LMc29.out; omega); intro v172 w31 ho hb hg hat; rw [← Ny171.out] at ho; replace BK157 := mk_ (blk_grown (g := gb157) (o := .cells #[.int .i64 ((rd_T47 l0 x4_1).f0), .slice Ao32 x158001_2.length co32] 47 (0, 0)) (u_ BK157.out) hg (Kd.R_away HO_3.out (fun _ hk => hk.2))); replace HB := mk_ (hb); have HO173 := mk_ (ho); clear HO_3 HO_158001; clear ho hb hg hat))
      go_roundg k2
      case measure => have := HK1.out; have := HK2.out; omega
      case rel => exact ⟨(y171), (wrap64 (x4_1 + 1)), (by first | rfl | (simp; done) | (simp [*]; done)), H', ⟨by have := HK1.out; have := HK2.out; omega⟩, ⟨by (with_reducible repeat (first | apply Kd.R_alloc | apply Kd.R_drewN | apply Kd.R_drew)); exact Kd.R_mono HO173.out (fun _ hk => trivial)⟩, ⟨us_ HB.out⟩⟩
     rw [if_pos c10] at H
     have c10b0 : decide (x6_2 < (((rd_T47 l0 x4_1).f1).length : Int)) = true := decide_eq_true c10
     clear c10
     by_cases c11 : 0 ≤ x6_2
     rotate_left
     ·rw [if_neg c11] at H
      exact absurd H (by simp)
     rw [if_pos c11] at H
     have c11b0 : decide (0 ≤ x6_2) = true := decide_eq_true c11
     clear c11
     obtain ⟨y162, hy162⟩ : ∃ y_ : List Int, y_ = (([] : List Int)) := ⟨_, rfl⟩
     replace H : (if y162.length + ((rd_T40 ((rd_T47 l0 x4_1).f1) x6_2).f3).length < 140737488355328 then (if x158001_2.length < 2932031007402 then (spec_l9Copy.l1 k2 l0 x3_1 x4_1 (wrap64 (x6_2 + 1)) ((rd_T47 l0 x4_1).f0) (x158001_2 ++ [(⟨(rd_T40 ((rd_T47 l0 x4_1).f1) x6_2).f0, (rd_T40 ((rd_T47 l0 x4_1).f1) x6_2).f1, (rd_T40 ((rd_T47 l0 x4_1).f1) x6_2).f2, (y162 ++ ((rd_T40 ((rd_T47 l0 x4_1).f1) x6_2).f3))⟩ : S40)])) else (none)) else (none)) = some r := by first | (rw [hy162]; with_reducible exact H) | (have H2_ := (Option.bind_some _ _).symm.trans H; rw [hy162]; with_reducible exact H2_) | (have H2_ := (Option.bind_some _ _).symm.trans H; with_reducible exact H2_) | with_reducible exact H | (rw [hy162]; exact H) | exact H
     have Ny162 := mk_ hy162
     clear hy162
     by_cases c12 : y162.length + ((rd_T40 ((rd_T47 l0 x4_1).f1) x6_2).f3).length < 140737488355328
     rotate_left
     ·rw [if_neg c12] at H
      exact absurd H (by simp)
     rw [if_pos c12] at H
     have LMc12 := mk_ c12
     clear c12
     obtain ⟨y165, hy165⟩ : ∃ y_ : List Int, y_ = (y162 ++ ((rd_T40 ((rd_T47 l0 x4_1).f1) x6_2).f3)) := ⟨_, rfl⟩
     replace H : (if x158001_2.length < 2932031007402 then (spec_l9Copy.l1 k2 l0 x3_1 x4_1 (wrap64 (x6_2 + 1)) ((rd_T47 l0 x4_1).f0) (x158001_2 ++ [(⟨(rd_T40 ((rd_T47 l0 x4_1).f1) x6_2).f0, (rd_T40 ((rd_T47 l0 x4_1).f1) x6_2).f1, (rd_T40 ((rd_T47 l0 x4_1).f1) x6_2).f2, y165⟩ : S40)])) else (none)) = some r := by first | (rw [hy165]; with_reducible exact H) | (have H2_ := (Option.bind_some _ _).symm.trans H; rw [hy165]; with_reducible exact H2_) | (have H2_ := (Option.bind_some _ _).symm.trans H; with_reducible exact H2_) | with_reducible exact H | (rw [hy165]; exact H) | exact H
     have Ny165 := mk_ hy165
     clear hy165
     by_cases c13 : x158001_2.length < 2932031007402
     rotate_left
     ·rw [if_neg c13] at H
      exact absurd H (by simp)
     rw [if_pos c13] at H
     have LMc13 := mk_ c13
     clear c13
     obtain ⟨y168, hy168⟩ : ∃ y_ : List (S40), y_ = (x158001_2 ++ [(⟨(rd_T40 ((rd_T47 l0 x4_1).f1) x6_2).f0, (rd_T40 ((rd_T47 l0 x4_1).f1) x6_2).f1, (rd_T40 ((rd_T47 l0 x4_1).f1) x6_2).f2, y165⟩ : S40)]) := ⟨_, rfl⟩
     replace H : (spec_l9Copy.l1 k2 l0 x3_1 x4_1 (wrap64 (x6_2 + 1)) ((rd_T47 l0 x4_1).f0) y168) = some r := by first | (rw [hy168]; with_reducible exact H) | (have H2_ := (Option.bind_some _ _).symm.trans H; rw [hy168]; with_reducible exact H2_) | (have H2_ := (Option.bind_some _ _).symm.trans H; with_reducible exact H2_) | with_reducible exact H | (rw [hy168]; exact H) | exact H
     have Ny168 := mk_ hy168
     clear hy168
     have H' := mk_ H
     clear H
     have p158 : 0 ≤ (x4_1 : Int) := of_decide_eq_true (by first | (with_reducible assumption) | assumption)
     have q158 : x4_1 < (l0.length : Int) := of_decide_eq_true (by first | (with_reducible assumption) | assumption)
     obtain ⟨ad158, A158_1, c158_1, e158, hx158_0, hx158_1, hl158_1, hi158_1⟩ := at_T47 HR0.out x4_1 p158 q158
     obtain rfl : ad156 = ad158 := (by injection e158)
     replace hx158_0 := (HB.out.cell (lc_ w _ hx158_0)).trans hx158_0
     replace hx158_1 := (HB.out.cell (lc_ w _ hx158_1)).trans hx158_1
     have HR158_1 := mk_ hi158_1
     have HC158_1 := mk_ hl158_1
     clear hi158_1 hl158_1
     replace p158 := eq_true p158
     replace q158 := eq_true q158
     have p159 : 0 ≤ (x4_1 : Int) := of_decide_eq_true (by first | (with_reducible assumption) | assumption)
     have q159 : x4_1 < (l0.length : Int) := of_decide_eq_true (by first | (with_reducible assumption) | assumption)
     obtain ⟨ad159, A159_1, c159_1, e159, hx159_0, hx159_1, hl159_1, hi159_1⟩ := at_T47 HR0.out x4_1 p159 q159
     obtain rfl : ad156 = ad159 := (by injection e159)
     replace hx159_0 := (HB.out.cell (lc_ w _ hx159_0)).trans hx159_0
     replace hx159_1 := (HB.out.cell (lc_ w _ hx159_1)).trans hx159_1
     have HR159_1 := mk_ hi159_1
     have HC159_1 := mk_ hl159_1
     clear hi159_1 hl159_1
     replace p159 := eq_true p159
     replace q159 := eq_true q159
     have ea_ := Option.some.inj (hx158_1.symm.trans hx159_1)
     injection ea_ with ea_ en_ ec_
     subst ea_
     subst ec_
     clear en_
     have p160 : 0 ≤ (x6_2 : Int) := of_decide_eq_true (by first | (with_reducible assumption) | assumption)
     have q160 : x6_2 < (((rd_T47 l0 x4_1).f1).length : Int) := of_decide_eq_true (by first | (with_reducible assumption) | assumption)
     obtain ⟨ad160, A160_3, c160_3, e160, hx160_0, hx160_1, hx160_2, hx160_3, hl160_3, hi160_3⟩ := at_T40 HR159_1.out x6_2 p160 q160
     cases e160
     replace hx160_0 := (HB.out.cell (lc_ w _ hx160_0)).trans hx160_0
     replace hx160_1 := (HB.out.cell (lc_ w _ hx160_1)).trans hx160_1
     replace hx160_2 := (HB.out.cell (lc_ w _ hx160_2)).trans hx160_2
     replace hx160_3 := (HB.out.cell (lc_ w _ hx160_3)).trans hx160_3
     have HR160_3 := mk_ hi160_3
     have HC160_3 := mk_ hl160_3
     clear hi160_3 hl160_3
     replace p160 := eq_true p160
     replace q160 := eq_true q160
     go_wp2_with (first | ((with_reducible refine gate_dst (N := 7) rfl ?_); refine box_event ?hg (N := 7) ?hd (cs := #[.int .i64 0, .int .i64 0, .int .i64 0, .slice none 0 0]) (t := 40) ?hr ?_; (case hd => rfl); (case hg => rfl); (case hr => first | (go_simp; done) | (go_simp; rfl)); intro gb161 hg w14 hbox hb; replace HO_3 := mk_ (Kd.R_below (Kd.R_elderB (Kd.ur_ HO_3.out) gb161 (Nat.le_of_eq hg.symm)) hb); replace HO_158001 := mk_ (Kd.S_below (Kd.S_elderB (by (with_reducible repeat (first | apply Kd.S_alloc | apply Kd.S_drewN | apply Kd.S_drew)); exact HO_158001.out) gb161 (Nat.le_of_eq hg.symm)) hb); have n2_ := mk_ (blk_below (u_ BK157.out) hb); have n3_ := mk_ (below_step (us_ HB.out) hb); have BK161 := mk_ (hbox); have GW161 := mk_ ((by rw [hg]; exact (below_size (us_ HB.out)) : w.heap.size ≤ gb161)); have GE161 := ge_ ((by rw [hg]; exact (below_size (us_ HB.out)) : w.heap.size ≤ gb161)); have NB157_161 := nq_ ((by rw [hg]; exact Nat.ne_of_lt (blk_lt (u_ BK157.out)) : gb157 ≠ gb161)); have NB161_157 := nq_ ((by rw [hg]; exact Nat.ne_of_gt (blk_lt (u_ BK157.out)) : gb161 ≠ gb157)); replace BK157 := n2_; replace HB := n3_; clear n2_ n3_; clear hb hbox hg; have hnb15 := NB161_157.out; have hnc15 := NB157_161.out; obtain ⟨_, _, _, _, _, _, _, _⟩ := cells4_ BK161.out) | ((with_reducible refine gate_dst (N := 39) rfl ?_); refine Kd.R_lit (Kd.int .u8) _ 5 ?hg (N := 39) ?hd (xs := ([] : List Int)) (inner := []) (ok := fun _ => True) (okp := fun _ => True) ?hr ?hp (fun _ hk => hk) trivial (Below.refl _ _) (Nat.le_refl _) (by simp) ?_; (case hd => rfl); (case hg => rfl); (case hr => first | (go_simp; done) | (go_simp; rfl)); (case hp => exact (Reps.none _ _)); intro v163 w17 ho18 hb hg_ hnew_; clear hg_ hnew_; (first | rw [← Ny162.out] at ho18 | (simp only [Int.reduceToNat] at ho18; rw [← Ny162.out] at ho18)); replace HO_3 := mk_ (Kd.R_elder' (by (with_reducible repeat (first | apply Kd.R_alloc | apply Kd.R_drewN | apply Kd.R_drew)); exact (Kd.R_mono (Kd.R_far (p := ⟨gb161, 3, none⟩) (Kd.R_far (p := ⟨gb161, 2, none⟩) (Kd.R_far (p := ⟨gb161, 1, none⟩) (Kd.R_far (p := ⟨gb161, 0, none⟩) (Kd.R_mono HO_3.out (fun k_ hk => (⟨hk, hk.2⟩ : _ ∧ k_ ≠ gb161))) (fun _ hk => hk.2) (.int .i64 ((rd_T40 ((rd_T47 l0 x4_1).f1) x6_2).f0))) (fun _ hk => hk.2) (.int .i64 ((rd_T40 ((rd_T47 l0 x4_1).f1) x6_2).f1))) (fun _ hk => hk.2) (.int .i64 ((rd_T40 ((rd_T47 l0 x4_1).f1) x6_2).f2))) (fun _ hk => hk.2) (.slice A160_3 ((rd_T40 ((rd_T47 l0 x4_1).f1) x6_2).f3).length c160_3)) (fun _ h_ => by first | exact h_.1 | simp only [h_, ne_eq, not_false_eq_true, and_self]))) (Kd.R_base ho18) hb); replace HO_158001 := mk_ (Kd.S_elder' (by (with_reducible repeat (first | apply Kd.S_alloc | apply Kd.S_drewN | apply Kd.S_drew)); exact (Kd.S_mono (Kd.S_far (p := ⟨gb161, 3, none⟩) (Kd.S_far (p := ⟨gb161, 2, none⟩) (Kd.S_far (p := ⟨gb161, 1, none⟩) (Kd.S_far (p := ⟨gb161, 0, none⟩) (Kd.S_mono HO_158001.out (fun k_ hk => (⟨hk, hk.2⟩ : _ ∧ k_ ≠ gb161))) (fun _ hk => hk.2) (.int .i64 ((rd_T40 ((rd_T47 l0 x4_1).f1) x6_2).f0))) (fun _ hk => hk.2) (.int .i64 ((rd_T40 ((rd_T47 l0 x4_1).f1) x6_2).f1))) (fun _ hk => hk.2) (.int .i64 ((rd_T40 ((rd_T47 l0 x4_1).f1) x6_2).f2))) (fun _ hk => hk.2) (.slice A160_3 ((rd_T40 ((rd_T47 l0 x4_1).f1) x6_2).f3).length c160_3)) (fun _ h_ => by first | exact h_.1 | simp only [h_, ne_eq, not_false_eq_true, and_self]))) (Kd.R_base ho18) hb); have HO164 := mk_ (Kd.R_lower ho18 (below_size (us_ HB.out))); replace BK157 := mk_ (blk_below (g := gb157) (o := .cells #[.int .i64 ((rd_T47 l0 x4_1).f0), u158001] 47 (0, 0)) (uf_ BK157.out) hb); replace BK161 := mk_ (blk_below (g := gb161) (o := .cells #[.int .i64 ((rd_T40 ((rd_T47 l0 x4_1).f1) x6_2).f0), .int .i64 ((rd_T40 ((rd_T47 l0 x4_1).f1) x6_2).f1), .int .i64 ((rd_T40 ((rd_T47 l0 x4_1).f1) x6_2).f2), .slice A160_3 ((rd_T40 ((rd_T47 l0 x4_1).f1) x6_2).f3).length c160_3] 40 (0, 0)) (by (with_reducible repeat (first | refine bn_ ?_ _ | refine bw_ ?_ | refine ba_ ?_ _)); refine blk_put (cs := #[.int .i64 ((rd_T40 ((rd_T47 l0 x4_1).f1) x6_2).f0), .int .i64 ((rd_T40 ((rd_T47 l0 x4_1).f1) x6_2).f1), .int .i64 ((rd_T40 ((rd_T47 l0 x4_1).f1) x6_2).f2), .slice none 0 0]) ?_ 3 _ rfl; (with_reducible repeat (first | refine bn_ ?_ _ | refine bw_ ?_ | refine ba_ ?_ _)); refine blk_put (cs := #[.int .i64 ((rd_T40 ((rd_T47 l0 x4_1).f1) x6_2).f0), .int .i64 ((rd_T40 ((rd_T47 l0 x4_1).f1) x6_2).f1), .int .i64 0, .slice none 0 0]) ?_ 2 _ rfl; (with_reducible repeat (first | refine bn_ ?_ _ | refine bw_ ?_ | refine ba_ ?_ _)); refine blk_put (cs := #[.int .i64 ((rd_T40 ((rd_T47 l0 x4_1).f1) x6_2).f0), .int .i64 0, .int .i64 0, .slice none 0 0]) ?_ 1 _ rfl; (with_reducible repeat (first | refine bn_ ?_ _ | refine bw_ ?_ | refine ba_ ?_ _)); refine blk_put (cs := #[.int .i64 0, .int .i64 0, .int .i64 0, .slice none 0 0]) ?_ 0 _ rfl; (with_reducible repeat (first | refine bn_ ?_ _ | refine bw_ ?_ | refine ba_ ?_ _)); exact BK161.out) hb); replace HB := mk_ (below_step (us_ HB.out) hb); clear hb ho18; obtain ⟨hcz19_0, hcz19_1, hcz19_2, hcz19_3, hfz19_0, hfz19_1, hfz19_2, hfz19_3⟩ := cells4_ BK161.out) | ((with_reducible refine gate_builtin (b := .append) (xs := #[.tmp 39, .tmp 41]) rfl ?_); at_builtin; refine Kd.R_append_rows (Kd.int .u8) (w0 := w) w.heap.size rfl (.tmp 39) (.tmp 41) 29 5 (.int .u8 0) 1 rfl Try.underlying29 info5 rfl (by decide) (by omega) v163 y162 ((rd_T40 ((rd_T47 l0 x4_1).f1) x6_2).f3) _ _ _ (fun _ => True) (fun _ => False) rfl rfl ?aO ?aR (fun _ _ h => h) (fun _ h => h.elim) ?aF ?aB ?aS ?aL ?_; (case aR => repeat (first | exact (Kd.C_below HR160_3.out HB.out) | (with_reducible refine Kd.C_alloc ?_ _) | (with_reducible refine Kd.C_drewN ?_ _) | (with_reducible refine Kd.C_drew ?_))); (case aB => exact (us_ HB.out)); (case aF => exact (fun _ _ => trivial)); (case aO => exact (Kd.ur_ HO164.out)); (case aS => exact (below_size (us_ HB.out))); (case aL => have := LMc12.out; omega); intro v166 w20 ho hb hg hat; rw [← Ny165.out] at ho; replace HO_3 := mk_ (Kd.R_after (ok := (fun k_ => some k_ ≠ (u158001 : Value).ownBlock ∧ k_ ≠ gb157 ∧ k_ ≠ gb161)) (by (with_reducible repeat (first | apply Kd.R_alloc | apply Kd.R_drewN | apply Kd.R_drew)); exact Kd.R_mono HO_3.out (fun _ hk => by first | exact ⟨⟨hk.1.1.1, ⟨hk.1.1.2, hk.1.2⟩⟩, hk.2⟩ | exact hk.1 | exact hk | exact ⟨hk.1, hk.2⟩ | exact ⟨.inr hk.1, hk.2⟩ | simp only [hk, ne_eq, not_false_eq_true, and_self])) hg hat); replace HO_158001 := mk_ (Kd.S_after (ok := (fun k_ => k_ ≠ gb161)) (by (with_reducible repeat (first | apply Kd.S_alloc | apply Kd.S_drewN | apply Kd.S_drew)); exact Kd.S_mono HO_158001.out (fun _ hk => ⟨hk.1.2, hk.2⟩)) hg hat); replace BK157 := mk_ (blk_grown (g := gb157) (o := .cells #[.int .i64 ((rd_T47 l0 x4_1).f0), u158001] 47 (0, 0)) (u_ BK157.out) hg (Kd.R_ne HO164.out BK157.out (by decide))); replace BK161 := mk_ (blk_grown (g := gb161) (o := .cells #[.int .i64 ((rd_T40 ((rd_T47 l0 x4_1).f1) x6_2).f0), .int .i64 ((rd_T40 ((rd_T47 l0 x4_1).f1) x6_2).f1), .int .i64 ((rd_T40 ((rd_T47 l0 x4_1).f1) x6_2).f2), .slice A160_3 ((rd_T40 ((rd_T47 l0 x4_1).f1) x6_2).f3).length c160_3] 40 (0, 0)) (u_ BK161.out) hg (Kd.R_ne HO164.out BK161.out (by decide))); replace HB := mk_ (hb); have HO167 := mk_ (ho); clear HO164; clear ho hb hg hat; obtain ⟨Ao21, co21, eo21⟩ := Kd.R_slice HO167.out; subst eo21; obtain ⟨_, _, _, _, _, _, _, _⟩ := cells4_ BK161.out) | ((with_reducible refine gate_store (t := 29) (p := 43) rfl ?_); refine store_event (t := 29) (p := 43) (v := ?_) (w1 := ?_) ?hg ?ho ?hn ?hr ?_; (case ho => rfl); (case hg => rfl); (case hn => rfl); (case hr => first | (go_simp; done) | (go_simp; rfl)); intro w23 hw; have n0_ : Aside0 (Kd.R k47 47 w23 w.heap.size (fun k_ => some k_ ≠ (u158001 : Value).ownBlock ∧ some k_ ≠ (.slice Ao21 y165.length co21 : Value).ownBlock ∧ k_ ≠ gb157 ∧ k_ ≠ gb161) u3 x3_1) := ⟨(by rw [hw]; exact (by (with_reducible repeat (first | apply Kd.R_alloc | apply Kd.R_drewN | apply Kd.R_drew)); exact Kd.R_mono (Kd.R_far (p := ⟨gb161, 3, none⟩) (Kd.R_mono HO_3.out (fun k_ hk => (⟨hk, hk.1.2.2⟩ : _ ∧ k_ ≠ gb161))) (fun _ hk => hk.2) (.slice Ao21 y165.length co21)) (fun _ hk => by first | exact ⟨hk.1.1.1, ⟨hk.1.2, ⟨hk.1.1.2.1, hk.1.1.2.2⟩⟩⟩ | exact hk.1 | exact hk | exact ⟨hk.1, hk.2⟩ | exact ⟨.inr hk.1, hk.2⟩ | simp only [hk, ne_eq, not_false_eq_true, and_self])))⟩; have n1_ : Aside0 (Kd.S k40 40 w23 w.heap.size (fun k_ => some k_ ≠ (.slice Ao21 y165.length co21 : Value).ownBlock ∧ k_ ≠ gb161) u158001 x158001_2) := ⟨(by rw [hw]; exact (by (with_reducible repeat (first | apply Kd.S_alloc | apply Kd.S_drewN | apply Kd.S_drew)); exact Kd.S_mono (Kd.S_far (p := ⟨gb161, 3, none⟩) (Kd.S_mono HO_158001.out (fun k_ hk => (⟨hk, hk.1⟩ : _ ∧ k_ ≠ gb161))) (fun _ hk => hk.2) (.slice Ao21 y165.length co21)) (fun _ hk => by first | exact ⟨hk.1.2, hk.1.1⟩ | exact hk.1 | exact hk | exact ⟨hk.1, hk.2⟩ | exact ⟨.inr hk.1, hk.2⟩ | simp only [hk, ne_eq, not_false_eq_true, and_self])))⟩; have n2_ : Aside0 (Kd.R (Kd.int .u8) 5 w23 w.heap.size (fun _ => True) (.slice Ao21 y165.length co21) y165) := ⟨(by rw [hw]; exact (by (with_reducible repeat (first | apply Kd.R_alloc | apply Kd.R_drewN | apply Kd.R_drew)); exact Kd.R_mono (Kd.R_far (p := ⟨gb161, 3, none⟩) (Kd.R_types HO167.out BK161.out (by decide)) (fun _ hk => hk.2) (.slice Ao21 y165.length co21)) (fun _ hk => trivial)))⟩; have n3_ : Aside0 (w23.heap[gb157]? = some (.cells #[.int .i64 ((rd_T47 l0 x4_1).f0), u158001] 47 (0, 0))) := ⟨(by rw [hw]; exact (uf_ BK157.out))⟩; have n4_ : Aside0 (w23.heap[gb161]? = some (.cells #[.int .i64 ((rd_T40 ((rd_T47 l0 x4_1).f1) x6_2).f0), .int .i64 ((rd_T40 ((rd_T47 l0 x4_1).f1) x6_2).f1), .int .i64 ((rd_T40 ((rd_T47 l0 x4_1).f1) x6_2).f2), .slice Ao21 y165.length co21] 40 (0, 0))) := ⟨(by rw [hw]; exact (by (with_reducible repeat (first | refine bn_ ?_ _ | refine bw_ ?_ | refine ba_ ?_ _)); refine blk_put (cs := #[.int .i64 ((rd_T40 ((rd_T47 l0 x4_1).f1) x6_2).f0), .int .i64 ((rd_T40 ((rd_T47 l0 x4_1).f1) x6_2).f1), .int .i64 ((rd_T40 ((rd_T47 l0 x4_1).f1) x6_2).f2), .slice A160_3 ((rd_T40 ((rd_T47 l0 x4_1).f1) x6_2).f3).length c160_3]) ?_ 3 _ rfl; (with_reducible repeat (first | refine bn_ ?_ _ | refine bw_ ?_ | refine ba_ ?_ _)); exact BK161.out))⟩; have n5_ : Aside0 (Below w.heap.size w w23) := ⟨(by rw [hw]; exact (us_ HB.out))⟩; clear hw; clear HO_3; clear HO_158001; clear HO167; clear BK157; clear BK161; clear HB; have HO_3 := n0_; have HO_158001 := n1_; have HO167 := n2_; have BK157 := n3_; have BK161 := n4_; have HB := n5_; clear n0_ n1_ n2_ n3_ n4_ n5_; obtain ⟨_, _, _, _⟩ := cells2_ BK157.out; obtain ⟨_, _, _, _, _, _, _, _⟩ := cells4_ BK161.out) | ((with_reducible refine gate_builtin (b := .append) (xs := #[.tmp 45, .tmp 47]) rfl ?_); at_builtin; refine Kd.S_append k40 (w0 := w) w.heap.size rfl (.tmp 45) (.tmp 47) 45 40 (.agg #[(.int .i64 0), (.int .i64 0), (.int .i64 0), (.slice none 0 0)]) 48 rfl Try.underlying45 info40 rfl (by decide) (by omega) u158001 x158001_2 (⟨(rd_T40 ((rd_T47 l0 x4_1).f1) x6_2).f0, (rd_T40 ((rd_T47 l0 x4_1).f1) x6_2).f1, (rd_T40 ((rd_T47 l0 x4_1).f1) x6_2).f2, y165⟩ : S40) [.int .i64 ((rd_T40 ((rd_T47 l0 x4_1).f1) x6_2).f0), .int .i64 ((rd_T40 ((rd_T47 l0 x4_1).f1) x6_2).f1), .int .i64 ((rd_T40 ((rd_T47 l0 x4_1).f1) x6_2).f2), .slice Ao21 y165.length co21] (fun k_ => k_ ≠ gb161) (fun k_ => some k_ = (.slice Ao21 y165.length co21 : Value).ownBlock) rfl rfl ?aP (fun k_ hk_ => ((Kd.R_mono (ok' := fun k_ => ((fun k_ => k_ ≠ gb161)) k_ ∧ some k_ ≠ (u158001 : Value).ownBlock) (Kd.R_types (Kd.R_apart' (HO167.out) (Kd.S_typed HO_158001.out) (by decide)) BK161.out (by decide)) (fun k_ hk => ⟨hk.2, hk.1.2⟩))).1 k_ hk_.symm) ?aF ?aO ?aB ?aS ?aL ?_; (case aP => exact k40_mkM _ _ _ (⟨(rd_T40 ((rd_T47 l0 x4_1).f1) x6_2).f0, (rd_T40 ((rd_T47 l0 x4_1).f1) x6_2).f1, (rd_T40 ((rd_T47 l0 x4_1).f1) x6_2).f2, y165⟩ : S40) (Kd.R_mono (Kd.R_tight rfl (Kd.R_mono (ok' := fun k_ => ((fun k_ => k_ ≠ gb161)) k_ ∧ some k_ ≠ (u158001 : Value).ownBlock) (Kd.R_types (Kd.R_apart' (HO167.out) (Kd.S_typed HO_158001.out) (by decide)) BK161.out (by decide)) (fun k_ hk => ⟨hk.2, hk.1.2⟩))) (fun _ h_ => h_))); (case aB => exact (us_ HB.out)); (case aF => exact (fun k_ hk => Kd.freshB (g := gb161) (o := .cells #[.int .i64 ((rd_T40 ((rd_T47 l0 x4_1).f1) x6_2).f0), .int .i64 ((rd_T40 ((rd_T47 l0 x4_1).f1) x6_2).f1), .int .i64 ((rd_T40 ((rd_T47 l0 x4_1).f1) x6_2).f2), .slice Ao21 y165.length co21] 40 (0, 0)) (u_ BK161.out) k_ hk)); (case aO => exact (by (with_reducible repeat (first | apply Kd.S_alloc | apply Kd.S_drewN | apply Kd.S_drew)); exact Kd.S_mono HO_158001.out (fun k_ hk => ⟨hk.2, fun e_ => hk.1 e_⟩))); (case aS => exact (below_size (us_ HB.out))); (case aL => have := LMc13.out; omega); intro v169 w26 ho hb hg hat; rw [← Ny168.out] at ho; replace HO_3 := mk_ (Kd.R_after (ok := (fun k_ => some k_ ≠ (.slice Ao21 y165.length co21 : Value).ownBlock ∧ k_ ≠ gb157 ∧ k_ ≠ gb161)) (by (with_reducible repeat (first | apply Kd.R_alloc | apply Kd.R_drewN | apply Kd.R_drew)); exact Kd.R_mono HO_3.out (fun _ hk => by first | exact ⟨⟨hk.2.1, ⟨hk.2.2.1, hk.2.2.2⟩⟩, hk.1⟩ | exact hk.1 | exact hk | exact ⟨hk.1, hk.2⟩ | exact ⟨.inr hk.1, hk.2⟩ | simp only [hk, ne_eq, not_false_eq_true, and_self])) hg hat); replace BK157 := mk_ (blk_grown (g := gb157) (o := .cells #[.int .i64 ((rd_T47 l0 x4_1).f0), u158001] 47 (0, 0)) (u_ BK157.out) hg (Kd.S_ne HO_158001.out BK157.out (by decide))); replace BK161 := mk_ (blk_grown (g := gb161) (o := .cells #[.int .i64 ((rd_T40 ((rd_T47 l0 x4_1).f1) x6_2).f0), .int .i64 ((rd_T40 ((rd_T47 l0 x4_1).f1) x6_2).f1), .int .i64 ((rd_T40 ((rd_T47 l0 x4_1).f1) x6_2).f2), .slice Ao21 y165.length co21] 40 (0, 0)) (u_ BK161.out) hg (Kd.S_away HO_158001.out (fun _ hk => hk.2))); replace HB := mk_ (hb); have HO170 := mk_ (ho); clear HO_158001 HO167; clear ho hb hg hat; obtain ⟨Ao27, co27, eo27⟩ := Kd.S_slice HO170.out; subst eo27; obtain ⟨_, _, _, _⟩ := cells2_ BK157.out))
     go_roundg k2
     case measure => have := HK1.out; have := HK2.out; omega
     case rel => exact ⟨(wrap64 (x6_2 + 1)), (y168), (.slice Ao27 y168.length co27), (by first | rfl | (simp; done) | (simp [*]; done)), H', ⟨by have := HK1.out; have := HK2.out; omega⟩, ⟨by (with_reducible repeat (first | apply Kd.R_alloc | apply Kd.R_drewN | apply Kd.R_drew)); exact Kd.R_mono (Kd.R_far (p := ⟨gb157, 1, none⟩) (Kd.R_mono HO_3.out (fun k_ hk => (⟨hk, hk.1.2.1⟩ : _ ∧ k_ ≠ gb157))) (fun _ hk => hk.2) (.slice Ao27 y168.length co27)) (fun _ hk => by first | exact ⟨hk.1.2, hk.1.1.2.1⟩ | exact hk.1 | exact hk | exact ⟨hk.1, hk.2⟩ | exact ⟨.inr hk.1, hk.2⟩ | simp only [hk, ne_eq, not_false_eq_true, and_self])⟩, ⟨by (with_reducible repeat (first | apply Kd.S_alloc | apply Kd.S_drewN | apply Kd.S_drew)); exact Kd.S_mono (Kd.S_far (p := ⟨gb157, 1, none⟩) (Kd.S_types HO170.out BK157.out (by decide)) (fun _ hk => hk.2) (.slice Ao27 y168.length co27)) (fun _ hk => trivial)⟩, ⟨by (with_reducible repeat (first | refine bn_ ?_ _ | refine bw_ ?_ | refine ba_ ?_ _)); refine blk_put (cs := #[.int .i64 ((rd_T47 l0 x4_1).f0), u158001]) ?_ 1 _ rfl; (with_reducible repeat (first | refine bn_ ?_ _ | refine bw_ ?_ | refine ba_ ?_ _)); exact BK157.out⟩, ⟨us_ HB.out⟩⟩

/-! ### spec_PortTake: function 24 -/
def spec_PortTake.f (k : Nat) (l0 : List (S47)) (a1 : Int) : Option ((List (S47)) × Int × Int × Int × List Int × Bool) := (spec_PortsOk.f k l0).bind fun t175 => (if t175 = true then ((spec_l9Copy.f k l0).bind fun t179 => ((spec_l9At.f k l0 a1).bind fun t182 => (if t182 < 0 then (some (t179, 0, 0, 0, ([] : List Int), false)) else (if 0 ≤ t182 then (if t182 < (t179.length : Int) then (if (((rd_T47 t179 t182).f1).length : Int) = 0 then (some (t179, 0, 0, 0, ([] : List Int), false)) else (if 0 < (((rd_T47 t179 t182).f1).length : Int) then (if 1 ≤ (((rd_T47 t179 t182).f1).length : Int) then (some ((t179.set (t182 : Int).toNat (⟨(rd_T47 t179 t182).f0, (((rd_T47 t179 t182).f1).drop 1)⟩ : S47)), (rd_T40 ((rd_T47 t179 t182).f1) 0).f0, (rd_T40 ((rd_T47 t179 t182).f1) 0).f1, (rd_T40 ((rd_T47 t179 t182).f1) 0).f2, (rd_T40 ((rd_T47 t179 t182).f1) 0).f3, true)) else (none)) else (none))) else (none)) else (none))))) else (some ((([] : List (S47))), 0, 0, 0, ([] : List Int), false)))
theorem spec_PortTake.mono : ∀ a0 a1 k, LeO (spec_PortTake.f k a0 a1) (spec_PortTake.f (k + 1) a0 a1) := by
 intro a0 a1 k
 unfold spec_PortTake.f
 repeat' first
   | (with_reducible exact spec_PortsOk.mono _ _)
   | (with_reducible exact spec_l9At.mono _ _ _)
   | (with_reducible exact spec_l9Copy.mono _ _)
   | (with_reducible exact LeO.refl _)
   | (with_reducible exact LeO.none _)
   | (with_reducible refine LeO.ite ?_ ?_)
   | (with_reducible refine LeO.bind ?_ (fun _ => ?_))
   | exact spec_PortsOk.mono _ _
   | exact spec_l9At.mono _ _ _
   | exact spec_l9Copy.mono _ _
   | exact LeO.none _
   | refine LeO.ite ?_ ?_
   | refine LeO.bind ?_ (fun _ => ?_)
set_option maxHeartbeats 8000000 in
set_option maxRecDepth 100000 in
theorem spec_PortTake.calls (k : Nat) (A0 : Option Addr) (c0 : Nat) (l0 : List (S47)) (a1 : Int) (r1 : List (S47)) (r2 : Int) (r3 : Int) (r4 : Int) (r5 : List Int) (r6 : Bool) (w : World) (hr0 : Kd.C k47 w A0 l0.length l0) (hc0 : l0.length ≤ c0) (h : spec_PortTake.f k l0 a1 = some (r1, r2, r3, r4, r5, r6)) :
  Calls Try.prog 24 #[.slice A0 l0.length c0, .int .i64 a1] w fun e w' => ∃ v0_ v4_ : Value, e = .returned (.tuple #[v0_, .agg #[.int .i64 r2, .int .i64 r3, .int .i64 r4, v4_], .bool r6]) ∧ Kd.N k47 47 w' w.heap.size (fun k_ => (w.heap.size ≤ k_)) v0_ r1 ∧ Kd.V (Kd.int .u8) 5 w' w.heap.size (fun k_ => (w.heap.size ≤ k_) ∧ some k_ ≠ (v0_ : Value).ownBlock) v4_ r5 ∧ Below w.heap.size w w' := by
 have hu40 := Try.underlying40
 have HR0 := mk_ hr0
 have HC0 := mk_ hc0
 clear hr0 hc0
 have HB := mk_ (Below.refl w.heap.size w)
 have H := h
 unfold spec_PortTake.f at H
 clear h
 replace H := Option.bind_eq_some_iff.mp H
 obtain ⟨t175, A30, H⟩ := H
 (try dsimp only at H)
 have A3 := mk_ A30
 clear A30
 by_cases c4 : t175 = true
 rotate_left
 focus
  replace c4 := Bool.eq_false_iff.mpr c4
  subst c4
  rw [if_neg (show ¬ (false = true) by decide)] at H
  obtain ⟨y176, hy176⟩ : ∃ y_ : List (S47), y_ = (([] : List (S47))) := ⟨_, rfl⟩
  replace H : (some (y176, 0, 0, 0, ([] : List Int), false)) = some (r1, r2, r3, r4, r5, r6) := by first | (rw [hy176]; with_reducible exact H) | (have H2_ := (Option.bind_some _ _).symm.trans H; rw [hy176]; with_reducible exact H2_) | (have H2_ := (Option.bind_some _ _).symm.trans H; with_reducible exact H2_) | with_reducible exact H | (rw [hy176]; exact H) | exact H
  have Ny176 := mk_ hy176
  clear hy176
  simp only [Option.some.injEq, Prod.mk.injEq] at H
  obtain ⟨rfl, rfl, rfl, rfl, rfl, rfl⟩ := H
 rotate_left
 focus
  subst c4
  rw [if_pos rfl] at H
  replace H := Option.bind_eq_some_iff.mp H
  obtain ⟨t179, A50, H⟩ := H
  (try dsimp only at H)
  have A5 := mk_ A50
  clear A50
  replace H := Option.bind_eq_some_iff.mp H
  obtain ⟨t182, A60, H⟩ := H
  (try dsimp only at H)
  have A6 := mk_ A60
  clear A60
  by_cases c7 : t182 < 0
  focus
   rw [if_pos c7] at H
   have c7b0 : decide (t182 < 0) = true := decide_eq_true c7
   clear c7
   simp only [Option.some.injEq, Prod.mk.injEq] at H
   obtain ⟨rfl, rfl, rfl, rfl, rfl, rfl⟩ := H
  rotate_left
  focus
   rw [if_neg c7] at H
   have c7b0 : decide (t182 < 0) = false := decide_eq_false c7
   clear c7
   by_cases c12 : 0 ≤ t182
   rotate_left
   ·rw [if_neg c12] at H
    exact absurd H (by simp)
   rw [if_pos c12] at H
   have c12b0 : decide (0 ≤ t182) = true := decide_eq_true c12
   clear c12
   by_cases c13 : t182 < (t179.length : Int)
   rotate_left
   ·rw [if_neg c13] at H
    exact absurd H (by simp)
   rw [if_pos c13] at H
   have c13b0 : decide (t182 < (t179.length : Int)) = true := decide_eq_true c13
   clear c13
   by_cases c14 : (((rd_T47 t179 t182).f1).length : Int) = 0
   focus
    rw [if_pos c14] at H
    have c14b0 : ((((rd_T47 t179 t182).f1).length : Int) == 0) = true := beq_iff_eq.mpr c14
    have c14b1 : ((((rd_T47 t179 t182).f1).length : Int) != 0) = false := bne_eq_false_iff_eq.mpr c14
    clear c14
    simp only [Option.some.injEq, Prod.mk.injEq] at H
    obtain ⟨rfl, rfl, rfl, rfl, rfl, rfl⟩ := H
   rotate_left
   focus
    rw [if_neg c14] at H
    have c14b0 : ((((rd_T47 t179 t182).f1).length : Int) == 0) = false := beq_eq_false_iff_ne.mpr c14
    have c14b1 : ((((rd_T47 t179 t182).f1).length : Int) != 0) = true := bne_iff_ne.mpr c14
    have c14b2 : ¬ (((rd_T47 t179 t182).f1) = []) := fun h_ => c14 (by rw [h_]; rfl)
    by_cases c20 : 0 < (((rd_T47 t179 t182).f1).length : Int)
    rotate_left
    ·rw [if_neg c20] at H
     exact absurd H (by simp)
    rw [if_pos c20] at H
    have c20b0 : decide (0 < (((rd_T47 t179 t182).f1).length : Int)) = true := decide_eq_true c20
    have c20b1 : decide (0 < ((rd_T47 t179 t182).f1).length) = true := decide_eq_true (by omega)
    clear c20
    by_cases c21 : 1 ≤ (((rd_T47 t179 t182).f1).length : Int)
    rotate_left
    ·rw [if_neg c21] at H
     exact absurd H (by simp)
    rw [if_pos c21] at H
    have c21b0 := eq_true c21
    have c21b1 : decide (1 ≤ (((rd_T47 t179 t182).f1).length : Int)) = true := decide_eq_true c21
    clear c21
    obtain ⟨y188, hy188⟩ : ∃ y_ : List (S40), y_ = (((rd_T47 t179 t182).f1).drop 1) := ⟨_, rfl⟩
    replace H : (some ((t179.set (t182 : Int).toNat (⟨(rd_T47 t179 t182).f0, y188⟩ : S47)), (rd_T40 ((rd_T47 t179 t182).f1) 0).f0, (rd_T40 ((rd_T47 t179 t182).f1) 0).f1, (rd_T40 ((rd_T47 t179 t182).f1) 0).f2, (rd_T40 ((rd_T47 t179 t182).f1) 0).f3, true)) = some (r1, r2, r3, r4, r5, r6) := by first | (rw [hy188]; with_reducible exact H) | (have H2_ := (Option.bind_some _ _).symm.trans H; rw [hy188]; with_reducible exact H2_) | (have H2_ := (Option.bind_some _ _).symm.trans H; with_reducible exact H2_) | with_reducible exact H | (rw [hy188]; exact H) | exact H
    have Ny188 := mk_ hy188
    clear hy188
    obtain ⟨y193, hy193⟩ : ∃ y_ : List (S47), y_ = (t179.set (t182 : Int).toNat (⟨(rd_T47 t179 t182).f0, y188⟩ : S47)) := ⟨_, rfl⟩
    replace H : (some (y193, (rd_T40 ((rd_T47 t179 t182).f1) 0).f0, (rd_T40 ((rd_T47 t179 t182).f1) 0).f1, (rd_T40 ((rd_T47 t179 t182).f1) 0).f2, (rd_T40 ((rd_T47 t179 t182).f1) 0).f3, true)) = some (r1, r2, r3, r4, r5, r6) := by first | (rw [hy193]; with_reducible exact H) | (have H2_ := (Option.bind_some _ _).symm.trans H; rw [hy193]; with_reducible exact H2_) | (have H2_ := (Option.bind_some _ _).symm.trans H; with_reducible exact H2_) | with_reducible exact H | (rw [hy193]; exact H) | exact H
    have Ny193 := mk_ hy193
    clear hy193
    simp only [Option.some.injEq, Prod.mk.injEq] at H
    obtain ⟨rfl, rfl, rfl, rfl, rfl, rfl⟩ := H
   rotate_left
  rotate_left 2
 rotate_left 3
 all_goals
  go_enter Try.func24, Try.ntmps24
 rotate_left
 have z1_ := trivial
 rotate_left
 have z2_ := trivial
 rotate_left
 have z3_ := trivial
 rotate_left
 all_goals
  try go_wp2_with (first | ((with_reducible refine gate_dst (N := 5) rfl ?_); refine box_event ?hg (N := 5) ?hd (cs := #[.int .i64 0, .int .i64 0, .int .i64 0, .slice none 0 0]) (t := 40) ?hr ?_; (case hd => rfl); (case hg => rfl); (case hr => first | (go_simp; done) | (go_simp; rfl)); intro gb2280 hg w2281 hbox hb; have n0_ := mk_ (below_step (ub_ HB.out) hb); have BK174 := mk_ (hbox); have GW174 := mk_ ((by rw [hg]; exact (below_size (ub_ HB.out)) : w.heap.size ≤ gb2280)); have GE174 := ge_ ((by rw [hg]; exact (below_size (ub_ HB.out)) : w.heap.size ≤ gb2280)); replace HB := n0_; clear n0_; clear hb hbox hg) | ((with_reducible refine gate_callee (f := 12) rfl ?_); refine goesL_ (some 11) rfl rfl Try.func12 (by kernel_rfl) rfl #[.slice A0 l0.length c0] rfl (by (try simp only [lm_, lo_, ln_]); try rfl) ?_; (with_reducible refine (spec_PortsOk.calls k _ _ l0 false _ ?side1 ?side2 A3.out).mono ?_); (case side1 => repeat (first | exact (Kd.C_below HR0.out HB.out) | (with_reducible refine Kd.C_alloc ?_ _) | (with_reducible refine Kd.C_drewN ?_ _) | (with_reducible refine Kd.C_drew ?_))); (case side2 => exact HC0.out); rintro e w19760 ⟨rfl, hb⟩; refine ⟨_, rfl, ?_⟩; replace BK174 := mk_ (blk_below (u_ BK174.out) hb); replace HB := mk_ (below_step (us_ HB.out) hb)) | ((with_reducible refine gate_callee (f := 12) rfl ?_); refine goesL_ (some 11) rfl rfl Try.func12 (by kernel_rfl) rfl #[.slice A0 l0.length c0] rfl (by (try simp only [lm_, lo_, ln_]); try rfl) ?_; (with_reducible refine (spec_PortsOk.calls k _ _ l0 true _ ?side1 ?side2 A3.out).mono ?_); (case side1 => repeat (first | exact (Kd.C_below HR0.out HB.out) | (with_reducible refine Kd.C_alloc ?_ _) | (with_reducible refine Kd.C_drewN ?_ _) | (with_reducible refine Kd.C_drew ?_))); (case side2 => exact HC0.out); rintro e w19760 ⟨rfl, hb⟩; refine ⟨_, rfl, ?_⟩; replace BK174 := mk_ (blk_below (u_ BK174.out) hb); replace HB := mk_ (below_step (us_ HB.out) hb)) | ((with_reducible refine gate_dst (N := 13) rfl ?_); refine Kd.N_lit k47 _ 47 ?hg (N' := 13) ?hd (xs := ([] : List (S47))) (inner := []) (ok := (fun k_ => (w.heap.size ≤ k_) ∧ k_ ≠ gb2280)) (okp := (fun k_ => (w.heap.size ≤ k_) ∧ k_ ≠ gb2280)) ?hr ?hp (fun _ hk => hk) ((show ∀ k_, w19760.heap.size ≤ k_ → (fun k_ => (w.heap.size ≤ k_) ∧ k_ ≠ gb2280) k_ from fun k_ hk => ⟨(Nat.le_trans (below_size (us_ HB.out)) hk), Kd.freshB (g := gb2280) (o := .cells #[.int .i64 0, .int .i64 0, .int .i64 0, .slice none 0 0] 40 (0, 0)) (u_ BK174.out) k_ hk⟩) _ (Nat.le_refl _)) (Below.refl _ _) (Nat.le_refl _) (by simp) ?_; (case hd => rfl); (case hg => rfl); (case hr => first | (go_simp; done) | (go_simp; rfl)); (case hp => exact (Reps.none _ _)); intro v19800 w19801 ho19802 hb hg_ hnew_; clear hg_ hnew_; (first | rw [← Ny176.out] at ho19802 | (simp only [Int.reduceToNat] at ho19802; rw [← Ny176.out] at ho19802)); have HO178 := mk_ (Kd.N_lower ho19802 (below_size (us_ HB.out))); replace BK174 := mk_ (blk_below (u_ BK174.out) hb); replace HB := mk_ (below_step (us_ HB.out) hb); clear hb ho19802; obtain ⟨_, _, _, _, _, _, _, _⟩ := cells4_ BK174.out) | ((with_reducible refine gate_callee (f := 52) rfl ?_); refine goesL_ (some 16) rfl rfl Try.func52 (by kernel_rfl) rfl #[.slice A0 l0.length c0] rfl (by (try simp only [lm_, lo_, ln_]); try rfl) ?_; (with_reducible refine (spec_l9Copy.calls k _ _ l0 t179 _ ?side1 ?side2 A5.out).mono ?_); (case side1 => repeat (first | exact (Kd.C_below HR0.out HB.out) | (with_reducible refine Kd.C_alloc ?_ _) | (with_reducible refine Kd.C_drewN ?_ _) | (with_reducible refine Kd.C_drew ?_))); (case side2 => exact HC0.out); rintro e w19920 ⟨v19921, rfl, ho19922, hb⟩; refine ⟨_, rfl, ?_⟩; have HO181 := mk_ (Kd.N_lower (Kd.N_mono (ok' := fun k_ => (w.heap.size ≤ k_) ∧ k_ ≠ gb2280) (Kd.R_N (Kd.R_bound ho19922)) (fun k_ hk_ => ⟨(Nat.le_trans (below_size (us_ HB.out)) hk_.2.1), (Kd.freshB (g := gb2280) (o := .cells #[.int .i64 0, .int .i64 0, .int .i64 0, .slice none 0 0] 40 (0, 0)) (u_ BK174.out) k_ hk_.2.1)⟩)) (below_size (us_ HB.out))); replace BK174 := mk_ (blk_below (u_ BK174.out) hb); replace HB := mk_ (below_step (us_ HB.out) hb)) | (have zz_ := z1_; clear zz_; (with_reducible refine gate_callee (f := 51) rfl ?_); refine goesL_ (some 19) rfl rfl Try.func51 (by kernel_rfl) rfl #[.slice A0 l0.length c0, .int .i64 a1] rfl (by (try simp only [lm_, lo_, ln_]); try rfl) ?_; (with_reducible refine (spec_l9At.calls k _ _ l0 a1 t182 _ ?side1 ?side2 A6.out).mono ?_); (case side1 => repeat (first | exact (Kd.C_below HR0.out HB.out) | (with_reducible refine Kd.C_alloc ?_ _) | (with_reducible refine Kd.C_drewN ?_ _) | (with_reducible refine Kd.C_drew ?_))); (case side2 => exact HC0.out); rintro e w' ⟨rfl, ⟨nd, rfl⟩⟩; refine ⟨_, rfl, ?_⟩; (try simp only [World.drewN_drewN]); (try (rw [drewN_self w19920]; generalize hq_ : World.drewN w19920 _ = w19920; have n0_ : Aside0 (Kd.N k47 47 w19920 w.heap.size (fun k_ => (w.heap.size ≤ k_) ∧ k_ ≠ gb2280) v19921 t179) := ⟨by rw [← hq_]; exact (by (with_reducible repeat (first | apply Kd.N_alloc | apply Kd.N_drewN | apply Kd.N_drew)); exact HO181.out)⟩; have n1_ : Aside0 (w19920.heap[gb2280]? = some (.cells #[.int .i64 0, .int .i64 0, .int .i64 0, .slice none 0 0] 40 (0, 0))) := ⟨by rw [← hq_]; exact (u_ BK174.out)⟩; have n2_ : Aside0 (Below w.heap.size w w19920) := ⟨by rw [← hq_]; exact (us_ HB.out)⟩; clear HO181 BK174 HB hq_; have HO181 := n0_; have BK174 := n1_; have HB := n2_; clear n0_ n1_ n2_)); obtain ⟨_, _, _, _, _, _, _, _⟩ := cells4_ BK174.out) | (have zz_ := z2_; clear zz_; (with_reducible refine gate_callee (f := 51) rfl ?_); refine goesL_ (some 19) rfl rfl Try.func51 (by kernel_rfl) rfl #[.slice A0 l0.length c0, .int .i64 a1] rfl (by (try simp only [lm_, lo_, ln_]); try rfl) ?_; (with_reducible refine (spec_l9At.calls k _ _ l0 a1 t182 _ ?side1 ?side2 A6.out).mono ?_); (case side1 => repeat (first | exact (Kd.C_below HR0.out HB.out) | (with_reducible refine Kd.C_alloc ?_ _) | (with_reducible refine Kd.C_drewN ?_ _) | (with_reducible refine Kd.C_drew ?_))); (case side2 => exact HC0.out); rintro e w' ⟨rfl, ⟨nd, rfl⟩⟩; refine ⟨_, rfl, ?_⟩; (try simp only [World.drewN_drewN]); (try (rw [drewN_self w19920]; generalize hq_ : World.drewN w19920 _ = w19920; have n0_ : Aside0 (Kd.N k47 47 w19920 w.heap.size (fun k_ => (w.heap.size ≤ k_) ∧ k_ ≠ gb2280) v19921 t179) := ⟨by rw [← hq_]; exact (by (with_reducible repeat (first | apply Kd.N_alloc | apply Kd.N_drewN | apply Kd.N_drew)); exact HO181.out)⟩; have n1_ : Aside0 (w19920.heap[gb2280]? = some (.cells #[.int .i64 0, .int .i64 0, .int .i64 0, .slice none 0 0] 40 (0, 0))) := ⟨by rw [← hq_]; exact (u_ BK174.out)⟩; have n2_ : Aside0 (Below w.heap.size w w19920) := ⟨by rw [← hq_]; exact (us_ HB.out)⟩; clear HO181 BK174 HB hq_; have HO181 := n0_; have BK174 := n1_; have HB := n2_; clear n0_ n1_ n2_)); obtain ⟨Ao19960, co19960, eo19960⟩ := Kd.N_slice HO181.out; subst eo19960; have p19961 : 0 ≤ (t182 : Int) := of_decide_eq_true (by first | (with_reducible assumption) | assumption); have q19961 : t182 < (t179.length : Int) := of_decide_eq_true (by first | (with_reducible assumption) | assumption); obtain ⟨ad19961, A183_1, c183_1, e19961, hx183_0, hx183_1, hl183_1, hi183_1⟩ := at_T47 (Kd.N_reads' HO181.out).2.2 t182 p19961 q19961; cases e19961; obtain ⟨ce19961, hce19961, hMe19961, hcc19961⟩ := Kd.N_get HO181.out z47 t182 p19961 (by first | exact q19961 | exact of_decide_eq_true (by first | (with_reducible assumption) | assumption) | (have e_ := (Kd.N_reads' HO181.out).1; omega)); obtain ⟨ua183_1, uc183_1, rfl, ul183_1, ge183_1⟩ := k47_openF hMe19961; have hv183_1 := hcc19961 1 _ rfl; rw [add_field _ _ 1 (by omega)] at hv183_1; replace hv183_1 := Option.some.inj (hv183_1.symm.trans hx183_1); injection hv183_1 with hva_ hvn_ hvc_; rw [hva_] at ge183_1; rw [hvc_] at ul183_1; have HL183_1 := mk_ (show Kd.V k40 40 _ w.heap.size _ _ ((rd_T47 t179 t182).f1) from Kd.V_mk ul183_1 ge183_1); clear hva_ hvn_ hvc_ ge183_1 ul183_1; clear hcc19961 hce19961; have HR183_1 := mk_ hi183_1; have HC183_1 := mk_ hl183_1; clear hi183_1 hl183_1; replace p19961 := eq_true p19961; replace q19961 := eq_true q19961; obtain ⟨hcz4740174_0, hcz4740174_1, hcz4740174_2, hcz4740174_3, hfz4740174_0, hfz4740174_1, hfz4740174_2, hfz4740174_3⟩ := cells4_ BK174.out) | (have zz_ := z3_; clear zz_; (with_reducible refine gate_callee (f := 51) rfl ?_); refine goesL_ (some 19) rfl rfl Try.func51 (by kernel_rfl) rfl #[.slice A0 l0.length c0, .int .i64 a1] rfl (by (try simp only [lm_, lo_, ln_]); try rfl) ?_; (with_reducible refine (spec_l9At.calls k _ _ l0 a1 t182 _ ?side1 ?side2 A6.out).mono ?_); (case side1 => repeat (first | exact (Kd.C_below HR0.out HB.out) | (with_reducible refine Kd.C_alloc ?_ _) | (with_reducible refine Kd.C_drewN ?_ _) | (with_reducible refine Kd.C_drew ?_))); (case side2 => exact HC0.out); rintro e w' ⟨rfl, ⟨nd, rfl⟩⟩; refine ⟨_, rfl, ?_⟩; (try simp only [World.drewN_drewN]); (try (rw [drewN_self w19920]; generalize hq_ : World.drewN w19920 _ = w19920; have n0_ : Aside0 (Kd.N k47 47 w19920 w.heap.size (fun k_ => (w.heap.size ≤ k_) ∧ k_ ≠ gb2280) v19921 t179) := ⟨by rw [← hq_]; exact (by (with_reducible repeat (first | apply Kd.N_alloc | apply Kd.N_drewN | apply Kd.N_drew)); exact HO181.out)⟩; have n1_ : Aside0 (w19920.heap[gb2280]? = some (.cells #[.int .i64 0, .int .i64 0, .int .i64 0, .slice none 0 0] 40 (0, 0))) := ⟨by rw [← hq_]; exact (u_ BK174.out)⟩; have n2_ : Aside0 (Below w.heap.size w w19920) := ⟨by rw [← hq_]; exact (us_ HB.out)⟩; clear HO181 BK174 HB hq_; have HO181 := n0_; have BK174 := n1_; have HB := n2_; clear n0_ n1_ n2_)); obtain ⟨Ao19960, co19960, eo19960⟩ := Kd.N_slice HO181.out; subst eo19960; have p19961 : 0 ≤ (t182 : Int) := of_decide_eq_true (by first | (with_reducible assumption) | assumption); have q19961 : t182 < (t179.length : Int) := of_decide_eq_true (by first | (with_reducible assumption) | assumption); obtain ⟨ad19961, A183_1, c183_1, e19961, hx183_0, hx183_1, hl183_1, hi183_1⟩ := at_T47 (Kd.N_reads' HO181.out).2.2 t182 p19961 q19961; cases e19961; obtain ⟨ce19961, hce19961, hMe19961, hcc19961⟩ := Kd.N_get HO181.out z47 t182 p19961 (by first | exact q19961 | exact of_decide_eq_true (by first | (with_reducible assumption) | assumption) | (have e_ := (Kd.N_reads' HO181.out).1; omega)); obtain ⟨ua183_1, uc183_1, rfl, ul183_1, ge183_1⟩ := k47_openF hMe19961; have hv183_1 := hcc19961 1 _ rfl; rw [add_field _ _ 1 (by omega)] at hv183_1; replace hv183_1 := Option.some.inj (hv183_1.symm.trans hx183_1); injection hv183_1 with hva_ hvn_ hvc_; rw [hva_] at ge183_1; rw [hvc_] at ul183_1; have HL183_1 := mk_ (show Kd.V k40 40 _ w.heap.size _ _ ((rd_T47 t179 t182).f1) from Kd.V_mk ul183_1 ge183_1); clear hva_ hvn_ hvc_ ge183_1 ul183_1; clear hcc19961 hce19961; have HR183_1 := mk_ hi183_1; have HC183_1 := mk_ hl183_1; clear hi183_1 hl183_1; replace p19961 := eq_true p19961; replace q19961 := eq_true q19961; have p19962 : 0 ≤ (t182 : Int) := of_decide_eq_true (by first | (with_reducible assumption) | assumption); have q19962 : t182 < (t179.length : Int) := of_decide_eq_true (by first | (with_reducible assumption) | assumption); obtain ⟨ad19962, A184_1, c184_1, e19962, hx184_0, hx184_1, hl184_1, hi184_1⟩ := at_T47 (Kd.N_reads' HO181.out).2.2 t182 p19962 q19962; obtain rfl : ad19961 = ad19962 := (by injection e19962); obtain ⟨ce19962, hce19962, hMe19962, hcc19962⟩ := Kd.N_get HO181.out z47 t182 p19962 (by first | exact q19962 | exact of_decide_eq_true (by first | (with_reducible assumption) | assumption) | (have e_ := (Kd.N_reads' HO181.out).1; omega)); obtain ⟨ua184_1, uc184_1, rfl, ul184_1, ge184_1⟩ := k47_openF hMe19962; have hv184_1 := hcc19962 1 _ rfl; rw [add_field _ _ 1 (by omega)] at hv184_1; replace hv184_1 := Option.some.inj (hv184_1.symm.trans hx184_1); injection hv184_1 with hva_ hvn_ hvc_; rw [hva_] at ge184_1; rw [hvc_] at ul184_1; have HL184_1 := mk_ (show Kd.V k40 40 _ w.heap.size _ _ ((rd_T47 t179 t182).f1) from Kd.V_mk ul184_1 ge184_1); clear hva_ hvn_ hvc_ ge184_1 ul184_1; clear hcc19962 hce19962; have HR184_1 := mk_ hi184_1; have HC184_1 := mk_ hl184_1; clear hi184_1 hl184_1; replace p19962 := eq_true p19962; replace q19962 := eq_true q19962; have ea_ := Option.some.inj (hx183_1.symm.trans hx184_1); injection ea_ with ea_ en_ ec_; subst ea_; subst ec_; clear en_; have p19963 : 0 ≤ (0 : Int) := (by omega); have q19963 : 0 < (((rd_T47 t179 t182).f1).length : Int) := of_decide_eq_true (by first | (with_reducible assumption) | assumption); obtain ⟨ad19963, A185_3, c185_3, e19963, hx185_0, hx185_1, hx185_2, hx185_3, hl185_3, hi185_3⟩ := at_T40 (by repeat (first | (with_reducible exact HR184_1.out) | (with_reducible refine Kd.C_alloc ?_ _) | (with_reducible refine Kd.C_drewN ?_ _) | (with_reducible refine Kd.C_drew ?_) | exact HR184_1.out)) 0 p19963 q19963; cases e19963; obtain ⟨ce19963, hce19963, hMe19963, hcc19963⟩ := Kd.V_get HL184_1.out z40 0 p19963 (by first | exact q19963 | exact of_decide_eq_true (by first | (with_reducible assumption) | assumption) | (have e_ := (Kd.V_reads' HL184_1.out).1; omega)); obtain ⟨ua185_3, uc185_3, rfl, ul185_3, ge185_3⟩ := k40_openF hMe19963; have hv185_3 := hcc19963 3 _ rfl; rw [add_field _ _ 3 (by omega)] at hv185_3; replace hv185_3 := Option.some.inj (hv185_3.symm.trans hx185_3); injection hv185_3 with hva_ hvn_ hvc_; rw [hva_] at ge185_3; rw [hvc_] at ul185_3; have HL185_3 := mk_ (show Kd.V (Kd.int .u8) 5 _ w.heap.size _ _ ((rd_T40 ((rd_T47 t179 t182).f1) 0).f3) from Kd.V_mk ul185_3 ge185_3); clear hva_ hvn_ hvc_ ge185_3 ul185_3; clear hcc19963 hce19963; have qi19963 : (0 < ((rd_T47 t179 t182).f1).length) = True := eq_true (by omega); (try rw [show ((0 : Int)).toNat = 0 from rfl] at hx185_0); (try rw [show 0 * 4 = 0 from rfl] at hx185_0); (try rw [Addr.add_zero'] at hx185_0); (try rw [show ((0 : Int)).toNat = 0 from rfl] at hx185_1); (try rw [show 0 * 4 = 0 from rfl] at hx185_1); (try rw [Addr.add_zero'] at hx185_1); (try rw [show ((0 : Int)).toNat = 0 from rfl] at hx185_2); (try rw [show 0 * 4 = 0 from rfl] at hx185_2); (try rw [Addr.add_zero'] at hx185_2); (try rw [show ((0 : Int)).toNat = 0 from rfl] at hx185_3); (try rw [show 0 * 4 = 0 from rfl] at hx185_3); (try rw [Addr.add_zero'] at hx185_3); have HR185_3 := mk_ hi185_3; have HC185_3 := mk_ hl185_3; clear hi185_3 hl185_3; replace p19963 := eq_true p19963; replace q19963 := eq_true q19963) | ((with_reducible refine gate_dst (N := 9) rfl ?_); refine box_event ?hg (N := 9) ?hd (cs := #[.int .i64 0, .int .i64 0, .int .i64 0, .slice none 0 0]) (t := 40) ?hr ?_; (case hd => rfl); (case hg => rfl); (case hr => first | (go_simp; done) | (go_simp; rfl)); intro gb20000 hg w20001 hbox hb; replace HO181 := mk_ (Kd.N_below (Kd.N_elderB (by (with_reducible repeat (first | apply Kd.N_alloc | apply Kd.N_drewN | apply Kd.N_drew)); exact HO181.out) gb20000 (Nat.le_of_eq hg.symm)) hb); replace HL183_1 := mk_ (Kd.V_below (Kd.V_elderB (by (with_reducible repeat (first | apply Kd.V_alloc | apply Kd.V_drewN | apply Kd.V_drew)); exact HL183_1.out) gb20000 (Nat.le_of_eq hg.symm)) hb); replace HL184_1 := mk_ (Kd.V_below (Kd.V_elderB (by (with_reducible repeat (first | apply Kd.V_alloc | apply Kd.V_drewN | apply Kd.V_drew)); exact HL184_1.out) gb20000 (Nat.le_of_eq hg.symm)) hb); replace HL185_3 := mk_ (Kd.V_below (Kd.V_elderB (by (with_reducible repeat (first | apply Kd.V_alloc | apply Kd.V_drewN | apply Kd.V_drew)); exact HL185_3.out) gb20000 (Nat.le_of_eq hg.symm)) hb); have n4_ := mk_ (blk_below (u_ BK174.out) hb); replace HR183_1 := mk_ (Kd.C_below (by repeat (first | (with_reducible exact HR183_1.out) | (with_reducible refine Kd.C_alloc ?_ _) | (with_reducible refine Kd.C_drewN ?_ _) | (with_reducible refine Kd.C_drew ?_) | exact HR183_1.out)) hb); replace HR184_1 := mk_ (Kd.C_below (by repeat (first | (with_reducible exact HR184_1.out) | (with_reducible refine Kd.C_alloc ?_ _) | (with_reducible refine Kd.C_drewN ?_ _) | (with_reducible refine Kd.C_drew ?_) | exact HR184_1.out)) hb); replace HR185_3 := mk_ (Kd.C_below (by repeat (first | (with_reducible exact HR185_3.out) | (with_reducible refine Kd.C_alloc ?_ _) | (with_reducible refine Kd.C_drewN ?_ _) | (with_reducible refine Kd.C_drew ?_) | exact HR185_3.out)) hb); have n8_ := mk_ (below_step (us_ HB.out) hb); have BK186 := mk_ (hbox); have GW186 := mk_ ((by rw [hg]; exact (below_size (us_ HB.out)) : w.heap.size ≤ gb20000)); have GE186 := ge_ ((by rw [hg]; exact (below_size (us_ HB.out)) : w.heap.size ≤ gb20000)); have NB174_186 := nq_ ((by rw [hg]; exact Nat.ne_of_lt (blk_lt (u_ BK174.out)) : gb2280 ≠ gb20000)); have NB186_174 := nq_ ((by rw [hg]; exact Nat.ne_of_gt (blk_lt (u_ BK174.out)) : gb20000 ≠ gb2280)); replace BK174 := n4_; replace HB := n8_; clear n4_ n8_; clear hb hbox hg; have hnb4750174186 := NB186_174.out; have hnc4750174186 := NB174_186.out; obtain ⟨_, _, _, _, _, _, _, _⟩ := cells4_ BK186.out) | ((with_reducible refine gate_store (t := 40) (p := 9) rfl ?_); refine store_event (t := 40) (p := 9) (v := ?_) (w1 := ?_) ?hg ?ho ?hn ?hr ?_; (case ho => rfl); (case hg => rfl); (case hn => rfl); (case hr => first | (go_simp; done) | (go_simp; rfl)); intro w20040 hw; have n0_ : Aside0 (Kd.N k47 47 w20040 w.heap.size (fun k_ => (w.heap.size ≤ k_) ∧ k_ ≠ gb2280 ∧ k_ ≠ gb20000) (.slice (some ad19961) t179.length co19960) t179) := ⟨(by rw [hw]; exact (by (with_reducible repeat (first | apply Kd.N_alloc | apply Kd.N_drewN | apply Kd.N_drew)); exact Kd.N_mono (Kd.N_far (p := ⟨gb20000, 3, none⟩) (Kd.N_far (p := ⟨gb20000, 2, none⟩) (Kd.N_far (p := ⟨gb20000, 1, none⟩) (Kd.N_far (p := ⟨gb20000, 0, none⟩) (Kd.N_mono HO181.out (fun k_ hk => (⟨hk, hk.2⟩ : _ ∧ k_ ≠ gb20000))) (fun _ hk => hk.2) (.int .i64 ((rd_T40 ((rd_T47 t179 t182).f1) 0).f0))) (fun _ hk => hk.2) (.int .i64 ((rd_T40 ((rd_T47 t179 t182).f1) 0).f1))) (fun _ hk => hk.2) (.int .i64 ((rd_T40 ((rd_T47 t179 t182).f1) 0).f2))) (fun _ hk => hk.2) (.slice A185_3 ((rd_T40 ((rd_T47 t179 t182).f1) 0).f3).length c185_3)) (fun _ hk => by first | exact ⟨hk.1.1.1, ⟨hk.1.1.2, hk.1.2⟩⟩ | exact hk.1 | exact hk | exact ⟨hk.1, hk.2⟩ | exact ⟨.inr hk.1, hk.2⟩ | simp only [hk, ne_eq, not_false_eq_true, and_self])))⟩; have n1_ : Aside0 (Kd.V k40 40 w20040 w.heap.size (fun k_ => (w.heap.size ≤ k_) ∧ some k_ ≠ (.slice (some ad19961) t179.length co19960 : Value).ownBlock ∧ k_ ≠ gb2280 ∧ k_ ≠ gb20000) (.slice (some ad19963) ((rd_T47 t179 t182).f1).length c183_1) ((rd_T47 t179 t182).f1)) := ⟨(by rw [hw]; exact (by (with_reducible repeat (first | apply Kd.V_alloc | apply Kd.V_drewN | apply Kd.V_drew)); exact Kd.V_mono (Kd.V_far (p := ⟨gb20000, 3, none⟩) (Kd.V_far (p := ⟨gb20000, 2, none⟩) (Kd.V_far (p := ⟨gb20000, 1, none⟩) (Kd.V_far (p := ⟨gb20000, 0, none⟩) (Kd.V_mono HL183_1.out (fun k_ hk => (⟨hk, hk.2⟩ : _ ∧ k_ ≠ gb20000))) (fun _ hk => hk.2) (.int .i64 ((rd_T40 ((rd_T47 t179 t182).f1) 0).f0))) (fun _ hk => hk.2) (.int .i64 ((rd_T40 ((rd_T47 t179 t182).f1) 0).f1))) (fun _ hk => hk.2) (.int .i64 ((rd_T40 ((rd_T47 t179 t182).f1) 0).f2))) (fun _ hk => hk.2) (.slice A185_3 ((rd_T40 ((rd_T47 t179 t182).f1) 0).f3).length c185_3)) (fun _ hk => by first | exact ⟨hk.1.1.1.1, ⟨hk.1.1.2, ⟨hk.1.1.1.2, hk.1.2⟩⟩⟩ | exact hk.1 | exact hk | exact ⟨hk.1, hk.2⟩ | exact ⟨.inr hk.1, hk.2⟩ | simp only [hk, ne_eq, not_false_eq_true, and_self])))⟩; have n2_ : Aside0 (Kd.V k40 40 w20040 w.heap.size (fun k_ => (w.heap.size ≤ k_) ∧ some k_ ≠ (.slice (some ad19961) t179.length co19960 : Value).ownBlock ∧ k_ ≠ gb2280 ∧ k_ ≠ gb20000) (.slice (some ad19963) ((rd_T47 t179 t182).f1).length c183_1) ((rd_T47 t179 t182).f1)) := ⟨(by rw [hw]; exact (by (with_reducible repeat (first | apply Kd.V_alloc | apply Kd.V_drewN | apply Kd.V_drew)); exact Kd.V_mono (Kd.V_far (p := ⟨gb20000, 3, none⟩) (Kd.V_far (p := ⟨gb20000, 2, none⟩) (Kd.V_far (p := ⟨gb20000, 1, none⟩) (Kd.V_far (p := ⟨gb20000, 0, none⟩) (Kd.V_mono HL184_1.out (fun k_ hk => (⟨hk, hk.2⟩ : _ ∧ k_ ≠ gb20000))) (fun _ hk => hk.2) (.int .i64 ((rd_T40 ((rd_T47 t179 t182).f1) 0).f0))) (fun _ hk => hk.2) (.int .i64 ((rd_T40 ((rd_T47 t179 t182).f1) 0).f1))) (fun _ hk => hk.2) (.int .i64 ((rd_T40 ((rd_T47 t179 t182).f1) 0).f2))) (fun _ hk => hk.2) (.slice A185_3 ((rd_T40 ((rd_T47 t179 t182).f1) 0).f3).length c185_3)) (fun _ hk => by first | exact ⟨hk.1.1.1.1, ⟨hk.1.1.2, ⟨hk.1.1.1.2, hk.1.2⟩⟩⟩ | exact hk.1 | exact hk | exact ⟨hk.1, hk.2⟩ | exact ⟨.inr hk.1, hk.2⟩ | simp only [hk, ne_eq, not_false_eq_true, and_self])))⟩; have n3_ : Aside0 (Kd.V (Kd.int .u8) 5 w20040 w.heap.size (fun k_ => (w.heap.size ≤ k_) ∧ some k_ ≠ (.slice (some ad19961) t179.length co19960 : Value).ownBlock ∧ k_ ≠ gb2280 ∧ k_ ≠ gb20000) (.slice A185_3 ((rd_T40 ((rd_T47 t179 t182).f1) 0).f3).length c185_3) ((rd_T40 ((rd_T47 t179 t182).f1) 0).f3)) := ⟨(by rw [hw]; exact (by (with_reducible repeat (first | apply Kd.V_alloc | apply Kd.V_drewN | apply Kd.V_drew)); exact Kd.V_mono (Kd.V_far (p := ⟨gb20000, 3, none⟩) (Kd.V_far (p := ⟨gb20000, 2, none⟩) (Kd.V_far (p := ⟨gb20000, 1, none⟩) (Kd.V_far (p := ⟨gb20000, 0, none⟩) (Kd.V_mono HL185_3.out (fun k_ hk => (⟨hk, hk.2⟩ : _ ∧ k_ ≠ gb20000))) (fun _ hk => hk.2) (.int .i64 ((rd_T40 ((rd_T47 t179 t182).f1) 0).f0))) (fun _ hk => hk.2) (.int .i64 ((rd_T40 ((rd_T47 t179 t182).f1) 0).f1))) (fun _ hk => hk.2) (.int .i64 ((rd_T40 ((rd_T47 t179 t182).f1) 0).f2))) (fun _ hk => hk.2) (.slice A185_3 ((rd_T40 ((rd_T47 t179 t182).f1) 0).f3).length c185_3)) (fun _ hk => by first | exact ⟨hk.1.1.1.1, ⟨hk.1.1.2, ⟨hk.1.1.1.2, hk.1.2⟩⟩⟩ | exact hk.1 | exact hk | exact ⟨hk.1, hk.2⟩ | exact ⟨.inr hk.1, hk.2⟩ | simp only [hk, ne_eq, not_false_eq_true, and_self])))⟩; have n4_ : Aside0 (w20040.heap[gb2280]? = some (.cells #[.int .i64 0, .int .i64 0, .int .i64 0, .slice none 0 0] 40 (0, 0))) := ⟨(by rw [hw]; exact (uf_ BK174.out))⟩; have n5_ : Aside0 (w20040.heap[gb20000]? = some (.cells #[.int .i64 ((rd_T40 ((rd_T47 t179 t182).f1) 0).f0), .int .i64 ((rd_T40 ((rd_T47 t179 t182).f1) 0).f1), .int .i64 ((rd_T40 ((rd_T47 t179 t182).f1) 0).f2), .slice A185_3 ((rd_T40 ((rd_T47 t179 t182).f1) 0).f3).length c185_3] 40 (0, 0))) := ⟨(by rw [hw]; exact (by (with_reducible repeat (first | refine bn_ ?_ _ | refine bw_ ?_ | refine ba_ ?_ _)); refine blk_put (cs := #[.int .i64 ((rd_T40 ((rd_T47 t179 t182).f1) 0).f0), .int .i64 ((rd_T40 ((rd_T47 t179 t182).f1) 0).f1), .int .i64 ((rd_T40 ((rd_T47 t179 t182).f1) 0).f2), .slice none 0 0]) ?_ 3 _ rfl; (with_reducible repeat (first | refine bn_ ?_ _ | refine bw_ ?_ | refine ba_ ?_ _)); refine blk_put (cs := #[.int .i64 ((rd_T40 ((rd_T47 t179 t182).f1) 0).f0), .int .i64 ((rd_T40 ((rd_T47 t179 t182).f1) 0).f1), .int .i64 0, .slice none 0 0]) ?_ 2 _ rfl; (with_reducible repeat (first | refine bn_ ?_ _ | refine bw_ ?_ | refine ba_ ?_ _)); refine blk_put (cs := #[.int .i64 ((rd_T40 ((rd_T47 t179 t182).f1) 0).f0), .int .i64 0, .int .i64 0, .slice none 0 0]) ?_ 1 _ rfl; (with_reducible repeat (first | refine bn_ ?_ _ | refine bw_ ?_ | refine ba_ ?_ _)); refine blk_put (cs := #[.int .i64 0, .int .i64 0, .int .i64 0, .slice none 0 0]) ?_ 0 _ rfl; (with_reducible repeat (first | refine bn_ ?_ _ | refine bw_ ?_ | refine ba_ ?_ _)); exact BK186.out))⟩; have n6_ : Aside0 (Below w.heap.size w w20040) := ⟨(by rw [hw]; exact (us_ HB.out))⟩; clear hw; clear HO181; clear HL183_1; clear HL184_1; clear HL185_3; clear BK174; clear BK186; clear HB; have HO181 := n0_; have HL183_1 := n1_; have HL184_1 := n2_; have HL185_3 := n3_; have BK174 := n4_; have BK186 := n5_; have HB := n6_; clear n0_ n1_ n2_ n3_ n4_ n5_ n6_; have p20041 : 0 ≤ (t182 : Int) := of_decide_eq_true (by first | (with_reducible assumption) | assumption); have q20041 : t182 < (t179.length : Int) := of_decide_eq_true (by first | (with_reducible assumption) | assumption); obtain ⟨ad20041, A187_1, c187_1, e20041, hx187_0, hx187_1, hl187_1, hi187_1⟩ := at_T47 (Kd.N_reads' HO181.out).2.2 t182 p20041 q20041; obtain rfl : ad19961 = ad20041 := (by injection e20041); obtain ⟨ce20041, hce20041, hMe20041, hcc20041⟩ := Kd.N_get HO181.out z47 t182 p20041 (by first | exact q20041 | exact of_decide_eq_true (by first | (with_reducible assumption) | assumption) | (have e_ := (Kd.N_reads' HO181.out).1; omega)); obtain ⟨ua187_1, uc187_1, rfl, ul187_1, ge187_1⟩ := k47_openF hMe20041; have hv187_1 := hcc20041 1 _ rfl; rw [add_field _ _ 1 (by omega)] at hv187_1; replace hv187_1 := Option.some.inj (hv187_1.symm.trans hx187_1); injection hv187_1 with hva_ hvn_ hvc_; rw [hva_] at ge187_1; rw [hvc_] at ul187_1; have HL187_1 := mk_ (show Kd.V k40 40 _ w.heap.size _ _ ((rd_T47 t179 t182).f1) from Kd.V_mk ul187_1 ge187_1); clear hva_ hvn_ hvc_ ge187_1 ul187_1; clear hcc20041 hce20041; have HR187_1 := mk_ hi187_1; have HC187_1 := mk_ hl187_1; clear hi187_1 hl187_1; replace p20041 := eq_true p20041; replace q20041 := eq_true q20041; have q20042 : (1 : Int) ≤ ((((rd_T47 t179 t182).f1).length : Int) : Int) := of_decide_eq_true (by first | (with_reducible assumption) | assumption); obtain ⟨i20043, hi20043, _, hsz20042, _⟩ := info_parts info40; have hroom20042 : ((rd_T47 t179 t182).f1).length ≤ c187_1 := HC187_1.out; have hC20042 : Kd.F k40 _ _ A187_1 ((rd_T47 t179 t182).f1).length ((rd_T47 t179 t182).f1) := (Kd.V_at (base := w.heap.size) HL187_1.out).2.2; have hcut20042 := cut_from (P := Try.prog) 45 40 .i64 Try.underlying45 hi20043 4 hsz20042 A187_1 ((rd_T47 t179 t182).f1).length c187_1 1 (by omega) q20042; have hr20042 := Kd.F_cut (m := (1 : Int).toNat) (c := c187_1) hC20042 (by omega) hroom20042; obtain ⟨A31, hA31⟩ : ∃ A1, A1 = (if c187_1 = (1 : Int).toNat then A187_1 else (A187_1 : Option Addr).map (·.add ((1 : Int).toNat * 4))) := ⟨_, rfl⟩; obtain ⟨c31, hc31⟩ : ∃ c1, c1 = c187_1 - (1 : Int).toNat := ⟨_, rfl⟩; have hy20042 : y188.length = ((rd_T47 t179 t182).f1).length - (1 : Int).toNat := (by rw [Ny188.out, List.length_drop] <;> omega); rw [show ((rd_T47 t179 t182).f1).drop (1 : Int).toNat = y188 from Ny188.out.symm] at hr20042; replace hr20042 : Kd.F k40 _ _ A31 y188.length y188 := (by rw [hA31]; exact hr20042); rw [← hy20042, ← hA31, ← hc31] at hcut20042; have HO192 := mk_ (show Kd.V k40 40 _ w.heap.size _ (.slice A31 y188.length c31) y188 from Kd.V_mk (by rw [hy20042, hc31]; exact Nat.sub_le_sub_right hroom20042 _) hr20042); have HC20044 := mk_ (show y188.length ≤ c31 from by rw [hy20042, hc31]; exact Nat.sub_le_sub_right hroom20042 _); clear hr20042 hC20042 hroom20042 hi20043 hsz20042 hc31; have KY20042 := mk_ hy20042; have KA20042 := mk_ hA31; clear hy20042 hA31; replace q20042 := eq_true q20042; have p20045 : 0 ≤ (t182 : Int) := of_decide_eq_true (by first | (with_reducible assumption) | assumption); have q20045 : (t182 : Int) < ((t179.length : Int) : Int) := of_decide_eq_true (by first | (with_reducible assumption) | assumption); obtain ⟨go20045, co20045, eo20045, gb20045, gl20045, cl20045, HG20045⟩ := Kd.N_form HO181.out (by omega); (first | cases eo20045 | (injection eo20045 with ea_ en_ ec_; (first | subst ea_ | (injection ea_ with ea_; subst ea_)); subst ec_; clear en_)); have GB20045 := mk_ gb20045; have GG20045 := mk_ HG20045; clear gb20045 gl20045 HG20045; (first | simp only [add_plain] at hx183_0 | skip); (first | simp only [add_plain] at hx183_1 | skip); (first | simp only [add_plain] at hx184_0 | skip); (first | simp only [add_plain] at hx184_1 | skip); (first | simp only [add_plain] at hx187_0 | skip); (first | simp only [add_plain] at hx187_1 | skip); obtain ⟨ce20045, hcl20045, hM20045, hcc20045, hfr20045⟩ := Kd.N_elem HO181.out z47 (t182 : Int) p20045 q20045; obtain ⟨ua22_1, uc22_1, rfl, ul22_1, ge22_1⟩ := k47_openF hM20045; have hx22_0 : w20040.cell? ⟨go20045, (t182 : Int).toNat * 2, none⟩ = some (.int .i64 ((rd_T47 t179 t182).f0)) := hcc20045 0 _ rfl; have hx22_1 : w20040.cell? ⟨go20045, (t182 : Int).toNat * 2 + 1, none⟩ = some (.slice ua22_1 ((rd_T47 t179 t182).f1).length uc22_1) := hcc20045 1 _ rfl; have hf22_0 : w20040.frozen? ⟨go20045, (t182 : Int).toNat * 2, none⟩ = false := hfr20045 0; have hf22_1 : w20040.frozen? ⟨go20045, (t182 : Int).toNat * 2 + 1, none⟩ = false := hfr20045 1; clear hcl20045 hcc20045 hfr20045 hM20045; replace p20045 := eq_true p20045; replace q20045 := eq_true q20045; have HX20046 := mk_ (show Kd.N k47 47 w20040 w.heap.size (fun k_ => (w.heap.size ≤ k_) ∧ k_ ≠ gb2280 ∧ k_ ≠ gb20000) (.slice (some ⟨go20045, 0, none⟩) t179.length co19960) t179 from (by (with_reducible repeat (first | apply Kd.N_alloc | apply Kd.N_drewN | apply Kd.N_drew)); exact HO181.out)); obtain ⟨ce20046, hcl20046, hM20046, hcc20046, hfr20046⟩ := Kd.N_elem HX20046.out z47 (t182 : Int) (of_decide_eq_true (by first | (with_reducible assumption) | assumption)) (by have h_ : (t182 : Int) < ((t179.length : Int) : Int) := of_decide_eq_true (by first | (with_reducible assumption) | assumption); first | exact h_ | (have e_ := (Kd.N_reads' HO181.out).1; omega) | simpa using h_); obtain ⟨ua32_1, uc32_1, rfl, ul32_1, ge32_1⟩ := k47_openF hM20046; have HP20046 := Kd.N_seg HX20046.out (t182 : Int) (of_decide_eq_true (by first | (with_reducible assumption) | assumption)) (by have h_ : (t182 : Int) < ((t179.length : Int) : Int) := of_decide_eq_true (by first | (with_reducible assumption) | assumption); first | exact h_ | (have e_ := (Kd.N_reads' HO181.out).1; omega) | simpa using h_) (seg := [.slice A31 y188.length c31]) (j := 1) hcl20046 hcc20046 (show 2 ≤ 2 from by decide) (x' := (⟨(rd_T47 t179 t182).f0, y188⟩ : S47)) (k47_mkF _ _ (⟨(rd_T47 t179 t182).f0, y188⟩ : S47) (Kd.V_reads' (Kd.V_mono (ok' := (fun k_ => ((fun k_ => (w.heap.size ≤ k_) ∧ k_ ≠ gb2280 ∧ k_ ≠ gb20000)) k_ ∧ k_ ≠ go20045)) (HO192.out) (fun k_ hk => ⟨⟨hk.1.1, ⟨hk.1.2.1, hk.1.2.2⟩⟩, fun e_ => (hk.2) (by rw [e_]; rfl)⟩))).2.1 (Kd.V_F (Kd.V_mono (ok' := (fun k_ => ((fun k_ => (w.heap.size ≤ k_) ∧ k_ ≠ gb2280 ∧ k_ ≠ gb20000)) k_ ∧ k_ ≠ go20045)) (HO192.out) (fun k_ hk => ⟨⟨hk.1.1, ⟨hk.1.2.1, hk.1.2.2⟩⟩, fun e_ => (hk.2) (by rw [e_]; rfl)⟩)))) (fun _ hk => hk); have hx32_1 := hcc20046 1 _ rfl; (try simp only [show (k47).sz = 2 from rfl, Nat.mul_one, Nat.add_zero] at hx32_1); have hf32_1 := hfr20046 1; (try simp only [show (k47).sz = 2 from rfl, Nat.mul_one, Nat.add_zero] at hf32_1); clear hcl20046 hcc20046 hfr20046 hM20046) | ((with_reducible refine gate_store (t := 45) (p := 49) rfl ?_); refine store_event (t := 45) (p := 49) (v := ?_) (w1 := (w20040.setCell ⟨go20045, (t182 : Int).toNat * 2 + 1, none⟩ (.slice A31 y188.length c31))) ?hg ?ho ?hn ?hr ?_; (case ho => rfl); (case hg => rfl); (case hn => rfl); (case hr => first | (go_simp; done) | (go_simp; rfl)); intro w20080 hw; have hg : w20040.grownBy w20080 (some go20045) := (by rw [hw]; exact HP20046.2); have hp_ : Kd.N k47 47 w20080 w.heap.size (fun k_ => (w.heap.size ≤ k_) ∧ k_ ≠ gb2280 ∧ k_ ≠ gb20000) (.slice (some ⟨go20045, 0, none⟩) t179.length co19960) y193 := (by rw [hw, Ny193.out]; exact HP20046.1); clear HP20046; replace BK174 := mk_ (blk_grown (g := gb2280) (o := .cells #[.int .i64 0, .int .i64 0, .int .i64 0, .slice none 0 0] 40 (0, 0)) (u_ BK174.out) hg (Kd.N_ne HO181.out BK174.out (by decide))); have n1_ := mk_ (hp_); replace HL183_1 := mk_ (Kd.V_afterv (v := (.slice (some ⟨go20045, 0, none⟩) t179.length co19960)) (v1 := (.slice (some ⟨go20045, 0, none⟩) t179.length co19960)) (ok := (fun k_ => (w.heap.size ≤ k_) ∧ k_ ≠ gb2280 ∧ k_ ≠ gb20000)) (by (with_reducible repeat (first | apply Kd.V_alloc | apply Kd.V_drewN | apply Kd.V_drew)); exact Kd.V_mono HL183_1.out (fun _ hk => by first | exact ⟨⟨hk.1, ⟨hk.2.2.1, hk.2.2.2⟩⟩, hk.2.1⟩ | exact hk.1 | exact hk | exact ⟨hk.1, hk.2⟩ | exact ⟨.inr hk.1, hk.2⟩ | simp only [hk, ne_eq, not_false_eq_true, and_self])) hg (.inl rfl)); replace HL184_1 := mk_ (Kd.V_afterv (v := (.slice (some ⟨go20045, 0, none⟩) t179.length co19960)) (v1 := (.slice (some ⟨go20045, 0, none⟩) t179.length co19960)) (ok := (fun k_ => (w.heap.size ≤ k_) ∧ k_ ≠ gb2280 ∧ k_ ≠ gb20000)) (by (with_reducible repeat (first | apply Kd.V_alloc | apply Kd.V_drewN | apply Kd.V_drew)); exact Kd.V_mono HL184_1.out (fun _ hk => by first | exact ⟨⟨hk.1, ⟨hk.2.2.1, hk.2.2.2⟩⟩, hk.2.1⟩ | exact hk.1 | exact hk | exact ⟨hk.1, hk.2⟩ | exact ⟨.inr hk.1, hk.2⟩ | simp only [hk, ne_eq, not_false_eq_true, and_self])) hg (.inl rfl)); replace HL185_3 := mk_ (Kd.V_afterv (v := (.slice (some ⟨go20045, 0, none⟩) t179.length co19960)) (v1 := (.slice (some ⟨go20045, 0, none⟩) t179.length co19960)) (ok := (fun k_ => (w.heap.size ≤ k_) ∧ k_ ≠ gb2280 ∧ k_ ≠ gb20000)) (by (with_reducible repeat (first | apply Kd.V_alloc | apply Kd.V_drewN | apply Kd.V_drew)); exact Kd.V_mono HL185_3.out (fun _ hk => by first | exact ⟨⟨hk.1, ⟨hk.2.2.1, hk.2.2.2⟩⟩, hk.2.1⟩ | exact hk.1 | exact hk | exact ⟨hk.1, hk.2⟩ | exact ⟨.inr hk.1, hk.2⟩ | simp only [hk, ne_eq, not_false_eq_true, and_self])) hg (.inl rfl)); replace BK186 := mk_ (blk_grown (g := gb20000) (o := .cells #[.int .i64 ((rd_T40 ((rd_T47 t179 t182).f1) 0).f0), .int .i64 ((rd_T40 ((rd_T47 t179 t182).f1) 0).f1), .int .i64 ((rd_T40 ((rd_T47 t179 t182).f1) 0).f2), .slice A185_3 ((rd_T40 ((rd_T47 t179 t182).f1) 0).f3).length c185_3] 40 (0, 0)) (u_ BK186.out) hg (Kd.N_ne HO181.out BK186.out (by decide))); replace HL187_1 := mk_ (Kd.V_afterv (v := (.slice (some ⟨go20045, 0, none⟩) t179.length co19960)) (v1 := (.slice (some ⟨go20045, 0, none⟩) t179.length co19960)) (ok := (fun k_ => (w.heap.size ≤ k_) ∧ k_ ≠ gb2280 ∧ k_ ≠ gb20000)) (by (with_reducible repeat (first | apply Kd.V_alloc | apply Kd.V_drewN | apply Kd.V_drew)); exact HL187_1.out) hg (.inl rfl)); replace HO192 := mk_ (Kd.V_afterv (v := (.slice (some ⟨go20045, 0, none⟩) t179.length co19960)) (v1 := (.slice (some ⟨go20045, 0, none⟩) t179.length co19960)) (ok := (fun k_ => (w.heap.size ≤ k_) ∧ k_ ≠ gb2280 ∧ k_ ≠ gb20000)) (by (with_reducible repeat (first | apply Kd.V_alloc | apply Kd.V_drewN | apply Kd.V_drew)); exact HO192.out) hg (.inl rfl)); replace HB := mk_ ((by rw [hw]; exact below_set (HB.out) GB20045.out : Below w.heap.size w w20080)); replace HO181 := n1_; clear n1_; clear hg hw hp_))
 iterate 3
  focus
   refine bodyPost_ret (results_list (rs := [.tmp 4, .cell 5 40, .tmp 6]) rfl (by simp) (.tmp (.cell gb2280 40 #[.int .i64 0, .int .i64 0, .int .i64 0, .slice none 0 0] (0, 0) _ rfl (by (with_reducible repeat (first | refine bn_ ?_ _ | refine bw_ ?_ | refine ba_ ?_ _)); refine blk_put (cs := #[.int .i64 0, .int .i64 0, .int .i64 0, .slice none 0 0]) ?_ 3 _ rfl; (with_reducible repeat (first | refine bn_ ?_ _ | refine bw_ ?_ | refine ba_ ?_ _)); refine blk_put (cs := #[.int .i64 0, .int .i64 0, .int .i64 0, .slice none 0 0]) ?_ 2 _ rfl; (with_reducible repeat (first | refine bn_ ?_ _ | refine bw_ ?_ | refine ba_ ?_ _)); refine blk_put (cs := #[.int .i64 0, .int .i64 0, .int .i64 0, .slice none 0 0]) ?_ 1 _ rfl; (with_reducible repeat (first | refine bn_ ?_ _ | refine bw_ ?_ | refine ba_ ?_ _)); refine blk_put (cs := #[.int .i64 0, .int .i64 0, .int .i64 0, .slice none 0 0]) ?_ 0 _ rfl; (with_reducible repeat (first | refine bn_ ?_ _ | refine bw_ ?_ | refine ba_ ?_ _)); exact BK174.out) Try.underlying40 rfl (by kernel_rfl) (.tmp .nil)))) rfl ?_
  rotate_left
 rotate_right 3
 ·exact ⟨_, _, by first | rfl | (simp [errW_none, errW_some] <;> rfl) | (simp [*, errW_none, errW_some] <;> rfl), by (with_reducible repeat (first | apply Kd.N_alloc | apply Kd.N_drewN | apply Kd.N_drew)); exact Kd.N_mono (Kd.N_far (p := ⟨gb2280, 3, none⟩) (Kd.N_far (p := ⟨gb2280, 2, none⟩) (Kd.N_far (p := ⟨gb2280, 1, none⟩) (Kd.N_far (p := ⟨gb2280, 0, none⟩) (Kd.N_mono HO178.out (fun k_ hk => (⟨hk, hk.2⟩ : _ ∧ k_ ≠ gb2280))) (fun _ hk => hk.2) (.int .i64 0)) (fun _ hk => hk.2) (.int .i64 0)) (fun _ hk => hk.2) (.int .i64 0)) (fun _ hk => hk.2) (.slice none 0 0)) (fun _ hk => hk.1.1), Kd.R_V (base := w.heap.size) (by first | exact Kd.R_nil _ _ _ _ _ | exact Kd.N_nil _ _ _ _ _ | exact Kd.V_nil _ _ _ _ _ | exact Kd.Q_nil _ _ _ _ _ | exact Kd.S_nil _ _ _ _ _), us_ HB.out⟩
 iterate 2
  focus
   exact ⟨_, _, by first | rfl | (simp [errW_none, errW_some] <;> rfl) | (simp [*, errW_none, errW_some] <;> rfl), by (with_reducible repeat (first | apply Kd.N_alloc | apply Kd.N_drewN | apply Kd.N_drew)); exact Kd.N_mono (Kd.N_far (p := ⟨gb2280, 3, none⟩) (Kd.N_far (p := ⟨gb2280, 2, none⟩) (Kd.N_far (p := ⟨gb2280, 1, none⟩) (Kd.N_far (p := ⟨gb2280, 0, none⟩) (Kd.N_mono HO181.out (fun k_ hk => (⟨hk, hk.2⟩ : _ ∧ k_ ≠ gb2280))) (fun _ hk => hk.2) (.int .i64 0)) (fun _ hk => hk.2) (.int .i64 0)) (fun _ hk => hk.2) (.int .i64 0)) (fun _ hk => hk.2) (.slice none 0 0)) (fun _ hk => hk.1.1), Kd.R_V (base := w.heap.size) (by first | exact Kd.R_nil _ _ _ _ _ | exact Kd.N_nil _ _ _ _ _ | exact Kd.V_nil _ _ _ _ _ | exact Kd.Q_nil _ _ _ _ _ | exact Kd.S_nil _ _ _ _ _), us_ HB.out⟩
 ·have n0_ := mk_ (Kd.N_drew HO181.out)
  have n1_ := mk_ (Kd.V_drew HL183_1.out)
  have n2_ := mk_ (Kd.V_drew HL184_1.out)
  have n3_ := mk_ (Kd.V_drew HL185_3.out)
  have n4_ := mk_ (Kd.V_drew HL187_1.out)
  have n5_ := mk_ (Kd.V_drew HO192.out)
  have n6_ := mk_ (blk_drew BK174.out)
  have n7_ := mk_ (blk_drew BK186.out)
  have n8_ := mk_ (below_drew1 HB.out)
  clear HO181
  clear HL183_1
  clear HL184_1
  clear HL185_3
  clear HL187_1
  clear HO192
  clear BK174
  clear BK186
  clear HB
  have HO181 := n0_
  have HL183_1 := n1_
  have HL184_1 := n2_
  have HL185_3 := n3_
  have HL187_1 := n4_
  have HO192 := n5_
  have BK174 := n6_
  have BK186 := n7_
  have HB := n8_
  clear n0_ n1_ n2_ n3_ n4_ n5_ n6_ n7_ n8_
  refine start_ (n := 5) (S := fun w' => w'.cell? ⟨gb20000, 0, none⟩ = some (.int .i64 ((rd_T40 ((rd_T47 t179 t182).f1) 0).f0)) ∧ w'.cell? ⟨gb20000, 1, none⟩ = some (.int .i64 ((rd_T40 ((rd_T47 t179 t182).f1) 0).f1)) ∧ w'.cell? ⟨gb20000, 2, none⟩ = some (.int .i64 ((rd_T40 ((rd_T47 t179 t182).f1) 0).f2)) ∧ w'.cell? ⟨gb20000, 3, none⟩ = some (.slice A185_3 ((rd_T40 ((rd_T47 t179 t182).f1) 0).f3).length c185_3)) (ds := []) #[false, false, false, false, false] (by kernel_rfl) rfl rfl ⟨(blk_cell BK186.out 0).trans rfl, (blk_cell BK186.out 1).trans rfl, (blk_cell BK186.out 2).trans rfl, (blk_cell BK186.out 3).trans rfl⟩ (fun hHeld => ?_)
  generalize w20080.drew = w21160 at HO181 HL183_1 HL184_1 HL185_3 HL187_1 HO192 BK174 BK186 HB hHeld ⊢
  refine pure_ (i := 0) (N := some 50) (v := ?_) (a' := ?_) #[true, false, false, false, false] rfl rfl (by kernel_rfl) (fun _ _ _ h => h) (Or.inl ⟨by rfl, ?_⟩) ?_ ?_
  rotate_left
  ·intro w'
   go_simp
   with_reducible rfl
  rotate_left
  ·simp only [Act.put, la_, lz_, ls_, i64_w, i32_w]
   rfl
  refine pure_ (i := 2) (N := some 4) (v := ?_) (a' := ?_) #[true, false, true, false, false] rfl rfl (by kernel_rfl) (fun _ _ _ h => h) (Or.inl ⟨by rfl, ?_⟩) ?_ ?_
  rotate_left
  ·intro w'
   go_simp
   with_reducible rfl
  rotate_left
  ·simp only [Act.put, la_, lz_, ls_, i64_w, i32_w]
   rfl
  refine take_ (i := 1) (N := some 51) (v := ?_) (a' := ?_) #[true, true, true, false, false] rfl rfl (by kernel_rfl) (fun _ _ _ h => h) (Or.inl ⟨by rfl, ?_⟩) hHeld ?_ ?_
  rotate_left
  ·rintro w' ⟨s19922, s6280, s6281, s6282⟩
   go_simp
   with_reducible rfl
  rotate_left
  ·simp only [Act.put, la_, lz_, ls_, i64_w, i32_w]
   rfl
  refine one_ (i := 3) (N := none) #[true, true, true, true, false] rfl rfl (by kernel_rfl) (by decide) (fun K hK => ?_)
  have hs21280 : w21160.cell? ⟨gb2280, 0, none⟩ = some (.int .i64 0) := (blk_cell BK174.out 0).trans rfl
  have hfs21280 := blk_frozen BK174.out 0
  have hns21280_1 := NB186_174.out
  have hms21280_1 := NB174_186.out
  have hs21440 : w21160.cell? ⟨gb2280, 1, none⟩ = some (.int .i64 0) := (blk_cell BK174.out 1).trans rfl
  have hfs21440 := blk_frozen BK174.out 1
  have hns21440_1 := NB186_174.out
  have hms21440_1 := NB174_186.out
  have hs21600 : w21160.cell? ⟨gb2280, 2, none⟩ = some (.int .i64 0) := (blk_cell BK174.out 2).trans rfl
  have hfs21600 := blk_frozen BK174.out 2
  have hns21600_1 := NB186_174.out
  have hms21600_1 := NB174_186.out
  have hs21760 : w21160.cell? ⟨gb2280, 3, none⟩ = some (.slice none 0 0) := (blk_cell BK174.out 3).trans rfl
  have hfs21760 := blk_frozen BK174.out 3
  have hns21760_1 := NB186_174.out
  have hms21760_1 := NB174_186.out
  refine skip_ (w1 := ?_) (by rfl) rfl ?_ ?_
  rotate_left
  ·go_simp
   rfl
  refine hK.out _ _ ⟨((cell_far (p := ⟨gb2280, _, none⟩) NB186_174.out _).trans (((cell_far (p := ⟨gb2280, _, none⟩) NB186_174.out _).trans (((cell_far (p := ⟨gb2280, _, none⟩) NB186_174.out _).trans (((cell_far (p := ⟨gb2280, _, none⟩) NB186_174.out _).trans (hHeld.1)))))))), ((cell_far (p := ⟨gb2280, _, none⟩) NB186_174.out _).trans (((cell_far (p := ⟨gb2280, _, none⟩) NB186_174.out _).trans (((cell_far (p := ⟨gb2280, _, none⟩) NB186_174.out _).trans (((cell_far (p := ⟨gb2280, _, none⟩) NB186_174.out _).trans (hHeld.2.1)))))))), ((cell_far (p := ⟨gb2280, _, none⟩) NB186_174.out _).trans (((cell_far (p := ⟨gb2280, _, none⟩) NB186_174.out _).trans (((cell_far (p := ⟨gb2280, _, none⟩) NB186_174.out _).trans (((cell_far (p := ⟨gb2280, _, none⟩) NB186_174.out _).trans (hHeld.2.2.1)))))))), ((cell_far (p := ⟨gb2280, _, none⟩) NB186_174.out _).trans (((cell_far (p := ⟨gb2280, _, none⟩) NB186_174.out _).trans (((cell_far (p := ⟨gb2280, _, none⟩) NB186_174.out _).trans (((cell_far (p := ⟨gb2280, _, none⟩) NB186_174.out _).trans (hHeld.2.2.2))))))))⟩ (fun hHeld => ?_)
  clear hK K
  refine pure_ (i := 4) (N := some 6) (v := ?_) (a' := ?_) #[true, true, true, true, true] rfl rfl (by kernel_rfl) (fun _ _ _ h => h) (Or.inl ⟨by rfl, ?_⟩) ?_ ?_
  rotate_left
  ·intro w'
   go_simp
   with_reducible rfl
  rotate_left
  ·simp only [Act.put, la_, lz_, ls_, i64_w, i32_w]
   rfl
  refine done_ (by kernel_rfl) ?_
  try go_wp2
  refine bodyPost_ret (results_list (rs := [.tmp 4, .cell 5 40, .tmp 6]) rfl (by simp) (.tmp (.cell gb2280 40 #[.int .i64 ((rd_T40 ((rd_T47 t179 t182).f1) 0).f0), .int .i64 ((rd_T40 ((rd_T47 t179 t182).f1) 0).f1), .int .i64 ((rd_T40 ((rd_T47 t179 t182).f1) 0).f2), .slice A185_3 ((rd_T40 ((rd_T47 t179 t182).f1) 0).f3).length c185_3] (0, 0) _ rfl (by (with_reducible repeat (first | refine bn_ ?_ _ | refine bw_ ?_ | refine ba_ ?_ _)); refine blk_put (cs := #[.int .i64 ((rd_T40 ((rd_T47 t179 t182).f1) 0).f0), .int .i64 ((rd_T40 ((rd_T47 t179 t182).f1) 0).f1), .int .i64 ((rd_T40 ((rd_T47 t179 t182).f1) 0).f2), .slice none 0 0]) ?_ 3 _ rfl; (with_reducible repeat (first | refine bn_ ?_ _ | refine bw_ ?_ | refine ba_ ?_ _)); refine blk_put (cs := #[.int .i64 ((rd_T40 ((rd_T47 t179 t182).f1) 0).f0), .int .i64 ((rd_T40 ((rd_T47 t179 t182).f1) 0).f1), .int .i64 0, .slice none 0 0]) ?_ 2 _ rfl; (with_reducible repeat (first | refine bn_ ?_ _ | refine bw_ ?_ | refine ba_ ?_ _)); refine blk_put (cs := #[.int .i64 ((rd_T40 ((rd_T47 t179 t182).f1) 0).f0), .int .i64 0, .int .i64 0, .slice none 0 0]) ?_ 1 _ rfl; (with_reducible repeat (first | refine bn_ ?_ _ | refine bw_ ?_ | refine ba_ ?_ _)); refine blk_put (cs := #[.int .i64 0, .int .i64 0, .int .i64 0, .slice none 0 0]) ?_ 0 _ rfl; (with_reducible repeat (first | refine bn_ ?_ _ | refine bw_ ?_ | refine ba_ ?_ _)); exact BK174.out) Try.underlying40 rfl (by kernel_rfl) (.tmp .nil)))) rfl ?_
  exact ⟨_, _, by first | rfl | (simp [errW_none, errW_some] <;> rfl) | (simp [*, errW_none, errW_some] <;> rfl), by (with_reducible repeat (first | apply Kd.N_alloc | apply Kd.N_drewN | apply Kd.N_drew)); exact Kd.N_mono (Kd.N_far (p := ⟨gb2280, 3, none⟩) (Kd.N_far (p := ⟨gb2280, 2, none⟩) (Kd.N_far (p := ⟨gb2280, 1, none⟩) (Kd.N_far (p := ⟨gb2280, 0, none⟩) (Kd.N_mono HO181.out (fun k_ hk => (⟨hk, hk.2.1⟩ : _ ∧ k_ ≠ gb2280))) (fun _ hk => hk.2) (.int .i64 ((rd_T40 ((rd_T47 t179 t182).f1) 0).f0))) (fun _ hk => hk.2) (.int .i64 ((rd_T40 ((rd_T47 t179 t182).f1) 0).f1))) (fun _ hk => hk.2) (.int .i64 ((rd_T40 ((rd_T47 t179 t182).f1) 0).f2))) (fun _ hk => hk.2) (.slice A185_3 ((rd_T40 ((rd_T47 t179 t182).f1) 0).f3).length c185_3)) (fun _ hk => hk.1.1), by (with_reducible repeat (first | apply Kd.V_alloc | apply Kd.V_drewN | apply Kd.V_drew)); exact Kd.V_mono (Kd.V_far (p := ⟨gb2280, 3, none⟩) (Kd.V_far (p := ⟨gb2280, 2, none⟩) (Kd.V_far (p := ⟨gb2280, 1, none⟩) (Kd.V_far (p := ⟨gb2280, 0, none⟩) (Kd.V_mono HL185_3.out (fun k_ hk => (⟨hk, hk.1.2.1⟩ : _ ∧ k_ ≠ gb2280))) (fun _ hk => hk.2) (.int .i64 ((rd_T40 ((rd_T47 t179 t182).f1) 0).f0))) (fun _ hk => hk.2) (.int .i64 ((rd_T40 ((rd_T47 t179 t182).f1) 0).f1))) (fun _ hk => hk.2) (.int .i64 ((rd_T40 ((rd_T47 t179 t182).f1) 0).f2))) (fun _ hk => hk.2) (.slice A185_3 ((rd_T40 ((rd_T47 t179 t182).f1) 0).f3).length c185_3)) (fun _ hk => by first | exact ⟨hk.1.1.1, hk.1.2⟩ | exact hk.1 | exact hk | exact ⟨hk.1, hk.2⟩ | exact ⟨.inr hk.1, hk.2⟩ | simp only [hk, ne_eq, not_false_eq_true, and_self]), us_ HB.out⟩

end Go.Proofs.Ytkkibccnpkbbjaa.MFnPortsOk
