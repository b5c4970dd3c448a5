/- Functions that the law FnExactPortsOk reaches, each with the proof that the machine's call comes to just its answer; no conditions but those that each theorem states. Printed by a program of this session over the kit's print. -/
import Derived.Test.YtkkibccnpkbbjaaMFnExactPortsOkx0
import Derived.Test.YtkkibccnpkbbjaaMFnExactPortsOkx1
import Derived.Test.YtkkibccnpkbbjaaMFnExactPortsOkx2
import Derived.Test.YtkkibccnpkbbjaaMFnExactPortsOkx3
import Derived.Test.YtkkibccnpkbbjaaMFnExactPortsOkx4
import Derived.Test.YtkkibccnpkbbjaaMFnExactPortsOkx5
namespace Go.Proofs.Ytkkibccnpkbbjaa.MFnExactPortsOk
open Go.RowKit Go.Proofs.YtkkibccnpkbbjaaV.PrintWords Go.Proofs.YtkkibccnpkbbjaaV.PrintLast Go.Proofs.YtkkibccnpkbbjaaV.PrintMore
attribute [local go_sem] max2_int min2_int max_two min_two max_three min_three max_four min_four   -- for this text's walks alone
set_option linter.unusedVariables false
set_option linter.unusedSimpArgs false

/-! ### laws_eqPortS: function 15 -/
def laws_eqPortS.l0 : Nat → List (S47) → List (S47) → Int → Option (Bool)
 | 0, _, _, _ => none
 | k + 1, x0, x1, x5 => if x5 < (x0.length : Int) then (if 0 ≤ x5 then (if x5 < (x1.length : Int) then ((laws_eqPort.f k ((rd_T47 x0 x5).f0) ((rd_T47 x0 x5).f1) ((rd_T47 x1 x5).f0) ((rd_T47 x1 x5).f1)).bind fun t182 => (if t182 = true then (laws_eqPortS.l0 k x0 x1 (wrap64 (x5 + 1))) else (some false))) else (none)) else (none)) else (some true)
def laws_eqPortS.f (k : Nat) (l0 : List (S47)) (l1 : List (S47)) : Option (Bool) := if (l0.length : Int) = (l1.length : Int) then (laws_eqPortS.l0 k l0 l1 0) else (some false)
theorem laws_eqPortS.mono_l : ∀ k, (∀ y0 y1 y2, LeO (laws_eqPortS.l0 k y0 y1 y2) (laws_eqPortS.l0 (k + 1) y0 y1 y2))
 | 0 => fun _ _ _ r h => by simp [laws_eqPortS.l0] at h
 | k + 1 => by
  have ih0 := laws_eqPortS.mono_l k
  ·intro y0 y1 y2
   unfold laws_eqPortS.l0
   repeat' first
   | (with_reducible exact ih0 _ _ _)
   | (with_reducible exact laws_eqPort.mono _ _ _ _ _)
   | (with_reducible exact LeO.refl _)
   | (with_reducible exact LeO.none _)
   | (with_reducible refine LeO.ite ?_ ?_)
   | (with_reducible refine LeO.bind ?_ (fun _ => ?_))
   | exact ih0 _ _ _
   | exact laws_eqPort.mono _ _ _ _ _
   | exact LeO.none _
   | refine LeO.ite ?_ ?_
   | refine LeO.bind ?_ (fun _ => ?_)
theorem laws_eqPortS.mono : ∀ a0 a1 k, LeO (laws_eqPortS.f k a0 a1) (laws_eqPortS.f (k + 1) a0 a1) := by
 intro a0 a1 k
 have ih0 := laws_eqPortS.mono_l k
 unfold laws_eqPortS.f
 repeat' first
   | (with_reducible exact ih0 _ _ _)
   | (with_reducible exact laws_eqPort.mono _ _ _ _ _)
   | (with_reducible exact LeO.refl _)
   | (with_reducible exact LeO.none _)
   | (with_reducible refine LeO.ite ?_ ?_)
   | (with_reducible refine LeO.bind ?_ (fun _ => ?_))
   | exact ih0 _ _ _
   | exact laws_eqPort.mono _ _ _ _ _
   | exact LeO.none _
   | refine LeO.ite ?_ ?_
   | refine LeO.bind ?_ (fun _ => ?_)
def laws_eqPortS.T6 : Bool × List (List Nat × List Nat) := (true, [([], []), ([], []), ([0, 1], [0, 1]), ([2], [2]), ([], []), ([], []), ([4, 5], [4, 5]), ([6], [6]), ([3, 7], [3, 7]), ([8], [8])])
def laws_eqPortS.B6 : List Nat := [0, 0, 3, 7, 0, 0, 48, 112, 255, 511]
theorem laws_eqPortS.tab6 : rtab .any (opsOf Try.f15 6) = laws_eqPortS.T6 := by kernel_rfl
theorem laws_eqPortS.bits6 : waitsOk laws_eqPortS.T6.2 laws_eqPortS.B6 = true := by kernel_rfl
set_option maxHeartbeats 8000000 in
set_option maxRecDepth 100000 in
theorem laws_eqPortS.calls (k : Nat) (A0 : Option Addr) (c0 : Nat) (l0 : List (S47)) (A1 : Option Addr) (c1 : Nat) (l1 : List (S47)) (r : Bool) (w : World) (hr0 : Kd.C k47 w A0 l0.length l0) (hc0 : l0.length ≤ c0) (hr1 : Kd.C k47 w A1 l1.length l1) (hc1 : l1.length ≤ c1) (h : laws_eqPortS.f k l0 l1 = some r) :
  Calls Try.prog 15 #[.slice A0 l0.length c0, .slice A1 l1.length c1] w fun e w' => e = .returned (.bool r) ∧ Below w.heap.size w w' := by
 have hu47 := Try.underlying47
 have HR0 := mk_ hr0
 have HC0 := mk_ hc0
 clear hr0 hc0
 have HR1 := mk_ hr1
 have HC1 := mk_ hc1
 clear hr1 hc1
 have HB := mk_ (Below.refl w.heap.size w)
 have H := h
 unfold laws_eqPortS.f at H
 clear h
 by_cases c3 : (l0.length : Int) = (l1.length : Int)
 rotate_left
 focus
  rw [if_neg c3] at H
  have c3b0 : ((l0.length : Int) == (l1.length : Int)) = false := beq_eq_false_iff_ne.mpr c3
  have c3b1 : ((l0.length : Int) != (l1.length : Int)) = true := bne_iff_ne.mpr c3
  have c3b2 : (l0.length == l1.length) = false := by first | simpa using c3 | (simp at c3 ⊢; omega)
  obtain rfl := Option.some.inj H
 rotate_left
 focus
  rw [if_pos c3] at H
  have c3b0 : ((l0.length : Int) == (l1.length : Int)) = true := beq_iff_eq.mpr c3
  have c3b1 : ((l0.length : Int) != (l1.length : Int)) = false := bne_eq_false_iff_eq.mpr c3
  have c3b2 : (l0.length == l1.length) = true := by first | simpa using c3 | (simp at c3 ⊢; omega)
  clear c3
  have H' := mk_ H
  clear H
 rotate_left
 all_goals
  go_enter Try.func15, Try.ntmps15
  go_wp2
 ·go_ret
  exact ⟨by first | rfl | (simp [errW_none, errW_some] <;> rfl) | (simp [*, errW_none, errW_some] <;> rfl), by repeat (first | (with_reducible first | exact HB.out | apply na_ | apply nn_ | apply nw_) | exact HB.out)⟩
 ·go_loopg [5] k (fun kq v5 w' => ∃ (x5_1 : Int), v5 = .int .i64 x5_1 ∧ Aside0 (laws_eqPortS.l0 kq l0 l1 x5_1 = some r) ∧ Aside0 (kq ≤ k) ∧ Aside0 (Below w.heap.size w w'))
  case atStart => exact ⟨(0), (by first | rfl | (simp; done) | (simp [*]; done)), H', ⟨Nat.le_refl _⟩, ⟨ub_ HB.out⟩⟩
  case round =>
   clear H'
   try clear c1
   try clear p2
   try clear c3
   try clear c3b0
   try clear c3b1
   try clear c3b2
   obtain ⟨x5_1, rfl, HA, HK1680, HB⟩ := hrel
   cases gk with
   | zero => exact absurd HA.out (by simp [laws_eqPortS.l0])
   | succ k1 =>
    have H := HA.out
    clear HA
    simp only [laws_eqPortS.l0] at H
    by_cases c4 : x5_1 < (l0.length : Int)
    rotate_left
    focus
     rw [if_neg c4] at H
     have c4b0 : decide (x5_1 < (l0.length : Int)) = false := decide_eq_false c4
     clear c4
     obtain rfl := Option.some.inj H
    rotate_left
    focus
     rw [if_pos c4] at H
     have c4b0 : decide (x5_1 < (l0.length : Int)) = true := decide_eq_true c4
     clear c4
     by_cases c5 : 0 ≤ x5_1
     rotate_left
     ·rw [if_neg c5] at H
      exact absurd H (by simp)
     rw [if_pos c5] at H
     have c5b0 : decide (0 ≤ x5_1) = true := decide_eq_true c5
     clear c5
     by_cases c6 : x5_1 < (l1.length : Int)
     rotate_left
     ·rw [if_neg c6] at H
      exact absurd H (by simp)
     rw [if_pos c6] at H
     have c6b0 : decide (x5_1 < (l1.length : Int)) = true := decide_eq_true c6
     clear c6
     replace H := Option.bind_eq_some_iff.mp H
     obtain ⟨t1681, A1682, H⟩ := H
     replace H : (if t1681 = true then (laws_eqPortS.l0 k1 l0 l1 (wrap64 (x5_1 + 1))) else (some false)) = some r := H
     have A1683 := mk_ A1682
     clear A1682
     by_cases c1684 : t1681 = true
     rotate_left
     focus
      replace c1684 := Bool.eq_false_iff.mpr c1684
      subst c1684
      have H1680 : (some false) = some r := by rw [if_neg (show ¬ (false = true) by decide)] at H; exact H
      clear H
      have H := H1680
      clear H1680
      obtain rfl := Option.some.inj H
     rotate_left
     focus
      subst c1684
      have H1680 : (laws_eqPortS.l0 k1 l0 l1 (wrap64 (x5_1 + 1))) = some r := by rw [if_pos rfl] at H; exact H
      clear H
      have H := H1680
      clear H1680
      have H' := mk_ H
      clear H
     rotate_left
    rotate_left 2
    all_goals
     try go_wp2
    ·go_ret
     exact ⟨by first | rfl | (simp [errW_none, errW_some] <;> rfl) | (simp [*, errW_none, errW_some] <;> rfl), by repeat (first | (with_reducible first | exact HB.out | apply na_ | apply nn_ | apply nw_) | exact HB.out)⟩
    all_goals
     have n0_ := mk_ (below_drew1 HB.out)
     clear HB
     have HB := n0_
     clear n0_
     have p15280 : 0 ≤ (x5_1 : Int) := of_decide_eq_true (by first | (with_reducible assumption) | assumption)
     have q15280 : x5_1 < (l0.length : Int) := of_decide_eq_true (by first | (with_reducible assumption) | assumption)
     obtain ⟨ad15280, A180_1, c180_1, e15280, hx180_0, hx180_1, hl180_1, hi180_1⟩ := at_T47 HR0.out x5_1 p15280 q15280
     have hw180_1 := hx180_1
     have hw180_0 := hx180_0
     cases e15280
     replace hx180_0 := (HB.out.cell (lc_ w _ hx180_0)).trans hx180_0
     replace hx180_1 := (HB.out.cell (lc_ w _ hx180_1)).trans hx180_1
     have HR180_1 := mk_ hi180_1
     have HC180_1 := mk_ hl180_1
     clear hi180_1 hl180_1
     replace p15280 := eq_true p15280
     replace q15280 := eq_true q15280
     have p15360 : 0 ≤ (x5_1 : Int) := of_decide_eq_true (by first | (with_reducible assumption) | assumption)
     have q15360 : x5_1 < (l1.length : Int) := of_decide_eq_true (by first | (with_reducible assumption) | assumption)
     obtain ⟨ad15360, A181_1, c181_1, e15360, hx181_0, hx181_1, hl181_1, hi181_1⟩ := at_T47 HR1.out x5_1 p15360 q15360
     have hw181_1 := hx181_1
     have hw181_0 := hx181_0
     cases e15360
     replace hx181_0 := (HB.out.cell (lc_ w _ hx181_0)).trans hx181_0
     replace hx181_1 := (HB.out.cell (lc_ w _ hx181_1)).trans hx181_1
     have HR181_1 := mk_ hi181_1
     have HC181_1 := mk_ hl181_1
     clear hi181_1 hl181_1
     replace p15360 := eq_true p15360
     replace q15360 := eq_true q15360
     refine start_ (n := 10) (S := fun w' => w'.cell? (ad15280.add ((x5_1).toNat * 2)) = some (.int .i64 ((rd_T47 l0 x5_1).f0)) ∧ w'.cell? ⟨(ad15280.add ((x5_1).toNat * 2)).block, (ad15280.add ((x5_1).toNat * 2)).off + 1, none⟩ = some (.slice A180_1 ((rd_T47 l0 x5_1).f1).length c180_1) ∧ w'.cell? (ad15360.add ((x5_1).toNat * 2)) = some (.int .i64 ((rd_T47 l1 x5_1).f0)) ∧ w'.cell? ⟨(ad15360.add ((x5_1).toNat * 2)).block, (ad15360.add ((x5_1).toNat * 2)).off + 1, none⟩ = some (.slice A181_1 ((rd_T47 l1 x5_1).f1).length c181_1)) (ds := []) #[F_, F_, F_, F_, F_, F_, F_, F_, F_, F_] (by kernel_rfl) rfl rfl ⟨((HB.out.cell (lc_ w _ hw180_0)).trans hw180_0), ((HB.out.cell (lc_ w _ hw180_1)).trans hw180_1), ((HB.out.cell (lc_ w _ hw181_0)).trans hw181_0), ((HB.out.cell (lc_ w _ hw181_1)).trans hw181_1)⟩ (fun hHeld => ?_); refine with_tabW laws_eqPortS.tab6 laws_eqPortS.bits6 (fun HT_ HW_ => ?_)
     generalize wr.drew = w9000 at HB HR180_1 HR181_1 hx180_0 hx180_1 hx181_0 hx181_1 hHeld ⊢
     refine pure_ (i := 0) (N := some 17) (v := ?_) (a' := ?_) #[T_, F_, F_, F_, F_, F_, F_, F_, F_, F_] rfl rfl (any_of HT_.out (by kernel_rfl)) (fun _ _ _ h => h) (Or.inl ⟨by rfl, ?_⟩) ?_ ?_
     rotate_left
     ·intro w'
      go_simp
      with_reducible rfl
     rotate_left
     ·simp only [Act.put, la_, lz_, ls_, i64_w, i32_w]
      rfl
     refine pure_ (i := 1) (N := some 18) (v := ?_) (a' := ?_) #[T_, T_, F_, F_, F_, F_, F_, F_, F_, F_] rfl rfl (any_of HT_.out (by kernel_rfl)) (fun _ _ _ h => h) (Or.inl ⟨by rfl, ?_⟩) ?_ ?_
     rotate_left
     ·intro w'
      go_simp
      with_reducible rfl
     rotate_left
     ·simp only [Act.put, la_, lz_, ls_, i64_w, i32_w]
      rfl
     refine pure_ (i := 2) (N := some 19) (v := ?_) (a' := ?_) #[T_, T_, T_, F_, F_, F_, F_, F_, F_, F_] rfl rfl (any_of HT_.out (by kernel_rfl)) (fun _ _ _ h => h) (Or.inl ⟨by rfl, ?_⟩) ?_ ?_
     rotate_left
     ·intro w'
      go_simp
      with_reducible rfl
     rotate_left
     ·simp only [Act.put, la_, lz_, ls_, i64_w, i32_w]
      rfl
     refine pure_ (i := 4) (N := some 21) (v := ?_) (a' := ?_) #[T_, T_, T_, F_, T_, F_, F_, F_, F_, F_] rfl rfl (any_of HT_.out (by kernel_rfl)) (fun _ _ _ h => h) (Or.inl ⟨by rfl, ?_⟩) ?_ ?_
     rotate_left
     ·intro w'
      go_simp
      with_reducible rfl
     rotate_left
     ·simp only [Act.put, la_, lz_, ls_, i64_w, i32_w]
      rfl
     refine pure_ (i := 5) (N := some 22) (v := ?_) (a' := ?_) #[T_, T_, T_, F_, T_, T_, F_, F_, F_, F_] rfl rfl (any_of HT_.out (by kernel_rfl)) (fun _ _ _ h => h) (Or.inl ⟨by rfl, ?_⟩) ?_ ?_
     rotate_left
     ·intro w'
      go_simp
      with_reducible rfl
     rotate_left
     ·simp only [Act.put, la_, lz_, ls_, i64_w, i32_w]
      rfl
     refine pure_ (i := 6) (N := some 23) (v := ?_) (a' := ?_) #[T_, T_, T_, F_, T_, T_, T_, F_, F_, F_] rfl rfl (any_of HT_.out (by kernel_rfl)) (fun _ _ _ h => h) (Or.inl ⟨by rfl, ?_⟩) ?_ ?_
     rotate_left
     ·intro w'
      go_simp
      with_reducible rfl
     rotate_left
     ·simp only [Act.put, la_, lz_, ls_, i64_w, i32_w]
      rfl
     refine take_ (i := 3) (N := some 20) (v := ?_) (a' := ?_) #[T_, T_, T_, T_, T_, T_, T_, F_, F_, F_] rfl rfl (take_ofW HT_.out HW_.out (by kernel_rfl)) (fun _ _ _ h => h) (Or.inl ⟨by rfl, ?_⟩) hHeld ?_ ?_
     rotate_left
     ·rintro w' ⟨s15960, s15961, s15962, s15963⟩
      go_simp
      with_reducible rfl
     rotate_left
     ·simp only [Act.put, la_, lz_, ls_, i64_w, i32_w]
      rfl
     refine take_ (i := 7) (N := some 24) (v := ?_) (a' := ?_) #[T_, T_, T_, T_, T_, T_, T_, T_, F_, F_] rfl rfl (take_ofW HT_.out HW_.out (by kernel_rfl)) (fun _ _ _ h => h) (Or.inl ⟨by rfl, ?_⟩) hHeld ?_ ?_
     rotate_left
     ·rintro w' ⟨s15960, s15961, s15962, s15963⟩
      go_simp
      with_reducible rfl
     rotate_left
     ·simp only [Act.put, la_, lz_, ls_, i64_w, i32_w]
      rfl
     refine one_ (i := 8) (N := some 25) #[T_, T_, T_, T_, T_, T_, T_, T_, T_, F_] rfl rfl (one_of HT_.out (by kernel_rfl)) (by decide) (fun K hK => ?_)
     refine goes_ Try.func47 (by kernel_rfl) rfl #[.agg #[.int .i64 ((rd_T47 l0 x5_1).f0), .slice A180_1 ((rd_T47 l0 x5_1).f1).length c180_1], .agg #[.int .i64 ((rd_T47 l1 x5_1).f0), .slice A181_1 ((rd_T47 l1 x5_1).f1).length c181_1]] (by rfl) rfl rfl (by (try simp only [lm_, lo_, ln_]); try rfl) ?_
    ·with_reducible refine (laws_eqPort.calls k1 ((rd_T47 l0 x5_1).f0) _ _ ((rd_T47 l0 x5_1).f1) ((rd_T47 l1 x5_1).f0) _ _ ((rd_T47 l1 x5_1).f1) false _ ?side1 ?side2 ?side3 ?side4 A1683.out).mono ?_
     (case side1 => repeat (first | exact (Kd.C_below HR180_1.out HB.out) | (with_reducible refine Kd.C_alloc ?_ _) | (with_reducible refine Kd.C_drewN ?_ _) | (with_reducible refine Kd.C_drew ?_)))
     (case side2 => exact HC180_1.out)
     (case side3 => repeat (first | exact (Kd.C_below HR181_1.out HB.out) | (with_reducible refine Kd.C_alloc ?_ _) | (with_reducible refine Kd.C_drewN ?_ _) | (with_reducible refine Kd.C_drew ?_)))
     (case side4 => exact HC181_1.out)
     rintro e w13840 ⟨rfl, hb⟩
     refine ⟨_, rfl, ?_⟩
     have n0_ := mk_ (below_step (ub_ HB.out) hb)
     clear HB
     have HB := n0_
     clear n0_
     (try clear hb)
     (try clear hb2)
     (try clear hk)
     (try clear hi)
     refine hK.out _ _ ⟨((HB.out.cell (lc_ w _ hw180_0)).trans hw180_0), ((HB.out.cell (lc_ w _ hw180_1)).trans hw180_1), ((HB.out.cell (lc_ w _ hw181_0)).trans hw181_0), ((HB.out.cell (lc_ w _ hw181_1)).trans hw181_1)⟩ (fun hHeld => ?_)
     clear hK K
     refine norm_ (a' := ?_) ?_ ?_
     rotate_left
     ·show Act.put _ (some 25) _ = _
      simp only [Act.put, la_, lz_, ls_, i64_w, i32_w]
      rfl
     refine pure_ (i := 9) (N := some 26) (v := ?_) (a' := ?_) #[T_, T_, T_, T_, T_, T_, T_, T_, T_, T_] rfl rfl (any_of HT_.out (by kernel_rfl)) (fun _ _ _ h => h) (Or.inl ⟨by rfl, ?_⟩) ?_ ?_
     rotate_left
     ·intro w'
      go_simp
      with_reducible rfl
     rotate_left
     ·simp only [Act.put, la_, lz_, ls_, i64_w, i32_w]
      rfl
     refine done_ (done_of HT_.out (by kernel_rfl)) ?_
     try go_wp2
     go_ret
     exact ⟨by first | rfl | (simp [errW_none, errW_some] <;> rfl) | (simp [*, errW_none, errW_some] <;> rfl), by repeat (first | (with_reducible first | exact HB.out | apply na_ | apply nn_ | apply nw_) | exact HB.out)⟩
    ·with_reducible refine (laws_eqPort.calls k1 ((rd_T47 l0 x5_1).f0) _ _ ((rd_T47 l0 x5_1).f1) ((rd_T47 l1 x5_1).f0) _ _ ((rd_T47 l1 x5_1).f1) true _ ?side1 ?side2 ?side3 ?side4 A1683.out).mono ?_
     (case side1 => repeat (first | exact (Kd.C_below HR180_1.out HB.out) | (with_reducible refine Kd.C_alloc ?_ _) | (with_reducible refine Kd.C_drewN ?_ _) | (with_reducible refine Kd.C_drew ?_)))
     (case side2 => exact HC180_1.out)
     (case side3 => repeat (first | exact (Kd.C_below HR181_1.out HB.out) | (with_reducible refine Kd.C_alloc ?_ _) | (with_reducible refine Kd.C_drewN ?_ _) | (with_reducible refine Kd.C_drew ?_)))
     (case side4 => exact HC181_1.out)
     rintro e w13840 ⟨rfl, hb⟩
     refine ⟨_, rfl, ?_⟩
     have n0_ := mk_ (below_step (ub_ HB.out) hb)
     clear HB
     have HB := n0_
     clear n0_
     (try clear hb)
     (try clear hb2)
     (try clear hk)
     (try clear hi)
     refine hK.out _ _ ⟨((HB.out.cell (lc_ w _ hw180_0)).trans hw180_0), ((HB.out.cell (lc_ w _ hw180_1)).trans hw180_1), ((HB.out.cell (lc_ w _ hw181_0)).trans hw181_0), ((HB.out.cell (lc_ w _ hw181_1)).trans hw181_1)⟩ (fun hHeld => ?_)
     clear hK K
     refine norm_ (a' := ?_) ?_ ?_
     rotate_left
     ·show Act.put _ (some 25) _ = _
      simp only [Act.put, la_, lz_, ls_, i64_w, i32_w]
      rfl
     refine pure_ (i := 9) (N := some 26) (v := ?_) (a' := ?_) #[T_, T_, T_, T_, T_, T_, T_, T_, T_, T_] rfl rfl (any_of HT_.out (by kernel_rfl)) (fun _ _ _ h => h) (Or.inl ⟨by rfl, ?_⟩) ?_ ?_
     rotate_left
     ·intro w'
      go_simp
      with_reducible rfl
     rotate_left
     ·simp only [Act.put, la_, lz_, ls_, i64_w, i32_w]
      rfl
     refine done_ (done_of HT_.out (by kernel_rfl)) ?_
     try go_wp2
     go_roundg k1
     case measure => have := HK1680.out; omega
     case rel => exact ⟨(wrap64 (x5_1 + 1)), (by first | rfl | (simp; done) | (simp [*]; done)), H', ⟨by have := HK1680.out; omega⟩, ⟨ub_ HB.out⟩⟩

/-! ### laws_FnExactPortsOk: function 3 -/
def laws_FnExactPortsOk.f (k : Nat) (l0 : List (S64)) : Option (Bool) := (laws_szPortS.f k l0 1048576).bind fun t183 => (if t183 < 0 then (some true) else ((laws_toPortS.f k l0).bind fun t184 => ((spec_PortsOk.f k t184).bind fun t187 => ((laws_toPortS.f k l0).bind fun t188 => ((impl_PortsOk.f t188).bind fun t191 => (if (t191 != t187) = true then (some false) else ((laws_toPortS.f k l0).bind fun t192 => ((laws_eqPortS.f k t188 t192).bind fun t195 => (if t195 = true then (some true) else (some false))))))))))
theorem laws_FnExactPortsOk.mono : ∀ a0 k, LeO (laws_FnExactPortsOk.f k a0) (laws_FnExactPortsOk.f (k + 1) a0) := by
 intro a0 k
 unfold laws_FnExactPortsOk.f
 repeat' first
   | (with_reducible exact laws_eqPortS.mono _ _ _)
   | (with_reducible exact laws_szPortS.mono _ _ _)
   | (with_reducible exact laws_toPortS.mono _ _)
   | (with_reducible exact spec_PortsOk.mono _ _)
   | (with_reducible exact LeO.refl _)
   | (with_reducible exact LeO.none _)
   | (with_reducible refine LeO.ite ?_ ?_)
   | (with_reducible refine LeO.bind ?_ (fun _ => ?_))
   | exact laws_eqPortS.mono _ _ _
   | exact laws_szPortS.mono _ _ _
   | exact laws_toPortS.mono _ _
   | exact spec_PortsOk.mono _ _
   | exact LeO.none _
   | refine LeO.ite ?_ ?_
   | refine LeO.bind ?_ (fun _ => ?_)
set_option maxHeartbeats 8000000 in
set_option maxRecDepth 100000 in
theorem laws_FnExactPortsOk.calls (k : Nat) (A0 : Option Addr) (c0 : Nat) (l0 : List (S64)) (r : Bool) (w : World) (hr0 : Kd.C k64 w A0 l0.length l0) (hc0 : l0.length ≤ c0) (h : laws_FnExactPortsOk.f k l0 = some r) :
  Calls Try.prog 3 #[.slice A0 l0.length c0] w fun e w' => e = .returned (.bool r) ∧ Below w.heap.size w w' := by
 have HR0 := mk_ hr0
 have HC0 := mk_ hc0
 clear hr0 hc0
 have HB := mk_ (Below.refl w.heap.size w)
 have H := h
 unfold laws_FnExactPortsOk.f at H
 clear h
 replace H := Option.bind_eq_some_iff.mp H
 obtain ⟨t183, A20, H⟩ := H
 (try dsimp only at H)
 have A2 := mk_ A20
 clear A20
 by_cases c3 : t183 < 0
 focus
  rw [if_pos c3] at H
  have c3b0 : decide (t183 < 0) = true := decide_eq_true c3
  clear c3
  obtain rfl := Option.some.inj H
 rotate_left
 focus
  rw [if_neg c3] at H
  have c3b0 : decide (t183 < 0) = false := decide_eq_false c3
  clear c3
  replace H := Option.bind_eq_some_iff.mp H
  obtain ⟨t184, A50, H⟩ := H
  (try dsimp only at H)
  have A5 := mk_ A50
  clear A50
  replace H := Option.bind_eq_some_iff.mp H
  obtain ⟨t187, A60, H⟩ := H
  (try dsimp only at H)
  have A6 := mk_ A60
  clear A60
  replace H := Option.bind_eq_some_iff.mp H
  obtain ⟨t188, A70, H⟩ := H
  (try dsimp only at H)
  have A7 := mk_ A70
  clear A70
  replace H := Option.bind_eq_some_iff.mp H
  obtain ⟨t191, A80, H⟩ := H
  (try dsimp only at H)
  have A8 := mk_ A80
  clear A80
  by_cases c9 : (t191 != t187) = true
  focus
   rw [if_pos c9] at H
   have c9b0 : (t191 != t187) = true := c9
   (try (have c9b1 : decide (t191 = t187) = false := by simpa using c9))
   (try (have c9b2 : (t191 == t187) = false := by simpa using c9))
   (try (have c9b3 : ¬ (t191 = t187) := by simpa using c9))
   clear c9
   obtain rfl := Option.some.inj H
  rotate_left
  focus
   rw [if_neg c9] at H
   have c9b0 : (t191 != t187) = false := by simpa using c9
   (try (have c9b1 : decide (t191 = t187) = true := by simpa using c9))
   (try (have c9b2 : (t191 == t187) = true := by simpa using c9))
   clear c9
   replace H := Option.bind_eq_some_iff.mp H
   obtain ⟨t192, A170, H⟩ := H
   (try dsimp only at H)
   have A17 := mk_ A170
   clear A170
   replace H := Option.bind_eq_some_iff.mp H
   obtain ⟨t195, A180, H⟩ := H
   replace H : (if t195 = true then (some true) else (some false)) = some r := H
   have A18 := mk_ A180
   clear A180
   by_cases c19 : t195 = true
   focus
    subst c19
    have H1 : (some true) = some r := by rw [if_pos rfl] at H; exact H
    clear H
    have H := H1
    clear H1
    obtain rfl := Option.some.inj H
   rotate_left
   focus
    replace c19 := Bool.eq_false_iff.mpr c19
    subst c19
    have H1 : (some false) = some r := by rw [if_neg (show ¬ (false = true) by decide)] at H; exact H
    clear H
    have H := H1
    clear H1
    obtain rfl := Option.some.inj H
   rotate_left
  rotate_left 2
 rotate_left 3
 all_goals
  go_enter Try.func3, Try.ntmps3
  go_wp2_with (first | ((with_reducible refine gate_callee (f := 11) rfl ?_); refine goesL_ (some 9) rfl rfl Try.func11 (by kernel_rfl) rfl #[.slice A0 l0.length c0, .int .i64 1048576] rfl (by (try simp only [lm_, lo_, ln_]); try rfl) ?_; (with_reducible refine (laws_szPortS.calls k _ _ l0 1048576 t183 _ ?side1 ?side2 A2.out).mono ?_); (case side1 => repeat (first | exact HR0.out | (with_reducible refine Kd.C_alloc ?_ _) | (with_reducible refine Kd.C_drewN ?_ _) | (with_reducible refine Kd.C_drew ?_))); (case side2 => exact HC0.out); rintro e w17360 ⟨rfl, hb⟩; refine ⟨_, rfl, ?_⟩; replace HB := mk_ (below_step (ub_ HB.out) hb)) | ((with_reducible refine gate_callee (f := 13) rfl ?_); have hA_ := A5.out; refine goesL_ (some 13) rfl rfl Try.func13 (by kernel_rfl) rfl #[.slice A0 l0.length c0] rfl (by (try simp only [lm_, lo_, ln_]); try rfl) ?_; (with_reducible refine (laws_toPortS.calls k _ _ l0 t184 _ ?side1 ?side2 A5.out).mono ?_); (case side1 => repeat (first | exact (Kd.C_below HR0.out HB.out) | (with_reducible refine Kd.C_alloc ?_ _) | (with_reducible refine Kd.C_drewN ?_ _) | (with_reducible refine Kd.C_drew ?_))); (case side2 => exact HC0.out); rintro e w17400 ⟨v17401, rfl, ho17402, hb⟩; refine ⟨_, rfl, ?_⟩; have HO186 := mk_ (Kd.R_lower ho17402 (below_size (ub_ HB.out))); replace HB := mk_ (below_step (ub_ HB.out) hb); obtain ⟨Ao4100186, co4100186, eo4100186⟩ := Kd.R_slice HO186.out; subst eo4100186; clear hA_ A5) | ((with_reducible refine gate_callee (f := 12) rfl ?_); refine goesL_ (some 14) rfl rfl Try.func12 (by kernel_rfl) rfl #[.slice Ao4100186 t184.length co4100186] rfl (by (try simp only [lm_, lo_, ln_]); try rfl) ?_; (with_reducible refine (spec_PortsOk.calls k _ _ t184 t187 _ ?side1 ?side2 A6.out).mono ?_); (case side1 => repeat (first | exact (Kd.R_reads' HO186.out).2.2 | (with_reducible refine Kd.C_alloc ?_ _) | (with_reducible refine Kd.C_drewN ?_ _) | (with_reducible refine Kd.C_drew ?_))); (case side2 => exact (Kd.R_reads' HO186.out).2.1); rintro e w17440 ⟨rfl, hb⟩; refine ⟨_, rfl, ?_⟩; replace HO186 := mk_ (Kd.R_below (Kd.ur_ HO186.out) hb); replace HB := mk_ (below_step (ub_ HB.out) hb)) | ((with_reducible refine gate_callee (f := 13) rfl ?_); have hA_ := A7.out; refine goesL_ (some 16) rfl rfl Try.func13 (by kernel_rfl) rfl #[.slice A0 l0.length c0] rfl (by (try simp only [lm_, lo_, ln_]); try rfl) ?_; (with_reducible refine (laws_toPortS.calls k _ _ l0 t188 _ ?side1 ?side2 A7.out).mono ?_); (case side1 => repeat (first | exact (Kd.C_below HR0.out HB.out) | (with_reducible refine Kd.C_alloc ?_ _) | (with_reducible refine Kd.C_drewN ?_ _) | (with_reducible refine Kd.C_drew ?_))); (case side2 => exact HC0.out); rintro e w17480 ⟨v17481, rfl, ho17402, hb⟩; refine ⟨_, rfl, ?_⟩; have n0_ := mk_ (Kd.R_elder' (Kd.ur_ HO186.out) (Kd.R_base ho17402) hb); have HO190 := mk_ (Kd.R_lower (Kd.R_new' ho17402 (Kd.R_lt (Kd.ur_ HO186.out))) (below_size (ub_ HB.out))); replace HB := mk_ (below_step (ub_ HB.out) hb); replace HO186 := n0_; clear n0_; obtain ⟨Ao4120190, co4120190, eo4120190⟩ := Kd.R_slice HO190.out; subst eo4120190; clear hA_ A7) | ((with_reducible refine gate_callee (f := 14) rfl ?_); refine goesL_ (some 18) rfl rfl Try.func14 (by kernel_rfl) rfl #[.slice Ao4120190 t188.length co4120190] rfl (by (try simp only [lm_, lo_, ln_]); try rfl) ?_; (with_reducible refine (impl_PortsOk.calls _ _ t188 t191 _ ?side1 ?side2 A8.out).mono ?_); (case side1 => repeat (first | exact (Kd.R_reads' HO190.out).2.2 | (with_reducible refine Kd.C_alloc ?_ _) | (with_reducible refine Kd.C_drewN ?_ _) | (with_reducible refine Kd.C_drew ?_))); (case side2 => exact (Kd.R_reads' HO190.out).2.1); rintro e w17520 ⟨rfl, hb⟩; refine ⟨_, rfl, ?_⟩; replace HO186 := mk_ (Kd.R_below (Kd.ur_ HO186.out) hb); replace HO190 := mk_ (Kd.R_below (Kd.ur_ HO190.out) hb); replace HB := mk_ (below_step (ub_ HB.out) hb)) | ((with_reducible refine gate_callee (f := 13) rfl ?_); have hA_ := A17.out; refine goesL_ (some 24) rfl rfl Try.func13 (by kernel_rfl) rfl #[.slice A0 l0.length c0] rfl (by (try simp only [lm_, lo_, ln_]); try rfl) ?_; (with_reducible refine (laws_toPortS.calls k _ _ l0 t192 _ ?side1 ?side2 A17.out).mono ?_); (case side1 => repeat (first | exact (Kd.C_below HR0.out HB.out) | (with_reducible refine Kd.C_alloc ?_ _) | (with_reducible refine Kd.C_drewN ?_ _) | (with_reducible refine Kd.C_drew ?_))); (case side2 => exact HC0.out); rintro e w17560 ⟨v17561, rfl, ho17402, hb⟩; refine ⟨_, rfl, ?_⟩; have n0_ := mk_ (Kd.R_elder' (Kd.ur_ HO186.out) (Kd.R_base ho17402) hb); have n1_ := mk_ (Kd.R_elder' (Kd.ur_ HO190.out) (Kd.R_base ho17402) hb); have HO194 := mk_ (Kd.R_lower (Kd.R_new' (Kd.R_new' ho17402 (Kd.R_lt (Kd.ur_ HO186.out))) (Kd.R_lt (Kd.ur_ HO190.out))) (below_size (ub_ HB.out))); replace HB := mk_ (below_step (ub_ HB.out) hb); replace HO186 := n0_; replace HO190 := n1_; clear n0_ n1_; obtain ⟨Ao4140194, co4140194, eo4140194⟩ := Kd.R_slice HO194.out; subst eo4140194; clear hA_ A17) | ((with_reducible refine gate_callee (f := 15) rfl ?_); refine goesL_ (some 25) rfl rfl Try.func15 (by kernel_rfl) rfl #[.slice Ao4120190 t188.length co4120190, .slice Ao4140194 t192.length co4140194] rfl (by (try simp only [lm_, lo_, ln_]); try rfl) ?_; (with_reducible refine (laws_eqPortS.calls k _ _ t188 _ _ t192 true _ ?side1 ?side2 ?side3 ?side4 A18.out).mono ?_); (case side1 => repeat (first | exact (Kd.R_reads' HO190.out).2.2 | (with_reducible refine Kd.C_alloc ?_ _) | (with_reducible refine Kd.C_drewN ?_ _) | (with_reducible refine Kd.C_drew ?_))); (case side2 => exact (Kd.R_reads' HO190.out).2.1); (case side3 => repeat (first | exact (Kd.R_reads' HO194.out).2.2 | (with_reducible refine Kd.C_alloc ?_ _) | (with_reducible refine Kd.C_drewN ?_ _) | (with_reducible refine Kd.C_drew ?_))); (case side4 => exact (Kd.R_reads' HO194.out).2.1); rintro e w17600 ⟨rfl, hb⟩; refine ⟨_, rfl, ?_⟩; replace HO186 := mk_ (Kd.R_below (Kd.ur_ HO186.out) hb); replace HO190 := mk_ (Kd.R_below (Kd.ur_ HO190.out) hb); replace HO194 := mk_ (Kd.R_below (Kd.ur_ HO194.out) hb); replace HB := mk_ (below_step (ub_ HB.out) hb)) | ((with_reducible refine gate_callee (f := 15) rfl ?_); refine goesL_ (some 25) rfl rfl Try.func15 (by kernel_rfl) rfl #[.slice Ao4120190 t188.length co4120190, .slice Ao4140194 t192.length co4140194] rfl (by (try simp only [lm_, lo_, ln_]); try rfl) ?_; (with_reducible refine (laws_eqPortS.calls k _ _ t188 _ _ t192 false _ ?side1 ?side2 ?side3 ?side4 A18.out).mono ?_); (case side1 => repeat (first | exact (Kd.R_reads' HO190.out).2.2 | (with_reducible refine Kd.C_alloc ?_ _) | (with_reducible refine Kd.C_drewN ?_ _) | (with_reducible refine Kd.C_drew ?_))); (case side2 => exact (Kd.R_reads' HO190.out).2.1); (case side3 => repeat (first | exact (Kd.R_reads' HO194.out).2.2 | (with_reducible refine Kd.C_alloc ?_ _) | (with_reducible refine Kd.C_drewN ?_ _) | (with_reducible refine Kd.C_drew ?_))); (case side4 => exact (Kd.R_reads' HO194.out).2.1); rintro e w17600 ⟨rfl, hb⟩; refine ⟨_, rfl, ?_⟩; replace HO186 := mk_ (Kd.R_below (Kd.ur_ HO186.out) hb); replace HO190 := mk_ (Kd.R_below (Kd.ur_ HO190.out) hb); replace HO194 := mk_ (Kd.R_below (Kd.ur_ HO194.out) hb); replace HB := mk_ (below_step (ub_ HB.out) hb)))
  go_ret
  exact ⟨by first | rfl | (simp [errW_none, errW_some] <;> rfl) | (simp [*, errW_none, errW_some] <;> rfl), by repeat (first | (with_reducible first | exact HB.out | apply na_ | apply nn_ | apply nw_) | exact HB.out)⟩

end Go.Proofs.Ytkkibccnpkbbjaa.MFnExactPortsOk
