/- Functions that the law FnExactEarRanges reaches, each with the proof that the machine's call comes to just its answer; no conditions but those that each theorem states. Printed by a program of this session over the kit's print. -/
import Derived.Test.YtgfaamcihlojdafMFnExactEarRangesx0
import Derived.Test.YtgfaamcihlojdafMFnExactEarRangesx2
namespace Go.Proofs.Ytgfaamcihlojdaf.MFnExactEarRanges
open Go.RowKit Go.Proofs.YtgfaamcihlojdafV.PrintWords Go.Proofs.YtgfaamcihlojdafV.PrintLast Go.Proofs.YtgfaamcihlojdafV.PrintMore
attribute [local go_sem] max2_int min2_int max_two min_two max_three min_three max_four min_four   -- for this text's walks alone
set_option linter.unusedVariables false
set_option linter.unusedSimpArgs false

/-! ### impl_Range_115: function 115 -/
set_option maxHeartbeats 400000 in
set_option maxRecDepth 100000 in
theorem impl_Range_115.calls (A : Option Addr) (n c : Nat) (w : World) (h : n ≤ c) (hn : n ≤ 9223372036854775807) :
    Calls Try.prog 115 #[.slice A n c] w fun e w' => e = .returned (.slice A n n) ∧ Drawn0 w w' := by
  obtain ⟨i0, hi0, _, hsz, _⟩ := info_parts info40
  have hcut : ∀ w : World, (Instr.slice 34 (.slice A n c) none (some (.int .i64 n)) (some (.int .i64 n))).run Try.prog w = .ok (.slice A n n) w := by
    intro w
    go_simp
  go_enter Try.func115, Try.ntmps115
  go_wp2
  go_ret
  exact ⟨rfl, Drawn0.refl _⟩

/-! ### impl_Range_96: function 96 -/
def impl_Range_96.f (l0 : List (S40)) : Option (List (S40)) := if l0.length < 8796093022208 then some l0 else none
set_option maxHeartbeats 400000 in
set_option maxRecDepth 100000 in
theorem impl_Range_96.calls (A0 : Option Addr) (c0 : Nat) (l0 : List (S40)) (r : List (S40)) (w : World) (hr0 : Kd.C k40 w A0 l0.length l0) (hc0 : l0.length ≤ c0) (h : impl_Range_96.f l0 = some r) :
    Calls Try.prog 96 #[.slice A0 l0.length c0] w fun e w' => ∃ v0_ : Value, e = .returned (v0_) ∧ Kd.R k40 40 w' w.heap.size (fun _ => True) v0_ r ∧ Below w.heap.size w w' := by
  have hlim : l0.length < 8796093022208 := by
    unfold impl_Range_96.f at h
    by_cases hl : l0.length < 8796093022208
    · exact hl
    · rw [if_neg hl] at h; cases h
  obtain rfl : l0 = r := by
    unfold impl_Range_96.f at h
    rw [if_pos hlim] at h
    exact Option.some.inj h
  clear h
  have HR := Aside0.mk hr0
  have HL := Aside0.mk hlim
  have HI := Aside0.mk info40
  clear hr0 hc0 hlim
  by_cases hz : l0.length = 0
  · have hz1 : ((l0.length : Int) == 0) = true := by simpa using hz
    have HZ := Aside0.mk hz
    clear hz
    go_enter Try.func96, Try.ntmps96
    go_wp2_with fail
    go_ret
    refine ⟨_, rfl, ?_, Below.refl _ _⟩
    rw [List.eq_nil_of_length_eq_zero HZ.out]
    exact Kd.R_nil _ _ _ _ _
  · have hz1 : ((l0.length : Int) == 0) = false := by simpa using hz
    clear hz
    go_enter Try.func96, Try.ntmps96
    go_wp2_with (first | (at_builtin; refine Kd.R_append_rows k40 (w0 := w) w.heap.size rfl (.const (.slice none 0 0)) (.tmp 6) 34 40 (.agg #[(.int .i64 0), (.int .i64 0)]) 16 rfl Try.underlying34 HI.out rfl (by decide) (by omega) (.slice none 0 0) ([] : List (S40)) l0 _ _ _ (fun _ => True) (fun _ => False) rfl rfl ?aO ?aR (fun _ _ h => h) (fun _ h => h.elim) ?aF ?aB ?aS ?aL ?_; (case aO => exact Kd.R_nil _ _ _ _ _); (case aR => exact HR.out); (case aF => exact fun _ _ => trivial); (case aB => exact Below.refl _ _); (case aS => exact Nat.le_refl _); (case aL => have := HL.out; simp; omega); intro v1 w1 ho hb hg hat; rw [List.nil_append] at ho; obtain ⟨A1, c1, hv1, hl1, hc1⟩ := Kd.R_reads ho; subst hv1; have HO := Aside0.mk ho; have HB := Aside0.mk hb; have hn1 := hc1.2.1; clear ho hb hg hat hc1) | (go_at_call 115; (with_reducible refine (impl_Range_115.calls _ _ _ _ hl1 hn1).mono ?_); rintro e w' ⟨rfl, ⟨nd, rfl⟩⟩))
    go_ret
    exact ⟨_, rfl, Kd.R_clip (by exact HO.out) rfl, by (first | exact HB.out | exact pw_below_drewN HB.out _)⟩

/-! ### impl_Ear_ranges: function 53 -/
def impl_Ear_ranges.l0 : Nat → List (S40) → List (S42) → Int → Int → Option ((List (S40)))
 | 0, _, _, _, _ => none
 | k + 1, x3, x8, x9, x10 => if x10 < x9 then (if 0 ≤ x10 then (if x10 < (x8.length : Int) then (if (x3.length : Int) > 0 then (if 0 ≤ (wrap64 ((x3.length : Int) - 1)) then (if (wrap64 ((x3.length : Int) - 1)) < (x3.length : Int) then (if ((rd_T40 x3 (wrap64 ((x3.length : Int) - 1))).f1) = ((rd_T42 x8 x10).f0) then (impl_Ear_ranges.l0 k (x3.set ((wrap64 ((x3.length : Int) - 1)) : Int).toNat (⟨(rd_T40 x3 (wrap64 ((x3.length : Int) - 1))).f0, wrap64 (((rd_T40 x3 (wrap64 ((x3.length : Int) - 1))).f1) + 1)⟩ : S40)) x8 x9 (wrap64 (x10 + 1))) else (if x3.length < 8796093022208 then (impl_Ear_ranges.l0 k (x3 ++ [(⟨(rd_T42 x8 x10).f0, wrap64 (((rd_T42 x8 x10).f0) + 1)⟩ : S40)]) x8 x9 (wrap64 (x10 + 1))) else (none))) else (none)) else (none)) else (if x3.length < 8796093022208 then (impl_Ear_ranges.l0 k (x3 ++ [(⟨(rd_T42 x8 x10).f0, wrap64 (((rd_T42 x8 x10).f0) + 1)⟩ : S40)]) x8 x9 (wrap64 (x10 + 1))) else (none))) else (none)) else (none)) else (if 0 ≤ (mn (x3.length : Int) 2) then (if (mn (x3.length : Int) 2) ≤ (x3.length : Int) then ((impl_Range_96.f (x3.take ((mn (x3.length : Int) 2) : Int).toNat)).bind fun t127 => (some t127)) else (none)) else (none))
def impl_Ear_ranges.f (k : Nat) (a0_0 : Int) (a0_1 : Int) (l0_2 : List Int) (l0_3 : List (S42)) : Option ((List (S40))) := impl_Ear_ranges.l0 k ([] : List (S40)) l0_3 (l0_3.length : Int) 0
theorem impl_Ear_ranges.mono_l : ∀ k, (∀ y0 y1 y2 y3, LeO (impl_Ear_ranges.l0 k y0 y1 y2 y3) (impl_Ear_ranges.l0 (k + 1) y0 y1 y2 y3))
 | 0 => fun _ _ _ _ r h => by simp [impl_Ear_ranges.l0] at h
 | k + 1 => by
  have ih0 := impl_Ear_ranges.mono_l k
  ·intro y0 y1 y2 y3
   unfold impl_Ear_ranges.l0
   repeat' first
   | (with_reducible exact ih0 _ _ _ _)
   | (with_reducible exact LeO.refl _)
   | (with_reducible exact LeO.none _)
   | (with_reducible refine LeO.ite ?_ ?_)
   | (with_reducible refine LeO.bind ?_ (fun _ => ?_))
   | exact ih0 _ _ _ _
   | exact LeO.none _
   | refine LeO.ite ?_ ?_
   | refine LeO.bind ?_ (fun _ => ?_)
theorem impl_Ear_ranges.mono : ∀ a0 a1 a2 a3 k, LeO (impl_Ear_ranges.f k a0 a1 a2 a3) (impl_Ear_ranges.f (k + 1) a0 a1 a2 a3) := by
 intro a0 a1 a2 a3 k
 have ih0 := impl_Ear_ranges.mono_l k
 unfold impl_Ear_ranges.f
 repeat' first
   | (with_reducible exact ih0 _ _ _ _)
   | (with_reducible exact LeO.refl _)
   | (with_reducible exact LeO.none _)
   | (with_reducible refine LeO.ite ?_ ?_)
   | (with_reducible refine LeO.bind ?_ (fun _ => ?_))
   | exact ih0 _ _ _ _
   | exact LeO.none _
   | refine LeO.ite ?_ ?_
   | refine LeO.bind ?_ (fun _ => ?_)
set_option maxHeartbeats 8000000 in
set_option maxRecDepth 100000 in
theorem impl_Ear_ranges.calls (k : Nat) (a0_0 : Int) (a0_1 : Int) (A0_2 : Option Addr) (c0_2 : Nat) (l0_2 : List Int) (A0_3 : Option Addr) (c0_3 : Nat) (l0_3 : List (S42)) (r : List (S40)) (w : World) (hr0_2 : Kd.C (Kd.int .u8) w A0_2 l0_2.length l0_2) (hc0_2 : l0_2.length ≤ c0_2) (hr0_3 : Kd.C k42 w A0_3 l0_3.length l0_3) (hc0_3 : l0_3.length ≤ c0_3) (h : impl_Ear_ranges.f k a0_0 a0_1 l0_2 l0_3 = some r) :
  Calls Try.prog 53 #[.agg #[.int .i64 a0_0, .int .i64 a0_1, .slice A0_2 l0_2.length c0_2, .slice A0_3 l0_3.length c0_3]] w fun e w' => ∃ v0_ : Value, e = .returned (v0_) ∧ Kd.R k40 40 w' w.heap.size (fun _ => True) v0_ r ∧ Below w.heap.size w w' := by
 have hu32 := Try.underlying32
 have hu42 := Try.underlying42
 have hu40 := Try.underlying40
 have HR0_2 := mk_ hr0_2
 have HC0_2 := mk_ hc0_2
 clear hr0_2 hc0_2
 have HR0_3 := mk_ hr0_3
 have HC0_3 := mk_ hc0_3
 clear hr0_3 hc0_3
 have HB := mk_ (Below.refl w.heap.size w)
 have H : (impl_Ear_ranges.l0 k ([] : List (S40)) l0_3 (l0_3.length : Int) 0) = some r := h
 clear h
 have H' := mk_ H
 clear H
 go_enter Try.func53, Try.ntmps53
 go_wp2_with (first | ((with_reducible refine gate_dst (N := 1) rfl ?_); refine box_event ?hg (N := 1) ?hd (cs := #[.int .i64 a0_0, .int .i64 a0_1, .slice A0_2 l0_2.length c0_2, .slice A0_3 l0_3.length c0_3]) (t := 32) ?hr ?_; (case hd => rfl); (case hg => rfl); (case hr => first | (go_simp; done) | (go_simp; rfl)); intro gb111 hg w2 hbox hb; have n0_ := mk_ (below_step (ub_ HB.out) hb); have n1_ := mk_ (hbox); have n2_ := mk_ ((by rw [hg]; exact (below_size (ub_ HB.out)) : w.heap.size ≤ gb111)); have n3_ := mk_ ((by rw [hg]; exact (below_size (ub_ HB.out)) : w.heap.size ≤ gb111)); clear HB; have HB := n0_; have BK111 := n1_; have GW111 := n2_; have GE111 := ge_ n3_.out; clear n0_ n1_ n2_ n3_; clear hb hbox hg; have hcz3_0 : w2.cell? ⟨gb111, 0, none⟩ = some (.int .i64 a0_0) := (blk_cell BK111.out 0).trans rfl; have hcz3_1 : w2.cell? ⟨gb111, 1, none⟩ = some (.int .i64 a0_1) := (blk_cell BK111.out 1).trans rfl; have hcz3_2 : w2.cell? ⟨gb111, 2, none⟩ = some (.slice A0_2 l0_2.length c0_2) := (blk_cell BK111.out 2).trans rfl; have hcz3_3 : w2.cell? ⟨gb111, 3, none⟩ = some (.slice A0_3 l0_3.length c0_3) := (blk_cell BK111.out 3).trans rfl; have hfz3_0 := blk_frozen BK111.out 0; have hfz3_1 := blk_frozen BK111.out 1; have hfz3_2 := blk_frozen BK111.out 2; have hfz3_3 := blk_frozen BK111.out 3))
 repeat (go_quiet (first | ((with_reducible refine gate_dst (N := 1) rfl ?_); refine box_event ?hg (N := 1) ?hd (cs := #[.int .i64 a0_0, .int .i64 a0_1, .slice A0_2 l0_2.length c0_2, .slice A0_3 l0_3.length c0_3]) (t := 32) ?hr ?_; (case hd => rfl); (case hg => rfl); (case hr => first | (go_simp; done) | (go_simp; rfl)); intro gb111 hg w2 hbox hb; have n0_ := mk_ (below_step (ub_ HB.out) hb); have n1_ := mk_ (hbox); have n2_ := mk_ ((by rw [hg]; exact (below_size (ub_ HB.out)) : w.heap.size ≤ gb111)); have n3_ := mk_ ((by rw [hg]; exact (below_size (ub_ HB.out)) : w.heap.size ≤ gb111)); clear HB; have HB := n0_; have BK111 := n1_; have GW111 := n2_; have GE111 := ge_ n3_.out; clear n0_ n1_ n2_ n3_; clear hb hbox hg; have hcz3_0 : w2.cell? ⟨gb111, 0, none⟩ = some (.int .i64 a0_0) := (blk_cell BK111.out 0).trans rfl; have hcz3_1 : w2.cell? ⟨gb111, 1, none⟩ = some (.int .i64 a0_1) := (blk_cell BK111.out 1).trans rfl; have hcz3_2 : w2.cell? ⟨gb111, 2, none⟩ = some (.slice A0_2 l0_2.length c0_2) := (blk_cell BK111.out 2).trans rfl; have hcz3_3 : w2.cell? ⟨gb111, 3, none⟩ = some (.slice A0_3 l0_3.length c0_3) := (blk_cell BK111.out 3).trans rfl; have hfz3_0 := blk_frozen BK111.out 0; have hfz3_1 := blk_frozen BK111.out 1; have hfz3_2 := blk_frozen BK111.out 2; have hfz3_3 := blk_frozen BK111.out 3)); try go_wp2_with (first | ((with_reducible refine gate_dst (N := 1) rfl ?_); refine box_event ?hg (N := 1) ?hd (cs := #[.int .i64 a0_0, .int .i64 a0_1, .slice A0_2 l0_2.length c0_2, .slice A0_3 l0_3.length c0_3]) (t := 32) ?hr ?_; (case hd => rfl); (case hg => rfl); (case hr => first | (go_simp; done) | (go_simp; rfl)); intro gb111 hg w2 hbox hb; have n0_ := mk_ (below_step (ub_ HB.out) hb); have n1_ := mk_ (hbox); have n2_ := mk_ ((by rw [hg]; exact (below_size (ub_ HB.out)) : w.heap.size ≤ gb111)); have n3_ := mk_ ((by rw [hg]; exact (below_size (ub_ HB.out)) : w.heap.size ≤ gb111)); clear HB; have HB := n0_; have BK111 := n1_; have GW111 := n2_; have GE111 := ge_ n3_.out; clear n0_ n1_ n2_ n3_; clear hb hbox hg; have hcz3_0 : w2.cell? ⟨gb111, 0, none⟩ = some (.int .i64 a0_0) := (blk_cell BK111.out 0).trans rfl; have hcz3_1 : w2.cell? ⟨gb111, 1, none⟩ = some (.int .i64 a0_1) := (blk_cell BK111.out 1).trans rfl; have hcz3_2 : w2.cell? ⟨gb111, 2, none⟩ = some (.slice A0_2 l0_2.length c0_2) := (blk_cell BK111.out 2).trans rfl; have hcz3_3 : w2.cell? ⟨gb111, 3, none⟩ = some (.slice A0_3 l0_3.length c0_3) := (blk_cell BK111.out 3).trans rfl; have hfz3_0 := blk_frozen BK111.out 0; have hfz3_1 := blk_frozen BK111.out 1; have hfz3_2 := blk_frozen BK111.out 2; have hfz3_3 := blk_frozen BK111.out 3)))
 go_loopg [3, 10] k (fun kq v3 v10 w' => ∃ (x3_1 : List (S40)) (x10_1 : Int), v10 = .int .i64 x10_1 ∧ Aside0 (impl_Ear_ranges.l0 kq x3_1 l0_3 (l0_3.length : Int) x10_1 = some r) ∧ Aside0 (kq ≤ k) ∧ Aside0 (Kd.R k40 40 w' w.heap.size (fun _ => True) v3 x3_1) ∧ Aside0 (w'.heap[gb111]? = some (.cells #[.int .i64 a0_0, .int .i64 a0_1, (.slice A0_2 l0_2.length c0_2), (.slice A0_3 l0_3.length c0_3)] 32 (0, 0))) ∧ Aside0 (Below w.heap.size w w'))
 case atStart => exact ⟨(([] : List (S40))), (0), (by first | rfl | (simp; done) | (simp [*]; done)), H', ⟨Nat.le_refl _⟩, ⟨by first | exact Kd.R_nil _ _ _ _ _ | exact Kd.N_nil _ _ _ _ _ | exact Kd.V_nil _ _ _ _ _ | exact Kd.Q_nil _ _ _ _ _ | exact Kd.S_nil _ _ _ _ _⟩, ⟨u_ BK111.out⟩, ⟨us_ HB.out⟩⟩
 case round =>
  clear H'
  try clear p2
  try clear hcz3_0
  try clear hcz3_1
  try clear hcz3_2
  try clear hcz3_3
  try clear hfz3_0
  try clear hfz3_1
  try clear hfz3_2
  try clear hfz3_3
  obtain ⟨x3_1, x10_1, rfl, HA, HK1, HO_3, BK111, HB⟩ := hrel
  cases gk with
  | zero => exact absurd HA.out (by simp [impl_Ear_ranges.l0])
  | succ k1 =>
   have H := HA.out
   clear HA
   simp only [impl_Ear_ranges.l0] at H
   by_cases c4 : x10_1 < (l0_3.length : Int)
   rotate_left
   ·rw [if_neg c4] at H
    have c4b0 : decide (x10_1 < (l0_3.length : Int)) = false := decide_eq_false c4
    clear c4
    obtain ⟨ji33, hji33⟩ : ∃ j_ : Int, (mn (x3_1.length : Int) 2) = j_ := ⟨_, rfl⟩
    replace H : (if 0 ≤ (ji33) then (if (ji33) ≤ (x3_1.length : Int) then ((impl_Range_96.f (x3_1.take ((ji33) : Int).toNat)).bind fun t127 => (some t127)) else (none)) else (none)) = some r := by first | (rw [hji33] at H; exact H) | (simp only [hji33] at H ⊢; exact H)
    have hji33_ : (if 2 < (x3_1.length : Int) then 2 else (x3_1.length : Int)) = ji33 := hji33
    by_cases c34 : 0 ≤ (ji33)
    rotate_left
    ·rw [if_neg c34] at H
     exact absurd H (by simp)
    rw [if_pos c34] at H
    have c34b0 := eq_true c34
    have c34b1 : decide (0 ≤ (ji33)) = true := decide_eq_true c34
    clear c34
    by_cases c35 : (ji33) ≤ (x3_1.length : Int)
    rotate_left
    ·rw [if_neg c35] at H
     exact absurd H (by simp)
    rw [if_pos c35] at H
    have c35b0 := eq_true c35
    have c35b1 : decide ((ji33) ≤ (x3_1.length : Int)) = true := decide_eq_true c35
    clear c35
    obtain ⟨y123, hy123⟩ : ∃ y_ : List (S40), y_ = (x3_1.take ((ji33) : Int).toNat) := ⟨_, rfl⟩
    replace H : ((impl_Range_96.f y123).bind fun t127 => (some t127)) = some r := by first | (rw [hy123]; with_reducible exact H) | (have H2_ := (Option.bind_some _ _).symm.trans H; rw [hy123]; with_reducible exact H2_) | (have H2_ := (Option.bind_some _ _).symm.trans H; with_reducible exact H2_) | with_reducible exact H | (rw [hy123]; exact H) | exact H
    have Ny123 := mk_ hy123
    clear hy123
    replace H := Option.bind_eq_some_iff.mp H
    obtain ⟨t127, A360, H⟩ := H
    replace H : (some t127) = some r := H
    have A36 := mk_ A360
    clear A360
    obtain rfl := Option.some.inj H
    obtain ⟨Ao37, co37, eo37⟩ := Kd.R_slice HO_3.out
    subst eo37
    have q38 : ((ji33) : Int) ≤ ((x3_1.length : Int) : Int) := of_decide_eq_true (by first | (with_reducible assumption) | assumption)
    obtain ⟨i038, hi038, _, hsz38, _⟩ := info_parts info40
    have hroom38 : x3_1.length ≤ co37 := (Kd.R_reads' HO_3.out).2.1
    have hC38 : Kd.C k40 _ Ao37 x3_1.length x3_1 := (Kd.R_reads' HO_3.out).2.2
    have hcut38 := cut_to (P := Try.prog) 34 40 .i64 Try.underlying34 hi038 Ao37 x3_1.length co37 (ji33) (of_decide_eq_true (by first | (with_reducible assumption) | assumption)) q38 hroom38
    have hr38 := Kd.C_take (m := ((ji33) : Int).toNat) hC38 (by omega)
    have hy38 : y123.length = ((ji33) : Int).toNat := (by rw [Ny123.out, List.length_take]; omega)
    rw [← Ny123.out] at hr38
    rw [← hy38] at hcut38
    have HR126 := mk_ hr38
    have HC126 := mk_ (show y123.length ≤ co37 from by omega)
    clear hr38 hC38 hroom38 hi038 hsz38
    have KY38 := mk_ hy38
    clear hy38
    have KL38 := mk_ (show ((ji33) : Int).toNat ≤ x3_1.length from by omega)
    replace q38 := eq_true q38
    go_wp2_with (first | (go_at_call 96; (with_reducible refine (impl_Range_96.calls _ _ y123 t127 _ ?side1 ?side2 A36.out).mono ?_); (case side1 => repeat (first | exact (by repeat (first | (with_reducible exact HR126.out) | (with_reducible refine Kd.C_alloc ?_ _) | (with_reducible refine Kd.C_drewN ?_ _) | (with_reducible refine Kd.C_drew ?_) | exact HR126.out)) | (with_reducible refine Kd.C_alloc ?_ _) | (with_reducible refine Kd.C_drewN ?_ _) | (with_reducible refine Kd.C_drew ?_))); (case side2 => exact HC126.out); rintro e w39 ⟨v128, rfl, ho0, hb⟩; have n0_ := mk_ (Kd.R_elder' (Kd.ur_ HO_3.out) (Kd.R_base ho0) hb); have n1_ := mk_ (Kd.R_lower (Kd.R_new' ho0 (Kd.R_lt (Kd.ur_ HO_3.out))) (below_size (us_ HB.out))); have n2_ := mk_ (blk_below (u_ BK111.out) hb); have n3_ := mk_ (Kd.C_below (by repeat (first | (with_reducible exact HR126.out) | (with_reducible refine Kd.C_alloc ?_ _) | (with_reducible refine Kd.C_drewN ?_ _) | (with_reducible refine Kd.C_drew ?_) | exact HR126.out)) hb); have n4_ := mk_ (below_step (us_ HB.out) hb); clear HO_3; clear BK111; clear HR126; clear HB; have HO_3 := n0_; have HO129 := n1_; have BK111 := n2_; have HR126 := n3_; have HB := n4_; clear n0_ n1_ n2_ n3_ n4_; (try clear hb); (try clear hb2); (try clear hk); (try clear hi); (try clear ho0)))
    repeat (go_quiet (first | (go_at_call 96; (with_reducible refine (impl_Range_96.calls _ _ y123 t127 _ ?side1 ?side2 A36.out).mono ?_); (case side1 => repeat (first | exact (by repeat (first | (with_reducible exact HR126.out) | (with_reducible refine Kd.C_alloc ?_ _) | (with_reducible refine Kd.C_drewN ?_ _) | (with_reducible refine Kd.C_drew ?_) | exact HR126.out)) | (with_reducible refine Kd.C_alloc ?_ _) | (with_reducible refine Kd.C_drewN ?_ _) | (with_reducible refine Kd.C_drew ?_))); (case side2 => exact HC126.out); rintro e w39 ⟨v128, rfl, ho0, hb⟩; have n0_ := mk_ (Kd.R_elder' (Kd.ur_ HO_3.out) (Kd.R_base ho0) hb); have n1_ := mk_ (Kd.R_lower (Kd.R_new' ho0 (Kd.R_lt (Kd.ur_ HO_3.out))) (below_size (us_ HB.out))); have n2_ := mk_ (blk_below (u_ BK111.out) hb); have n3_ := mk_ (Kd.C_below (by repeat (first | (with_reducible exact HR126.out) | (with_reducible refine Kd.C_alloc ?_ _) | (with_reducible refine Kd.C_drewN ?_ _) | (with_reducible refine Kd.C_drew ?_) | exact HR126.out)) hb); have n4_ := mk_ (below_step (us_ HB.out) hb); clear HO_3; clear BK111; clear HR126; clear HB; have HO_3 := n0_; have HO129 := n1_; have BK111 := n2_; have HR126 := n3_; have HB := n4_; clear n0_ n1_ n2_ n3_ n4_; (try clear hb); (try clear hb2); (try clear hk); (try clear hi); (try clear ho0))); try go_wp2_with (first | (go_at_call 96; (with_reducible refine (impl_Range_96.calls _ _ y123 t127 _ ?side1 ?side2 A36.out).mono ?_); (case side1 => repeat (first | exact (by repeat (first | (with_reducible exact HR126.out) | (with_reducible refine Kd.C_alloc ?_ _) | (with_reducible refine Kd.C_drewN ?_ _) | (with_reducible refine Kd.C_drew ?_) | exact HR126.out)) | (with_reducible refine Kd.C_alloc ?_ _) | (with_reducible refine Kd.C_drewN ?_ _) | (with_reducible refine Kd.C_drew ?_))); (case side2 => exact HC126.out); rintro e w39 ⟨v128, rfl, ho0, hb⟩; have n0_ := mk_ (Kd.R_elder' (Kd.ur_ HO_3.out) (Kd.R_base ho0) hb); have n1_ := mk_ (Kd.R_lower (Kd.R_new' ho0 (Kd.R_lt (Kd.ur_ HO_3.out))) (below_size (us_ HB.out))); have n2_ := mk_ (blk_below (u_ BK111.out) hb); have n3_ := mk_ (Kd.C_below (by repeat (first | (with_reducible exact HR126.out) | (with_reducible refine Kd.C_alloc ?_ _) | (with_reducible refine Kd.C_drewN ?_ _) | (with_reducible refine Kd.C_drew ?_) | exact HR126.out)) hb); have n4_ := mk_ (below_step (us_ HB.out) hb); clear HO_3; clear BK111; clear HR126; clear HB; have HO_3 := n0_; have HO129 := n1_; have BK111 := n2_; have HR126 := n3_; have HB := n4_; clear n0_ n1_ n2_ n3_ n4_; (try clear hb); (try clear hb2); (try clear hk); (try clear hi); (try clear ho0))))
    go_ret
    exact ⟨_, by first | rfl | (simp [errW_none, errW_some] <;> rfl) | (simp only [← hji33]; first | rfl | (simp [errW_none, errW_some] <;> rfl)) | (simp [*, errW_none, errW_some] <;> rfl), by (with_reducible repeat (first | apply Kd.R_alloc | apply Kd.R_drewN | apply Kd.R_drew)); exact Kd.R_mono HO129.out (fun _ hk => trivial), us_ HB.out⟩
   rw [if_pos c4] at H
   have c4b0 : decide (x10_1 < (l0_3.length : Int)) = true := decide_eq_true c4
   clear c4
   by_cases c5 : 0 ≤ x10_1
   rotate_left
   ·rw [if_neg c5] at H
    exact absurd H (by simp)
   rw [if_pos c5] at H
   have c5b0 : decide (0 ≤ x10_1) = true := decide_eq_true c5
   clear c5
   by_cases c6 : x10_1 < (l0_3.length : Int)
   rotate_left
   ·rw [if_neg c6] at H
    exact absurd H (by simp)
   rw [if_pos c6] at H
   have c6b0 : decide (x10_1 < (l0_3.length : Int)) = true := decide_eq_true c6
   clear c6
   by_cases c7 : (x3_1.length : Int) > 0
   rotate_left
   ·rw [if_neg c7] at H
    have c7b0 : decide (0 < (x3_1.length : Int)) = false := decide_eq_false c7
    have c7b1 : decide (0 < x3_1.length) = false := decide_eq_false (by omega)
    clear c7
    by_cases c27 : x3_1.length < 8796093022208
    rotate_left
    ·rw [if_neg c27] at H
     exact absurd H (by simp)
    rw [if_pos c27] at H
    have LMc27 := mk_ c27
    clear c27
    obtain ⟨y120, hy120⟩ : ∃ y_ : List (S40), y_ = (x3_1 ++ [(⟨(rd_T42 l0_3 x10_1).f0, wrap64 (((rd_T42 l0_3 x10_1).f0) + 1)⟩ : S40)]) := ⟨_, rfl⟩
    replace H : (impl_Ear_ranges.l0 k1 y120 l0_3 (l0_3.length : Int) (wrap64 (x10_1 + 1))) = some r := by first | (rw [hy120]; with_reducible exact H) | (have H2_ := (Option.bind_some _ _).symm.trans H; rw [hy120]; with_reducible exact H2_) | (have H2_ := (Option.bind_some _ _).symm.trans H; with_reducible exact H2_) | with_reducible exact H | (rw [hy120]; exact H) | exact H
    have Ny120 := mk_ hy120
    clear hy120
    have H' := mk_ H
    clear H
    have p112 : 0 ≤ (x10_1 : Int) := of_decide_eq_true (by first | (with_reducible assumption) | assumption)
    have q112 : x10_1 < (l0_3.length : Int) := of_decide_eq_true (by first | (with_reducible assumption) | assumption)
    obtain ⟨ad112, e112, hx112_0, hx112_1⟩ := at_T42 HR0_3.out x10_1 p112 q112
    cases e112
    replace hx112_0 := (HB.out.cell (lc_ w _ hx112_0)).trans hx112_0
    replace hx112_1 := (HB.out.cell (lc_ w _ hx112_1)).trans hx112_1
    replace p112 := eq_true p112
    replace q112 := eq_true q112
    go_wp2_with (first | ((with_reducible refine gate_dst (N := 5) rfl ?_); refine box_event ?hg (N := 5) ?hd (cs := #[.int .i64 0, .int .u8 0]) (t := 42) ?hr ?_; (case hd => rfl); (case hg => rfl); (case hr => first | (go_simp; done) | (go_simp; rfl)); intro gb113 hg w28 hbox hb; have n0_ := mk_ (Kd.R_below (Kd.ur_ HO_3.out) hb); have n1_ := mk_ (blk_below (u_ BK111.out) hb); have n2_ := mk_ (below_step (us_ HB.out) hb); have n3_ := mk_ (hbox); have n4_ := mk_ ((by rw [hg]; exact (below_size (us_ HB.out)) : w.heap.size ≤ gb113)); have n5_ := mk_ ((by rw [hg]; exact (below_size (us_ HB.out)) : w.heap.size ≤ gb113)); have n6_ := mk_ ((by rw [hg]; exact Nat.ne_of_lt (blk_lt (u_ BK111.out)) : gb111 ≠ gb113)); have n7_ := mk_ ((by rw [hg]; exact Nat.ne_of_gt (blk_lt (u_ BK111.out)) : gb113 ≠ gb111)); clear HO_3; clear BK111; clear HB; have HO_3 := n0_; have BK111 := n1_; have HB := n2_; have BK113 := n3_; have GW113 := n4_; have GE113 := ge_ n5_.out; have NB111_113 := nq_ n6_.out; have NB113_111 := nq_ n7_.out; clear n0_ n1_ n2_ n3_ n4_ n5_ n6_ n7_; clear hb hbox hg; have hnb29 := NB113_111.out; have hnc29 := NB111_113.out; have hcz30_0 : w28.cell? ⟨gb113, 0, none⟩ = some (.int .i64 0) := (blk_cell BK113.out 0).trans rfl; have hcz30_1 : w28.cell? ⟨gb113, 1, none⟩ = some (.int .u8 0) := (blk_cell BK113.out 1).trans rfl; have hfz30_0 := blk_frozen BK113.out 0; have hfz30_1 := blk_frozen BK113.out 1; obtain ⟨Ao31, co31, eo31⟩ := Kd.R_slice HO_3.out; subst eo31) | ((with_reducible refine gate_builtin (b := .append) (xs := #[.tmp 38, .tmp 45]) rfl ?_); at_builtin; refine Kd.R_append k40 (w0 := w) w.heap.size rfl (.tmp 38) (.tmp 45) 34 40 (.agg #[(.int .i64 0), (.int .i64 0)]) 16 rfl Try.underlying34 info40 rfl (by decide) (by omega) (.slice Ao31 x3_1.length co31) x3_1 (⟨(rd_T42 l0_3 x10_1).f0, wrap64 (((rd_T42 l0_3 x10_1).f0) + 1)⟩ : S40) [.int .i64 ((rd_T42 l0_3 x10_1).f0), .int .i64 (wrap64 (((rd_T42 l0_3 x10_1).f0) + 1))] (fun _ => True) (fun _ => False) rfl (by first | (go_simp; done) | (go_simp; rfl)) ?aP (fun _ hk => hk.elim) ?aF ?aO ?aB ?aS ?aL ?_; (case aP => exact k40_mkM _ _ _ (⟨(rd_T42 l0_3 x10_1).f0, wrap64 (((rd_T42 l0_3 x10_1).f0) + 1)⟩ : S40)); (case aB => exact (us_ HB.out)); (case aF => exact (fun _ _ => trivial)); (case aO => exact (by (with_reducible repeat (first | apply Kd.R_alloc | apply Kd.R_drewN | apply Kd.R_drew)); exact Kd.R_mono (Kd.R_far (p := ⟨gb113, 1, none⟩) (Kd.R_far (p := ⟨gb113, 0, none⟩) (Kd.R_types HO_3.out BK113.out (by decide)) (fun _ hk => hk.2) (.int .i64 ((rd_T42 l0_3 x10_1).f0))) (fun _ hk => hk.2) (.int .u8 ((rd_T42 l0_3 x10_1).f1))) (fun _ hk => trivial))); (case aS => exact (below_size (us_ HB.out))); (case aL => have := LMc27.out; omega); intro v121 w32 ho hb hg hat; rw [← Ny120.out] at ho; have n0_ := mk_ (blk_grown (g := gb111) (o := .cells #[.int .i64 a0_0, .int .i64 a0_1, .slice A0_2 l0_2.length c0_2, .slice (some ad112) l0_3.length c0_3] 32 (0, 0)) (uf_ BK111.out) hg (Kd.R_ne HO_3.out BK111.out (by decide))); have n1_ := mk_ (blk_grown (g := gb113) (o := .cells #[.int .i64 ((rd_T42 l0_3 x10_1).f0), .int .u8 ((rd_T42 l0_3 x10_1).f1)] 42 (0, 0)) (by (with_reducible repeat (first | refine bn_ ?_ _ | refine bw_ ?_ | refine ba_ ?_ _)); refine blk_put (cs := #[.int .i64 ((rd_T42 l0_3 x10_1).f0), .int .u8 0]) ?_ 1 _ rfl; (with_reducible repeat (first | refine bn_ ?_ _ | refine bw_ ?_ | refine ba_ ?_ _)); refine blk_put (cs := #[.int .i64 0, .int .u8 0]) ?_ 0 _ rfl; (with_reducible repeat (first | refine bn_ ?_ _ | refine bw_ ?_ | refine ba_ ?_ _)); exact BK113.out) hg (Kd.R_ne HO_3.out BK113.out (by decide))); have n2_ := mk_ (hb); have n3_ := mk_ (ho); clear BK111; clear BK113; clear HB; clear HO_3; have BK111 := n0_; have BK113 := n1_; have HB := n2_; have HO122 := n3_; clear n0_ n1_ n2_ n3_; clear ho hb hg hat))
    repeat (go_quiet (first | ((with_reducible refine gate_dst (N := 5) rfl ?_); refine box_event ?hg (N := 5) ?hd (cs := #[.int .i64 0, .int .u8 0]) (t := 42) ?hr ?_; (case hd => rfl); (case hg => rfl); (case hr => first | (go_simp; done) | (go_simp; rfl)); intro gb113 hg w28 hbox hb; have n0_ := mk_ (Kd.R_below (Kd.ur_ HO_3.out) hb); have n1_ := mk_ (blk_below (u_ BK111.out) hb); have n2_ := mk_ (below_step (us_ HB.out) hb); have n3_ := mk_ (hbox); have n4_ := mk_ ((by rw [hg]; exact (below_size (us_ HB.out)) : w.heap.size ≤ gb113)); have n5_ := mk_ ((by rw [hg]; exact (below_size (us_ HB.out)) : w.heap.size ≤ gb113)); have n6_ := mk_ ((by rw [hg]; exact Nat.ne_of_lt (blk_lt (u_ BK111.out)) : gb111 ≠ gb113)); have n7_ := mk_ ((by rw [hg]; exact Nat.ne_of_gt (blk_lt (u_ BK111.out)) : gb113 ≠ gb111)); clear HO_3; clear BK111; clear HB; have HO_3 := n0_; have BK111 := n1_; have HB := n2_; have BK113 := n3_; have GW113 := n4_; have GE113 := ge_ n5_.out; have NB111_113 := nq_ n6_.out; have NB113_111 := nq_ n7_.out; clear n0_ n1_ n2_ n3_ n4_ n5_ n6_ n7_; clear hb hbox hg; have hnb29 := NB113_111.out; have hnc29 := NB111_113.out; have hcz30_0 : w28.cell? ⟨gb113, 0, none⟩ = some (.int .i64 0) := (blk_cell BK113.out 0).trans rfl; have hcz30_1 : w28.cell? ⟨gb113, 1, none⟩ = some (.int .u8 0) := (blk_cell BK113.out 1).trans rfl; have hfz30_0 := blk_frozen BK113.out 0; have hfz30_1 := blk_frozen BK113.out 1; obtain ⟨Ao31, co31, eo31⟩ := Kd.R_slice HO_3.out; subst eo31) | ((with_reducible refine gate_builtin (b := .append) (xs := #[.tmp 38, .tmp 45]) rfl ?_); at_builtin; refine Kd.R_append k40 (w0 := w) w.heap.size rfl (.tmp 38) (.tmp 45) 34 40 (.agg #[(.int .i64 0), (.int .i64 0)]) 16 rfl Try.underlying34 info40 rfl (by decide) (by omega) (.slice Ao31 x3_1.length co31) x3_1 (⟨(rd_T42 l0_3 x10_1).f0, wrap64 (((rd_T42 l0_3 x10_1).f0) + 1)⟩ : S40) [.int .i64 ((rd_T42 l0_3 x10_1).f0), .int .i64 (wrap64 (((rd_T42 l0_3 x10_1).f0) + 1))] (fun _ => True) (fun _ => False) rfl (by first | (go_simp; done) | (go_simp; rfl)) ?aP (fun _ hk => hk.elim) ?aF ?aO ?aB ?aS ?aL ?_; (case aP => exact k40_mkM _ _ _ (⟨(rd_T42 l0_3 x10_1).f0, wrap64 (((rd_T42 l0_3 x10_1).f0) + 1)⟩ : S40)); (case aB => exact (us_ HB.out)); (case aF => exact (fun _ _ => trivial)); (case aO => exact (by (with_reducible repeat (first | apply Kd.R_alloc | apply Kd.R_drewN | apply Kd.R_drew)); exact Kd.R_mono (Kd.R_far (p := ⟨gb113, 1, none⟩) (Kd.R_far (p := ⟨gb113, 0, none⟩) (Kd.R_types HO_3.out BK113.out (by decide)) (fun _ hk => hk.2) (.int .i64 ((rd_T42 l0_3 x10_1).f0))) (fun _ hk => hk.2) (.int .u8 ((rd_T42 l0_3 x10_1).f1))) (fun _ hk => trivial))); (case aS => exact (below_size (us_ HB.out))); (case aL => have := LMc27.out; omega); intro v121 w32 ho hb hg hat; rw [← Ny120.out] at ho; have n0_ := mk_ (blk_grown (g := gb111) (o := .cells #[.int .i64 a0_0, .int .i64 a0_1, .slice A0_2 l0_2.length c0_2, .slice (some ad112) l0_3.length c0_3] 32 (0, 0)) (uf_ BK111.out) hg (Kd.R_ne HO_3.out BK111.out (by decide))); have n1_ := mk_ (blk_grown (g := gb113) (o := .cells #[.int .i64 ((rd_T42 l0_3 x10_1).f0), .int .u8 ((rd_T42 l0_3 x10_1).f1)] 42 (0, 0)) (by (with_reducible repeat (first | refine bn_ ?_ _ | refine bw_ ?_ | refine ba_ ?_ _)); refine blk_put (cs := #[.int .i64 ((rd_T42 l0_3 x10_1).f0), .int .u8 0]) ?_ 1 _ rfl; (with_reducible repeat (first | refine bn_ ?_ _ | refine bw_ ?_ | refine ba_ ?_ _)); refine blk_put (cs := #[.int .i64 0, .int .u8 0]) ?_ 0 _ rfl; (with_reducible repeat (first | refine bn_ ?_ _ | refine bw_ ?_ | refine ba_ ?_ _)); exact BK113.out) hg (Kd.R_ne HO_3.out BK113.out (by decide))); have n2_ := mk_ (hb); have n3_ := mk_ (ho); clear BK111; clear BK113; clear HB; clear HO_3; have BK111 := n0_; have BK113 := n1_; have HB := n2_; have HO122 := n3_; clear n0_ n1_ n2_ n3_; clear ho hb hg hat)); try go_wp2_with (first | ((with_reducible refine gate_dst (N := 5) rfl ?_); refine box_event ?hg (N := 5) ?hd (cs := #[.int .i64 0, .int .u8 0]) (t := 42) ?hr ?_; (case hd => rfl); (case hg => rfl); (case hr => first | (go_simp; done) | (go_simp; rfl)); intro gb113 hg w28 hbox hb; have n0_ := mk_ (Kd.R_below (Kd.ur_ HO_3.out) hb); have n1_ := mk_ (blk_below (u_ BK111.out) hb); have n2_ := mk_ (below_step (us_ HB.out) hb); have n3_ := mk_ (hbox); have n4_ := mk_ ((by rw [hg]; exact (below_size (us_ HB.out)) : w.heap.size ≤ gb113)); have n5_ := mk_ ((by rw [hg]; exact (below_size (us_ HB.out)) : w.heap.size ≤ gb113)); have n6_ := mk_ ((by rw [hg]; exact Nat.ne_of_lt (blk_lt (u_ BK111.out)) : gb111 ≠ gb113)); have n7_ := mk_ ((by rw [hg]; exact Nat.ne_of_gt (blk_lt (u_ BK111.out)) : gb113 ≠ gb111)); clear HO_3; clear BK111; clear HB; have HO_3 := n0_; have BK111 := n1_; have HB := n2_; have BK113 := n3_; have GW113 := n4_; have GE113 := ge_ n5_.out; have NB111_113 := nq_ n6_.out; have NB113_111 := nq_ n7_.out; clear n0_ n1_ n2_ n3_ n4_ n5_ n6_ n7_; clear hb hbox hg; have hnb29 := NB113_111.out; have hnc29 := NB111_113.out; have hcz30_0 : w28.cell? ⟨gb113, 0, none⟩ = some (.int .i64 0) := (blk_cell BK113.out 0).trans rfl; have hcz30_1 : w28.cell? ⟨gb113, 1, none⟩ = some (.int .u8 0) := (blk_cell BK113.out 1).trans rfl; have hfz30_0 := blk_frozen BK113.out 0; have hfz30_1 := blk_frozen BK113.out 1; obtain ⟨Ao31, co31, eo31⟩ := Kd.R_slice HO_3.out; subst eo31) | ((with_reducible refine gate_builtin (b := .append) (xs := #[.tmp 38, .tmp 45]) rfl ?_); at_builtin; refine Kd.R_append k40 (w0 := w) w.heap.size rfl (.tmp 38) (.tmp 45) 34 40 (.agg #[(.int .i64 0), (.int .i64 0)]) 16 rfl Try.underlying34 info40 rfl (by decide) (by omega) (.slice Ao31 x3_1.length co31) x3_1 (⟨(rd_T42 l0_3 x10_1).f0, wrap64 (((rd_T42 l0_3 x10_1).f0) + 1)⟩ : S40) [.int .i64 ((rd_T42 l0_3 x10_1).f0), .int .i64 (wrap64 (((rd_T42 l0_3 x10_1).f0) + 1))] (fun _ => True) (fun _ => False) rfl (by first | (go_simp; done) | (go_simp; rfl)) ?aP (fun _ hk => hk.elim) ?aF ?aO ?aB ?aS ?aL ?_; (case aP => exact k40_mkM _ _ _ (⟨(rd_T42 l0_3 x10_1).f0, wrap64 (((rd_T42 l0_3 x10_1).f0) + 1)⟩ : S40)); (case aB => exact (us_ HB.out)); (case aF => exact (fun _ _ => trivial)); (case aO => exact (by (with_reducible repeat (first | apply Kd.R_alloc | apply Kd.R_drewN | apply Kd.R_drew)); exact Kd.R_mono (Kd.R_far (p := ⟨gb113, 1, none⟩) (Kd.R_far (p := ⟨gb113, 0, none⟩) (Kd.R_types HO_3.out BK113.out (by decide)) (fun _ hk => hk.2) (.int .i64 ((rd_T42 l0_3 x10_1).f0))) (fun _ hk => hk.2) (.int .u8 ((rd_T42 l0_3 x10_1).f1))) (fun _ hk => trivial))); (case aS => exact (below_size (us_ HB.out))); (case aL => have := LMc27.out; omega); intro v121 w32 ho hb hg hat; rw [← Ny120.out] at ho; have n0_ := mk_ (blk_grown (g := gb111) (o := .cells #[.int .i64 a0_0, .int .i64 a0_1, .slice A0_2 l0_2.length c0_2, .slice (some ad112) l0_3.length c0_3] 32 (0, 0)) (uf_ BK111.out) hg (Kd.R_ne HO_3.out BK111.out (by decide))); have n1_ := mk_ (blk_grown (g := gb113) (o := .cells #[.int .i64 ((rd_T42 l0_3 x10_1).f0), .int .u8 ((rd_T42 l0_3 x10_1).f1)] 42 (0, 0)) (by (with_reducible repeat (first | refine bn_ ?_ _ | refine bw_ ?_ | refine ba_ ?_ _)); refine blk_put (cs := #[.int .i64 ((rd_T42 l0_3 x10_1).f0), .int .u8 0]) ?_ 1 _ rfl; (with_reducible repeat (first | refine bn_ ?_ _ | refine bw_ ?_ | refine ba_ ?_ _)); refine blk_put (cs := #[.int .i64 0, .int .u8 0]) ?_ 0 _ rfl; (with_reducible repeat (first | refine bn_ ?_ _ | refine bw_ ?_ | refine ba_ ?_ _)); exact BK113.out) hg (Kd.R_ne HO_3.out BK113.out (by decide))); have n2_ := mk_ (hb); have n3_ := mk_ (ho); clear BK111; clear BK113; clear HB; clear HO_3; have BK111 := n0_; have BK113 := n1_; have HB := n2_; have HO122 := n3_; clear n0_ n1_ n2_ n3_; clear ho hb hg hat)))
    go_roundg k1
    case measure => have := HK1.out; omega
    case rel => exact ⟨(y120), (wrap64 (x10_1 + 1)), (by first | rfl | (simp; done) | (simp [*]; done)), H', ⟨by have := HK1.out; omega⟩, ⟨Kd.ur_ HO122.out⟩, ⟨u_ BK111.out⟩, ⟨us_ HB.out⟩⟩
   rw [if_pos c7] at H
   have c7b0 : decide (0 < (x3_1.length : Int)) = true := decide_eq_true c7
   have c7b1 : decide (0 < x3_1.length) = true := decide_eq_true (by omega)
   clear c7
   obtain ⟨ji8, hji8⟩ : ∃ j_ : Int, (wrap64 ((x3_1.length : Int) - 1)) = j_ := ⟨_, rfl⟩
   replace H : (if 0 ≤ (ji8) then (if (ji8) < (x3_1.length : Int) then (if ((rd_T40 x3_1 (ji8)).f1) = ((rd_T42 l0_3 x10_1).f0) then (impl_Ear_ranges.l0 k1 (x3_1.set ((ji8) : Int).toNat (⟨(rd_T40 x3_1 (ji8)).f0, wrap64 (((rd_T40 x3_1 (ji8)).f1) + 1)⟩ : S40)) l0_3 (l0_3.length : Int) (wrap64 (x10_1 + 1))) else (if x3_1.length < 8796093022208 then (impl_Ear_ranges.l0 k1 (x3_1 ++ [(⟨(rd_T42 l0_3 x10_1).f0, wrap64 (((rd_T42 l0_3 x10_1).f0) + 1)⟩ : S40)]) l0_3 (l0_3.length : Int) (wrap64 (x10_1 + 1))) else (none))) else (none)) else (none)) = some r := by first | (rw [hji8] at H; exact H) | (simp only [hji8] at H ⊢; exact H)
   have hji8w : (IntKind.i64.wrap ((x3_1.length : Int) - 1)) = ji8 := (i64_w _).trans hji8
   by_cases c9 : 0 ≤ (ji8)
   rotate_left
   ·rw [if_neg c9] at H
    exact absurd H (by simp)
   rw [if_pos c9] at H
   have c9b0 : decide (0 ≤ (ji8)) = true := decide_eq_true c9
   clear c9
   by_cases c10 : (ji8) < (x3_1.length : Int)
   rotate_left
   ·rw [if_neg c10] at H
    exact absurd H (by simp)
   rw [if_pos c10] at H
   have c10b0 : decide ((ji8) < (x3_1.length : Int)) = true := decide_eq_true c10
   clear c10
   by_cases c11 : ((rd_T40 x3_1 (ji8)).f1) = ((rd_T42 l0_3 x10_1).f0)
   ·rw [if_pos c11] at H
    have c11b0 : (((rd_T40 x3_1 (ji8)).f1) == ((rd_T42 l0_3 x10_1).f0)) = true := beq_iff_eq.mpr c11
    have c11b1 : (((rd_T40 x3_1 (ji8)).f1) != ((rd_T42 l0_3 x10_1).f0)) = false := bne_eq_false_iff_eq.mpr c11
    clear c11
    obtain ⟨y116, hy116⟩ : ∃ y_ : List (S40), y_ = (x3_1.set ((ji8) : Int).toNat (⟨(rd_T40 x3_1 (ji8)).f0, wrap64 (((rd_T40 x3_1 (ji8)).f1) + 1)⟩ : S40)) := ⟨_, rfl⟩
    replace H : (impl_Ear_ranges.l0 k1 y116 l0_3 (l0_3.length : Int) (wrap64 (x10_1 + 1))) = some r := by first | (rw [hy116]; with_reducible exact H) | (have H2_ := (Option.bind_some _ _).symm.trans H; rw [hy116]; with_reducible exact H2_) | (have H2_ := (Option.bind_some _ _).symm.trans H; with_reducible exact H2_) | with_reducible exact H | (rw [hy116]; exact H) | exact H
    have Ny116 := mk_ hy116
    clear hy116
    have H' := mk_ H
    clear H
    have p112 : 0 ≤ (x10_1 : Int) := of_decide_eq_true (by first | (with_reducible assumption) | assumption)
    have q112 : x10_1 < (l0_3.length : Int) := of_decide_eq_true (by first | (with_reducible assumption) | assumption)
    obtain ⟨ad112, e112, hx112_0, hx112_1⟩ := at_T42 HR0_3.out x10_1 p112 q112
    cases e112
    replace hx112_0 := (HB.out.cell (lc_ w _ hx112_0)).trans hx112_0
    replace hx112_1 := (HB.out.cell (lc_ w _ hx112_1)).trans hx112_1
    replace p112 := eq_true p112
    replace q112 := eq_true q112
    go_wp2_with (first | ((with_reducible refine gate_dst (N := 5) rfl ?_); refine box_event ?hg (N := 5) ?hd (cs := #[.int .i64 0, .int .u8 0]) (t := 42) ?hr ?_; (case hd => rfl); (case hg => rfl); (case hr => first | (go_simp; done) | (go_simp; rfl)); intro gb113 hg w13 hbox hb; have n0_ := mk_ (Kd.R_below (Kd.ur_ HO_3.out) hb); have n1_ := mk_ (blk_below (u_ BK111.out) hb); have n2_ := mk_ (below_step (us_ HB.out) hb); have n3_ := mk_ (hbox); have n4_ := mk_ ((by rw [hg]; exact (below_size (us_ HB.out)) : w.heap.size ≤ gb113)); have n5_ := mk_ ((by rw [hg]; exact (below_size (us_ HB.out)) : w.heap.size ≤ gb113)); have n6_ := mk_ ((by rw [hg]; exact Nat.ne_of_lt (blk_lt (u_ BK111.out)) : gb111 ≠ gb113)); have n7_ := mk_ ((by rw [hg]; exact Nat.ne_of_gt (blk_lt (u_ BK111.out)) : gb113 ≠ gb111)); clear HO_3; clear BK111; clear HB; have HO_3 := n0_; have BK111 := n1_; have HB := n2_; have BK113 := n3_; have GW113 := n4_; have GE113 := ge_ n5_.out; have NB111_113 := nq_ n6_.out; have NB113_111 := nq_ n7_.out; clear n0_ n1_ n2_ n3_ n4_ n5_ n6_ n7_; clear hb hbox hg; have hnb14 := NB113_111.out; have hnc14 := NB111_113.out; have hcz15_0 : w13.cell? ⟨gb113, 0, none⟩ = some (.int .i64 0) := (blk_cell BK113.out 0).trans rfl; have hcz15_1 : w13.cell? ⟨gb113, 1, none⟩ = some (.int .u8 0) := (blk_cell BK113.out 1).trans rfl; have hfz15_0 := blk_frozen BK113.out 0; have hfz15_1 := blk_frozen BK113.out 1) | ((with_reducible refine gate_store (t := 42) (p := 5) rfl ?_); (try (rw [drewN_self w13]; generalize hq_ : World.drewN w13 _ = w13; have n0_ := mk_ (Kd.R_at hq_ HO_3.out); have n1_ := mk_ (blk_at hq_ BK111.out); have n2_ := mk_ (blk_at hq_ BK113.out); have n3_ := mk_ (below_at hq_ HB.out); clear hq_ HO_3 BK111 BK113 HB; have HO_3 := n0_; have BK111 := n1_; have BK113 := n2_; have HB := n3_; clear n0_ n1_ n2_ n3_)); refine store_event (t := 42) (p := 5) (v := ?vo_w16) (w1 := ((w13.setCell ⟨gb113, 0, none⟩ (.int .i64 ((rd_T42 l0_3 x10_1).f0))).setCell ⟨gb113, 1, none⟩ (.int .u8 ((rd_T42 l0_3 x10_1).f1)))) ?hg ?ho ?hn ?hr ?_; (case ho => rfl); (case hg => rfl); (case hn => rfl); (case hr => first | (go_simp; done) | (go_simp; rfl)); intro w16 hw; have n0_ : Aside0 (Kd.R k40 40 w16 w.heap.size (fun _ => True) u3 x3_1) := ⟨(by rw [hw]; exact (by (with_reducible repeat (first | apply Kd.R_alloc | apply Kd.R_drewN | apply Kd.R_drew)); exact Kd.R_mono (Kd.R_far (p := ⟨gb113, 1, none⟩) (Kd.R_far (p := ⟨gb113, 0, none⟩) (Kd.R_types HO_3.out BK113.out (by decide)) (fun _ hk => hk.2) (.int .i64 ((rd_T42 l0_3 x10_1).f0))) (fun _ hk => hk.2) (.int .u8 ((rd_T42 l0_3 x10_1).f1))) (fun _ hk => trivial)))⟩; have n1_ : Aside0 (w16.heap[gb111]? = some (.cells #[.int .i64 a0_0, .int .i64 a0_1, .slice A0_2 l0_2.length c0_2, .slice (some ad112) l0_3.length c0_3] 32 (0, 0))) := ⟨(by rw [hw]; exact (uf_ BK111.out))⟩; have n2_ : Aside0 (w16.heap[gb113]? = some (.cells #[.int .i64 ((rd_T42 l0_3 x10_1).f0), .int .u8 ((rd_T42 l0_3 x10_1).f1)] 42 (0, 0))) := ⟨(by rw [hw]; exact (by (with_reducible repeat (first | refine bn_ ?_ _ | refine bw_ ?_ | refine ba_ ?_ _)); refine blk_put (cs := #[.int .i64 ((rd_T42 l0_3 x10_1).f0), .int .u8 0]) ?_ 1 _ rfl; (with_reducible repeat (first | refine bn_ ?_ _ | refine bw_ ?_ | refine ba_ ?_ _)); refine blk_put (cs := #[.int .i64 0, .int .u8 0]) ?_ 0 _ rfl; (with_reducible repeat (first | refine bn_ ?_ _ | refine bw_ ?_ | refine ba_ ?_ _)); exact BK113.out))⟩; have n3_ : Aside0 (Below w.heap.size w w16) := ⟨(by rw [hw]; exact (us_ HB.out))⟩; clear hw; clear HO_3; clear BK111; clear BK113; clear HB; have HO_3 := n0_; have BK111 := n1_; have BK113 := n2_; have HB := n3_; clear n0_ n1_ n2_ n3_; obtain ⟨Ao17, co17, eo17⟩ := Kd.R_slice HO_3.out; subst eo17; have p114 : 0 ≤ ((ji8) : Int) := of_decide_eq_true (by first | (with_reducible assumption) | assumption); have q114 : (ji8) < (x3_1.length : Int) := of_decide_eq_true (by first | (with_reducible assumption) | assumption); obtain ⟨ad114, e114, hx114_0, hx114_1⟩ := at_T40 (Kd.R_reads' HO_3.out).2.2 (ji8) p114 q114; cases e114; replace p114 := eq_true p114; replace q114 := eq_true q114; have hcz18_0 : w16.cell? ⟨gb113, 0, none⟩ = some (.int .i64 ((rd_T42 l0_3 x10_1).f0)) := (blk_cell BK113.out 0).trans rfl; have hcz18_1 : w16.cell? ⟨gb113, 1, none⟩ = some (.int .u8 ((rd_T42 l0_3 x10_1).f1)) := (blk_cell BK113.out 1).trans rfl; have hfz18_0 := blk_frozen BK113.out 0; have hfz18_1 := blk_frozen BK113.out 1; have p115 : 0 ≤ ((ji8) : Int) := of_decide_eq_true (by first | (with_reducible assumption) | assumption); have q115 : (ji8) < (x3_1.length : Int) := of_decide_eq_true (by first | (with_reducible assumption) | assumption); obtain ⟨ad115, e115, hx115_0, hx115_1⟩ := at_T40 (Kd.R_reads' HO_3.out).2.2 (ji8) p115 q115; obtain rfl : ad114 = ad115 := (by injection e115); replace p115 := eq_true p115; replace q115 := eq_true q115; have p12 : 0 ≤ ((ji8) : Int) := of_decide_eq_true (by first | (with_reducible assumption) | assumption); have q12 : ((ji8) : Int) < ((x3_1.length : Int) : Int) := of_decide_eq_true (by first | (with_reducible assumption) | assumption); obtain ⟨go12, co12, eo12, gb12, gl12, cl12, HG12⟩ := Kd.R_form HO_3.out (by omega); (first | cases eo12 | (injection eo12 with ea_ en_ ec_; (first | subst ea_ | (injection ea_ with ea_; subst ea_)); subst ec_; clear en_)); have GB12 := mk_ gb12; have GG12 := mk_ HG12; clear gb12 gl12 HG12; (first | simp only [add_plain] at hx114_0 | skip); (first | simp only [add_plain] at hx114_1 | skip); (first | simp only [add_plain] at hx115_0 | skip); (first | simp only [add_plain] at hx115_1 | skip); obtain ⟨ce12, hcl12, hM12, hcc12, hfr12⟩ := Kd.R_elem HO_3.out z40 ((ji8) : Int) p12 q12; obtain rfl := k40_openM hM12; have hx12_0 : w16.cell? ⟨go12, ((ji8) : Int).toNat * 2, none⟩ = some (.int .i64 ((rd_T40 x3_1 (ji8)).f0)) := hcc12 0 _ rfl; have hx12_1 : w16.cell? ⟨go12, ((ji8) : Int).toNat * 2 + 1, none⟩ = some (.int .i64 ((rd_T40 x3_1 (ji8)).f1)) := hcc12 1 _ rfl; have hf12_0 : w16.frozen? ⟨go12, ((ji8) : Int).toNat * 2, none⟩ = false := hfr12 0; have hf12_1 : w16.frozen? ⟨go12, ((ji8) : Int).toNat * 2 + 1, none⟩ = false := hfr12 1; clear hcl12 hcc12 hfr12 hM12; replace p12 := eq_true p12; replace q12 := eq_true q12; have HX19 := mk_ (show Kd.R k40 40 w16 w.heap.size (fun _ => True) (.slice (some ⟨go12, 0, none⟩) x3_1.length co17) x3_1 from (Kd.ur_ HO_3.out)); obtain ⟨ce19, hcl19, hM19, hcc19, hfr19⟩ := Kd.R_elem HX19.out z40 ((ji8) : Int) (of_decide_eq_true (by first | (with_reducible assumption) | assumption)) (by have h_ : ((ji8) : Int) < ((x3_1.length : Int) : Int) := of_decide_eq_true (by first | (with_reducible assumption) | assumption); first | exact h_ | (have e_ := (Kd.R_reads' HO_3.out).1; omega) | simpa using h_); obtain rfl := k40_openM hM19; have HP19 := Kd.R_seg HX19.out ((ji8) : Int) (of_decide_eq_true (by first | (with_reducible assumption) | assumption)) (by have h_ : ((ji8) : Int) < ((x3_1.length : Int) : Int) := of_decide_eq_true (by first | (with_reducible assumption) | assumption); first | exact h_ | (have e_ := (Kd.R_reads' HO_3.out).1; omega) | simpa using h_) (seg := [.int .i64 (wrap64 (((rd_T40 x3_1 (ji8)).f1) + 1))]) (j := 1) hcl19 hcc19 (show 2 ≤ 2 from by decide) (x' := (⟨(rd_T40 x3_1 (ji8)).f0, wrap64 (((rd_T40 x3_1 (ji8)).f1) + 1)⟩ : S40)) (k40_mkM _ _ _ (⟨(rd_T40 x3_1 (ji8)).f0, wrap64 (((rd_T40 x3_1 (ji8)).f1) + 1)⟩ : S40) ) (fun _ hk => hk); have hx19_1 := hcc19 1 _ rfl; (try simp only [show (k40).sz = 2 from rfl, Nat.mul_one, Nat.add_zero] at hx19_1); have hf19_1 := hfr19 1; (try simp only [show (k40).sz = 2 from rfl, Nat.mul_one, Nat.add_zero] at hf19_1); clear hcl19 hcc19 hfr19 hM19) | ((with_reducible refine gate_store (t := 3) (p := 37) rfl ?_); (try (rw [drewN_self w16]; generalize hq_ : World.drewN w16 _ = w16; have n0_ := mk_ (Kd.R_at hq_ HO_3.out); have n1_ := mk_ (blk_at hq_ BK111.out); have n2_ := mk_ (blk_at hq_ BK113.out); have n3_ := mk_ (below_at hq_ HB.out); clear hq_ HO_3 BK111 BK113 HB; have HO_3 := n0_; have BK111 := n1_; have BK113 := n2_; have HB := n3_; clear n0_ n1_ n2_ n3_; (try (have HX19 := mk_ (show Kd.R k40 40 w16 w.heap.size (fun _ => True) (.slice (some ⟨go12, 0, none⟩) x3_1.length co17) x3_1 from (Kd.ur_ HO_3.out)))); (try (obtain ⟨ce19, hcl19, hM19, hcc19, hfr19⟩ := Kd.R_elem HX19.out z40 ((ji8) : Int) (of_decide_eq_true (by first | (with_reducible assumption) | assumption)) (by have h_ : ((ji8) : Int) < ((x3_1.length : Int) : Int) := of_decide_eq_true (by first | (with_reducible assumption) | assumption); first | exact h_ | (have e_ := (Kd.R_reads' HO_3.out).1; omega) | simpa using h_))); (try (obtain rfl := k40_openM hM19)); (try (have HP19 := Kd.R_seg HX19.out ((ji8) : Int) (of_decide_eq_true (by first | (with_reducible assumption) | assumption)) (by have h_ : ((ji8) : Int) < ((x3_1.length : Int) : Int) := of_decide_eq_true (by first | (with_reducible assumption) | assumption); first | exact h_ | (have e_ := (Kd.R_reads' HO_3.out).1; omega) | simpa using h_) (seg := [.int .i64 (wrap64 (((rd_T40 x3_1 (ji8)).f1) + 1))]) (j := 1) hcl19 hcc19 (show 2 ≤ 2 from by decide) (x' := (⟨(rd_T40 x3_1 (ji8)).f0, wrap64 (((rd_T40 x3_1 (ji8)).f1) + 1)⟩ : S40)) (k40_mkM _ _ _ (⟨(rd_T40 x3_1 (ji8)).f0, wrap64 (((rd_T40 x3_1 (ji8)).f1) + 1)⟩ : S40) ) (fun _ hk => hk))); (try (have hx19_1 := hcc19 1 _ rfl)); (try (try simp only [show (k40).sz = 2 from rfl, Nat.mul_one, Nat.add_zero] at hx19_1)); (try (have hf19_1 := hfr19 1)); (try (try simp only [show (k40).sz = 2 from rfl, Nat.mul_one, Nat.add_zero] at hf19_1)); (try (clear hcl19 hcc19 hfr19 hM19)))); refine store_event (t := 3) (p := 37) (v := ?vo_w20) (w1 := (w16.setCell ⟨go12, ((ji8) : Int).toNat * 2 + 1, none⟩ (.int .i64 (wrap64 (((rd_T40 x3_1 (ji8)).f1) + 1))))) ?hg ?ho ?hn ?hr ?_; (case ho => rfl); (case hg => rfl); (case hn => rfl); (case hr => first | (go_simp; done) | (go_simp; rfl)); intro w20 hw; have hg : w16.grownBy w20 (some go12) := (by rw [hw]; exact HP19.2); have hp_ : Kd.R k40 40 w20 w.heap.size (fun _ => True) (.slice (some ⟨go12, 0, none⟩) x3_1.length co17) y116 := (by rw [hw, Ny116.out]; exact HP19.1); clear HP19; have n0_ := mk_ (hp_); have n1_ := mk_ (blk_grown (g := gb111) (o := .cells #[.int .i64 a0_0, .int .i64 a0_1, .slice A0_2 l0_2.length c0_2, .slice (some ad112) l0_3.length c0_3] 32 (0, 0)) (u_ BK111.out) hg (Kd.R_ne HO_3.out BK111.out (by decide))); have n2_ := mk_ (blk_grown (g := gb113) (o := .cells #[.int .i64 ((rd_T42 l0_3 x10_1).f0), .int .u8 ((rd_T42 l0_3 x10_1).f1)] 42 (0, 0)) (u_ BK113.out) hg (Kd.R_ne HO_3.out BK113.out (by decide))); have n3_ := mk_ ((by rw [hw]; exact below_set (HB.out) GB12.out : Below w.heap.size w w20)); clear HO_3; clear BK111; clear BK113; clear HB; have HO_3 := n0_; have BK111 := n1_; have BK113 := n2_; have HB := n3_; clear n0_ n1_ n2_ n3_; clear hg hw hp_))
    repeat (go_quiet (first | ((with_reducible refine gate_dst (N := 5) rfl ?_); refine box_event ?hg (N := 5) ?hd (cs := #[.int .i64 0, .int .u8 0]) (t := 42) ?hr ?_; (case hd => rfl); (case hg => rfl); (case hr => first | (go_simp; done) | (go_simp; rfl)); intro gb113 hg w13 hbox hb; have n0_ := mk_ (Kd.R_below (Kd.ur_ HO_3.out) hb); have n1_ := mk_ (blk_below (u_ BK111.out) hb); have n2_ := mk_ (below_step (us_ HB.out) hb); have n3_ := mk_ (hbox); have n4_ := mk_ ((by rw [hg]; exact (below_size (us_ HB.out)) : w.heap.size ≤ gb113)); have n5_ := mk_ ((by rw [hg]; exact (below_size (us_ HB.out)) : w.heap.size ≤ gb113)); have n6_ := mk_ ((by rw [hg]; exact Nat.ne_of_lt (blk_lt (u_ BK111.out)) : gb111 ≠ gb113)); have n7_ := mk_ ((by rw [hg]; exact Nat.ne_of_gt (blk_lt (u_ BK111.out)) : gb113 ≠ gb111)); clear HO_3; clear BK111; clear HB; have HO_3 := n0_; have BK111 := n1_; have HB := n2_; have BK113 := n3_; have GW113 := n4_; have GE113 := ge_ n5_.out; have NB111_113 := nq_ n6_.out; have NB113_111 := nq_ n7_.out; clear n0_ n1_ n2_ n3_ n4_ n5_ n6_ n7_; clear hb hbox hg; have hnb14 := NB113_111.out; have hnc14 := NB111_113.out; have hcz15_0 : w13.cell? ⟨gb113, 0, none⟩ = some (.int .i64 0) := (blk_cell BK113.out 0).trans rfl; have hcz15_1 : w13.cell? ⟨gb113, 1, none⟩ = some (.int .u8 0) := (blk_cell BK113.out 1).trans rfl; have hfz15_0 := blk_frozen BK113.out 0; have hfz15_1 := blk_frozen BK113.out 1) | ((with_reducible refine gate_store (t := 42) (p := 5) rfl ?_); (try (rw [drewN_self w13]; generalize hq_ : World.drewN w13 _ = w13; have n0_ := mk_ (Kd.R_at hq_ HO_3.out); have n1_ := mk_ (blk_at hq_ BK111.out); have n2_ := mk_ (blk_at hq_ BK113.out); have n3_ := mk_ (below_at hq_ HB.out); clear hq_ HO_3 BK111 BK113 HB; have HO_3 := n0_; have BK111 := n1_; have BK113 := n2_; have HB := n3_; clear n0_ n1_ n2_ n3_)); refine store_event (t := 42) (p := 5) (v := ?vo_w16) (w1 := ((w13.setCell ⟨gb113, 0, none⟩ (.int .i64 ((rd_T42 l0_3 x10_1).f0))).setCell ⟨gb113, 1, none⟩ (.int .u8 ((rd_T42 l0_3 x10_1).f1)))) ?hg ?ho ?hn ?hr ?_; (case ho => rfl); (case hg => rfl); (case hn => rfl); (case hr => first | (go_simp; done) | (go_simp; rfl)); intro w16 hw; have n0_ : Aside0 (Kd.R k40 40 w16 w.heap.size (fun _ => True) u3 x3_1) := ⟨(by rw [hw]; exact (by (with_reducible repeat (first | apply Kd.R_alloc | apply Kd.R_drewN | apply Kd.R_drew)); exact Kd.R_mono (Kd.R_far (p := ⟨gb113, 1, none⟩) (Kd.R_far (p := ⟨gb113, 0, none⟩) (Kd.R_types HO_3.out BK113.out (by decide)) (fun _ hk => hk.2) (.int .i64 ((rd_T42 l0_3 x10_1).f0))) (fun _ hk => hk.2) (.int .u8 ((rd_T42 l0_3 x10_1).f1))) (fun _ hk => trivial)))⟩; have n1_ : Aside0 (w16.heap[gb111]? = some (.cells #[.int .i64 a0_0, .int .i64 a0_1, .slice A0_2 l0_2.length c0_2, .slice (some ad112) l0_3.length c0_3] 32 (0, 0))) := ⟨(by rw [hw]; exact (uf_ BK111.out))⟩; have n2_ : Aside0 (w16.heap[gb113]? = some (.cells #[.int .i64 ((rd_T42 l0_3 x10_1).f0), .int .u8 ((rd_T42 l0_3 x10_1).f1)] 42 (0, 0))) := ⟨(by rw [hw]; exact (by (with_reducible repeat (first | refine bn_ ?_ _ | refine bw_ ?_ | refine ba_ ?_ _)); refine blk_put (cs := #[.int .i64 ((rd_T42 l0_3 x10_1).f0), .int .u8 0]) ?_ 1 _ rfl; (with_reducible repeat (first | refine bn_ ?_ _ | refine bw_ ?_ | refine ba_ ?_ _)); refine blk_put (cs := #[.int .i64 0, .int .u8 0]) ?_ 0 _ rfl; (with_reducible repeat (first | refine bn_ ?_ _ | refine bw_ ?_ | refine ba_ ?_ _)); exact BK113.out))⟩; have n3_ : Aside0 (Below w.heap.size w w16) := ⟨(by rw [hw]; exact (us_ HB.out))⟩; clear hw; clear HO_3; clear BK111; clear BK113; clear HB; have HO_3 := n0_; have BK111 := n1_; have BK113 := n2_; have HB := n3_; clear n0_ n1_ n2_ n3_; obtain ⟨Ao17, co17, eo17⟩ := Kd.R_slice HO_3.out; subst eo17; have p114 : 0 ≤ ((ji8) : Int) := of_decide_eq_true (by first | (with_reducible assumption) | assumption); have q114 : (ji8) < (x3_1.length : Int) := of_decide_eq_true (by first | (with_reducible assumption) | assumption); obtain ⟨ad114, e114, hx114_0, hx114_1⟩ := at_T40 (Kd.R_reads' HO_3.out).2.2 (ji8) p114 q114; cases e114; replace p114 := eq_true p114; replace q114 := eq_true q114; have hcz18_0 : w16.cell? ⟨gb113, 0, none⟩ = some (.int .i64 ((rd_T42 l0_3 x10_1).f0)) := (blk_cell BK113.out 0).trans rfl; have hcz18_1 : w16.cell? ⟨gb113, 1, none⟩ = some (.int .u8 ((rd_T42 l0_3 x10_1).f1)) := (blk_cell BK113.out 1).trans rfl; have hfz18_0 := blk_frozen BK113.out 0; have hfz18_1 := blk_frozen BK113.out 1; have p115 : 0 ≤ ((ji8) : Int) := of_decide_eq_true (by first | (with_reducible assumption) | assumption); have q115 : (ji8) < (x3_1.length : Int) := of_decide_eq_true (by first | (with_reducible assumption) | assumption); obtain ⟨ad115, e115, hx115_0, hx115_1⟩ := at_T40 (Kd.R_reads' HO_3.out).2.2 (ji8) p115 q115; obtain rfl : ad114 = ad115 := (by injection e115); replace p115 := eq_true p115; replace q115 := eq_true q115; have p12 : 0 ≤ ((ji8) : Int) := of_decide_eq_true (by first | (with_reducible assumption) | assumption); have q12 : ((ji8) : Int) < ((x3_1.length : Int) : Int) := of_decide_eq_true (by first | (with_reducible assumption) | assumption); obtain ⟨go12, co12, eo12, gb12, gl12, cl12, HG12⟩ := Kd.R_form HO_3.out (by omega); (first | cases eo12 | (injection eo12 with ea_ en_ ec_; (first | subst ea_ | (injection ea_ with ea_; subst ea_)); subst ec_; clear en_)); have GB12 := mk_ gb12; have GG12 := mk_ HG12; clear gb12 gl12 HG12; (first | simp only [add_plain] at hx114_0 | skip); (first | simp only [add_plain] at hx114_1 | skip); (first | simp only [add_plain] at hx115_0 | skip); (first | simp only [add_plain] at hx115_1 | skip); obtain ⟨ce12, hcl12, hM12, hcc12, hfr12⟩ := Kd.R_elem HO_3.out z40 ((ji8) : Int) p12 q12; obtain rfl := k40_openM hM12; have hx12_0 : w16.cell? ⟨go12, ((ji8) : Int).toNat * 2, none⟩ = some (.int .i64 ((rd_T40 x3_1 (ji8)).f0)) := hcc12 0 _ rfl; have hx12_1 : w16.cell? ⟨go12, ((ji8) : Int).toNat * 2 + 1, none⟩ = some (.int .i64 ((rd_T40 x3_1 (ji8)).f1)) := hcc12 1 _ rfl; have hf12_0 : w16.frozen? ⟨go12, ((ji8) : Int).toNat * 2, none⟩ = false := hfr12 0; have hf12_1 : w16.frozen? ⟨go12, ((ji8) : Int).toNat * 2 + 1, none⟩ = false := hfr12 1; clear hcl12 hcc12 hfr12 hM12; replace p12 := eq_true p12; replace q12 := eq_true q12; have HX19 := mk_ (show Kd.R k40 40 w16 w.heap.size (fun _ => True) (.slice (some ⟨go12, 0, none⟩) x3_1.length co17) x3_1 from (Kd.ur_ HO_3.out)); obtain ⟨ce19, hcl19, hM19, hcc19, hfr19⟩ := Kd.R_elem HX19.out z40 ((ji8) : Int) (of_decide_eq_true (by first | (with_reducible assumption) | assumption)) (by have h_ : ((ji8) : Int) < ((x3_1.length : Int) : Int) := of_decide_eq_true (by first | (with_reducible assumption) | assumption); first | exact h_ | (have e_ := (Kd.R_reads' HO_3.out).1; omega) | simpa using h_); obtain rfl := k40_openM hM19; have HP19 := Kd.R_seg HX19.out ((ji8) : Int) (of_decide_eq_true (by first | (with_reducible assumption) | assumption)) (by have h_ : ((ji8) : Int) < ((x3_1.length : Int) : Int) := of_decide_eq_true (by first | (with_reducible assumption) | assumption); first | exact h_ | (have e_ := (Kd.R_reads' HO_3.out).1; omega) | simpa using h_) (seg := [.int .i64 (wrap64 (((rd_T40 x3_1 (ji8)).f1) + 1))]) (j := 1) hcl19 hcc19 (show 2 ≤ 2 from by decide) (x' := (⟨(rd_T40 x3_1 (ji8)).f0, wrap64 (((rd_T40 x3_1 (ji8)).f1) + 1)⟩ : S40)) (k40_mkM _ _ _ (⟨(rd_T40 x3_1 (ji8)).f0, wrap64 (((rd_T40 x3_1 (ji8)).f1) + 1)⟩ : S40) ) (fun _ hk => hk); have hx19_1 := hcc19 1 _ rfl; (try simp only [show (k40).sz = 2 from rfl, Nat.mul_one, Nat.add_zero] at hx19_1); have hf19_1 := hfr19 1; (try simp only [show (k40).sz = 2 from rfl, Nat.mul_one, Nat.add_zero] at hf19_1); clear hcl19 hcc19 hfr19 hM19) | ((with_reducible refine gate_store (t := 3) (p := 37) rfl ?_); (try (rw [drewN_self w16]; generalize hq_ : World.drewN w16 _ = w16; have n0_ := mk_ (Kd.R_at hq_ HO_3.out); have n1_ := mk_ (blk_at hq_ BK111.out); have n2_ := mk_ (blk_at hq_ BK113.out); have n3_ := mk_ (below_at hq_ HB.out); clear hq_ HO_3 BK111 BK113 HB; have HO_3 := n0_; have BK111 := n1_; have BK113 := n2_; have HB := n3_; clear n0_ n1_ n2_ n3_; (try (have HX19 := mk_ (show Kd.R k40 40 w16 w.heap.size (fun _ => True) (.slice (some ⟨go12, 0, none⟩) x3_1.length co17) x3_1 from (Kd.ur_ HO_3.out)))); (try (obtain ⟨ce19, hcl19, hM19, hcc19, hfr19⟩ := Kd.R_elem HX19.out z40 ((ji8) : Int) (of_decide_eq_true (by first | (with_reducible assumption) | assumption)) (by have h_ : ((ji8) : Int) < ((x3_1.length : Int) : Int) := of_decide_eq_true (by first | (with_reducible assumption) | assumption); first | exact h_ | (have e_ := (Kd.R_reads' HO_3.out).1; omega) | simpa using h_))); (try (obtain rfl := k40_openM hM19)); (try (have HP19 := Kd.R_seg HX19.out ((ji8) : Int) (of_decide_eq_true (by first | (with_reducible assumption) | assumption)) (by have h_ : ((ji8) : Int) < ((x3_1.length : Int) : Int) := of_decide_eq_true (by first | (with_reducible assumption) | assumption); first | exact h_ | (have e_ := (Kd.R_reads' HO_3.out).1; omega) | simpa using h_) (seg := [.int .i64 (wrap64 (((rd_T40 x3_1 (ji8)).f1) + 1))]) (j := 1) hcl19 hcc19 (show 2 ≤ 2 from by decide) (x' := (⟨(rd_T40 x3_1 (ji8)).f0, wrap64 (((rd_T40 x3_1 (ji8)).f1) + 1)⟩ : S40)) (k40_mkM _ _ _ (⟨(rd_T40 x3_1 (ji8)).f0, wrap64 (((rd_T40 x3_1 (ji8)).f1) + 1)⟩ : S40) ) (fun _ hk => hk))); (try (have hx19_1 := hcc19 1 _ rfl)); (try (try simp only [show (k40).sz = 2 from rfl, Nat.mul_one, Nat.add_zero] at hx19_1)); (try (have hf19_1 := hfr19 1)); (try (try simp only [show (k40).sz = 2 from rfl, Nat.mul_one, Nat.add_zero] at hf19_1)); (try (clear hcl19 hcc19 hfr19 hM19)))); refine store_event (t := 3) (p := 37) (v := ?vo_w20) (w1 := (w16.setCell ⟨go12, ((ji8) : Int).toNat * 2 + 1, none⟩ (.int .i64 (wrap64 (((rd_T40 x3_1 (ji8)).f1) + 1))))) ?hg ?ho ?hn ?hr ?_; (case ho => rfl); (case hg => rfl); (case hn => rfl); (case hr => first | (go_simp; done) | (go_simp; rfl)); intro w20 hw; have hg : w16.grownBy w20 (some go12) := (by rw [hw]; exact HP19.2); have hp_ : Kd.R k40 40 w20 w.heap.size (fun _ => True) (.slice (some ⟨go12, 0, none⟩) x3_1.length co17) y116 := (by rw [hw, Ny116.out]; exact HP19.1); clear HP19; have n0_ := mk_ (hp_); have n1_ := mk_ (blk_grown (g := gb111) (o := .cells #[.int .i64 a0_0, .int .i64 a0_1, .slice A0_2 l0_2.length c0_2, .slice (some ad112) l0_3.length c0_3] 32 (0, 0)) (u_ BK111.out) hg (Kd.R_ne HO_3.out BK111.out (by decide))); have n2_ := mk_ (blk_grown (g := gb113) (o := .cells #[.int .i64 ((rd_T42 l0_3 x10_1).f0), .int .u8 ((rd_T42 l0_3 x10_1).f1)] 42 (0, 0)) (u_ BK113.out) hg (Kd.R_ne HO_3.out BK113.out (by decide))); have n3_ := mk_ ((by rw [hw]; exact below_set (HB.out) GB12.out : Below w.heap.size w w20)); clear HO_3; clear BK111; clear BK113; clear HB; have HO_3 := n0_; have BK111 := n1_; have BK113 := n2_; have HB := n3_; clear n0_ n1_ n2_ n3_; clear hg hw hp_)); try go_wp2_with (first | ((with_reducible refine gate_dst (N := 5) rfl ?_); refine box_event ?hg (N := 5) ?hd (cs := #[.int .i64 0, .int .u8 0]) (t := 42) ?hr ?_; (case hd => rfl); (case hg => rfl); (case hr => first | (go_simp; done) | (go_simp; rfl)); intro gb113 hg w13 hbox hb; have n0_ := mk_ (Kd.R_below (Kd.ur_ HO_3.out) hb); have n1_ := mk_ (blk_below (u_ BK111.out) hb); have n2_ := mk_ (below_step (us_ HB.out) hb); have n3_ := mk_ (hbox); have n4_ := mk_ ((by rw [hg]; exact (below_size (us_ HB.out)) : w.heap.size ≤ gb113)); have n5_ := mk_ ((by rw [hg]; exact (below_size (us_ HB.out)) : w.heap.size ≤ gb113)); have n6_ := mk_ ((by rw [hg]; exact Nat.ne_of_lt (blk_lt (u_ BK111.out)) : gb111 ≠ gb113)); have n7_ := mk_ ((by rw [hg]; exact Nat.ne_of_gt (blk_lt (u_ BK111.out)) : gb113 ≠ gb111)); clear HO_3; clear BK111; clear HB; have HO_3 := n0_; have BK111 := n1_; have HB := n2_; have BK113 := n3_; have GW113 := n4_; have GE113 := ge_ n5_.out; have NB111_113 := nq_ n6_.out; have NB113_111 := nq_ n7_.out; clear n0_ n1_ n2_ n3_ n4_ n5_ n6_ n7_; clear hb hbox hg; have hnb14 := NB113_111.out; have hnc14 := NB111_113.out; have hcz15_0 : w13.cell? ⟨gb113, 0, none⟩ = some (.int .i64 0) := (blk_cell BK113.out 0).trans rfl; have hcz15_1 : w13.cell? ⟨gb113, 1, none⟩ = some (.int .u8 0) := (blk_cell BK113.out 1).trans rfl; have hfz15_0 := blk_frozen BK113.out 0; have hfz15_1 := blk_frozen BK113.out 1) | ((with_reducible refine gate_store (t := 42) (p := 5) rfl ?_); (try (rw [drewN_self w13]; generalize hq_ : World.drewN w13 _ = w13; have n0_ := mk_ (Kd.R_at hq_ HO_3.out); have n1_ := mk_ (blk_at hq_ BK111.out); have n2_ := mk_ (blk_at hq_ BK113.out); have n3_ := mk_ (below_at hq_ HB.out); clear hq_ HO_3 BK111 BK113 HB; have HO_3 := n0_; have BK111 := n1_; have BK113 := n2_; have HB := n3_; clear n0_ n1_ n2_ n3_)); refine store_event (t := 42) (p := 5) (v := ?vo_w16) (w1 := ((w13.setCell ⟨gb113, 0, none⟩ (.int .i64 ((rd_T42 l0_3 x10_1).f0))).setCell ⟨gb113, 1, none⟩ (.int .u8 ((rd_T42 l0_3 x10_1).f1)))) ?hg ?ho ?hn ?hr ?_; (case ho => rfl); (case hg => rfl); (case hn => rfl); (case hr => first | (go_simp; done) | (go_simp; rfl)); intro w16 hw; have n0_ : Aside0 (Kd.R k40 40 w16 w.heap.size (fun _ => True) u3 x3_1) := ⟨(by rw [hw]; exact (by (with_reducible repeat (first | apply Kd.R_alloc | apply Kd.R_drewN | apply Kd.R_drew)); exact Kd.R_mono (Kd.R_far (p := ⟨gb113, 1, none⟩) (Kd.R_far (p := ⟨gb113, 0, none⟩) (Kd.R_types HO_3.out BK113.out (by decide)) (fun _ hk => hk.2) (.int .i64 ((rd_T42 l0_3 x10_1).f0))) (fun _ hk => hk.2) (.int .u8 ((rd_T42 l0_3 x10_1).f1))) (fun _ hk => trivial)))⟩; have n1_ : Aside0 (w16.heap[gb111]? = some (.cells #[.int .i64 a0_0, .int .i64 a0_1, .slice A0_2 l0_2.length c0_2, .slice (some ad112) l0_3.length c0_3] 32 (0, 0))) := ⟨(by rw [hw]; exact (uf_ BK111.out))⟩; have n2_ : Aside0 (w16.heap[gb113]? = some (.cells #[.int .i64 ((rd_T42 l0_3 x10_1).f0), .int .u8 ((rd_T42 l0_3 x10_1).f1)] 42 (0, 0))) := ⟨(by rw [hw]; exact (by (with_reducible repeat (first | refine bn_ ?_ _ | refine bw_ ?_ | refine ba_ ?_ _)); refine blk_put (cs := #[.int .i64 ((rd_T42 l0_3 x10_1).f0), .int .u8 0]) ?_ 1 _ rfl; (with_reducible repeat (first | refine bn_ ?_ _ | refine bw_ ?_ | refine ba_ ?_ _)); refine blk_put (cs := #[.int .i64 0, .int .u8 0]) ?_ 0 _ rfl; (with_reducible repeat (first | refine bn_ ?_ _ | refine bw_ ?_ | refine ba_ ?_ _)); exact BK113.out))⟩; have n3_ : Aside0 (Below w.heap.size w w16) := ⟨(by rw [hw]; exact (us_ HB.out))⟩; clear hw; clear HO_3; clear BK111; clear BK113; clear HB; have HO_3 := n0_; have BK111 := n1_; have BK113 := n2_; have HB := n3_; clear n0_ n1_ n2_ n3_; obtain ⟨Ao17, co17, eo17⟩ := Kd.R_slice HO_3.out; subst eo17; have p114 : 0 ≤ ((ji8) : Int) := of_decide_eq_true (by first | (with_reducible assumption) | assumption); have q114 : (ji8) < (x3_1.length : Int) := of_decide_eq_true (by first | (with_reducible assumption) | assumption); obtain ⟨ad114, e114, hx114_0, hx114_1⟩ := at_T40 (Kd.R_reads' HO_3.out).2.2 (ji8) p114 q114; cases e114; replace p114 := eq_true p114; replace q114 := eq_true q114; have hcz18_0 : w16.cell? ⟨gb113, 0, none⟩ = some (.int .i64 ((rd_T42 l0_3 x10_1).f0)) := (blk_cell BK113.out 0).trans rfl; have hcz18_1 : w16.cell? ⟨gb113, 1, none⟩ = some (.int .u8 ((rd_T42 l0_3 x10_1).f1)) := (blk_cell BK113.out 1).trans rfl; have hfz18_0 := blk_frozen BK113.out 0; have hfz18_1 := blk_frozen BK113.out 1; have p115 : 0 ≤ ((ji8) : Int) := of_decide_eq_true (by first | (with_reducible assumption) | assumption); have q115 : (ji8) < (x3_1.length : Int) := of_decide_eq_true (by first | (with_reducible assumption) | assumption); obtain ⟨ad115, e115, hx115_0, hx115_1⟩ := at_T40 (Kd.R_reads' HO_3.out).2.2 (ji8) p115 q115; obtain rfl : ad114 = ad115 := (by injection e115); replace p115 := eq_true p115; replace q115 := eq_true q115; have p12 : 0 ≤ ((ji8) : Int) := of_decide_eq_true (by first | (with_reducible assumption) | assumption); have q12 : ((ji8) : Int) < ((x3_1.length : Int) : Int) := of_decide_eq_true (by first | (with_reducible assumption) | assumption); obtain ⟨go12, co12, eo12, gb12, gl12, cl12, HG12⟩ := Kd.R_form HO_3.out (by omega); (first | cases eo12 | (injection eo12 with ea_ en_ ec_; (first | subst ea_ | (injection ea_ with ea_; subst ea_)); subst ec_; clear en_)); have GB12 := mk_ gb12; have GG12 := mk_ HG12; clear gb12 gl12 HG12; (first | simp only [add_plain] at hx114_0 | skip); (first | simp only [add_plain] at hx114_1 | skip); (first | simp only [add_plain] at hx115_0 | skip); (first | simp only [add_plain] at hx115_1 | skip); obtain ⟨ce12, hcl12, hM12, hcc12, hfr12⟩ := Kd.R_elem HO_3.out z40 ((ji8) : Int) p12 q12; obtain rfl := k40_openM hM12; have hx12_0 : w16.cell? ⟨go12, ((ji8) : Int).toNat * 2, none⟩ = some (.int .i64 ((rd_T40 x3_1 (ji8)).f0)) := hcc12 0 _ rfl; have hx12_1 : w16.cell? ⟨go12, ((ji8) : Int).toNat * 2 + 1, none⟩ = some (.int .i64 ((rd_T40 x3_1 (ji8)).f1)) := hcc12 1 _ rfl; have hf12_0 : w16.frozen? ⟨go12, ((ji8) : Int).toNat * 2, none⟩ = false := hfr12 0; have hf12_1 : w16.frozen? ⟨go12, ((ji8) : Int).toNat * 2 + 1, none⟩ = false := hfr12 1; clear hcl12 hcc12 hfr12 hM12; replace p12 := eq_true p12; replace q12 := eq_true q12; have HX19 := mk_ (show Kd.R k40 40 w16 w.heap.size (fun _ => True) (.slice (some ⟨go12, 0, none⟩) x3_1.length co17) x3_1 from (Kd.ur_ HO_3.out)); obtain ⟨ce19, hcl19, hM19, hcc19, hfr19⟩ := Kd.R_elem HX19.out z40 ((ji8) : Int) (of_decide_eq_true (by first | (with_reducible assumption) | assumption)) (by have h_ : ((ji8) : Int) < ((x3_1.length : Int) : Int) := of_decide_eq_true (by first | (with_reducible assumption) | assumption); first | exact h_ | (have e_ := (Kd.R_reads' HO_3.out).1; omega) | simpa using h_); obtain rfl := k40_openM hM19; have HP19 := Kd.R_seg HX19.out ((ji8) : Int) (of_decide_eq_true (by first | (with_reducible assumption) | assumption)) (by have h_ : ((ji8) : Int) < ((x3_1.length : Int) : Int) := of_decide_eq_true (by first | (with_reducible assumption) | assumption); first | exact h_ | (have e_ := (Kd.R_reads' HO_3.out).1; omega) | simpa using h_) (seg := [.int .i64 (wrap64 (((rd_T40 x3_1 (ji8)).f1) + 1))]) (j := 1) hcl19 hcc19 (show 2 ≤ 2 from by decide) (x' := (⟨(rd_T40 x3_1 (ji8)).f0, wrap64 (((rd_T40 x3_1 (ji8)).f1) + 1)⟩ : S40)) (k40_mkM _ _ _ (⟨(rd_T40 x3_1 (ji8)).f0, wrap64 (((rd_T40 x3_1 (ji8)).f1) + 1)⟩ : S40) ) (fun _ hk => hk); have hx19_1 := hcc19 1 _ rfl; (try simp only [show (k40).sz = 2 from rfl, Nat.mul_one, Nat.add_zero] at hx19_1); have hf19_1 := hfr19 1; (try simp only [show (k40).sz = 2 from rfl, Nat.mul_one, Nat.add_zero] at hf19_1); clear hcl19 hcc19 hfr19 hM19) | ((with_reducible refine gate_store (t := 3) (p := 37) rfl ?_); (try (rw [drewN_self w16]; generalize hq_ : World.drewN w16 _ = w16; have n0_ := mk_ (Kd.R_at hq_ HO_3.out); have n1_ := mk_ (blk_at hq_ BK111.out); have n2_ := mk_ (blk_at hq_ BK113.out); have n3_ := mk_ (below_at hq_ HB.out); clear hq_ HO_3 BK111 BK113 HB; have HO_3 := n0_; have BK111 := n1_; have BK113 := n2_; have HB := n3_; clear n0_ n1_ n2_ n3_; (try (have HX19 := mk_ (show Kd.R k40 40 w16 w.heap.size (fun _ => True) (.slice (some ⟨go12, 0, none⟩) x3_1.length co17) x3_1 from (Kd.ur_ HO_3.out)))); (try (obtain ⟨ce19, hcl19, hM19, hcc19, hfr19⟩ := Kd.R_elem HX19.out z40 ((ji8) : Int) (of_decide_eq_true (by first | (with_reducible assumption) | assumption)) (by have h_ : ((ji8) : Int) < ((x3_1.length : Int) : Int) := of_decide_eq_true (by first | (with_reducible assumption) | assumption); first | exact h_ | (have e_ := (Kd.R_reads' HO_3.out).1; omega) | simpa using h_))); (try (obtain rfl := k40_openM hM19)); (try (have HP19 := Kd.R_seg HX19.out ((ji8) : Int) (of_decide_eq_true (by first | (with_reducible assumption) | assumption)) (by have h_ : ((ji8) : Int) < ((x3_1.length : Int) : Int) := of_decide_eq_true (by first | (with_reducible assumption) | assumption); first | exact h_ | (have e_ := (Kd.R_reads' HO_3.out).1; omega) | simpa using h_) (seg := [.int .i64 (wrap64 (((rd_T40 x3_1 (ji8)).f1) + 1))]) (j := 1) hcl19 hcc19 (show 2 ≤ 2 from by decide) (x' := (⟨(rd_T40 x3_1 (ji8)).f0, wrap64 (((rd_T40 x3_1 (ji8)).f1) + 1)⟩ : S40)) (k40_mkM _ _ _ (⟨(rd_T40 x3_1 (ji8)).f0, wrap64 (((rd_T40 x3_1 (ji8)).f1) + 1)⟩ : S40) ) (fun _ hk => hk))); (try (have hx19_1 := hcc19 1 _ rfl)); (try (try simp only [show (k40).sz = 2 from rfl, Nat.mul_one, Nat.add_zero] at hx19_1)); (try (have hf19_1 := hfr19 1)); (try (try simp only [show (k40).sz = 2 from rfl, Nat.mul_one, Nat.add_zero] at hf19_1)); (try (clear hcl19 hcc19 hfr19 hM19)))); refine store_event (t := 3) (p := 37) (v := ?vo_w20) (w1 := (w16.setCell ⟨go12, ((ji8) : Int).toNat * 2 + 1, none⟩ (.int .i64 (wrap64 (((rd_T40 x3_1 (ji8)).f1) + 1))))) ?hg ?ho ?hn ?hr ?_; (case ho => rfl); (case hg => rfl); (case hn => rfl); (case hr => first | (go_simp; done) | (go_simp; rfl)); intro w20 hw; have hg : w16.grownBy w20 (some go12) := (by rw [hw]; exact HP19.2); have hp_ : Kd.R k40 40 w20 w.heap.size (fun _ => True) (.slice (some ⟨go12, 0, none⟩) x3_1.length co17) y116 := (by rw [hw, Ny116.out]; exact HP19.1); clear HP19; have n0_ := mk_ (hp_); have n1_ := mk_ (blk_grown (g := gb111) (o := .cells #[.int .i64 a0_0, .int .i64 a0_1, .slice A0_2 l0_2.length c0_2, .slice (some ad112) l0_3.length c0_3] 32 (0, 0)) (u_ BK111.out) hg (Kd.R_ne HO_3.out BK111.out (by decide))); have n2_ := mk_ (blk_grown (g := gb113) (o := .cells #[.int .i64 ((rd_T42 l0_3 x10_1).f0), .int .u8 ((rd_T42 l0_3 x10_1).f1)] 42 (0, 0)) (u_ BK113.out) hg (Kd.R_ne HO_3.out BK113.out (by decide))); have n3_ := mk_ ((by rw [hw]; exact below_set (HB.out) GB12.out : Below w.heap.size w w20)); clear HO_3; clear BK111; clear BK113; clear HB; have HO_3 := n0_; have BK111 := n1_; have BK113 := n2_; have HB := n3_; clear n0_ n1_ n2_ n3_; clear hg hw hp_)))
    go_roundg k1
    case measure => have := HK1.out; omega
    case rel => exact ⟨(y116), (wrap64 (x10_1 + 1)), (by first | rfl | (simp; done) | (simp [*]; done)), H', ⟨by have := HK1.out; omega⟩, ⟨Kd.ur_ HO_3.out⟩, ⟨u_ BK111.out⟩, ⟨us_ HB.out⟩⟩
   rw [if_neg c11] at H
   have c11b0 : (((rd_T40 x3_1 (ji8)).f1) == ((rd_T42 l0_3 x10_1).f0)) = false := beq_eq_false_iff_ne.mpr c11
   have c11b1 : (((rd_T40 x3_1 (ji8)).f1) != ((rd_T42 l0_3 x10_1).f0)) = true := bne_iff_ne.mpr c11
   by_cases c21 : x3_1.length < 8796093022208
   rotate_left
   ·rw [if_neg c21] at H
    exact absurd H (by simp)
   rw [if_pos c21] at H
   have LMc21 := mk_ c21
   clear c21
   obtain ⟨y117, hy117⟩ : ∃ y_ : List (S40), y_ = (x3_1 ++ [(⟨(rd_T42 l0_3 x10_1).f0, wrap64 (((rd_T42 l0_3 x10_1).f0) + 1)⟩ : S40)]) := ⟨_, rfl⟩
   replace H : (impl_Ear_ranges.l0 k1 y117 l0_3 (l0_3.length : Int) (wrap64 (x10_1 + 1))) = some r := by first | (rw [hy117]; with_reducible exact H) | (have H2_ := (Option.bind_some _ _).symm.trans H; rw [hy117]; with_reducible exact H2_) | (have H2_ := (Option.bind_some _ _).symm.trans H; with_reducible exact H2_) | with_reducible exact H | (rw [hy117]; exact H) | exact H
   have Ny117 := mk_ hy117
   clear hy117
   have H' := mk_ H
   clear H
   have p112 : 0 ≤ (x10_1 : Int) := of_decide_eq_true (by first | (with_reducible assumption) | assumption)
   have q112 : x10_1 < (l0_3.length : Int) := of_decide_eq_true (by first | (with_reducible assumption) | assumption)
   obtain ⟨ad112, e112, hx112_0, hx112_1⟩ := at_T42 HR0_3.out x10_1 p112 q112
   cases e112
   replace hx112_0 := (HB.out.cell (lc_ w _ hx112_0)).trans hx112_0
   replace hx112_1 := (HB.out.cell (lc_ w _ hx112_1)).trans hx112_1
   replace p112 := eq_true p112
   replace q112 := eq_true q112
   go_wp2_with (first | ((with_reducible refine gate_dst (N := 5) rfl ?_); refine box_event ?hg (N := 5) ?hd (cs := #[.int .i64 0, .int .u8 0]) (t := 42) ?hr ?_; (case hd => rfl); (case hg => rfl); (case hr => first | (go_simp; done) | (go_simp; rfl)); intro gb113 hg w22 hbox hb; have n0_ := mk_ (Kd.R_below (Kd.ur_ HO_3.out) hb); have n1_ := mk_ (blk_below (u_ BK111.out) hb); have n2_ := mk_ (below_step (us_ HB.out) hb); have n3_ := mk_ (hbox); have n4_ := mk_ ((by rw [hg]; exact (below_size (us_ HB.out)) : w.heap.size ≤ gb113)); have n5_ := mk_ ((by rw [hg]; exact (below_size (us_ HB.out)) : w.heap.size ≤ gb113)); have n6_ := mk_ ((by rw [hg]; exact Nat.ne_of_lt (blk_lt (u_ BK111.out)) : gb111 ≠ gb113)); have n7_ := mk_ ((by rw [hg]; exact Nat.ne_of_gt (blk_lt (u_ BK111.out)) : gb113 ≠ gb111)); clear HO_3; clear BK111; clear HB; have HO_3 := n0_; have BK111 := n1_; have HB := n2_; have BK113 := n3_; have GW113 := n4_; have GE113 := ge_ n5_.out; have NB111_113 := nq_ n6_.out; have NB113_111 := nq_ n7_.out; clear n0_ n1_ n2_ n3_ n4_ n5_ n6_ n7_; clear hb hbox hg; have hnb23 := NB113_111.out; have hnc23 := NB111_113.out; have hcz24_0 : w22.cell? ⟨gb113, 0, none⟩ = some (.int .i64 0) := (blk_cell BK113.out 0).trans rfl; have hcz24_1 : w22.cell? ⟨gb113, 1, none⟩ = some (.int .u8 0) := (blk_cell BK113.out 1).trans rfl; have hfz24_0 := blk_frozen BK113.out 0; have hfz24_1 := blk_frozen BK113.out 1; obtain ⟨Ao25, co25, eo25⟩ := Kd.R_slice HO_3.out; subst eo25; have p114 : 0 ≤ ((ji8) : Int) := of_decide_eq_true (by first | (with_reducible assumption) | assumption); have q114 : (ji8) < (x3_1.length : Int) := of_decide_eq_true (by first | (with_reducible assumption) | assumption); obtain ⟨ad114, e114, hx114_0, hx114_1⟩ := at_T40 (Kd.R_reads' HO_3.out).2.2 (ji8) p114 q114; cases e114; have hn114_0 : ad114.block ≠ gb113 := Kd.own_blk (Kd.R_ne HO_3.out BK113.out (by decide)); have hn114_1 : ad114.block ≠ gb113 := Kd.own_blk (Kd.R_ne HO_3.out BK113.out (by decide)); replace hx114_0 := (cell_far (p := ⟨gb113, 0, none⟩) (by first | (rw [add_block]; exact hn114_0) | (show (Addr.add _ _).block ≠ _; rw [add_block]; exact hn114_0) | exact hn114_0) (.int .i64 ((rd_T42 l0_3 x10_1).f0))).trans hx114_0; replace hx114_1 := (cell_far (p := ⟨gb113, 0, none⟩) (by first | (rw [add_block]; exact hn114_0) | (show (Addr.add _ _).block ≠ _; rw [add_block]; exact hn114_0) | exact hn114_0) (.int .i64 ((rd_T42 l0_3 x10_1).f0))).trans hx114_1; replace hx114_0 := (cell_far (p := ⟨gb113, 1, none⟩) (by first | (rw [add_block]; exact hn114_1) | (show (Addr.add _ _).block ≠ _; rw [add_block]; exact hn114_1) | exact hn114_1) (.int .u8 ((rd_T42 l0_3 x10_1).f1))).trans hx114_0; replace hx114_1 := (cell_far (p := ⟨gb113, 1, none⟩) (by first | (rw [add_block]; exact hn114_1) | (show (Addr.add _ _).block ≠ _; rw [add_block]; exact hn114_1) | exact hn114_1) (.int .u8 ((rd_T42 l0_3 x10_1).f1))).trans hx114_1; (try have hy114_0 := fun (n_ : Nat) => (show ((((w22.drewN n_).setCell ⟨gb113, 0, none⟩ (.int .i64 ((rd_T42 l0_3 x10_1).f0))).setCell ⟨gb113, 1, none⟩ (.int .u8 ((rd_T42 l0_3 x10_1).f1)))).cell? _ = some _ from hx114_0)); (try have hy114_1 := fun (n_ : Nat) => (show ((((w22.drewN n_).setCell ⟨gb113, 0, none⟩ (.int .i64 ((rd_T42 l0_3 x10_1).f0))).setCell ⟨gb113, 1, none⟩ (.int .u8 ((rd_T42 l0_3 x10_1).f1)))).cell? _ = some _ from hx114_1)); clear hn114_0; clear hn114_1; replace p114 := eq_true p114; replace q114 := eq_true q114) | ((with_reducible refine gate_builtin (b := .append) (xs := #[.tmp 38, .tmp 45]) rfl ?_); at_builtin; refine Kd.R_append k40 (w0 := w) w.heap.size rfl (.tmp 38) (.tmp 45) 34 40 (.agg #[(.int .i64 0), (.int .i64 0)]) 16 rfl Try.underlying34 info40 rfl (by decide) (by omega) (.slice (some ad114) x3_1.length co25) x3_1 (⟨(rd_T42 l0_3 x10_1).f0, wrap64 (((rd_T42 l0_3 x10_1).f0) + 1)⟩ : S40) [.int .i64 ((rd_T42 l0_3 x10_1).f0), .int .i64 (wrap64 (((rd_T42 l0_3 x10_1).f0) + 1))] (fun _ => True) (fun _ => False) rfl (by first | (go_simp; done) | (go_simp; rfl)) ?aP (fun _ hk => hk.elim) ?aF ?aO ?aB ?aS ?aL ?_; (case aP => exact k40_mkM _ _ _ (⟨(rd_T42 l0_3 x10_1).f0, wrap64 (((rd_T42 l0_3 x10_1).f0) + 1)⟩ : S40)); (case aB => exact (us_ HB.out)); (case aF => exact (fun _ _ => trivial)); (case aO => exact (by (with_reducible repeat (first | apply Kd.R_alloc | apply Kd.R_drewN | apply Kd.R_drew)); exact Kd.R_mono (Kd.R_far (p := ⟨gb113, 1, none⟩) (Kd.R_far (p := ⟨gb113, 0, none⟩) (Kd.R_types HO_3.out BK113.out (by decide)) (fun _ hk => hk.2) (.int .i64 ((rd_T42 l0_3 x10_1).f0))) (fun _ hk => hk.2) (.int .u8 ((rd_T42 l0_3 x10_1).f1))) (fun _ hk => trivial))); (case aS => exact (below_size (us_ HB.out))); (case aL => have := LMc21.out; omega); intro v118 w26 ho hb hg hat; rw [← Ny117.out] at ho; have n0_ := mk_ (blk_grown (g := gb111) (o := .cells #[.int .i64 a0_0, .int .i64 a0_1, .slice A0_2 l0_2.length c0_2, .slice (some ad112) l0_3.length c0_3] 32 (0, 0)) (uf_ BK111.out) hg (Kd.R_ne HO_3.out BK111.out (by decide))); have n1_ := mk_ (blk_grown (g := gb113) (o := .cells #[.int .i64 ((rd_T42 l0_3 x10_1).f0), .int .u8 ((rd_T42 l0_3 x10_1).f1)] 42 (0, 0)) (by (with_reducible repeat (first | refine bn_ ?_ _ | refine bw_ ?_ | refine ba_ ?_ _)); refine blk_put (cs := #[.int .i64 ((rd_T42 l0_3 x10_1).f0), .int .u8 0]) ?_ 1 _ rfl; (with_reducible repeat (first | refine bn_ ?_ _ | refine bw_ ?_ | refine ba_ ?_ _)); refine blk_put (cs := #[.int .i64 0, .int .u8 0]) ?_ 0 _ rfl; (with_reducible repeat (first | refine bn_ ?_ _ | refine bw_ ?_ | refine ba_ ?_ _)); exact BK113.out) hg (Kd.R_ne HO_3.out BK113.out (by decide))); have n2_ := mk_ (hb); have n3_ := mk_ (ho); clear BK111; clear BK113; clear HB; clear HO_3; have BK111 := n0_; have BK113 := n1_; have HB := n2_; have HO119 := n3_; clear n0_ n1_ n2_ n3_; clear ho hb hg hat))
   repeat (go_quiet (first | ((with_reducible refine gate_dst (N := 5) rfl ?_); refine box_event ?hg (N := 5) ?hd (cs := #[.int .i64 0, .int .u8 0]) (t := 42) ?hr ?_; (case hd => rfl); (case hg => rfl); (case hr => first | (go_simp; done) | (go_simp; rfl)); intro gb113 hg w22 hbox hb; have n0_ := mk_ (Kd.R_below (Kd.ur_ HO_3.out) hb); have n1_ := mk_ (blk_below (u_ BK111.out) hb); have n2_ := mk_ (below_step (us_ HB.out) hb); have n3_ := mk_ (hbox); have n4_ := mk_ ((by rw [hg]; exact (below_size (us_ HB.out)) : w.heap.size ≤ gb113)); have n5_ := mk_ ((by rw [hg]; exact (below_size (us_ HB.out)) : w.heap.size ≤ gb113)); have n6_ := mk_ ((by rw [hg]; exact Nat.ne_of_lt (blk_lt (u_ BK111.out)) : gb111 ≠ gb113)); have n7_ := mk_ ((by rw [hg]; exact Nat.ne_of_gt (blk_lt (u_ BK111.out)) : gb113 ≠ gb111)); clear HO_3; clear BK111; clear HB; have HO_3 := n0_; have BK111 := n1_; have HB := n2_; have BK113 := n3_; have GW113 := n4_; have GE113 := ge_ n5_.out; have NB111_113 := nq_ n6_.out; have NB113_111 := nq_ n7_.out; clear n0_ n1_ n2_ n3_ n4_ n5_ n6_ n7_; clear hb hbox hg; have hnb23 := NB113_111.out; have hnc23 := NB111_113.out; have hcz24_0 : w22.cell? ⟨gb113, 0, none⟩ = some (.int .i64 0) := (blk_cell BK113.out 0).trans rfl; have hcz24_1 : w22.cell? ⟨gb113, 1, none⟩ = some (.int .u8 0) := (blk_cell BK113.out 1).trans rfl; have hfz24_0 := blk_frozen BK113.out 0; have hfz24_1 := blk_frozen BK113.out 1; obtain ⟨Ao25, co25, eo25⟩ := Kd.R_slice HO_3.out; subst eo25; have p114 : 0 ≤ ((ji8) : Int) := of_decide_eq_true (by first | (with_reducible assumption) | assumption); have q114 : (ji8) < (x3_1.length : Int) := of_decide_eq_true (by first | (with_reducible assumption) | assumption); obtain ⟨ad114, e114, hx114_0, hx114_1⟩ := at_T40 (Kd.R_reads' HO_3.out).2.2 (ji8) p114 q114; cases e114; have hn114_0 : ad114.block ≠ gb113 := Kd.own_blk (Kd.R_ne HO_3.out BK113.out (by decide)); have hn114_1 : ad114.block ≠ gb113 := Kd.own_blk (Kd.R_ne HO_3.out BK113.out (by decide)); replace hx114_0 := (cell_far (p := ⟨gb113, 0, none⟩) (by first | (rw [add_block]; exact hn114_0) | (show (Addr.add _ _).block ≠ _; rw [add_block]; exact hn114_0) | exact hn114_0) (.int .i64 ((rd_T42 l0_3 x10_1).f0))).trans hx114_0; replace hx114_1 := (cell_far (p := ⟨gb113, 0, none⟩) (by first | (rw [add_block]; exact hn114_0) | (show (Addr.add _ _).block ≠ _; rw [add_block]; exact hn114_0) | exact hn114_0) (.int .i64 ((rd_T42 l0_3 x10_1).f0))).trans hx114_1; replace hx114_0 := (cell_far (p := ⟨gb113, 1, none⟩) (by first | (rw [add_block]; exact hn114_1) | (show (Addr.add _ _).block ≠ _; rw [add_block]; exact hn114_1) | exact hn114_1) (.int .u8 ((rd_T42 l0_3 x10_1).f1))).trans hx114_0; replace hx114_1 := (cell_far (p := ⟨gb113, 1, none⟩) (by first | (rw [add_block]; exact hn114_1) | (show (Addr.add _ _).block ≠ _; rw [add_block]; exact hn114_1) | exact hn114_1) (.int .u8 ((rd_T42 l0_3 x10_1).f1))).trans hx114_1; (try have hy114_0 := fun (n_ : Nat) => (show ((((w22.drewN n_).setCell ⟨gb113, 0, none⟩ (.int .i64 ((rd_T42 l0_3 x10_1).f0))).setCell ⟨gb113, 1, none⟩ (.int .u8 ((rd_T42 l0_3 x10_1).f1)))).cell? _ = some _ from hx114_0)); (try have hy114_1 := fun (n_ : Nat) => (show ((((w22.drewN n_).setCell ⟨gb113, 0, none⟩ (.int .i64 ((rd_T42 l0_3 x10_1).f0))).setCell ⟨gb113, 1, none⟩ (.int .u8 ((rd_T42 l0_3 x10_1).f1)))).cell? _ = some _ from hx114_1)); clear hn114_0; clear hn114_1; replace p114 := eq_true p114; replace q114 := eq_true q114) | ((with_reducible refine gate_builtin (b := .append) (xs := #[.tmp 38, .tmp 45]) rfl ?_); at_builtin; refine Kd.R_append k40 (w0 := w) w.heap.size rfl (.tmp 38) (.tmp 45) 34 40 (.agg #[(.int .i64 0), (.int .i64 0)]) 16 rfl Try.underlying34 info40 rfl (by decide) (by omega) (.slice (some ad114) x3_1.length co25) x3_1 (⟨(rd_T42 l0_3 x10_1).f0, wrap64 (((rd_T42 l0_3 x10_1).f0) + 1)⟩ : S40) [.int .i64 ((rd_T42 l0_3 x10_1).f0), .int .i64 (wrap64 (((rd_T42 l0_3 x10_1).f0) + 1))] (fun _ => True) (fun _ => False) rfl (by first | (go_simp; done) | (go_simp; rfl)) ?aP (fun _ hk => hk.elim) ?aF ?aO ?aB ?aS ?aL ?_; (case aP => exact k40_mkM _ _ _ (⟨(rd_T42 l0_3 x10_1).f0, wrap64 (((rd_T42 l0_3 x10_1).f0) + 1)⟩ : S40)); (case aB => exact (us_ HB.out)); (case aF => exact (fun _ _ => trivial)); (case aO => exact (by (with_reducible repeat (first | apply Kd.R_alloc | apply Kd.R_drewN | apply Kd.R_drew)); exact Kd.R_mono (Kd.R_far (p := ⟨gb113, 1, none⟩) (Kd.R_far (p := ⟨gb113, 0, none⟩) (Kd.R_types HO_3.out BK113.out (by decide)) (fun _ hk => hk.2) (.int .i64 ((rd_T42 l0_3 x10_1).f0))) (fun _ hk => hk.2) (.int .u8 ((rd_T42 l0_3 x10_1).f1))) (fun _ hk => trivial))); (case aS => exact (below_size (us_ HB.out))); (case aL => have := LMc21.out; omega); intro v118 w26 ho hb hg hat; rw [← Ny117.out] at ho; have n0_ := mk_ (blk_grown (g := gb111) (o := .cells #[.int .i64 a0_0, .int .i64 a0_1, .slice A0_2 l0_2.length c0_2, .slice (some ad112) l0_3.length c0_3] 32 (0, 0)) (uf_ BK111.out) hg (Kd.R_ne HO_3.out BK111.out (by decide))); have n1_ := mk_ (blk_grown (g := gb113) (o := .cells #[.int .i64 ((rd_T42 l0_3 x10_1).f0), .int .u8 ((rd_T42 l0_3 x10_1).f1)] 42 (0, 0)) (by (with_reducible repeat (first | refine bn_ ?_ _ | refine bw_ ?_ | refine ba_ ?_ _)); refine blk_put (cs := #[.int .i64 ((rd_T42 l0_3 x10_1).f0), .int .u8 0]) ?_ 1 _ rfl; (with_reducible repeat (first | refine bn_ ?_ _ | refine bw_ ?_ | refine ba_ ?_ _)); refine blk_put (cs := #[.int .i64 0, .int .u8 0]) ?_ 0 _ rfl; (with_reducible repeat (first | refine bn_ ?_ _ | refine bw_ ?_ | refine ba_ ?_ _)); exact BK113.out) hg (Kd.R_ne HO_3.out BK113.out (by decide))); have n2_ := mk_ (hb); have n3_ := mk_ (ho); clear BK111; clear BK113; clear HB; clear HO_3; have BK111 := n0_; have BK113 := n1_; have HB := n2_; have HO119 := n3_; clear n0_ n1_ n2_ n3_; clear ho hb hg hat)); try go_wp2_with (first | ((with_reducible refine gate_dst (N := 5) rfl ?_); refine box_event ?hg (N := 5) ?hd (cs := #[.int .i64 0, .int .u8 0]) (t := 42) ?hr ?_; (case hd => rfl); (case hg => rfl); (case hr => first | (go_simp; done) | (go_simp; rfl)); intro gb113 hg w22 hbox hb; have n0_ := mk_ (Kd.R_below (Kd.ur_ HO_3.out) hb); have n1_ := mk_ (blk_below (u_ BK111.out) hb); have n2_ := mk_ (below_step (us_ HB.out) hb); have n3_ := mk_ (hbox); have n4_ := mk_ ((by rw [hg]; exact (below_size (us_ HB.out)) : w.heap.size ≤ gb113)); have n5_ := mk_ ((by rw [hg]; exact (below_size (us_ HB.out)) : w.heap.size ≤ gb113)); have n6_ := mk_ ((by rw [hg]; exact Nat.ne_of_lt (blk_lt (u_ BK111.out)) : gb111 ≠ gb113)); have n7_ := mk_ ((by rw [hg]; exact Nat.ne_of_gt (blk_lt (u_ BK111.out)) : gb113 ≠ gb111)); clear HO_3; clear BK111; clear HB; have HO_3 := n0_; have BK111 := n1_; have HB := n2_; have BK113 := n3_; have GW113 := n4_; have GE113 := ge_ n5_.out; have NB111_113 := nq_ n6_.out; have NB113_111 := nq_ n7_.out; clear n0_ n1_ n2_ n3_ n4_ n5_ n6_ n7_; clear hb hbox hg; have hnb23 := NB113_111.out; have hnc23 := NB111_113.out; have hcz24_0 : w22.cell? ⟨gb113, 0, none⟩ = some (.int .i64 0) := (blk_cell BK113.out 0).trans rfl; have hcz24_1 : w22.cell? ⟨gb113, 1, none⟩ = some (.int .u8 0) := (blk_cell BK113.out 1).trans rfl; have hfz24_0 := blk_frozen BK113.out 0; have hfz24_1 := blk_frozen BK113.out 1; obtain ⟨Ao25, co25, eo25⟩ := Kd.R_slice HO_3.out; subst eo25; have p114 : 0 ≤ ((ji8) : Int) := of_decide_eq_true (by first | (with_reducible assumption) | assumption); have q114 : (ji8) < (x3_1.length : Int) := of_decide_eq_true (by first | (with_reducible assumption) | assumption); obtain ⟨ad114, e114, hx114_0, hx114_1⟩ := at_T40 (Kd.R_reads' HO_3.out).2.2 (ji8) p114 q114; cases e114; have hn114_0 : ad114.block ≠ gb113 := Kd.own_blk (Kd.R_ne HO_3.out BK113.out (by decide)); have hn114_1 : ad114.block ≠ gb113 := Kd.own_blk (Kd.R_ne HO_3.out BK113.out (by decide)); replace hx114_0 := (cell_far (p := ⟨gb113, 0, none⟩) (by first | (rw [add_block]; exact hn114_0) | (show (Addr.add _ _).block ≠ _; rw [add_block]; exact hn114_0) | exact hn114_0) (.int .i64 ((rd_T42 l0_3 x10_1).f0))).trans hx114_0; replace hx114_1 := (cell_far (p := ⟨gb113, 0, none⟩) (by first | (rw [add_block]; exact hn114_0) | (show (Addr.add _ _).block ≠ _; rw [add_block]; exact hn114_0) | exact hn114_0) (.int .i64 ((rd_T42 l0_3 x10_1).f0))).trans hx114_1; replace hx114_0 := (cell_far (p := ⟨gb113, 1, none⟩) (by first | (rw [add_block]; exact hn114_1) | (show (Addr.add _ _).block ≠ _; rw [add_block]; exact hn114_1) | exact hn114_1) (.int .u8 ((rd_T42 l0_3 x10_1).f1))).trans hx114_0; replace hx114_1 := (cell_far (p := ⟨gb113, 1, none⟩) (by first | (rw [add_block]; exact hn114_1) | (show (Addr.add _ _).block ≠ _; rw [add_block]; exact hn114_1) | exact hn114_1) (.int .u8 ((rd_T42 l0_3 x10_1).f1))).trans hx114_1; (try have hy114_0 := fun (n_ : Nat) => (show ((((w22.drewN n_).setCell ⟨gb113, 0, none⟩ (.int .i64 ((rd_T42 l0_3 x10_1).f0))).setCell ⟨gb113, 1, none⟩ (.int .u8 ((rd_T42 l0_3 x10_1).f1)))).cell? _ = some _ from hx114_0)); (try have hy114_1 := fun (n_ : Nat) => (show ((((w22.drewN n_).setCell ⟨gb113, 0, none⟩ (.int .i64 ((rd_T42 l0_3 x10_1).f0))).setCell ⟨gb113, 1, none⟩ (.int .u8 ((rd_T42 l0_3 x10_1).f1)))).cell? _ = some _ from hx114_1)); clear hn114_0; clear hn114_1; replace p114 := eq_true p114; replace q114 := eq_true q114) | ((with_reducible refine gate_builtin (b := .append) (xs := #[.tmp 38, .tmp 45]) rfl ?_); at_builtin; refine Kd.R_append k40 (w0 := w) w.heap.size rfl (.tmp 38) (.tmp 45) 34 40 (.agg #[(.int .i64 0), (.int .i64 0)]) 16 rfl Try.underlying34 info40 rfl (by decide) (by omega) (.slice (some ad114) x3_1.length co25) x3_1 (⟨(rd_T42 l0_3 x10_1).f0, wrap64 (((rd_T42 l0_3 x10_1).f0) + 1)⟩ : S40) [.int .i64 ((rd_T42 l0_3 x10_1).f0), .int .i64 (wrap64 (((rd_T42 l0_3 x10_1).f0) + 1))] (fun _ => True) (fun _ => False) rfl (by first | (go_simp; done) | (go_simp; rfl)) ?aP (fun _ hk => hk.elim) ?aF ?aO ?aB ?aS ?aL ?_; (case aP => exact k40_mkM _ _ _ (⟨(rd_T42 l0_3 x10_1).f0, wrap64 (((rd_T42 l0_3 x10_1).f0) + 1)⟩ : S40)); (case aB => exact (us_ HB.out)); (case aF => exact (fun _ _ => trivial)); (case aO => exact (by (with_reducible repeat (first | apply Kd.R_alloc | apply Kd.R_drewN | apply Kd.R_drew)); exact Kd.R_mono (Kd.R_far (p := ⟨gb113, 1, none⟩) (Kd.R_far (p := ⟨gb113, 0, none⟩) (Kd.R_types HO_3.out BK113.out (by decide)) (fun _ hk => hk.2) (.int .i64 ((rd_T42 l0_3 x10_1).f0))) (fun _ hk => hk.2) (.int .u8 ((rd_T42 l0_3 x10_1).f1))) (fun _ hk => trivial))); (case aS => exact (below_size (us_ HB.out))); (case aL => have := LMc21.out; omega); intro v118 w26 ho hb hg hat; rw [← Ny117.out] at ho; have n0_ := mk_ (blk_grown (g := gb111) (o := .cells #[.int .i64 a0_0, .int .i64 a0_1, .slice A0_2 l0_2.length c0_2, .slice (some ad112) l0_3.length c0_3] 32 (0, 0)) (uf_ BK111.out) hg (Kd.R_ne HO_3.out BK111.out (by decide))); have n1_ := mk_ (blk_grown (g := gb113) (o := .cells #[.int .i64 ((rd_T42 l0_3 x10_1).f0), .int .u8 ((rd_T42 l0_3 x10_1).f1)] 42 (0, 0)) (by (with_reducible repeat (first | refine bn_ ?_ _ | refine bw_ ?_ | refine ba_ ?_ _)); refine blk_put (cs := #[.int .i64 ((rd_T42 l0_3 x10_1).f0), .int .u8 0]) ?_ 1 _ rfl; (with_reducible repeat (first | refine bn_ ?_ _ | refine bw_ ?_ | refine ba_ ?_ _)); refine blk_put (cs := #[.int .i64 0, .int .u8 0]) ?_ 0 _ rfl; (with_reducible repeat (first | refine bn_ ?_ _ | refine bw_ ?_ | refine ba_ ?_ _)); exact BK113.out) hg (Kd.R_ne HO_3.out BK113.out (by decide))); have n2_ := mk_ (hb); have n3_ := mk_ (ho); clear BK111; clear BK113; clear HB; clear HO_3; have BK111 := n0_; have BK113 := n1_; have HB := n2_; have HO119 := n3_; clear n0_ n1_ n2_ n3_; clear ho hb hg hat)))
   go_roundg k1
   case measure => have := HK1.out; omega
   case rel => exact ⟨(y117), (wrap64 (x10_1 + 1)), (by first | rfl | (simp; done) | (simp [*]; done)), H', ⟨by have := HK1.out; omega⟩, ⟨Kd.ur_ HO119.out⟩, ⟨u_ BK111.out⟩, ⟨us_ HB.out⟩⟩

/-! ### impl_EarRanges: function 15 -/
def impl_EarRanges.f (k : Nat) (a0_0 : Int) (a0_1 : Int) (l0_2 : List Int) (l0_3 : List (S42)) : Option ((List (S40))) := (impl_EarOk.f k a0_0 a0_1 l0_2 l0_3).bind fun t131 => (if t131 = true then ((impl_Ear_ranges.f k a0_0 a0_1 l0_2 l0_3).bind fun t132 => (some t132)) else (some ([] : List (S40))))
theorem impl_EarRanges.mono : ∀ a0 a1 a2 a3 k, LeO (impl_EarRanges.f k a0 a1 a2 a3) (impl_EarRanges.f (k + 1) a0 a1 a2 a3) := by
 intro a0 a1 a2 a3 k
 unfold impl_EarRanges.f
 repeat' first
   | (with_reducible exact impl_EarOk.mono _ _ _ _ _)
   | (with_reducible exact impl_Ear_ranges.mono _ _ _ _ _)
   | (with_reducible exact LeO.refl _)
   | (with_reducible exact LeO.none _)
   | (with_reducible refine LeO.ite ?_ ?_)
   | (with_reducible refine LeO.bind ?_ (fun _ => ?_))
   | exact impl_EarOk.mono _ _ _ _ _
   | exact impl_Ear_ranges.mono _ _ _ _ _
   | exact LeO.none _
   | refine LeO.ite ?_ ?_
   | refine LeO.bind ?_ (fun _ => ?_)
set_option maxHeartbeats 8000000 in
set_option maxRecDepth 100000 in
theorem impl_EarRanges.calls (k : Nat) (a0_0 : Int) (a0_1 : Int) (A0_2 : Option Addr) (c0_2 : Nat) (l0_2 : List Int) (A0_3 : Option Addr) (c0_3 : Nat) (l0_3 : List (S42)) (r : List (S40)) (w : World) (hr0_2 : Kd.C (Kd.int .u8) w A0_2 l0_2.length l0_2) (hc0_2 : l0_2.length ≤ c0_2) (hr0_3 : Kd.C k42 w A0_3 l0_3.length l0_3) (hc0_3 : l0_3.length ≤ c0_3) (h : impl_EarRanges.f k a0_0 a0_1 l0_2 l0_3 = some r) :
  Calls Try.prog 15 #[.agg #[.int .i64 a0_0, .int .i64 a0_1, .slice A0_2 l0_2.length c0_2, .slice A0_3 l0_3.length c0_3]] w fun e w' => ∃ v0_ : Value, e = .returned (v0_) ∧ Kd.R k40 40 w' w.heap.size (fun _ => True) v0_ r ∧ Below w.heap.size w w' := by
 have hu32 := Try.underlying32
 have HR0_2 := mk_ hr0_2
 have HC0_2 := mk_ hc0_2
 clear hr0_2 hc0_2
 have HR0_3 := mk_ hr0_3
 have HC0_3 := mk_ hc0_3
 clear hr0_3 hc0_3
 have HB := mk_ (Below.refl w.heap.size w)
 have H : ((impl_EarOk.f k a0_0 a0_1 l0_2 l0_3).bind fun t131 => (if t131 = true then ((impl_Ear_ranges.f k a0_0 a0_1 l0_2 l0_3).bind fun t132 => (some t132)) else (some ([] : List (S40))))) = some r := h
 clear h
 replace H := Option.bind_eq_some_iff.mp H
 obtain ⟨t131, A20, H⟩ := H
 replace H : (if t131 = true then ((impl_Ear_ranges.f k a0_0 a0_1 l0_2 l0_3).bind fun t132 => (some t132)) else (some ([] : List (S40)))) = some r := H
 have A2 := mk_ A20
 clear A20
 by_cases c3 : t131 = true
 rotate_left
 ·replace c3 := Bool.eq_false_iff.mpr c3
  subst c3
  have H1 : (some ([] : List (S40))) = some r := by rw [if_neg (show ¬ (false = true) by decide)] at H; exact H
  clear H
  have H := H1
  clear H1
  obtain rfl := Option.some.inj H
  go_enter Try.func15, Try.ntmps15
  go_wp2_with (first | ((with_reducible refine gate_dst (N := 1) rfl ?_); refine box_event ?hg (N := 1) ?hd (cs := #[.int .i64 a0_0, .int .i64 a0_1, .slice A0_2 l0_2.length c0_2, .slice A0_3 l0_3.length c0_3]) (t := 32) ?hr ?_; (case hd => rfl); (case hg => rfl); (case hr => first | (go_simp; done) | (go_simp; rfl)); intro gb130 hg w10 hbox hb; have n0_ := mk_ (below_step (ub_ HB.out) hb); have n1_ := mk_ (hbox); have n2_ := mk_ ((by rw [hg]; exact (below_size (ub_ HB.out)) : w.heap.size ≤ gb130)); have n3_ := mk_ ((by rw [hg]; exact (below_size (ub_ HB.out)) : w.heap.size ≤ gb130)); clear HB; have HB := n0_; have BK130 := n1_; have GW130 := n2_; have GE130 := ge_ n3_.out; clear n0_ n1_ n2_ n3_; clear hb hbox hg; have hcz11_0 : w10.cell? ⟨gb130, 0, none⟩ = some (.int .i64 a0_0) := (blk_cell BK130.out 0).trans rfl; have hcz11_1 : w10.cell? ⟨gb130, 1, none⟩ = some (.int .i64 a0_1) := (blk_cell BK130.out 1).trans rfl; have hcz11_2 : w10.cell? ⟨gb130, 2, none⟩ = some (.slice A0_2 l0_2.length c0_2) := (blk_cell BK130.out 2).trans rfl; have hcz11_3 : w10.cell? ⟨gb130, 3, none⟩ = some (.slice A0_3 l0_3.length c0_3) := (blk_cell BK130.out 3).trans rfl; have hfz11_0 := blk_frozen BK130.out 0; have hfz11_1 := blk_frozen BK130.out 1; have hfz11_2 := blk_frozen BK130.out 2; have hfz11_3 := blk_frozen BK130.out 3) | ((with_reducible refine gate_callee (f := 18) rfl ?_); refine goesL_ (some 4) rfl rfl Try.func18 (by kernel_rfl) rfl #[.agg #[.int .i64 a0_0, .int .i64 a0_1, .slice A0_2 l0_2.length c0_2, .slice A0_3 l0_3.length c0_3]] rfl (by (try simp only [lm_, lo_, ln_]); first | done | rfl | (simp only [List.length_drop, List.length_take]; rfl)) ?_; (with_reducible refine (impl_EarOk.calls k a0_0 a0_1 _ _ l0_2 _ _ l0_3 false _ ?side1 ?side2 ?side3 ?side4 A2.out).mono ?_); (case side1 => repeat (first | exact (Kd.C_below HR0_2.out HB.out) | (with_reducible refine Kd.C_alloc ?_ _) | (with_reducible refine Kd.C_drewN ?_ _) | (with_reducible refine Kd.C_drew ?_))); (case side2 => exact HC0_2.out); (case side3 => repeat (first | exact (Kd.C_below HR0_3.out HB.out) | (with_reducible refine Kd.C_alloc ?_ _) | (with_reducible refine Kd.C_drewN ?_ _) | (with_reducible refine Kd.C_drew ?_))); (case side4 => exact HC0_3.out); rintro e w12 ⟨rfl, hb⟩; refine ⟨_, rfl, ?_⟩; have n0_ := mk_ (blk_below (u_ BK130.out) hb); have n1_ := mk_ (below_step (us_ HB.out) hb); clear BK130; clear HB; have BK130 := n0_; have HB := n1_; clear n0_ n1_; (try clear hb); (try clear hb2); (try clear hk); (try clear hi)))
  go_ret
  exact ⟨_, by first | rfl | (simp [errW_none, errW_some] <;> rfl) | (simp [*, errW_none, errW_some] <;> rfl), by first | exact Kd.R_nil _ _ _ _ _ | exact Kd.N_nil _ _ _ _ _ | exact Kd.V_nil _ _ _ _ _ | exact Kd.Q_nil _ _ _ _ _ | exact Kd.S_nil _ _ _ _ _, us_ HB.out⟩
 subst c3
 have H1 : ((impl_Ear_ranges.f k a0_0 a0_1 l0_2 l0_3).bind fun t132 => (some t132)) = some r := by rw [if_pos rfl] at H; exact H
 clear H
 have H := H1
 clear H1
 replace H := Option.bind_eq_some_iff.mp H
 obtain ⟨t132, A40, H⟩ := H
 replace H : (some t132) = some r := H
 have A4 := mk_ A40
 clear A40
 obtain rfl := Option.some.inj H
 go_enter Try.func15, Try.ntmps15
 go_wp2_with (first | ((with_reducible refine gate_dst (N := 1) rfl ?_); refine box_event ?hg (N := 1) ?hd (cs := #[.int .i64 a0_0, .int .i64 a0_1, .slice A0_2 l0_2.length c0_2, .slice A0_3 l0_3.length c0_3]) (t := 32) ?hr ?_; (case hd => rfl); (case hg => rfl); (case hr => first | (go_simp; done) | (go_simp; rfl)); intro gb130 hg w5 hbox hb; have n0_ := mk_ (below_step (ub_ HB.out) hb); have n1_ := mk_ (hbox); have n2_ := mk_ ((by rw [hg]; exact (below_size (ub_ HB.out)) : w.heap.size ≤ gb130)); have n3_ := mk_ ((by rw [hg]; exact (below_size (ub_ HB.out)) : w.heap.size ≤ gb130)); clear HB; have HB := n0_; have BK130 := n1_; have GW130 := n2_; have GE130 := ge_ n3_.out; clear n0_ n1_ n2_ n3_; clear hb hbox hg; have hcz6_0 : w5.cell? ⟨gb130, 0, none⟩ = some (.int .i64 a0_0) := (blk_cell BK130.out 0).trans rfl; have hcz6_1 : w5.cell? ⟨gb130, 1, none⟩ = some (.int .i64 a0_1) := (blk_cell BK130.out 1).trans rfl; have hcz6_2 : w5.cell? ⟨gb130, 2, none⟩ = some (.slice A0_2 l0_2.length c0_2) := (blk_cell BK130.out 2).trans rfl; have hcz6_3 : w5.cell? ⟨gb130, 3, none⟩ = some (.slice A0_3 l0_3.length c0_3) := (blk_cell BK130.out 3).trans rfl; have hfz6_0 := blk_frozen BK130.out 0; have hfz6_1 := blk_frozen BK130.out 1; have hfz6_2 := blk_frozen BK130.out 2; have hfz6_3 := blk_frozen BK130.out 3) | ((with_reducible refine gate_callee (f := 18) rfl ?_); refine goesL_ (some 4) rfl rfl Try.func18 (by kernel_rfl) rfl #[.agg #[.int .i64 a0_0, .int .i64 a0_1, .slice A0_2 l0_2.length c0_2, .slice A0_3 l0_3.length c0_3]] rfl (by (try simp only [lm_, lo_, ln_]); first | done | rfl | (simp only [List.length_drop, List.length_take]; rfl)) ?_; (with_reducible refine (impl_EarOk.calls k a0_0 a0_1 _ _ l0_2 _ _ l0_3 true _ ?side1 ?side2 ?side3 ?side4 A2.out).mono ?_); (case side1 => repeat (first | exact (Kd.C_below HR0_2.out HB.out) | (with_reducible refine Kd.C_alloc ?_ _) | (with_reducible refine Kd.C_drewN ?_ _) | (with_reducible refine Kd.C_drew ?_))); (case side2 => exact HC0_2.out); (case side3 => repeat (first | exact (Kd.C_below HR0_3.out HB.out) | (with_reducible refine Kd.C_alloc ?_ _) | (with_reducible refine Kd.C_drewN ?_ _) | (with_reducible refine Kd.C_drew ?_))); (case side4 => exact HC0_3.out); rintro e w7 ⟨rfl, hb⟩; refine ⟨_, rfl, ?_⟩; have n0_ := mk_ (blk_below (u_ BK130.out) hb); have n1_ := mk_ (below_step (us_ HB.out) hb); clear BK130; clear HB; have BK130 := n0_; have HB := n1_; clear n0_ n1_; (try clear hb); (try clear hb2); (try clear hk); (try clear hi); have hcz8_0 : w7.cell? ⟨gb130, 0, none⟩ = some (.int .i64 a0_0) := (blk_cell BK130.out 0).trans rfl; have hcz8_1 : w7.cell? ⟨gb130, 1, none⟩ = some (.int .i64 a0_1) := (blk_cell BK130.out 1).trans rfl; have hcz8_2 : w7.cell? ⟨gb130, 2, none⟩ = some (.slice A0_2 l0_2.length c0_2) := (blk_cell BK130.out 2).trans rfl; have hcz8_3 : w7.cell? ⟨gb130, 3, none⟩ = some (.slice A0_3 l0_3.length c0_3) := (blk_cell BK130.out 3).trans rfl; have hfz8_0 := blk_frozen BK130.out 0; have hfz8_1 := blk_frozen BK130.out 1; have hfz8_2 := blk_frozen BK130.out 2; have hfz8_3 := blk_frozen BK130.out 3) | ((with_reducible refine gate_callee (f := 53) rfl ?_); refine goesL_ (some 7) rfl rfl Try.func53 (by kernel_rfl) rfl #[.agg #[.int .i64 a0_0, .int .i64 a0_1, .slice A0_2 l0_2.length c0_2, .slice A0_3 l0_3.length c0_3]] rfl (by (try simp only [lm_, lo_, ln_]); first | done | rfl | (simp only [List.length_drop, List.length_take]; rfl)) ?_; (with_reducible refine (impl_Ear_ranges.calls k a0_0 a0_1 _ _ l0_2 _ _ l0_3 t132 _ ?side1 ?side2 ?side3 ?side4 A4.out).mono ?_); (case side1 => repeat (first | exact (Kd.C_below HR0_2.out HB.out) | (with_reducible refine Kd.C_alloc ?_ _) | (with_reducible refine Kd.C_drewN ?_ _) | (with_reducible refine Kd.C_drew ?_))); (case side2 => exact HC0_2.out); (case side3 => repeat (first | exact (Kd.C_below HR0_3.out HB.out) | (with_reducible refine Kd.C_alloc ?_ _) | (with_reducible refine Kd.C_drewN ?_ _) | (with_reducible refine Kd.C_drew ?_))); (case side4 => exact HC0_3.out); rintro e w9 ⟨v133, rfl, ho0, hb⟩; refine ⟨_, rfl, ?_⟩; have n0_ := mk_ (Kd.R_lower ho0 (below_size (us_ HB.out))); have n1_ := mk_ (blk_below (u_ BK130.out) hb); have n2_ := mk_ (below_step (us_ HB.out) hb); clear BK130; clear HB; have HO134 := n0_; have BK130 := n1_; have HB := n2_; clear n0_ n1_ n2_; (try clear hb); (try clear hb2); (try clear hk); (try clear hi); (try clear ho0)))
 go_ret
 exact ⟨_, by first | rfl | (simp [errW_none, errW_some] <;> rfl) | (simp [*, errW_none, errW_some] <;> rfl), by (with_reducible repeat (first | apply Kd.R_alloc | apply Kd.R_drewN | apply Kd.R_drew)); exact HO134.out, us_ HB.out⟩

/-! ### spec_l1In: function 75 -/
def spec_l1In.f (a0 : Int) (a1 : Int) (a2 : Int) : Option (Bool) := if a0 ≥ a1 then (some (decide (a0 ≤ a2))) else (some false)
set_option maxHeartbeats 8000000 in
set_option maxRecDepth 100000 in
theorem spec_l1In.calls (a0 : Int) (a1 : Int) (a2 : Int) (r : Bool) (w : World) (h : spec_l1In.f a0 a1 a2 = some r) :
  Calls Try.prog 75 #[.int .i64 a0, .int .i64 a1, .int .i64 a2] w fun e w' => e = .returned (.bool r) ∧ Drawn0 w w' := by
 have H : (if a0 ≥ a1 then (some (decide (a0 ≤ a2))) else (some false)) = some r := h
 clear h
 by_cases c4 : a0 ≥ a1
 ·rw [if_pos c4] at H
  have c4b0 : decide (a1 ≤ a0) = true := decide_eq_true c4
  clear c4
  obtain rfl := Option.some.inj H
  go_enter Try.func75, Try.ntmps75
  go_wp2
  go_ret
  exact ⟨by first | rfl | (simp; done) | (simp [*]; done), by repeat (first | exact Drawn0.refl _ | apply Drawn0.step)⟩
 rw [if_neg c4] at H
 have c4b0 : decide (a1 ≤ a0) = false := decide_eq_false c4
 clear c4
 obtain rfl := Option.some.inj H
 go_enter Try.func75, Try.ntmps75
 go_wp2
 go_ret
 exact ⟨by first | rfl | (simp; done) | (simp [*]; done), by repeat (first | exact Drawn0.refl _ | apply Drawn0.step)⟩

/-! ### spec_EarOk: function 54 -/
mutual
def spec_EarOk.j0 : Nat → Bool → Int → Int → List Int → List (S42) → Option (Bool)
 | 0, _, _, _, _, _ => none
 | k + 1, x21, x136000, x136001, x136002, x136003 => if x21 = true then (some false) else (spec_EarOk.l0 k 0 x136000 x136001 x136002 x136003)
def spec_EarOk.l0 : Nat → Int → Int → Int → List Int → List (S42) → Option (Bool)
 | 0, _, _, _, _, _ => none
 | k + 1, x3, x136000, x136001, x136002, x136003 => if x3 < (x136003.length : Int) then (if 0 ≤ x3 then (if ((rd_T42 x136003 x3).f0) ≤ x136000 then (some false) else (if ((rd_T42 x136003 x3).f0) ≥ (wrap64 ((wrap64 (x136000 + x136001)) - (x136002.length : Int))) then (some false) else (if x3 > 0 then (if 0 ≤ (wrap64 (x3 - 1)) then (if (wrap64 (x3 - 1)) < (x136003.length : Int) then (if ((rd_T42 x136003 (wrap64 (x3 - 1))).f0) ≥ ((rd_T42 x136003 x3).f0) then (some false) else (spec_EarOk.l0 k (wrap64 (x3 + 1)) x136000 x136001 x136002 x136003)) else (none)) else (none)) else (spec_EarOk.l0 k (wrap64 (x3 + 1)) x136000 x136001 x136002 x136003)))) else (none)) else (some true)
end
def spec_EarOk.f (k : Nat) (a0_0 : Int) (a0_1 : Int) (l0_2 : List Int) (l0_3 : List (S42)) : Option (Bool) := (spec_l1In.f a0_0 0 1000000).bind fun t136 => (if t136 = true then ((spec_l1In.f a0_1 1 32).bind fun t137 => (if t137 = true then (spec_EarOk.j0 k (decide ((l0_2.length : Int) > a0_1)) a0_0 a0_1 l0_2 l0_3) else (spec_EarOk.j0 k true a0_0 a0_1 l0_2 l0_3))) else (spec_EarOk.j0 k true a0_0 a0_1 l0_2 l0_3))
theorem spec_EarOk.mono_l : ∀ k, (∀ y0 y1 y2 y3 y4, LeO (spec_EarOk.j0 k y0 y1 y2 y3 y4) (spec_EarOk.j0 (k + 1) y0 y1 y2 y3 y4)) ∧ (∀ y0 y1 y2 y3 y4, LeO (spec_EarOk.l0 k y0 y1 y2 y3 y4) (spec_EarOk.l0 (k + 1) y0 y1 y2 y3 y4))
 | 0 => ⟨fun _ _ _ _ _ r h => by simp [spec_EarOk.j0] at h, fun _ _ _ _ _ r h => by simp [spec_EarOk.l0] at h⟩
 | k + 1 => by
  obtain ⟨ih0, ih1⟩ := spec_EarOk.mono_l k
  refine ⟨?_, ?_⟩
  ·intro y0 y1 y2 y3 y4
   unfold spec_EarOk.j0
   repeat' first
   | (with_reducible exact ih0 _ _ _ _ _)
   | (with_reducible exact ih1 _ _ _ _ _)
   | (with_reducible exact LeO.refl _)
   | (with_reducible exact LeO.none _)
   | (with_reducible refine LeO.ite ?_ ?_)
   | (with_reducible refine LeO.bind ?_ (fun _ => ?_))
   | exact ih0 _ _ _ _ _
   | exact ih1 _ _ _ _ _
   | exact LeO.none _
   | refine LeO.ite ?_ ?_
   | refine LeO.bind ?_ (fun _ => ?_)
  ·intro y0 y1 y2 y3 y4
   unfold spec_EarOk.l0
   repeat' first
   | (with_reducible exact ih0 _ _ _ _ _)
   | (with_reducible exact ih1 _ _ _ _ _)
   | (with_reducible exact LeO.refl _)
   | (with_reducible exact LeO.none _)
   | (with_reducible refine LeO.ite ?_ ?_)
   | (with_reducible refine LeO.bind ?_ (fun _ => ?_))
   | exact ih0 _ _ _ _ _
   | exact ih1 _ _ _ _ _
   | exact LeO.none _
   | refine LeO.ite ?_ ?_
   | refine LeO.bind ?_ (fun _ => ?_)
theorem spec_EarOk.mono : ∀ a0 a1 a2 a3 k, LeO (spec_EarOk.f k a0 a1 a2 a3) (spec_EarOk.f (k + 1) a0 a1 a2 a3) := by
 intro a0 a1 a2 a3 k
 obtain ⟨ih0, ih1⟩ := spec_EarOk.mono_l k
 unfold spec_EarOk.f
 repeat' first
   | (with_reducible exact ih0 _ _ _ _ _)
   | (with_reducible exact ih1 _ _ _ _ _)
   | (with_reducible exact LeO.refl _)
   | (with_reducible exact LeO.none _)
   | (with_reducible refine LeO.ite ?_ ?_)
   | (with_reducible refine LeO.bind ?_ (fun _ => ?_))
   | exact ih0 _ _ _ _ _
   | exact ih1 _ _ _ _ _
   | exact LeO.none _
   | refine LeO.ite ?_ ?_
   | refine LeO.bind ?_ (fun _ => ?_)
set_option maxHeartbeats 8000000 in
set_option maxRecDepth 100000 in
theorem spec_EarOk.calls (k : Nat) (a0_0 : Int) (a0_1 : Int) (A0_2 : Option Addr) (c0_2 : Nat) (l0_2 : List Int) (A0_3 : Option Addr) (c0_3 : Nat) (l0_3 : List (S42)) (r : Bool) (w : World) (hr0_2 : Kd.C (Kd.int .u8) w A0_2 l0_2.length l0_2) (hc0_2 : l0_2.length ≤ c0_2) (hr0_3 : Kd.C k42 w A0_3 l0_3.length l0_3) (hc0_3 : l0_3.length ≤ c0_3) (h : spec_EarOk.f k a0_0 a0_1 l0_2 l0_3 = some r) :
  Calls Try.prog 54 #[.agg #[.int .i64 a0_0, .int .i64 a0_1, .slice A0_2 l0_2.length c0_2, .slice A0_3 l0_3.length c0_3]] w fun e w' => e = .returned (.bool r) ∧ Below w.heap.size w w' := by
 have hu32 := Try.underlying32
 have HR0_2 := mk_ hr0_2
 have HC0_2 := mk_ hc0_2
 clear hr0_2 hc0_2
 have HR0_3 := mk_ hr0_3
 have HC0_3 := mk_ hc0_3
 clear hr0_3 hc0_3
 have HB := mk_ (Below.refl w.heap.size w)
 have H : ((spec_l1In.f a0_0 0 1000000).bind fun t136 => (if t136 = true then ((spec_l1In.f a0_1 1 32).bind fun t137 => (if t137 = true then (spec_EarOk.j0 k (decide ((l0_2.length : Int) > a0_1)) a0_0 a0_1 l0_2 l0_3) else (spec_EarOk.j0 k true a0_0 a0_1 l0_2 l0_3))) else (spec_EarOk.j0 k true a0_0 a0_1 l0_2 l0_3))) = some r := h
 clear h
 have HC2 := mk_ H
 clear H
 go_enter Try.func54, Try.ntmps54
 go_upto_region 1 with (first | ((with_reducible refine gate_dst (N := 1) rfl ?_); refine box_event ?hg (N := 1) ?hd (cs := #[.int .i64 a0_0, .int .i64 a0_1, .slice A0_2 l0_2.length c0_2, .slice A0_3 l0_3.length c0_3]) (t := 32) ?hr ?_; (case hd => rfl); (case hg => rfl); (case hr => first | (go_simp; done) | (go_simp; rfl)); intro gb135 hg w3 hbox hb; have n0_ := mk_ (below_step (ub_ HB.out) hb); have n1_ := mk_ (hbox); have n2_ := mk_ ((by rw [hg]; exact (below_size (ub_ HB.out)) : w.heap.size ≤ gb135)); have n3_ := mk_ ((by rw [hg]; exact (below_size (ub_ HB.out)) : w.heap.size ≤ gb135)); clear HB; have HB := n0_; have BK135 := n1_; have GW135 := n2_; have GE135 := ge_ n3_.out; clear n0_ n1_ n2_ n3_; clear hb hbox hg))
 repeat (go_quiet (first | ((with_reducible refine gate_dst (N := 1) rfl ?_); refine box_event ?hg (N := 1) ?hd (cs := #[.int .i64 a0_0, .int .i64 a0_1, .slice A0_2 l0_2.length c0_2, .slice A0_3 l0_3.length c0_3]) (t := 32) ?hr ?_; (case hd => rfl); (case hg => rfl); (case hr => first | (go_simp; done) | (go_simp; rfl)); intro gb135 hg w3 hbox hb; have n0_ := mk_ (below_step (ub_ HB.out) hb); have n1_ := mk_ (hbox); have n2_ := mk_ ((by rw [hg]; exact (below_size (ub_ HB.out)) : w.heap.size ≤ gb135)); have n3_ := mk_ ((by rw [hg]; exact (below_size (ub_ HB.out)) : w.heap.size ≤ gb135)); clear HB; have HB := n0_; have BK135 := n1_; have GW135 := n2_; have GE135 := ge_ n3_.out; clear n0_ n1_ n2_ n3_; clear hb hbox hg)); go_upto_region 1 with (first | ((with_reducible refine gate_dst (N := 1) rfl ?_); refine box_event ?hg (N := 1) ?hd (cs := #[.int .i64 a0_0, .int .i64 a0_1, .slice A0_2 l0_2.length c0_2, .slice A0_3 l0_3.length c0_3]) (t := 32) ?hr ?_; (case hd => rfl); (case hg => rfl); (case hr => first | (go_simp; done) | (go_simp; rfl)); intro gb135 hg w3 hbox hb; have n0_ := mk_ (below_step (ub_ HB.out) hb); have n1_ := mk_ (hbox); have n2_ := mk_ ((by rw [hg]; exact (below_size (ub_ HB.out)) : w.heap.size ≤ gb135)); have n3_ := mk_ ((by rw [hg]; exact (below_size (ub_ HB.out)) : w.heap.size ≤ gb135)); clear HB; have HB := n0_; have BK135 := n1_; have GW135 := n2_; have GE135 := ge_ n3_.out; clear n0_ n1_ n2_ n3_; clear hb hbox hg)))
 (try simp only [Act.put, la_, lz_, ls_])
 go_cut [21] (fun v21 wc => ∃ (kq : Nat) (x21_1 : Bool), v21 = .bool x21_1 ∧ Aside0 (spec_EarOk.j0 kq x21_1 a0_0 a0_1 l0_2 l0_3 = some r) ∧ Aside0 (kq ≤ k) ∧ Aside0 (wc.heap[gb135]? = some (.cells #[.int .i64 a0_0, .int .i64 a0_1, (.slice A0_2 l0_2.length c0_2), (.slice A0_3 l0_3.length c0_3)] 32 (0, 0))) ∧ Aside0 (Below w.heap.size w wc))
 case first =>
  have H := HC2.out
  clear HC2
  replace H := Option.bind_eq_some_iff.mp H
  obtain ⟨t136, A40, H⟩ := H
  replace H : (if t136 = true then ((spec_l1In.f a0_1 1 32).bind fun t137 => (if t137 = true then (spec_EarOk.j0 k (decide ((l0_2.length : Int) > a0_1)) a0_0 a0_1 l0_2 l0_3) else (spec_EarOk.j0 k true a0_0 a0_1 l0_2 l0_3))) else (spec_EarOk.j0 k true a0_0 a0_1 l0_2 l0_3)) = some r := H
  have A4 := mk_ A40
  clear A40
  by_cases c5 : t136 = true
  rotate_left
  ·replace c5 := Bool.eq_false_iff.mpr c5
   subst c5
   have H1 : (spec_EarOk.j0 k true a0_0 a0_1 l0_2 l0_3) = some r := by rw [if_neg (show ¬ (false = true) by decide)] at H; exact H
   clear H
   have H := H1
   clear H1
   have H' := mk_ H
   clear H
   have hcz10_0 : w3.cell? ⟨gb135, 0, none⟩ = some (.int .i64 a0_0) := (blk_cell BK135.out 0).trans rfl
   have hcz10_1 : w3.cell? ⟨gb135, 1, none⟩ = some (.int .i64 a0_1) := (blk_cell BK135.out 1).trans rfl
   have hcz10_2 : w3.cell? ⟨gb135, 2, none⟩ = some (.slice A0_2 l0_2.length c0_2) := (blk_cell BK135.out 2).trans rfl
   have hcz10_3 : w3.cell? ⟨gb135, 3, none⟩ = some (.slice A0_3 l0_3.length c0_3) := (blk_cell BK135.out 3).trans rfl
   have hfz10_0 := blk_frozen BK135.out 0
   have hfz10_1 := blk_frozen BK135.out 1
   have hfz10_2 := blk_frozen BK135.out 2
   have hfz10_3 := blk_frozen BK135.out 3
   go_wp2_with (first | (go_at_call 75; (with_reducible refine (spec_l1In.calls a0_0 0 1000000 false _ A4.out).mono ?_); rintro e w' ⟨rfl, ⟨nd, rfl⟩⟩; (try first | exact ⟨rfl, _, World.drewN_drewN _ _ _⟩ | exact ⟨rfl, _, Eq.trans (World.drewN_drewN _ _ _) (congrArg (World.drewN _) (Nat.add_assoc _ _ _))⟩)))
   repeat (go_quiet (first | (go_at_call 75; (with_reducible refine (spec_l1In.calls a0_0 0 1000000 false _ A4.out).mono ?_); rintro e w' ⟨rfl, ⟨nd, rfl⟩⟩; (try first | exact ⟨rfl, _, World.drewN_drewN _ _ _⟩ | exact ⟨rfl, _, Eq.trans (World.drewN_drewN _ _ _) (congrArg (World.drewN _) (Nat.add_assoc _ _ _))⟩))); try go_wp2_with (first | (go_at_call 75; (with_reducible refine (spec_l1In.calls a0_0 0 1000000 false _ A4.out).mono ?_); rintro e w' ⟨rfl, ⟨nd, rfl⟩⟩; (try first | exact ⟨rfl, _, World.drewN_drewN _ _ _⟩ | exact ⟨rfl, _, Eq.trans (World.drewN_drewN _ _ _) (congrArg (World.drewN _) (Nat.add_assoc _ _ _))⟩))))
   go_meet
   case rel => exact ⟨_, (true), (by first | rfl | (simp; done) | (simp [*]; done)), H', ⟨by first | omega | exact Nat.le_refl _⟩, ⟨u_ BK135.out⟩, ⟨us_ HB.out⟩⟩
  subst c5
  have H1 : ((spec_l1In.f a0_1 1 32).bind fun t137 => (if t137 = true then (spec_EarOk.j0 k (decide ((l0_2.length : Int) > a0_1)) a0_0 a0_1 l0_2 l0_3) else (spec_EarOk.j0 k true a0_0 a0_1 l0_2 l0_3))) = some r := by rw [if_pos rfl] at H; exact H
  clear H
  have H := H1
  clear H1
  replace H := Option.bind_eq_some_iff.mp H
  obtain ⟨t137, A60, H⟩ := H
  replace H : (if t137 = true then (spec_EarOk.j0 k (decide ((l0_2.length : Int) > a0_1)) a0_0 a0_1 l0_2 l0_3) else (spec_EarOk.j0 k true a0_0 a0_1 l0_2 l0_3)) = some r := H
  have A6 := mk_ A60
  clear A60
  by_cases c7 : t137 = true
  ·subst c7
   have H1 : (spec_EarOk.j0 k (decide ((l0_2.length : Int) > a0_1)) a0_0 a0_1 l0_2 l0_3) = some r := by rw [if_pos rfl] at H; exact H
   clear H
   have H := H1
   clear H1
   have H' := mk_ H
   clear H
   have hcz8_0 : w3.cell? ⟨gb135, 0, none⟩ = some (.int .i64 a0_0) := (blk_cell BK135.out 0).trans rfl
   have hcz8_1 : w3.cell? ⟨gb135, 1, none⟩ = some (.int .i64 a0_1) := (blk_cell BK135.out 1).trans rfl
   have hcz8_2 : w3.cell? ⟨gb135, 2, none⟩ = some (.slice A0_2 l0_2.length c0_2) := (blk_cell BK135.out 2).trans rfl
   have hcz8_3 : w3.cell? ⟨gb135, 3, none⟩ = some (.slice A0_3 l0_3.length c0_3) := (blk_cell BK135.out 3).trans rfl
   have hfz8_0 := blk_frozen BK135.out 0
   have hfz8_1 := blk_frozen BK135.out 1
   have hfz8_2 := blk_frozen BK135.out 2
   have hfz8_3 := blk_frozen BK135.out 3
   go_wp2_with (first | (go_at_call 75; (with_reducible refine (spec_l1In.calls a0_0 0 1000000 true _ A4.out).mono ?_); rintro e w' ⟨rfl, ⟨nd, rfl⟩⟩; (try first | exact ⟨rfl, _, World.drewN_drewN _ _ _⟩ | exact ⟨rfl, _, Eq.trans (World.drewN_drewN _ _ _) (congrArg (World.drewN _) (Nat.add_assoc _ _ _))⟩)) | (go_at_call 75; (with_reducible refine (spec_l1In.calls a0_1 1 32 true _ A6.out).mono ?_); rintro e w' ⟨rfl, ⟨nd, rfl⟩⟩; (try first | exact ⟨rfl, _, World.drewN_drewN _ _ _⟩ | exact ⟨rfl, _, Eq.trans (World.drewN_drewN _ _ _) (congrArg (World.drewN _) (Nat.add_assoc _ _ _))⟩)))
   repeat (go_quiet (first | (go_at_call 75; (with_reducible refine (spec_l1In.calls a0_0 0 1000000 true _ A4.out).mono ?_); rintro e w' ⟨rfl, ⟨nd, rfl⟩⟩; (try first | exact ⟨rfl, _, World.drewN_drewN _ _ _⟩ | exact ⟨rfl, _, Eq.trans (World.drewN_drewN _ _ _) (congrArg (World.drewN _) (Nat.add_assoc _ _ _))⟩)) | (go_at_call 75; (with_reducible refine (spec_l1In.calls a0_1 1 32 true _ A6.out).mono ?_); rintro e w' ⟨rfl, ⟨nd, rfl⟩⟩; (try first | exact ⟨rfl, _, World.drewN_drewN _ _ _⟩ | exact ⟨rfl, _, Eq.trans (World.drewN_drewN _ _ _) (congrArg (World.drewN _) (Nat.add_assoc _ _ _))⟩))); try go_wp2_with (first | (go_at_call 75; (with_reducible refine (spec_l1In.calls a0_0 0 1000000 true _ A4.out).mono ?_); rintro e w' ⟨rfl, ⟨nd, rfl⟩⟩; (try first | exact ⟨rfl, _, World.drewN_drewN _ _ _⟩ | exact ⟨rfl, _, Eq.trans (World.drewN_drewN _ _ _) (congrArg (World.drewN _) (Nat.add_assoc _ _ _))⟩)) | (go_at_call 75; (with_reducible refine (spec_l1In.calls a0_1 1 32 true _ A6.out).mono ?_); rintro e w' ⟨rfl, ⟨nd, rfl⟩⟩; (try first | exact ⟨rfl, _, World.drewN_drewN _ _ _⟩ | exact ⟨rfl, _, Eq.trans (World.drewN_drewN _ _ _) (congrArg (World.drewN _) (Nat.add_assoc _ _ _))⟩))))
   go_meet
   case rel => exact ⟨_, (decide ((l0_2.length : Int) > a0_1)), (by first | rfl | (simp; done) | (simp [*]; done)), H', ⟨by first | omega | exact Nat.le_refl _⟩, ⟨u_ BK135.out⟩, ⟨us_ HB.out⟩⟩
  replace c7 := Bool.eq_false_iff.mpr c7
  subst c7
  have H1 : (spec_EarOk.j0 k true a0_0 a0_1 l0_2 l0_3) = some r := by rw [if_neg (show ¬ (false = true) by decide)] at H; exact H
  clear H
  have H := H1
  clear H1
  have H' := mk_ H
  clear H
  have hcz9_0 : w3.cell? ⟨gb135, 0, none⟩ = some (.int .i64 a0_0) := (blk_cell BK135.out 0).trans rfl
  have hcz9_1 : w3.cell? ⟨gb135, 1, none⟩ = some (.int .i64 a0_1) := (blk_cell BK135.out 1).trans rfl
  have hcz9_2 : w3.cell? ⟨gb135, 2, none⟩ = some (.slice A0_2 l0_2.length c0_2) := (blk_cell BK135.out 2).trans rfl
  have hcz9_3 : w3.cell? ⟨gb135, 3, none⟩ = some (.slice A0_3 l0_3.length c0_3) := (blk_cell BK135.out 3).trans rfl
  have hfz9_0 := blk_frozen BK135.out 0
  have hfz9_1 := blk_frozen BK135.out 1
  have hfz9_2 := blk_frozen BK135.out 2
  have hfz9_3 := blk_frozen BK135.out 3
  go_wp2_with (first | (go_at_call 75; (with_reducible refine (spec_l1In.calls a0_0 0 1000000 true _ A4.out).mono ?_); rintro e w' ⟨rfl, ⟨nd, rfl⟩⟩; (try first | exact ⟨rfl, _, World.drewN_drewN _ _ _⟩ | exact ⟨rfl, _, Eq.trans (World.drewN_drewN _ _ _) (congrArg (World.drewN _) (Nat.add_assoc _ _ _))⟩)) | (go_at_call 75; (with_reducible refine (spec_l1In.calls a0_1 1 32 false _ A6.out).mono ?_); rintro e w' ⟨rfl, ⟨nd, rfl⟩⟩; (try first | exact ⟨rfl, _, World.drewN_drewN _ _ _⟩ | exact ⟨rfl, _, Eq.trans (World.drewN_drewN _ _ _) (congrArg (World.drewN _) (Nat.add_assoc _ _ _))⟩)))
  repeat (go_quiet (first | (go_at_call 75; (with_reducible refine (spec_l1In.calls a0_0 0 1000000 true _ A4.out).mono ?_); rintro e w' ⟨rfl, ⟨nd, rfl⟩⟩; (try first | exact ⟨rfl, _, World.drewN_drewN _ _ _⟩ | exact ⟨rfl, _, Eq.trans (World.drewN_drewN _ _ _) (congrArg (World.drewN _) (Nat.add_assoc _ _ _))⟩)) | (go_at_call 75; (with_reducible refine (spec_l1In.calls a0_1 1 32 false _ A6.out).mono ?_); rintro e w' ⟨rfl, ⟨nd, rfl⟩⟩; (try first | exact ⟨rfl, _, World.drewN_drewN _ _ _⟩ | exact ⟨rfl, _, Eq.trans (World.drewN_drewN _ _ _) (congrArg (World.drewN _) (Nat.add_assoc _ _ _))⟩))); try go_wp2_with (first | (go_at_call 75; (with_reducible refine (spec_l1In.calls a0_0 0 1000000 true _ A4.out).mono ?_); rintro e w' ⟨rfl, ⟨nd, rfl⟩⟩; (try first | exact ⟨rfl, _, World.drewN_drewN _ _ _⟩ | exact ⟨rfl, _, Eq.trans (World.drewN_drewN _ _ _) (congrArg (World.drewN _) (Nat.add_assoc _ _ _))⟩)) | (go_at_call 75; (with_reducible refine (spec_l1In.calls a0_1 1 32 false _ A6.out).mono ?_); rintro e w' ⟨rfl, ⟨nd, rfl⟩⟩; (try first | exact ⟨rfl, _, World.drewN_drewN _ _ _⟩ | exact ⟨rfl, _, Eq.trans (World.drewN_drewN _ _ _) (congrArg (World.drewN _) (Nat.add_assoc _ _ _))⟩))))
  go_meet
  case rel => exact ⟨_, (true), (by first | rfl | (simp; done) | (simp [*]; done)), H', ⟨by first | omega | exact Nat.le_refl _⟩, ⟨u_ BK135.out⟩, ⟨us_ HB.out⟩⟩
 case rest =>
  clear HC2
  try clear p2
  try clear c5
  try clear c7
  try clear hcz10_0
  try clear hcz10_1
  try clear hcz10_2
  try clear hcz10_3
  try clear hcz8_0
  try clear hcz8_1
  try clear hcz8_2
  try clear hcz8_3
  try clear hcz9_0
  try clear hcz9_1
  try clear hcz9_2
  try clear hcz9_3
  try clear hfz10_0
  try clear hfz10_1
  try clear hfz10_2
  try clear hfz10_3
  try clear hfz8_0
  try clear hfz8_1
  try clear hfz8_2
  try clear hfz8_3
  try clear hfz9_0
  try clear hfz9_1
  try clear hfz9_2
  try clear hfz9_3
  obtain ⟨kq, x21_1, rfl, HA, HJ1, BK135, HB⟩ := hcut
  cases kq with
  | zero => exact absurd HA.out (by simp [spec_EarOk.j0])
  | succ kj1 =>
   have H := HA.out
   clear HA
   simp only [spec_EarOk.j0] at H
   by_cases c11 : x21_1 = true
   ·subst c11
    have H1 : (some false) = some r := by rw [if_pos rfl] at H; exact H
    clear H
    have H := H1
    clear H1
    obtain rfl := Option.some.inj H
    go_wp2
    repeat (go_quiet (fail); try go_wp2)
    go_ret
    exact ⟨by first | rfl | (simp [errW_none, errW_some] <;> rfl) | (simp [*, errW_none, errW_some] <;> rfl), us_ HB.out⟩
   replace c11 := Bool.eq_false_iff.mpr c11
   subst c11
   have H1 : (spec_EarOk.l0 kj1 0 a0_0 a0_1 l0_2 l0_3) = some r := by rw [if_neg (show ¬ (false = true) by decide)] at H; exact H
   clear H
   have H := H1
   clear H1
   have H' := mk_ H
   clear H
   go_wp2
   repeat (go_quiet (fail); try go_wp2)
   go_loopg [3] kj1 (fun kq v3 w' => ∃ (x3_2 : Int), v3 = .int .i64 x3_2 ∧ Aside0 (spec_EarOk.l0 kq x3_2 a0_0 a0_1 l0_2 l0_3 = some r) ∧ Aside0 (kq ≤ kj1) ∧ Aside0 (w'.heap[gb135]? = some (.cells #[.int .i64 a0_0, .int .i64 a0_1, (.slice A0_2 l0_2.length c0_2), (.slice A0_3 l0_3.length c0_3)] 32 (0, 0))) ∧ Aside0 (Below w.heap.size w w'))
   case atStart => exact ⟨(0), (by first | rfl | (simp; done) | (simp [*]; done)), H', ⟨Nat.le_refl _⟩, ⟨u_ BK135.out⟩, ⟨us_ HB.out⟩⟩
   case round =>
    clear H'
    try clear c1
    try clear p2
    try clear c5
    try clear c7
    try clear c11
    try clear hcz10_0
    try clear hcz10_1
    try clear hcz10_2
    try clear hcz10_3
    try clear hcz8_0
    try clear hcz8_1
    try clear hcz8_2
    try clear hcz8_3
    try clear hcz9_0
    try clear hcz9_1
    try clear hcz9_2
    try clear hcz9_3
    try clear hfz10_0
    try clear hfz10_1
    try clear hfz10_2
    try clear hfz10_3
    try clear hfz8_0
    try clear hfz8_1
    try clear hfz8_2
    try clear hfz8_3
    try clear hfz9_0
    try clear hfz9_1
    try clear hfz9_2
    try clear hfz9_3
    try clear p2
    obtain ⟨x3_2, rfl, HA, HK2, BK135, HB⟩ := hrel
    cases gk with
    | zero => exact absurd HA.out (by simp [spec_EarOk.l0])
    | succ k2 =>
     have H := HA.out
     clear HA
     simp only [spec_EarOk.l0] at H
     by_cases c12 : x3_2 < (l0_3.length : Int)
     rotate_left
     ·rw [if_neg c12] at H
      have c12b0 : decide (x3_2 < (l0_3.length : Int)) = false := decide_eq_false c12
      clear c12
      obtain rfl := Option.some.inj H
      have hcz26_0 : wr.cell? ⟨gb135, 0, none⟩ = some (.int .i64 a0_0) := (blk_cell BK135.out 0).trans rfl
      have hcz26_1 : wr.cell? ⟨gb135, 1, none⟩ = some (.int .i64 a0_1) := (blk_cell BK135.out 1).trans rfl
      have hcz26_2 : wr.cell? ⟨gb135, 2, none⟩ = some (.slice A0_2 l0_2.length c0_2) := (blk_cell BK135.out 2).trans rfl
      have hcz26_3 : wr.cell? ⟨gb135, 3, none⟩ = some (.slice A0_3 l0_3.length c0_3) := (blk_cell BK135.out 3).trans rfl
      have hfz26_0 := blk_frozen BK135.out 0
      have hfz26_1 := blk_frozen BK135.out 1
      have hfz26_2 := blk_frozen BK135.out 2
      have hfz26_3 := blk_frozen BK135.out 3
      go_wp2
      repeat (go_quiet (fail); try go_wp2)
      go_ret
      exact ⟨by first | rfl | (simp [errW_none, errW_some] <;> rfl) | (simp [*, errW_none, errW_some] <;> rfl), us_ HB.out⟩
     rw [if_pos c12] at H
     have c12b0 : decide (x3_2 < (l0_3.length : Int)) = true := decide_eq_true c12
     clear c12
     by_cases c13 : 0 ≤ x3_2
     rotate_left
     ·rw [if_neg c13] at H
      exact absurd H (by simp)
     rw [if_pos c13] at H
     have c13b0 : decide (0 ≤ x3_2) = true := decide_eq_true c13
     clear c13
     by_cases c14 : ((rd_T42 l0_3 x3_2).f0) ≤ a0_0
     ·rw [if_pos c14] at H
      have c14b0 : decide (((rd_T42 l0_3 x3_2).f0) ≤ a0_0) = true := decide_eq_true c14
      clear c14
      obtain rfl := Option.some.inj H
      have hcz15_0 : wr.cell? ⟨gb135, 0, none⟩ = some (.int .i64 a0_0) := (blk_cell BK135.out 0).trans rfl
      have hcz15_1 : wr.cell? ⟨gb135, 1, none⟩ = some (.int .i64 a0_1) := (blk_cell BK135.out 1).trans rfl
      have hcz15_2 : wr.cell? ⟨gb135, 2, none⟩ = some (.slice A0_2 l0_2.length c0_2) := (blk_cell BK135.out 2).trans rfl
      have hcz15_3 : wr.cell? ⟨gb135, 3, none⟩ = some (.slice A0_3 l0_3.length c0_3) := (blk_cell BK135.out 3).trans rfl
      have hfz15_0 := blk_frozen BK135.out 0
      have hfz15_1 := blk_frozen BK135.out 1
      have hfz15_2 := blk_frozen BK135.out 2
      have hfz15_3 := blk_frozen BK135.out 3
      have p138 : 0 ≤ (x3_2 : Int) := of_decide_eq_true (by first | (with_reducible assumption) | assumption)
      have q138 : x3_2 < (l0_3.length : Int) := of_decide_eq_true (by first | (with_reducible assumption) | assumption)
      obtain ⟨ad138, e138, hx138_0, hx138_1⟩ := at_T42 HR0_3.out x3_2 p138 q138
      cases e138
      replace hx138_0 := (HB.out.cell (lc_ w _ hx138_0)).trans hx138_0
      replace hx138_1 := (HB.out.cell (lc_ w _ hx138_1)).trans hx138_1
      replace p138 := eq_true p138
      replace q138 := eq_true q138
      go_wp2
      repeat (go_quiet (fail); try go_wp2)
      go_ret
      exact ⟨by first | rfl | (simp [errW_none, errW_some] <;> rfl) | (simp [*, errW_none, errW_some] <;> rfl), us_ HB.out⟩
     rw [if_neg c14] at H
     have c14b0 : decide (((rd_T42 l0_3 x3_2).f0) ≤ a0_0) = false := decide_eq_false c14
     clear c14
     by_cases c16 : ((rd_T42 l0_3 x3_2).f0) ≥ (wrap64 ((wrap64 (a0_0 + a0_1)) - (l0_2.length : Int)))
     ·rw [if_pos c16] at H
      have c16b0 : decide ((wrap64 ((wrap64 (a0_0 + a0_1)) - (l0_2.length : Int))) ≤ ((rd_T42 l0_3 x3_2).f0)) = true := decide_eq_true c16
      clear c16
      obtain rfl := Option.some.inj H
      have hcz17_0 : wr.cell? ⟨gb135, 0, none⟩ = some (.int .i64 a0_0) := (blk_cell BK135.out 0).trans rfl
      have hcz17_1 : wr.cell? ⟨gb135, 1, none⟩ = some (.int .i64 a0_1) := (blk_cell BK135.out 1).trans rfl
      have hcz17_2 : wr.cell? ⟨gb135, 2, none⟩ = some (.slice A0_2 l0_2.length c0_2) := (blk_cell BK135.out 2).trans rfl
      have hcz17_3 : wr.cell? ⟨gb135, 3, none⟩ = some (.slice A0_3 l0_3.length c0_3) := (blk_cell BK135.out 3).trans rfl
      have hfz17_0 := blk_frozen BK135.out 0
      have hfz17_1 := blk_frozen BK135.out 1
      have hfz17_2 := blk_frozen BK135.out 2
      have hfz17_3 := blk_frozen BK135.out 3
      have p138 : 0 ≤ (x3_2 : Int) := of_decide_eq_true (by first | (with_reducible assumption) | assumption)
      have q138 : x3_2 < (l0_3.length : Int) := of_decide_eq_true (by first | (with_reducible assumption) | assumption)
      obtain ⟨ad138, e138, hx138_0, hx138_1⟩ := at_T42 HR0_3.out x3_2 p138 q138
      cases e138
      replace hx138_0 := (HB.out.cell (lc_ w _ hx138_0)).trans hx138_0
      replace hx138_1 := (HB.out.cell (lc_ w _ hx138_1)).trans hx138_1
      replace p138 := eq_true p138
      replace q138 := eq_true q138
      have p139 : 0 ≤ (x3_2 : Int) := of_decide_eq_true (by first | (with_reducible assumption) | assumption)
      have q139 : x3_2 < (l0_3.length : Int) := of_decide_eq_true (by first | (with_reducible assumption) | assumption)
      obtain ⟨ad139, e139, hx139_0, hx139_1⟩ := at_T42 HR0_3.out x3_2 p139 q139
      obtain rfl : ad138 = ad139 := (by injection e139)
      replace hx139_0 := (HB.out.cell (lc_ w _ hx139_0)).trans hx139_0
      replace hx139_1 := (HB.out.cell (lc_ w _ hx139_1)).trans hx139_1
      replace p139 := eq_true p139
      replace q139 := eq_true q139
      go_wp2
      repeat (go_quiet (fail); try go_wp2)
      go_ret
      exact ⟨by first | rfl | (simp [errW_none, errW_some] <;> rfl) | (simp [*, errW_none, errW_some] <;> rfl), us_ HB.out⟩
     rw [if_neg c16] at H
     have c16b0 : decide ((wrap64 ((wrap64 (a0_0 + a0_1)) - (l0_2.length : Int))) ≤ ((rd_T42 l0_3 x3_2).f0)) = false := decide_eq_false c16
     clear c16
     by_cases c18 : x3_2 > 0
     rotate_left
     ·rw [if_neg c18] at H
      have c18b0 : decide (0 < x3_2) = false := decide_eq_false c18
      clear c18
      have H' := mk_ H
      clear H
      have hcz25_0 : wr.cell? ⟨gb135, 0, none⟩ = some (.int .i64 a0_0) := (blk_cell BK135.out 0).trans rfl
      have hcz25_1 : wr.cell? ⟨gb135, 1, none⟩ = some (.int .i64 a0_1) := (blk_cell BK135.out 1).trans rfl
      have hcz25_2 : wr.cell? ⟨gb135, 2, none⟩ = some (.slice A0_2 l0_2.length c0_2) := (blk_cell BK135.out 2).trans rfl
      have hcz25_3 : wr.cell? ⟨gb135, 3, none⟩ = some (.slice A0_3 l0_3.length c0_3) := (blk_cell BK135.out 3).trans rfl
      have hfz25_0 := blk_frozen BK135.out 0
      have hfz25_1 := blk_frozen BK135.out 1
      have hfz25_2 := blk_frozen BK135.out 2
      have hfz25_3 := blk_frozen BK135.out 3
      have p138 : 0 ≤ (x3_2 : Int) := of_decide_eq_true (by first | (with_reducible assumption) | assumption)
      have q138 : x3_2 < (l0_3.length : Int) := of_decide_eq_true (by first | (with_reducible assumption) | assumption)
      obtain ⟨ad138, e138, hx138_0, hx138_1⟩ := at_T42 HR0_3.out x3_2 p138 q138
      cases e138
      replace hx138_0 := (HB.out.cell (lc_ w _ hx138_0)).trans hx138_0
      replace hx138_1 := (HB.out.cell (lc_ w _ hx138_1)).trans hx138_1
      replace p138 := eq_true p138
      replace q138 := eq_true q138
      have p139 : 0 ≤ (x3_2 : Int) := of_decide_eq_true (by first | (with_reducible assumption) | assumption)
      have q139 : x3_2 < (l0_3.length : Int) := of_decide_eq_true (by first | (with_reducible assumption) | assumption)
      obtain ⟨ad139, e139, hx139_0, hx139_1⟩ := at_T42 HR0_3.out x3_2 p139 q139
      obtain rfl : ad138 = ad139 := (by injection e139)
      replace hx139_0 := (HB.out.cell (lc_ w _ hx139_0)).trans hx139_0
      replace hx139_1 := (HB.out.cell (lc_ w _ hx139_1)).trans hx139_1
      replace p139 := eq_true p139
      replace q139 := eq_true q139
      go_wp2
      repeat (go_quiet (fail); try go_wp2)
      go_roundg k2
      case measure => have := HJ1.out; have := HK2.out; omega
      case rel => exact ⟨(wrap64 (x3_2 + 1)), (by first | rfl | (simp; done) | (simp [*]; done)), H', ⟨by have := HJ1.out; have := HK2.out; omega⟩, ⟨u_ BK135.out⟩, ⟨us_ HB.out⟩⟩
     rw [if_pos c18] at H
     have c18b0 : decide (0 < x3_2) = true := decide_eq_true c18
     clear c18
     obtain ⟨ji19, hji19⟩ : ∃ j_ : Int, (wrap64 (x3_2 - 1)) = j_ := ⟨_, rfl⟩
     replace H : (if 0 ≤ (ji19) then (if (ji19) < (l0_3.length : Int) then (if ((rd_T42 l0_3 (ji19)).f0) ≥ ((rd_T42 l0_3 x3_2).f0) then (some false) else (spec_EarOk.l0 k2 (wrap64 (x3_2 + 1)) a0_0 a0_1 l0_2 l0_3)) else (none)) else (none)) = some r := by first | (rw [hji19] at H; exact H) | (simp only [hji19] at H ⊢; exact H)
     have hji19w : (IntKind.i64.wrap (x3_2 - 1)) = ji19 := (i64_w _).trans hji19
     by_cases c20 : 0 ≤ (ji19)
     rotate_left
     ·rw [if_neg c20] at H
      exact absurd H (by simp)
     rw [if_pos c20] at H
     have c20b0 : decide (0 ≤ (ji19)) = true := decide_eq_true c20
     clear c20
     by_cases c21 : (ji19) < (l0_3.length : Int)
     rotate_left
     ·rw [if_neg c21] at H
      exact absurd H (by simp)
     rw [if_pos c21] at H
     have c21b0 : decide ((ji19) < (l0_3.length : Int)) = true := decide_eq_true c21
     clear c21
     by_cases c22 : ((rd_T42 l0_3 (ji19)).f0) ≥ ((rd_T42 l0_3 x3_2).f0)
     ·rw [if_pos c22] at H
      have c22b0 : decide (((rd_T42 l0_3 x3_2).f0) ≤ ((rd_T42 l0_3 (ji19)).f0)) = true := decide_eq_true c22
      clear c22
      obtain rfl := Option.some.inj H
      have hcz23_0 : wr.cell? ⟨gb135, 0, none⟩ = some (.int .i64 a0_0) := (blk_cell BK135.out 0).trans rfl
      have hcz23_1 : wr.cell? ⟨gb135, 1, none⟩ = some (.int .i64 a0_1) := (blk_cell BK135.out 1).trans rfl
      have hcz23_2 : wr.cell? ⟨gb135, 2, none⟩ = some (.slice A0_2 l0_2.length c0_2) := (blk_cell BK135.out 2).trans rfl
      have hcz23_3 : wr.cell? ⟨gb135, 3, none⟩ = some (.slice A0_3 l0_3.length c0_3) := (blk_cell BK135.out 3).trans rfl
      have hfz23_0 := blk_frozen BK135.out 0
      have hfz23_1 := blk_frozen BK135.out 1
      have hfz23_2 := blk_frozen BK135.out 2
      have hfz23_3 := blk_frozen BK135.out 3
      have p138 : 0 ≤ (x3_2 : Int) := of_decide_eq_true (by first | (with_reducible assumption) | assumption)
      have q138 : x3_2 < (l0_3.length : Int) := of_decide_eq_true (by first | (with_reducible assumption) | assumption)
      obtain ⟨ad138, e138, hx138_0, hx138_1⟩ := at_T42 HR0_3.out x3_2 p138 q138
      cases e138
      replace hx138_0 := (HB.out.cell (lc_ w _ hx138_0)).trans hx138_0
      replace hx138_1 := (HB.out.cell (lc_ w _ hx138_1)).trans hx138_1
      replace p138 := eq_true p138
      replace q138 := eq_true q138
      have p139 : 0 ≤ (x3_2 : Int) := of_decide_eq_true (by first | (with_reducible assumption) | assumption)
      have q139 : x3_2 < (l0_3.length : Int) := of_decide_eq_true (by first | (with_reducible assumption) | assumption)
      obtain ⟨ad139, e139, hx139_0, hx139_1⟩ := at_T42 HR0_3.out x3_2 p139 q139
      obtain rfl : ad138 = ad139 := (by injection e139)
      replace hx139_0 := (HB.out.cell (lc_ w _ hx139_0)).trans hx139_0
      replace hx139_1 := (HB.out.cell (lc_ w _ hx139_1)).trans hx139_1
      replace p139 := eq_true p139
      replace q139 := eq_true q139
      have p140 : 0 ≤ ((ji19) : Int) := of_decide_eq_true (by first | (with_reducible assumption) | assumption)
      have q140 : (ji19) < (l0_3.length : Int) := of_decide_eq_true (by first | (with_reducible assumption) | assumption)
      obtain ⟨ad140, e140, hx140_0, hx140_1⟩ := at_T42 HR0_3.out (ji19) p140 q140
      obtain rfl : ad138 = ad140 := (by injection e140)
      replace hx140_0 := (HB.out.cell (lc_ w _ hx140_0)).trans hx140_0
      replace hx140_1 := (HB.out.cell (lc_ w _ hx140_1)).trans hx140_1
      replace p140 := eq_true p140
      replace q140 := eq_true q140
      have p141 : 0 ≤ (x3_2 : Int) := of_decide_eq_true (by first | (with_reducible assumption) | assumption)
      have q141 : x3_2 < (l0_3.length : Int) := of_decide_eq_true (by first | (with_reducible assumption) | assumption)
      obtain ⟨ad141, e141, hx141_0, hx141_1⟩ := at_T42 HR0_3.out x3_2 p141 q141
      obtain rfl : ad138 = ad141 := (by injection e141)
      replace hx141_0 := (HB.out.cell (lc_ w _ hx141_0)).trans hx141_0
      replace hx141_1 := (HB.out.cell (lc_ w _ hx141_1)).trans hx141_1
      replace p141 := eq_true p141
      replace q141 := eq_true q141
      go_wp2
      repeat (go_quiet (fail); try go_wp2)
      go_ret
      exact ⟨by first | rfl | (simp [errW_none, errW_some] <;> rfl) | (simp only [← hji19]; first | rfl | (simp [errW_none, errW_some] <;> rfl)) | (simp [*, errW_none, errW_some] <;> rfl), us_ HB.out⟩
     rw [if_neg c22] at H
     have c22b0 : decide (((rd_T42 l0_3 x3_2).f0) ≤ ((rd_T42 l0_3 (ji19)).f0)) = false := decide_eq_false c22
     clear c22
     have H' := mk_ H
     clear H
     have hcz24_0 : wr.cell? ⟨gb135, 0, none⟩ = some (.int .i64 a0_0) := (blk_cell BK135.out 0).trans rfl
     have hcz24_1 : wr.cell? ⟨gb135, 1, none⟩ = some (.int .i64 a0_1) := (blk_cell BK135.out 1).trans rfl
     have hcz24_2 : wr.cell? ⟨gb135, 2, none⟩ = some (.slice A0_2 l0_2.length c0_2) := (blk_cell BK135.out 2).trans rfl
     have hcz24_3 : wr.cell? ⟨gb135, 3, none⟩ = some (.slice A0_3 l0_3.length c0_3) := (blk_cell BK135.out 3).trans rfl
     have hfz24_0 := blk_frozen BK135.out 0
     have hfz24_1 := blk_frozen BK135.out 1
     have hfz24_2 := blk_frozen BK135.out 2
     have hfz24_3 := blk_frozen BK135.out 3
     have p138 : 0 ≤ (x3_2 : Int) := of_decide_eq_true (by first | (with_reducible assumption) | assumption)
     have q138 : x3_2 < (l0_3.length : Int) := of_decide_eq_true (by first | (with_reducible assumption) | assumption)
     obtain ⟨ad138, e138, hx138_0, hx138_1⟩ := at_T42 HR0_3.out x3_2 p138 q138
     cases e138
     replace hx138_0 := (HB.out.cell (lc_ w _ hx138_0)).trans hx138_0
     replace hx138_1 := (HB.out.cell (lc_ w _ hx138_1)).trans hx138_1
     replace p138 := eq_true p138
     replace q138 := eq_true q138
     have p139 : 0 ≤ (x3_2 : Int) := of_decide_eq_true (by first | (with_reducible assumption) | assumption)
     have q139 : x3_2 < (l0_3.length : Int) := of_decide_eq_true (by first | (with_reducible assumption) | assumption)
     obtain ⟨ad139, e139, hx139_0, hx139_1⟩ := at_T42 HR0_3.out x3_2 p139 q139
     obtain rfl : ad138 = ad139 := (by injection e139)
     replace hx139_0 := (HB.out.cell (lc_ w _ hx139_0)).trans hx139_0
     replace hx139_1 := (HB.out.cell (lc_ w _ hx139_1)).trans hx139_1
     replace p139 := eq_true p139
     replace q139 := eq_true q139
     have p140 : 0 ≤ ((ji19) : Int) := of_decide_eq_true (by first | (with_reducible assumption) | assumption)
     have q140 : (ji19) < (l0_3.length : Int) := of_decide_eq_true (by first | (with_reducible assumption) | assumption)
     obtain ⟨ad140, e140, hx140_0, hx140_1⟩ := at_T42 HR0_3.out (ji19) p140 q140
     obtain rfl : ad138 = ad140 := (by injection e140)
     replace hx140_0 := (HB.out.cell (lc_ w _ hx140_0)).trans hx140_0
     replace hx140_1 := (HB.out.cell (lc_ w _ hx140_1)).trans hx140_1
     replace p140 := eq_true p140
     replace q140 := eq_true q140
     have p141 : 0 ≤ (x3_2 : Int) := of_decide_eq_true (by first | (with_reducible assumption) | assumption)
     have q141 : x3_2 < (l0_3.length : Int) := of_decide_eq_true (by first | (with_reducible assumption) | assumption)
     obtain ⟨ad141, e141, hx141_0, hx141_1⟩ := at_T42 HR0_3.out x3_2 p141 q141
     obtain rfl : ad138 = ad141 := (by injection e141)
     replace hx141_0 := (HB.out.cell (lc_ w _ hx141_0)).trans hx141_0
     replace hx141_1 := (HB.out.cell (lc_ w _ hx141_1)).trans hx141_1
     replace p141 := eq_true p141
     replace q141 := eq_true q141
     go_wp2
     repeat (go_quiet (fail); try go_wp2)
     go_roundg k2
     case measure => have := HJ1.out; have := HK2.out; omega
     case rel => exact ⟨(wrap64 (x3_2 + 1)), (by first | rfl | (simp; done) | (simp [*]; done)), H', ⟨by have := HJ1.out; have := HK2.out; omega⟩, ⟨u_ BK135.out⟩, ⟨us_ HB.out⟩⟩

end Go.Proofs.Ytgfaamcihlojdaf.MFnExactEarRanges
