/- Functions that the law FnPathRoom reaches, each with the proof that the machine's call comes to just its answer; no conditions but those that each theorem states. Printed by a program of this session over the kit's print. -/
import Derived.Test.YtkkibccnpkbbjabMFnPathRoomx0
import Derived.Test.YtkkibccnpkbbjabMFnPathRoomx5
import Derived.Test.YtkkibccnpkbbjabMFnPathRoomx7
import Derived.Test.YtkkibccnpkbbjabMFnPathRoomx10
namespace Go.Proofs.Ytkkibccnpkbbjab.MFnPathRoom
open Go.RowKit Go.Proofs.YtkkibccnpkbbjabV.PrintWords Go.Proofs.YtkkibccnpkbbjabV.PrintLast Go.Proofs.YtkkibccnpkbbjabV.PrintMore
attribute [local go_sem] max2_int min2_int max_two min_two max_three min_three max_four min_four   -- for this text's walks alone
set_option linter.unusedVariables false
set_option linter.unusedSimpArgs false

/-! ### laws_FnPathRoom: function 3 -/
def laws_FnPathRoom.j0 : Nat → List (S34) → Int → Int → Int → Bool → Option (Bool)
 | 0, _, _, _, _, _ => none
 | k + 1, x3, x4, x5, x6, x35 => if x35 = true then (some false) else (if x6 = 0 then ((laws_alive.f k).bind fun t315 => (some t315)) else (if 0 ≤ x4 then (if x4 < (x3.length : Int) then ((impl_RouteTo.f k ((rd_T34 x3 x4).f1) x5).bind fun bt317 => (if ((rd_T34 x3 x4).f0) = x5 then (if x6 = 48 then ((laws_alive.f k).bind fun t324 => (some t324)) else (if bt317.2.2.2.2 = true then (if x6 ≤ bt317.2.2.2.1 then ((laws_alive.f k).bind fun t325 => (some t325)) else (some false)) else (some false))) else (if bt317.2.2.2.2 = true then (if x6 ≤ bt317.2.2.2.1 then ((laws_alive.f k).bind fun t326 => (some t326)) else (some false)) else (some false)))) else (none)) else (none)))
def laws_FnPathRoom.f (k : Nat) (l0 : List Int) : Option (Bool) := if (l0.length : Int) > 1048576 then (some true) else ((spec_DrawPathRoom.f k l0).bind fun bt308 => ((impl_PathRoom.f k bt308.1 bt308.2.1 bt308.2.2).bind fun t313 => ((spec_PathRoom.f k bt308.1 bt308.2.1 bt308.2.2).bind fun t314 => (if t313 = t314 then (if t313 < 0 then (laws_FnPathRoom.j0 k bt308.1 bt308.2.1 bt308.2.2 t313 true) else (laws_FnPathRoom.j0 k bt308.1 bt308.2.1 bt308.2.2 t313 (decide (t313 > 48)))) else (laws_FnPathRoom.j0 k bt308.1 bt308.2.1 bt308.2.2 t313 true)))))
theorem laws_FnPathRoom.mono_l : ∀ k, (∀ y0 y1 y2 y3 y4, LeO (laws_FnPathRoom.j0 k y0 y1 y2 y3 y4) (laws_FnPathRoom.j0 (k + 1) y0 y1 y2 y3 y4))
 | 0 => fun _ _ _ _ _ r h => by simp [laws_FnPathRoom.j0] at h
 | k + 1 => by
  have ih0 := laws_FnPathRoom.mono_l k
  ·intro y0 y1 y2 y3 y4
   unfold laws_FnPathRoom.j0
   repeat' first
   | (with_reducible exact ih0 _ _ _ _ _)
   | (with_reducible exact impl_PathRoom.mono _ _ _ _)
   | (with_reducible exact impl_RouteTo.mono _ _ _)
   | (with_reducible exact laws_alive.mono _)
   | (with_reducible exact spec_DrawPathRoom.mono _ _)
   | (with_reducible exact spec_PathRoom.mono _ _ _ _)
   | (with_reducible exact LeO.refl _)
   | (with_reducible exact LeO.none _)
   | (with_reducible refine LeO.ite ?_ ?_)
   | (with_reducible refine LeO.bind ?_ (fun _ => ?_))
   | exact ih0 _ _ _ _ _
   | exact impl_PathRoom.mono _ _ _ _
   | exact impl_RouteTo.mono _ _ _
   | exact laws_alive.mono _
   | exact spec_DrawPathRoom.mono _ _
   | exact spec_PathRoom.mono _ _ _ _
   | exact LeO.none _
   | refine LeO.ite ?_ ?_
   | refine LeO.bind ?_ (fun _ => ?_)
theorem laws_FnPathRoom.mono : ∀ a0 k, LeO (laws_FnPathRoom.f k a0) (laws_FnPathRoom.f (k + 1) a0) := by
 intro a0 k
 have ih0 := laws_FnPathRoom.mono_l k
 unfold laws_FnPathRoom.f
 repeat' first
   | (with_reducible exact ih0 _ _ _ _ _)
   | (with_reducible exact impl_PathRoom.mono _ _ _ _)
   | (with_reducible exact impl_RouteTo.mono _ _ _)
   | (with_reducible exact laws_alive.mono _)
   | (with_reducible exact spec_DrawPathRoom.mono _ _)
   | (with_reducible exact spec_PathRoom.mono _ _ _ _)
   | (with_reducible exact LeO.refl _)
   | (with_reducible exact LeO.none _)
   | (with_reducible refine LeO.ite ?_ ?_)
   | (with_reducible refine LeO.bind ?_ (fun _ => ?_))
   | exact ih0 _ _ _ _ _
   | exact impl_PathRoom.mono _ _ _ _
   | exact impl_RouteTo.mono _ _ _
   | exact laws_alive.mono _
   | exact spec_DrawPathRoom.mono _ _
   | exact spec_PathRoom.mono _ _ _ _
   | exact LeO.none _
   | refine LeO.ite ?_ ?_
   | refine LeO.bind ?_ (fun _ => ?_)
set_option maxHeartbeats 8000000 in
set_option maxRecDepth 100000 in
theorem laws_FnPathRoom.calls (k : Nat) (A0 : Option Addr) (c0 : Nat) (l0 : List Int) (r : Bool) (w : World) (hr0 : Kd.C (Kd.int .u8) w A0 l0.length l0) (hc0 : l0.length ≤ c0) (h : laws_FnPathRoom.f k l0 = some r) :
  Calls Try.prog 3 #[.slice A0 l0.length c0] w fun e w' => e = .returned (.bool r) ∧ Below w.heap.size w w' := by
 have hu29 := Try.underlying29
 have HR0 := mk_ hr0
 have HC0 := mk_ hc0
 clear hr0 hc0
 have HB := mk_ (Below.refl w.heap.size w)
 have H := h
 unfold laws_FnPathRoom.f at H
 clear h
 by_cases c2 : (l0.length : Int) > 1048576
 ·rw [if_pos c2] at H
  have c2b0 : decide (1048576 < (l0.length : Int)) = true := decide_eq_true c2
  have c2b1 : decide (1048576 < l0.length) = true := decide_eq_true (by omega)
  clear c2
  obtain rfl := Option.some.inj H
  go_enter Try.func3, Try.ntmps3
  go_wp2
  go_ret
  exact ⟨by first | rfl | (simp [errW_none, errW_some] <;> rfl) | (simp [*, errW_none, errW_some] <;> rfl), by repeat (first | (with_reducible first | exact HB.out | apply na_ | apply nn_ | apply nw_) | exact HB.out)⟩
 rw [if_neg c2] at H
 have c2b0 : decide (1048576 < (l0.length : Int)) = false := decide_eq_false c2
 have c2b1 : decide (1048576 < l0.length) = false := decide_eq_false (by omega)
 clear c2
 replace H := Option.bind_eq_some_iff.mp H
 obtain ⟨⟨t308, t311, t312⟩, A30, H⟩ := H
 (try dsimp only at H)
 have A3 := mk_ A30
 clear A30
 replace H := Option.bind_eq_some_iff.mp H
 obtain ⟨t313, A40, H⟩ := H
 (try dsimp only at H)
 have A4 := mk_ A40
 clear A40
 have HC5 := mk_ H
 clear H
 go_enter Try.func3, Try.ntmps3
 go_upto_region 5 with (first | ((with_reducible refine gate_callee (f := 10) rfl ?_); refine goesL_ (some 14) rfl rfl Try.func10 (by kernel_rfl) rfl #[.slice A0 l0.length c0] rfl (by (try simp only [lm_, lo_, ln_]); try rfl) ?_; (with_reducible refine (spec_DrawPathRoom.calls k _ _ l0 t308 t311 t312 _ ?side1 ?side2 A3.out).mono ?_); (case side1 => repeat (first | exact HR0.out | (with_reducible refine Kd.C_alloc ?_ _) | (with_reducible refine Kd.C_drewN ?_ _) | (with_reducible refine Kd.C_drew ?_))); (case side2 => exact HC0.out); rintro e w6 ⟨v309, rfl, ho0, hb⟩; refine ⟨_, rfl, ?_⟩; have HO310 := mk_ (Kd.N_lower (Kd.N_mono (ok' := fun k_ => True) ho0 (fun k_ hk_ => trivial)) (below_size (ub_ HB.out))); replace HB := mk_ (below_step (ub_ HB.out) hb); obtain ⟨Ao7, co7, eo7⟩ := Kd.N_slice HO310.out; subst eo7) | ((with_reducible refine gate_callee (f := 11) rfl ?_); refine goesL_ (some 21) rfl rfl Try.func11 (by kernel_rfl) rfl #[.slice Ao7 t308.length co7, .int .i64 t311, .int .i64 t312] rfl (by (try simp only [lm_, lo_, ln_]); try rfl) ?_; (with_reducible refine (impl_PathRoom.calls k _ _ t308 t311 t312 t313 _ ?side1 ?side2 A4.out).mono ?_); (case side1 => repeat (first | exact (Kd.N_reads' HO310.out).2.2 | (with_reducible refine Kd.C_alloc ?_ _) | (with_reducible refine Kd.C_drewN ?_ _) | (with_reducible refine Kd.C_drew ?_))); (case side2 => exact (Kd.N_reads' HO310.out).2.1); rintro e w8 ⟨rfl, hb⟩; refine ⟨_, rfl, ?_⟩; replace HO310 := mk_ (Kd.N_below (by (with_reducible repeat (first | apply Kd.N_alloc | apply Kd.N_drewN | apply Kd.N_drew)); exact HO310.out) hb); replace HB := mk_ (below_step (ub_ HB.out) hb)))
 (try simp only [Act.put, la_, lz_, ls_])
 go_cut [35] (fun v35 wc => ∃ (kq : Nat) (x35_4 : Bool), v35 = .bool x35_4 ∧ Aside0 (laws_FnPathRoom.j0 kq t308 t311 t312 t313 x35_4 = some r) ∧ Aside0 (kq ≤ k) ∧ Aside0 (Kd.N k34 34 wc w.heap.size (fun _ => True) (.slice Ao7 t308.length co7) t308) ∧ Aside0 (Below w.heap.size w wc))
 case first =>
  have H := HC5.out
  clear HC5
  replace H := Option.bind_eq_some_iff.mp H
  obtain ⟨t314, A90, H⟩ := H
  (try dsimp only at H)
  have A9 := mk_ A90
  clear A90
  by_cases c10 : t313 = t314
  rotate_left
  focus
   rw [if_neg c10] at H
   have c10b0 : (t313 == t314) = false := beq_eq_false_iff_ne.mpr c10
   have c10b1 : (t313 != t314) = true := bne_iff_ne.mpr c10
   (first | rw [c10b0] | (simp only [i64_w, i32_w]; rw [c10b0]) | skip)
   have H' := mk_ H
   clear H
  rotate_left
  focus
   rw [if_pos c10] at H
   have c10b0 : (t313 == t314) = true := beq_iff_eq.mpr c10
   have c10b1 : (t313 != t314) = false := bne_eq_false_iff_eq.mpr c10
   clear c10
   (first | rw [c10b0] | (simp only [i64_w, i32_w]; rw [c10b0]) | skip)
   by_cases c11 : t313 < 0
   focus
    rw [if_pos c11] at H
    have c11b0 : decide (t313 < 0) = true := decide_eq_true c11
    clear c11
    have H' := mk_ H
    clear H
   rotate_left
   focus
    rw [if_neg c11] at H
    have c11b0 : decide (t313 < 0) = false := decide_eq_false c11
    clear c11
    have H' := mk_ H
    clear H
   rotate_left
  rotate_left 2
  all_goals
   go_wp2_with (first | ((with_reducible refine gate_callee (f := 12) rfl ?_); refine goesL_ (some 26) rfl rfl Try.func12 (by kernel_rfl) rfl #[.slice Ao7 t308.length co7, .int .i64 t311, .int .i64 t312] rfl (by (try simp only [lm_, lo_, ln_]); try rfl) ?_; (with_reducible refine (spec_PathRoom.calls k _ _ t308 t311 t312 t314 _ ?side1 ?side2 A9.out).mono ?_); (case side1 => repeat (first | exact (Kd.N_reads' HO310.out).2.2 | (with_reducible refine Kd.C_alloc ?_ _) | (with_reducible refine Kd.C_drewN ?_ _) | (with_reducible refine Kd.C_drew ?_))); (case side2 => exact (Kd.N_reads' HO310.out).2.1); rintro e w3360 ⟨rfl, hb⟩; refine ⟨_, rfl, ?_⟩; replace HO310 := mk_ (Kd.N_below (by (with_reducible repeat (first | apply Kd.N_alloc | apply Kd.N_drewN | apply Kd.N_drew)); exact HO310.out) hb); replace HB := mk_ (below_step (ub_ HB.out) hb)))
   go_meet
  iterate 2
   focus
    case rel => exact ⟨_, (true), (by first | rfl | (simp; done) | (simp [*]; done)), H', ⟨by first | omega | exact Nat.le_refl _⟩, ⟨by (with_reducible repeat (first | apply Kd.N_alloc | apply Kd.N_drewN | apply Kd.N_drew)); exact HO310.out⟩, ⟨ub_ HB.out⟩⟩
  ·case rel => exact ⟨_, (decide (t313 > 48)), (by first | rfl | (simp; done) | (simp [*]; done)), H', ⟨by first | omega | exact Nat.le_refl _⟩, ⟨by (with_reducible repeat (first | apply Kd.N_alloc | apply Kd.N_drewN | apply Kd.N_drew)); exact HO310.out⟩, ⟨ub_ HB.out⟩⟩
 case rest =>
  clear HC5
  try clear c1
  try clear c2
  try clear c2b0
  try clear c2b1
  try clear p2
  try clear c3
  try clear c10
  try clear c10b0
  try clear c10b1
  try clear c11
  try clear c11b0
  try clear c12
  obtain ⟨kq, x35_4, rfl, HA, HJ4, HO_3, HB⟩ := hcut
  cases kq with
  | zero => exact absurd HA.out (by simp [laws_FnPathRoom.j0])
  | succ kj4 =>
   have H := HA.out
   clear HA
   simp only [laws_FnPathRoom.j0] at H
   by_cases c15 : x35_4 = true
   ·subst c15
    have H1 : (some false) = some r := by rw [if_pos rfl] at H; exact H
    clear H
    have H := H1
    clear H1
    obtain rfl := Option.some.inj H
    go_wp2
    go_ret
    exact ⟨by first | rfl | (simp [errW_none, errW_some] <;> rfl) | (simp [*, errW_none, errW_some] <;> rfl), by repeat (first | (with_reducible first | exact HB.out | apply na_ | apply nn_ | apply nw_) | exact HB.out)⟩
   replace c15 := Bool.eq_false_iff.mpr c15
   subst c15
   rw [if_neg (show ¬ (false = true) by decide)] at H
   by_cases c16 : t313 = 0
   ·rw [if_pos c16] at H
    have c16b0 : (t313 == 0) = true := beq_iff_eq.mpr c16
    have c16b1 : (t313 != 0) = false := bne_eq_false_iff_eq.mpr c16
    clear c16
    replace H := Option.bind_eq_some_iff.mp H
    obtain ⟨t315, A170, H⟩ := H
    replace H : (some t315) = some r := H
    have A17 := mk_ A170
    clear A170
    obtain rfl := Option.some.inj H
    go_wp2_with (first | ((with_reducible refine gate_callee (f := 13) rfl ?_); refine goesL_ (some 38) rfl rfl Try.func13 (by kernel_rfl) rfl #[] rfl (by (try simp only [lm_, lo_, ln_]); try rfl) ?_; (with_reducible refine (laws_alive.calls kj4  t315 _ A17.out).mono ?_); rintro e w18 ⟨rfl, hb⟩; refine ⟨_, rfl, ?_⟩; replace HO_3 := mk_ (Kd.N_below (by (with_reducible repeat (first | apply Kd.N_alloc | apply Kd.N_drewN | apply Kd.N_drew)); exact HO_3.out) hb); replace HB := mk_ (below_step (ub_ HB.out) hb)))
    go_ret
    exact ⟨by first | rfl | (simp [errW_none, errW_some] <;> rfl) | (simp [*, errW_none, errW_some] <;> rfl), by repeat (first | (with_reducible first | exact HB.out | apply na_ | apply nn_ | apply nw_) | exact HB.out)⟩
   rw [if_neg c16] at H
   have c16b0 : (t313 == 0) = false := beq_eq_false_iff_ne.mpr c16
   have c16b1 : (t313 != 0) = true := bne_iff_ne.mpr c16
   by_cases c19 : 0 ≤ t311
   rotate_left
   ·rw [if_neg c19] at H
    exact absurd H (by simp)
   rw [if_pos c19] at H
   have c19b0 : decide (0 ≤ t311) = true := decide_eq_true c19
   clear c19
   by_cases c20 : t311 < (t308.length : Int)
   rotate_left
   ·rw [if_neg c20] at H
    exact absurd H (by simp)
   rw [if_pos c20] at H
   have c20b0 : decide (t311 < (t308.length : Int)) = true := decide_eq_true c20
   clear c20
   replace H := Option.bind_eq_some_iff.mp H
   obtain ⟨⟨t317, t318, t319, t320, t321⟩, A210, H⟩ := H
   (try dsimp only at H)
   have A21 := mk_ A210
   clear A210
   by_cases c22 : ((rd_T34 t308 t311).f0) = t312
   rotate_left
   ·rw [if_neg c22] at H
    have c22b0 : (((rd_T34 t308 t311).f0) == t312) = false := beq_eq_false_iff_ne.mpr c22
    have c22b1 : (((rd_T34 t308 t311).f0) != t312) = true := bne_iff_ne.mpr c22
    by_cases c48 : t321 = true
    rotate_left
    ·replace c48 := Bool.eq_false_iff.mpr c48
     subst c48
     have H1 : (some false) = some r := by rw [if_neg (show ¬ (false = true) by decide)] at H; exact H
     clear H
     have H := H1
     clear H1
     obtain rfl := Option.some.inj H
     have p316 : 0 ≤ (t311 : Int) := of_decide_eq_true (by first | (with_reducible assumption) | assumption)
     have q316 : t311 < (t308.length : Int) := of_decide_eq_true (by first | (with_reducible assumption) | assumption)
     obtain ⟨ad316, A316_1, c316_1, e316, hx316_0, hx316_1, hl316_1, hi316_1⟩ := at_T34 (Kd.N_reads' HO_3.out).2.2 t311 p316 q316
     cases e316
     obtain ⟨ce316, hce316, hMe316, hcc316⟩ := Kd.N_get HO_3.out z34 t311 p316 (by first | exact q316 | exact of_decide_eq_true (by first | (with_reducible assumption) | assumption) | (have e_ := (Kd.N_reads' HO_3.out).1; omega))
     obtain ⟨ua316_1, uc316_1, rfl, ul316_1, ge316_1⟩ := k34_openF hMe316
     have hv316_1 := hcc316 1 _ rfl
     rw [add_field _ _ 1 (by omega)] at hv316_1
     replace hv316_1 := Option.some.inj (hv316_1.symm.trans hx316_1)
     injection hv316_1 with hva_ hvn_ hvc_
     rw [hva_] at ge316_1
     rw [hvc_] at ul316_1
     have HL316_1 := mk_ (show Kd.V k29 29 _ w.heap.size _ _ ((rd_T34 t308 t311).f1) from Kd.V_mk ul316_1 ge316_1)
     clear hva_ hvn_ hvc_ ge316_1 ul316_1
     clear hcc316 hce316
     have HR316_1 := mk_ hi316_1
     have HC316_1 := mk_ hl316_1
     clear hi316_1 hl316_1
     replace p316 := eq_true p316
     replace q316 := eq_true q316
     go_wp2_with (first | ((with_reducible refine gate_callee (f := 14) rfl ?_); refine goesL_ (some 46) rfl rfl Try.func14 (by kernel_rfl) rfl #[.slice A316_1 ((rd_T34 t308 t311).f1).length c316_1, .int .i64 t312] rfl (by (try simp only [lm_, lo_, ln_]); try rfl) ?_; (with_reducible refine (impl_RouteTo.calls kj4 _ _ ((rd_T34 t308 t311).f1) t312 t317 t318 t319 t320 false _ ?side1 ?side2 A21.out).mono ?_); (case side1 => repeat (first | exact (by repeat (first | (with_reducible exact HR316_1.out) | (with_reducible refine Kd.C_alloc ?_ _) | (with_reducible refine Kd.C_drewN ?_ _) | (with_reducible refine Kd.C_drew ?_) | exact HR316_1.out)) | (with_reducible refine Kd.C_alloc ?_ _) | (with_reducible refine Kd.C_drewN ?_ _) | (with_reducible refine Kd.C_drew ?_))); (case side2 => exact HC316_1.out); rintro e w62 ⟨rfl, hb⟩; refine ⟨_, rfl, ?_⟩; replace HO_3 := mk_ (Kd.N_below (by (with_reducible repeat (first | apply Kd.N_alloc | apply Kd.N_drewN | apply Kd.N_drew)); exact HO_3.out) hb); replace HL316_1 := mk_ (Kd.V_below (by (with_reducible repeat (first | apply Kd.V_alloc | apply Kd.V_drewN | apply Kd.V_drew)); exact HL316_1.out) hb); replace HR316_1 := mk_ (Kd.C_below (by repeat (first | (with_reducible exact HR316_1.out) | (with_reducible refine Kd.C_alloc ?_ _) | (with_reducible refine Kd.C_drewN ?_ _) | (with_reducible refine Kd.C_drew ?_) | exact HR316_1.out)) hb); replace HB := mk_ (below_step (ub_ HB.out) hb)) | ((with_reducible refine gate_dst (N := 7) rfl ?_); refine box_event ?hg (N := 7) ?hd (cs := #[.int .i64 0, .int .i64 0, .int .i64 0, .int .i64 0]) (t := 29) ?hr ?_; (case hd => rfl); (case hg => rfl); (case hr => first | (go_simp; done) | (go_simp; rfl)); intro gb322 hg w63 hbox hb; replace HO_3 := mk_ (Kd.N_below (Kd.N_elderB (by (with_reducible repeat (first | apply Kd.N_alloc | apply Kd.N_drewN | apply Kd.N_drew)); exact HO_3.out) gb322 (Nat.le_of_eq hg.symm)) hb); replace HL316_1 := mk_ (Kd.V_below (Kd.V_elderB (by (with_reducible repeat (first | apply Kd.V_alloc | apply Kd.V_drewN | apply Kd.V_drew)); exact HL316_1.out) gb322 (Nat.le_of_eq hg.symm)) hb); replace HR316_1 := mk_ (Kd.C_below (by repeat (first | (with_reducible exact HR316_1.out) | (with_reducible refine Kd.C_alloc ?_ _) | (with_reducible refine Kd.C_drewN ?_ _) | (with_reducible refine Kd.C_drew ?_) | exact HR316_1.out)) hb); have n3_ := mk_ (below_step (ub_ HB.out) hb); have BK322 := mk_ (hbox); have GW322 := mk_ ((by rw [hg]; exact (below_size (ub_ HB.out)) : w.heap.size ≤ gb322)); have GE322 := ge_ ((by rw [hg]; exact (below_size (ub_ HB.out)) : w.heap.size ≤ gb322)); replace HB := n3_; clear n3_; clear hb hbox hg; obtain ⟨_, _, _, _, _, _, _, _⟩ := cells4_ BK322.out) | ((with_reducible refine gate_store (t := 29) (p := 7) rfl ?_); refine store_event (t := 29) (p := 7) (v := ?_) (w1 := ?_) ?hg ?ho ?hn ?hr ?_; (case ho => rfl); (case hg => rfl); (case hn => rfl); (case hr => first | (go_simp; done) | (go_simp; rfl)); intro w65 hw; have n0_ : Aside0 (Kd.N k34 34 w65 w.heap.size (fun k_ => k_ ≠ gb322) (.slice (some ad316) t308.length co7) t308) := ⟨(by rw [hw]; exact (by (with_reducible repeat (first | apply Kd.N_alloc | apply Kd.N_drewN | apply Kd.N_drew)); exact Kd.N_mono (Kd.N_far (p := ⟨gb322, 3, none⟩) (Kd.N_far (p := ⟨gb322, 2, none⟩) (Kd.N_far (p := ⟨gb322, 1, none⟩) (Kd.N_far (p := ⟨gb322, 0, none⟩) (Kd.N_mono HO_3.out (fun k_ hk => (⟨hk, hk.2⟩ : _ ∧ k_ ≠ gb322))) (fun _ hk => hk.2) (.int .i64 t317)) (fun _ hk => hk.2) (.int .i64 t318)) (fun _ hk => hk.2) (.int .i64 t319)) (fun _ hk => hk.2) (.int .i64 t320)) (fun _ hk => hk.1.2)))⟩; have n1_ : Aside0 (Kd.V k29 29 w65 w.heap.size (fun k_ => some k_ ≠ (.slice (some ad316) t308.length co7 : Value).ownBlock ∧ k_ ≠ gb322) (.slice A316_1 ((rd_T34 t308 t311).f1).length c316_1) ((rd_T34 t308 t311).f1)) := ⟨(by rw [hw]; exact (by (with_reducible repeat (first | apply Kd.V_alloc | apply Kd.V_drewN | apply Kd.V_drew)); exact Kd.V_mono (Kd.V_far (p := ⟨gb322, 3, none⟩) (Kd.V_far (p := ⟨gb322, 2, none⟩) (Kd.V_far (p := ⟨gb322, 1, none⟩) (Kd.V_far (p := ⟨gb322, 0, none⟩) (Kd.V_mono HL316_1.out (fun k_ hk => (⟨hk, hk.2⟩ : _ ∧ k_ ≠ gb322))) (fun _ hk => hk.2) (.int .i64 t317)) (fun _ hk => hk.2) (.int .i64 t318)) (fun _ hk => hk.2) (.int .i64 t319)) (fun _ hk => hk.2) (.int .i64 t320)) (fun _ hk => by first | exact ⟨hk.1.1.2, hk.1.2⟩ | exact hk.1 | exact hk | exact ⟨hk.1, hk.2⟩ | exact ⟨.inr hk.1, hk.2⟩ | simp only [hk, ne_eq, not_false_eq_true, and_self])))⟩; have n2_ : Aside0 (w65.heap[gb322]? = some (.cells #[.int .i64 t317, .int .i64 t318, .int .i64 t319, .int .i64 t320] 29 (0, 0))) := ⟨(by rw [hw]; exact (by (with_reducible repeat (first | refine bn_ ?_ _ | refine bw_ ?_ | refine ba_ ?_ _)); refine blk_put (cs := #[.int .i64 t317, .int .i64 t318, .int .i64 t319, .int .i64 0]) ?_ 3 _ rfl; (with_reducible repeat (first | refine bn_ ?_ _ | refine bw_ ?_ | refine ba_ ?_ _)); refine blk_put (cs := #[.int .i64 t317, .int .i64 t318, .int .i64 0, .int .i64 0]) ?_ 2 _ rfl; (with_reducible repeat (first | refine bn_ ?_ _ | refine bw_ ?_ | refine ba_ ?_ _)); refine blk_put (cs := #[.int .i64 t317, .int .i64 0, .int .i64 0, .int .i64 0]) ?_ 1 _ rfl; (with_reducible repeat (first | refine bn_ ?_ _ | refine bw_ ?_ | refine ba_ ?_ _)); refine blk_put (cs := #[.int .i64 0, .int .i64 0, .int .i64 0, .int .i64 0]) ?_ 0 _ rfl; (with_reducible repeat (first | refine bn_ ?_ _ | refine bw_ ?_ | refine ba_ ?_ _)); exact BK322.out))⟩; have n3_ : Aside0 (Below w.heap.size w w65) := ⟨(by rw [hw]; exact (us_ HB.out))⟩; clear hw; clear HO_3; clear HL316_1; clear BK322; clear HB; have HO_3 := n0_; have HL316_1 := n1_; have BK322 := n2_; have HB := n3_; clear n0_ n1_ n2_ n3_; have p323 : 0 ≤ (t311 : Int) := of_decide_eq_true (by first | (with_reducible assumption) | assumption); have q323 : t311 < (t308.length : Int) := of_decide_eq_true (by first | (with_reducible assumption) | assumption); obtain ⟨ad323, A323_1, c323_1, e323, hx323_0, hx323_1, hl323_1, hi323_1⟩ := at_T34 (Kd.N_reads' HO_3.out).2.2 t311 p323 q323; obtain rfl : ad316 = ad323 := (by injection e323); obtain ⟨ce323, hce323, hMe323, hcc323⟩ := Kd.N_get HO_3.out z34 t311 p323 (by first | exact q323 | exact of_decide_eq_true (by first | (with_reducible assumption) | assumption) | (have e_ := (Kd.N_reads' HO_3.out).1; omega)); obtain ⟨ua323_1, uc323_1, rfl, ul323_1, ge323_1⟩ := k34_openF hMe323; have hv323_1 := hcc323 1 _ rfl; rw [add_field _ _ 1 (by omega)] at hv323_1; replace hv323_1 := Option.some.inj (hv323_1.symm.trans hx323_1); injection hv323_1 with hva_ hvn_ hvc_; rw [hva_] at ge323_1; rw [hvc_] at ul323_1; have HL323_1 := mk_ (show Kd.V k29 29 _ w.heap.size _ _ ((rd_T34 t308 t311).f1) from Kd.V_mk ul323_1 ge323_1); clear hva_ hvn_ hvc_ ge323_1 ul323_1; clear hcc323 hce323; have HR323_1 := mk_ hi323_1; have HC323_1 := mk_ hl323_1; clear hi323_1 hl323_1; replace p323 := eq_true p323; replace q323 := eq_true q323))
     go_ret
     exact ⟨by first | rfl | (simp [errW_none, errW_some] <;> rfl) | (simp [*, errW_none, errW_some] <;> rfl), us_ HB.out⟩
    subst c48
    rw [if_pos rfl] at H
    by_cases c49 : t313 ≤ t320
    rotate_left
    ·rw [if_neg c49] at H
     have c49b0 : decide (t313 ≤ t320) = false := decide_eq_false c49
     clear c49
     obtain rfl := Option.some.inj H
     have p316 : 0 ≤ (t311 : Int) := of_decide_eq_true (by first | (with_reducible assumption) | assumption)
     have q316 : t311 < (t308.length : Int) := of_decide_eq_true (by first | (with_reducible assumption) | assumption)
     obtain ⟨ad316, A316_1, c316_1, e316, hx316_0, hx316_1, hl316_1, hi316_1⟩ := at_T34 (Kd.N_reads' HO_3.out).2.2 t311 p316 q316
     cases e316
     obtain ⟨ce316, hce316, hMe316, hcc316⟩ := Kd.N_get HO_3.out z34 t311 p316 (by first | exact q316 | exact of_decide_eq_true (by first | (with_reducible assumption) | assumption) | (have e_ := (Kd.N_reads' HO_3.out).1; omega))
     obtain ⟨ua316_1, uc316_1, rfl, ul316_1, ge316_1⟩ := k34_openF hMe316
     have hv316_1 := hcc316 1 _ rfl
     rw [add_field _ _ 1 (by omega)] at hv316_1
     replace hv316_1 := Option.some.inj (hv316_1.symm.trans hx316_1)
     injection hv316_1 with hva_ hvn_ hvc_
     rw [hva_] at ge316_1
     rw [hvc_] at ul316_1
     have HL316_1 := mk_ (show Kd.V k29 29 _ w.heap.size _ _ ((rd_T34 t308 t311).f1) from Kd.V_mk ul316_1 ge316_1)
     clear hva_ hvn_ hvc_ ge316_1 ul316_1
     clear hcc316 hce316
     have HR316_1 := mk_ hi316_1
     have HC316_1 := mk_ hl316_1
     clear hi316_1 hl316_1
     replace p316 := eq_true p316
     replace q316 := eq_true q316
     go_wp2_with (first | ((with_reducible refine gate_callee (f := 14) rfl ?_); refine goesL_ (some 46) rfl rfl Try.func14 (by kernel_rfl) rfl #[.slice A316_1 ((rd_T34 t308 t311).f1).length c316_1, .int .i64 t312] rfl (by (try simp only [lm_, lo_, ln_]); try rfl) ?_; (with_reducible refine (impl_RouteTo.calls kj4 _ _ ((rd_T34 t308 t311).f1) t312 t317 t318 t319 t320 true _ ?side1 ?side2 A21.out).mono ?_); (case side1 => repeat (first | exact (by repeat (first | (with_reducible exact HR316_1.out) | (with_reducible refine Kd.C_alloc ?_ _) | (with_reducible refine Kd.C_drewN ?_ _) | (with_reducible refine Kd.C_drew ?_) | exact HR316_1.out)) | (with_reducible refine Kd.C_alloc ?_ _) | (with_reducible refine Kd.C_drewN ?_ _) | (with_reducible refine Kd.C_drew ?_))); (case side2 => exact HC316_1.out); rintro e w57 ⟨rfl, hb⟩; refine ⟨_, rfl, ?_⟩; replace HO_3 := mk_ (Kd.N_below (by (with_reducible repeat (first | apply Kd.N_alloc | apply Kd.N_drewN | apply Kd.N_drew)); exact HO_3.out) hb); replace HL316_1 := mk_ (Kd.V_below (by (with_reducible repeat (first | apply Kd.V_alloc | apply Kd.V_drewN | apply Kd.V_drew)); exact HL316_1.out) hb); replace HR316_1 := mk_ (Kd.C_below (by repeat (first | (with_reducible exact HR316_1.out) | (with_reducible refine Kd.C_alloc ?_ _) | (with_reducible refine Kd.C_drewN ?_ _) | (with_reducible refine Kd.C_drew ?_) | exact HR316_1.out)) hb); replace HB := mk_ (below_step (ub_ HB.out) hb)) | ((with_reducible refine gate_dst (N := 7) rfl ?_); refine box_event ?hg (N := 7) ?hd (cs := #[.int .i64 0, .int .i64 0, .int .i64 0, .int .i64 0]) (t := 29) ?hr ?_; (case hd => rfl); (case hg => rfl); (case hr => first | (go_simp; done) | (go_simp; rfl)); intro gb322 hg w58 hbox hb; replace HO_3 := mk_ (Kd.N_below (Kd.N_elderB (by (with_reducible repeat (first | apply Kd.N_alloc | apply Kd.N_drewN | apply Kd.N_drew)); exact HO_3.out) gb322 (Nat.le_of_eq hg.symm)) hb); replace HL316_1 := mk_ (Kd.V_below (Kd.V_elderB (by (with_reducible repeat (first | apply Kd.V_alloc | apply Kd.V_drewN | apply Kd.V_drew)); exact HL316_1.out) gb322 (Nat.le_of_eq hg.symm)) hb); replace HR316_1 := mk_ (Kd.C_below (by repeat (first | (with_reducible exact HR316_1.out) | (with_reducible refine Kd.C_alloc ?_ _) | (with_reducible refine Kd.C_drewN ?_ _) | (with_reducible refine Kd.C_drew ?_) | exact HR316_1.out)) hb); have n3_ := mk_ (below_step (ub_ HB.out) hb); have BK322 := mk_ (hbox); have GW322 := mk_ ((by rw [hg]; exact (below_size (ub_ HB.out)) : w.heap.size ≤ gb322)); have GE322 := ge_ ((by rw [hg]; exact (below_size (ub_ HB.out)) : w.heap.size ≤ gb322)); replace HB := n3_; clear n3_; clear hb hbox hg; obtain ⟨_, _, _, _, _, _, _, _⟩ := cells4_ BK322.out) | ((with_reducible refine gate_store (t := 29) (p := 7) rfl ?_); refine store_event (t := 29) (p := 7) (v := ?_) (w1 := ?_) ?hg ?ho ?hn ?hr ?_; (case ho => rfl); (case hg => rfl); (case hn => rfl); (case hr => first | (go_simp; done) | (go_simp; rfl)); intro w60 hw; have n0_ : Aside0 (Kd.N k34 34 w60 w.heap.size (fun k_ => k_ ≠ gb322) (.slice (some ad316) t308.length co7) t308) := ⟨(by rw [hw]; exact (by (with_reducible repeat (first | apply Kd.N_alloc | apply Kd.N_drewN | apply Kd.N_drew)); exact Kd.N_mono (Kd.N_far (p := ⟨gb322, 3, none⟩) (Kd.N_far (p := ⟨gb322, 2, none⟩) (Kd.N_far (p := ⟨gb322, 1, none⟩) (Kd.N_far (p := ⟨gb322, 0, none⟩) (Kd.N_mono HO_3.out (fun k_ hk => (⟨hk, hk.2⟩ : _ ∧ k_ ≠ gb322))) (fun _ hk => hk.2) (.int .i64 t317)) (fun _ hk => hk.2) (.int .i64 t318)) (fun _ hk => hk.2) (.int .i64 t319)) (fun _ hk => hk.2) (.int .i64 t320)) (fun _ hk => hk.1.2)))⟩; have n1_ : Aside0 (Kd.V k29 29 w60 w.heap.size (fun k_ => some k_ ≠ (.slice (some ad316) t308.length co7 : Value).ownBlock ∧ k_ ≠ gb322) (.slice A316_1 ((rd_T34 t308 t311).f1).length c316_1) ((rd_T34 t308 t311).f1)) := ⟨(by rw [hw]; exact (by (with_reducible repeat (first | apply Kd.V_alloc | apply Kd.V_drewN | apply Kd.V_drew)); exact Kd.V_mono (Kd.V_far (p := ⟨gb322, 3, none⟩) (Kd.V_far (p := ⟨gb322, 2, none⟩) (Kd.V_far (p := ⟨gb322, 1, none⟩) (Kd.V_far (p := ⟨gb322, 0, none⟩) (Kd.V_mono HL316_1.out (fun k_ hk => (⟨hk, hk.2⟩ : _ ∧ k_ ≠ gb322))) (fun _ hk => hk.2) (.int .i64 t317)) (fun _ hk => hk.2) (.int .i64 t318)) (fun _ hk => hk.2) (.int .i64 t319)) (fun _ hk => hk.2) (.int .i64 t320)) (fun _ hk => by first | exact ⟨hk.1.1.2, hk.1.2⟩ | exact hk.1 | exact hk | exact ⟨hk.1, hk.2⟩ | exact ⟨.inr hk.1, hk.2⟩ | simp only [hk, ne_eq, not_false_eq_true, and_self])))⟩; have n2_ : Aside0 (w60.heap[gb322]? = some (.cells #[.int .i64 t317, .int .i64 t318, .int .i64 t319, .int .i64 t320] 29 (0, 0))) := ⟨(by rw [hw]; exact (by (with_reducible repeat (first | refine bn_ ?_ _ | refine bw_ ?_ | refine ba_ ?_ _)); refine blk_put (cs := #[.int .i64 t317, .int .i64 t318, .int .i64 t319, .int .i64 0]) ?_ 3 _ rfl; (with_reducible repeat (first | refine bn_ ?_ _ | refine bw_ ?_ | refine ba_ ?_ _)); refine blk_put (cs := #[.int .i64 t317, .int .i64 t318, .int .i64 0, .int .i64 0]) ?_ 2 _ rfl; (with_reducible repeat (first | refine bn_ ?_ _ | refine bw_ ?_ | refine ba_ ?_ _)); refine blk_put (cs := #[.int .i64 t317, .int .i64 0, .int .i64 0, .int .i64 0]) ?_ 1 _ rfl; (with_reducible repeat (first | refine bn_ ?_ _ | refine bw_ ?_ | refine ba_ ?_ _)); refine blk_put (cs := #[.int .i64 0, .int .i64 0, .int .i64 0, .int .i64 0]) ?_ 0 _ rfl; (with_reducible repeat (first | refine bn_ ?_ _ | refine bw_ ?_ | refine ba_ ?_ _)); exact BK322.out))⟩; have n3_ : Aside0 (Below w.heap.size w w60) := ⟨(by rw [hw]; exact (us_ HB.out))⟩; clear hw; clear HO_3; clear HL316_1; clear BK322; clear HB; have HO_3 := n0_; have HL316_1 := n1_; have BK322 := n2_; have HB := n3_; clear n0_ n1_ n2_ n3_; have p323 : 0 ≤ (t311 : Int) := of_decide_eq_true (by first | (with_reducible assumption) | assumption); have q323 : t311 < (t308.length : Int) := of_decide_eq_true (by first | (with_reducible assumption) | assumption); obtain ⟨ad323, A323_1, c323_1, e323, hx323_0, hx323_1, hl323_1, hi323_1⟩ := at_T34 (Kd.N_reads' HO_3.out).2.2 t311 p323 q323; obtain rfl : ad316 = ad323 := (by injection e323); obtain ⟨ce323, hce323, hMe323, hcc323⟩ := Kd.N_get HO_3.out z34 t311 p323 (by first | exact q323 | exact of_decide_eq_true (by first | (with_reducible assumption) | assumption) | (have e_ := (Kd.N_reads' HO_3.out).1; omega)); obtain ⟨ua323_1, uc323_1, rfl, ul323_1, ge323_1⟩ := k34_openF hMe323; have hv323_1 := hcc323 1 _ rfl; rw [add_field _ _ 1 (by omega)] at hv323_1; replace hv323_1 := Option.some.inj (hv323_1.symm.trans hx323_1); injection hv323_1 with hva_ hvn_ hvc_; rw [hva_] at ge323_1; rw [hvc_] at ul323_1; have HL323_1 := mk_ (show Kd.V k29 29 _ w.heap.size _ _ ((rd_T34 t308 t311).f1) from Kd.V_mk ul323_1 ge323_1); clear hva_ hvn_ hvc_ ge323_1 ul323_1; clear hcc323 hce323; have HR323_1 := mk_ hi323_1; have HC323_1 := mk_ hl323_1; clear hi323_1 hl323_1; replace p323 := eq_true p323; replace q323 := eq_true q323; obtain ⟨_, _, _, _, _, _, _, _⟩ := cells4_ BK322.out))
     go_ret
     exact ⟨by first | rfl | (simp [errW_none, errW_some] <;> rfl) | (simp [*, errW_none, errW_some] <;> rfl), us_ HB.out⟩
    rw [if_pos c49] at H
    have c49b0 : decide (t313 ≤ t320) = true := decide_eq_true c49
    clear c49
    replace H := Option.bind_eq_some_iff.mp H
    obtain ⟨t326, A500, H⟩ := H
    replace H : (some t326) = some r := H
    have A50 := mk_ A500
    clear A500
    obtain rfl := Option.some.inj H
    have p316 : 0 ≤ (t311 : Int) := of_decide_eq_true (by first | (with_reducible assumption) | assumption)
    have q316 : t311 < (t308.length : Int) := of_decide_eq_true (by first | (with_reducible assumption) | assumption)
    obtain ⟨ad316, A316_1, c316_1, e316, hx316_0, hx316_1, hl316_1, hi316_1⟩ := at_T34 (Kd.N_reads' HO_3.out).2.2 t311 p316 q316
    cases e316
    obtain ⟨ce316, hce316, hMe316, hcc316⟩ := Kd.N_get HO_3.out z34 t311 p316 (by first | exact q316 | exact of_decide_eq_true (by first | (with_reducible assumption) | assumption) | (have e_ := (Kd.N_reads' HO_3.out).1; omega))
    obtain ⟨ua316_1, uc316_1, rfl, ul316_1, ge316_1⟩ := k34_openF hMe316
    have hv316_1 := hcc316 1 _ rfl
    rw [add_field _ _ 1 (by omega)] at hv316_1
    replace hv316_1 := Option.some.inj (hv316_1.symm.trans hx316_1)
    injection hv316_1 with hva_ hvn_ hvc_
    rw [hva_] at ge316_1
    rw [hvc_] at ul316_1
    have HL316_1 := mk_ (show Kd.V k29 29 _ w.heap.size _ _ ((rd_T34 t308 t311).f1) from Kd.V_mk ul316_1 ge316_1)
    clear hva_ hvn_ hvc_ ge316_1 ul316_1
    clear hcc316 hce316
    have HR316_1 := mk_ hi316_1
    have HC316_1 := mk_ hl316_1
    clear hi316_1 hl316_1
    replace p316 := eq_true p316
    replace q316 := eq_true q316
    go_wp2_with (first | ((with_reducible refine gate_callee (f := 14) rfl ?_); refine goesL_ (some 46) rfl rfl Try.func14 (by kernel_rfl) rfl #[.slice A316_1 ((rd_T34 t308 t311).f1).length c316_1, .int .i64 t312] rfl (by (try simp only [lm_, lo_, ln_]); try rfl) ?_; (with_reducible refine (impl_RouteTo.calls kj4 _ _ ((rd_T34 t308 t311).f1) t312 t317 t318 t319 t320 true _ ?side1 ?side2 A21.out).mono ?_); (case side1 => repeat (first | exact (by repeat (first | (with_reducible exact HR316_1.out) | (with_reducible refine Kd.C_alloc ?_ _) | (with_reducible refine Kd.C_drewN ?_ _) | (with_reducible refine Kd.C_drew ?_) | exact HR316_1.out)) | (with_reducible refine Kd.C_alloc ?_ _) | (with_reducible refine Kd.C_drewN ?_ _) | (with_reducible refine Kd.C_drew ?_))); (case side2 => exact HC316_1.out); rintro e w51 ⟨rfl, hb⟩; refine ⟨_, rfl, ?_⟩; replace HO_3 := mk_ (Kd.N_below (by (with_reducible repeat (first | apply Kd.N_alloc | apply Kd.N_drewN | apply Kd.N_drew)); exact HO_3.out) hb); replace HL316_1 := mk_ (Kd.V_below (by (with_reducible repeat (first | apply Kd.V_alloc | apply Kd.V_drewN | apply Kd.V_drew)); exact HL316_1.out) hb); replace HR316_1 := mk_ (Kd.C_below (by repeat (first | (with_reducible exact HR316_1.out) | (with_reducible refine Kd.C_alloc ?_ _) | (with_reducible refine Kd.C_drewN ?_ _) | (with_reducible refine Kd.C_drew ?_) | exact HR316_1.out)) hb); replace HB := mk_ (below_step (ub_ HB.out) hb)) | ((with_reducible refine gate_dst (N := 7) rfl ?_); refine box_event ?hg (N := 7) ?hd (cs := #[.int .i64 0, .int .i64 0, .int .i64 0, .int .i64 0]) (t := 29) ?hr ?_; (case hd => rfl); (case hg => rfl); (case hr => first | (go_simp; done) | (go_simp; rfl)); intro gb322 hg w52 hbox hb; replace HO_3 := mk_ (Kd.N_below (Kd.N_elderB (by (with_reducible repeat (first | apply Kd.N_alloc | apply Kd.N_drewN | apply Kd.N_drew)); exact HO_3.out) gb322 (Nat.le_of_eq hg.symm)) hb); replace HL316_1 := mk_ (Kd.V_below (Kd.V_elderB (by (with_reducible repeat (first | apply Kd.V_alloc | apply Kd.V_drewN | apply Kd.V_drew)); exact HL316_1.out) gb322 (Nat.le_of_eq hg.symm)) hb); replace HR316_1 := mk_ (Kd.C_below (by repeat (first | (with_reducible exact HR316_1.out) | (with_reducible refine Kd.C_alloc ?_ _) | (with_reducible refine Kd.C_drewN ?_ _) | (with_reducible refine Kd.C_drew ?_) | exact HR316_1.out)) hb); have n3_ := mk_ (below_step (ub_ HB.out) hb); have BK322 := mk_ (hbox); have GW322 := mk_ ((by rw [hg]; exact (below_size (ub_ HB.out)) : w.heap.size ≤ gb322)); have GE322 := ge_ ((by rw [hg]; exact (below_size (ub_ HB.out)) : w.heap.size ≤ gb322)); replace HB := n3_; clear n3_; clear hb hbox hg; obtain ⟨_, _, _, _, _, _, _, _⟩ := cells4_ BK322.out) | ((with_reducible refine gate_store (t := 29) (p := 7) rfl ?_); refine store_event (t := 29) (p := 7) (v := ?_) (w1 := ?_) ?hg ?ho ?hn ?hr ?_; (case ho => rfl); (case hg => rfl); (case hn => rfl); (case hr => first | (go_simp; done) | (go_simp; rfl)); intro w54 hw; have n0_ : Aside0 (Kd.N k34 34 w54 w.heap.size (fun k_ => k_ ≠ gb322) (.slice (some ad316) t308.length co7) t308) := ⟨(by rw [hw]; exact (by (with_reducible repeat (first | apply Kd.N_alloc | apply Kd.N_drewN | apply Kd.N_drew)); exact Kd.N_mono (Kd.N_far (p := ⟨gb322, 3, none⟩) (Kd.N_far (p := ⟨gb322, 2, none⟩) (Kd.N_far (p := ⟨gb322, 1, none⟩) (Kd.N_far (p := ⟨gb322, 0, none⟩) (Kd.N_mono HO_3.out (fun k_ hk => (⟨hk, hk.2⟩ : _ ∧ k_ ≠ gb322))) (fun _ hk => hk.2) (.int .i64 t317)) (fun _ hk => hk.2) (.int .i64 t318)) (fun _ hk => hk.2) (.int .i64 t319)) (fun _ hk => hk.2) (.int .i64 t320)) (fun _ hk => hk.1.2)))⟩; have n1_ : Aside0 (Kd.V k29 29 w54 w.heap.size (fun k_ => some k_ ≠ (.slice (some ad316) t308.length co7 : Value).ownBlock ∧ k_ ≠ gb322) (.slice A316_1 ((rd_T34 t308 t311).f1).length c316_1) ((rd_T34 t308 t311).f1)) := ⟨(by rw [hw]; exact (by (with_reducible repeat (first | apply Kd.V_alloc | apply Kd.V_drewN | apply Kd.V_drew)); exact Kd.V_mono (Kd.V_far (p := ⟨gb322, 3, none⟩) (Kd.V_far (p := ⟨gb322, 2, none⟩) (Kd.V_far (p := ⟨gb322, 1, none⟩) (Kd.V_far (p := ⟨gb322, 0, none⟩) (Kd.V_mono HL316_1.out (fun k_ hk => (⟨hk, hk.2⟩ : _ ∧ k_ ≠ gb322))) (fun _ hk => hk.2) (.int .i64 t317)) (fun _ hk => hk.2) (.int .i64 t318)) (fun _ hk => hk.2) (.int .i64 t319)) (fun _ hk => hk.2) (.int .i64 t320)) (fun _ hk => by first | exact ⟨hk.1.1.2, hk.1.2⟩ | exact hk.1 | exact hk | exact ⟨hk.1, hk.2⟩ | exact ⟨.inr hk.1, hk.2⟩ | simp only [hk, ne_eq, not_false_eq_true, and_self])))⟩; have n2_ : Aside0 (w54.heap[gb322]? = some (.cells #[.int .i64 t317, .int .i64 t318, .int .i64 t319, .int .i64 t320] 29 (0, 0))) := ⟨(by rw [hw]; exact (by (with_reducible repeat (first | refine bn_ ?_ _ | refine bw_ ?_ | refine ba_ ?_ _)); refine blk_put (cs := #[.int .i64 t317, .int .i64 t318, .int .i64 t319, .int .i64 0]) ?_ 3 _ rfl; (with_reducible repeat (first | refine bn_ ?_ _ | refine bw_ ?_ | refine ba_ ?_ _)); refine blk_put (cs := #[.int .i64 t317, .int .i64 t318, .int .i64 0, .int .i64 0]) ?_ 2 _ rfl; (with_reducible repeat (first | refine bn_ ?_ _ | refine bw_ ?_ | refine ba_ ?_ _)); refine blk_put (cs := #[.int .i64 t317, .int .i64 0, .int .i64 0, .int .i64 0]) ?_ 1 _ rfl; (with_reducible repeat (first | refine bn_ ?_ _ | refine bw_ ?_ | refine ba_ ?_ _)); refine blk_put (cs := #[.int .i64 0, .int .i64 0, .int .i64 0, .int .i64 0]) ?_ 0 _ rfl; (with_reducible repeat (first | refine bn_ ?_ _ | refine bw_ ?_ | refine ba_ ?_ _)); exact BK322.out))⟩; have n3_ : Aside0 (Below w.heap.size w w54) := ⟨(by rw [hw]; exact (us_ HB.out))⟩; clear hw; clear HO_3; clear HL316_1; clear BK322; clear HB; have HO_3 := n0_; have HL316_1 := n1_; have BK322 := n2_; have HB := n3_; clear n0_ n1_ n2_ n3_; have p323 : 0 ≤ (t311 : Int) := of_decide_eq_true (by first | (with_reducible assumption) | assumption); have q323 : t311 < (t308.length : Int) := of_decide_eq_true (by first | (with_reducible assumption) | assumption); obtain ⟨ad323, A323_1, c323_1, e323, hx323_0, hx323_1, hl323_1, hi323_1⟩ := at_T34 (Kd.N_reads' HO_3.out).2.2 t311 p323 q323; obtain rfl : ad316 = ad323 := (by injection e323); obtain ⟨ce323, hce323, hMe323, hcc323⟩ := Kd.N_get HO_3.out z34 t311 p323 (by first | exact q323 | exact of_decide_eq_true (by first | (with_reducible assumption) | assumption) | (have e_ := (Kd.N_reads' HO_3.out).1; omega)); obtain ⟨ua323_1, uc323_1, rfl, ul323_1, ge323_1⟩ := k34_openF hMe323; have hv323_1 := hcc323 1 _ rfl; rw [add_field _ _ 1 (by omega)] at hv323_1; replace hv323_1 := Option.some.inj (hv323_1.symm.trans hx323_1); injection hv323_1 with hva_ hvn_ hvc_; rw [hva_] at ge323_1; rw [hvc_] at ul323_1; have HL323_1 := mk_ (show Kd.V k29 29 _ w.heap.size _ _ ((rd_T34 t308 t311).f1) from Kd.V_mk ul323_1 ge323_1); clear hva_ hvn_ hvc_ ge323_1 ul323_1; clear hcc323 hce323; have HR323_1 := mk_ hi323_1; have HC323_1 := mk_ hl323_1; clear hi323_1 hl323_1; replace p323 := eq_true p323; replace q323 := eq_true q323; obtain ⟨_, _, _, _, _, _, _, _⟩ := cells4_ BK322.out) | (go_at_call 13; (with_reducible refine (laws_alive.calls kj4  t326 _ A50.out).mono ?_); rintro e w56 ⟨rfl, hb⟩; replace HO_3 := mk_ (Kd.N_below (by (with_reducible repeat (first | apply Kd.N_alloc | apply Kd.N_drewN | apply Kd.N_drew)); exact HO_3.out) hb); replace HL316_1 := mk_ (Kd.V_below (by (with_reducible repeat (first | apply Kd.V_alloc | apply Kd.V_drewN | apply Kd.V_drew)); exact HL316_1.out) hb); replace BK322 := mk_ (blk_below (u_ BK322.out) hb); replace HB := mk_ (below_step (us_ HB.out) hb)))
    go_ret
    exact ⟨by first | rfl | (simp [errW_none, errW_some] <;> rfl) | (simp [*, errW_none, errW_some] <;> rfl), us_ HB.out⟩
   rw [if_pos c22] at H
   have c22b0 : (((rd_T34 t308 t311).f0) == t312) = true := beq_iff_eq.mpr c22
   have c22b1 : (((rd_T34 t308 t311).f0) != t312) = false := bne_eq_false_iff_eq.mpr c22
   clear c22
   by_cases c23 : t313 = 48
   ·rw [if_pos c23] at H
    have c23b0 : (t313 == 48) = true := beq_iff_eq.mpr c23
    have c23b1 : (t313 != 48) = false := bne_eq_false_iff_eq.mpr c23
    clear c23
    replace H := Option.bind_eq_some_iff.mp H
    obtain ⟨t324, A240, H⟩ := H
    replace H : (some t324) = some r := H
    have A24 := mk_ A240
    clear A240
    obtain rfl := Option.some.inj H
    have p316 : 0 ≤ (t311 : Int) := of_decide_eq_true (by first | (with_reducible assumption) | assumption)
    have q316 : t311 < (t308.length : Int) := of_decide_eq_true (by first | (with_reducible assumption) | assumption)
    obtain ⟨ad316, A316_1, c316_1, e316, hx316_0, hx316_1, hl316_1, hi316_1⟩ := at_T34 (Kd.N_reads' HO_3.out).2.2 t311 p316 q316
    cases e316
    obtain ⟨ce316, hce316, hMe316, hcc316⟩ := Kd.N_get HO_3.out z34 t311 p316 (by first | exact q316 | exact of_decide_eq_true (by first | (with_reducible assumption) | assumption) | (have e_ := (Kd.N_reads' HO_3.out).1; omega))
    obtain ⟨ua316_1, uc316_1, rfl, ul316_1, ge316_1⟩ := k34_openF hMe316
    have hv316_1 := hcc316 1 _ rfl
    rw [add_field _ _ 1 (by omega)] at hv316_1
    replace hv316_1 := Option.some.inj (hv316_1.symm.trans hx316_1)
    injection hv316_1 with hva_ hvn_ hvc_
    rw [hva_] at ge316_1
    rw [hvc_] at ul316_1
    have HL316_1 := mk_ (show Kd.V k29 29 _ w.heap.size _ _ ((rd_T34 t308 t311).f1) from Kd.V_mk ul316_1 ge316_1)
    clear hva_ hvn_ hvc_ ge316_1 ul316_1
    clear hcc316 hce316
    have HR316_1 := mk_ hi316_1
    have HC316_1 := mk_ hl316_1
    clear hi316_1 hl316_1
    replace p316 := eq_true p316
    replace q316 := eq_true q316
    go_wp2_with (first | ((with_reducible refine gate_callee (f := 14) rfl ?_); refine goesL_ (some 46) rfl rfl Try.func14 (by kernel_rfl) rfl #[.slice A316_1 ((rd_T34 t308 t311).f1).length c316_1, .int .i64 t312] rfl (by (try simp only [lm_, lo_, ln_]); try rfl) ?_; (with_reducible refine (impl_RouteTo.calls kj4 _ _ ((rd_T34 t308 t311).f1) t312 t317 t318 t319 t320 t321 _ ?side1 ?side2 A21.out).mono ?_); (case side1 => repeat (first | exact (by repeat (first | (with_reducible exact HR316_1.out) | (with_reducible refine Kd.C_alloc ?_ _) | (with_reducible refine Kd.C_drewN ?_ _) | (with_reducible refine Kd.C_drew ?_) | exact HR316_1.out)) | (with_reducible refine Kd.C_alloc ?_ _) | (with_reducible refine Kd.C_drewN ?_ _) | (with_reducible refine Kd.C_drew ?_))); (case side2 => exact HC316_1.out); rintro e w25 ⟨rfl, hb⟩; refine ⟨_, rfl, ?_⟩; replace HO_3 := mk_ (Kd.N_below (by (with_reducible repeat (first | apply Kd.N_alloc | apply Kd.N_drewN | apply Kd.N_drew)); exact HO_3.out) hb); replace HL316_1 := mk_ (Kd.V_below (by (with_reducible repeat (first | apply Kd.V_alloc | apply Kd.V_drewN | apply Kd.V_drew)); exact HL316_1.out) hb); replace HR316_1 := mk_ (Kd.C_below (by repeat (first | (with_reducible exact HR316_1.out) | (with_reducible refine Kd.C_alloc ?_ _) | (with_reducible refine Kd.C_drewN ?_ _) | (with_reducible refine Kd.C_drew ?_) | exact HR316_1.out)) hb); replace HB := mk_ (below_step (ub_ HB.out) hb)) | ((with_reducible refine gate_dst (N := 7) rfl ?_); refine box_event ?hg (N := 7) ?hd (cs := #[.int .i64 0, .int .i64 0, .int .i64 0, .int .i64 0]) (t := 29) ?hr ?_; (case hd => rfl); (case hg => rfl); (case hr => first | (go_simp; done) | (go_simp; rfl)); intro gb322 hg w26 hbox hb; replace HO_3 := mk_ (Kd.N_below (Kd.N_elderB (by (with_reducible repeat (first | apply Kd.N_alloc | apply Kd.N_drewN | apply Kd.N_drew)); exact HO_3.out) gb322 (Nat.le_of_eq hg.symm)) hb); replace HL316_1 := mk_ (Kd.V_below (Kd.V_elderB (by (with_reducible repeat (first | apply Kd.V_alloc | apply Kd.V_drewN | apply Kd.V_drew)); exact HL316_1.out) gb322 (Nat.le_of_eq hg.symm)) hb); replace HR316_1 := mk_ (Kd.C_below (by repeat (first | (with_reducible exact HR316_1.out) | (with_reducible refine Kd.C_alloc ?_ _) | (with_reducible refine Kd.C_drewN ?_ _) | (with_reducible refine Kd.C_drew ?_) | exact HR316_1.out)) hb); have n3_ := mk_ (below_step (ub_ HB.out) hb); have BK322 := mk_ (hbox); have GW322 := mk_ ((by rw [hg]; exact (below_size (ub_ HB.out)) : w.heap.size ≤ gb322)); have GE322 := ge_ ((by rw [hg]; exact (below_size (ub_ HB.out)) : w.heap.size ≤ gb322)); replace HB := n3_; clear n3_; clear hb hbox hg; obtain ⟨_, _, _, _, _, _, _, _⟩ := cells4_ BK322.out) | ((with_reducible refine gate_store (t := 29) (p := 7) rfl ?_); refine store_event (t := 29) (p := 7) (v := ?_) (w1 := ?_) ?hg ?ho ?hn ?hr ?_; (case ho => rfl); (case hg => rfl); (case hn => rfl); (case hr => first | (go_simp; done) | (go_simp; rfl)); intro w28 hw; have n0_ : Aside0 (Kd.N k34 34 w28 w.heap.size (fun k_ => k_ ≠ gb322) (.slice (some ad316) t308.length co7) t308) := ⟨(by rw [hw]; exact (by (with_reducible repeat (first | apply Kd.N_alloc | apply Kd.N_drewN | apply Kd.N_drew)); exact Kd.N_mono (Kd.N_far (p := ⟨gb322, 3, none⟩) (Kd.N_far (p := ⟨gb322, 2, none⟩) (Kd.N_far (p := ⟨gb322, 1, none⟩) (Kd.N_far (p := ⟨gb322, 0, none⟩) (Kd.N_mono HO_3.out (fun k_ hk => (⟨hk, hk.2⟩ : _ ∧ k_ ≠ gb322))) (fun _ hk => hk.2) (.int .i64 t317)) (fun _ hk => hk.2) (.int .i64 t318)) (fun _ hk => hk.2) (.int .i64 t319)) (fun _ hk => hk.2) (.int .i64 t320)) (fun _ hk => hk.1.2)))⟩; have n1_ : Aside0 (Kd.V k29 29 w28 w.heap.size (fun k_ => some k_ ≠ (.slice (some ad316) t308.length co7 : Value).ownBlock ∧ k_ ≠ gb322) (.slice A316_1 ((rd_T34 t308 t311).f1).length c316_1) ((rd_T34 t308 t311).f1)) := ⟨(by rw [hw]; exact (by (with_reducible repeat (first | apply Kd.V_alloc | apply Kd.V_drewN | apply Kd.V_drew)); exact Kd.V_mono (Kd.V_far (p := ⟨gb322, 3, none⟩) (Kd.V_far (p := ⟨gb322, 2, none⟩) (Kd.V_far (p := ⟨gb322, 1, none⟩) (Kd.V_far (p := ⟨gb322, 0, none⟩) (Kd.V_mono HL316_1.out (fun k_ hk => (⟨hk, hk.2⟩ : _ ∧ k_ ≠ gb322))) (fun _ hk => hk.2) (.int .i64 t317)) (fun _ hk => hk.2) (.int .i64 t318)) (fun _ hk => hk.2) (.int .i64 t319)) (fun _ hk => hk.2) (.int .i64 t320)) (fun _ hk => by first | exact ⟨hk.1.1.2, hk.1.2⟩ | exact hk.1 | exact hk | exact ⟨hk.1, hk.2⟩ | exact ⟨.inr hk.1, hk.2⟩ | simp only [hk, ne_eq, not_false_eq_true, and_self])))⟩; have n2_ : Aside0 (w28.heap[gb322]? = some (.cells #[.int .i64 t317, .int .i64 t318, .int .i64 t319, .int .i64 t320] 29 (0, 0))) := ⟨(by rw [hw]; exact (by (with_reducible repeat (first | refine bn_ ?_ _ | refine bw_ ?_ | refine ba_ ?_ _)); refine blk_put (cs := #[.int .i64 t317, .int .i64 t318, .int .i64 t319, .int .i64 0]) ?_ 3 _ rfl; (with_reducible repeat (first | refine bn_ ?_ _ | refine bw_ ?_ | refine ba_ ?_ _)); refine blk_put (cs := #[.int .i64 t317, .int .i64 t318, .int .i64 0, .int .i64 0]) ?_ 2 _ rfl; (with_reducible repeat (first | refine bn_ ?_ _ | refine bw_ ?_ | refine ba_ ?_ _)); refine blk_put (cs := #[.int .i64 t317, .int .i64 0, .int .i64 0, .int .i64 0]) ?_ 1 _ rfl; (with_reducible repeat (first | refine bn_ ?_ _ | refine bw_ ?_ | refine ba_ ?_ _)); refine blk_put (cs := #[.int .i64 0, .int .i64 0, .int .i64 0, .int .i64 0]) ?_ 0 _ rfl; (with_reducible repeat (first | refine bn_ ?_ _ | refine bw_ ?_ | refine ba_ ?_ _)); exact BK322.out))⟩; have n3_ : Aside0 (Below w.heap.size w w28) := ⟨(by rw [hw]; exact (us_ HB.out))⟩; clear hw; clear HO_3; clear HL316_1; clear BK322; clear HB; have HO_3 := n0_; have HL316_1 := n1_; have BK322 := n2_; have HB := n3_; clear n0_ n1_ n2_ n3_; have p323 : 0 ≤ (t311 : Int) := of_decide_eq_true (by first | (with_reducible assumption) | assumption); have q323 : t311 < (t308.length : Int) := of_decide_eq_true (by first | (with_reducible assumption) | assumption); obtain ⟨ad323, A323_1, c323_1, e323, hx323_0, hx323_1, hl323_1, hi323_1⟩ := at_T34 (Kd.N_reads' HO_3.out).2.2 t311 p323 q323; obtain rfl : ad316 = ad323 := (by injection e323); obtain ⟨ce323, hce323, hMe323, hcc323⟩ := Kd.N_get HO_3.out z34 t311 p323 (by first | exact q323 | exact of_decide_eq_true (by first | (with_reducible assumption) | assumption) | (have e_ := (Kd.N_reads' HO_3.out).1; omega)); obtain ⟨ua323_1, uc323_1, rfl, ul323_1, ge323_1⟩ := k34_openF hMe323; have hv323_1 := hcc323 1 _ rfl; rw [add_field _ _ 1 (by omega)] at hv323_1; replace hv323_1 := Option.some.inj (hv323_1.symm.trans hx323_1); injection hv323_1 with hva_ hvn_ hvc_; rw [hva_] at ge323_1; rw [hvc_] at ul323_1; have HL323_1 := mk_ (show Kd.V k29 29 _ w.heap.size _ _ ((rd_T34 t308 t311).f1) from Kd.V_mk ul323_1 ge323_1); clear hva_ hvn_ hvc_ ge323_1 ul323_1; clear hcc323 hce323; have HR323_1 := mk_ hi323_1; have HC323_1 := mk_ hl323_1; clear hi323_1 hl323_1; replace p323 := eq_true p323; replace q323 := eq_true q323) | (go_at_call 13; (with_reducible refine (laws_alive.calls kj4  t324 _ A24.out).mono ?_); rintro e w29 ⟨rfl, hb⟩; replace HO_3 := mk_ (Kd.N_below (by (with_reducible repeat (first | apply Kd.N_alloc | apply Kd.N_drewN | apply Kd.N_drew)); exact HO_3.out) hb); replace HL316_1 := mk_ (Kd.V_below (by (with_reducible repeat (first | apply Kd.V_alloc | apply Kd.V_drewN | apply Kd.V_drew)); exact HL316_1.out) hb); replace BK322 := mk_ (blk_below (u_ BK322.out) hb); replace HB := mk_ (below_step (us_ HB.out) hb)))
    go_ret
    exact ⟨by first | rfl | (simp [errW_none, errW_some] <;> rfl) | (simp [*, errW_none, errW_some] <;> rfl), us_ HB.out⟩
   rw [if_neg c23] at H
   have c23b0 : (t313 == 48) = false := beq_eq_false_iff_ne.mpr c23
   have c23b1 : (t313 != 48) = true := bne_iff_ne.mpr c23
   by_cases c30 : t321 = true
   rotate_left
   ·replace c30 := Bool.eq_false_iff.mpr c30
    subst c30
    have H1 : (some false) = some r := by rw [if_neg (show ¬ (false = true) by decide)] at H; exact H
    clear H
    have H := H1
    clear H1
    obtain rfl := Option.some.inj H
    have p316 : 0 ≤ (t311 : Int) := of_decide_eq_true (by first | (with_reducible assumption) | assumption)
    have q316 : t311 < (t308.length : Int) := of_decide_eq_true (by first | (with_reducible assumption) | assumption)
    obtain ⟨ad316, A316_1, c316_1, e316, hx316_0, hx316_1, hl316_1, hi316_1⟩ := at_T34 (Kd.N_reads' HO_3.out).2.2 t311 p316 q316
    cases e316
    obtain ⟨ce316, hce316, hMe316, hcc316⟩ := Kd.N_get HO_3.out z34 t311 p316 (by first | exact q316 | exact of_decide_eq_true (by first | (with_reducible assumption) | assumption) | (have e_ := (Kd.N_reads' HO_3.out).1; omega))
    obtain ⟨ua316_1, uc316_1, rfl, ul316_1, ge316_1⟩ := k34_openF hMe316
    have hv316_1 := hcc316 1 _ rfl
    rw [add_field _ _ 1 (by omega)] at hv316_1
    replace hv316_1 := Option.some.inj (hv316_1.symm.trans hx316_1)
    injection hv316_1 with hva_ hvn_ hvc_
    rw [hva_] at ge316_1
    rw [hvc_] at ul316_1
    have HL316_1 := mk_ (show Kd.V k29 29 _ w.heap.size _ _ ((rd_T34 t308 t311).f1) from Kd.V_mk ul316_1 ge316_1)
    clear hva_ hvn_ hvc_ ge316_1 ul316_1
    clear hcc316 hce316
    have HR316_1 := mk_ hi316_1
    have HC316_1 := mk_ hl316_1
    clear hi316_1 hl316_1
    replace p316 := eq_true p316
    replace q316 := eq_true q316
    go_wp2_with (first | ((with_reducible refine gate_callee (f := 14) rfl ?_); refine goesL_ (some 46) rfl rfl Try.func14 (by kernel_rfl) rfl #[.slice A316_1 ((rd_T34 t308 t311).f1).length c316_1, .int .i64 t312] rfl (by (try simp only [lm_, lo_, ln_]); try rfl) ?_; (with_reducible refine (impl_RouteTo.calls kj4 _ _ ((rd_T34 t308 t311).f1) t312 t317 t318 t319 t320 false _ ?side1 ?side2 A21.out).mono ?_); (case side1 => repeat (first | exact (by repeat (first | (with_reducible exact HR316_1.out) | (with_reducible refine Kd.C_alloc ?_ _) | (with_reducible refine Kd.C_drewN ?_ _) | (with_reducible refine Kd.C_drew ?_) | exact HR316_1.out)) | (with_reducible refine Kd.C_alloc ?_ _) | (with_reducible refine Kd.C_drewN ?_ _) | (with_reducible refine Kd.C_drew ?_))); (case side2 => exact HC316_1.out); rintro e w44 ⟨rfl, hb⟩; refine ⟨_, rfl, ?_⟩; replace HO_3 := mk_ (Kd.N_below (by (with_reducible repeat (first | apply Kd.N_alloc | apply Kd.N_drewN | apply Kd.N_drew)); exact HO_3.out) hb); replace HL316_1 := mk_ (Kd.V_below (by (with_reducible repeat (first | apply Kd.V_alloc | apply Kd.V_drewN | apply Kd.V_drew)); exact HL316_1.out) hb); replace HR316_1 := mk_ (Kd.C_below (by repeat (first | (with_reducible exact HR316_1.out) | (with_reducible refine Kd.C_alloc ?_ _) | (with_reducible refine Kd.C_drewN ?_ _) | (with_reducible refine Kd.C_drew ?_) | exact HR316_1.out)) hb); replace HB := mk_ (below_step (ub_ HB.out) hb)) | ((with_reducible refine gate_dst (N := 7) rfl ?_); refine box_event ?hg (N := 7) ?hd (cs := #[.int .i64 0, .int .i64 0, .int .i64 0, .int .i64 0]) (t := 29) ?hr ?_; (case hd => rfl); (case hg => rfl); (case hr => first | (go_simp; done) | (go_simp; rfl)); intro gb322 hg w45 hbox hb; replace HO_3 := mk_ (Kd.N_below (Kd.N_elderB (by (with_reducible repeat (first | apply Kd.N_alloc | apply Kd.N_drewN | apply Kd.N_drew)); exact HO_3.out) gb322 (Nat.le_of_eq hg.symm)) hb); replace HL316_1 := mk_ (Kd.V_below (Kd.V_elderB (by (with_reducible repeat (first | apply Kd.V_alloc | apply Kd.V_drewN | apply Kd.V_drew)); exact HL316_1.out) gb322 (Nat.le_of_eq hg.symm)) hb); replace HR316_1 := mk_ (Kd.C_below (by repeat (first | (with_reducible exact HR316_1.out) | (with_reducible refine Kd.C_alloc ?_ _) | (with_reducible refine Kd.C_drewN ?_ _) | (with_reducible refine Kd.C_drew ?_) | exact HR316_1.out)) hb); have n3_ := mk_ (below_step (ub_ HB.out) hb); have BK322 := mk_ (hbox); have GW322 := mk_ ((by rw [hg]; exact (below_size (ub_ HB.out)) : w.heap.size ≤ gb322)); have GE322 := ge_ ((by rw [hg]; exact (below_size (ub_ HB.out)) : w.heap.size ≤ gb322)); replace HB := n3_; clear n3_; clear hb hbox hg; obtain ⟨_, _, _, _, _, _, _, _⟩ := cells4_ BK322.out) | ((with_reducible refine gate_store (t := 29) (p := 7) rfl ?_); refine store_event (t := 29) (p := 7) (v := ?_) (w1 := ?_) ?hg ?ho ?hn ?hr ?_; (case ho => rfl); (case hg => rfl); (case hn => rfl); (case hr => first | (go_simp; done) | (go_simp; rfl)); intro w47 hw; have n0_ : Aside0 (Kd.N k34 34 w47 w.heap.size (fun k_ => k_ ≠ gb322) (.slice (some ad316) t308.length co7) t308) := ⟨(by rw [hw]; exact (by (with_reducible repeat (first | apply Kd.N_alloc | apply Kd.N_drewN | apply Kd.N_drew)); exact Kd.N_mono (Kd.N_far (p := ⟨gb322, 3, none⟩) (Kd.N_far (p := ⟨gb322, 2, none⟩) (Kd.N_far (p := ⟨gb322, 1, none⟩) (Kd.N_far (p := ⟨gb322, 0, none⟩) (Kd.N_mono HO_3.out (fun k_ hk => (⟨hk, hk.2⟩ : _ ∧ k_ ≠ gb322))) (fun _ hk => hk.2) (.int .i64 t317)) (fun _ hk => hk.2) (.int .i64 t318)) (fun _ hk => hk.2) (.int .i64 t319)) (fun _ hk => hk.2) (.int .i64 t320)) (fun _ hk => hk.1.2)))⟩; have n1_ : Aside0 (Kd.V k29 29 w47 w.heap.size (fun k_ => some k_ ≠ (.slice (some ad316) t308.length co7 : Value).ownBlock ∧ k_ ≠ gb322) (.slice A316_1 ((rd_T34 t308 t311).f1).length c316_1) ((rd_T34 t308 t311).f1)) := ⟨(by rw [hw]; exact (by (with_reducible repeat (first | apply Kd.V_alloc | apply Kd.V_drewN | apply Kd.V_drew)); exact Kd.V_mono (Kd.V_far (p := ⟨gb322, 3, none⟩) (Kd.V_far (p := ⟨gb322, 2, none⟩) (Kd.V_far (p := ⟨gb322, 1, none⟩) (Kd.V_far (p := ⟨gb322, 0, none⟩) (Kd.V_mono HL316_1.out (fun k_ hk => (⟨hk, hk.2⟩ : _ ∧ k_ ≠ gb322))) (fun _ hk => hk.2) (.int .i64 t317)) (fun _ hk => hk.2) (.int .i64 t318)) (fun _ hk => hk.2) (.int .i64 t319)) (fun _ hk => hk.2) (.int .i64 t320)) (fun _ hk => by first | exact ⟨hk.1.1.2, hk.1.2⟩ | exact hk.1 | exact hk | exact ⟨hk.1, hk.2⟩ | exact ⟨.inr hk.1, hk.2⟩ | simp only [hk, ne_eq, not_false_eq_true, and_self])))⟩; have n2_ : Aside0 (w47.heap[gb322]? = some (.cells #[.int .i64 t317, .int .i64 t318, .int .i64 t319, .int .i64 t320] 29 (0, 0))) := ⟨(by rw [hw]; exact (by (with_reducible repeat (first | refine bn_ ?_ _ | refine bw_ ?_ | refine ba_ ?_ _)); refine blk_put (cs := #[.int .i64 t317, .int .i64 t318, .int .i64 t319, .int .i64 0]) ?_ 3 _ rfl; (with_reducible repeat (first | refine bn_ ?_ _ | refine bw_ ?_ | refine ba_ ?_ _)); refine blk_put (cs := #[.int .i64 t317, .int .i64 t318, .int .i64 0, .int .i64 0]) ?_ 2 _ rfl; (with_reducible repeat (first | refine bn_ ?_ _ | refine bw_ ?_ | refine ba_ ?_ _)); refine blk_put (cs := #[.int .i64 t317, .int .i64 0, .int .i64 0, .int .i64 0]) ?_ 1 _ rfl; (with_reducible repeat (first | refine bn_ ?_ _ | refine bw_ ?_ | refine ba_ ?_ _)); refine blk_put (cs := #[.int .i64 0, .int .i64 0, .int .i64 0, .int .i64 0]) ?_ 0 _ rfl; (with_reducible repeat (first | refine bn_ ?_ _ | refine bw_ ?_ | refine ba_ ?_ _)); exact BK322.out))⟩; have n3_ : Aside0 (Below w.heap.size w w47) := ⟨(by rw [hw]; exact (us_ HB.out))⟩; clear hw; clear HO_3; clear HL316_1; clear BK322; clear HB; have HO_3 := n0_; have HL316_1 := n1_; have BK322 := n2_; have HB := n3_; clear n0_ n1_ n2_ n3_; have p323 : 0 ≤ (t311 : Int) := of_decide_eq_true (by first | (with_reducible assumption) | assumption); have q323 : t311 < (t308.length : Int) := of_decide_eq_true (by first | (with_reducible assumption) | assumption); obtain ⟨ad323, A323_1, c323_1, e323, hx323_0, hx323_1, hl323_1, hi323_1⟩ := at_T34 (Kd.N_reads' HO_3.out).2.2 t311 p323 q323; obtain rfl : ad316 = ad323 := (by injection e323); obtain ⟨ce323, hce323, hMe323, hcc323⟩ := Kd.N_get HO_3.out z34 t311 p323 (by first | exact q323 | exact of_decide_eq_true (by first | (with_reducible assumption) | assumption) | (have e_ := (Kd.N_reads' HO_3.out).1; omega)); obtain ⟨ua323_1, uc323_1, rfl, ul323_1, ge323_1⟩ := k34_openF hMe323; have hv323_1 := hcc323 1 _ rfl; rw [add_field _ _ 1 (by omega)] at hv323_1; replace hv323_1 := Option.some.inj (hv323_1.symm.trans hx323_1); injection hv323_1 with hva_ hvn_ hvc_; rw [hva_] at ge323_1; rw [hvc_] at ul323_1; have HL323_1 := mk_ (show Kd.V k29 29 _ w.heap.size _ _ ((rd_T34 t308 t311).f1) from Kd.V_mk ul323_1 ge323_1); clear hva_ hvn_ hvc_ ge323_1 ul323_1; clear hcc323 hce323; have HR323_1 := mk_ hi323_1; have HC323_1 := mk_ hl323_1; clear hi323_1 hl323_1; replace p323 := eq_true p323; replace q323 := eq_true q323))
    go_ret
    exact ⟨by first | rfl | (simp [errW_none, errW_some] <;> rfl) | (simp [*, errW_none, errW_some] <;> rfl), us_ HB.out⟩
   subst c30
   rw [if_pos rfl] at H
   by_cases c31 : t313 ≤ t320
   rotate_left
   ·rw [if_neg c31] at H
    have c31b0 : decide (t313 ≤ t320) = false := decide_eq_false c31
    clear c31
    obtain rfl := Option.some.inj H
    have p316 : 0 ≤ (t311 : Int) := of_decide_eq_true (by first | (with_reducible assumption) | assumption)
    have q316 : t311 < (t308.length : Int) := of_decide_eq_true (by first | (with_reducible assumption) | assumption)
    obtain ⟨ad316, A316_1, c316_1, e316, hx316_0, hx316_1, hl316_1, hi316_1⟩ := at_T34 (Kd.N_reads' HO_3.out).2.2 t311 p316 q316
    cases e316
    obtain ⟨ce316, hce316, hMe316, hcc316⟩ := Kd.N_get HO_3.out z34 t311 p316 (by first | exact q316 | exact of_decide_eq_true (by first | (with_reducible assumption) | assumption) | (have e_ := (Kd.N_reads' HO_3.out).1; omega))
    obtain ⟨ua316_1, uc316_1, rfl, ul316_1, ge316_1⟩ := k34_openF hMe316
    have hv316_1 := hcc316 1 _ rfl
    rw [add_field _ _ 1 (by omega)] at hv316_1
    replace hv316_1 := Option.some.inj (hv316_1.symm.trans hx316_1)
    injection hv316_1 with hva_ hvn_ hvc_
    rw [hva_] at ge316_1
    rw [hvc_] at ul316_1
    have HL316_1 := mk_ (show Kd.V k29 29 _ w.heap.size _ _ ((rd_T34 t308 t311).f1) from Kd.V_mk ul316_1 ge316_1)
    clear hva_ hvn_ hvc_ ge316_1 ul316_1
    clear hcc316 hce316
    have HR316_1 := mk_ hi316_1
    have HC316_1 := mk_ hl316_1
    clear hi316_1 hl316_1
    replace p316 := eq_true p316
    replace q316 := eq_true q316
    go_wp2_with (first | ((with_reducible refine gate_callee (f := 14) rfl ?_); refine goesL_ (some 46) rfl rfl Try.func14 (by kernel_rfl) rfl #[.slice A316_1 ((rd_T34 t308 t311).f1).length c316_1, .int .i64 t312] rfl (by (try simp only [lm_, lo_, ln_]); try rfl) ?_; (with_reducible refine (impl_RouteTo.calls kj4 _ _ ((rd_T34 t308 t311).f1) t312 t317 t318 t319 t320 true _ ?side1 ?side2 A21.out).mono ?_); (case side1 => repeat (first | exact (by repeat (first | (with_reducible exact HR316_1.out) | (with_reducible refine Kd.C_alloc ?_ _) | (with_reducible refine Kd.C_drewN ?_ _) | (with_reducible refine Kd.C_drew ?_) | exact HR316_1.out)) | (with_reducible refine Kd.C_alloc ?_ _) | (with_reducible refine Kd.C_drewN ?_ _) | (with_reducible refine Kd.C_drew ?_))); (case side2 => exact HC316_1.out); rintro e w39 ⟨rfl, hb⟩; refine ⟨_, rfl, ?_⟩; replace HO_3 := mk_ (Kd.N_below (by (with_reducible repeat (first | apply Kd.N_alloc | apply Kd.N_drewN | apply Kd.N_drew)); exact HO_3.out) hb); replace HL316_1 := mk_ (Kd.V_below (by (with_reducible repeat (first | apply Kd.V_alloc | apply Kd.V_drewN | apply Kd.V_drew)); exact HL316_1.out) hb); replace HR316_1 := mk_ (Kd.C_below (by repeat (first | (with_reducible exact HR316_1.out) | (with_reducible refine Kd.C_alloc ?_ _) | (with_reducible refine Kd.C_drewN ?_ _) | (with_reducible refine Kd.C_drew ?_) | exact HR316_1.out)) hb); replace HB := mk_ (below_step (ub_ HB.out) hb)) | ((with_reducible refine gate_dst (N := 7) rfl ?_); refine box_event ?hg (N := 7) ?hd (cs := #[.int .i64 0, .int .i64 0, .int .i64 0, .int .i64 0]) (t := 29) ?hr ?_; (case hd => rfl); (case hg => rfl); (case hr => first | (go_simp; done) | (go_simp; rfl)); intro gb322 hg w40 hbox hb; replace HO_3 := mk_ (Kd.N_below (Kd.N_elderB (by (with_reducible repeat (first | apply Kd.N_alloc | apply Kd.N_drewN | apply Kd.N_drew)); exact HO_3.out) gb322 (Nat.le_of_eq hg.symm)) hb); replace HL316_1 := mk_ (Kd.V_below (Kd.V_elderB (by (with_reducible repeat (first | apply Kd.V_alloc | apply Kd.V_drewN | apply Kd.V_drew)); exact HL316_1.out) gb322 (Nat.le_of_eq hg.symm)) hb); replace HR316_1 := mk_ (Kd.C_below (by repeat (first | (with_reducible exact HR316_1.out) | (with_reducible refine Kd.C_alloc ?_ _) | (with_reducible refine Kd.C_drewN ?_ _) | (with_reducible refine Kd.C_drew ?_) | exact HR316_1.out)) hb); have n3_ := mk_ (below_step (ub_ HB.out) hb); have BK322 := mk_ (hbox); have GW322 := mk_ ((by rw [hg]; exact (below_size (ub_ HB.out)) : w.heap.size ≤ gb322)); have GE322 := ge_ ((by rw [hg]; exact (below_size (ub_ HB.out)) : w.heap.size ≤ gb322)); replace HB := n3_; clear n3_; clear hb hbox hg; obtain ⟨_, _, _, _, _, _, _, _⟩ := cells4_ BK322.out) | ((with_reducible refine gate_store (t := 29) (p := 7) rfl ?_); refine store_event (t := 29) (p := 7) (v := ?_) (w1 := ?_) ?hg ?ho ?hn ?hr ?_; (case ho => rfl); (case hg => rfl); (case hn => rfl); (case hr => first | (go_simp; done) | (go_simp; rfl)); intro w42 hw; have n0_ : Aside0 (Kd.N k34 34 w42 w.heap.size (fun k_ => k_ ≠ gb322) (.slice (some ad316) t308.length co7) t308) := ⟨(by rw [hw]; exact (by (with_reducible repeat (first | apply Kd.N_alloc | apply Kd.N_drewN | apply Kd.N_drew)); exact Kd.N_mono (Kd.N_far (p := ⟨gb322, 3, none⟩) (Kd.N_far (p := ⟨gb322, 2, none⟩) (Kd.N_far (p := ⟨gb322, 1, none⟩) (Kd.N_far (p := ⟨gb322, 0, none⟩) (Kd.N_mono HO_3.out (fun k_ hk => (⟨hk, hk.2⟩ : _ ∧ k_ ≠ gb322))) (fun _ hk => hk.2) (.int .i64 t317)) (fun _ hk => hk.2) (.int .i64 t318)) (fun _ hk => hk.2) (.int .i64 t319)) (fun _ hk => hk.2) (.int .i64 t320)) (fun _ hk => hk.1.2)))⟩; have n1_ : Aside0 (Kd.V k29 29 w42 w.heap.size (fun k_ => some k_ ≠ (.slice (some ad316) t308.length co7 : Value).ownBlock ∧ k_ ≠ gb322) (.slice A316_1 ((rd_T34 t308 t311).f1).length c316_1) ((rd_T34 t308 t311).f1)) := ⟨(by rw [hw]; exact (by (with_reducible repeat (first | apply Kd.V_alloc | apply Kd.V_drewN | apply Kd.V_drew)); exact Kd.V_mono (Kd.V_far (p := ⟨gb322, 3, none⟩) (Kd.V_far (p := ⟨gb322, 2, none⟩) (Kd.V_far (p := ⟨gb322, 1, none⟩) (Kd.V_far (p := ⟨gb322, 0, none⟩) (Kd.V_mono HL316_1.out (fun k_ hk => (⟨hk, hk.2⟩ : _ ∧ k_ ≠ gb322))) (fun _ hk => hk.2) (.int .i64 t317)) (fun _ hk => hk.2) (.int .i64 t318)) (fun _ hk => hk.2) (.int .i64 t319)) (fun _ hk => hk.2) (.int .i64 t320)) (fun _ hk => by first | exact ⟨hk.1.1.2, hk.1.2⟩ | exact hk.1 | exact hk | exact ⟨hk.1, hk.2⟩ | exact ⟨.inr hk.1, hk.2⟩ | simp only [hk, ne_eq, not_false_eq_true, and_self])))⟩; have n2_ : Aside0 (w42.heap[gb322]? = some (.cells #[.int .i64 t317, .int .i64 t318, .int .i64 t319, .int .i64 t320] 29 (0, 0))) := ⟨(by rw [hw]; exact (by (with_reducible repeat (first | refine bn_ ?_ _ | refine bw_ ?_ | refine ba_ ?_ _)); refine blk_put (cs := #[.int .i64 t317, .int .i64 t318, .int .i64 t319, .int .i64 0]) ?_ 3 _ rfl; (with_reducible repeat (first | refine bn_ ?_ _ | refine bw_ ?_ | refine ba_ ?_ _)); refine blk_put (cs := #[.int .i64 t317, .int .i64 t318, .int .i64 0, .int .i64 0]) ?_ 2 _ rfl; (with_reducible repeat (first | refine bn_ ?_ _ | refine bw_ ?_ | refine ba_ ?_ _)); refine blk_put (cs := #[.int .i64 t317, .int .i64 0, .int .i64 0, .int .i64 0]) ?_ 1 _ rfl; (with_reducible repeat (first | refine bn_ ?_ _ | refine bw_ ?_ | refine ba_ ?_ _)); refine blk_put (cs := #[.int .i64 0, .int .i64 0, .int .i64 0, .int .i64 0]) ?_ 0 _ rfl; (with_reducible repeat (first | refine bn_ ?_ _ | refine bw_ ?_ | refine ba_ ?_ _)); exact BK322.out))⟩; have n3_ : Aside0 (Below w.heap.size w w42) := ⟨(by rw [hw]; exact (us_ HB.out))⟩; clear hw; clear HO_3; clear HL316_1; clear BK322; clear HB; have HO_3 := n0_; have HL316_1 := n1_; have BK322 := n2_; have HB := n3_; clear n0_ n1_ n2_ n3_; have p323 : 0 ≤ (t311 : Int) := of_decide_eq_true (by first | (with_reducible assumption) | assumption); have q323 : t311 < (t308.length : Int) := of_decide_eq_true (by first | (with_reducible assumption) | assumption); obtain ⟨ad323, A323_1, c323_1, e323, hx323_0, hx323_1, hl323_1, hi323_1⟩ := at_T34 (Kd.N_reads' HO_3.out).2.2 t311 p323 q323; obtain rfl : ad316 = ad323 := (by injection e323); obtain ⟨ce323, hce323, hMe323, hcc323⟩ := Kd.N_get HO_3.out z34 t311 p323 (by first | exact q323 | exact of_decide_eq_true (by first | (with_reducible assumption) | assumption) | (have e_ := (Kd.N_reads' HO_3.out).1; omega)); obtain ⟨ua323_1, uc323_1, rfl, ul323_1, ge323_1⟩ := k34_openF hMe323; have hv323_1 := hcc323 1 _ rfl; rw [add_field _ _ 1 (by omega)] at hv323_1; replace hv323_1 := Option.some.inj (hv323_1.symm.trans hx323_1); injection hv323_1 with hva_ hvn_ hvc_; rw [hva_] at ge323_1; rw [hvc_] at ul323_1; have HL323_1 := mk_ (show Kd.V k29 29 _ w.heap.size _ _ ((rd_T34 t308 t311).f1) from Kd.V_mk ul323_1 ge323_1); clear hva_ hvn_ hvc_ ge323_1 ul323_1; clear hcc323 hce323; have HR323_1 := mk_ hi323_1; have HC323_1 := mk_ hl323_1; clear hi323_1 hl323_1; replace p323 := eq_true p323; replace q323 := eq_true q323; obtain ⟨_, _, _, _, _, _, _, _⟩ := cells4_ BK322.out))
    go_ret
    exact ⟨by first | rfl | (simp [errW_none, errW_some] <;> rfl) | (simp [*, errW_none, errW_some] <;> rfl), us_ HB.out⟩
   rw [if_pos c31] at H
   have c31b0 : decide (t313 ≤ t320) = true := decide_eq_true c31
   clear c31
   replace H := Option.bind_eq_some_iff.mp H
   obtain ⟨t325, A320, H⟩ := H
   replace H : (some t325) = some r := H
   have A32 := mk_ A320
   clear A320
   obtain rfl := Option.some.inj H
   have p316 : 0 ≤ (t311 : Int) := of_decide_eq_true (by first | (with_reducible assumption) | assumption)
   have q316 : t311 < (t308.length : Int) := of_decide_eq_true (by first | (with_reducible assumption) | assumption)
   obtain ⟨ad316, A316_1, c316_1, e316, hx316_0, hx316_1, hl316_1, hi316_1⟩ := at_T34 (Kd.N_reads' HO_3.out).2.2 t311 p316 q316
   cases e316
   obtain ⟨ce316, hce316, hMe316, hcc316⟩ := Kd.N_get HO_3.out z34 t311 p316 (by first | exact q316 | exact of_decide_eq_true (by first | (with_reducible assumption) | assumption) | (have e_ := (Kd.N_reads' HO_3.out).1; omega))
   obtain ⟨ua316_1, uc316_1, rfl, ul316_1, ge316_1⟩ := k34_openF hMe316
   have hv316_1 := hcc316 1 _ rfl
   rw [add_field _ _ 1 (by omega)] at hv316_1
   replace hv316_1 := Option.some.inj (hv316_1.symm.trans hx316_1)
   injection hv316_1 with hva_ hvn_ hvc_
   rw [hva_] at ge316_1
   rw [hvc_] at ul316_1
   have HL316_1 := mk_ (show Kd.V k29 29 _ w.heap.size _ _ ((rd_T34 t308 t311).f1) from Kd.V_mk ul316_1 ge316_1)
   clear hva_ hvn_ hvc_ ge316_1 ul316_1
   clear hcc316 hce316
   have HR316_1 := mk_ hi316_1
   have HC316_1 := mk_ hl316_1
   clear hi316_1 hl316_1
   replace p316 := eq_true p316
   replace q316 := eq_true q316
   go_wp2_with (first | ((with_reducible refine gate_callee (f := 14) rfl ?_); refine goesL_ (some 46) rfl rfl Try.func14 (by kernel_rfl) rfl #[.slice A316_1 ((rd_T34 t308 t311).f1).length c316_1, .int .i64 t312] rfl (by (try simp only [lm_, lo_, ln_]); try rfl) ?_; (with_reducible refine (impl_RouteTo.calls kj4 _ _ ((rd_T34 t308 t311).f1) t312 t317 t318 t319 t320 true _ ?side1 ?side2 A21.out).mono ?_); (case side1 => repeat (first | exact (by repeat (first | (with_reducible exact HR316_1.out) | (with_reducible refine Kd.C_alloc ?_ _) | (with_reducible refine Kd.C_drewN ?_ _) | (with_reducible refine Kd.C_drew ?_) | exact HR316_1.out)) | (with_reducible refine Kd.C_alloc ?_ _) | (with_reducible refine Kd.C_drewN ?_ _) | (with_reducible refine Kd.C_drew ?_))); (case side2 => exact HC316_1.out); rintro e w33 ⟨rfl, hb⟩; refine ⟨_, rfl, ?_⟩; replace HO_3 := mk_ (Kd.N_below (by (with_reducible repeat (first | apply Kd.N_alloc | apply Kd.N_drewN | apply Kd.N_drew)); exact HO_3.out) hb); replace HL316_1 := mk_ (Kd.V_below (by (with_reducible repeat (first | apply Kd.V_alloc | apply Kd.V_drewN | apply Kd.V_drew)); exact HL316_1.out) hb); replace HR316_1 := mk_ (Kd.C_below (by repeat (first | (with_reducible exact HR316_1.out) | (with_reducible refine Kd.C_alloc ?_ _) | (with_reducible refine Kd.C_drewN ?_ _) | (with_reducible refine Kd.C_drew ?_) | exact HR316_1.out)) hb); replace HB := mk_ (below_step (ub_ HB.out) hb)) | ((with_reducible refine gate_dst (N := 7) rfl ?_); refine box_event ?hg (N := 7) ?hd (cs := #[.int .i64 0, .int .i64 0, .int .i64 0, .int .i64 0]) (t := 29) ?hr ?_; (case hd => rfl); (case hg => rfl); (case hr => first | (go_simp; done) | (go_simp; rfl)); intro gb322 hg w34 hbox hb; replace HO_3 := mk_ (Kd.N_below (Kd.N_elderB (by (with_reducible repeat (first | apply Kd.N_alloc | apply Kd.N_drewN | apply Kd.N_drew)); exact HO_3.out) gb322 (Nat.le_of_eq hg.symm)) hb); replace HL316_1 := mk_ (Kd.V_below (Kd.V_elderB (by (with_reducible repeat (first | apply Kd.V_alloc | apply Kd.V_drewN | apply Kd.V_drew)); exact HL316_1.out) gb322 (Nat.le_of_eq hg.symm)) hb); replace HR316_1 := mk_ (Kd.C_below (by repeat (first | (with_reducible exact HR316_1.out) | (with_reducible refine Kd.C_alloc ?_ _) | (with_reducible refine Kd.C_drewN ?_ _) | (with_reducible refine Kd.C_drew ?_) | exact HR316_1.out)) hb); have n3_ := mk_ (below_step (ub_ HB.out) hb); have BK322 := mk_ (hbox); have GW322 := mk_ ((by rw [hg]; exact (below_size (ub_ HB.out)) : w.heap.size ≤ gb322)); have GE322 := ge_ ((by rw [hg]; exact (below_size (ub_ HB.out)) : w.heap.size ≤ gb322)); replace HB := n3_; clear n3_; clear hb hbox hg; obtain ⟨_, _, _, _, _, _, _, _⟩ := cells4_ BK322.out) | ((with_reducible refine gate_store (t := 29) (p := 7) rfl ?_); refine store_event (t := 29) (p := 7) (v := ?_) (w1 := ?_) ?hg ?ho ?hn ?hr ?_; (case ho => rfl); (case hg => rfl); (case hn => rfl); (case hr => first | (go_simp; done) | (go_simp; rfl)); intro w36 hw; have n0_ : Aside0 (Kd.N k34 34 w36 w.heap.size (fun k_ => k_ ≠ gb322) (.slice (some ad316) t308.length co7) t308) := ⟨(by rw [hw]; exact (by (with_reducible repeat (first | apply Kd.N_alloc | apply Kd.N_drewN | apply Kd.N_drew)); exact Kd.N_mono (Kd.N_far (p := ⟨gb322, 3, none⟩) (Kd.N_far (p := ⟨gb322, 2, none⟩) (Kd.N_far (p := ⟨gb322, 1, none⟩) (Kd.N_far (p := ⟨gb322, 0, none⟩) (Kd.N_mono HO_3.out (fun k_ hk => (⟨hk, hk.2⟩ : _ ∧ k_ ≠ gb322))) (fun _ hk => hk.2) (.int .i64 t317)) (fun _ hk => hk.2) (.int .i64 t318)) (fun _ hk => hk.2) (.int .i64 t319)) (fun _ hk => hk.2) (.int .i64 t320)) (fun _ hk => hk.1.2)))⟩; have n1_ : Aside0 (Kd.V k29 29 w36 w.heap.size (fun k_ => some k_ ≠ (.slice (some ad316) t308.length co7 : Value).ownBlock ∧ k_ ≠ gb322) (.slice A316_1 ((rd_T34 t308 t311).f1).length c316_1) ((rd_T34 t308 t311).f1)) := ⟨(by rw [hw]; exact (by (with_reducible repeat (first | apply Kd.V_alloc | apply Kd.V_drewN | apply Kd.V_drew)); exact Kd.V_mono (Kd.V_far (p := ⟨gb322, 3, none⟩) (Kd.V_far (p := ⟨gb322, 2, none⟩) (Kd.V_far (p := ⟨gb322, 1, none⟩) (Kd.V_far (p := ⟨gb322, 0, none⟩) (Kd.V_mono HL316_1.out (fun k_ hk => (⟨hk, hk.2⟩ : _ ∧ k_ ≠ gb322))) (fun _ hk => hk.2) (.int .i64 t317)) (fun _ hk => hk.2) (.int .i64 t318)) (fun _ hk => hk.2) (.int .i64 t319)) (fun _ hk => hk.2) (.int .i64 t320)) (fun _ hk => by first | exact ⟨hk.1.1.2, hk.1.2⟩ | exact hk.1 | exact hk | exact ⟨hk.1, hk.2⟩ | exact ⟨.inr hk.1, hk.2⟩ | simp only [hk, ne_eq, not_false_eq_true, and_self])))⟩; have n2_ : Aside0 (w36.heap[gb322]? = some (.cells #[.int .i64 t317, .int .i64 t318, .int .i64 t319, .int .i64 t320] 29 (0, 0))) := ⟨(by rw [hw]; exact (by (with_reducible repeat (first | refine bn_ ?_ _ | refine bw_ ?_ | refine ba_ ?_ _)); refine blk_put (cs := #[.int .i64 t317, .int .i64 t318, .int .i64 t319, .int .i64 0]) ?_ 3 _ rfl; (with_reducible repeat (first | refine bn_ ?_ _ | refine bw_ ?_ | refine ba_ ?_ _)); refine blk_put (cs := #[.int .i64 t317, .int .i64 t318, .int .i64 0, .int .i64 0]) ?_ 2 _ rfl; (with_reducible repeat (first | refine bn_ ?_ _ | refine bw_ ?_ | refine ba_ ?_ _)); refine blk_put (cs := #[.int .i64 t317, .int .i64 0, .int .i64 0, .int .i64 0]) ?_ 1 _ rfl; (with_reducible repeat (first | refine bn_ ?_ _ | refine bw_ ?_ | refine ba_ ?_ _)); refine blk_put (cs := #[.int .i64 0, .int .i64 0, .int .i64 0, .int .i64 0]) ?_ 0 _ rfl; (with_reducible repeat (first | refine bn_ ?_ _ | refine bw_ ?_ | refine ba_ ?_ _)); exact BK322.out))⟩; have n3_ : Aside0 (Below w.heap.size w w36) := ⟨(by rw [hw]; exact (us_ HB.out))⟩; clear hw; clear HO_3; clear HL316_1; clear BK322; clear HB; have HO_3 := n0_; have HL316_1 := n1_; have BK322 := n2_; have HB := n3_; clear n0_ n1_ n2_ n3_; have p323 : 0 ≤ (t311 : Int) := of_decide_eq_true (by first | (with_reducible assumption) | assumption); have q323 : t311 < (t308.length : Int) := of_decide_eq_true (by first | (with_reducible assumption) | assumption); obtain ⟨ad323, A323_1, c323_1, e323, hx323_0, hx323_1, hl323_1, hi323_1⟩ := at_T34 (Kd.N_reads' HO_3.out).2.2 t311 p323 q323; obtain rfl : ad316 = ad323 := (by injection e323); obtain ⟨ce323, hce323, hMe323, hcc323⟩ := Kd.N_get HO_3.out z34 t311 p323 (by first | exact q323 | exact of_decide_eq_true (by first | (with_reducible assumption) | assumption) | (have e_ := (Kd.N_reads' HO_3.out).1; omega)); obtain ⟨ua323_1, uc323_1, rfl, ul323_1, ge323_1⟩ := k34_openF hMe323; have hv323_1 := hcc323 1 _ rfl; rw [add_field _ _ 1 (by omega)] at hv323_1; replace hv323_1 := Option.some.inj (hv323_1.symm.trans hx323_1); injection hv323_1 with hva_ hvn_ hvc_; rw [hva_] at ge323_1; rw [hvc_] at ul323_1; have HL323_1 := mk_ (show Kd.V k29 29 _ w.heap.size _ _ ((rd_T34 t308 t311).f1) from Kd.V_mk ul323_1 ge323_1); clear hva_ hvn_ hvc_ ge323_1 ul323_1; clear hcc323 hce323; have HR323_1 := mk_ hi323_1; have HC323_1 := mk_ hl323_1; clear hi323_1 hl323_1; replace p323 := eq_true p323; replace q323 := eq_true q323; obtain ⟨_, _, _, _, _, _, _, _⟩ := cells4_ BK322.out) | (go_at_call 13; (with_reducible refine (laws_alive.calls kj4  t325 _ A32.out).mono ?_); rintro e w38 ⟨rfl, hb⟩; replace HO_3 := mk_ (Kd.N_below (by (with_reducible repeat (first | apply Kd.N_alloc | apply Kd.N_drewN | apply Kd.N_drew)); exact HO_3.out) hb); replace HL316_1 := mk_ (Kd.V_below (by (with_reducible repeat (first | apply Kd.V_alloc | apply Kd.V_drewN | apply Kd.V_drew)); exact HL316_1.out) hb); replace BK322 := mk_ (blk_below (u_ BK322.out) hb); replace HB := mk_ (below_step (us_ HB.out) hb)))
   go_ret
   exact ⟨by first | rfl | (simp [errW_none, errW_some] <;> rfl) | (simp [*, errW_none, errW_some] <;> rfl), us_ HB.out⟩

/-- THE ONE PURE STATEMENT of laws_FnPathRoom: yours. -/
def laws_FnPathRoom.Pure : Prop := ∀ (l0 : List Int), l0.length ≤ maxLen → l0.length * 1 ≤ 140737488351232 → (∀ x ∈ l0, (Lit.int .u8 x).wf = true) → ∃ k, laws_FnPathRoom.f k l0 = some true
theorem laws_FnPathRoom.walk (P : laws_FnPathRoom.Pure) (a0 : Option Addr) (len0 cap0 : Nat) (z0 : List Int) (w : World) (w0 : (a0 = none ∧ len0 = 0 ∧ cap0 = 0 ∧ z0 = []) ∨ ∃ x, a0 = some x ∧ len0 ≤ cap0 ∧ cap0 ≤ maxLen ∧ z0.length = cap0 ∧ (∀ i, i < z0.length → w.cell? (x.add i) = some (.int .u8 (z0.getD i 0))) ∧ ∀ n ∈ z0, (Lit.int .u8 n).wf = true) (y0 : len0 * 1 ≤ 140737488351232) :
  Calls Try.prog 3 #[.slice a0 len0 cap0] w fun e w' => e = .returned (.bool true) ∧ Below w.heap.size w w' := by
 obtain ⟨l0, rfl, hr0, hm0, hw0, hc0⟩ := ReadsInt.ofRowC w0
 obtain ⟨k, h⟩ := P l0 hm0 y0 hw0
 refine (laws_FnPathRoom.calls k _ _ l0 true w (Kd.C_of_reads (d := (0 : Int)) (h1 := fun _ => rfl) hr0) hc0 h).mono ?_
 rintro e w' ⟨rfl, hd⟩
 exact ⟨rfl, hd⟩

end Go.Proofs.Ytkkibccnpkbbjab.MFnPathRoom
