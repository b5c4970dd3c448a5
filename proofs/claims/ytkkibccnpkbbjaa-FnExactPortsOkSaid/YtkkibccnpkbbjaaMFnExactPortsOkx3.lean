/- Functions that the law FnExactPortsOk reaches, each with the proof that the machine's call comes to just its answer; no conditions but those that each theorem states. Printed by a program of this session over the kit's print. -/
import Derived.Test.YtkkibccnpkbbjaaMFnExactPortsOkx0
namespace Go.Proofs.Ytkkibccnpkbbjaa.MFnExactPortsOk
open Go.RowKit Go.Proofs.YtkkibccnpkbbjaaV.PrintWords Go.Proofs.YtkkibccnpkbbjaaV.PrintLast Go.Proofs.YtkkibccnpkbbjaaV.PrintMore
attribute [local go_sem] max2_int min2_int max_two min_two max_three min_three max_four min_four   -- for this text's walks alone
set_option linter.unusedVariables false
set_option linter.unusedSimpArgs false

/-! ### laws_toByteS: function 66 -/
def laws_toByteS.l0 : Nat → List Int → List Int → Int → Option (List Int)
 | 0, _, _, _ => none
 | k + 1, x0, x3, x4 => if x4 < (x0.length : Int) then (if 0 ≤ x4 then (if x4 < (x3.length : Int) then (laws_toByteS.l0 k x0 (x3.set (x4 : Int).toNat (rd x0 x4)) (wrap64 (x4 + 1))) else (none)) else (none)) else (some x3)
def laws_toByteS.f (k : Nat) (l0 : List Int) : Option (List Int) := if 0 ≤ (l0.length : Int) then (if ((l0.length : Int) : Int).toNat ≤ 281474976710656 then (laws_toByteS.l0 k l0 (List.replicate ((l0.length : Int) : Int).toNat 0) 0) else (none)) else (none)
theorem laws_toByteS.mono_l : ∀ k, (∀ y0 y1 y2, LeO (laws_toByteS.l0 k y0 y1 y2) (laws_toByteS.l0 (k + 1) y0 y1 y2))
 | 0 => fun _ _ _ r h => by simp [laws_toByteS.l0] at h
 | k + 1 => by
  have ih0 := laws_toByteS.mono_l k
  ·intro y0 y1 y2
   unfold laws_toByteS.l0
   repeat' first
   | (with_reducible exact ih0 _ _ _)
   | (with_reducible exact LeO.refl _)
   | (with_reducible exact LeO.none _)
   | (with_reducible refine LeO.ite ?_ ?_)
   | (with_reducible refine LeO.bind ?_ (fun _ => ?_))
   | exact ih0 _ _ _
   | exact LeO.none _
   | refine LeO.ite ?_ ?_
   | refine LeO.bind ?_ (fun _ => ?_)
theorem laws_toByteS.mono : ∀ a0 k, LeO (laws_toByteS.f k a0) (laws_toByteS.f (k + 1) a0) := by
 intro a0 k
 have ih0 := laws_toByteS.mono_l k
 unfold laws_toByteS.f
 repeat' first
   | (with_reducible exact ih0 _ _ _)
   | (with_reducible exact LeO.refl _)
   | (with_reducible exact LeO.none _)
   | (with_reducible refine LeO.ite ?_ ?_)
   | (with_reducible refine LeO.bind ?_ (fun _ => ?_))
   | exact ih0 _ _ _
   | exact LeO.none _
   | refine LeO.ite ?_ ?_
   | refine LeO.bind ?_ (fun _ => ?_)
set_option maxHeartbeats 8000000 in
set_option maxRecDepth 100000 in
theorem laws_toByteS.calls (k : Nat) (A0 : Option Addr) (c0 : Nat) (l0 : List Int) (r : List Int) (w : World) (hr0 : Kd.C (Kd.int .u8) w A0 l0.length l0) (hc0 : l0.length ≤ c0) (h : laws_toByteS.f k l0 = some r) :
  Calls Try.prog 66 #[.slice A0 l0.length c0] w fun e w' => ∃ v0_ : Value, e = .returned (v0_) ∧ Kd.R (Kd.int .u8) 5 w' w.heap.size (fun _ => True) v0_ r ∧ Below w.heap.size w w' := by
 have HR0 := mk_ hr0
 have HC0 := mk_ hc0
 clear hr0 hc0
 have HB := mk_ (Below.refl w.heap.size w)
 have H := h
 unfold laws_toByteS.f at H
 clear h
 by_cases c2 : 0 ≤ (l0.length : Int)
 rotate_left
 ·rw [if_neg c2] at H
  exact absurd H (by simp)
 rw [if_pos c2] at H
 have c2b0 := eq_true c2
 have c2b1 : decide (0 ≤ (l0.length : Int)) = true := decide_eq_true c2
 clear c2
 by_cases c3 : ((l0.length : Int) : Int).toNat ≤ 281474976710656
 rotate_left
 ·rw [if_neg c3] at H
  exact absurd H (by simp)
 rw [if_pos c3] at H
 have c3b0 := eq_true c3
 have c3b1 : decide (((l0.length : Int) : Int).toNat ≤ 281474976710656) = true := decide_eq_true c3
 clear c3
 obtain ⟨y126, hy126⟩ : ∃ y_ : List Int, y_ = (List.replicate ((l0.length : Int) : Int).toNat 0) := ⟨_, rfl⟩
 replace H : (laws_toByteS.l0 k l0 y126 0) = some r := by first | (rw [hy126]; with_reducible exact H) | (have H2_ := (Option.bind_some _ _).symm.trans H; rw [hy126]; with_reducible exact H2_) | (have H2_ := (Option.bind_some _ _).symm.trans H; with_reducible exact H2_) | with_reducible exact H | (rw [hy126]; exact H) | exact H
 have Ny126 := mk_ hy126
 clear hy126
 have H' := mk_ H
 clear H
 go_enter Try.func66, Try.ntmps66
 go_wp2_with (first | ((with_reducible refine gate_dst (N := 7) rfl ?_); refine Kd.R_make (Kd.int .u8) _ 5 rfl (N := 7) rfl 29 _ _ rfl (l0.length : Int) rfl rfl Try.underlying29 (.int .u8 0) 1 info5 rfl (by decide) (by omega) 0 (ok := fun _ => True) (okp := fun _ => True) rfl (fun _ hk => hk) trivial (of_decide_eq_true (by first | (with_reducible assumption) | assumption)) (Nat.le_trans (Nat.mul_le_mul_right _ (of_decide_eq_true (by first | (with_reducible assumption) | assumption) : (l0.length : Int).toNat ≤ 281474976710656)) (by omega)) (Below.refl _ _) (Nat.le_refl _) ?_; intro v127 w4 ho5 hb hg_ hnew_; clear hg_ hnew_; (first | rw [← Ny126.out] at ho5 | (simp only [Int.reduceToNat] at ho5; rw [← Ny126.out] at ho5)); have HO128 := mk_ (Kd.R_lower ho5 (below_size (ub_ HB.out))); replace HB := mk_ (below_step (ub_ HB.out) hb); clear hb ho5))
 go_loopg [4] k (fun kq v4 w' => ∃ (x3_1 : List Int) (x4_1 : Int), v4 = .int .i64 x4_1 ∧ Aside0 (laws_toByteS.l0 kq l0 x3_1 x4_1 = some r) ∧ Aside0 (kq ≤ k) ∧ Aside0 (Kd.R (Kd.int .u8) 5 w' w.heap.size (fun _ => True) v127 x3_1) ∧ Aside0 (Below w.heap.size w w'))
 case atStart => exact ⟨(y126), (0), (by first | rfl | (simp; done) | (simp [*]; done)), H', ⟨Nat.le_refl _⟩, ⟨Kd.ur_ HO128.out⟩, ⟨ub_ HB.out⟩⟩
 case round =>
  clear H'
  try clear c2
  try clear c2b0
  try clear c2b1
  try clear p2
  try clear c3
  try clear c3b0
  try clear c3b1
  obtain ⟨x3_1, x4_1, rfl, HA, HK1, HO_3, HB⟩ := hrel
  cases gk with
  | zero => exact absurd HA.out (by simp [laws_toByteS.l0])
  | succ k1 =>
   have H := HA.out
   clear HA
   simp only [laws_toByteS.l0] at H
   by_cases c6 : x4_1 < (l0.length : Int)
   rotate_left
   ·rw [if_neg c6] at H
    have c6b0 : decide (x4_1 < (l0.length : Int)) = false := decide_eq_false c6
    clear c6
    obtain rfl := Option.some.inj H
    go_wp2
    go_ret
    exact ⟨_, by first | rfl | (simp [errW_none, errW_some] <;> rfl) | (simp [*, errW_none, errW_some] <;> rfl), by (with_reducible repeat (first | apply Kd.R_alloc | apply Kd.R_drewN | apply Kd.R_drew)); exact HO_3.out, by repeat (first | (with_reducible first | exact HB.out | apply na_ | apply nn_ | apply nw_) | exact HB.out)⟩
   rw [if_pos c6] at H
   have c6b0 : decide (x4_1 < (l0.length : Int)) = true := decide_eq_true c6
   clear c6
   by_cases c7 : 0 ≤ x4_1
   rotate_left
   ·rw [if_neg c7] at H
    exact absurd H (by simp)
   rw [if_pos c7] at H
   have c7b0 : decide (0 ≤ x4_1) = true := decide_eq_true c7
   clear c7
   by_cases c8 : x4_1 < (x3_1.length : Int)
   rotate_left
   ·rw [if_neg c8] at H
    exact absurd H (by simp)
   rw [if_pos c8] at H
   have c8b0 : decide (x4_1 < (x3_1.length : Int)) = true := decide_eq_true c8
   clear c8
   obtain ⟨y130, hy130⟩ : ∃ y_ : List Int, y_ = (x3_1.set (x4_1 : Int).toNat (rd l0 x4_1)) := ⟨_, rfl⟩
   replace H : (laws_toByteS.l0 k1 l0 y130 (wrap64 (x4_1 + 1))) = some r := by first | (rw [hy130]; with_reducible exact H) | (have H2_ := (Option.bind_some _ _).symm.trans H; rw [hy130]; with_reducible exact H2_) | (have H2_ := (Option.bind_some _ _).symm.trans H; with_reducible exact H2_) | with_reducible exact H | (rw [hy130]; exact H) | exact H
   have Ny130 := mk_ hy130
   clear hy130
   have H' := mk_ H
   clear H
   have p129 : 0 ≤ (x4_1 : Int) := of_decide_eq_true (by first | (with_reducible assumption) | assumption)
   have q129 : x4_1 < (l0.length : Int) := of_decide_eq_true (by first | (with_reducible assumption) | assumption)
   obtain ⟨ad129, e129, hx129_0⟩ := Kd.at_int HR0.out x4_1 p129 q129
   cases e129
   replace hx129_0 := (HB.out.cell (lc_ w _ hx129_0)).trans hx129_0
   replace p129 := eq_true p129
   replace q129 := eq_true q129
   have p9 : 0 ≤ (x4_1 : Int) := of_decide_eq_true (by first | (with_reducible assumption) | assumption)
   have q9 : (x4_1 : Int) < ((x3_1.length : Int) : Int) := of_decide_eq_true (by first | (with_reducible assumption) | assumption)
   obtain ⟨go9, co9, eo9, gb9, gl9, cl9, HG9⟩ := Kd.R_form HO_3.out (by omega)
   (first | cases eo9 | (injection eo9 with ea_ en_ ec_; (first | subst ea_ | (injection ea_ with ea_; subst ea_)); subst ec_; clear en_))
   have GB9 := mk_ gb9
   have GG9 := mk_ HG9
   clear gb9 gl9 HG9
   obtain ⟨hx9_0, hf9_0⟩ := Kd.R_celln 0 HO_3.out (x4_1 : Int) p9 q9
   replace p9 := eq_true p9
   replace q9 := eq_true q9
   have HP10 := Kd.R_putg HO_3.out (x4_1 : Int) (rd l0 x4_1)
   go_wp2_with (first | ((with_reducible refine gate_store (t := 5) (p := 20) rfl ?_); refine store_event (t := 5) (p := 20) (v := ?_) (w1 := (wr.setCell ⟨go9, (x4_1 : Int).toNat, none⟩ (.int .u8 (rd l0 x4_1)))) ?hg ?ho ?hn ?hr ?_; (case ho => rfl); (case hg => rfl); (case hn => rfl); (case hr => first | (go_simp; done) | (go_simp; rfl)); intro w11 hw; have hg : wr.grownBy w11 (some go9) := (by rw [hw]; exact HP10.2); have hp_ : Kd.R (Kd.int .u8) 5 w11 w.heap.size (fun _ => True) (.slice (some ⟨go9, 0, none⟩) x3_1.length co9) y130 := (by rw [hw, Ny130.out]; exact HP10.1); clear HP10; replace HO_3 := mk_ (hp_); replace HB := mk_ ((by rw [hw]; exact below_set (HB.out) GB9.out : Below w.heap.size w w11)); clear hg hw hp_))
   go_roundg k1
   case measure => have := HK1.out; omega
   case rel => exact ⟨(y130), (wrap64 (x4_1 + 1)), (by first | rfl | (simp; done) | (simp [*]; done)), H', ⟨by have := HK1.out; omega⟩, ⟨Kd.ur_ HO_3.out⟩, ⟨ub_ HB.out⟩⟩

/-! ### laws_toMail: function 98 -/
def laws_toMail.f (k : Nat) (a0_0 : Int) (a0_1 : Int) (a0_2 : Int) (l0_3 : List Int) : Option (Int × Int × Int × List Int) := (laws_toByteS.f k l0_3).bind fun t134 => (some (a0_0, a0_1, a0_2, t134))
theorem laws_toMail.mono : ∀ a0 a1 a2 a3 k, LeO (laws_toMail.f k a0 a1 a2 a3) (laws_toMail.f (k + 1) a0 a1 a2 a3) := by
 intro a0 a1 a2 a3 k
 unfold laws_toMail.f
 repeat' first
   | (with_reducible exact laws_toByteS.mono _ _)
   | (with_reducible exact LeO.refl _)
   | (with_reducible exact LeO.none _)
   | (with_reducible refine LeO.ite ?_ ?_)
   | (with_reducible refine LeO.bind ?_ (fun _ => ?_))
   | exact laws_toByteS.mono _ _
   | exact LeO.none _
   | refine LeO.ite ?_ ?_
   | refine LeO.bind ?_ (fun _ => ?_)
set_option maxHeartbeats 8000000 in
set_option maxRecDepth 100000 in
theorem laws_toMail.calls (k : Nat) (a0_0 : Int) (a0_1 : Int) (a0_2 : Int) (A0_3 : Option Addr) (c0_3 : Nat) (l0_3 : List Int) (r1 : Int) (r2 : Int) (r3 : Int) (r4 : List Int) (w : World) (hr0_3 : Kd.C (Kd.int .u8) w A0_3 l0_3.length l0_3) (hc0_3 : l0_3.length ≤ c0_3) (h : laws_toMail.f k a0_0 a0_1 a0_2 l0_3 = some (r1, r2, r3, r4)) :
  Calls Try.prog 98 #[.agg #[.int .i64 a0_0, .int .i64 a0_1, .int .i64 a0_2, .slice A0_3 l0_3.length c0_3]] w fun e w' => ∃ v3_ : Value, e = .returned (.agg #[.int .i64 r1, .int .i64 r2, .int .i64 r3, v3_]) ∧ Kd.R (Kd.int .u8) 5 w' w.heap.size (fun _ => True) v3_ r4 ∧ Below w.heap.size w w' := by
 have hu105 := Try.underlying105
 have hu40 := Try.underlying40
 have HR0_3 := mk_ hr0_3
 have HC0_3 := mk_ hc0_3
 clear hr0_3 hc0_3
 have HB := mk_ (Below.refl w.heap.size w)
 have H := h
 unfold laws_toMail.f at H
 clear h
 replace H := Option.bind_eq_some_iff.mp H
 obtain ⟨t134, A20, H⟩ := H
 replace H : (some (a0_0, a0_1, a0_2, t134)) = some (r1, r2, r3, r4) := H
 have A2 := mk_ A20
 clear A20
 simp only [Option.some.injEq, Prod.mk.injEq] at H
 obtain ⟨rfl, rfl, rfl, rfl⟩ := H
 go_enter Try.func98, Try.ntmps98
 go_wp2_with (first | ((with_reducible refine gate_dst (N := 1) rfl ?_); refine box_event ?hg (N := 1) ?hd (cs := #[.int .i64 a0_0, .int .i64 a0_1, .int .i64 a0_2, .slice A0_3 l0_3.length c0_3]) (t := 105) ?hr ?_; (case hd => rfl); (case hg => rfl); (case hr => first | (go_simp; done) | (go_simp; rfl)); intro gb131 hg w3 hbox hb; have n0_ := mk_ (below_step (ub_ HB.out) hb); have BK131 := mk_ (hbox); have GW131 := mk_ ((by rw [hg]; exact (below_size (ub_ HB.out)) : w.heap.size ≤ gb131)); have GE131 := ge_ ((by rw [hg]; exact (below_size (ub_ HB.out)) : w.heap.size ≤ gb131)); replace HB := n0_; clear n0_; clear hb hbox hg) | ((with_reducible refine gate_dst (N := 2) rfl ?_); refine box_event ?hg (N := 2) ?hd (cs := #[.int .i64 0, .int .i64 0, .int .i64 0, .slice none 0 0]) (t := 40) ?hr ?_; (case hd => rfl); (case hg => rfl); (case hr => first | (go_simp; done) | (go_simp; rfl)); intro gb132 hg w4 hbox hb; have n0_ := mk_ (blk_below (u_ BK131.out) hb); have n1_ := mk_ (below_step (us_ HB.out) hb); have BK132 := mk_ (hbox); have GW132 := mk_ ((by rw [hg]; exact (below_size (us_ HB.out)) : w.heap.size ≤ gb132)); have GE132 := ge_ ((by rw [hg]; exact (below_size (us_ HB.out)) : w.heap.size ≤ gb132)); have NB131_132 := nq_ ((by rw [hg]; exact Nat.ne_of_lt (blk_lt (u_ BK131.out)) : gb131 ≠ gb132)); have NB132_131 := nq_ ((by rw [hg]; exact Nat.ne_of_gt (blk_lt (u_ BK131.out)) : gb132 ≠ gb131)); replace BK131 := n0_; replace HB := n1_; clear n0_ n1_; clear hb hbox hg) | ((with_reducible refine gate_dst (N := 3) rfl ?_); refine box_event ?hg (N := 3) ?hd (cs := #[.int .i64 0, .int .i64 0, .int .i64 0, .slice none 0 0]) (t := 40) ?hr ?_; (case hd => rfl); (case hg => rfl); (case hr => first | (go_simp; done) | (go_simp; rfl)); intro gb133 hg w5 hbox hb; have n0_ := mk_ (blk_below (u_ BK131.out) hb); have n1_ := mk_ (blk_below (u_ BK132.out) hb); have n2_ := mk_ (below_step (us_ HB.out) hb); have BK133 := mk_ (hbox); have GW133 := mk_ ((by rw [hg]; exact (below_size (us_ HB.out)) : w.heap.size ≤ gb133)); have GE133 := ge_ ((by rw [hg]; exact (below_size (us_ HB.out)) : w.heap.size ≤ gb133)); have NB131_133 := nq_ ((by rw [hg]; exact Nat.ne_of_lt (blk_lt (u_ BK131.out)) : gb131 ≠ gb133)); have NB133_131 := nq_ ((by rw [hg]; exact Nat.ne_of_gt (blk_lt (u_ BK131.out)) : gb133 ≠ gb131)); have NB132_133 := nq_ ((by rw [hg]; exact Nat.ne_of_lt (blk_lt (u_ BK132.out)) : gb132 ≠ gb133)); have NB133_132 := nq_ ((by rw [hg]; exact Nat.ne_of_gt (blk_lt (u_ BK132.out)) : gb133 ≠ gb132)); replace BK131 := n0_; replace BK132 := n1_; replace HB := n2_; clear n0_ n1_ n2_; clear hb hbox hg; have hnb6 := NB131_132.out; have hnc6 := NB132_131.out; have hnb7 := NB131_133.out; have hnc7 := NB133_131.out; obtain ⟨hcz8_0, hcz8_1, _, _, hfz8_0, hfz8_1, _, _⟩ := cells4_ BK131.out; have hnb9 := NB133_132.out; have hnc9 := NB132_133.out; obtain ⟨hcz10_0, hcz10_1, _, _, hfz10_0, hfz10_1, _, _⟩ := cells4_ BK133.out) | ((with_reducible refine gate_callee (f := 66) rfl ?_); refine goesL_ (some 15) rfl rfl Try.func66 (by kernel_rfl) rfl #[.slice A0_3 l0_3.length c0_3] rfl (by (try simp only [lm_, lo_, ln_]); try rfl) ?_; (with_reducible refine (laws_toByteS.calls k _ _ l0_3 t134 _ ?side1 ?side2 A2.out).mono ?_); (case side1 => exact Kd.C_below HR0_3.out (us_ HB.out)); (case side2 => exact HC0_3.out); rintro e w11 ⟨v135, rfl, ho0, hb⟩; refine ⟨_, rfl, ?_⟩; have HO136 := mk_ (Kd.R_lower ho0 (below_size (us_ HB.out))); replace BK131 := mk_ (blk_below (g := gb131) (o := .cells #[.int .i64 a0_0, .int .i64 a0_1, .int .i64 a0_2, .slice A0_3 l0_3.length c0_3] 105 (0, 0)) (uf_ BK131.out) hb); replace BK132 := mk_ (blk_below (g := gb132) (o := .cells #[.int .i64 0, .int .i64 0, .int .i64 0, .slice none 0 0] 40 (0, 0)) (uf_ BK132.out) hb); replace BK133 := mk_ (blk_below (g := gb133) (o := .cells #[.int .i64 a0_0, .int .i64 a0_1, .int .i64 a0_2, .slice none 0 0] 40 (0, 0)) (by (with_reducible repeat (first | refine bn_ ?_ _ | refine bw_ ?_ | refine ba_ ?_ _)); refine blk_put (cs := #[.int .i64 a0_0, .int .i64 a0_1, .int .i64 0, .slice none 0 0]) ?_ 2 _ rfl; (with_reducible repeat (first | refine bn_ ?_ _ | refine bw_ ?_ | refine ba_ ?_ _)); refine blk_put (cs := #[.int .i64 a0_0, .int .i64 0, .int .i64 0, .slice none 0 0]) ?_ 1 _ rfl; (with_reducible repeat (first | refine bn_ ?_ _ | refine bw_ ?_ | refine ba_ ?_ _)); refine blk_put (cs := #[.int .i64 0, .int .i64 0, .int .i64 0, .slice none 0 0]) ?_ 0 _ rfl; (with_reducible repeat (first | refine bn_ ?_ _ | refine bw_ ?_ | refine ba_ ?_ _)); exact BK133.out) hb); replace HB := mk_ (below_step (us_ HB.out) hb); obtain ⟨Ao12, co12, eo12⟩ := Kd.R_slice HO136.out; subst eo12; obtain ⟨hcz13_0, hcz13_1, hcz13_2, hcz13_3, hfz13_0, hfz13_1, hfz13_2, hfz13_3⟩ := cells4_ BK133.out; obtain ⟨hcz14_0, hcz14_1, _, _, hfz14_0, hfz14_1, _, _⟩ := cells4_ BK132.out))
 refine bodyPost_ret (results_cell_row rfl _ _ gb132 40 #[.int .i64 a0_0, .int .i64 a0_1, .int .i64 a0_2, .slice Ao12 t134.length co12] (0, 0) _ rfl (by (with_reducible repeat (first | refine bn_ ?_ _ | refine bw_ ?_ | refine ba_ ?_ _)); refine blk_put (cs := #[.int .i64 a0_0, .int .i64 a0_1, .int .i64 a0_2, .slice none 0 0]) ?_ 3 _ rfl; (with_reducible repeat (first | refine bn_ ?_ _ | refine bw_ ?_ | refine ba_ ?_ _)); refine blk_put (cs := #[.int .i64 a0_0, .int .i64 a0_1, .int .i64 0, .slice none 0 0]) ?_ 2 _ rfl; (with_reducible repeat (first | refine bn_ ?_ _ | refine bw_ ?_ | refine ba_ ?_ _)); refine blk_put (cs := #[.int .i64 a0_0, .int .i64 0, .int .i64 0, .slice none 0 0]) ?_ 1 _ rfl; (with_reducible repeat (first | refine bn_ ?_ _ | refine bw_ ?_ | refine ba_ ?_ _)); refine blk_put (cs := #[.int .i64 0, .int .i64 0, .int .i64 0, .slice none 0 0]) ?_ 0 _ rfl; (with_reducible repeat (first | refine bn_ ?_ _ | refine bw_ ?_ | refine ba_ ?_ _)); refine blk_far ?_ NB132_133.out _; (with_reducible repeat (first | refine bn_ ?_ _ | refine bw_ ?_ | refine ba_ ?_ _)); exact BK132.out) Try.underlying40 rfl (by kernel_rfl)) rfl ?_
 exact ⟨_, by first | rfl | (simp [errW_none, errW_some] <;> rfl) | (simp [*, errW_none, errW_some] <;> rfl), by (with_reducible repeat (first | apply Kd.R_alloc | apply Kd.R_drewN | apply Kd.R_drew)); exact Kd.R_mono (Kd.R_far (p := ⟨gb132, 3, none⟩) (Kd.R_far (p := ⟨gb132, 2, none⟩) (Kd.R_far (p := ⟨gb132, 1, none⟩) (Kd.R_far (p := ⟨gb132, 0, none⟩) (Kd.R_far (p := ⟨gb133, 3, none⟩) (Kd.R_types (Kd.R_types HO136.out BK133.out (by decide)) BK132.out (by decide)) (fun _ hk => hk.1.2) (.slice Ao12 t134.length co12)) (fun _ hk => hk.2) (.int .i64 a0_0)) (fun _ hk => hk.2) (.int .i64 a0_1)) (fun _ hk => hk.2) (.int .i64 a0_2)) (fun _ hk => hk.2) (.slice Ao12 t134.length co12)) (fun _ hk => trivial), us_ HB.out⟩

/-! ### laws_toMailS: function 75 -/
def laws_toMailS.l0 : Nat → List (S105) → List (S40) → Int → Option ((List (S40)))
 | 0, _, _, _ => none
 | k + 1, x0, x3, x4 => if x4 < (x0.length : Int) then (if 0 ≤ x4 then ((laws_toMail.f k ((rd_T105 x0 x4).f0) ((rd_T105 x0 x4).f1) ((rd_T105 x0 x4).f2) ((rd_T105 x0 x4).f3)).bind fun bt141 => (if x4 < (x3.length : Int) then (laws_toMailS.l0 k x0 (x3.set (x4 : Int).toNat (⟨bt141.1, bt141.2.1, bt141.2.2.1, bt141.2.2.2⟩ : S40)) (wrap64 (x4 + 1))) else (none))) else (none)) else (some x3)
def laws_toMailS.f (k : Nat) (l0 : List (S105)) : Option ((List (S40))) := if 0 ≤ (l0.length : Int) then (if ((l0.length : Int) : Int).toNat ≤ 5864062014805 then (laws_toMailS.l0 k l0 (List.replicate ((l0.length : Int) : Int).toNat z40) 0) else (none)) else (none)
theorem laws_toMailS.mono_l : ∀ k, (∀ y0 y1 y2, LeO (laws_toMailS.l0 k y0 y1 y2) (laws_toMailS.l0 (k + 1) y0 y1 y2))
 | 0 => fun _ _ _ r h => by simp [laws_toMailS.l0] at h
 | k + 1 => by
  have ih0 := laws_toMailS.mono_l k
  ·intro y0 y1 y2
   unfold laws_toMailS.l0
   repeat' first
   | (with_reducible exact ih0 _ _ _)
   | (with_reducible exact laws_toMail.mono _ _ _ _ _)
   | (with_reducible exact LeO.refl _)
   | (with_reducible exact LeO.none _)
   | (with_reducible refine LeO.ite ?_ ?_)
   | (with_reducible refine LeO.bind ?_ (fun _ => ?_))
   | exact ih0 _ _ _
   | exact laws_toMail.mono _ _ _ _ _
   | exact LeO.none _
   | refine LeO.ite ?_ ?_
   | refine LeO.bind ?_ (fun _ => ?_)
theorem laws_toMailS.mono : ∀ a0 k, LeO (laws_toMailS.f k a0) (laws_toMailS.f (k + 1) a0) := by
 intro a0 k
 have ih0 := laws_toMailS.mono_l k
 unfold laws_toMailS.f
 repeat' first
   | (with_reducible exact ih0 _ _ _)
   | (with_reducible exact laws_toMail.mono _ _ _ _ _)
   | (with_reducible exact LeO.refl _)
   | (with_reducible exact LeO.none _)
   | (with_reducible refine LeO.ite ?_ ?_)
   | (with_reducible refine LeO.bind ?_ (fun _ => ?_))
   | exact ih0 _ _ _
   | exact laws_toMail.mono _ _ _ _ _
   | exact LeO.none _
   | refine LeO.ite ?_ ?_
   | refine LeO.bind ?_ (fun _ => ?_)
set_option maxHeartbeats 8000000 in
set_option maxRecDepth 100000 in
theorem laws_toMailS.calls (k : Nat) (A0 : Option Addr) (c0 : Nat) (l0 : List (S105)) (r : List (S40)) (w : World) (hr0 : Kd.C k105 w A0 l0.length l0) (hc0 : l0.length ≤ c0) (h : laws_toMailS.f k l0 = some r) :
  Calls Try.prog 75 #[.slice A0 l0.length c0] w fun e w' => ∃ v0_ : Value, e = .returned (v0_) ∧ Kd.S k40 40 w' w.heap.size (fun _ => True) v0_ r ∧ Below w.heap.size w w' := by
 have hu105 := Try.underlying105
 have hu40 := Try.underlying40
 have HR0 := mk_ hr0
 have HC0 := mk_ hc0
 clear hr0 hc0
 have HB := mk_ (Below.refl w.heap.size w)
 have H := h
 unfold laws_toMailS.f at H
 clear h
 by_cases c2 : 0 ≤ (l0.length : Int)
 rotate_left
 ·rw [if_neg c2] at H
  exact absurd H (by simp)
 rw [if_pos c2] at H
 have c2b0 := eq_true c2
 have c2b1 : decide (0 ≤ (l0.length : Int)) = true := decide_eq_true c2
 clear c2
 by_cases c3 : ((l0.length : Int) : Int).toNat ≤ 5864062014805
 rotate_left
 ·rw [if_neg c3] at H
  exact absurd H (by simp)
 rw [if_pos c3] at H
 have c3b0 := eq_true c3
 have c3b1 : decide (((l0.length : Int) : Int).toNat ≤ 5864062014805) = true := decide_eq_true c3
 clear c3
 obtain ⟨y137, hy137⟩ : ∃ y_ : List (S40), y_ = (List.replicate ((l0.length : Int) : Int).toNat z40) := ⟨_, rfl⟩
 replace H : (laws_toMailS.l0 k l0 y137 0) = some r := by first | (rw [hy137]; with_reducible exact H) | (have H2_ := (Option.bind_some _ _).symm.trans H; rw [hy137]; with_reducible exact H2_) | (have H2_ := (Option.bind_some _ _).symm.trans H; with_reducible exact H2_) | with_reducible exact H | (rw [hy137]; exact H) | exact H
 have Ny137 := mk_ hy137
 clear hy137
 have H' := mk_ H
 clear H
 go_enter Try.func75, Try.ntmps75
 go_wp2_with (first | ((with_reducible refine gate_dst (N := 7) rfl ?_); refine Kd.S_make k40 _ 40 rfl (N := 7) rfl 45 _ _ rfl (l0.length : Int) rfl rfl Try.underlying45 (.agg #[(.int .i64 0), (.int .i64 0), (.int .i64 0), (.slice none 0 0)]) 48 info40 rfl (by decide) (by omega) z40 (ok := fun _ => True) (okp := fun _ => True) (k40_mkM _ _ _ z40 (Kd.R_nil _ _ _ _ _)) (fun _ hk => hk) trivial (of_decide_eq_true (by first | (with_reducible assumption) | assumption)) (Nat.le_trans (Nat.mul_le_mul_right _ (of_decide_eq_true (by first | (with_reducible assumption) | assumption) : (l0.length : Int).toNat ≤ 5864062014805)) (by omega)) (Below.refl _ _) (Nat.le_refl _) ?_; intro v138 w4 ho5 hb hg_ hnew_; clear hg_ hnew_; (first | rw [← Ny137.out] at ho5 | (simp only [Int.reduceToNat] at ho5; rw [← Ny137.out] at ho5)); have HO139 := mk_ (Kd.S_lower ho5 (below_size (ub_ HB.out))); replace HB := mk_ (below_step (ub_ HB.out) hb); clear hb ho5))
 go_loopg [4] k (fun kq v4 w' => ∃ (x3_1 : List (S40)) (x4_1 : Int), v4 = .int .i64 x4_1 ∧ Aside0 (laws_toMailS.l0 kq l0 x3_1 x4_1 = some r) ∧ Aside0 (kq ≤ k) ∧ Aside0 (Kd.S k40 40 w' w.heap.size (fun _ => True) v138 x3_1) ∧ Aside0 (Below w.heap.size w w'))
 case atStart => exact ⟨(y137), (0), (by first | rfl | (simp; done) | (simp [*]; done)), H', ⟨Nat.le_refl _⟩, ⟨by (with_reducible repeat (first | apply Kd.S_alloc | apply Kd.S_drewN | apply Kd.S_drew)); exact HO139.out⟩, ⟨ub_ HB.out⟩⟩
 case round =>
  clear H'
  try clear c2
  try clear c2b0
  try clear c2b1
  try clear p2
  try clear c3
  try clear c3b0
  try clear c3b1
  obtain ⟨x3_1, x4_1, rfl, HA, HK1, HO_3, HB⟩ := hrel
  cases gk with
  | zero => exact absurd HA.out (by simp [laws_toMailS.l0])
  | succ k1 =>
   have H := HA.out
   clear HA
   simp only [laws_toMailS.l0] at H
   by_cases c6 : x4_1 < (l0.length : Int)
   rotate_left
   ·rw [if_neg c6] at H
    have c6b0 : decide (x4_1 < (l0.length : Int)) = false := decide_eq_false c6
    clear c6
    obtain rfl := Option.some.inj H
    go_wp2
    go_ret
    exact ⟨_, by first | rfl | (simp [errW_none, errW_some] <;> rfl) | (simp [*, errW_none, errW_some] <;> rfl), by (with_reducible repeat (first | apply Kd.S_alloc | apply Kd.S_drewN | apply Kd.S_drew)); exact HO_3.out, by repeat (first | (with_reducible first | exact HB.out | apply na_ | apply nn_ | apply nw_) | exact HB.out)⟩
   rw [if_pos c6] at H
   have c6b0 : decide (x4_1 < (l0.length : Int)) = true := decide_eq_true c6
   clear c6
   by_cases c7 : 0 ≤ x4_1
   rotate_left
   ·rw [if_neg c7] at H
    exact absurd H (by simp)
   rw [if_pos c7] at H
   have c7b0 : decide (0 ≤ x4_1) = true := decide_eq_true c7
   clear c7
   replace H := Option.bind_eq_some_iff.mp H
   obtain ⟨⟨t141, t142, t143, t144⟩, A80, H⟩ := H
   (try dsimp only at H)
   have A8 := mk_ A80
   clear A80
   by_cases c9 : x4_1 < (x3_1.length : Int)
   rotate_left
   ·rw [if_neg c9] at H
    exact absurd H (by simp)
   rw [if_pos c9] at H
   have c9b0 : decide (x4_1 < (x3_1.length : Int)) = true := decide_eq_true c9
   clear c9
   obtain ⟨y147, hy147⟩ : ∃ y_ : List (S40), y_ = (x3_1.set (x4_1 : Int).toNat (⟨t141, t142, t143, t144⟩ : S40)) := ⟨_, rfl⟩
   replace H : (laws_toMailS.l0 k1 l0 y147 (wrap64 (x4_1 + 1))) = some r := by first | (rw [hy147]; with_reducible exact H) | (have H2_ := (Option.bind_some _ _).symm.trans H; rw [hy147]; with_reducible exact H2_) | (have H2_ := (Option.bind_some _ _).symm.trans H; with_reducible exact H2_) | with_reducible exact H | (rw [hy147]; exact H) | exact H
   have Ny147 := mk_ hy147
   clear hy147
   have H' := mk_ H
   clear H
   have p140 : 0 ≤ (x4_1 : Int) := of_decide_eq_true (by first | (with_reducible assumption) | assumption)
   have q140 : x4_1 < (l0.length : Int) := of_decide_eq_true (by first | (with_reducible assumption) | assumption)
   obtain ⟨ad140, A140_3, c140_3, e140, hx140_0, hx140_1, hx140_2, hx140_3, hl140_3, hi140_3⟩ := at_T105 HR0.out x4_1 p140 q140
   cases e140
   replace hx140_0 := (HB.out.cell (lc_ w _ hx140_0)).trans hx140_0
   replace hx140_1 := (HB.out.cell (lc_ w _ hx140_1)).trans hx140_1
   replace hx140_2 := (HB.out.cell (lc_ w _ hx140_2)).trans hx140_2
   replace hx140_3 := (HB.out.cell (lc_ w _ hx140_3)).trans hx140_3
   have HR140_3 := mk_ hi140_3
   have HC140_3 := mk_ hl140_3
   clear hi140_3 hl140_3
   replace p140 := eq_true p140
   replace q140 := eq_true q140
   go_wp2_with (first | ((with_reducible refine gate_callee (f := 98) rfl ?_); refine goesL_ (some 20) rfl rfl Try.func98 (by kernel_rfl) rfl #[.agg #[.int .i64 ((rd_T105 l0 x4_1).f0), .int .i64 ((rd_T105 l0 x4_1).f1), .int .i64 ((rd_T105 l0 x4_1).f2), .slice A140_3 ((rd_T105 l0 x4_1).f3).length c140_3]] rfl (by (try simp only [lm_, lo_, ln_]); try rfl) ?_; (with_reducible refine (laws_toMail.calls k1 ((rd_T105 l0 x4_1).f0) ((rd_T105 l0 x4_1).f1) ((rd_T105 l0 x4_1).f2) _ _ ((rd_T105 l0 x4_1).f3) t141 t142 t143 t144 _ ?side1 ?side2 A8.out).mono ?_); (case side1 => repeat (first | exact (Kd.C_below HR140_3.out HB.out) | (with_reducible refine Kd.C_alloc ?_ _) | (with_reducible refine Kd.C_drewN ?_ _) | (with_reducible refine Kd.C_drew ?_))); (case side2 => exact HC140_3.out); rintro e w11 ⟨v145, rfl, ho0, hb⟩; refine ⟨_, rfl, ?_⟩; replace HO_3 := mk_ (Kd.S_elder' (by (with_reducible repeat (first | apply Kd.S_alloc | apply Kd.S_drewN | apply Kd.S_drew)); exact HO_3.out) (Kd.R_base ho0) hb); have HO146 := mk_ (Kd.R_lower ho0 (below_size (ub_ HB.out))); replace HB := mk_ (below_step (ub_ HB.out) hb); have p10 : 0 ≤ (x4_1 : Int) := of_decide_eq_true (by first | (with_reducible assumption) | assumption); have q10 : (x4_1 : Int) < ((x3_1.length : Int) : Int) := of_decide_eq_true (by first | (with_reducible assumption) | assumption); obtain ⟨go10, co10, eo10, gb10, gl10, cl10, HG10⟩ := Kd.S_form HO_3.out (by omega); (first | cases eo10 | (injection eo10 with ea_ en_ ec_; (first | subst ea_ | (injection ea_ with ea_; subst ea_)); subst ec_; clear en_)); have GB10 := mk_ gb10; have GG10 := mk_ HG10; clear gb10 gl10 HG10; obtain ⟨_, ce10, hcl10, hM10, hcc10, hfr10, _, _⟩ := Kd.S_elem HO_3.out z40 (x4_1 : Int) p10 q10; obtain ⟨ve10_3, rfl, ge10_3⟩ := k40_openM hM10; have hx10_0 : w11.cell? ⟨go10, (x4_1 : Int).toNat * 4, none⟩ = some (.int .i64 ((rd_T40 x3_1 x4_1).f0)) := hcc10 0 _ rfl; have hx10_1 : w11.cell? ⟨go10, (x4_1 : Int).toNat * 4 + 1, none⟩ = some (.int .i64 ((rd_T40 x3_1 x4_1).f1)) := hcc10 1 _ rfl; have hx10_2 : w11.cell? ⟨go10, (x4_1 : Int).toNat * 4 + 2, none⟩ = some (.int .i64 ((rd_T40 x3_1 x4_1).f2)) := hcc10 2 _ rfl; have hx10_3 : w11.cell? ⟨go10, (x4_1 : Int).toNat * 4 + 3, none⟩ = some (ve10_3) := hcc10 3 _ rfl; have hf10_0 : w11.frozen? ⟨go10, (x4_1 : Int).toNat * 4, none⟩ = false := hfr10 0; have hf10_1 : w11.frozen? ⟨go10, (x4_1 : Int).toNat * 4 + 1, none⟩ = false := hfr10 1; have hf10_2 : w11.frozen? ⟨go10, (x4_1 : Int).toNat * 4 + 2, none⟩ = false := hfr10 2; have hf10_3 : w11.frozen? ⟨go10, (x4_1 : Int).toNat * 4 + 3, none⟩ = false := hfr10 3; clear hcl10 hcc10 hfr10 hM10; replace p10 := eq_true p10; replace q10 := eq_true q10; have n_ := mk_ (Kd.S_mono (ok' := (fun k_ => some k_ ≠ (v145 : Value).ownBlock)) HO_3.out (fun k_ hk => hk.2)); clear HO_3; have HO_3 := n_; clear n_; have HX12 := mk_ (show Kd.S k40 40 w11 w.heap.size (fun k_ => ((fun _ => True)) k_ ∧ ¬ ((fun k_ => some k_ = (v145 : Value).ownBlock)) k_) (.slice (some ⟨go10, 0, none⟩) x3_1.length co10) x3_1 from (by (with_reducible repeat (first | apply Kd.S_alloc | apply Kd.S_drewN | apply Kd.S_drew)); exact Kd.S_mono HO_3.out (fun k_ hk => ⟨trivial, fun e_ => hk e_⟩))); obtain ⟨oki12, ce12, hcl12, hM12, hcc12, hfr12, hoki12, hH12⟩ := Kd.S_elem HX12.out z40 (x4_1 : Int) (of_decide_eq_true (by first | (with_reducible assumption) | assumption)) (by have h_ : (x4_1 : Int) < ((x3_1.length : Int) : Int) := of_decide_eq_true (by first | (with_reducible assumption) | assumption); first | exact h_ | (have e_ := (Kd.S_reads' HO_3.out).1; omega) | simpa using h_); obtain ⟨ve12_3, rfl, ge12_3⟩ := k40_openM hM12; have HP12 := Kd.S_seg hH12 (of_decide_eq_true (by first | (with_reducible assumption) | assumption)) (by have h_ : (x4_1 : Int) < ((x3_1.length : Int) : Int) := of_decide_eq_true (by first | (with_reducible assumption) | assumption); first | exact h_ | (have e_ := (Kd.S_reads' HO_3.out).1; omega) | simpa using h_) (seg := [.int .i64 t141, .int .i64 t142, .int .i64 t143, v145]) (j := 0) (show 4 ≤ 4 from by decide) (x' := (⟨t141, t142, t143, t144⟩ : S40)) (k40_mkM _ _ _ (⟨t141, t142, t143, t144⟩ : S40) (Kd.R_mono (Kd.R_tight rfl (Kd.R_mono (ok' := fun k_ => ((fun _ => True)) k_ ∧ k_ ≠ go10) (Kd.R_apart' (HO146.out) (Kd.S_typed HO_3.out) (by decide)) (fun k_ hk => ⟨trivial, fun e_ => (hk.2) (by rw [e_]; rfl)⟩))) (fun _ h_ => Or.inr (h_)))) (fun _ hk => hk) (fun k_ hk_ => ((Kd.R_mono (ok' := fun k_ => ((fun _ => True)) k_ ∧ k_ ≠ go10) (Kd.R_apart' (HO146.out) (Kd.S_typed HO_3.out) (by decide)) (fun k_ hk => ⟨trivial, fun e_ => (hk.2) (by rw [e_]; rfl)⟩))).1 k_ hk_.symm); have hx12_0 := hcc12 0 _ rfl; (try simp only [show (k40).sz = 4 from rfl, Nat.mul_one, Nat.add_zero] at hx12_0); have hf12_0 := hfr12 0; (try simp only [show (k40).sz = 4 from rfl, Nat.mul_one, Nat.add_zero] at hf12_0); have hx12_1 := hcc12 1 _ rfl; (try simp only [show (k40).sz = 4 from rfl, Nat.mul_one, Nat.add_zero] at hx12_1); have hf12_1 := hfr12 1; (try simp only [show (k40).sz = 4 from rfl, Nat.mul_one, Nat.add_zero] at hf12_1); have hx12_2 := hcc12 2 _ rfl; (try simp only [show (k40).sz = 4 from rfl, Nat.mul_one, Nat.add_zero] at hx12_2); have hf12_2 := hfr12 2; (try simp only [show (k40).sz = 4 from rfl, Nat.mul_one, Nat.add_zero] at hf12_2); have hx12_3 := hcc12 3 _ rfl; (try simp only [show (k40).sz = 4 from rfl, Nat.mul_one, Nat.add_zero] at hx12_3); have hf12_3 := hfr12 3; (try simp only [show (k40).sz = 4 from rfl, Nat.mul_one, Nat.add_zero] at hf12_3); clear hcl12 hcc12 hfr12 hM12 hoki12 hH12) | ((with_reducible refine gate_store (t := 40) (p := 21) rfl ?_); refine store_event (t := 40) (p := 21) (v := ?_) (w1 := ((((w11.setCell ⟨go10, (x4_1 : Int).toNat * 4, none⟩ (.int .i64 t141)).setCell ⟨go10, (x4_1 : Int).toNat * 4 + 1, none⟩ (.int .i64 t142)).setCell ⟨go10, (x4_1 : Int).toNat * 4 + 2, none⟩ (.int .i64 t143)).setCell ⟨go10, (x4_1 : Int).toNat * 4 + 3, none⟩ (v145))) ?hg ?ho ?hn ?hr ?_; (case ho => rfl); (case hg => rfl); (case hn => rfl); (case hr => first | (go_simp; done) | (go_simp; rfl) | ((try (obtain ⟨Ao0_, co0_, eo0_⟩ := Kd.R_slice (v := v145) (Aside0.out (by assumption)); subst eo0_)); first | (go_simp; done) | (go_simp; rfl))); intro w13 hw; have hg : w11.grownBy w13 (some go10) := (by rw [hw]; exact HP12.2); have hp_ : Kd.S k40 40 w13 w.heap.size (fun _ => True) (.slice (some ⟨go10, 0, none⟩) x3_1.length co10) y147 := (by rw [hw, Ny147.out]; exact HP12.1); clear HP12; replace HO_3 := mk_ (hp_); replace HB := mk_ ((by rw [hw]; exact below_set (below_set (below_set (below_set (HB.out) GB10.out) GB10.out) GB10.out) GB10.out : Below w.heap.size w w13)); clear HO146; clear hg hw hp_))
   go_roundg k1
   case measure => have := HK1.out; omega
   case rel => exact ⟨(y147), (wrap64 (x4_1 + 1)), (by first | rfl | (simp; done) | (simp [*]; done)), H', ⟨by have := HK1.out; omega⟩, ⟨by (with_reducible repeat (first | apply Kd.S_alloc | apply Kd.S_drewN | apply Kd.S_drew)); exact HO_3.out⟩, ⟨ub_ HB.out⟩⟩

/-! ### laws_toPort: function 42 -/
def laws_toPort.f (k : Nat) (a0_0 : Int) (l0_1 : List (S105)) : Option (Int × (List (S40))) := (laws_toMailS.f k l0_1).bind fun t151 => (some (a0_0, t151))
theorem laws_toPort.mono : ∀ a0 a1 k, LeO (laws_toPort.f k a0 a1) (laws_toPort.f (k + 1) a0 a1) := by
 intro a0 a1 k
 unfold laws_toPort.f
 repeat' first
   | (with_reducible exact laws_toMailS.mono _ _)
   | (with_reducible exact LeO.refl _)
   | (with_reducible exact LeO.none _)
   | (with_reducible refine LeO.ite ?_ ?_)
   | (with_reducible refine LeO.bind ?_ (fun _ => ?_))
   | exact laws_toMailS.mono _ _
   | exact LeO.none _
   | refine LeO.ite ?_ ?_
   | refine LeO.bind ?_ (fun _ => ?_)
set_option maxHeartbeats 8000000 in
set_option maxRecDepth 100000 in
theorem laws_toPort.calls (k : Nat) (a0_0 : Int) (A0_1 : Option Addr) (c0_1 : Nat) (l0_1 : List (S105)) (r1 : Int) (r2 : List (S40)) (w : World) (hr0_1 : Kd.C k105 w A0_1 l0_1.length l0_1) (hc0_1 : l0_1.length ≤ c0_1) (h : laws_toPort.f k a0_0 l0_1 = some (r1, r2)) :
  Calls Try.prog 42 #[.agg #[.int .i64 a0_0, .slice A0_1 l0_1.length c0_1]] w fun e w' => ∃ v1_ : Value, e = .returned (.agg #[.int .i64 r1, v1_]) ∧ Kd.S k40 40 w' w.heap.size (fun _ => True) v1_ r2 ∧ Below w.heap.size w w' := by
 have hu64 := Try.underlying64
 have hu47 := Try.underlying47
 have HR0_1 := mk_ hr0_1
 have HC0_1 := mk_ hc0_1
 clear hr0_1 hc0_1
 have HB := mk_ (Below.refl w.heap.size w)
 have H : ((laws_toMailS.f k l0_1).bind fun t151 => (some (a0_0, t151))) = some (r1, r2) := h
 clear h
 replace H := Option.bind_eq_some_iff.mp H
 obtain ⟨t151, A20, H⟩ := H
 replace H : (some (a0_0, t151)) = some (r1, r2) := H
 have A2 := mk_ A20
 clear A20
 simp only [Option.some.injEq, Prod.mk.injEq] at H
 obtain ⟨rfl, rfl⟩ := H
 go_enter Try.func42, Try.ntmps42
 go_wp2_with (first | ((with_reducible refine gate_dst (N := 1) rfl ?_); refine box_event ?hg (N := 1) ?hd (cs := #[.int .i64 a0_0, .slice A0_1 l0_1.length c0_1]) (t := 64) ?hr ?_; (case hd => rfl); (case hg => rfl); (case hr => first | (go_simp; done) | (go_simp; rfl)); intro gb148 hg w3 hbox hb; have n0_ := mk_ (below_step (ub_ HB.out) hb); have BK148 := mk_ (hbox); have GW148 := mk_ ((by rw [hg]; exact (below_size (ub_ HB.out)) : w.heap.size ≤ gb148)); have GE148 := ge_ ((by rw [hg]; exact (below_size (ub_ HB.out)) : w.heap.size ≤ gb148)); replace HB := n0_; clear n0_; clear hb hbox hg) | ((with_reducible refine gate_dst (N := 2) rfl ?_); refine box_event ?hg (N := 2) ?hd (cs := #[.int .i64 0, .slice none 0 0]) (t := 47) ?hr ?_; (case hd => rfl); (case hg => rfl); (case hr => first | (go_simp; done) | (go_simp; rfl)); intro gb149 hg w4 hbox hb; have n0_ := mk_ (blk_below (u_ BK148.out) hb); have n1_ := mk_ (below_step (us_ HB.out) hb); have BK149 := mk_ (hbox); have GW149 := mk_ ((by rw [hg]; exact (below_size (us_ HB.out)) : w.heap.size ≤ gb149)); have GE149 := ge_ ((by rw [hg]; exact (below_size (us_ HB.out)) : w.heap.size ≤ gb149)); have NB148_149 := nq_ ((by rw [hg]; exact Nat.ne_of_lt (blk_lt (u_ BK148.out)) : gb148 ≠ gb149)); have NB149_148 := nq_ ((by rw [hg]; exact Nat.ne_of_gt (blk_lt (u_ BK148.out)) : gb149 ≠ gb148)); replace BK148 := n0_; replace HB := n1_; clear n0_ n1_; clear hb hbox hg) | ((with_reducible refine gate_dst (N := 3) rfl ?_); refine box_event ?hg (N := 3) ?hd (cs := #[.int .i64 0, .slice none 0 0]) (t := 47) ?hr ?_; (case hd => rfl); (case hg => rfl); (case hr => first | (go_simp; done) | (go_simp; rfl)); intro gb150 hg w5 hbox hb; have n0_ := mk_ (blk_below (u_ BK148.out) hb); have n1_ := mk_ (blk_below (u_ BK149.out) hb); have n2_ := mk_ (below_step (us_ HB.out) hb); have BK150 := mk_ (hbox); have GW150 := mk_ ((by rw [hg]; exact (below_size (us_ HB.out)) : w.heap.size ≤ gb150)); have GE150 := ge_ ((by rw [hg]; exact (below_size (us_ HB.out)) : w.heap.size ≤ gb150)); have NB148_150 := nq_ ((by rw [hg]; exact Nat.ne_of_lt (blk_lt (u_ BK148.out)) : gb148 ≠ gb150)); have NB150_148 := nq_ ((by rw [hg]; exact Nat.ne_of_gt (blk_lt (u_ BK148.out)) : gb150 ≠ gb148)); have NB149_150 := nq_ ((by rw [hg]; exact Nat.ne_of_lt (blk_lt (u_ BK149.out)) : gb149 ≠ gb150)); have NB150_149 := nq_ ((by rw [hg]; exact Nat.ne_of_gt (blk_lt (u_ BK149.out)) : gb150 ≠ gb149)); replace BK148 := n0_; replace BK149 := n1_; replace HB := n2_; clear n0_ n1_ n2_; clear hb hbox hg; have hnb6 := NB148_149.out; have hnc6 := NB149_148.out; have hnb7 := NB148_150.out; have hnc7 := NB150_148.out; obtain ⟨hcz8_0, hcz8_1, hfz8_0, hfz8_1⟩ := cells2_ BK148.out; have hnb9 := NB150_149.out; have hnc9 := NB149_150.out; obtain ⟨hcz10_0, hcz10_1, hfz10_0, hfz10_1⟩ := cells2_ BK150.out) | ((with_reducible refine gate_callee (f := 75) rfl ?_); refine goesL_ (some 9) rfl rfl Try.func75 (by kernel_rfl) rfl #[.slice A0_1 l0_1.length c0_1] rfl (by (try simp only [lm_, lo_, ln_]); try rfl) ?_; (with_reducible refine (laws_toMailS.calls k _ _ l0_1 t151 _ ?side1 ?side2 A2.out).mono ?_); (case side1 => exact Kd.C_below HR0_1.out (us_ HB.out)); (case side2 => exact HC0_1.out); rintro e w11 ⟨v152, rfl, ho0, hb⟩; refine ⟨_, rfl, ?_⟩; have HO153 := mk_ (Kd.S_lower ho0 (below_size (us_ HB.out))); replace BK148 := mk_ (blk_below (g := gb148) (o := .cells #[.int .i64 a0_0, .slice A0_1 l0_1.length c0_1] 64 (0, 0)) (uf_ BK148.out) hb); replace BK149 := mk_ (blk_below (g := gb149) (o := .cells #[.int .i64 0, .slice none 0 0] 47 (0, 0)) (uf_ BK149.out) hb); replace BK150 := mk_ (blk_below (g := gb150) (o := .cells #[.int .i64 a0_0, .slice none 0 0] 47 (0, 0)) (by (with_reducible repeat (first | refine bn_ ?_ _ | refine bw_ ?_ | refine ba_ ?_ _)); refine blk_put (cs := #[.int .i64 0, .slice none 0 0]) ?_ 0 _ rfl; (with_reducible repeat (first | refine bn_ ?_ _ | refine bw_ ?_ | refine ba_ ?_ _)); exact BK150.out) hb); replace HB := mk_ (below_step (us_ HB.out) hb); obtain ⟨Ao12, co12, eo12⟩ := Kd.S_slice HO153.out; subst eo12; obtain ⟨hcz13_0, hcz13_1, hfz13_0, hfz13_1⟩ := cells2_ BK150.out; obtain ⟨hcz14_0, hcz14_1, hfz14_0, hfz14_1⟩ := cells2_ BK149.out))
 refine bodyPost_ret (results_cell_row rfl _ _ gb149 47 #[.int .i64 a0_0, .slice Ao12 t151.length co12] (0, 0) _ rfl (by (with_reducible repeat (first | refine bn_ ?_ _ | refine bw_ ?_ | refine ba_ ?_ _)); refine blk_put (cs := #[.int .i64 a0_0, .slice none 0 0]) ?_ 1 _ rfl; (with_reducible repeat (first | refine bn_ ?_ _ | refine bw_ ?_ | refine ba_ ?_ _)); refine blk_put (cs := #[.int .i64 0, .slice none 0 0]) ?_ 0 _ rfl; (with_reducible repeat (first | refine bn_ ?_ _ | refine bw_ ?_ | refine ba_ ?_ _)); refine blk_far ?_ NB149_150.out _; (with_reducible repeat (first | refine bn_ ?_ _ | refine bw_ ?_ | refine ba_ ?_ _)); exact BK149.out) Try.underlying47 rfl (by kernel_rfl)) rfl ?_
 exact ⟨_, by first | rfl | (simp [errW_none, errW_some] <;> rfl) | (simp [*, errW_none, errW_some] <;> rfl), by (with_reducible repeat (first | apply Kd.S_alloc | apply Kd.S_drewN | apply Kd.S_drew)); exact Kd.S_mono (Kd.S_far (p := ⟨gb149, 1, none⟩) (Kd.S_far (p := ⟨gb149, 0, none⟩) (Kd.S_far (p := ⟨gb150, 1, none⟩) (Kd.S_types (Kd.S_types HO153.out BK150.out (by decide)) BK149.out (by decide)) (fun _ hk => hk.1.2) (.slice Ao12 t151.length co12)) (fun _ hk => hk.2) (.int .i64 a0_0)) (fun _ hk => hk.2) (.slice Ao12 t151.length co12)) (fun _ hk => trivial), us_ HB.out⟩

/-! ### laws_toPortS: function 13 -/
def laws_toPortS.l0 : Nat → List (S64) → List (S47) → Int → Option ((List (S47)))
 | 0, _, _, _ => none
 | k + 1, x0, x3, x4 => if x4 < (x0.length : Int) then (if 0 ≤ x4 then ((laws_toPort.f k ((rd_T64 x0 x4).f0) ((rd_T64 x0 x4).f1)).bind fun bt158 => (if x4 < (x3.length : Int) then (laws_toPortS.l0 k x0 (x3.set (x4 : Int).toNat (⟨bt158.1, bt158.2⟩ : S47)) (wrap64 (x4 + 1))) else (none))) else (none)) else (some x3)
def laws_toPortS.f (k : Nat) (l0 : List (S64)) : Option ((List (S47))) := if 0 ≤ (l0.length : Int) then (if ((l0.length : Int) : Int).toNat ≤ 8796093022208 then (laws_toPortS.l0 k l0 (List.replicate ((l0.length : Int) : Int).toNat z47) 0) else (none)) else (none)
theorem laws_toPortS.mono_l : ∀ k, (∀ y0 y1 y2, LeO (laws_toPortS.l0 k y0 y1 y2) (laws_toPortS.l0 (k + 1) y0 y1 y2))
 | 0 => fun _ _ _ r h => by simp [laws_toPortS.l0] at h
 | k + 1 => by
  have ih0 := laws_toPortS.mono_l k
  ·intro y0 y1 y2
   unfold laws_toPortS.l0
   repeat' first
   | (with_reducible exact ih0 _ _ _)
   | (with_reducible exact laws_toPort.mono _ _ _)
   | (with_reducible exact LeO.refl _)
   | (with_reducible exact LeO.none _)
   | (with_reducible refine LeO.ite ?_ ?_)
   | (with_reducible refine LeO.bind ?_ (fun _ => ?_))
   | exact ih0 _ _ _
   | exact laws_toPort.mono _ _ _
   | exact LeO.none _
   | refine LeO.ite ?_ ?_
   | refine LeO.bind ?_ (fun _ => ?_)
theorem laws_toPortS.mono : ∀ a0 k, LeO (laws_toPortS.f k a0) (laws_toPortS.f (k + 1) a0) := by
 intro a0 k
 have ih0 := laws_toPortS.mono_l k
 unfold laws_toPortS.f
 repeat' first
   | (with_reducible exact ih0 _ _ _)
   | (with_reducible exact laws_toPort.mono _ _ _)
   | (with_reducible exact LeO.refl _)
   | (with_reducible exact LeO.none _)
   | (with_reducible refine LeO.ite ?_ ?_)
   | (with_reducible refine LeO.bind ?_ (fun _ => ?_))
   | exact ih0 _ _ _
   | exact laws_toPort.mono _ _ _
   | exact LeO.none _
   | refine LeO.ite ?_ ?_
   | refine LeO.bind ?_ (fun _ => ?_)
set_option maxHeartbeats 8000000 in
set_option maxRecDepth 100000 in
theorem laws_toPortS.calls (k : Nat) (A0 : Option Addr) (c0 : Nat) (l0 : List (S64)) (r : List (S47)) (w : World) (hr0 : Kd.C k64 w A0 l0.length l0) (hc0 : l0.length ≤ c0) (h : laws_toPortS.f k l0 = some r) :
  Calls Try.prog 13 #[.slice A0 l0.length c0] w fun e w' => ∃ v0_ : Value, e = .returned (v0_) ∧ Kd.R k47 47 w' w.heap.size (fun _ => True) v0_ r ∧ Below w.heap.size w w' := by
 have hu64 := Try.underlying64
 have hu47 := Try.underlying47
 have HR0 := mk_ hr0
 have HC0 := mk_ hc0
 clear hr0 hc0
 have HB := mk_ (Below.refl w.heap.size w)
 have H := h
 unfold laws_toPortS.f at H
 clear h
 by_cases c2 : 0 ≤ (l0.length : Int)
 rotate_left
 ·rw [if_neg c2] at H
  exact absurd H (by simp)
 rw [if_pos c2] at H
 have c2b0 := eq_true c2
 have c2b1 : decide (0 ≤ (l0.length : Int)) = true := decide_eq_true c2
 clear c2
 by_cases c3 : ((l0.length : Int) : Int).toNat ≤ 8796093022208
 rotate_left
 ·rw [if_neg c3] at H
  exact absurd H (by simp)
 rw [if_pos c3] at H
 have c3b0 := eq_true c3
 have c3b1 : decide (((l0.length : Int) : Int).toNat ≤ 8796093022208) = true := decide_eq_true c3
 clear c3
 obtain ⟨y154, hy154⟩ : ∃ y_ : List (S47), y_ = (List.replicate ((l0.length : Int) : Int).toNat z47) := ⟨_, rfl⟩
 replace H : (laws_toPortS.l0 k l0 y154 0) = some r := by first | (rw [hy154]; with_reducible exact H) | (have H2_ := (Option.bind_some _ _).symm.trans H; rw [hy154]; with_reducible exact H2_) | (have H2_ := (Option.bind_some _ _).symm.trans H; with_reducible exact H2_) | with_reducible exact H | (rw [hy154]; exact H) | exact H
 have Ny154 := mk_ hy154
 clear hy154
 have H' := mk_ H
 clear H
 go_enter Try.func13, Try.ntmps13
 go_wp2_with (first | ((with_reducible refine gate_dst (N := 7) rfl ?_); refine Kd.R_make k47 _ 47 rfl (N := 7) rfl 25 _ _ rfl (l0.length : Int) rfl rfl Try.underlying25 (.agg #[(.int .i64 0), (.slice none 0 0)]) 32 info47 rfl (by decide) (by omega) z47 (ok := fun _ => True) (okp := fun _ => True) (k47_mkM _ _ _ z47 (Kd.R_nil _ _ _ _ _)) (fun _ hk => hk) trivial (of_decide_eq_true (by first | (with_reducible assumption) | assumption)) (Nat.le_trans (Nat.mul_le_mul_right _ (of_decide_eq_true (by first | (with_reducible assumption) | assumption) : (l0.length : Int).toNat ≤ 8796093022208)) (by omega)) (Below.refl _ _) (Nat.le_refl _) ?_; intro v155 w4 ho5 hb hg_ hnew_; clear hg_ hnew_; (first | rw [← Ny154.out] at ho5 | (simp only [Int.reduceToNat] at ho5; rw [← Ny154.out] at ho5)); have HO156 := mk_ (Kd.R_lower ho5 (below_size (ub_ HB.out))); replace HB := mk_ (below_step (ub_ HB.out) hb); clear hb ho5))
 go_loopg [4] k (fun kq v4 w' => ∃ (x3_1 : List (S47)) (x4_1 : Int), v4 = .int .i64 x4_1 ∧ Aside0 (laws_toPortS.l0 kq l0 x3_1 x4_1 = some r) ∧ Aside0 (kq ≤ k) ∧ Aside0 (Kd.R k47 47 w' w.heap.size (fun _ => True) v155 x3_1) ∧ Aside0 (Below w.heap.size w w'))
 case atStart => exact ⟨(y154), (0), (by first | rfl | (simp; done) | (simp [*]; done)), H', ⟨Nat.le_refl _⟩, ⟨Kd.ur_ HO156.out⟩, ⟨ub_ HB.out⟩⟩
 case round =>
  clear H'
  try clear c1
  try clear c2
  try clear c2b0
  try clear c2b1
  try clear p2
  try clear c3
  try clear c3b0
  try clear c3b1
  obtain ⟨x3_1, x4_1, rfl, HA, HK1, HO_3, HB⟩ := hrel
  cases gk with
  | zero => exact absurd HA.out (by simp [laws_toPortS.l0])
  | succ k1 =>
   have H := HA.out
   clear HA
   simp only [laws_toPortS.l0] at H
   by_cases c6 : x4_1 < (l0.length : Int)
   rotate_left
   ·rw [if_neg c6] at H
    have c6b0 : decide (x4_1 < (l0.length : Int)) = false := decide_eq_false c6
    clear c6
    obtain rfl := Option.some.inj H
    go_wp2
    go_ret
    exact ⟨_, by first | rfl | (simp [errW_none, errW_some] <;> rfl) | (simp [*, errW_none, errW_some] <;> rfl), by (with_reducible repeat (first | apply Kd.R_alloc | apply Kd.R_drewN | apply Kd.R_drew)); exact HO_3.out, by repeat (first | (with_reducible first | exact HB.out | apply na_ | apply nn_ | apply nw_) | exact HB.out)⟩
   rw [if_pos c6] at H
   have c6b0 : decide (x4_1 < (l0.length : Int)) = true := decide_eq_true c6
   clear c6
   by_cases c7 : 0 ≤ x4_1
   rotate_left
   ·rw [if_neg c7] at H
    exact absurd H (by simp)
   rw [if_pos c7] at H
   have c7b0 : decide (0 ≤ x4_1) = true := decide_eq_true c7
   clear c7
   replace H := Option.bind_eq_some_iff.mp H
   obtain ⟨⟨t158, t159⟩, A80, H⟩ := H
   (try dsimp only at H)
   have A8 := mk_ A80
   clear A80
   by_cases c9 : x4_1 < (x3_1.length : Int)
   rotate_left
   ·rw [if_neg c9] at H
    exact absurd H (by simp)
   rw [if_pos c9] at H
   have c9b0 : decide (x4_1 < (x3_1.length : Int)) = true := decide_eq_true c9
   clear c9
   obtain ⟨y162, hy162⟩ : ∃ y_ : List (S47), y_ = (x3_1.set (x4_1 : Int).toNat (⟨t158, t159⟩ : S47)) := ⟨_, rfl⟩
   replace H : (laws_toPortS.l0 k1 l0 y162 (wrap64 (x4_1 + 1))) = some r := by first | (rw [hy162]; with_reducible exact H) | (have H2_ := (Option.bind_some _ _).symm.trans H; rw [hy162]; with_reducible exact H2_) | (have H2_ := (Option.bind_some _ _).symm.trans H; with_reducible exact H2_) | with_reducible exact H | (rw [hy162]; exact H) | exact H
   have Ny162 := mk_ hy162
   clear hy162
   have H' := mk_ H
   clear H
   have p157 : 0 ≤ (x4_1 : Int) := of_decide_eq_true (by first | (with_reducible assumption) | assumption)
   have q157 : x4_1 < (l0.length : Int) := of_decide_eq_true (by first | (with_reducible assumption) | assumption)
   obtain ⟨ad157, A157_1, c157_1, e157, hx157_0, hx157_1, hl157_1, hi157_1⟩ := at_T64 HR0.out x4_1 p157 q157
   cases e157
   replace hx157_0 := (HB.out.cell (lc_ w _ hx157_0)).trans hx157_0
   replace hx157_1 := (HB.out.cell (lc_ w _ hx157_1)).trans hx157_1
   have HR157_1 := mk_ hi157_1
   have HC157_1 := mk_ hl157_1
   clear hi157_1 hl157_1
   replace p157 := eq_true p157
   replace q157 := eq_true q157
   go_wp2_with (first | ((with_reducible refine gate_callee (f := 42) rfl ?_); refine goesL_ (some 20) rfl rfl Try.func42 (by kernel_rfl) rfl #[.agg #[.int .i64 ((rd_T64 l0 x4_1).f0), .slice A157_1 ((rd_T64 l0 x4_1).f1).length c157_1]] rfl (by (try simp only [lm_, lo_, ln_]); try rfl) ?_; (with_reducible refine (laws_toPort.calls k1 ((rd_T64 l0 x4_1).f0) _ _ ((rd_T64 l0 x4_1).f1) t158 t159 _ ?side1 ?side2 A8.out).mono ?_); (case side1 => repeat (first | exact (Kd.C_below HR157_1.out HB.out) | (with_reducible refine Kd.C_alloc ?_ _) | (with_reducible refine Kd.C_drewN ?_ _) | (with_reducible refine Kd.C_drew ?_))); (case side2 => exact HC157_1.out); rintro e w11 ⟨v160, rfl, ho0, hb⟩; refine ⟨_, rfl, ?_⟩; replace HO_3 := mk_ (Kd.R_elder' (Kd.ur_ HO_3.out) (Kd.S_base ho0) hb); have HO161 := mk_ (Kd.S_lower ho0 (below_size (ub_ HB.out))); replace HB := mk_ (below_step (ub_ HB.out) hb); have p10 : 0 ≤ (x4_1 : Int) := of_decide_eq_true (by first | (with_reducible assumption) | assumption); have q10 : (x4_1 : Int) < ((x3_1.length : Int) : Int) := of_decide_eq_true (by first | (with_reducible assumption) | assumption); obtain ⟨go10, co10, eo10, gb10, gl10, cl10, HG10⟩ := Kd.R_form HO_3.out (by omega); (first | cases eo10 | (injection eo10 with ea_ en_ ec_; (first | subst ea_ | (injection ea_ with ea_; subst ea_)); subst ec_; clear en_)); have GB10 := mk_ gb10; have GG10 := mk_ HG10; clear gb10 gl10 HG10; obtain ⟨ce10, hcl10, hM10, hcc10, hfr10⟩ := Kd.R_elem HO_3.out z47 (x4_1 : Int) p10 q10; obtain ⟨ve10_1, rfl, ge10_1⟩ := k47_openM hM10; have hx10_0 : w11.cell? ⟨go10, (x4_1 : Int).toNat * 2, none⟩ = some (.int .i64 ((rd_T47 x3_1 x4_1).f0)) := hcc10 0 _ rfl; have hx10_1 : w11.cell? ⟨go10, (x4_1 : Int).toNat * 2 + 1, none⟩ = some (ve10_1) := hcc10 1 _ rfl; have hf10_0 : w11.frozen? ⟨go10, (x4_1 : Int).toNat * 2, none⟩ = false := hfr10 0; have hf10_1 : w11.frozen? ⟨go10, (x4_1 : Int).toNat * 2 + 1, none⟩ = false := hfr10 1; clear hcl10 hcc10 hfr10 hM10; replace p10 := eq_true p10; replace q10 := eq_true q10; have n_ := mk_ (Kd.R_mono (ok' := (fun k_ => some k_ ≠ (v160 : Value).ownBlock)) HO_3.out (fun k_ hk => hk.2)); clear HO_3; have HO_3 := n_; clear n_; have HX12 := mk_ (show Kd.R k47 47 w11 w.heap.size (fun _ => True) (.slice (some ⟨go10, 0, none⟩) x3_1.length co10) x3_1 from (by (with_reducible repeat (first | apply Kd.R_alloc | apply Kd.R_drewN | apply Kd.R_drew)); exact Kd.R_mono HO_3.out (fun _ hk => trivial))); obtain ⟨ce12, hcl12, hM12, hcc12, hfr12⟩ := Kd.R_elem HX12.out z47 (x4_1 : Int) (of_decide_eq_true (by first | (with_reducible assumption) | assumption)) (by have h_ : (x4_1 : Int) < ((x3_1.length : Int) : Int) := of_decide_eq_true (by first | (with_reducible assumption) | assumption); first | exact h_ | (have e_ := (Kd.R_reads' HO_3.out).1; omega) | simpa using h_); obtain ⟨ve12_1, rfl, ge12_1⟩ := k47_openM hM12; have HP12 := Kd.R_seg HX12.out (x4_1 : Int) (of_decide_eq_true (by first | (with_reducible assumption) | assumption)) (by have h_ : (x4_1 : Int) < ((x3_1.length : Int) : Int) := of_decide_eq_true (by first | (with_reducible assumption) | assumption); first | exact h_ | (have e_ := (Kd.R_reads' HO_3.out).1; omega) | simpa using h_) (seg := [.int .i64 t158, v160]) (j := 0) hcl12 hcc12 (show 2 ≤ 2 from by decide) (x' := (⟨t158, t159⟩ : S47)) (k47_mkM _ _ _ (⟨t158, t159⟩ : S47) (Kd.R_mono (Kd.R_apart' ((Kd.S_R HO161.out)) (Kd.R_typed HO_3.out) (by decide)) (fun k_ hk => ⟨trivial, fun e_ => (hk.2) (by rw [e_]; rfl)⟩))) (fun _ hk => hk); have hx12_0 := hcc12 0 _ rfl; (try simp only [show (k47).sz = 2 from rfl, Nat.mul_one, Nat.add_zero] at hx12_0); have hf12_0 := hfr12 0; (try simp only [show (k47).sz = 2 from rfl, Nat.mul_one, Nat.add_zero] at hf12_0); have hx12_1 := hcc12 1 _ rfl; (try simp only [show (k47).sz = 2 from rfl, Nat.mul_one, Nat.add_zero] at hx12_1); have hf12_1 := hfr12 1; (try simp only [show (k47).sz = 2 from rfl, Nat.mul_one, Nat.add_zero] at hf12_1); clear hcl12 hcc12 hfr12 hM12) | ((with_reducible refine gate_store (t := 47) (p := 21) rfl ?_); refine store_event (t := 47) (p := 21) (v := ?_) (w1 := ((w11.setCell ⟨go10, (x4_1 : Int).toNat * 2, none⟩ (.int .i64 t158)).setCell ⟨go10, (x4_1 : Int).toNat * 2 + 1, none⟩ (v160))) ?hg ?ho ?hn ?hr ?_; (case ho => rfl); (case hg => rfl); (case hn => rfl); (case hr => first | (go_simp; done) | (go_simp; rfl) | ((try (obtain ⟨Ao0_, co0_, eo0_⟩ := Kd.S_slice (v := v160) (Aside0.out (by assumption)); subst eo0_)); first | (go_simp; done) | (go_simp; rfl))); intro w13 hw; have hg : w11.grownBy w13 (some go10) := (by rw [hw]; exact HP12.2); have hp_ : Kd.R k47 47 w13 w.heap.size (fun _ => True) (.slice (some ⟨go10, 0, none⟩) x3_1.length co10) y162 := (by rw [hw, Ny162.out]; exact HP12.1); clear HP12; replace HO_3 := mk_ (hp_); replace HB := mk_ ((by rw [hw]; exact below_set (below_set (HB.out) GB10.out) GB10.out : Below w.heap.size w w13)); clear HO161; clear hg hw hp_))
   go_roundg k1
   case measure => have := HK1.out; omega
   case rel => exact ⟨(y162), (wrap64 (x4_1 + 1)), (by first | rfl | (simp; done) | (simp [*]; done)), H', ⟨by have := HK1.out; omega⟩, ⟨Kd.ur_ HO_3.out⟩, ⟨ub_ HB.out⟩⟩

/-! ### impl_in: function 76 -/
def impl_in.f (a0 : Int) (a1 : Int) (a2 : Int) : Option (Bool) := if a0 ≥ a1 then (some (decide (a0 ≤ a2))) else (some false)
set_option maxHeartbeats 8000000 in
set_option maxRecDepth 100000 in
theorem impl_in.calls (a0 : Int) (a1 : Int) (a2 : Int) (r : Bool) (w : World) (h : impl_in.f a0 a1 a2 = some r) :
  Calls Try.prog 76 #[.int .i64 a0, .int .i64 a1, .int .i64 a2] w fun e w' => e = .returned (.bool r) ∧ Drawn0 w w' := by
 have H : (if a0 ≥ a1 then (some (decide (a0 ≤ a2))) else (some false)) = some r := h
 clear h
 by_cases c4 : a0 ≥ a1
 focus
  rw [if_pos c4] at H
  have c4b0 : decide (a1 ≤ a0) = true := decide_eq_true c4
  clear c4
  obtain rfl := Option.some.inj H
 rotate_left
 focus
  rw [if_neg c4] at H
  have c4b0 : decide (a1 ≤ a0) = false := decide_eq_false c4
  clear c4
  obtain rfl := Option.some.inj H
 rotate_left
 all_goals
  go_enter Try.func76, Try.ntmps76
  go_wp2
  go_ret
  exact ⟨by first | rfl | (simp; done) | (simp [*]; done), by repeat (first | exact Drawn0.refl _ | apply Drawn0.step)⟩

/-! ### impl_portOk: function 43 -/
def impl_portOk.f (a0 : Int) : Option (Bool) := (impl_in.f a0 1 255).bind fun t163 => (some t163)
set_option maxHeartbeats 8000000 in
set_option maxRecDepth 100000 in
theorem impl_portOk.calls (a0 : Int) (r : Bool) (w : World) (h : impl_portOk.f a0 = some r) :
  Calls Try.prog 43 #[.int .i64 a0] w fun e w' => e = .returned (.bool r) ∧ Drawn0 w w' := by
 have H : ((impl_in.f a0 1 255).bind fun t163 => (some t163)) = some r := h
 clear h
 replace H := Option.bind_eq_some_iff.mp H
 obtain ⟨t163, A20, H⟩ := H
 replace H : (some t163) = some r := H
 have A2 := mk_ A20
 clear A20
 obtain rfl := Option.some.inj H
 go_enter Try.func43, Try.ntmps43
 go_wp2_with (first | ((with_reducible refine gate_callee (f := 76) rfl ?_); refine goesL_ (some 4) rfl rfl Try.func76 (by kernel_rfl) rfl #[.int .i64 a0, .int .i64 1, .int .i64 255] rfl (by (try simp only [lm_, lo_, ln_]); try rfl) ?_; (with_reducible refine (impl_in.calls a0 1 255 t163 _ A2.out).mono ?_); rintro e w' ⟨rfl, ⟨nd, rfl⟩⟩; refine ⟨_, rfl, ?_⟩))
 go_ret
 exact ⟨by first | rfl | (simp; done) | (simp [*]; done), by repeat (first | exact Drawn0.refl _ | apply Drawn0.step)⟩

-- impl_Mail_77: see impl.PortsOk

-- impl_Mail_44: see impl.PortsOk

/-! ### impl_word: function 78 -/
def impl_word.f (a0 : Int) : Option (Bool) := (impl_in.f a0 0 65535).bind fun t164 => (some t164)
set_option maxHeartbeats 8000000 in
set_option maxRecDepth 100000 in
theorem impl_word.calls (a0 : Int) (r : Bool) (w : World) (h : impl_word.f a0 = some r) :
  Calls Try.prog 78 #[.int .i64 a0] w fun e w' => e = .returned (.bool r) ∧ Drawn0 w w' := by
 have H : ((impl_in.f a0 0 65535).bind fun t164 => (some t164)) = some r := h
 clear h
 replace H := Option.bind_eq_some_iff.mp H
 obtain ⟨t164, A20, H⟩ := H
 replace H : (some t164) = some r := H
 have A2 := mk_ A20
 clear A20
 obtain rfl := Option.some.inj H
 go_enter Try.func78, Try.ntmps78
 go_wp2_with (first | ((with_reducible refine gate_callee (f := 76) rfl ?_); refine goesL_ (some 4) rfl rfl Try.func76 (by kernel_rfl) rfl #[.int .i64 a0, .int .i64 0, .int .i64 65535] rfl (by (try simp only [lm_, lo_, ln_]); try rfl) ?_; (with_reducible refine (impl_in.calls a0 0 65535 t164 _ A2.out).mono ?_); rintro e w' ⟨rfl, ⟨nd, rfl⟩⟩; refine ⟨_, rfl, ?_⟩))
 go_ret
 exact ⟨by first | rfl | (simp; done) | (simp [*]; done), by repeat (first | exact Drawn0.refl _ | apply Drawn0.step)⟩

/-! ### impl_MailOk: function 46 -/
def impl_MailOk.f (a0_0 : Int) (a0_1 : Int) (a0_2 : Int) (l0_3 : List Int) : Option (Bool) := (impl_word.f a0_0).bind fun t166 => (if t166 = true then ((impl_portOk.f a0_1).bind fun t167 => (if t167 = true then ((impl_portOk.f a0_2).bind fun t168 => (if t168 = true then (some (decide ((l0_3.length : Int) ≤ 40))) else (some false))) else (some false))) else (some false))
set_option maxHeartbeats 8000000 in
set_option maxRecDepth 100000 in
theorem impl_MailOk.calls (a0_0 : Int) (a0_1 : Int) (a0_2 : Int) (A0_3 : Option Addr) (c0_3 : Nat) (l0_3 : List Int) (r : Bool) (w : World) (hr0_3 : Kd.C (Kd.int .u8) w A0_3 l0_3.length l0_3) (hc0_3 : l0_3.length ≤ c0_3) (h : impl_MailOk.f a0_0 a0_1 a0_2 l0_3 = some r) :
  Calls Try.prog 46 #[.agg #[.int .i64 a0_0, .int .i64 a0_1, .int .i64 a0_2, .slice A0_3 l0_3.length c0_3]] w fun e w' => e = .returned (.bool r) ∧ Below w.heap.size w w' := by
 have hu40 := Try.underlying40
 have HR0_3 := mk_ hr0_3
 have HC0_3 := mk_ hc0_3
 clear hr0_3 hc0_3
 have HB := mk_ (Below.refl w.heap.size w)
 have H := h
 unfold impl_MailOk.f at H
 clear h
 replace H := Option.bind_eq_some_iff.mp H
 obtain ⟨t166, A20, H⟩ := H
 (try dsimp only at H)
 have A2 := mk_ A20
 clear A20
 by_cases c3 : t166 = true
 rotate_left
 focus
  replace c3 := Bool.eq_false_iff.mpr c3
  subst c3
  have H1 : (some false) = some r := by rw [if_neg (show ¬ (false = true) by decide)] at H; exact H
  clear H
  have H := H1
  clear H1
  obtain rfl := Option.some.inj H
 rotate_left
 focus
  subst c3
  rw [if_pos rfl] at H
  replace H := Option.bind_eq_some_iff.mp H
  obtain ⟨t167, A40, H⟩ := H
  (try dsimp only at H)
  have A4 := mk_ A40
  clear A40
  by_cases c5 : t167 = true
  rotate_left
  focus
   replace c5 := Bool.eq_false_iff.mpr c5
   subst c5
   have H1 : (some false) = some r := by rw [if_neg (show ¬ (false = true) by decide)] at H; exact H
   clear H
   have H := H1
   clear H1
   obtain rfl := Option.some.inj H
  rotate_left
  focus
   subst c5
   rw [if_pos rfl] at H
   replace H := Option.bind_eq_some_iff.mp H
   obtain ⟨t168, A60, H⟩ := H
   replace H : (if t168 = true then (some (decide ((l0_3.length : Int) ≤ 40))) else (some false)) = some r := H
   have A6 := mk_ A60
   clear A60
   by_cases c7 : t168 = true
   focus
    subst c7
    have H1 : (some (decide ((l0_3.length : Int) ≤ 40))) = some r := by rw [if_pos rfl] at H; exact H
    clear H
    have H := H1
    clear H1
    obtain rfl := Option.some.inj H
   rotate_left
   focus
    replace c7 := Bool.eq_false_iff.mpr c7
    subst c7
    have H1 : (some false) = some r := by rw [if_neg (show ¬ (false = true) by decide)] at H; exact H
    clear H
    have H := H1
    clear H1
    obtain rfl := Option.some.inj H
   rotate_left
  rotate_left 2
 rotate_left 3
 all_goals
  go_enter Try.func46, Try.ntmps46
  go_wp2_with (first | ((with_reducible refine gate_dst (N := 1) rfl ?_); refine box_event ?hg (N := 1) ?hd (cs := #[.int .i64 a0_0, .int .i64 a0_1, .int .i64 a0_2, .slice A0_3 l0_3.length c0_3]) (t := 40) ?hr ?_; (case hd => rfl); (case hg => rfl); (case hr => first | (go_simp; done) | (go_simp; rfl)); intro gb1760 hg w1761 hbox hb; have n0_ := mk_ (below_step (ub_ HB.out) hb); have BK165 := mk_ (hbox); have GW165 := mk_ ((by rw [hg]; exact (below_size (ub_ HB.out)) : w.heap.size ≤ gb1760)); have GE165 := ge_ ((by rw [hg]; exact (below_size (ub_ HB.out)) : w.heap.size ≤ gb1760)); replace HB := n0_; clear n0_; clear hb hbox hg; obtain ⟨hcz190165_0, hcz190165_1, hcz190165_2, hcz190165_3, hfz190165_0, hfz190165_1, hfz190165_2, hfz190165_3⟩ := cells4_ BK165.out) | ((with_reducible refine gate_callee (f := 78) rfl ?_); refine goesL_ (some 5) rfl rfl Try.func78 (by kernel_rfl) rfl #[.int .i64 a0_0] rfl (by (try simp only [lm_, lo_, ln_]); try rfl) ?_; (with_reducible refine (impl_word.calls a0_0 false _ A2.out).mono ?_); rintro e w' ⟨rfl, ⟨nd, rfl⟩⟩; refine ⟨_, rfl, ?_⟩) | ((with_reducible refine gate_callee (f := 78) rfl ?_); refine goesL_ (some 5) rfl rfl Try.func78 (by kernel_rfl) rfl #[.int .i64 a0_0] rfl (by (try simp only [lm_, lo_, ln_]); try rfl) ?_; (with_reducible refine (impl_word.calls a0_0 true _ A2.out).mono ?_); rintro e w' ⟨rfl, ⟨nd, rfl⟩⟩; refine ⟨_, rfl, ?_⟩) | (go_at_call 43; (with_reducible refine (impl_portOk.calls a0_1 false _ A4.out).mono ?_); rintro e w' ⟨rfl, ⟨nd, rfl⟩⟩) | (go_at_call 43; have hA_ := A4.out; (with_reducible refine (impl_portOk.calls a0_1 true _ A4.out).mono ?_); rintro e w' ⟨rfl, ⟨nd, rfl⟩⟩; clear hA_ A4) | (go_at_call 43; have hA_ := A6.out; (with_reducible refine (impl_portOk.calls a0_2 true _ A6.out).mono ?_); rintro e w' ⟨rfl, ⟨nd, rfl⟩⟩; clear hA_ A6) | (go_at_call 43; have hA_ := A6.out; (with_reducible refine (impl_portOk.calls a0_2 false _ A6.out).mono ?_); rintro e w' ⟨rfl, ⟨nd, rfl⟩⟩; clear hA_ A6))
  go_ret
  exact ⟨by first | rfl | (simp [errW_none, errW_some] <;> rfl) | (simp [*, errW_none, errW_some] <;> rfl), us_ HB.out⟩

-- impl_PortsOk_1: see impl.PortsOk

end Go.Proofs.Ytkkibccnpkbbjaa.MFnExactPortsOk
