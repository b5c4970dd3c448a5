/- Functions that the law FnExactNoteEchoed reaches, each with the proof that the machine's call comes to just its answer; no conditions but those that each theorem states. Printed by a program of this session over the kit's print. -/
import Derived.Test.YtgfaamcihlojdagMFnExactNoteEchoedx0
import Derived.Test.YtgfaamcihlojdagMFnExactNoteEchoedx5
namespace Go.Proofs.Ytgfaamcihlojdag.MFnExactNoteEchoed
open Go.RowKit Go.Proofs.YtgfaamcihlojdagV.PrintWords Go.Proofs.YtgfaamcihlojdagV.PrintLast Go.Proofs.YtgfaamcihlojdagV.PrintMore
attribute [local go_sem] max2_int min2_int max_two min_two max_three min_three max_four min_four   -- for this text's walks alone
set_option linter.unusedVariables false
set_option linter.unusedSimpArgs false

/-! ### impl_bytesOf: function 57 -/
def impl_bytesOf.l0 : Nat → Int → List Int → Int → Option (List Int)
 | 0, _, _, _ => none
 | k + 1, x0, x5, x6 => if x6 ≥ 0 then (if 0 ≤ x6 then (if x6 < (x5.length : Int) then (impl_bytesOf.l0 k (x0 / 256) (x5.set (x6 : Int).toNat ((x0) % 256)) (wrap64 (x6 - 1))) else (none)) else (none)) else (some x5)
def impl_bytesOf.f (k : Nat) (a0 : Int) (a1 : Int) : Option (List Int) := if 0 ≤ a1 then (if (a1 : Int).toNat ≤ 281474976710656 then (impl_bytesOf.l0 k a0 (List.replicate (a1 : Int).toNat 0) (wrap64 (a1 - 1))) else (none)) else (none)
theorem impl_bytesOf.mono_l : ∀ k, (∀ y0 y1 y2, LeO (impl_bytesOf.l0 k y0 y1 y2) (impl_bytesOf.l0 (k + 1) y0 y1 y2))
 | 0 => fun _ _ _ r h => by simp [impl_bytesOf.l0] at h
 | k + 1 => by
  have ih0 := impl_bytesOf.mono_l k
  ·intro y0 y1 y2
   unfold impl_bytesOf.l0
   repeat' first
   | (with_reducible exact ih0 _ _ _)
   | (with_reducible exact LeO.refl _)
   | (with_reducible exact LeO.none _)
   | (with_reducible refine LeO.ite ?_ ?_)
   | (with_reducible refine LeO.bind ?_ (fun _ => ?_))
   | exact ih0 _ _ _
   | exact LeO.none _
   | refine LeO.ite ?_ ?_
   | refine LeO.bind ?_ (fun _ => ?_)
theorem impl_bytesOf.mono : ∀ a0 a1 k, LeO (impl_bytesOf.f k a0 a1) (impl_bytesOf.f (k + 1) a0 a1) := by
 intro a0 a1 k
 have ih0 := impl_bytesOf.mono_l k
 unfold impl_bytesOf.f
 repeat' first
   | (with_reducible exact ih0 _ _ _)
   | (with_reducible exact LeO.refl _)
   | (with_reducible exact LeO.none _)
   | (with_reducible refine LeO.ite ?_ ?_)
   | (with_reducible refine LeO.bind ?_ (fun _ => ?_))
   | exact ih0 _ _ _
   | exact LeO.none _
   | refine LeO.ite ?_ ?_
   | refine LeO.bind ?_ (fun _ => ?_)
set_option maxHeartbeats 8000000 in
set_option maxRecDepth 100000 in
theorem impl_bytesOf.calls (k : Nat) (a0 : Int) (a1 : Int) (r : List Int) (w : World) (h : impl_bytesOf.f k a0 a1 = some r) :
  Calls Try.prog 57 #[.int .i64 a0, .int .i64 a1] w fun e w' => ∃ v0_ : Value, e = .returned (v0_) ∧ Kd.R (Kd.int .u8) 5 w' w.heap.size (fun _ => True) v0_ r ∧ Below w.heap.size w w' := by
 have HB := mk_ (Below.refl w.heap.size w)
 have H : (if 0 ≤ a1 then (if (a1 : Int).toNat ≤ 281474976710656 then (impl_bytesOf.l0 k a0 (List.replicate (a1 : Int).toNat 0) (wrap64 (a1 - 1))) else (none)) else (none)) = some r := h
 clear h
 by_cases c3 : 0 ≤ a1
 rotate_left
 ·rw [if_neg c3] at H
  exact absurd H (by simp)
 rw [if_pos c3] at H
 have c3b0 := eq_true c3
 have c3b1 : decide (0 ≤ a1) = true := decide_eq_true c3
 clear c3
 by_cases c4 : (a1 : Int).toNat ≤ 281474976710656
 rotate_left
 ·rw [if_neg c4] at H
  exact absurd H (by simp)
 rw [if_pos c4] at H
 have c4b0 := eq_true c4
 have c4b1 : decide ((a1 : Int).toNat ≤ 281474976710656) = true := decide_eq_true c4
 clear c4
 obtain ⟨y189, hy189⟩ : ∃ y_ : List Int, y_ = (List.replicate (a1 : Int).toNat 0) := ⟨_, rfl⟩
 replace H : (impl_bytesOf.l0 k a0 y189 (wrap64 (a1 - 1))) = some r := by first | (rw [hy189]; with_reducible exact H) | (have H2_ := (Option.bind_some _ _).symm.trans H; rw [hy189]; with_reducible exact H2_) | (have H2_ := (Option.bind_some _ _).symm.trans H; with_reducible exact H2_) | with_reducible exact H | (rw [hy189]; exact H) | exact H
 have Ny189 := mk_ hy189
 clear hy189
 have H' := mk_ H
 clear H
 go_enter Try.func57, Try.ntmps57
 go_wp2_with (first | ((with_reducible refine gate_dst (N := 8) rfl ?_); refine Kd.R_make (Kd.int .u8) _ 5 rfl (N := 8) rfl 22 _ _ rfl a1 rfl rfl Try.underlying22 (.int .u8 0) 1 info5 rfl (by decide) (by omega) 0 (ok := fun _ => True) (okp := fun _ => True) rfl (fun _ hk => hk) trivial (of_decide_eq_true (by first | (with_reducible assumption) | assumption)) (Nat.le_trans (Nat.mul_le_mul_right _ (of_decide_eq_true (by first | (with_reducible assumption) | assumption) : a1.toNat ≤ 281474976710656)) (by omega)) (Below.refl _ _) (Nat.le_refl _) ?_; intro v190 w5 ho6 hb hg_ hnew_; clear hg_ hnew_; (first | rw [← Ny189.out] at ho6 | (simp only [Int.reduceToNat] at ho6; rw [← Ny189.out] at ho6)); have n0_ := mk_ (Kd.R_lower ho6 (below_size (ub_ HB.out))); have n1_ := mk_ (below_step (ub_ HB.out) hb); clear HB; have HO191 := n0_; have HB := n1_; clear n0_ n1_; clear hb ho6))
 go_loopg [0, 6] k (fun kq v0 v6 w' => ∃ (x0_1 : Int) (x5_1 : List Int) (x6_1 : Int), v0 = .int .i64 x0_1 ∧ v6 = .int .i64 x6_1 ∧ Aside0 (impl_bytesOf.l0 kq x0_1 x5_1 x6_1 = some r) ∧ Aside0 (kq ≤ k) ∧ Aside0 (Kd.R (Kd.int .u8) 5 w' w.heap.size (fun _ => True) v190 x5_1) ∧ Aside0 (Below w.heap.size w w'))
 case atStart => exact ⟨(a0), (y189), (wrap64 (a1 - 1)), (by first | rfl | (simp; done) | (simp [*]; done)), (by first | rfl | (simp; done) | (simp [*]; done)), H', ⟨Nat.le_refl _⟩, ⟨Kd.ur_ HO191.out⟩, ⟨ub_ HB.out⟩⟩
 case round =>
  clear H'
  try clear p2
  try clear c3
  try clear c3b0
  try clear c3b1
  try clear c4
  try clear c4b0
  try clear c4b1
  try clear c5
  try clear p6
  obtain ⟨x0_1, x5_1, x6_1, rfl, rfl, HA, HK1, HO_5, HB⟩ := hrel
  cases gk with
  | zero => exact absurd HA.out (by simp [impl_bytesOf.l0])
  | succ k1 =>
   have H := HA.out
   clear HA
   simp only [impl_bytesOf.l0] at H
   by_cases c7 : x6_1 ≥ 0
   rotate_left
   ·rw [if_neg c7] at H
    have c7b0 : decide (0 ≤ x6_1) = false := decide_eq_false c7
    clear c7
    obtain rfl := Option.some.inj H
    go_wp2
    go_ret
    exact ⟨_, by first | rfl | (simp [errW_none, errW_some] <;> rfl) | (simp [*, errW_none, errW_some] <;> rfl), by (with_reducible repeat (first | apply Kd.R_alloc | apply Kd.R_drewN | apply Kd.R_drew)); exact HO_5.out, by repeat (first | (with_reducible first | exact HB.out | apply na_ | apply nn_ | apply nw_) | exact HB.out)⟩
   rw [if_pos c7] at H
   have c7b0 : decide (0 ≤ x6_1) = true := decide_eq_true c7
   clear c7
   by_cases c8 : 0 ≤ x6_1
   rotate_left
   ·rw [if_neg c8] at H
    exact absurd H (by simp)
   rw [if_pos c8] at H
   have c8b0 : decide (0 ≤ x6_1) = true := decide_eq_true c8
   clear c8
   by_cases c9 : x6_1 < (x5_1.length : Int)
   rotate_left
   ·rw [if_neg c9] at H
    exact absurd H (by simp)
   rw [if_pos c9] at H
   have c9b0 : decide (x6_1 < (x5_1.length : Int)) = true := decide_eq_true c9
   clear c9
   obtain ⟨y192, hy192⟩ : ∃ y_ : List Int, y_ = (x5_1.set (x6_1 : Int).toNat ((x0_1) % 256)) := ⟨_, rfl⟩
   replace H : (impl_bytesOf.l0 k1 (x0_1 / 256) y192 (wrap64 (x6_1 - 1))) = some r := by first | (rw [hy192]; with_reducible exact H) | (have H2_ := (Option.bind_some _ _).symm.trans H; rw [hy192]; with_reducible exact H2_) | (have H2_ := (Option.bind_some _ _).symm.trans H; with_reducible exact H2_) | with_reducible exact H | (rw [hy192]; exact H) | exact H
   have Ny192 := mk_ hy192
   clear hy192
   have H' := mk_ H
   clear H
   have p10 : 0 ≤ (x6_1 : Int) := of_decide_eq_true (by first | (with_reducible assumption) | assumption)
   have q10 : (x6_1 : Int) < ((x5_1.length : Int) : Int) := of_decide_eq_true (by first | (with_reducible assumption) | assumption)
   obtain ⟨go10, co10, eo10, gb10, gl10, cl10, HG10⟩ := Kd.R_form HO_5.out (by omega)
   (first | cases eo10 | (injection eo10 with ea_ en_ ec_; (first | subst ea_ | (injection ea_ with ea_; subst ea_)); subst ec_; clear en_))
   have GB10 := mk_ gb10
   have GG10 := mk_ HG10
   clear gb10 gl10 HG10
   obtain ⟨hx10_0, hf10_0⟩ := Kd.R_celln 0 HO_5.out (x6_1 : Int) p10 q10
   replace p10 := eq_true p10
   replace q10 := eq_true q10
   have HP11 := Kd.R_putg HO_5.out (x6_1 : Int) ((x0_1) % 256)
   go_wp2_with (first | ((with_reducible refine gate_store (t := 5) (p := 19) rfl ?_); refine store_event (t := 5) (p := 19) (v := ?vo_w12) (w1 := (wr.setCell ⟨go10, (x6_1 : Int).toNat, none⟩ (.int .u8 ((x0_1) % 256)))) ?hg ?ho ?hn ?hr ?_; (case ho => rfl); (case hg => rfl); (case hn => rfl); (case hr => first | (go_simp; done) | (go_simp; rfl)); intro w12 hw; have hg : wr.grownBy w12 (some go10) := (by rw [hw]; exact HP11.2); have hp_ : Kd.R (Kd.int .u8) 5 w12 w.heap.size (fun _ => True) (.slice (some ⟨go10, 0, none⟩) x5_1.length co10) y192 := (by rw [hw, Ny192.out]; exact HP11.1); clear HP11; have n0_ := mk_ (hp_); have n1_ := mk_ ((by rw [hw]; exact below_set (HB.out) GB10.out : Below w.heap.size w w12)); clear HO_5; clear HB; have HO_5 := n0_; have HB := n1_; clear n0_ n1_; clear hg hw hp_))
   go_roundg k1
   case measure => have := HK1.out; omega
   case rel => exact ⟨(x0_1 / 256), (y192), (wrap64 (x6_1 - 1)), (by first | rfl | (simp; done) | (simp [*]; done)), (by first | rfl | (simp; done) | (simp [*]; done)), H', ⟨by have := HK1.out; omega⟩, ⟨Kd.ur_ HO_5.out⟩, ⟨ub_ HB.out⟩⟩

/-! ### impl_word: function 55 -/
def impl_word.f (a0 : Int) : Option (Bool) := (impl_in.f a0 0 65535).bind fun t193 => (some t193)
set_option maxHeartbeats 8000000 in
set_option maxRecDepth 100000 in
theorem impl_word.calls (a0 : Int) (r : Bool) (w : World) (h : impl_word.f a0 = some r) :
  Calls Try.prog 55 #[.int .i64 a0] w fun e w' => e = .returned (.bool r) ∧ Drawn0 w w' := by
 have H : ((impl_in.f a0 0 65535).bind fun t193 => (some t193)) = some r := h
 clear h
 replace H := Option.bind_eq_some_iff.mp H
 obtain ⟨t193, A20, H⟩ := H
 replace H : (some t193) = some r := H
 have A2 := mk_ A20
 clear A20
 obtain rfl := Option.some.inj H
 go_enter Try.func55, Try.ntmps55
 go_wp2_with (first | ((with_reducible refine gate_callee (f := 70) rfl ?_); refine goesL_ (some 4) rfl rfl Try.func70 (by kernel_rfl) rfl #[.int .i64 a0, .int .i64 0, .int .i64 65535] rfl (by (try simp only [lm_, lo_, ln_]); first | done | rfl | (simp only [List.length_drop, List.length_take]; rfl)) ?_; (with_reducible refine (impl_in.calls a0 0 65535 t193 _ A2.out).mono ?_); rintro e w' ⟨rfl, ⟨nd, rfl⟩⟩; refine ⟨_, rfl, ?_⟩))
 go_ret
 exact ⟨by first | rfl | (simp; done) | (simp [*]; done), by repeat (first | exact Drawn0.refl _ | apply Drawn0.step)⟩

/-! ### impl_NoteOk: function 104 -/
def impl_NoteOk.f (a0_0 : Int) (a0_1 : Int) (l0_2 : List Int) : Option (Bool) := (impl_in.f a0_0 1 6).bind fun t195 => (if t195 = true then ((impl_word.f a0_1).bind fun t196 => (if t196 = true then (some (decide ((l0_2.length : Int) ≤ 20))) else (some false))) else (some false))
set_option maxHeartbeats 8000000 in
set_option maxRecDepth 100000 in
theorem impl_NoteOk.calls (a0_0 : Int) (a0_1 : Int) (A0_2 : Option Addr) (c0_2 : Nat) (l0_2 : List Int) (r : Bool) (w : World) (hr0_2 : Kd.C (Kd.int .u8) w A0_2 l0_2.length l0_2) (hc0_2 : l0_2.length ≤ c0_2) (h : impl_NoteOk.f a0_0 a0_1 l0_2 = some r) :
  Calls Try.prog 104 #[.agg #[.int .i64 a0_0, .int .i64 a0_1, .slice A0_2 l0_2.length c0_2]] w fun e w' => e = .returned (.bool r) ∧ Below w.heap.size w w' := by
 have hu63 := Try.underlying63
 have HR0_2 := mk_ hr0_2
 have HC0_2 := mk_ hc0_2
 clear hr0_2 hc0_2
 have HB := mk_ (Below.refl w.heap.size w)
 have H : ((impl_in.f a0_0 1 6).bind fun t195 => (if t195 = true then ((impl_word.f a0_1).bind fun t196 => (if t196 = true then (some (decide ((l0_2.length : Int) ≤ 20))) else (some false))) else (some false))) = some r := h
 clear h
 replace H := Option.bind_eq_some_iff.mp H
 obtain ⟨t195, A20, H⟩ := H
 replace H : (if t195 = true then ((impl_word.f a0_1).bind fun t196 => (if t196 = true then (some (decide ((l0_2.length : Int) ≤ 20))) else (some false))) else (some false)) = some r := H
 have A2 := mk_ A20
 clear A20
 by_cases c3 : t195 = true
 rotate_left
 ·replace c3 := Bool.eq_false_iff.mpr c3
  subst c3
  have H1 : (some false) = some r := by rw [if_neg (show ¬ (false = true) by decide)] at H; exact H
  clear H
  have H := H1
  clear H1
  obtain rfl := Option.some.inj H
  go_enter Try.func104, Try.ntmps104
  go_wp2_with (first | ((with_reducible refine gate_dst (N := 1) rfl ?_); refine box_event ?hg (N := 1) ?hd (cs := #[.int .i64 a0_0, .int .i64 a0_1, .slice A0_2 l0_2.length c0_2]) (t := 63) ?hr ?_; (case hd => rfl); (case hg => rfl); (case hr => first | (go_simp; done) | (go_simp; rfl)); intro gb194 hg w10 hbox hb; have n0_ := mk_ (below_step (ub_ HB.out) hb); have n1_ := mk_ (hbox); have n2_ := mk_ ((by rw [hg]; exact (below_size (ub_ HB.out)) : w.heap.size ≤ gb194)); have n3_ := mk_ ((by rw [hg]; exact (below_size (ub_ HB.out)) : w.heap.size ≤ gb194)); clear HB; have HB := n0_; have BK194 := n1_; have GW194 := n2_; have GE194 := ge_ n3_.out; clear n0_ n1_ n2_ n3_; clear hb hbox hg; obtain ⟨hcz11_0, hcz11_1, hcz11_2, hfz11_0, hfz11_1, hfz11_2⟩ := cells3_ BK194.out) | ((with_reducible refine gate_callee (f := 70) rfl ?_); refine goesL_ (some 5) rfl rfl Try.func70 (by kernel_rfl) rfl #[.int .i64 a0_0, .int .i64 1, .int .i64 6] rfl (by (try simp only [lm_, lo_, ln_]); first | done | rfl | (simp only [List.length_drop, List.length_take]; rfl)) ?_; (with_reducible refine (impl_in.calls a0_0 1 6 false _ A2.out).mono ?_); rintro e w' ⟨rfl, ⟨nd, rfl⟩⟩; refine ⟨_, rfl, ?_⟩))
  go_ret
  exact ⟨by first | rfl | (simp [errW_none, errW_some] <;> rfl) | (simp [*, errW_none, errW_some] <;> rfl), us_ HB.out⟩
 subst c3
 have H1 : ((impl_word.f a0_1).bind fun t196 => (if t196 = true then (some (decide ((l0_2.length : Int) ≤ 20))) else (some false))) = some r := by rw [if_pos rfl] at H; exact H
 clear H
 have H := H1
 clear H1
 replace H := Option.bind_eq_some_iff.mp H
 obtain ⟨t196, A40, H⟩ := H
 replace H : (if t196 = true then (some (decide ((l0_2.length : Int) ≤ 20))) else (some false)) = some r := H
 have A4 := mk_ A40
 clear A40
 by_cases c5 : t196 = true
 ·subst c5
  have H1 : (some (decide ((l0_2.length : Int) ≤ 20))) = some r := by rw [if_pos rfl] at H; exact H
  clear H
  have H := H1
  clear H1
  obtain rfl := Option.some.inj H
  go_enter Try.func104, Try.ntmps104
  go_wp2_with (first | ((with_reducible refine gate_dst (N := 1) rfl ?_); refine box_event ?hg (N := 1) ?hd (cs := #[.int .i64 a0_0, .int .i64 a0_1, .slice A0_2 l0_2.length c0_2]) (t := 63) ?hr ?_; (case hd => rfl); (case hg => rfl); (case hr => first | (go_simp; done) | (go_simp; rfl)); intro gb194 hg w6 hbox hb; have n0_ := mk_ (below_step (ub_ HB.out) hb); have n1_ := mk_ (hbox); have n2_ := mk_ ((by rw [hg]; exact (below_size (ub_ HB.out)) : w.heap.size ≤ gb194)); have n3_ := mk_ ((by rw [hg]; exact (below_size (ub_ HB.out)) : w.heap.size ≤ gb194)); clear HB; have HB := n0_; have BK194 := n1_; have GW194 := n2_; have GE194 := ge_ n3_.out; clear n0_ n1_ n2_ n3_; clear hb hbox hg; obtain ⟨hcz7_0, hcz7_1, hcz7_2, hfz7_0, hfz7_1, hfz7_2⟩ := cells3_ BK194.out) | ((with_reducible refine gate_callee (f := 70) rfl ?_); refine goesL_ (some 5) rfl rfl Try.func70 (by kernel_rfl) rfl #[.int .i64 a0_0, .int .i64 1, .int .i64 6] rfl (by (try simp only [lm_, lo_, ln_]); first | done | rfl | (simp only [List.length_drop, List.length_take]; rfl)) ?_; (with_reducible refine (impl_in.calls a0_0 1 6 true _ A2.out).mono ?_); rintro e w' ⟨rfl, ⟨nd, rfl⟩⟩; refine ⟨_, rfl, ?_⟩) | (go_at_call 55; (with_reducible refine (impl_word.calls a0_1 true _ A4.out).mono ?_); rintro e w' ⟨rfl, ⟨nd, rfl⟩⟩))
  go_ret
  exact ⟨by first | rfl | (simp [errW_none, errW_some] <;> rfl) | (simp [*, errW_none, errW_some] <;> rfl), us_ HB.out⟩
 replace c5 := Bool.eq_false_iff.mpr c5
 subst c5
 have H1 : (some false) = some r := by rw [if_neg (show ¬ (false = true) by decide)] at H; exact H
 clear H
 have H := H1
 clear H1
 obtain rfl := Option.some.inj H
 go_enter Try.func104, Try.ntmps104
 go_wp2_with (first | ((with_reducible refine gate_dst (N := 1) rfl ?_); refine box_event ?hg (N := 1) ?hd (cs := #[.int .i64 a0_0, .int .i64 a0_1, .slice A0_2 l0_2.length c0_2]) (t := 63) ?hr ?_; (case hd => rfl); (case hg => rfl); (case hr => first | (go_simp; done) | (go_simp; rfl)); intro gb194 hg w8 hbox hb; have n0_ := mk_ (below_step (ub_ HB.out) hb); have n1_ := mk_ (hbox); have n2_ := mk_ ((by rw [hg]; exact (below_size (ub_ HB.out)) : w.heap.size ≤ gb194)); have n3_ := mk_ ((by rw [hg]; exact (below_size (ub_ HB.out)) : w.heap.size ≤ gb194)); clear HB; have HB := n0_; have BK194 := n1_; have GW194 := n2_; have GE194 := ge_ n3_.out; clear n0_ n1_ n2_ n3_; clear hb hbox hg; obtain ⟨hcz9_0, hcz9_1, hcz9_2, hfz9_0, hfz9_1, hfz9_2⟩ := cells3_ BK194.out) | ((with_reducible refine gate_callee (f := 70) rfl ?_); refine goesL_ (some 5) rfl rfl Try.func70 (by kernel_rfl) rfl #[.int .i64 a0_0, .int .i64 1, .int .i64 6] rfl (by (try simp only [lm_, lo_, ln_]); first | done | rfl | (simp only [List.length_drop, List.length_take]; rfl)) ?_; (with_reducible refine (impl_in.calls a0_0 1 6 true _ A2.out).mono ?_); rintro e w' ⟨rfl, ⟨nd, rfl⟩⟩; refine ⟨_, rfl, ?_⟩) | (go_at_call 55; (with_reducible refine (impl_word.calls a0_1 false _ A4.out).mono ?_); rintro e w' ⟨rfl, ⟨nd, rfl⟩⟩))
 go_ret
 exact ⟨by first | rfl | (simp [errW_none, errW_some] <;> rfl) | (simp [*, errW_none, errW_some] <;> rfl), us_ HB.out⟩

/-! ### impl_NoteBytes: function 78 -/
def impl_NoteBytes.f (k : Nat) (a0_0 : Int) (a0_1 : Int) (l0_2 : List Int) : Option (List Int) := (impl_NoteOk.f a0_0 a0_1 l0_2).bind fun t198 => (if t198 = true then ((impl_bytesOf.f k a0_1 2).bind fun t202 => ((slices_Concat_byte_byte.f (([(([(a0_0) % 256] : List Int)), t202, (([((l0_2.length : Int)) % 256] : List Int)), l0_2] : List (List Int)))).bind fun t211 => (some t211))) else (some ([] : List Int)))
theorem impl_NoteBytes.mono : ∀ a0 a1 a2 k, LeO (impl_NoteBytes.f k a0 a1 a2) (impl_NoteBytes.f (k + 1) a0 a1 a2) := by
 intro a0 a1 a2 k
 unfold impl_NoteBytes.f
 repeat' first
   | (with_reducible exact impl_bytesOf.mono _ _ _)
   | (with_reducible exact LeO.refl _)
   | (with_reducible exact LeO.none _)
   | (with_reducible refine LeO.ite ?_ ?_)
   | (with_reducible refine LeO.bind ?_ (fun _ => ?_))
   | exact impl_bytesOf.mono _ _ _
   | exact LeO.none _
   | refine LeO.ite ?_ ?_
   | refine LeO.bind ?_ (fun _ => ?_)
def impl_NoteBytes.T3 : Bool × List (List Nat × List Nat) := (true, [([], []), ([0], [0]), ([1], [1]), ([2], [2]), ([], []), ([4], [4]), ([5], [5]), ([], []), ([7], [7]), ([8], [8]), ([9], [9]), ([10], [10]), ([], []), ([12], [12]), ([3, 6, 11, 13], [3, 6, 11, 13]), ([14, 6], [14]), ([15, 15, 0, 1, 2, 3, 4, 5, 6, 7, 8, 9, 10, 11, 12, 13, 14, 15], [15])])
def impl_NoteBytes.B3 : List Nat := [0, 1, 3, 7, 0, 16, 48, 0, 128, 384, 896, 1920, 0, 4096, 16383, 32767, 65535]
theorem impl_NoteBytes.tab3 : rtab .any (opsOf Try.f78 3) = impl_NoteBytes.T3 := by kernel_rfl
theorem impl_NoteBytes.bits3 : waitsOk impl_NoteBytes.T3.2 impl_NoteBytes.B3 = true := by kernel_rfl
set_option maxHeartbeats 8000000 in
set_option maxRecDepth 100000 in
theorem impl_NoteBytes.calls (k : Nat) (a0_0 : Int) (a0_1 : Int) (P0_2_ : Nat → Prop) (A0_2 : Option Addr) (c0_2 : Nat) (l0_2 : List Int) (r : List Int) (w : World) (hs0_2 : Kd.V (Kd.int .u8) 5 w w.heap.size (fun k_ => P0_2_ k_) (.slice A0_2 l0_2.length c0_2) l0_2) (h : impl_NoteBytes.f k a0_0 a0_1 l0_2 = some r) :
  Calls Try.prog 78 #[.agg #[.int .i64 a0_0, .int .i64 a0_1, .slice A0_2 l0_2.length c0_2]] w fun e w' => ∃ v0_ : Value, e = .returned (v0_) ∧ Kd.R (Kd.int .u8) 5 w' w.heap.size (fun k_ => (w.heap.size ≤ k_)) v0_ r ∧ Below w.heap.size w w' := by
 have hu63 := Try.underlying63
 have HO0_2 := mk_ (show Kd.V (Kd.int .u8) 5 w w.heap.size (fun k_ => (P0_2_ k_ ∨ w.heap.size ≤ k_)) (.slice A0_2 l0_2.length c0_2) l0_2 from Kd.V_mono hs0_2 (fun k_ hk => .inl hk))
 have HB := mk_ (Below.refl w.heap.size w)
 have H : ((impl_NoteOk.f a0_0 a0_1 l0_2).bind fun t198 => (if t198 = true then ((impl_bytesOf.f k a0_1 2).bind fun t202 => ((slices_Concat_byte_byte.f (([(([(a0_0) % 256] : List Int)), t202, (([((l0_2.length : Int)) % 256] : List Int)), l0_2] : List (List Int)))).bind fun t211 => (some t211))) else (some ([] : List Int)))) = some r := h
 clear h
 replace H := Option.bind_eq_some_iff.mp H
 obtain ⟨t198, A20, H⟩ := H
 replace H : (if t198 = true then ((impl_bytesOf.f k a0_1 2).bind fun t202 => ((slices_Concat_byte_byte.f (([(([(a0_0) % 256] : List Int)), t202, (([((l0_2.length : Int)) % 256] : List Int)), l0_2] : List (List Int)))).bind fun t211 => (some t211))) else (some ([] : List Int))) = some r := H
 have A2 := mk_ A20
 clear A20
 by_cases c3 : t198 = true
 rotate_left
 ·replace c3 := Bool.eq_false_iff.mpr c3
  subst c3
  have H1 : (some ([] : List Int)) = some r := by rw [if_neg (show ¬ (false = true) by decide)] at H; exact H
  clear H
  have H := H1
  clear H1
  obtain rfl := Option.some.inj H
  go_enter Try.func78, Try.ntmps78
  go_wp2_with (first | ((with_reducible refine gate_dst (N := 1) rfl ?_); refine box_event ?hg (N := 1) ?hd (cs := #[.int .i64 a0_0, .int .i64 a0_1, .slice A0_2 l0_2.length c0_2]) (t := 63) ?hr ?_; (case hd => rfl); (case hg => rfl); (case hr => first | (go_simp; done) | (go_simp; rfl)); intro gb197 hg w23 hbox hb; have n0_ := mk_ (Kd.V_below (Kd.V_elderB (by (with_reducible repeat (first | apply Kd.V_alloc | apply Kd.V_drewN | apply Kd.V_drew)); exact HO0_2.out) gb197 (Nat.le_of_eq hg.symm)) hb); have n1_ := mk_ (below_step (ub_ HB.out) hb); have n2_ := mk_ (hbox); have n3_ := mk_ ((by rw [hg]; exact (below_size (ub_ HB.out)) : w.heap.size ≤ gb197)); have n4_ := mk_ ((by rw [hg]; exact (below_size (ub_ HB.out)) : w.heap.size ≤ gb197)); clear HO0_2; clear HB; have HO0_2 := n0_; have HB := n1_; have BK197 := n2_; have GW197 := n3_; have GE197 := ge_ n4_.out; clear n0_ n1_ n2_ n3_ n4_; clear hb hbox hg; obtain ⟨hcz24_0, hcz24_1, hcz24_2, hfz24_0, hfz24_1, hfz24_2⟩ := cells3_ BK197.out) | ((with_reducible refine gate_callee (f := 104) rfl ?_); refine goesL_ (some 4) rfl rfl Try.func104 (by kernel_rfl) rfl #[.agg #[.int .i64 a0_0, .int .i64 a0_1, .slice A0_2 l0_2.length c0_2]] rfl (by (try simp only [lm_, lo_, ln_]); first | done | rfl | (simp only [List.length_drop, List.length_take]; rfl)) ?_; (with_reducible refine (impl_NoteOk.calls a0_0 a0_1 _ _ l0_2 false _ ?side1 ?side2 A2.out).mono ?_); (case side1 => repeat (first | exact (Kd.V_reads' HO0_2.out).2.2 | (with_reducible refine Kd.C_alloc ?_ _) | (with_reducible refine Kd.C_drewN ?_ _) | (with_reducible refine Kd.C_drew ?_))); (case side2 => exact (Kd.V_reads' HO0_2.out).2.1); rintro e w25 ⟨rfl, hb⟩; refine ⟨_, rfl, ?_⟩; have n0_ := mk_ (Kd.V_below (by (with_reducible repeat (first | apply Kd.V_alloc | apply Kd.V_drewN | apply Kd.V_drew)); exact HO0_2.out) hb); have n1_ := mk_ (blk_below (u_ BK197.out) hb); have n2_ := mk_ (below_step (us_ HB.out) hb); clear HO0_2; clear BK197; clear HB; have HO0_2 := n0_; have BK197 := n1_; have HB := n2_; clear n0_ n1_ n2_; (try clear hb); (try clear hb2); (try clear hk); (try clear hi)))
  go_ret
  exact ⟨_, by first | rfl | (simp [errW_none, errW_some] <;> rfl) | (simp [*, errW_none, errW_some] <;> rfl), by first | exact Kd.R_nil _ _ _ _ _ | exact Kd.N_nil _ _ _ _ _ | exact Kd.V_nil _ _ _ _ _ | exact Kd.Q_nil _ _ _ _ _ | exact Kd.S_nil _ _ _ _ _, us_ HB.out⟩
 subst c3
 have H1 : ((impl_bytesOf.f k a0_1 2).bind fun t202 => ((slices_Concat_byte_byte.f (([(([(a0_0) % 256] : List Int)), t202, (([((l0_2.length : Int)) % 256] : List Int)), l0_2] : List (List Int)))).bind fun t211 => (some t211))) = some r := by rw [if_pos rfl] at H; exact H
 clear H
 have H := H1
 clear H1
 obtain ⟨y199, hy199⟩ : ∃ y_ : List Int, y_ = (([(a0_0) % 256] : List Int)) := ⟨_, rfl⟩
 replace H : ((impl_bytesOf.f k a0_1 2).bind fun t202 => ((slices_Concat_byte_byte.f (([y199, t202, (([((l0_2.length : Int)) % 256] : List Int)), l0_2] : List (List Int)))).bind fun t211 => (some t211))) = some r := by first | (rw [hy199]; with_reducible exact H) | (have H2_ := (Option.bind_some _ _).symm.trans H; rw [hy199]; with_reducible exact H2_) | (have H2_ := (Option.bind_some _ _).symm.trans H; with_reducible exact H2_) | with_reducible exact H | (rw [hy199]; exact H) | exact H
 have Ny199 := mk_ hy199
 clear hy199
 replace H := Option.bind_eq_some_iff.mp H
 obtain ⟨t202, A40, H⟩ := H
 replace H : ((slices_Concat_byte_byte.f (([y199, t202, (([((l0_2.length : Int)) % 256] : List Int)), l0_2] : List (List Int)))).bind fun t211 => (some t211)) = some r := H
 have A4 := mk_ A40
 clear A40
 obtain ⟨y205, hy205⟩ : ∃ y_ : List Int, y_ = (([((l0_2.length : Int)) % 256] : List Int)) := ⟨_, rfl⟩
 replace H : ((slices_Concat_byte_byte.f (([y199, t202, y205, l0_2] : List (List Int)))).bind fun t211 => (some t211)) = some r := by first | (rw [hy205]; with_reducible exact H) | (have H2_ := (Option.bind_some _ _).symm.trans H; rw [hy205]; with_reducible exact H2_) | (have H2_ := (Option.bind_some _ _).symm.trans H; with_reducible exact H2_) | with_reducible exact H | (rw [hy205]; exact H) | exact H
 have Ny205 := mk_ hy205
 clear hy205
 obtain ⟨y208, hy208⟩ : ∃ y_ : List (List Int), y_ = (([y199, t202, y205, l0_2] : List (List Int))) := ⟨_, rfl⟩
 replace H : ((slices_Concat_byte_byte.f y208).bind fun t211 => (some t211)) = some r := by first | (rw [hy208]; with_reducible exact H) | (have H2_ := (Option.bind_some _ _).symm.trans H; rw [hy208]; with_reducible exact H2_) | (have H2_ := (Option.bind_some _ _).symm.trans H; with_reducible exact H2_) | with_reducible exact H | (rw [hy208]; exact H) | exact H
 have Ny208 := mk_ hy208
 clear hy208
 replace H := Option.bind_eq_some_iff.mp H
 obtain ⟨t211, A50, H⟩ := H
 replace H : (some t211) = some r := H
 have A5 := mk_ A50
 clear A50
 obtain rfl := Option.some.inj H
 go_enter Try.func78, Try.ntmps78
 try go_wp2_with (first | ((with_reducible refine gate_dst (N := 1) rfl ?_); refine box_event ?hg (N := 1) ?hd (cs := #[.int .i64 a0_0, .int .i64 a0_1, .slice A0_2 l0_2.length c0_2]) (t := 63) ?hr ?_; (case hd => rfl); (case hg => rfl); (case hr => first | (go_simp; done) | (go_simp; rfl)); intro gb197 hg w6 hbox hb; have n0_ := mk_ (Kd.V_below (Kd.V_elderB (by (with_reducible repeat (first | apply Kd.V_alloc | apply Kd.V_drewN | apply Kd.V_drew)); exact HO0_2.out) gb197 (Nat.le_of_eq hg.symm)) hb); have n1_ := mk_ (below_step (ub_ HB.out) hb); have n2_ := mk_ (hbox); have n3_ := mk_ ((by rw [hg]; exact (below_size (ub_ HB.out)) : w.heap.size ≤ gb197)); have n4_ := mk_ ((by rw [hg]; exact (below_size (ub_ HB.out)) : w.heap.size ≤ gb197)); clear HO0_2; clear HB; have HO0_2 := n0_; have HB := n1_; have BK197 := n2_; have GW197 := n3_; have GE197 := ge_ n4_.out; clear n0_ n1_ n2_ n3_ n4_; clear hb hbox hg; obtain ⟨hcz7_0, hcz7_1, hcz7_2, hfz7_0, hfz7_1, hfz7_2⟩ := cells3_ BK197.out) | ((with_reducible refine gate_callee (f := 104) rfl ?_); refine goesL_ (some 4) rfl rfl Try.func104 (by kernel_rfl) rfl #[.agg #[.int .i64 a0_0, .int .i64 a0_1, .slice A0_2 l0_2.length c0_2]] rfl (by (try simp only [lm_, lo_, ln_]); first | done | rfl | (simp only [List.length_drop, List.length_take]; rfl)) ?_; (with_reducible refine (impl_NoteOk.calls a0_0 a0_1 _ _ l0_2 true _ ?side1 ?side2 A2.out).mono ?_); (case side1 => repeat (first | exact (Kd.V_reads' HO0_2.out).2.2 | (with_reducible refine Kd.C_alloc ?_ _) | (with_reducible refine Kd.C_drewN ?_ _) | (with_reducible refine Kd.C_drew ?_))); (case side2 => exact (Kd.V_reads' HO0_2.out).2.1); rintro e w8 ⟨rfl, hb⟩; refine ⟨_, rfl, ?_⟩; have n0_ := mk_ (Kd.V_below (by (with_reducible repeat (first | apply Kd.V_alloc | apply Kd.V_drewN | apply Kd.V_drew)); exact HO0_2.out) hb); have n1_ := mk_ (blk_below (u_ BK197.out) hb); have n2_ := mk_ (below_step (us_ HB.out) hb); clear HO0_2; clear BK197; clear HB; have HO0_2 := n0_; have BK197 := n1_; have HB := n2_; clear n0_ n1_ n2_; (try clear hb); (try clear hb2); (try clear hk); (try clear hi)))
 have n0_ := mk_ (Kd.V_drew HO0_2.out)
 have n1_ := mk_ (blk_drew BK197.out)
 have n2_ := mk_ (below_drew1 HB.out)
 clear HO0_2
 clear BK197
 clear HB
 have HO0_2 := n0_
 have BK197 := n1_
 have HB := n2_
 clear n0_ n1_ n2_
 refine start_ (n := 17) (S := fun w' => True) (ds := []) #[F_, F_, F_, F_, F_, F_, F_, F_, F_, F_, F_, F_, F_, F_, F_, F_, F_] (by kernel_rfl) rfl rfl trivial (fun hHeld => ?_); refine with_tabW impl_NoteBytes.tab3 impl_NoteBytes.bits3 (fun HT_ HW_ => ?_)
 generalize w8.drew = w9 at HO0_2 BK197 HB hHeld ⊢
 refine pure_ (i := 0) (N := some 6) (v := ?_) (a' := ?_) #[T_, F_, F_, F_, F_, F_, F_, F_, F_, F_, F_, F_, F_, F_, F_, F_, F_] rfl rfl (any_of HT_.out (by kernel_rfl)) (fun _ _ _ h => h) (Or.inl ⟨by rfl, ?_⟩) ?_ ?_
 rotate_left
 ·intro w'
  go_simp
  with_reducible rfl
 rotate_left
 ·simp only [Act.put, la_, lz_, ls_, i64_w, i32_w]
  rfl
 refine pure_ (i := 4) (N := some 10) (v := ?_) (a' := ?_) #[T_, F_, F_, F_, T_, F_, F_, F_, F_, F_, F_, F_, F_, F_, F_, F_, F_] rfl rfl (any_of HT_.out (by kernel_rfl)) (fun _ _ _ h => h) (Or.inl ⟨by rfl, ?_⟩) ?_ ?_
 rotate_left
 ·intro w'
  go_simp
  with_reducible rfl
 rotate_left
 ·simp only [Act.put, la_, lz_, ls_, i64_w, i32_w]
  rfl
 refine pure_ (i := 7) (N := some 13) (v := ?_) (a' := ?_) #[T_, F_, F_, F_, T_, F_, F_, T_, F_, F_, F_, F_, F_, F_, F_, F_, F_] rfl rfl (any_of HT_.out (by kernel_rfl)) (fun _ _ _ h => h) (Or.inl ⟨by rfl, ?_⟩) ?_ ?_
 rotate_left
 ·intro w'
  go_simp
  with_reducible rfl
 rotate_left
 ·simp only [Act.put, la_, lz_, ls_, i64_w, i32_w]
  rfl
 refine pure_ (i := 12) (N := some 18) (v := ?_) (a' := ?_) #[T_, F_, F_, F_, T_, F_, F_, T_, F_, F_, F_, F_, T_, F_, F_, F_, F_] rfl rfl (any_of HT_.out (by kernel_rfl)) (fun _ _ _ h => h) (Or.inl ⟨by rfl, ?_⟩) ?_ ?_
 rotate_left
 ·intro w'
  go_simp
  with_reducible rfl
 rotate_left
 ·simp only [Act.put, la_, lz_, ls_, i64_w, i32_w]
  rfl
 refine inv_at [1, 2, 3, 5, 6, 8, 9, 10, 11, 13, 14, 15, 16] (fun a0_ b a w' => ∃ (v200 : Value) (v203 : Value) (v206 : Value) (v209 : Value) (v212 : Value) (m16_ : Value), a = putSel a0_ b [(1, 7, .int .i64 a0_0), (2, 8, .int .u8 ((a0_0) % 256)), (3, 9, v200), (5, 11, .int .i64 a0_1), (6, 12, v203), (8, 14, .slice A0_2 l0_2.length c0_2), (9, 15, .int .i64 (l0_2.length : Int)), (10, 16, .int .u8 (((l0_2.length : Int)) % 256)), (11, 17, v206), (13, 19, .slice A0_2 l0_2.length c0_2), (14, 20, v209), (15, 21, v212), (16, 2, m16_)] ∧ (Kd.V (Kd.int .u8) 5 w' w.heap.size (fun k_ => (P0_2_ k_ ∨ w.heap.size ≤ k_) ∧ k_ ≠ gb197) (.slice A0_2 l0_2.length c0_2) l0_2) ∧ (w'.heap[gb197]? = some (.cells #[.int .i64 a0_0, .int .i64 a0_1, .slice A0_2 l0_2.length c0_2] 63 (0, 0))) ∧ (Below w.heap.size w w') ∧ (b 3 = true → b 14 = false → Kd.R (Kd.int .u8) 5 w' w.heap.size (fun k_ => (w.heap.size ≤ k_)) v200 y199) ∧ (b 6 = true → b 14 = false → Kd.R (Kd.int .u8) 5 w' w.heap.size (fun k_ => (w.heap.size ≤ k_)) v203 t202) ∧ (b 11 = true → b 14 = false → Kd.R (Kd.int .u8) 5 w' w.heap.size (fun k_ => (w.heap.size ≤ k_)) v206 y205) ∧ (b 14 = true → Kd.N (Kd.slice 5 (Kd.int .u8)) 22 w' w.heap.size (fun k_ => (P0_2_ k_ ∨ w.heap.size ≤ k_) ∧ k_ ≠ gb197) v209 y208) ∧ (b 15 = true → Kd.R (Kd.int .u8) 5 w' w.heap.size (fun k_ => (w.heap.size ≤ k_)) v212 t211) ∧ (b 16 = true → (m16_ : Value) = v212)) HT_.out HW_.out (by kernel_rfl) (by kernel_rfl) ?_ ?_ ?_
 ·exact ⟨.bool false, .bool false, .bool false, .bool false, .bool false, .bool false, by simp only [putSel, Bool.false_eq_true, if_false], HO0_2.out, BK197.out, HB.out, fun h_ => absurd h_ (by decide), fun h_ => absurd h_ (by decide), fun h_ => absurd h_ (by decide), fun h_ => absurd h_ (by decide), fun h_ => absurd h_ (by decide), fun h_ => absurd h_ (by decide)⟩
 ·skip
  clear BK197 HB HO0_2
  refine steps_cons ?_ ?_
  ·rintro b a w' ⟨v200, v203, v206, v209, v212, m16_, ha, Q_HO0_2, Q_BK197, Q_HB, Q_HO201, Q_HO204, Q_HO207, Q_HO210, Q_HO213, Q_X16_⟩ hb_ hon hoff
   refine ⟨_, rfl, fun K hK => ?_⟩
   have e6 : a.tmps[6]? = some (.pointer (some ⟨gb197, 0, none⟩)) := by rw [ha]; exact (putSel_off rfl).trans rfl
   replace ha := mk_ ha
   have HO0_2 := mk_ Q_HO0_2
   have BK197 := mk_ Q_BK197
   have HB := mk_ Q_HB
   have hc0_ : w'.cell? ⟨gb197, 0, none⟩ = some (.int .i64 a0_0) := (blk_cell BK197.out 0).trans rfl
   have hc1_ : w'.cell? ⟨gb197, 1, none⟩ = some (.int .i64 a0_1) := (blk_cell BK197.out 1).trans rfl
   have hc2_ : w'.cell? ⟨gb197, 2, none⟩ = some (.slice A0_2 l0_2.length c0_2) := (blk_cell BK197.out 2).trans rfl
   refine value_ (w1 := w') (v := .int .i64 a0_0) (by rfl) rfl ?_ ?_
   ·go_simp
    (try simp only [i64_w])
    try rfl
   refine hK.out _ _ ⟨v200, v203, v206, v209, v212, m16_, (by rw [ha.out]; exact putSel_upk 0 hb_ rfl rfl rfl), Q_HO0_2, Q_BK197, Q_HB, fun h0_ _ => absurd ((hoff 3 (by kernel_rfl)).symm.trans h0_) (by decide), Q_HO204, Q_HO207, fun h0_ => absurd ((hoff 14 (by kernel_rfl)).symm.trans h0_) (by decide), fun h0_ => absurd ((hoff 15 (by kernel_rfl)).symm.trans h0_) (by decide), fun h0_ => absurd ((hoff 16 (by kernel_rfl)).symm.trans h0_) (by decide)⟩
  refine steps_cons ?_ ?_
  ·rintro b a w' ⟨v200, v203, v206, v209, v212, m16_, ha, Q_HO0_2, Q_BK197, Q_HB, Q_HO201, Q_HO204, Q_HO207, Q_HO210, Q_HO213, Q_X16_⟩ hb_ hon hoff
   refine ⟨_, rfl, fun K hK => ?_⟩
   have e7 : a.tmps[7]? = some (.int .i64 a0_0) := by rw [ha]; exact putSel_on (e := (1, 7, .int .i64 a0_0)) 0 rfl rfl (hon 1 (by kernel_rfl)) rfl
   replace ha := mk_ ha
   have HO0_2 := mk_ Q_HO0_2
   have BK197 := mk_ Q_BK197
   have HB := mk_ Q_HB
   refine value_ (w1 := w') (v := .int .u8 ((a0_0) % 256)) (by rfl) rfl ?_ ?_
   ·go_simp
    (try simp only [i64_w])
    try rfl
   refine hK.out _ _ ⟨v200, v203, v206, v209, v212, m16_, (by rw [ha.out]; exact putSel_upk 1 hb_ rfl rfl rfl), Q_HO0_2, Q_BK197, Q_HB, fun h0_ _ => absurd ((hoff 3 (by kernel_rfl)).symm.trans h0_) (by decide), Q_HO204, Q_HO207, fun h0_ => absurd ((hoff 14 (by kernel_rfl)).symm.trans h0_) (by decide), fun h0_ => absurd ((hoff 15 (by kernel_rfl)).symm.trans h0_) (by decide), fun h0_ => absurd ((hoff 16 (by kernel_rfl)).symm.trans h0_) (by decide)⟩
  refine steps_cons ?_ ?_
  ·rintro b a w' ⟨v200, v203, v206, v209, v212, m16_, ha, Q_HO0_2, Q_BK197, Q_HB, Q_HO201, Q_HO204, Q_HO207, Q_HO210, Q_HO213, Q_X16_⟩ hb_ hon hoff
   refine ⟨_, rfl, fun K hK => ?_⟩
   have e8 : a.tmps[8]? = some (.int .u8 ((a0_0) % 256)) := by rw [ha]; exact putSel_on (e := (2, 8, .int .u8 ((a0_0) % 256))) 1 rfl rfl (hon 2 (by kernel_rfl)) rfl
   replace ha := mk_ ha
   have HO0_2 := mk_ Q_HO0_2
   have BK197 := mk_ Q_BK197
   have HB := mk_ Q_HB
   refine Kd.R_lit_step (Kd.int .u8) _ 5 ?hg (N := 9) ?hd (xs := ([(a0_0) % 256] : List Int)) (inner := [.int .u8 ((a0_0) % 256)]) (ok := fun _ => True) (okp := fun _ => True) ?hr ?hp (fun _ hk => hk) trivial (Below.refl _ _) (Nat.le_refl _) (by simp) ?_; (case hd => rfl); (case hg => rfl); (case hr => first | (go_simp; done) | (go_simp; rfl)); (case hp => exact (Reps.one (show Kd.M (Kd.int .u8) _ _ _ ((a0_0) % 256) [.int .u8 ((a0_0) % 256)] from rfl) (Reps.none _ _)))
   intro v200 w10 ho11 hb hg_ hnew_
   clear hg_ hnew_
   (first | rw [← Ny199.out] at ho11 | (simp only [Int.reduceToNat] at ho11; rw [← Ny199.out] at ho11))
   have n0_ := mk_ (Kd.V_elder' (by (with_reducible repeat (first | apply Kd.V_alloc | apply Kd.V_drewN | apply Kd.V_drew)); exact HO0_2.out) (Kd.R_base ho11) hb)
   have n1_ := mk_ (Kd.R_lower (Kd.R_newM (M := fun k_ => (w.heap.size ≤ k_)) ho11 (below_size (us_ HB.out)) (fun k_ h_ => h_)) (below_size (us_ HB.out)))
   have n2_ := mk_ (blk_below (u_ BK197.out) hb)
   have n3_ := mk_ (below_step (us_ HB.out) hb)
   have z_HO204 := fun (h0_ : b 6 = true) (h1_ : b 14 = false) => (show Kd.R (Kd.int .u8) 5 w10 w.heap.size (fun k_ => (w.heap.size ≤ k_)) v203 t202 from by first | exact (Kd.R_elder' (by (with_reducible repeat (first | apply Kd.R_alloc | apply Kd.R_drewN | apply Kd.R_drew)); exact (Q_HO204 h0_ h1_)) (Kd.R_base ho11) hb) | exact Kd.R_mono (Kd.R_elder' (by (with_reducible repeat (first | apply Kd.R_alloc | apply Kd.R_drewN | apply Kd.R_drew)); exact (Q_HO204 h0_ h1_)) (Kd.R_base ho11) hb) (fun _ h_ => by first | trivial | exact h_ | exact h_.1))
   have z_HO207 := fun (h0_ : b 11 = true) (h1_ : b 14 = false) => (show Kd.R (Kd.int .u8) 5 w10 w.heap.size (fun k_ => (w.heap.size ≤ k_)) v206 y205 from by first | exact (Kd.R_elder' (by (with_reducible repeat (first | apply Kd.R_alloc | apply Kd.R_drewN | apply Kd.R_drew)); exact (Q_HO207 h0_ h1_)) (Kd.R_base ho11) hb) | exact Kd.R_mono (Kd.R_elder' (by (with_reducible repeat (first | apply Kd.R_alloc | apply Kd.R_drewN | apply Kd.R_drew)); exact (Q_HO207 h0_ h1_)) (Kd.R_base ho11) hb) (fun _ h_ => by first | trivial | exact h_ | exact h_.1))
   clear HO0_2
   clear BK197
   clear HB
   have HO0_2 := n0_
   have HO201 := n1_
   have BK197 := n2_
   have HB := n3_
   clear n0_ n1_ n2_ n3_
   clear hb ho11
   refine hK.out _ _ ⟨v200, v203, v206, v209, v212, m16_, (by rw [ha.out]; exact putSel_upk 2 hb_ rfl rfl rfl), (by (with_reducible repeat (first | apply Kd.V_alloc | apply Kd.V_drewN | apply Kd.V_drew)); exact Kd.V_mono HO0_2.out (fun _ hk => by first | exact ⟨hk.1.1, ⟨hk.2, hk.1.2⟩⟩ | exact hk.1 | exact hk | exact ⟨hk.1, hk.2⟩ | exact ⟨.inr hk.1, hk.2⟩ | simp only [hk, ne_eq, not_false_eq_true, and_self])), (u_ BK197.out), (us_ HB.out), fun _ _ => (by (with_reducible repeat (first | apply Kd.R_alloc | apply Kd.R_drewN | apply Kd.R_drew)); exact Kd.R_mono HO201.out (fun _ hk => hk.1)), z_HO204, z_HO207, fun h0_ => absurd ((hoff 14 (by kernel_rfl)).symm.trans h0_) (by decide), fun h0_ => absurd ((hoff 15 (by kernel_rfl)).symm.trans h0_) (by decide), fun h0_ => absurd ((hoff 16 (by kernel_rfl)).symm.trans h0_) (by decide)⟩
  refine steps_cons ?_ ?_
  ·rintro b a w' ⟨v200, v203, v206, v209, v212, m16_, ha, Q_HO0_2, Q_BK197, Q_HB, Q_HO201, Q_HO204, Q_HO207, Q_HO210, Q_HO213, Q_X16_⟩ hb_ hon hoff
   refine ⟨_, rfl, fun K hK => ?_⟩
   have e10 : a.tmps[10]? = some (.pointer (some ⟨gb197, 1, none⟩)) := by rw [ha]; exact (putSel_off rfl).trans rfl
   replace ha := mk_ ha
   have HO0_2 := mk_ Q_HO0_2
   have BK197 := mk_ Q_BK197
   have HB := mk_ Q_HB
   have hc0_ : w'.cell? ⟨gb197, 0, none⟩ = some (.int .i64 a0_0) := (blk_cell BK197.out 0).trans rfl
   have hc1_ : w'.cell? ⟨gb197, 1, none⟩ = some (.int .i64 a0_1) := (blk_cell BK197.out 1).trans rfl
   have hc2_ : w'.cell? ⟨gb197, 2, none⟩ = some (.slice A0_2 l0_2.length c0_2) := (blk_cell BK197.out 2).trans rfl
   refine value_ (w1 := w') (v := .int .i64 a0_1) (by rfl) rfl ?_ ?_
   ·go_simp
    (try simp only [i64_w])
    try rfl
   refine hK.out _ _ ⟨v200, v203, v206, v209, v212, m16_, (by rw [ha.out]; exact putSel_upk 3 hb_ rfl rfl rfl), Q_HO0_2, Q_BK197, Q_HB, Q_HO201, fun h0_ _ => absurd ((hoff 6 (by kernel_rfl)).symm.trans h0_) (by decide), Q_HO207, fun h0_ => absurd ((hoff 14 (by kernel_rfl)).symm.trans h0_) (by decide), fun h0_ => absurd ((hoff 15 (by kernel_rfl)).symm.trans h0_) (by decide), fun h0_ => absurd ((hoff 16 (by kernel_rfl)).symm.trans h0_) (by decide)⟩
  refine steps_cons ?_ ?_
  ·rintro b a w' ⟨v200, v203, v206, v209, v212, m16_, ha, Q_HO0_2, Q_BK197, Q_HB, Q_HO201, Q_HO204, Q_HO207, Q_HO210, Q_HO213, Q_X16_⟩ hb_ hon hoff
   refine ⟨_, rfl, fun K hK => ?_⟩
   have e11 : a.tmps[11]? = some (.int .i64 a0_1) := by rw [ha]; exact putSel_on (e := (5, 11, .int .i64 a0_1)) 3 rfl rfl (hon 5 (by kernel_rfl)) rfl
   replace ha := mk_ ha
   have HO0_2 := mk_ Q_HO0_2
   have BK197 := mk_ Q_BK197
   have HB := mk_ Q_HB
   refine goes_ Try.func57 (by kernel_rfl) rfl #[.int .i64 a0_1, .int .i64 2] (by rfl) rfl rfl (by first | (simp only [List.map_toArray, List.map_cons, List.map_nil, Act.eval, Array.getD_eq_getD_getElem?, Option.getD_some, e11]; done) | (simp only [List.map_toArray, List.map_cons, List.map_nil, Act.eval, Array.getD_eq_getD_getElem?, Option.getD_some, e11]; rfl)) ?_
   with_reducible refine (impl_bytesOf.calls k a0_1 2 t202 _ A4.out).mono ?_
   rintro e w10 ⟨v203, rfl, ho0, hb⟩
   refine ⟨_, rfl, ?_⟩
   have n0_ := mk_ (Kd.V_elder' (by (with_reducible repeat (first | apply Kd.V_alloc | apply Kd.V_drewN | apply Kd.V_drew)); exact HO0_2.out) (Kd.R_base ho0) hb)
   have n1_ := mk_ (Kd.R_lower (Kd.R_newM (M := fun k_ => (w.heap.size ≤ k_)) ho0 (below_size (us_ HB.out)) (fun k_ h_ => h_)) (below_size (us_ HB.out)))
   have n2_ := mk_ (blk_below (u_ BK197.out) hb)
   have n3_ := mk_ (below_step (us_ HB.out) hb)
   have z_HO201 := fun (h0_ : b 3 = true) (h1_ : b 14 = false) => (show Kd.R (Kd.int .u8) 5 w10 w.heap.size (fun k_ => (w.heap.size ≤ k_)) v200 y199 from by first | exact (Kd.R_elder' (by (with_reducible repeat (first | apply Kd.R_alloc | apply Kd.R_drewN | apply Kd.R_drew)); exact (Q_HO201 h0_ h1_)) (Kd.R_base ho0) hb) | exact Kd.R_mono (Kd.R_elder' (by (with_reducible repeat (first | apply Kd.R_alloc | apply Kd.R_drewN | apply Kd.R_drew)); exact (Q_HO201 h0_ h1_)) (Kd.R_base ho0) hb) (fun _ h_ => by first | trivial | exact h_ | exact h_.1))
   have z_HO207 := fun (h0_ : b 11 = true) (h1_ : b 14 = false) => (show Kd.R (Kd.int .u8) 5 w10 w.heap.size (fun k_ => (w.heap.size ≤ k_)) v206 y205 from by first | exact (Kd.R_elder' (by (with_reducible repeat (first | apply Kd.R_alloc | apply Kd.R_drewN | apply Kd.R_drew)); exact (Q_HO207 h0_ h1_)) (Kd.R_base ho0) hb) | exact Kd.R_mono (Kd.R_elder' (by (with_reducible repeat (first | apply Kd.R_alloc | apply Kd.R_drewN | apply Kd.R_drew)); exact (Q_HO207 h0_ h1_)) (Kd.R_base ho0) hb) (fun _ h_ => by first | trivial | exact h_ | exact h_.1))
   clear HO0_2
   clear BK197
   clear HB
   have HO0_2 := n0_
   have HO204 := n1_
   have BK197 := n2_
   have HB := n3_
   clear n0_ n1_ n2_ n3_
   (try clear hb)
   (try clear hb2)
   (try clear hk)
   (try clear hi)
   (try clear ho0)
   refine hK.out _ _ ⟨v200, v203, v206, v209, v212, m16_, (by rw [ha.out]; exact putSel_upk 4 hb_ rfl rfl rfl), (by (with_reducible repeat (first | apply Kd.V_alloc | apply Kd.V_drewN | apply Kd.V_drew)); exact Kd.V_mono HO0_2.out (fun _ hk => by first | exact ⟨hk.1.1, ⟨hk.2, hk.1.2⟩⟩ | exact hk.1 | exact hk | exact ⟨hk.1, hk.2⟩ | exact ⟨.inr hk.1, hk.2⟩ | simp only [hk, ne_eq, not_false_eq_true, and_self])), (u_ BK197.out), (us_ HB.out), z_HO201, fun _ _ => (by (with_reducible repeat (first | apply Kd.R_alloc | apply Kd.R_drewN | apply Kd.R_drew)); exact Kd.R_mono HO204.out (fun _ hk => hk.1)), z_HO207, fun h0_ => absurd ((hoff 14 (by kernel_rfl)).symm.trans h0_) (by decide), fun h0_ => absurd ((hoff 15 (by kernel_rfl)).symm.trans h0_) (by decide), fun h0_ => absurd ((hoff 16 (by kernel_rfl)).symm.trans h0_) (by decide)⟩
  refine steps_cons ?_ ?_
  ·rintro b a w' ⟨v200, v203, v206, v209, v212, m16_, ha, Q_HO0_2, Q_BK197, Q_HB, Q_HO201, Q_HO204, Q_HO207, Q_HO210, Q_HO213, Q_X16_⟩ hb_ hon hoff
   refine ⟨_, rfl, fun K hK => ?_⟩
   have e13 : a.tmps[13]? = some (.pointer (some ⟨gb197, 2, none⟩)) := by rw [ha]; exact (putSel_off rfl).trans rfl
   replace ha := mk_ ha
   have HO0_2 := mk_ Q_HO0_2
   have BK197 := mk_ Q_BK197
   have HB := mk_ Q_HB
   have hc0_ : w'.cell? ⟨gb197, 0, none⟩ = some (.int .i64 a0_0) := (blk_cell BK197.out 0).trans rfl
   have hc1_ : w'.cell? ⟨gb197, 1, none⟩ = some (.int .i64 a0_1) := (blk_cell BK197.out 1).trans rfl
   have hc2_ : w'.cell? ⟨gb197, 2, none⟩ = some (.slice A0_2 l0_2.length c0_2) := (blk_cell BK197.out 2).trans rfl
   refine value_ (w1 := w') (v := .slice A0_2 l0_2.length c0_2) (by rfl) rfl ?_ ?_
   ·go_simp
    (try simp only [i64_w])
    try rfl
   refine hK.out _ _ ⟨v200, v203, v206, v209, v212, m16_, (by rw [ha.out]; exact putSel_upk 5 hb_ rfl rfl rfl), Q_HO0_2, Q_BK197, Q_HB, Q_HO201, Q_HO204, fun h0_ _ => absurd ((hoff 11 (by kernel_rfl)).symm.trans h0_) (by decide), fun h0_ => absurd ((hoff 14 (by kernel_rfl)).symm.trans h0_) (by decide), fun h0_ => absurd ((hoff 15 (by kernel_rfl)).symm.trans h0_) (by decide), fun h0_ => absurd ((hoff 16 (by kernel_rfl)).symm.trans h0_) (by decide)⟩
  refine steps_cons ?_ ?_
  ·rintro b a w' ⟨v200, v203, v206, v209, v212, m16_, ha, Q_HO0_2, Q_BK197, Q_HB, Q_HO201, Q_HO204, Q_HO207, Q_HO210, Q_HO213, Q_X16_⟩ hb_ hon hoff
   refine ⟨_, rfl, fun K hK => ?_⟩
   have e14 : a.tmps[14]? = some (.slice A0_2 l0_2.length c0_2) := by rw [ha]; exact putSel_on (e := (8, 14, .slice A0_2 l0_2.length c0_2)) 5 rfl rfl (hon 8 (by kernel_rfl)) rfl
   replace ha := mk_ ha
   have HO0_2 := mk_ Q_HO0_2
   have BK197 := mk_ Q_BK197
   have HB := mk_ Q_HB
   refine value_ (w1 := w') (v := .int .i64 (l0_2.length : Int)) (by rfl) rfl ?_ ?_
   ·go_simp
    (try simp only [i64_w])
    try rfl
   refine hK.out _ _ ⟨v200, v203, v206, v209, v212, m16_, (by rw [ha.out]; exact putSel_upk 6 hb_ rfl rfl rfl), Q_HO0_2, Q_BK197, Q_HB, Q_HO201, Q_HO204, fun h0_ _ => absurd ((hoff 11 (by kernel_rfl)).symm.trans h0_) (by decide), fun h0_ => absurd ((hoff 14 (by kernel_rfl)).symm.trans h0_) (by decide), fun h0_ => absurd ((hoff 15 (by kernel_rfl)).symm.trans h0_) (by decide), fun h0_ => absurd ((hoff 16 (by kernel_rfl)).symm.trans h0_) (by decide)⟩
  refine steps_cons ?_ ?_
  ·rintro b a w' ⟨v200, v203, v206, v209, v212, m16_, ha, Q_HO0_2, Q_BK197, Q_HB, Q_HO201, Q_HO204, Q_HO207, Q_HO210, Q_HO213, Q_X16_⟩ hb_ hon hoff
   refine ⟨_, rfl, fun K hK => ?_⟩
   have e15 : a.tmps[15]? = some (.int .i64 (l0_2.length : Int)) := by rw [ha]; exact putSel_on (e := (9, 15, .int .i64 (l0_2.length : Int))) 6 rfl rfl (hon 9 (by kernel_rfl)) rfl
   replace ha := mk_ ha
   have HO0_2 := mk_ Q_HO0_2
   have BK197 := mk_ Q_BK197
   have HB := mk_ Q_HB
   refine value_ (w1 := w') (v := .int .u8 (((l0_2.length : Int)) % 256)) (by rfl) rfl ?_ ?_
   ·go_simp
    (try simp only [i64_w])
    try rfl
   refine hK.out _ _ ⟨v200, v203, v206, v209, v212, m16_, (by rw [ha.out]; exact putSel_upk 7 hb_ rfl rfl rfl), Q_HO0_2, Q_BK197, Q_HB, Q_HO201, Q_HO204, fun h0_ _ => absurd ((hoff 11 (by kernel_rfl)).symm.trans h0_) (by decide), fun h0_ => absurd ((hoff 14 (by kernel_rfl)).symm.trans h0_) (by decide), fun h0_ => absurd ((hoff 15 (by kernel_rfl)).symm.trans h0_) (by decide), fun h0_ => absurd ((hoff 16 (by kernel_rfl)).symm.trans h0_) (by decide)⟩
  refine steps_cons ?_ ?_
  ·rintro b a w' ⟨v200, v203, v206, v209, v212, m16_, ha, Q_HO0_2, Q_BK197, Q_HB, Q_HO201, Q_HO204, Q_HO207, Q_HO210, Q_HO213, Q_X16_⟩ hb_ hon hoff
   refine ⟨_, rfl, fun K hK => ?_⟩
   have e16 : a.tmps[16]? = some (.int .u8 (((l0_2.length : Int)) % 256)) := by rw [ha]; exact putSel_on (e := (10, 16, .int .u8 (((l0_2.length : Int)) % 256))) 7 rfl rfl (hon 10 (by kernel_rfl)) rfl
   replace ha := mk_ ha
   have HO0_2 := mk_ Q_HO0_2
   have BK197 := mk_ Q_BK197
   have HB := mk_ Q_HB
   refine Kd.R_lit_step (Kd.int .u8) _ 5 ?hg (N := 17) ?hd (xs := ([((l0_2.length : Int)) % 256] : List Int)) (inner := [.int .u8 (((l0_2.length : Int)) % 256)]) (ok := fun _ => True) (okp := fun _ => True) ?hr ?hp (fun _ hk => hk) trivial (Below.refl _ _) (Nat.le_refl _) (by simp) ?_; (case hd => rfl); (case hg => rfl); (case hr => first | (go_simp; done) | (go_simp; rfl)); (case hp => exact (Reps.one (show Kd.M (Kd.int .u8) _ _ _ (((l0_2.length : Int)) % 256) [.int .u8 (((l0_2.length : Int)) % 256)] from rfl) (Reps.none _ _)))
   intro v206 w10 ho11 hb hg_ hnew_
   clear hg_ hnew_
   (first | rw [← Ny205.out] at ho11 | (simp only [Int.reduceToNat] at ho11; rw [← Ny205.out] at ho11))
   have n0_ := mk_ (Kd.V_elder' (by (with_reducible repeat (first | apply Kd.V_alloc | apply Kd.V_drewN | apply Kd.V_drew)); exact HO0_2.out) (Kd.R_base ho11) hb)
   have n1_ := mk_ (Kd.R_lower (Kd.R_newM (M := fun k_ => (w.heap.size ≤ k_)) ho11 (below_size (us_ HB.out)) (fun k_ h_ => h_)) (below_size (us_ HB.out)))
   have n2_ := mk_ (blk_below (u_ BK197.out) hb)
   have n3_ := mk_ (below_step (us_ HB.out) hb)
   have z_HO201 := fun (h0_ : b 3 = true) (h1_ : b 14 = false) => (show Kd.R (Kd.int .u8) 5 w10 w.heap.size (fun k_ => (w.heap.size ≤ k_)) v200 y199 from by first | exact (Kd.R_elder' (by (with_reducible repeat (first | apply Kd.R_alloc | apply Kd.R_drewN | apply Kd.R_drew)); exact (Q_HO201 h0_ h1_)) (Kd.R_base ho11) hb) | exact Kd.R_mono (Kd.R_elder' (by (with_reducible repeat (first | apply Kd.R_alloc | apply Kd.R_drewN | apply Kd.R_drew)); exact (Q_HO201 h0_ h1_)) (Kd.R_base ho11) hb) (fun _ h_ => by first | trivial | exact h_ | exact h_.1))
   have z_HO204 := fun (h0_ : b 6 = true) (h1_ : b 14 = false) => (show Kd.R (Kd.int .u8) 5 w10 w.heap.size (fun k_ => (w.heap.size ≤ k_)) v203 t202 from by first | exact (Kd.R_elder' (by (with_reducible repeat (first | apply Kd.R_alloc | apply Kd.R_drewN | apply Kd.R_drew)); exact (Q_HO204 h0_ h1_)) (Kd.R_base ho11) hb) | exact Kd.R_mono (Kd.R_elder' (by (with_reducible repeat (first | apply Kd.R_alloc | apply Kd.R_drewN | apply Kd.R_drew)); exact (Q_HO204 h0_ h1_)) (Kd.R_base ho11) hb) (fun _ h_ => by first | trivial | exact h_ | exact h_.1))
   clear HO0_2
   clear BK197
   clear HB
   have HO0_2 := n0_
   have HO207 := n1_
   have BK197 := n2_
   have HB := n3_
   clear n0_ n1_ n2_ n3_
   clear hb ho11
   refine hK.out _ _ ⟨v200, v203, v206, v209, v212, m16_, (by rw [ha.out]; exact putSel_upk 8 hb_ rfl rfl rfl), (by (with_reducible repeat (first | apply Kd.V_alloc | apply Kd.V_drewN | apply Kd.V_drew)); exact Kd.V_mono HO0_2.out (fun _ hk => by first | exact ⟨hk.1.1, ⟨hk.2, hk.1.2⟩⟩ | exact hk.1 | exact hk | exact ⟨hk.1, hk.2⟩ | exact ⟨.inr hk.1, hk.2⟩ | simp only [hk, ne_eq, not_false_eq_true, and_self])), (u_ BK197.out), (us_ HB.out), z_HO201, z_HO204, fun _ _ => (by (with_reducible repeat (first | apply Kd.R_alloc | apply Kd.R_drewN | apply Kd.R_drew)); exact Kd.R_mono HO207.out (fun _ hk => hk.1)), fun h0_ => absurd ((hoff 14 (by kernel_rfl)).symm.trans h0_) (by decide), fun h0_ => absurd ((hoff 15 (by kernel_rfl)).symm.trans h0_) (by decide), fun h0_ => absurd ((hoff 16 (by kernel_rfl)).symm.trans h0_) (by decide)⟩
  refine steps_cons ?_ ?_
  ·rintro b a w' ⟨v200, v203, v206, v209, v212, m16_, ha, Q_HO0_2, Q_BK197, Q_HB, Q_HO201, Q_HO204, Q_HO207, Q_HO210, Q_HO213, Q_X16_⟩ hb_ hon hoff
   refine ⟨_, rfl, fun K hK => ?_⟩
   have e18 : a.tmps[18]? = some (.pointer (some ⟨gb197, 2, none⟩)) := by rw [ha]; exact (putSel_off rfl).trans rfl
   replace ha := mk_ ha
   have HO0_2 := mk_ Q_HO0_2
   have BK197 := mk_ Q_BK197
   have HB := mk_ Q_HB
   have hc0_ : w'.cell? ⟨gb197, 0, none⟩ = some (.int .i64 a0_0) := (blk_cell BK197.out 0).trans rfl
   have hc1_ : w'.cell? ⟨gb197, 1, none⟩ = some (.int .i64 a0_1) := (blk_cell BK197.out 1).trans rfl
   have hc2_ : w'.cell? ⟨gb197, 2, none⟩ = some (.slice A0_2 l0_2.length c0_2) := (blk_cell BK197.out 2).trans rfl
   refine value_ (w1 := w') (v := .slice A0_2 l0_2.length c0_2) (by rfl) rfl ?_ ?_
   ·go_simp
    (try simp only [i64_w])
    try rfl
   refine hK.out _ _ ⟨v200, v203, v206, v209, v212, m16_, (by rw [ha.out]; exact putSel_upk 9 hb_ rfl rfl rfl), Q_HO0_2, Q_BK197, Q_HB, Q_HO201, Q_HO204, Q_HO207, fun h0_ => absurd ((hoff 14 (by kernel_rfl)).symm.trans h0_) (by decide), fun h0_ => absurd ((hoff 15 (by kernel_rfl)).symm.trans h0_) (by decide), fun h0_ => absurd ((hoff 16 (by kernel_rfl)).symm.trans h0_) (by decide)⟩
  refine steps_cons ?_ ?_
  ·rintro b a w' ⟨v200, v203, v206, v209, v212, m16_, ha, Q_HO0_2, Q_BK197, Q_HB, Q_HO201, Q_HO204, Q_HO207, Q_HO210, Q_HO213, Q_X16_⟩ hb_ hon hoff
   refine ⟨_, rfl, fun K hK => ?_⟩
   have e9 : a.tmps[9]? = some (v200) := by rw [ha]; exact putSel_on (e := (3, 9, v200)) 2 rfl rfl (hon 3 (by kernel_rfl)) rfl
   have e12 : a.tmps[12]? = some (v203) := by rw [ha]; exact putSel_on (e := (6, 12, v203)) 4 rfl rfl (hon 6 (by kernel_rfl)) rfl
   have e17 : a.tmps[17]? = some (v206) := by rw [ha]; exact putSel_on (e := (11, 17, v206)) 8 rfl rfl (hon 11 (by kernel_rfl)) rfl
   have e19 : a.tmps[19]? = some (.slice A0_2 l0_2.length c0_2) := by rw [ha]; exact putSel_on (e := (13, 19, .slice A0_2 l0_2.length c0_2)) 9 rfl rfl (hon 13 (by kernel_rfl)) rfl
   replace ha := mk_ ha
   have HO0_2 := mk_ Q_HO0_2
   have BK197 := mk_ Q_BK197
   have HB := mk_ Q_HB
   have HO201 := mk_ (Q_HO201 (hon 3 (by kernel_rfl)) hb_)
   have HO204 := mk_ (Q_HO204 (hon 6 (by kernel_rfl)) hb_)
   have HO207 := mk_ (Q_HO207 (hon 11 (by kernel_rfl)) hb_)
   obtain ⟨Ao16, co16, eo16⟩ := Kd.R_slice HO201.out
   (first | subst eo16 | (injection eo16 with f1_ f2_ f3_; have f4_ := f1_.symm; have f5_ := f3_.symm; clear f1_ f2_ f3_; subst f4_; subst f5_))
   obtain ⟨Ao17, co17, eo17⟩ := Kd.R_slice HO204.out
   (first | subst eo17 | (injection eo17 with f1_ f2_ f3_; have f4_ := f1_.symm; have f5_ := f3_.symm; clear f1_ f2_ f3_; subst f4_; subst f5_))
   obtain ⟨Ao18, co18, eo18⟩ := Kd.R_slice HO207.out
   (first | subst eo18 | (injection eo18 with f1_ f2_ f3_; have f4_ := f1_.symm; have f5_ := f3_.symm; clear f1_ f2_ f3_; subst f4_; subst f5_))
   refine Kd.N_lit_step (Kd.slice 5 (Kd.int .u8)) _ 22 ?hg (N' := 20) ?hd (xs := ([y199, t202, y205, l0_2] : List (List Int))) (inner := [.slice Ao16 y199.length co16, .slice Ao17 t202.length co17, .slice Ao18 y205.length co18, .slice A0_2 l0_2.length c0_2]) (ok := (fun k_ => (P0_2_ k_ ∨ w.heap.size ≤ k_) ∧ k_ ≠ gb197)) (okp := (fun k_ => (P0_2_ k_ ∨ w.heap.size ≤ k_) ∧ k_ ≠ gb197)) ?hr ?hp (fun _ hk => hk) ((show ∀ k_, w'.heap.size ≤ k_ → (fun k_ => (P0_2_ k_ ∨ w.heap.size ≤ k_) ∧ k_ ≠ gb197) k_ from fun k_ hk => ⟨(.inr (Nat.le_trans (below_size (us_ HB.out)) hk)), Kd.freshB (g := gb197) (o := .cells #[.int .i64 a0_0, .int .i64 a0_1, .slice A0_2 l0_2.length c0_2] 63 (0, 0)) (u_ BK197.out) k_ hk⟩) _ (Nat.le_refl _)) (Below.refl _ _) (Nat.le_refl _) (by simp) ?_; (case hd => rfl); (case hg => rfl); (case hr => first | (go_simp; done) | (go_simp; rfl)); (case hp => exact (Reps.one (show Kd.FK (Kd.slice 5 (Kd.int .u8)) _ _ y199 [.slice Ao16 y199.length co16] from (Kd.FK_slice_mk (Kd.R_reads' (Kd.R_mono (ok' := (fun k_ => (P0_2_ k_ ∨ w.heap.size ≤ k_) ∧ k_ ≠ gb197)) (Kd.R_types (HO201.out) BK197.out (by decide)) (fun k_ hk => by first | exact ⟨(.inr (hk.1.1)), hk.2⟩ | exact hk.1 | exact hk | exact ⟨hk.1, hk.2⟩ | exact ⟨.inr hk.1, hk.2⟩ | simp only [hk, ne_eq, not_false_eq_true, and_self]))).2.1 (Kd.R_F (Kd.R_mono (ok' := (fun k_ => (P0_2_ k_ ∨ w.heap.size ≤ k_) ∧ k_ ≠ gb197)) (Kd.R_types (HO201.out) BK197.out (by decide)) (fun k_ hk => by first | exact ⟨(.inr (hk.1.1)), hk.2⟩ | exact hk.1 | exact hk | exact ⟨hk.1, hk.2⟩ | exact ⟨.inr hk.1, hk.2⟩ | simp only [hk, ne_eq, not_false_eq_true, and_self]))))) (Reps.one (show Kd.FK (Kd.slice 5 (Kd.int .u8)) _ _ t202 [.slice Ao17 t202.length co17] from (Kd.FK_slice_mk (Kd.R_reads' (Kd.R_mono (ok' := (fun k_ => (P0_2_ k_ ∨ w.heap.size ≤ k_) ∧ k_ ≠ gb197)) (Kd.R_types (HO204.out) BK197.out (by decide)) (fun k_ hk => by first | exact ⟨(.inr (hk.1.1)), hk.2⟩ | exact hk.1 | exact hk | exact ⟨hk.1, hk.2⟩ | exact ⟨.inr hk.1, hk.2⟩ | simp only [hk, ne_eq, not_false_eq_true, and_self]))).2.1 (Kd.R_F (Kd.R_mono (ok' := (fun k_ => (P0_2_ k_ ∨ w.heap.size ≤ k_) ∧ k_ ≠ gb197)) (Kd.R_types (HO204.out) BK197.out (by decide)) (fun k_ hk => by first | exact ⟨(.inr (hk.1.1)), hk.2⟩ | exact hk.1 | exact hk | exact ⟨hk.1, hk.2⟩ | exact ⟨.inr hk.1, hk.2⟩ | simp only [hk, ne_eq, not_false_eq_true, and_self]))))) (Reps.one (show Kd.FK (Kd.slice 5 (Kd.int .u8)) _ _ y205 [.slice Ao18 y205.length co18] from (Kd.FK_slice_mk (Kd.R_reads' (Kd.R_mono (ok' := (fun k_ => (P0_2_ k_ ∨ w.heap.size ≤ k_) ∧ k_ ≠ gb197)) (Kd.R_types (HO207.out) BK197.out (by decide)) (fun k_ hk => by first | exact ⟨(.inr (hk.1.1)), hk.2⟩ | exact hk.1 | exact hk | exact ⟨hk.1, hk.2⟩ | exact ⟨.inr hk.1, hk.2⟩ | simp only [hk, ne_eq, not_false_eq_true, and_self]))).2.1 (Kd.R_F (Kd.R_mono (ok' := (fun k_ => (P0_2_ k_ ∨ w.heap.size ≤ k_) ∧ k_ ≠ gb197)) (Kd.R_types (HO207.out) BK197.out (by decide)) (fun k_ hk => by first | exact ⟨(.inr (hk.1.1)), hk.2⟩ | exact hk.1 | exact hk | exact ⟨hk.1, hk.2⟩ | exact ⟨.inr hk.1, hk.2⟩ | simp only [hk, ne_eq, not_false_eq_true, and_self]))))) (Reps.one (show Kd.FK (Kd.slice 5 (Kd.int .u8)) _ _ l0_2 [.slice A0_2 l0_2.length c0_2] from (Kd.FK_slice_mk (Kd.V_reads' (Kd.V_mono (ok' := (fun k_ => (P0_2_ k_ ∨ w.heap.size ≤ k_) ∧ k_ ≠ gb197)) (HO0_2.out) (fun k_ hk => by first | exact ⟨hk.1, hk.2.2.2.2⟩ | exact hk.1 | exact hk | exact ⟨hk.1, hk.2⟩ | exact ⟨.inr hk.1, hk.2⟩ | simp only [hk, ne_eq, not_false_eq_true, and_self]))).2.1 (Kd.V_F (Kd.V_mono (ok' := (fun k_ => (P0_2_ k_ ∨ w.heap.size ≤ k_) ∧ k_ ≠ gb197)) (HO0_2.out) (fun k_ hk => by first | exact ⟨hk.1, hk.2.2.2.2⟩ | exact hk.1 | exact hk | exact ⟨hk.1, hk.2⟩ | exact ⟨.inr hk.1, hk.2⟩ | simp only [hk, ne_eq, not_false_eq_true, and_self]))))) (Reps.none _ _))))))
   intro v209 w19 ho20 hb hg_ hnew_
   clear hg_ hnew_
   (first | rw [← Ny208.out] at ho20 | (simp only [Int.reduceToNat] at ho20; rw [← Ny208.out] at ho20))
   have n0_ := mk_ (Kd.V_elder' (by (with_reducible repeat (first | apply Kd.V_alloc | apply Kd.V_drewN | apply Kd.V_drew)); exact HO0_2.out) (Kd.N_base ho20) hb)
   have n1_ := mk_ (Kd.N_lower ho20 (below_size (us_ HB.out)))
   have n2_ := mk_ (blk_below (u_ BK197.out) hb)
   have n3_ := mk_ (below_step (us_ HB.out) hb)
   clear HO0_2
   clear BK197
   clear HB
   clear HO201
   clear HO204
   clear HO207
   have HO0_2 := n0_
   have HO210 := n1_
   have BK197 := n2_
   have HB := n3_
   clear n0_ n1_ n2_ n3_
   clear hb ho20
   refine hK.out _ _ ⟨.slice Ao16 y199.length co16, .slice Ao17 t202.length co17, .slice Ao18 y205.length co18, v209, v212, m16_, (by rw [ha.out]; exact putSel_upk 10 hb_ rfl rfl rfl), (by (with_reducible repeat (first | apply Kd.V_alloc | apply Kd.V_drewN | apply Kd.V_drew)); exact Kd.V_mono HO0_2.out (fun _ hk => by first | exact ⟨hk.1.1, ⟨hk.2, hk.1.2.2.2.2⟩⟩ | exact hk.1 | exact hk | exact ⟨hk.1, hk.2⟩ | exact ⟨.inr hk.1, hk.2⟩ | simp only [hk, ne_eq, not_false_eq_true, and_self])), (u_ BK197.out), (us_ HB.out), fun _ h1_ => absurd ((up_self b 14).symm.trans h1_) (by decide), fun _ h1_ => absurd ((up_self b 14).symm.trans h1_) (by decide), fun _ h1_ => absurd ((up_self b 14).symm.trans h1_) (by decide), fun _ => (by (with_reducible repeat (first | apply Kd.N_alloc | apply Kd.N_drewN | apply Kd.N_drew)); exact HO210.out), fun h0_ => absurd ((hoff 15 (by kernel_rfl)).symm.trans h0_) (by decide), fun h0_ => absurd ((hoff 16 (by kernel_rfl)).symm.trans h0_) (by decide)⟩
  refine steps_cons ?_ ?_
  ·rintro b a w' ⟨v200, v203, v206, v209, v212, m16_, ha, Q_HO0_2, Q_BK197, Q_HB, Q_HO201, Q_HO204, Q_HO207, Q_HO210, Q_HO213, Q_X16_⟩ hb_ hon hoff
   refine ⟨_, rfl, fun K hK => ?_⟩
   have e20 : a.tmps[20]? = some (v209) := by rw [ha]; exact putSel_on (e := (14, 20, v209)) 10 rfl rfl (hon 14 (by kernel_rfl)) rfl
   replace ha := mk_ ha
   have HO0_2 := mk_ Q_HO0_2
   have BK197 := mk_ Q_BK197
   have HB := mk_ Q_HB
   have HO210 := mk_ (Q_HO210 (hon 14 (by kernel_rfl)))
   obtain ⟨Ao21, co21, eo21⟩ := Kd.N_slice HO210.out
   (first | subst eo21 | (injection eo21 with f1_ f2_ f3_; have f4_ := f1_.symm; have f5_ := f3_.symm; clear f1_ f2_ f3_; subst f4_; subst f5_))
   refine goes_ Try.func56 (by kernel_rfl) rfl #[.slice Ao21 y208.length co21] (by rfl) rfl rfl (by first | (simp only [List.map_toArray, List.map_cons, List.map_nil, Act.eval, Array.getD_eq_getD_getElem?, Option.getD_some, e20]; done) | (simp only [List.map_toArray, List.map_cons, List.map_nil, Act.eval, Array.getD_eq_getD_getElem?, Option.getD_some, e20]; rfl)) ?_
   with_reducible refine (slices_Concat_byte_byte.calls _ _ y208 t211 _ ?side1 ?side2 A5.out).mono ?_
   (case side1 => repeat (first | exact (Kd.N_reads' HO210.out).2.2 | (with_reducible refine Kd.C_alloc ?_ _) | (with_reducible refine Kd.C_drewN ?_ _) | (with_reducible refine Kd.C_drew ?_)))
   (case side2 => exact (Kd.N_reads' HO210.out).2.1)
   rintro e w22 ⟨v212, rfl, ho0, hb⟩
   refine ⟨_, rfl, ?_⟩
   have n0_ := mk_ (Kd.V_elder' (by (with_reducible repeat (first | apply Kd.V_alloc | apply Kd.V_drewN | apply Kd.V_drew)); exact HO0_2.out) (Kd.R_base ho0) hb)
   have n1_ := mk_ (Kd.N_elder' (by (with_reducible repeat (first | apply Kd.N_alloc | apply Kd.N_drewN | apply Kd.N_drew)); exact HO210.out) (Kd.R_base ho0) hb)
   have n2_ := mk_ (Kd.R_lower (Kd.R_newM (M := fun k_ => (w.heap.size ≤ k_)) ho0 (below_size (us_ HB.out)) (fun k_ h_ => h_)) (below_size (us_ HB.out)))
   have n3_ := mk_ (blk_below (u_ BK197.out) hb)
   have n4_ := mk_ (below_step (us_ HB.out) hb)
   clear HO0_2
   clear HO210
   clear BK197
   clear HB
   have HO0_2 := n0_
   have HO210 := n1_
   have HO213 := n2_
   have BK197 := n3_
   have HB := n4_
   clear n0_ n1_ n2_ n3_ n4_
   (try clear hb)
   (try clear hb2)
   (try clear hk)
   (try clear hi)
   (try clear ho0)
   refine hK.out _ _ ⟨v200, v203, v206, .slice Ao21 y208.length co21, v212, m16_, (by rw [ha.out]; exact putSel_upk 11 hb_ rfl rfl rfl), (by (with_reducible repeat (first | apply Kd.V_alloc | apply Kd.V_drewN | apply Kd.V_drew)); exact Kd.V_mono HO0_2.out (fun _ hk => by first | exact ⟨hk.1.1, ⟨hk.1.2.1, ⟨hk.2, hk.1.2.2⟩⟩⟩ | exact hk.1 | exact hk | exact ⟨hk.1, hk.2⟩ | exact ⟨.inr hk.1, hk.2⟩ | simp only [hk, ne_eq, not_false_eq_true, and_self])), (u_ BK197.out), (us_ HB.out), fun _ h1_ => absurd ((hon 14 (by kernel_rfl)).symm.trans h1_) (by decide), fun _ h1_ => absurd ((hon 14 (by kernel_rfl)).symm.trans h1_) (by decide), fun _ h1_ => absurd ((hon 14 (by kernel_rfl)).symm.trans h1_) (by decide), fun _ => (by (with_reducible repeat (first | apply Kd.N_alloc | apply Kd.N_drewN | apply Kd.N_drew)); exact Kd.N_mono HO210.out (fun _ hk => by first | exact ⟨hk.1.1, ⟨hk.2, hk.1.2⟩⟩ | exact hk.1 | exact hk | exact ⟨hk.1, hk.2⟩ | exact ⟨.inr hk.1, hk.2⟩ | simp only [hk, ne_eq, not_false_eq_true, and_self])), fun _ => (by (with_reducible repeat (first | apply Kd.R_alloc | apply Kd.R_drewN | apply Kd.R_drew)); exact Kd.R_mono HO213.out (fun _ hk => hk.1)), fun h0_ => absurd ((hoff 16 (by kernel_rfl)).symm.trans h0_) (by decide)⟩
  refine steps_cons ?_ ?_
  ·rintro b a w' ⟨v200, v203, v206, v209, v212, m16_, ha, Q_HO0_2, Q_BK197, Q_HB, Q_HO201, Q_HO204, Q_HO207, Q_HO210, Q_HO213, Q_X16_⟩ hb_ hon hoff
   refine ⟨_, rfl, fun K hK => ?_⟩
   have e21 : a.tmps[21]? = some (v212) := by rw [ha]; exact putSel_on (e := (15, 21, v212)) 11 rfl rfl (hon 15 (by kernel_rfl)) rfl
   replace ha := mk_ ha
   have HO0_2 := mk_ Q_HO0_2
   have BK197 := mk_ Q_BK197
   have HB := mk_ Q_HB
   have HO210 := mk_ (Q_HO210 (hon 14 (by kernel_rfl)))
   have HO213 := mk_ (Q_HO213 (hon 15 (by kernel_rfl)))
   refine value_ (w1 := w') (v := v212) (by rfl) rfl ?_ ?_
   ·go_simp
    (try simp only [i64_w])
    try rfl
   refine hK.out _ _ ⟨v200, v203, v206, v209, v212, (v212), (by rw [ha.out]; exact putSel_upk 12 hb_ rfl rfl rfl), Q_HO0_2, Q_BK197, Q_HB, fun _ h1_ => absurd ((hon 14 (by kernel_rfl)).symm.trans h1_) (by decide), fun _ h1_ => absurd ((hon 14 (by kernel_rfl)).symm.trans h1_) (by decide), fun _ h1_ => absurd ((hon 14 (by kernel_rfl)).symm.trans h1_) (by decide), Q_HO210, Q_HO213, fun _ => rfl⟩
  exact steps_nil
 rintro b a w22 hall ⟨v200, v203, v206, v209, v212, m16_, ha, Q_HO0_2, Q_BK197, Q_HB, Q_HO201, Q_HO204, Q_HO207, Q_HO210, Q_HO213, Q_X16_⟩
 clear BK197 HB HO0_2
 have hb1_ := hall 1 (by kernel_rfl)
 have hb2_ := hall 2 (by kernel_rfl)
 have hb3_ := hall 3 (by kernel_rfl)
 have hb5_ := hall 5 (by kernel_rfl)
 have hb6_ := hall 6 (by kernel_rfl)
 have hb8_ := hall 8 (by kernel_rfl)
 have hb9_ := hall 9 (by kernel_rfl)
 have hb10_ := hall 10 (by kernel_rfl)
 have hb11_ := hall 11 (by kernel_rfl)
 have hb13_ := hall 13 (by kernel_rfl)
 have hb14_ := hall 14 (by kernel_rfl)
 have hb15_ := hall 15 (by kernel_rfl)
 have hb16_ := hall 16 (by kernel_rfl)
 subst ha
 obtain rfl := Q_X16_ hb16_
 simp only [putSel, hb1_, hb2_, hb3_, hb5_, hb6_, hb8_, hb9_, hb10_, hb11_, hb13_, hb14_, hb15_, hb16_, if_true, Act.put, la_, lz_, ls_]
 have HO0_2 := mk_ Q_HO0_2
 clear Q_HO0_2
 have BK197 := mk_ Q_BK197
 clear Q_BK197
 have HB := mk_ Q_HB
 clear Q_HB
 clear Q_HO201
 clear Q_HO204
 clear Q_HO207
 have HO210 := mk_ (Q_HO210 hb14_)
 clear Q_HO210
 have HO213 := mk_ (Q_HO213 hb15_)
 clear Q_HO213
 clear hall hb1_ hb2_ hb3_ hb5_ hb6_ hb8_ hb9_ hb10_ hb11_ hb13_ hb14_ hb15_ hb16_
 try go_wp2
 go_ret
 exact ⟨_, by first | rfl | (simp [errW_none, errW_some] <;> rfl) | (simp [*, errW_none, errW_some] <;> rfl), by (with_reducible repeat (first | apply Kd.R_alloc | apply Kd.R_drewN | apply Kd.R_drew)); exact HO213.out, us_ HB.out⟩

end Go.Proofs.Ytgfaamcihlojdag.MFnExactNoteEchoed
