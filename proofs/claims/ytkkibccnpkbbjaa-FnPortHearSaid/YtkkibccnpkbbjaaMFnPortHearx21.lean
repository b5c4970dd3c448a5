/- Functions that the law FnPortHear reaches, typed by hand (part 2 of 3): what the program's and the reference's ports' functions do, and the walk of the law; no conditions but those that each theorem states. -/
import Derived.Test.YtkkibccnpkbbjaaMFnPortHearx19
import Derived.StillTailTactics
import Derived.IntWalk
import Derived.Deep.RegionHeld3
import Derived.Shelf.Spec.SlicesInsertGrow
import Derived.Deep.QuietTactic
import Derived.BigQuiet
import Derived.Deep.RegionLaw
import Derived.RangeFuncWrites
import Derived.ArgAppend
import Derived.BigRegionIn
import Derived.Deep.AppendLies
import Derived.Deep.CutBlock
import Derived.Deep.DeepCutAuto
import Derived.Deep.Draws
import Derived.Deep.LoopGhost
import Derived.Deep.OwnRows
import Derived.KernelRfl
import Derived.Laws.BitsLemmas
import Derived.Laws.BytesArg
import Derived.Laws.IdiomCopy
import Derived.Laws.MakeOwn
import Derived.Laws.OwnMore
import Derived.Laws.Rows
import Derived.Laws.Slices
import Derived.Lib.AppendStr
import Derived.Lib.ConvBytes
import Derived.LoopIn
import Derived.LoopNIn
import Derived.Maps.AppendAt
import Derived.OrdersHeld
import Derived.OwnWalk
import Derived.OwnWalkIn
import Derived.RangeFuncBox
import Derived.RangeFuncCalls
import Derived.RangeFuncFrom
import Derived.RangeFuncLeaves
import Derived.TacticsInMore
import Derived.WalkKit
import Derived.WideLaws
import Derived.RangeFuncNested
import Derived.RangeFuncBound
namespace Go.Proofs.Ytkkibccnpkbbjaa.MFnPortsOk
open Go.RowKit Go.Proofs.YtkkibccnpkbbjaaV.PrintWords Go.Proofs.YtkkibccnpkbbjaaV.PrintLast Go.Proofs.YtkkibccnpkbbjaaV.PrintMore
attribute [local go_sem] max2_int min2_int max_two min_two max_three min_three max_four min_four
set_option linter.unusedVariables false
set_option linter.unusedSimpArgs false
/-! ### slices_Equal_byte_byte: function 72 -/
def slices_Equal_byte_byte.l0 : Nat → List Int → List Int → Int → Int → Option (Bool)
 | 0, _, _, _, _ => none
 | k + 1, x0, x1, x12, x13 => if x13 < x12 then (if 0 ≤ x13 then (if x13 < (x0.length : Int) then (if x13 < (x1.length : Int) then (if (rd x0 x13) = (rd x1 x13) then (slices_Equal_byte_byte.l0 k x0 x1 x12 (wrap64 (x13 + 1))) else (some false)) else (none)) else (none)) else (none)) else (some true)
def slices_Equal_byte_byte.f (k : Nat) (l0 : List Int) (l1 : List Int) : Option (Bool) := if (l0.length : Int) = (l1.length : Int) then (slices_Equal_byte_byte.l0 k l0 l1 (l0.length : Int) 0) else (some false)
theorem slices_Equal_byte_byte.mono_l : ∀ k, (∀ y0 y1 y2 y3, LeO (slices_Equal_byte_byte.l0 k y0 y1 y2 y3) (slices_Equal_byte_byte.l0 (k + 1) y0 y1 y2 y3))
 | 0 => fun _ _ _ _ r h => by simp [slices_Equal_byte_byte.l0] at h
 | k + 1 => by
  have ih0 := slices_Equal_byte_byte.mono_l k
  ·intro y0 y1 y2 y3
   unfold slices_Equal_byte_byte.l0
   repeat' first
   | (with_reducible exact ih0 _ _ _ _)
   | (with_reducible exact LeO.refl _)
   | (with_reducible exact LeO.none _)
   | (with_reducible refine LeO.ite ?_ ?_)
   | (with_reducible refine LeO.bind ?_ (fun _ => ?_))
   | exact ih0 _ _ _ _
   | exact LeO.none _
   | refine LeO.ite ?_ ?_
   | refine LeO.bind ?_ (fun _ => ?_)
theorem slices_Equal_byte_byte.mono : ∀ a0 a1 k, LeO (slices_Equal_byte_byte.f k a0 a1) (slices_Equal_byte_byte.f (k + 1) a0 a1) := by
 intro a0 a1 k
 have ih0 := slices_Equal_byte_byte.mono_l k
 unfold slices_Equal_byte_byte.f
 repeat' first
   | (with_reducible exact ih0 _ _ _ _)
   | (with_reducible exact LeO.refl _)
   | (with_reducible exact LeO.none _)
   | (with_reducible refine LeO.ite ?_ ?_)
   | (with_reducible refine LeO.bind ?_ (fun _ => ?_))
   | exact ih0 _ _ _ _
   | exact LeO.none _
   | refine LeO.ite ?_ ?_
   | refine LeO.bind ?_ (fun _ => ?_)
set_option maxHeartbeats 8000000 in
set_option maxRecDepth 100000 in
theorem slices_Equal_byte_byte.calls (k : Nat) (A0 : Option Addr) (c0 : Nat) (l0 : List Int) (A1 : Option Addr) (c1 : Nat) (l1 : List Int) (r : Bool) (w : World) (hr0 : Kd.C (Kd.int .u8) w A0 l0.length l0) (hc0 : l0.length ≤ c0) (hr1 : Kd.C (Kd.int .u8) w A1 l1.length l1) (hc1 : l1.length ≤ c1) (h : slices_Equal_byte_byte.f k l0 l1 = some r) :
  Calls Try.prog 72 #[.slice A0 l0.length c0, .slice A1 l1.length c1] w fun e w' => e = .returned (.bool r) ∧ Drawn0 w w' := by
 have HR0 := mk_ hr0
 have HC0 := mk_ hc0
 clear hr0 hc0
 have HR1 := mk_ hr1
 have HC1 := mk_ hc1
 clear hr1 hc1
 have H := h
 unfold slices_Equal_byte_byte.f at H
 clear h
 by_cases c3 : (l0.length : Int) = (l1.length : Int)
 rotate_left
 ·rw [if_neg c3] at H
  have c3b0 : ((l0.length : Int) == (l1.length : Int)) = false := beq_eq_false_iff_ne.mpr c3
  have c3b1 : ((l0.length : Int) != (l1.length : Int)) = true := bne_iff_ne.mpr c3
  have c3b2 : (l0.length == l1.length) = false := by first | simpa using c3 | (simp at c3 ⊢; omega)
  obtain rfl := Option.some.inj H
  go_enter Try.func72, Try.ntmps72
  go_wp2
  repeat (go_quiet (fail); try go_wp2)
  go_ret
  exact ⟨by first | rfl | (simp; done) | (simp [*]; done), by repeat (first | exact Drawn0.refl _ | apply Drawn0.step)⟩
 rw [if_pos c3] at H
 have c3b0 : ((l0.length : Int) == (l1.length : Int)) = true := beq_iff_eq.mpr c3
 have c3b1 : ((l0.length : Int) != (l1.length : Int)) = false := bne_eq_false_iff_eq.mpr c3
 have c3b2 : (l0.length == l1.length) = true := by first | simpa using c3 | (simp at c3 ⊢; omega)
 clear c3
 have H' := mk_ H
 clear H
 go_enter Try.func72, Try.ntmps72
 go_wp2
 repeat (go_quiet (fail); try go_wp2)
 go_loopg [13] k (fun kq v13 w' => ∃ (x13_1 : Int), v13 = .int .i64 x13_1 ∧ Aside0 (slices_Equal_byte_byte.l0 kq l0 l1 (l0.length : Int) x13_1 = some r) ∧ Aside0 (kq ≤ k) ∧ Drawn0 w w')
 case atStart => exact ⟨(0), (by first | rfl | (simp; done) | (simp [*]; done)), H', ⟨Nat.le_refl _⟩, by repeat (first | exact Drawn0.refl _ | apply Drawn0.step)⟩
 case round =>
  clear H'
  try clear c1
  try clear p2
  try clear c3
  try clear c3b0
  try clear c3b1
  try clear c3b2
  obtain ⟨x13_1, rfl, HA, HK1, ⟨m1, rfl⟩⟩ := hrel
  cases gk with
  | zero => exact absurd HA.out (by simp [slices_Equal_byte_byte.l0])
  | succ k1 =>
   have H := HA.out
   clear HA
   simp only [slices_Equal_byte_byte.l0] at H
   by_cases c4 : x13_1 < (l0.length : Int)
   rotate_left
   ·rw [if_neg c4] at H
    have c4b0 : decide (x13_1 < (l0.length : Int)) = false := decide_eq_false c4
    clear c4
    obtain rfl := Option.some.inj H
    go_wp2
    repeat (go_quiet (fail); try go_wp2)
    go_ret
    exact ⟨by first | rfl | (simp; done) | (simp [*]; done), by repeat (first | exact Drawn0.refl _ | apply Drawn0.step)⟩
   rw [if_pos c4] at H
   have c4b0 : decide (x13_1 < (l0.length : Int)) = true := decide_eq_true c4
   clear c4
   by_cases c5 : 0 ≤ x13_1
   rotate_left
   ·rw [if_neg c5] at H
    exact absurd H (by simp)
   rw [if_pos c5] at H
   have c5b0 : decide (0 ≤ x13_1) = true := decide_eq_true c5
   clear c5
   by_cases c6 : x13_1 < (l0.length : Int)
   rotate_left
   ·rw [if_neg c6] at H
    exact absurd H (by simp)
   rw [if_pos c6] at H
   have c6b0 : decide (x13_1 < (l0.length : Int)) = true := decide_eq_true c6
   clear c6
   by_cases c7 : x13_1 < (l1.length : Int)
   rotate_left
   ·rw [if_neg c7] at H
    exact absurd H (by simp)
   rw [if_pos c7] at H
   have c7b0 : decide (x13_1 < (l1.length : Int)) = true := decide_eq_true c7
   clear c7
   by_cases c8 : (rd l0 x13_1) = (rd l1 x13_1)
   rotate_left
   ·rw [if_neg c8] at H
    have c8b0 : ((rd l0 x13_1) == (rd l1 x13_1)) = false := beq_eq_false_iff_ne.mpr c8
    have c8b1 : ((rd l0 x13_1) != (rd l1 x13_1)) = true := bne_iff_ne.mpr c8
    obtain rfl := Option.some.inj H
    have p249 : 0 ≤ (x13_1 : Int) := of_decide_eq_true (by first | (with_reducible assumption) | assumption)
    have q249 : x13_1 < (l0.length : Int) := of_decide_eq_true (by first | (with_reducible assumption) | assumption)
    obtain ⟨ad249, e249, hx249_0⟩ := Kd.at_int HR0.out x13_1 p249 q249
    cases e249
    replace p249 := eq_true p249
    replace q249 := eq_true q249
    have p250 : 0 ≤ (x13_1 : Int) := of_decide_eq_true (by first | (with_reducible assumption) | assumption)
    have q250 : x13_1 < (l1.length : Int) := of_decide_eq_true (by first | (with_reducible assumption) | assumption)
    obtain ⟨ad250, e250, hx250_0⟩ := Kd.at_int HR1.out x13_1 p250 q250
    cases e250
    replace p250 := eq_true p250
    replace q250 := eq_true q250
    go_wp2
    repeat (go_quiet (fail); try go_wp2)
    go_ret
    exact ⟨by first | rfl | (simp; done) | (simp [*]; done), by repeat (first | exact Drawn0.refl _ | apply Drawn0.step)⟩
   rw [if_pos c8] at H
   have c8b0 : ((rd l0 x13_1) == (rd l1 x13_1)) = true := beq_iff_eq.mpr c8
   have c8b1 : ((rd l0 x13_1) != (rd l1 x13_1)) = false := bne_eq_false_iff_eq.mpr c8
   clear c8
   have H' := mk_ H
   clear H
   have p249 : 0 ≤ (x13_1 : Int) := of_decide_eq_true (by first | (with_reducible assumption) | assumption)
   have q249 : x13_1 < (l0.length : Int) := of_decide_eq_true (by first | (with_reducible assumption) | assumption)
   obtain ⟨ad249, e249, hx249_0⟩ := Kd.at_int HR0.out x13_1 p249 q249
   cases e249
   replace p249 := eq_true p249
   replace q249 := eq_true q249
   have p250 : 0 ≤ (x13_1 : Int) := of_decide_eq_true (by first | (with_reducible assumption) | assumption)
   have q250 : x13_1 < (l1.length : Int) := of_decide_eq_true (by first | (with_reducible assumption) | assumption)
   obtain ⟨ad250, e250, hx250_0⟩ := Kd.at_int HR1.out x13_1 p250 q250
   cases e250
   replace p250 := eq_true p250
   replace q250 := eq_true q250
   go_wp2
   repeat (go_quiet (fail); try go_wp2)
   go_roundg k1
   case measure => have := HK1.out; omega
   case rel => exact ⟨(wrap64 (x13_1 + 1)), (by first | rfl | (simp; done) | (simp [*]; done)), H', ⟨by have := HK1.out; omega⟩, by repeat (first | exact Drawn0.refl _ | apply Drawn0.step)⟩

/-! ### slices_Grow_byte_byte: function 102, at nil -/
set_option maxHeartbeats 400000 in
set_option maxRecDepth 100000 in
theorem slices_Grow_byte_byte.calls (n : Int) (w : World) (h0 : 0 ≤ n) (h1 : n ≤ 140737488355328) :
    Calls Try.prog 102 #[.slice none 0 0, .int .i64 n] w fun e w' => ∃ v0_ : Value, e = .returned (v0_) ∧ Kd.R (Kd.int .u8) 5 w' w.heap.size (fun _ => True) v0_ [] ∧ Below w.heap.size w w' := by
 have HI := Aside0.mk info5
 have hn0 : decide (n < 0) = false := decide_eq_false (by omega)
 by_cases hz : n = 0
 ·subst hz
  go_enter Try.func102, Try.ntmps102
  go_wp2_with fail
  go_ret
  exact ⟨_, rfl, Kd.R_nil _ _ _ _ _, Below.refl _ _⟩
 ·have hp : decide (0 < n) = true := decide_eq_true (by omega)
  have H0 := Aside0.mk h0
  have H1 := Aside0.mk h1
  clear hz
  go_enter Try.func102, Try.ntmps102
  go_wp2_with (at_builtin; refine Kd.R_append_zeros (Kd.int .u8) (w0 := w) w.heap.size rfl (.tmp 20) (.tmp 21) 29 3 5 (.int .u8 0) 1 rfl Try.underlying29 Try.underlying3 HI.out rfl (by decide) (by omega) (.slice none 0 0) ([] : List Int) (0 : Int) n (fun _ => True) rfl rfl rfl (fun _ _ => trivial) (Kd.R_nil _ _ _ _ _) H0.out (Below.refl _ _) (Nat.le_refl _) (by have := H1.out; have := H0.out; simp; omega) ?_; intro v1 w1 ho hb hg hat; obtain ⟨A1, c1, hv1, hl1, hc1⟩ := Kd.R_reads ho; subst hv1; have HO := Aside0.mk (Kd.R_take (m := 0) ho (Nat.zero_le _)); have HB := Aside0.mk hb; clear ho hb hg hat hc1)
  go_ret
  exact ⟨_, rfl, by simpa using HO.out, HB.out⟩

/-! ### slices_Concat_byte_byte: function 94 -/
theorem slices_Concat_byte_byte.at_rows {e : Nat} {w : World} {A : Option Addr} {n : Nat} {xs : List (List Int)} (h : Kd.C (Kd.slice e (Kd.int .u8)) w A n xs) (i : Nat) (h1 : i < n) :
    ∃ ad A0 c0, A = some ad ∧ w.cell? (ad.add i) = some (.slice A0 (xs.getD i []).length c0) ∧ (xs.getD i []).length ≤ c0 ∧ (Kd.int .u8).C w A0 (xs.getD i []).length (xs.getD i []) := by
  obtain ⟨ad, c, e, _, hK, hc0⟩ := Kd.C_get h ([] : List Int) (i : Int) (by omega) (by omega)
  obtain ⟨A0, c0, rfl, l0, g0⟩ := hK
  have hq : w.cell? (ad.add (i * 1 + 0)) = some (.slice A0 (xs.getD i []).length c0) := hc0 0 _ rfl
  rw [Nat.mul_one, Nat.add_zero] at hq
  exact ⟨ad, A0, c0, e, hq, l0, g0⟩
theorem slices_Concat_byte_byte.flat_step (l : List (List Int)) (q : Nat) (h : q < l.length) : (l.take (q + 1)).flatten = (l.take q).flatten ++ l.getD q [] := by
  rw [List.take_succ_eq_append_getElem h, List.flatten_append, List.getD_eq_getElem?_getD, List.getElem?_eq_getElem h]
  simp
theorem slices_Concat_byte_byte.flat_le (l : List (List Int)) (q : Nat) : (l.take q).flatten.length ≤ l.flatten.length := by
  have h := congrArg List.flatten (List.take_append_drop q l)
  rw [List.flatten_append] at h
  rw [← h, List.length_append]
  omega
def slices_Concat_byte_byte.f (l0 : List (List Int)) : Option (List Int) := if l0.flatten.length < 140737488355328 then some l0.flatten else none
set_option maxHeartbeats 1000000 in
set_option maxRecDepth 100000 in
theorem slices_Concat_byte_byte.calls (A0 : Option Addr) (c0 : Nat) (l0 : List (List Int)) (r : List Int) (w : World) (hr0 : Kd.C (Kd.slice 5 (Kd.int .u8)) w A0 l0.length l0) (hc0 : l0.length ≤ c0) (h : slices_Concat_byte_byte.f l0 = some r) :
    Calls Try.prog 94 #[.slice A0 l0.length c0] w fun e w' => ∃ v0_ : Value, e = .returned (v0_) ∧ Kd.R (Kd.int .u8) 5 w' w.heap.size (fun _ => True) v0_ r ∧ Below w.heap.size w w' := by
 have hlim : l0.flatten.length < 140737488355328 := by
   unfold slices_Concat_byte_byte.f at h
   by_cases hl : l0.flatten.length < 140737488355328
   · exact hl
   · rw [if_neg hl] at h; cases h
 obtain rfl : l0.flatten = r := by
   unfold slices_Concat_byte_byte.f at h
   rw [if_pos hlim] at h
   exact Option.some.inj h
 clear h
 have hlen : l0.length ≤ 9223372036854775807 := hr0.2.1
 have HR := Aside0.mk hr0
 have HL := Aside0.mk hlim
 have HI := Aside0.mk info5
 clear hr0 hc0 hlim
 go_enter Try.func94, Try.ntmps94
 go_wp2
 go_loop [3, 11] (fun s i => ∃ q : Nat, q ≤ l0.length ∧ i = .int .i64 q ∧ s = .int .i64 ((l0.take q).flatten.length : Nat)) (fun _ i => l0.length - (intOf i).toNat)
 case atStart => exact ⟨0, Nat.zero_le _, rfl, rfl⟩
 case round =>
  obtain ⟨q, hq, rfl, rfl⟩ := hrel
  by_cases hlt : q < l0.length
  ·obtain ⟨ad, A1, c1, rfl, hcell, hl1, hC1⟩ := slices_Concat_byte_byte.at_rows HR.out q hlt
   have HS := Aside0.mk (congrArg List.length (slices_Concat_byte_byte.flat_step l0 q hlt))
   have hle : (l0.take q).flatten.length + (l0.getD q []).length < 140737488355328 := by
     have h1 := slices_Concat_byte_byte.flat_le l0 (q + 1)
     have h2 := HL.out
     have h3 := HS.out
     rw [List.length_append] at h3
     omega
   clear hC1
   rw [List.length_append] at HS
   generalize (l0.getD q []).length = b at hle hcell hl1 HS
   generalize (l0.take q).flatten.length = a at hle HS ⊢
   go_wp2
   go_round
   case rel => exact ⟨q + 1, by omega, by go_num, by rw [HS.out]; go_num⟩
   case measure => simp [intOf]; omega
  ·obtain rfl : q = l0.length := by omega
   have HQ := Aside0.mk (show (l0.take l0.length).flatten.length < 140737488355328 by rw [List.take_length]; exact HL.out)
   generalize (l0.take l0.length).flatten.length = tot at HQ ⊢
   go_wp2_with (go_at_call 102; (with_reducible refine (slices_Grow_byte_byte.calls _ _ (by omega) (by have := HQ.out; omega)).mono ?_); rintro e w1 ⟨v1, rfl, ho, hb⟩; have HO := Aside0.mk ho; have HB := Aside0.mk hb; clear ho hb)
   go_loopw [6, 27] (fun v i wr => ∃ q : Nat, q ≤ l0.length ∧ i = .int .i64 q ∧ Aside0 (Kd.R (Kd.int .u8) 5 wr w.heap.size (fun _ => True) v ((l0.take q).flatten)) ∧ Aside0 (Below w.heap.size w wr)) (fun _ i _ => l0.length - (intOf i).toNat)
   case atStart => exact ⟨0, Nat.zero_le _, rfl, ⟨HO.out⟩, ⟨HB.out⟩⟩
   case round =>
    obtain ⟨q, hq, rfl, HO2, HB2⟩ := hrel
    by_cases hlt : q < l0.length
    ·obtain ⟨ad, A1, c1, rfl, hcell, hl1, hC1⟩ := slices_Concat_byte_byte.at_rows (Kd.C_below HR.out HB2.out) q hlt
     have HC := Aside0.mk hC1
     have HS := Aside0.mk (slices_Concat_byte_byte.flat_step l0 q hlt)
     have hle : (l0.take q).flatten.length + (l0.getD q []).length < 140737488355328 := by
       have h1 := slices_Concat_byte_byte.flat_le l0 (q + 1)
       have h2 := HL.out
       have h3 := congrArg List.length HS.out
       rw [List.length_append] at h3
       omega
     have HLE := Aside0.mk hle
     clear hC1 hle
     generalize l0.getD q [] = y at HLE hcell hl1 HS HC
     generalize (l0.take q).flatten = z at HLE HS HO2
     have hbs := HB2.out.size
     go_wp2_with (at_builtin; refine Kd.R_append_rows (Kd.int .u8) (w0 := w) w.heap.size rfl (.tmp 31) (.tmp 32) 29 5 (.int .u8 0) 1 rfl Try.underlying29 HI.out rfl (by decide) (by omega) _ z y _ _ _ (fun _ => True) (fun _ => False) rfl rfl ?aO ?aR (fun _ _ h => h) (fun _ h => h.elim) ?aF ?aB ?aS ?aL ?_; (case aO => exact HO2.out); (case aR => exact HC.out); (case aF => exact fun _ _ => trivial); (case aB => exact HB2.out); (case aS => exact hbs); (case aL => have := HLE.out; omega); intro v1 w2 ho hb hg hat; have HO3 := Aside0.mk ho; have HB3 := Aside0.mk hb; clear ho hb hg hat)
     go_roundw
     case rel => exact ⟨q + 1, by omega, by go_num, ⟨by rw [HS.out]; exact HO3.out⟩, ⟨HB3.out⟩⟩
     case measure => simp [intOf]; omega
    ·obtain rfl : q = l0.length := by omega
     go_wp2
     go_ret
     exact ⟨_, rfl, by have := HO2.out; rwa [List.take_length] at this, HB2.out⟩

-- slices_Chunk_byte_byte_1: see the function that ranges over it

-- slices_Chunk_byte_byte: see the function that ranges over it

/-! ### impl_added: function 104 -/
def impl_added.l0 : Nat → Int → List Int → Int → Int → Option (Int)
 | 0, _, _, _, _ => none
 | k + 1, x3, x6, x7, x8 => if x8 < x7 then (if 0 ≤ x8 then (if x8 < (x6.length : Int) then (if (wrap64 (x3 + (rd x6 x8))) > 65535 then (impl_added.l0 k (wrap64 ((wrap64 (x3 + (rd x6 x8))) - 65535)) x6 x7 (wrap64 (x8 + 1))) else (impl_added.l0 k (wrap64 (x3 + (rd x6 x8))) x6 x7 (wrap64 (x8 + 1)))) else (none)) else (none)) else (some x3)
def impl_added.f (k : Nat) (l0 : List Int) : Option (Int) := impl_added.l0 k 0 l0 (l0.length : Int) 0
theorem impl_added.mono_l : ∀ k, (∀ y0 y1 y2 y3, LeO (impl_added.l0 k y0 y1 y2 y3) (impl_added.l0 (k + 1) y0 y1 y2 y3))
 | 0 => fun _ _ _ _ r h => by simp [impl_added.l0] at h
 | k + 1 => by
  have ih0 := impl_added.mono_l k
  ·intro y0 y1 y2 y3
   unfold impl_added.l0
   repeat' first
   | (with_reducible exact ih0 _ _ _ _)
   | (with_reducible exact LeO.refl _)
   | (with_reducible exact LeO.none _)
   | (with_reducible refine LeO.ite ?_ ?_)
   | (with_reducible refine LeO.bind ?_ (fun _ => ?_))
   | exact ih0 _ _ _ _
   | exact LeO.none _
   | refine LeO.ite ?_ ?_
   | refine LeO.bind ?_ (fun _ => ?_)
theorem impl_added.mono : ∀ a0 k, LeO (impl_added.f k a0) (impl_added.f (k + 1) a0) := by
 intro a0 k
 have ih0 := impl_added.mono_l k
 unfold impl_added.f
 repeat' first
   | (with_reducible exact ih0 _ _ _ _)
   | (with_reducible exact LeO.refl _)
   | (with_reducible exact LeO.none _)
   | (with_reducible refine LeO.ite ?_ ?_)
   | (with_reducible refine LeO.bind ?_ (fun _ => ?_))
   | exact ih0 _ _ _ _
   | exact LeO.none _
   | refine LeO.ite ?_ ?_
   | refine LeO.bind ?_ (fun _ => ?_)
set_option maxHeartbeats 8000000 in
set_option maxRecDepth 100000 in
theorem impl_added.calls (k : Nat) (A0 : Option Addr) (c0 : Nat) (l0 : List Int) (r : Int) (w : World) (hr0 : Kd.C (Kd.int .i64) w A0 l0.length l0) (hc0 : l0.length ≤ c0) (h : impl_added.f k l0 = some r) :
  Calls Try.prog 104 #[.slice A0 l0.length c0] w fun e w' => e = .returned (.int .i64 r) ∧ Drawn0 w w' := by
 have HR0 := mk_ hr0
 have HC0 := mk_ hc0
 clear hr0 hc0
 have H : (impl_added.l0 k 0 l0 (l0.length : Int) 0) = some r := h
 clear h
 have H' := mk_ H
 clear H
 go_enter Try.func104, Try.ntmps104
 go_wp2
 go_loopg [3, 8] k (fun kq v3 v8 w' => ∃ (x3_1 : Int) (x8_1 : Int), v3 = .int .i64 x3_1 ∧ v8 = .int .i64 x8_1 ∧ Aside0 (impl_added.l0 kq x3_1 l0 (l0.length : Int) x8_1 = some r) ∧ Aside0 (kq ≤ k) ∧ Drawn0 w w')
 case atStart => exact ⟨(0), (0), (by first | rfl | (simp; done) | (simp [*]; done)), (by first | rfl | (simp; done) | (simp [*]; done)), H', ⟨Nat.le_refl _⟩, by repeat (first | exact Drawn0.refl _ | apply Drawn0.step)⟩
 case round =>
  clear H'
  try clear c1
  obtain ⟨x3_1, x8_1, rfl, rfl, HA, HK1, ⟨m1, rfl⟩⟩ := hrel
  cases gk with
  | zero => exact absurd HA.out (by simp [impl_added.l0])
  | succ k1 =>
   have H := HA.out
   clear HA
   simp only [impl_added.l0] at H
   by_cases c2 : x8_1 < (l0.length : Int)
   rotate_left
   ·rw [if_neg c2] at H
    have c2b0 : decide (x8_1 < (l0.length : Int)) = false := decide_eq_false c2
    clear c2
    obtain rfl := Option.some.inj H
    go_wp2
    go_ret
    exact ⟨by first | rfl | (simp; done) | (simp [*]; done), by repeat (first | exact Drawn0.refl _ | apply Drawn0.step)⟩
   rw [if_pos c2] at H
   have c2b0 : decide (x8_1 < (l0.length : Int)) = true := decide_eq_true c2
   clear c2
   by_cases c3 : 0 ≤ x8_1
   rotate_left
   ·rw [if_neg c3] at H
    exact absurd H (by simp)
   rw [if_pos c3] at H
   have c3b0 : decide (0 ≤ x8_1) = true := decide_eq_true c3
   clear c3
   by_cases c4 : x8_1 < (l0.length : Int)
   rotate_left
   ·rw [if_neg c4] at H
    exact absurd H (by simp)
   rw [if_pos c4] at H
   have c4b0 : decide (x8_1 < (l0.length : Int)) = true := decide_eq_true c4
   clear c4
   by_cases c5 : (wrap64 (x3_1 + (rd l0 x8_1))) > 65535
   ·rw [if_pos c5] at H
    have c5b0 : decide (65535 < (wrap64 (x3_1 + (rd l0 x8_1)))) = true := decide_eq_true c5
    clear c5
    have H' := mk_ H
    clear H
    have p251 : 0 ≤ (x8_1 : Int) := of_decide_eq_true (by first | (with_reducible assumption) | assumption)
    have q251 : x8_1 < (l0.length : Int) := of_decide_eq_true (by first | (with_reducible assumption) | assumption)
    obtain ⟨ad251, e251, hx251_0⟩ := Kd.at_int HR0.out x8_1 p251 q251
    cases e251
    replace p251 := eq_true p251
    replace q251 := eq_true q251
    go_wp2
    go_roundg k1
    case measure => have := HK1.out; omega
    case rel => exact ⟨(wrap64 ((wrap64 (x3_1 + (rd l0 x8_1))) - 65535)), (wrap64 (x8_1 + 1)), (by first | rfl | (simp; done) | (simp [*]; done)), (by first | rfl | (simp; done) | (simp [*]; done)), H', ⟨by have := HK1.out; omega⟩, by repeat (first | exact Drawn0.refl _ | apply Drawn0.step)⟩
   rw [if_neg c5] at H
   have c5b0 : decide (65535 < (wrap64 (x3_1 + (rd l0 x8_1)))) = false := decide_eq_false c5
   clear c5
   have H' := mk_ H
   clear H
   have p251 : 0 ≤ (x8_1 : Int) := of_decide_eq_true (by first | (with_reducible assumption) | assumption)
   have q251 : x8_1 < (l0.length : Int) := of_decide_eq_true (by first | (with_reducible assumption) | assumption)
   obtain ⟨ad251, e251, hx251_0⟩ := Kd.at_int HR0.out x8_1 p251 q251
   cases e251
   replace p251 := eq_true p251
   replace q251 := eq_true q251
   go_wp2
   go_roundg k1
   case measure => have := HK1.out; omega
   case rel => exact ⟨(wrap64 (x3_1 + (rd l0 x8_1))), (wrap64 (x8_1 + 1)), (by first | rfl | (simp; done) | (simp [*]; done)), (by first | rfl | (simp; done) | (simp [*]; done)), H', ⟨by have := HK1.out; omega⟩, by repeat (first | exact Drawn0.refl _ | apply Drawn0.step)⟩

/-! ### impl_sumOf: function 95 -/
namespace SumOf_
open Go.Shelf
attribute [local go_sem] Oper.semAt_some
/-- The places of a row. -/
abbrev so_Pl (L : Nat) := { i : Nat // i < L }
/-- The cut of at most two from a place on. -/
def so_cutAt (ad : Addr) (L : Nat) (x : so_Pl L) : Value := .slice (some (ad.add x.1)) (min 2 (L - x.1)) (min 2 (L - x.1))
/-- The first k even places. -/
def so_evens (L : Nat) (h : 0 < L) (k : Nat) : List (so_Pl L) := (List.range k).map fun j => if h2 : 2 * j < L then ⟨2 * j, h2⟩ else ⟨0, h⟩
theorem so_evens_succ (L : Nat) (h : 0 < L) (k : Nat) (hk : 2 * k < L) : so_evens L h (k + 1) = so_evens L h k ++ [⟨2 * k, hk⟩] := by simp [so_evens, List.range_succ, hk]
theorem so_evens_length (L : Nat) (h : 0 < L) (k : Nat) : (so_evens L h k).length = k := by simp [so_evens]
/-- What a round keeps: the iterator's two cells, and whatever lay below. -/
def so_Kq (Bs Bn n₀ : Nat) (A B : World) : Prop := (∀ v, A.cell? ⟨Bs, 0, none⟩ = some v → B.cell? ⟨Bs, 0, none⟩ = some v) ∧ (∀ v, A.cell? ⟨Bn, 0, none⟩ = some v → B.cell? ⟨Bn, 0, none⟩ = some v) ∧ Below n₀ A B

theorem so_cut_l (ad : Addr) (L c0 k : Nat) (hk : k < L) (hc : L ≤ c0) (W' : World) : (Instr.slice 29 (.slice (some ad) L c0) (some (.int .i64 (k : Nat))) none none).run Try.prog W' = .ok (.slice (some (ad.add k)) (L - k) (c0 - k)) W' := by
  obtain ⟨i0, hi, _, hsz, _⟩ := info_parts info5
  have ht := Try.underlying29
  have hel : Try.prog.elem 29 = 5 := by simp [Program.elem, ht]
  have hu : Try.prog.underlying 29 = some (.slice (Try.prog.elem 29)) := by rw [hel]; exact ht
  rw [run_slice_l W' 29 (some ad) L c0 hu .i64 (k : Int) (by omega) (by omega), hel]
  have h1 : ¬ c0 = k := by omega
  simp [sizeOf, typeInfo, hi, hsz, sliced, Result.andThen, h1]
theorem so_cut_lhm (ad : Addr) (L c0 k m : Nat) (hk : k < L) (hm : 0 < m) (hc : k + m ≤ L) (hcc : L ≤ c0) (W' : World) : (Instr.slice 29 (.slice (some ad) L c0) (some (.int .i64 (k : Nat))) (some (.int .i64 ((k + m : Nat) : Int))) (some (.int .i64 ((k + m : Nat) : Int)))).run Try.prog W' = .ok (.slice (some (ad.add k)) m m) W' := by
  obtain ⟨i0, hi, _, hsz, _⟩ := info_parts info5
  have ht := Try.underlying29
  have hel : Try.prog.elem 29 = 5 := by simp [Program.elem, ht]
  have hu : Try.prog.underlying 29 = some (.slice (Try.prog.elem 29)) := by rw [hel]; exact ht
  rw [run_slice_lhm W' 29 (some ad) L c0 hu .i64 .i64 .i64 (k : Int) ((k + m : Nat) : Int) ((k + m : Nat) : Int) (by omega) (by omega) (by omega) (by omega), hel]
  have h1 : ¬ k + m = k := by omega
  simp only [sizeOf, typeInfo, sliced]
  simp [hi, hsz, Result.andThen]
  omega
set_option maxRecDepth 100000 in
set_option maxHeartbeats 4000000 in
theorem so_chunk1_in (F : Fence) (n : Nat) (hF : F.fn 107) (hro : F.round = none) (hn : 1 ≤ n) (l Bs Bn n₀ : Nat) (ad : Addr) (L c0 : Nat) (hL : 0 < L) (hreach : L ≤ 140737488355328) (hcap : L ≤ c0) (J Jx : List (so_Pl L) → World → Prop) (hJd : ∀ s W, J s W → J s W.drew)
    (hY : ∀ pre x W, J pre W → pre.length < L → YieldAt F (n - 1) Try.prog l #[so_cutAt ad L x] W fun e W' =>
      (e = .returned (.bool true) ∧ J (pre ++ [x]) W' ∧ so_Kq Bs Bn n₀ W W') ∨ (e = .returned (.bool false) ∧ Jx (pre ++ [x]) W'))
    (W : World) (hBs : W.cell? ⟨Bs, 0, none⟩ = some (.slice (some ad) L c0)) (hBn : W.cell? ⟨Bn, 0, none⟩ = some (.int .i64 2)) (h0 : J [] W) :
    CallsIn F n Try.prog 107 #[.func (.yield l) #[] #[], .pointer (some ⟨Bs, 0, none⟩), .pointer (some ⟨Bn, 0, none⟩)] W fun e W' => (∃ v, e = .returned v) ∧
      ((∃ ys, ys = so_evens L hL ((L + 1) / 2) ∧ J ys W') ∨ (∃ pre, True ∧ Jx pre W')) := by
  refine callsIn_of_wp Try.func107 rfl hF ?_ hro
  simp only [Try.ntmps107, List.size_toArray, List.length_cons, List.length_nil, Nat.reduceAdd, Nat.reduceSub, Array.replicate_succ, Array.replicate_zero, List.push_toArray, List.append_toArray, List.nil_append, List.cons_append]
  gi_wp2
  gi_loopw [4] (fun i wr => ∃ k : Nat, 2 * k ≤ L + 1 ∧ i = .int .i64 (2 * k : Nat) ∧ J (so_evens L hL k) wr ∧ so_Kq Bs Bn n₀ W wr)
    (fun i _ => L + 1 - (intOf i).toNat)
  case atStart => exact ⟨0, Nat.zero_le _, rfl, h0, fun v h => h, fun v h => h, Below.refl _ _⟩
  case round =>
    obtain ⟨k, hk, rfl, hJs, hk1, hk2, hk3⟩ := hrel
    have c1 := hk1 _ hBs
    have c2 := hk2 _ hBn
    by_cases hlt : 2 * k < L
    · obtain ⟨fn, tmps, assign, body, hy, hR⟩ := hY _ ⟨2 * k, hlt⟩ wr hJs (by rw [so_evens_length]; omega)
      have hs1 := so_cut_l ad L c0 (2 * k) hlt hcap
      obtain ⟨m, hm⟩ : ∃ m, m = min 2 (L - 2 * k) := ⟨_, rfl⟩
      have hmi : (if ((L - 2 * k : Nat) : Int) < 2 then ((L - 2 * k : Nat) : Int) else 2) = (m : Int) := by split <;> omega
      have hs2 := so_cut_lhm ad L c0 (2 * k) m hlt (by omega) (by omega) hcap
      have hsum : IntKind.i64.wrap (((2 * k : Nat) : Int) + (m : Int)) = ((2 * k + m : Nat) : Int) := by rw [i64_w]; unfold wrap64; omega
      have hsum2 : wrap64 (((2 * k : Nat) : Int) + (m : Int)) = ((2 * k + m : Nat) : Int) := by unfold wrap64; omega
      have hnext : wrap64 (((2 * k : Nat) : Int) + 2) = ((2 * (k + 1) : Nat) : Int) := by unfold wrap64; omega
      obtain ⟨fn, tmps, assign, body, hy, hR⟩ := hY _ ⟨2 * k, hlt⟩ wr.drew (hJd _ _ hJs) (by rw [so_evens_length]; omega)
      simp only [so_cutAt] at hy
      have c1' : wr.drew.cell? ⟨Bs, 0, none⟩ = some (.slice (some ad) L c0) := c1
      have c2' : wr.drew.cell? ⟨Bn, 0, none⟩ = some (.int .i64 2) := c2
      generalize hkk : 2 * k = kk at *
      gi_wp2
      gi_region
      all_goals (simp only [← hm])
      all_goals gi_wp2
      all_goals
        refine hR.mono ?_
        rintro e W3 (⟨rfl, hJ3, hk4, hk5, hk6⟩ | ⟨rfl, hJx3⟩)
        · have d1 := hk4 _ c1'
          have d2 := hk5 _ c2'
          gi_wp2
          subst hkk
          go_roundw
          case rel => exact ⟨k + 1, by omega, by first | rfl | (simp; omega) | (go_num), by rw [so_evens_succ L hL k hlt]; exact hJ3, fun v h => by rw [hBs] at h; rw [← h]; exact d1, fun v h => by rw [hBn] at h; rw [← h]; exact d2, (hk3.drew).trans hk6⟩
          case measure => simp [intOf]; omega
        · gi_wp2
          refine bodyPost_ret (results_none rfl _ _ _) rfl ?_
          exact ⟨⟨_, rfl⟩, .inr ⟨_, trivial, hJx3⟩⟩
    · obtain rfl : k = (L + 1) / 2 := by omega
      gi_wp2
      go_end0
      exact ⟨⟨_, rfl⟩, .inl ⟨_, rfl, hJs⟩⟩
set_option maxRecDepth 100000 in
set_option maxHeartbeats 2000000 in
theorem so_chunk0_in (F : Fence) (n : Nat) (hF : F.fn 107) (hro : F.round = none) (l Bs Bn : Nat) (A0 : Option Addr) (c0 : Nat) {α : Type} (J : List α → World → Prop)
    (W : World) (hBs : W.cell? ⟨Bs, 0, none⟩ = some (.slice A0 0 c0)) (hBn : W.cell? ⟨Bn, 0, none⟩ = some (.int .i64 2)) (h0 : J [] W) :
    CallsIn F n Try.prog 107 #[.func (.yield l) #[] #[], .pointer (some ⟨Bs, 0, none⟩), .pointer (some ⟨Bn, 0, none⟩)] W fun e W' => (∃ v, e = .returned v) ∧ J [] W' := by
  refine callsIn_of_wp Try.func107 rfl hF ?_ hro
  simp only [Try.ntmps107, List.size_toArray, List.length_cons, List.length_nil, Nat.reduceAdd, Nat.reduceSub, Array.replicate_succ, Array.replicate_zero, List.push_toArray, List.append_toArray, List.nil_append, List.cons_append]
  gi_wp2
  gi_loopw [4] (fun i wr => i = .int .i64 0 ∧ J [] wr ∧ wr = W) (fun _ _ => 0)
  case atStart => exact ⟨rfl, h0, rfl⟩
  case round =>
    obtain ⟨rfl, hJs, rfl⟩ := hrel
    gi_wp2
    go_end0
    exact ⟨⟨_, rfl⟩, hJs⟩
set_option maxHeartbeats 1000000 in
theorem so_chunk_in (F : Fence) (n : Nat) (hF : F.fn 103) (hro : F.round = none) (A0 : Option Addr) (L c0 : Nat) (w : World) :
    CallsIn F n Try.prog 103 #[.slice A0 L c0, .int .i64 2] w fun e w' => e = .returned (.func (.func 107) #[] #[.pointer (some ⟨w.heap.size, 0, none⟩), .pointer (some ⟨w.heap.size + 1, 0, none⟩)]) ∧ w' = (w.alloc (.cells #[.slice A0 L c0] 29)).alloc (.cells #[.int .i64 2] 3) := by
  have hmf : ∀ (fn : Fn) (first cap : Array Value) (w : World), (Instr.makeFunc fn first cap).run Try.prog w = .ok (.func fn first cap) w := fun _ _ _ _ => rfl
  have hc : ((w.alloc (.cells #[.slice A0 L c0] 29)).alloc (.cells #[.int .i64 2] 3)).cell? ⟨w.heap.size + 1, 0, none⟩ = some (.int .i64 2) := by
    have := (Boxed.new (w.alloc (.cells #[.slice A0 L c0] 29)) 3 (.int .i64 2)).cell
    rwa [World.size_alloc] at this
  refine callsIn_of_wp Try.func103 rfl hF ?_ hro
  simp only [Try.ntmps103, List.size_toArray, List.length_cons, List.length_nil, Nat.reduceAdd, Nat.reduceSub, Array.replicate_succ, Array.replicate_zero, List.push_toArray, List.append_toArray, List.nil_append, List.cons_append]
  gi_wp2
  go_ret
  exact ⟨rfl, rfl⟩
theorem so_Kq_t {Bs Bn n₀ : Nat} {A B C : World} (h : so_Kq Bs Bn n₀ A B) (k : so_Kq Bs Bn n₀ B C) : so_Kq Bs Bn n₀ A C := ⟨fun v x => k.1 v (h.1 v x), fun v x => k.2.1 v (h.2.1 v x), h.2.2.trans k.2.2⟩
theorem so_Kq_b {Bs Bn n₀ B : Nat} (hB : n₀ ≤ B) (W : World) (l : Nat) (o o' : Obj) (hl : B ≤ l) (h1 : W.heap[l]? = some o) (h2 : o.isCells = false) (h3 : o.isWalk = false) : so_Kq Bs Bn n₀ W (W.putObj l o') :=
  ⟨fun v h => cell_kept h (grownBy_putObj' W l o') (fun r e => by cases e; exact ⟨o, h1, h2⟩), fun v h => cell_kept h (grownBy_putObj' W l o') (fun r e => by cases e; exact ⟨o, h1, h2⟩), by
    have := belowK_b (w := W) (n₀ := n₀)
    exact ⟨rfl, rfl, rfl, by simp, fun i hi => World.putObj_heap_other (by omega)⟩⟩
theorem so_chunk_stops (F : Fence) (n : Nat) (hF : F.fn 107) (hro : F.round = none) (hn : 1 ≤ n) (Bs Bn n₀ : Nat) (ad : Addr) (L c0 : Nat) (hL : 0 < L) (hreach : L ≤ 140737488355328) (hcap : L ≤ c0) (w : World) (hs : Bs < w.heap.size) (hs' : Bn < w.heap.size)
    (h1 : w.cell? ⟨Bs, 0, none⟩ = some (.slice (some ad) L c0)) (h2 : w.cell? ⟨Bn, 0, none⟩ = some (.int .i64 2)) :
    SeqStopsK F n Try.prog 107 #[.pointer (some ⟨Bs, 0, none⟩), .pointer (some ⟨Bn, 0, none⟩)] (fun x : so_Pl L => #[so_cutAt ad L x]) (so_Kq Bs Bn n₀) (fun ys => ys = so_evens L hL ((L + 1) / 2)) (fun _ => True) L w := fun l J Jx W hW hJ _ hY h0 =>
  so_chunk1_in F n hF hro hn l Bs Bn n₀ ad L c0 hL hreach hcap J Jx (fun s A hA => hJ s A A.drew none hA ⟨rfl, rfl, rfl, Nat.le_refl _, fun _ _ _ => rfl⟩ (fun r e => by cases e)) hY W ((hW.cell (p := ⟨Bs, 0, none⟩) hs).trans h1) ((hW.cell (p := ⟨Bn, 0, none⟩) hs').trans h2) h0
/-- Two bytes, or the last so_one, put side by side. -/
def so_nAt (l : List Int) (i : Nat) : Int := if i + 1 < l.length then Go.bits .or .i64 (wrap64 (wrap64 (rd l (i : Int)) * 256)) (wrap64 (rd l ((i + 1 : Nat) : Int))) else wrap64 (wrap64 (rd l (i : Int)) * 256)
def so_one (a b : Int) : Int := if wrap64 (a + b) > 65535 then wrap64 (wrap64 (a + b) - 65535) else wrap64 (a + b)
def so_addW (s n : Int) : Int := so_one (so_one 0 s) n
theorem so_added2 (k : Nat) (s n : Int) : impl_added.f (k + 3) [s, n] = some (so_addW s n) := by
  have w1 : wrap64 (0 + 1) = 1 := by unfold wrap64; omega
  have w2 : wrap64 (1 + 1) = 2 := by unfold wrap64; omega
  have r0 : rd [s, n] 0 = s := rfl
  have r1 : rd [s, n] 1 = n := rfl
  simp only [impl_added.f]
  rw [impl_added.l0]
  simp only [List.length_cons, List.length_nil, r0, w1]
  rw [if_pos (by decide), if_pos (by decide), if_pos (by decide)]
  have step : ∀ a : Int, impl_added.l0 (k + 2) a [s, n] (((0 + 1 + 1 : Nat) : Int)) 1 = some (so_one a n) := by
    intro a
    rw [impl_added.l0]
    simp only [List.length_cons, List.length_nil, r1, w2]
    rw [if_pos (by decide), if_pos (by decide), if_pos (by decide)]
    unfold so_one
    split
    · rw [impl_added.l0, if_neg (by decide)]
    · rw [impl_added.l0, if_neg (by decide)]
  unfold so_addW
  rw [step, step]
  split
  · rename_i h; rw [show so_one 0 s = wrap64 (wrap64 (0 + s) - 65535) by unfold so_one; rw [if_pos h]]
  · rename_i h; rw [show so_one 0 s = wrap64 (0 + s) by unfold so_one; rw [if_neg h]]
def so_sumW (l : List Int) (pre : List (so_Pl l.length)) : Int := pre.foldl (fun s x => so_addW s (so_nAt l x.1)) 0
theorem so_sumW_snoc (l : List Int) (pre : List (so_Pl l.length)) (x : so_Pl l.length) : so_sumW l (pre ++ [x]) = so_addW (so_sumW l pre) (so_nAt l x.1) := by simp [so_sumW]
theorem so_addedAt (W : World) (s n : Int) : Calls Try.prog 104 #[.slice (some ⟨W.heap.size, 0, none⟩) 2 2] (W.alloc (.cells #[.int .i64 s, .int .i64 n] 3)) fun e w' => e = .returned (.int .i64 (so_addW s n)) ∧ Drawn0 (W.alloc (.cells #[.int .i64 s, .int .i64 n] 3)) w' := by
  have hb := blk_new W (.cells #[.int .i64 s, .int .i64 n] 3 (0, 0))
  have hC : Kd.C (Kd.int .i64) (W.alloc (.cells #[.int .i64 s, .int .i64 n] 3)) (some ⟨W.heap.size, 0, none⟩) [s, n].length [s, n] := by
    refine Kd.C_of_reads (d := (0 : Int)) (h1 := fun _ => rfl) ⟨rfl, by simp, fun _ => ⟨_, rfl, fun j hj => ?_⟩⟩
    have h0 := blk_cell hb 0
    have h1 := blk_cell hb 1
    have hj : j = 0 ∨ j = 1 := by simp at hj; omega
    rcases hj with rfl | rfl
    · exact h0
    · exact h1
  exact impl_added.calls 3 (some ⟨W.heap.size, 0, none⟩) 2 [s, n] _ _ hC (by simp) (so_added2 0 s n)
theorem so_cell_ad {W : World} {p : Addr} {v : Value} (o : Obj) (nd : Nat) (h : W.cell? p = some v) : ((W.alloc o).drewN nd).cell? p = some v :=
  show (W.alloc o).cell? p = some v from cell_kept h (World.grownBy_alloc W o none) (fun r e => by cases e)
theorem so_frozen_ad {W : World} {p : Addr} {v : Value} (o : Obj) (nd : Nat) (h : W.cell? p = some v) (hf : W.frozen? p = false) : ((W.alloc o).drewN nd).frozen? p = false :=
  show (W.alloc o).frozen? p = false from (frozen_kept h (World.grownBy_alloc W o none) (fun r e => by cases e)).trans hf
theorem so_pw_below_drewN2 {B : Nat} {w W : World} (h : Below B w W) (n : Nat) : Below B w (W.drewN n) := pw_below_drewN h n
theorem so_roundEnd {w W : World} {u v : Value} (B : Nat) (o : Obj) (nd : Nat) (hu : v.oneCell' = true) (hu' : u.oneCell' = true) (hc : W.cell? ⟨w.heap.size, 0, none⟩ = some u) (hf : W.frozen? ⟨w.heap.size, 0, none⟩ = false) (hB : Below w.heap.size w W) :
    KeepsFrom B W (((W.alloc o).drewN nd).setCell ⟨w.heap.size, 0, none⟩ v) ∧ so_Kq (w.heap.size + 1) (w.heap.size + 1 + 1) w.heap.size W (((W.alloc o).drewN nd).setCell ⟨w.heap.size, 0, none⟩ v) ∧
      ((((W.alloc o).drewN nd).setCell ⟨w.heap.size, 0, none⟩ v).cell? ⟨w.heap.size, 0, none⟩ = some v ∧ (((W.alloc o).drewN nd).setCell ⟨w.heap.size, 0, none⟩ v).frozen? ⟨w.heap.size, 0, none⟩ = false) ∧ Below w.heap.size w (((W.alloc o).drewN nd).setCell ⟨w.heap.size, 0, none⟩ v) := by
  have c2 := so_cell_ad o nd hc
  have f2 := so_frozen_ad o nd hc hf
  have b1 : Below w.heap.size W (((W.alloc o).drewN nd).setCell ⟨w.heap.size, 0, none⟩ v) := (so_pw_below_drewN2 ((Below.refl w.heap.size W).alloc hB.size o) nd).setCell (p := ⟨w.heap.size, 0, none⟩) (Nat.le_refl _) _
  have k0 : KeepsOthers (W.alloc o) ((W.alloc o).drewN nd) := ⟨Nat.le_refl _, fun _ _ h _ => h⟩
  refine ⟨(((KeepsOthers.alloc W o).trans k0).trans (KeepsOthers.setCell _ _ _)).from _, ⟨fun x hx => ?_, fun x hx => ?_, b1⟩, ⟨World.cell?_setCell_same' _ _ _ (by rw [c2]; rfl), by rw [World.frozen?_setCell]; exact f2⟩, hB.trans b1⟩
  · rw [cell_far (by simp)]
    exact so_cell_ad o nd hx
  · rw [cell_far (by simp; omega)]
    exact so_cell_ad o nd hx
set_option maxRecDepth 100000 in
set_option maxHeartbeats 4000000 in
theorem so_sumOf_in (ad : Addr) (c0 : Nat) (l0 : List Int) (w : World) (hr0 : Kd.C (Kd.int .u8) w (some ad) l0.length l0) (hc0 : l0.length ≤ c0) (hL : 0 < l0.length) (hlim : l0.length < 140737488355328) :
    CallsIn Fence.wide 5 Try.prog 95 #[.slice (some ad) l0.length c0] w fun e W' => e = .returned (.int .i64 (wrap64 (65535 - so_sumW l0 (so_evens l0.length hL ((l0.length + 1) / 2))))) ∧ Below w.heap.size w W' := by
  refine callsIn_of_wp_marks Try.func95 rfl trivial ?_ rfl
  simp only [Try.ntmps95, List.size_toArray, List.length_cons, List.length_nil, Nat.reduceAdd, Nat.reduceSub, Array.replicate_succ, Array.replicate_zero, List.push_toArray, List.append_toArray, List.nil_append, List.cons_append]
  gi_wp2_with (refine ⟨trivial, ?_⟩; gi_at_call 103; refine (so_chunk_in Fence.wide 4 trivial rfl _ _ _ _).mono ?_; rintro e w' ⟨rfl, rfl⟩)
  have bS := Boxed.new w 3 (.int .i64 0)
  have bs := Boxed.new (w.alloc (.cells #[.int .i64 0] 3)) 29 (.slice (some ad) l0.length c0)
  have bn := Boxed.new ((w.alloc (.cells #[.int .i64 0] 3)).alloc (.cells #[.slice (some ad) l0.length c0] 29)) 3 (.int .i64 2)
  rw [World.size_alloc] at bs
  rw [World.size_alloc, World.size_alloc] at bn
  have hB0 : Below w.heap.size w (((w.alloc (.cells #[.int .i64 0] 3)).alloc (.cells #[.slice (some ad) l0.length c0] 29)).alloc (.cells #[.int .i64 2] 3)) := (((Below.refl _ w).alloc (Nat.le_refl _) _).alloc (by simp) _).alloc (by simp; omega) _
  refine wpIn_rangeFunc_ownG rfl (by decide : 1 ≤ 5) (gf := 107) (lb := #[.pointer (some ⟨w.heap.size + 1, 0, none⟩), .pointer (some ⟨w.heap.size + 1 + 1, 0, none⟩)]) rfl trivial (enters_of Try.func107 (by kernel_rfl) rfl)
    (so_chunk_stops Fence.wide 4 trivial rfl (by omega) (w.heap.size + 1) (w.heap.size + 1 + 1) w.heap.size ad l0.length c0 hL (by omega) hc0 _ (by simp) (by simp) (bs.alloc _).cell bn.cell) so_Kq_t (so_Kq_b hB0.size) (Below.refl _ _) (fun _ => rfl)
    (fun pre W => (W.cell? ⟨w.heap.size, 0, none⟩ = some (.int .i64 (so_sumW l0 pre)) ∧ W.frozen? ⟨w.heap.size, 0, none⟩ = false) ∧ Below w.heap.size w W)
    (fun _ _ _ => False)
    (OwnFrom.and (Own.from (fun s A B row hs hg hr => ⟨cell_kept hs.1 hg hr, (frozen_kept hs.1 hg hr).trans hs.2⟩) _) (ownFrom_below (Nat.le_refl _) (by simp; omega)))
    (fun _ _ _ _ _ hs _ _ => hs)
    ⟨⟨((bS.alloc _).alloc _).cell, ((bS.alloc _).alloc _).frozen⟩, hB0⟩
    (fun x => { tmps := #[.slice (some ad) l0.length c0, undef, .int .i64 0, .pointer (some ⟨w.heap.size, 0, none⟩), so_cutAt ad l0.length x, undef, .slice (some ad) l0.length c0, .func (.func 107) #[] #[.pointer (some ⟨w.heap.size + 1, 0, none⟩), .pointer (some ⟨w.heap.size + 1 + 1, 0, none⟩)], so_cutAt ad l0.length x, undef, undef, undef, undef, undef, undef, undef, undef, undef, undef, undef, undef, undef, undef, undef, undef, undef, undef, undef, undef], defers := [] }) ?assign ?body ?done ?stop
  case assign =>
    intro l x W K hK
    gi_wp2
    exact hK
  case body =>
    rintro lr pre x W ⟨⟨hc, hf⟩, hB⟩ _
    have HRW := Kd.C_below hr0 hB
    have hx := x.2
    obtain ⟨ad', e', h00⟩ := Kd.at_int HRW (x.1 : Int) (by omega) (by omega)
    cases e'
    rw [Int.toNat_natCast] at h00
    by_cases h2 : x.1 + 1 < l0.length
    · have hm : min 2 (l0.length - x.1) = 2 := by omega
      obtain ⟨ad2, e2, h01⟩ := Kd.at_int HRW ((x.1 + 1 : Nat) : Int) (by omega) (by omega)
      cases e2
      rw [Int.toNat_natCast] at h01
      have h01' : W.cell? { block := (ad.add x.1).block, off := (ad.add x.1).off + 1 } = some (.int .u8 (rd l0 ((x.1 + 1 : Nat) : Int))) := by
        have e1 : ({ block := (ad.add x.1).block, off := (ad.add x.1).off + 1 } : Addr) = ad.add (x.1 + 1) := by
          unfold Addr.add
          by_cases h0 : x.1 = 0
          · simp [h0]
          · simp [h0]; omega
        rw [e1]; exact h01
      simp only [so_cutAt, hm]
      gi_wp2_with (refine ⟨trivial, ?_⟩; gi_at_call 104; refine (CallsIn.inRound lr (callsIn_wide.2 (so_addedAt W _ _))).mono ?_; rintro e w' ⟨rfl, ⟨nd, rfl⟩⟩; have hc2 := so_cell_ad (.cells #[.int .i64 (so_sumW l0 pre), .int .i64 (Go.bits .or .i64 (wrap64 (wrap64 (rd l0 (x.1 : Int)) * 256)) (wrap64 (rd l0 ((x.1 : Int) + 1))))] 3) nd hc; have hf2 := so_frozen_ad (.cells #[.int .i64 (so_sumW l0 pre), .int .i64 (Go.bits .or .i64 (wrap64 (wrap64 (rd l0 (x.1 : Int)) * 256)) (wrap64 (rd l0 ((x.1 : Int) + 1))))] 3) nd hc hf)
      obtain ⟨e1, e2, e3, e4⟩ := so_roundEnd (w := w) (W := W) (v := .int .i64 (so_addW (so_sumW l0 pre) (so_nAt l0 x.1))) _ (.cells #[.int .i64 (so_sumW l0 pre), .int .i64 (Go.bits .or .i64 (wrap64 (wrap64 (rd l0 (x.1 : Int)) * 256)) (wrap64 (rd l0 ((x.1 : Int) + 1))))] 3) nd rfl rfl hc hf hB
      have hn : so_nAt l0 x.1 = Go.bits .or .i64 (wrap64 (wrap64 (rd l0 (x.1 : Int)) * 256)) (wrap64 (rd l0 ((x.1 : Int) + 1))) := by unfold so_nAt; rw [if_pos h2]; rfl
      rw [hn] at e1 e2 e3 e4
      exact ⟨e1, e2, ⟨⟨by rw [so_sumW_snoc, hn]; exact e3.1, e3.2⟩, e4⟩⟩
    · have hm : min 2 (l0.length - x.1) = 1 := by omega
      simp only [so_cutAt, hm]
      gi_wp2_with (refine ⟨trivial, ?_⟩; gi_at_call 104; refine (CallsIn.inRound lr (callsIn_wide.2 (so_addedAt W _ _))).mono ?_; rintro e w' ⟨rfl, ⟨nd, rfl⟩⟩; have hc2 := so_cell_ad (.cells #[.int .i64 (so_sumW l0 pre), .int .i64 (wrap64 (wrap64 (rd l0 (x.1 : Int)) * 256))] 3) nd hc; have hf2 := so_frozen_ad (.cells #[.int .i64 (so_sumW l0 pre), .int .i64 (wrap64 (wrap64 (rd l0 (x.1 : Int)) * 256))] 3) nd hc hf)
      obtain ⟨e1, e2, e3, e4⟩ := so_roundEnd (w := w) (W := W) (v := .int .i64 (so_addW (so_sumW l0 pre) (so_nAt l0 x.1))) _ (.cells #[.int .i64 (so_sumW l0 pre), .int .i64 (wrap64 (wrap64 (rd l0 (x.1 : Int)) * 256))] 3) nd rfl rfl hc hf hB
      have hn : so_nAt l0 x.1 = wrap64 (wrap64 (rd l0 (x.1 : Int)) * 256) := by unfold so_nAt; rw [if_neg h2]
      rw [hn] at e1 e2 e3 e4
      exact ⟨e1, e2, ⟨⟨by rw [so_sumW_snoc, hn]; exact e3.1, e3.2⟩, e4⟩⟩
  case done =>
    rintro D ys W hD rfl ⟨⟨hc, _⟩, hB⟩ hK
    gi_wp2
    refine ⟨by simp, .inl ⟨_, _, rfl, run_takeDeferred hK, ?_⟩⟩
    exact ⟨_, results_tmp rfl _ _ _, rfl, hB.trans (belowK_b (w := w) (Nat.le_refl _) W D _ _ (by simp at hD; omega) hK rfl rfl)⟩
  case stop =>
    rintro D c pre W _ _ h _
    exact h.elim
set_option maxRecDepth 100000 in
set_option maxHeartbeats 4000000 in
theorem so_sumOf0_in (A0 : Option Addr) (c0 : Nat) (w : World) :
    CallsIn Fence.wide 5 Try.prog 95 #[.slice A0 0 c0] w fun e W' => e = .returned (.int .i64 65535) ∧ Below w.heap.size w W' := by
  refine callsIn_of_wp_marks Try.func95 rfl trivial ?_ rfl
  simp only [Try.ntmps95, List.size_toArray, List.length_cons, List.length_nil, Nat.reduceAdd, Nat.reduceSub, Array.replicate_succ, Array.replicate_zero, List.push_toArray, List.append_toArray, List.nil_append, List.cons_append]
  gi_wp2_with (refine ⟨trivial, ?_⟩; gi_at_call 103; refine (so_chunk_in Fence.wide 4 trivial rfl _ _ _ _).mono ?_; rintro e w' ⟨rfl, rfl⟩)
  have bS := Boxed.new w 3 (.int .i64 0)
  have bs := Boxed.new (w.alloc (.cells #[.int .i64 0] 3)) 29 (.slice A0 0 c0)
  have bn := Boxed.new ((w.alloc (.cells #[.int .i64 0] 3)).alloc (.cells #[.slice A0 0 c0] 29)) 3 (.int .i64 2)
  rw [World.size_alloc] at bs
  rw [World.size_alloc, World.size_alloc] at bn
  have hB0 : Below w.heap.size w (((w.alloc (.cells #[.int .i64 0] 3)).alloc (.cells #[.slice A0 0 c0] 29)).alloc (.cells #[.int .i64 2] 3)) := (((Below.refl _ w).alloc (Nat.le_refl _) _).alloc (by simp) _).alloc (by simp; omega) _
  have hS : SeqStopsK Fence.wide 4 Try.prog 107 #[.pointer (some ⟨w.heap.size + 1, 0, none⟩), .pointer (some ⟨w.heap.size + 1 + 1, 0, none⟩)] (fun x : so_Pl 0 => #[so_cutAt ⟨0, 0, none⟩ 0 x]) (so_Kq (w.heap.size + 1) (w.heap.size + 1 + 1) w.heap.size) (fun ys => ys = []) (fun _ => True) 0 (((w.alloc (.cells #[.int .i64 0] 3)).alloc (.cells #[.slice A0 0 c0] 29)).alloc (.cells #[.int .i64 2] 3)) :=
    fun l J Jx W hW hJ _ hY h0 => (so_chunk0_in Fence.wide 4 trivial rfl l (w.heap.size + 1) (w.heap.size + 1 + 1) A0 c0 J W ((hW.cell (p := ⟨w.heap.size + 1, 0, none⟩) (by simp)).trans (bs.alloc _).cell) ((hW.cell (p := ⟨w.heap.size + 1 + 1, 0, none⟩) (by simp)).trans bn.cell) h0).mono (fun e W' ⟨he, hj⟩ => ⟨he, .inl ⟨[], rfl, hj⟩⟩)
  refine wpIn_rangeFunc_ownG rfl (by decide : 1 ≤ 5) (gf := 107) (lb := #[.pointer (some ⟨w.heap.size + 1, 0, none⟩), .pointer (some ⟨w.heap.size + 1 + 1, 0, none⟩)]) rfl trivial (enters_of Try.func107 (by kernel_rfl) rfl)
    hS so_Kq_t (so_Kq_b hB0.size) (Below.refl _ _) (fun _ => rfl)
    (fun pre W => (W.cell? ⟨w.heap.size, 0, none⟩ = some (.int .i64 0) ∧ W.frozen? ⟨w.heap.size, 0, none⟩ = false) ∧ Below w.heap.size w W)
    (fun _ _ _ => False)
    (OwnFrom.and (Own.from (fun s A B row hs hg hr => ⟨cell_kept hs.1 hg hr, (frozen_kept hs.1 hg hr).trans hs.2⟩) _) (ownFrom_below (Nat.le_refl _) (by simp; omega)))
    (fun _ _ _ _ _ hs _ _ => hs)
    ⟨⟨((bS.alloc _).alloc _).cell, ((bS.alloc _).alloc _).frozen⟩, hB0⟩
    (fun x => { tmps := #[], defers := [] }) ?assign ?body ?done ?stop
  case assign =>
    intro l x W K hK
    exact absurd x.2 (Nat.not_lt_zero _)
  case body =>
    rintro lr pre x W _ _
    exact absurd x.2 (Nat.not_lt_zero _)
  case done =>
    rintro D ys W hD rfl ⟨⟨hc, _⟩, hB⟩ hK
    gi_wp2
    refine ⟨by simp, .inl ⟨_, _, rfl, run_takeDeferred hK, ?_⟩⟩
    exact ⟨_, results_tmp rfl _ _ _, rfl, hB.trans (belowK_b (w := w) (Nat.le_refl _) W D _ _ (by simp at hD; omega) hK rfl rfl)⟩
  case stop =>
    rintro D c pre W _ _ h _
    exact h.elim
/-- The sum of a row's bytes, two by two. -/
def so_sumAll (l : List Int) : Int := if h : 0 < l.length then so_sumW l (so_evens l.length h ((l.length + 1) / 2)) else 0
end SumOf_
open SumOf_ in
def impl_sumOf.f (l0 : List Int) : Option Int := if l0.length < 140737488355328 then some (wrap64 (65535 - so_sumAll l0)) else none
open SumOf_ in
theorem impl_sumOf.calls (A0 : Option Addr) (c0 : Nat) (l0 : List Int) (r : Int) (w : World) (hr0 : Kd.C (Kd.int .u8) w A0 l0.length l0) (hc0 : l0.length ≤ c0) (h : impl_sumOf.f l0 = some r) :
    Calls Try.prog 95 #[.slice A0 l0.length c0] w fun e w' => e = .returned (.int .i64 r) ∧ Below w.heap.size w w' := by
 unfold impl_sumOf.f at h
 by_cases hlim : l0.length < 140737488355328
 ·rw [if_pos hlim] at h
  obtain rfl := Option.some.inj h
  unfold so_sumAll
  by_cases hL : 0 < l0.length
  ·rw [dif_pos hL]
   obtain ⟨ad, rfl, _⟩ := Kd.at_int hr0 0 (by omega) (by omega)
   exact (callsIn_wide (n := 5)).1 (so_sumOf_in ad c0 l0 w hr0 hc0 hL hlim)
  ·rw [dif_neg hL, show wrap64 (65535 - 0) = 65535 by unfold wrap64; omega]
   obtain rfl : l0 = [] := List.eq_nil_of_length_eq_zero (by omega)
   exact (callsIn_wide (n := 5)).1 (so_sumOf0_in A0 c0 w)
 · rw [if_neg hlim] at h; cases h

/-! ### impl_between: function 96 -/
def impl_between.f (k : Nat) (a0 : Int) (a1 : Int) : Option (List Int) := (impl_bytesOf.f k a0 2).bind fun t252 => ((impl_bytesOf.f k a1 2).bind fun t255 => ((slices_Concat_byte_byte.f (([t252, t255] : List (List Int)))).bind fun t261 => (some t261)))
theorem impl_between.mono : ∀ a0 a1 k, LeO (impl_between.f k a0 a1) (impl_between.f (k + 1) a0 a1) := by
 intro a0 a1 k
 unfold impl_between.f
 repeat' first
   | (with_reducible exact impl_bytesOf.mono _ _ _)
   | (with_reducible exact LeO.refl _)
   | (with_reducible exact LeO.none _)
   | (with_reducible refine LeO.ite ?_ ?_)
   | (with_reducible refine LeO.bind ?_ (fun _ => ?_))
   | exact impl_bytesOf.mono _ _ _
   | exact LeO.none _
   | refine LeO.ite ?_ ?_
   | refine LeO.bind ?_ (fun _ => ?_)
set_option maxHeartbeats 8000000 in
set_option maxRecDepth 100000 in
theorem impl_between.calls (k : Nat) (a0 : Int) (a1 : Int) (r : List Int) (w : World) (h : impl_between.f k a0 a1 = some r) :
  Calls Try.prog 96 #[.int .i64 a0, .int .i64 a1] w fun e w' => ∃ v0_ : Value, e = .returned (v0_) ∧ Kd.R (Kd.int .u8) 5 w' w.heap.size (fun _ => True) v0_ r ∧ Below w.heap.size w w' := by
 have HB := mk_ (Below.refl w.heap.size w)
 have H := h
 unfold impl_between.f at H
 clear h
 replace H := Option.bind_eq_some_iff.mp H
 obtain ⟨t252, A30, H⟩ := H
 (try dsimp only at H)
 have A3 := mk_ A30
 clear A30
 replace H := Option.bind_eq_some_iff.mp H
 obtain ⟨t255, A40, H⟩ := H
 (try dsimp only at H)
 have A4 := mk_ A40
 clear A40
 obtain ⟨y258, hy258⟩ : ∃ y_ : List (List Int), y_ = (([t252, t255] : List (List Int))) := ⟨_, rfl⟩
 replace H : ((slices_Concat_byte_byte.f y258).bind fun t261 => (some t261)) = some r := by first | (rw [hy258]; with_reducible exact H) | (have H2_ := (Option.bind_some _ _).symm.trans H; rw [hy258]; with_reducible exact H2_) | (have H2_ := (Option.bind_some _ _).symm.trans H; with_reducible exact H2_) | with_reducible exact H | (rw [hy258]; exact H) | exact H
 have Ny258 := mk_ hy258
 clear hy258
 replace H := Option.bind_eq_some_iff.mp H
 obtain ⟨t261, A50, H⟩ := H
 replace H : (some t261) = some r := H
 have A5 := mk_ A50
 clear A50
 obtain rfl := Option.some.inj H
 go_enter Try.func96, Try.ntmps96
 go_wp2_with (first | ((with_reducible refine gate_callee (f := 81) rfl ?_); have hA_ := A3.out; refine goesL_ (some 6) rfl rfl Try.func81 (by kernel_rfl) rfl #[.int .i64 a0, .int .i64 2] rfl (by (try simp only [lm_, lo_, ln_]); try rfl) ?_; (with_reducible refine (impl_bytesOf.calls k a0 2 t252 _ A3.out).mono ?_); rintro e w6 ⟨v253, rfl, ho0, hb⟩; refine ⟨_, rfl, ?_⟩; have HO254 := mk_ (Kd.R_lower ho0 (below_size (ub_ HB.out))); replace HB := mk_ (below_step (ub_ HB.out) hb); clear hA_ A3) | ((with_reducible refine gate_callee (f := 81) rfl ?_); have hA_ := A4.out; refine goesL_ (some 8) rfl rfl Try.func81 (by kernel_rfl) rfl #[.int .i64 a1, .int .i64 2] rfl (by (try simp only [lm_, lo_, ln_]); try rfl) ?_; (with_reducible refine (impl_bytesOf.calls k a1 2 t255 _ A4.out).mono ?_); rintro e w7 ⟨v256, rfl, ho0, hb⟩; refine ⟨_, rfl, ?_⟩; have n0_ := mk_ (Kd.R_elder' (Kd.ur_ HO254.out) (Kd.R_base ho0) hb); have HO257 := mk_ (Kd.R_lower (Kd.R_new' ho0 (Kd.R_lt (Kd.ur_ HO254.out))) (below_size (ub_ HB.out))); replace HB := mk_ (below_step (ub_ HB.out) hb); replace HO254 := n0_; clear n0_; obtain ⟨Ao8, co8, eo8⟩ := Kd.R_slice HO254.out; subst eo8; obtain ⟨Ao9, co9, eo9⟩ := Kd.R_slice HO257.out; subst eo9; clear hA_ A4) | ((with_reducible refine gate_dst (N := 9) rfl ?_); refine Kd.N_lit (Kd.slice 5 (Kd.int .u8)) _ 29 ?hg (N' := 9) ?hd (xs := ([t252, t255] : List (List Int))) (inner := [.slice Ao8 t252.length co8, .slice Ao9 t255.length co9]) (ok := (fun _ => True)) (okp := (fun _ => True)) ?hr ?hp (fun _ hk => hk) ((show ∀ k_, w7.heap.size ≤ k_ → (fun _ => True) k_ from fun k_ hk => trivial) _ (Nat.le_refl _)) (Below.refl _ _) (Nat.le_refl _) (by simp) ?_; (case hd => rfl); (case hg => rfl); (case hr => first | (go_simp; done) | (go_simp; rfl)); (case hp => exact (Reps.one (show Kd.FK (Kd.slice 5 (Kd.int .u8)) _ _ t252 [.slice Ao8 t252.length co8] from (Kd.FK_slice_mk (Kd.R_reads' (Kd.R_mono (ok' := (fun _ => True)) (HO254.out) (fun k_ hk => trivial))).2.1 (Kd.R_F (Kd.R_mono (ok' := (fun _ => True)) (HO254.out) (fun k_ hk => trivial))))) (Reps.one (show Kd.FK (Kd.slice 5 (Kd.int .u8)) _ _ t255 [.slice Ao9 t255.length co9] from (Kd.FK_slice_mk (Kd.R_reads' (Kd.R_mono (ok' := (fun _ => True)) (HO257.out) (fun k_ hk => trivial))).2.1 (Kd.R_F (Kd.R_mono (ok' := (fun _ => True)) (HO257.out) (fun k_ hk => trivial))))) (Reps.none _ _)))); intro v259 w10 ho11 hb hg_ hnew_; clear hg_ hnew_; (first | rw [← Ny258.out] at ho11 | (simp only [Int.reduceToNat] at ho11; rw [← Ny258.out] at ho11)); have HO260 := mk_ (Kd.N_lower ho11 (below_size (ub_ HB.out))); replace HB := mk_ (below_step (ub_ HB.out) hb); clear HO254 HO257; clear hb ho11; obtain ⟨Ao12, co12, eo12⟩ := Kd.N_slice HO260.out; subst eo12) | ((with_reducible refine gate_callee (f := 94) rfl ?_); refine goesL_ (some 10) rfl rfl Try.func94 (by kernel_rfl) rfl #[.slice Ao12 y258.length co12] rfl (by (try simp only [lm_, lo_, ln_]); try rfl) ?_; (with_reducible refine (slices_Concat_byte_byte.calls _ _ y258 t261 _ ?side1 ?side2 A5.out).mono ?_); (case side1 => repeat (first | exact (Kd.N_reads' HO260.out).2.2 | (with_reducible refine Kd.C_alloc ?_ _) | (with_reducible refine Kd.C_drewN ?_ _) | (with_reducible refine Kd.C_drew ?_))); (case side2 => exact (Kd.N_reads' HO260.out).2.1); rintro e w13 ⟨v262, rfl, ho0, hb⟩; refine ⟨_, rfl, ?_⟩; replace HO260 := mk_ (Kd.N_elder' (by (with_reducible repeat (first | apply Kd.N_alloc | apply Kd.N_drewN | apply Kd.N_drew)); exact HO260.out) (Kd.R_base ho0) hb); have HO263 := mk_ (Kd.R_lower ho0 (below_size (ub_ HB.out))); replace HB := mk_ (below_step (ub_ HB.out) hb)))
 go_ret
 exact ⟨_, by first | rfl | (simp [errW_none, errW_some] <;> rfl) | (simp [*, errW_none, errW_some] <;> rfl), by (with_reducible repeat (first | apply Kd.R_alloc | apply Kd.R_drewN | apply Kd.R_drew)); exact HO263.out, by repeat (first | (with_reducible first | exact HB.out | apply na_ | apply nn_ | apply nw_) | exact HB.out)⟩

/-! ### impl_MailBytes: function 73 -/
def impl_MailBytes.j0 : Nat → Int → Bool → Int → Int → Int → List Int → Option (List Int)
 | 0, _, _, _, _, _, _ => none
 | k + 1, x1, x13, x265000, x265001, x265002, x265003 => if x13 = true then (some ([] : List Int)) else ((some (([(x265001) % 256, (x265002) % 256, ((x265003.length : Int)) % 256] : List Int) : List Int)).bind fun y267 => (if y267.length + x265003.length < 140737488355328 then ((some (y267 ++ x265003 : List Int)).bind fun y270 => ((impl_between.f k x265000 x1).bind fun t273 => ((slices_Concat_byte_byte.f (([t273, y270] : List (List Int)))).bind fun t279 => ((impl_sumOf.f t279).bind fun t282 => ((impl_bytesOf.f k t282 2).bind fun t283 => ((slices_Concat_byte_byte.f (([y270, t283] : List (List Int)))).bind fun t289 => (some t289))))))) else (none)))
def impl_MailBytes.f (k : Nat) (a0_0 : Int) (a0_1 : Int) (a0_2 : Int) (l0_3 : List Int) (a1 : Int) : Option (List Int) := (impl_MailOk.f a0_0 a0_1 a0_2 l0_3).bind fun t265 => (if t265 = true then ((impl_word.f a1).bind fun t266 => (impl_MailBytes.j0 k a1 (!t266) a0_0 a0_1 a0_2 l0_3)) else (impl_MailBytes.j0 k a1 true a0_0 a0_1 a0_2 l0_3))
theorem impl_MailBytes.mono_l : ∀ k, (∀ y0 y1 y2 y3 y4 y5, LeO (impl_MailBytes.j0 k y0 y1 y2 y3 y4 y5) (impl_MailBytes.j0 (k + 1) y0 y1 y2 y3 y4 y5))
 | 0 => fun _ _ _ _ _ _ r h => by simp [impl_MailBytes.j0] at h
 | k + 1 => by
  have ih0 := impl_MailBytes.mono_l k
  ·intro y0 y1 y2 y3 y4 y5
   unfold impl_MailBytes.j0
   repeat' first
   | (with_reducible exact ih0 _ _ _ _ _ _)
   | (with_reducible exact impl_between.mono _ _ _)
   | (with_reducible exact impl_bytesOf.mono _ _ _)
   | (with_reducible exact LeO.refl _)
   | (with_reducible exact LeO.none _)
   | (with_reducible refine LeO.ite ?_ ?_)
   | (with_reducible refine LeO.bind ?_ (fun _ => ?_))
   | exact ih0 _ _ _ _ _ _
   | exact impl_between.mono _ _ _
   | exact impl_bytesOf.mono _ _ _
   | exact LeO.none _
   | refine LeO.ite ?_ ?_
   | refine LeO.bind ?_ (fun _ => ?_)
theorem impl_MailBytes.mono : ∀ a0 a1 a2 a3 a4 k, LeO (impl_MailBytes.f k a0 a1 a2 a3 a4) (impl_MailBytes.f (k + 1) a0 a1 a2 a3 a4) := by
 intro a0 a1 a2 a3 a4 k
 have ih0 := impl_MailBytes.mono_l k
 unfold impl_MailBytes.f
 repeat' first
   | (with_reducible exact ih0 _ _ _ _ _ _)
   | (with_reducible exact impl_between.mono _ _ _)
   | (with_reducible exact impl_bytesOf.mono _ _ _)
   | (with_reducible exact LeO.refl _)
   | (with_reducible exact LeO.none _)
   | (with_reducible refine LeO.ite ?_ ?_)
   | (with_reducible refine LeO.bind ?_ (fun _ => ?_))
   | exact ih0 _ _ _ _ _ _
   | exact impl_between.mono _ _ _
   | exact impl_bytesOf.mono _ _ _
   | exact LeO.none _
   | refine LeO.ite ?_ ?_
   | refine LeO.bind ?_ (fun _ => ?_)
set_option maxHeartbeats 8000000 in
set_option maxRecDepth 100000 in
theorem impl_MailBytes.calls (k : Nat) (a0_0 : Int) (a0_1 : Int) (a0_2 : Int) (A0_3 : Option Addr) (c0_3 : Nat) (l0_3 : List Int) (a1 : Int) (r : List Int) (w : World) (hr0_3 : Kd.C (Kd.int .u8) w A0_3 l0_3.length l0_3) (hc0_3 : l0_3.length ≤ c0_3) (h : impl_MailBytes.f k a0_0 a0_1 a0_2 l0_3 a1 = some r) :
  Calls Try.prog 73 #[.agg #[.int .i64 a0_0, .int .i64 a0_1, .int .i64 a0_2, .slice A0_3 l0_3.length c0_3], .int .i64 a1] w fun e w' => ∃ v0_ : Value, e = .returned (v0_) ∧ Kd.R (Kd.int .u8) 5 w' w.heap.size (fun _ => True) v0_ r ∧ Below w.heap.size w w' := by
 have hu40 := Try.underlying40
 have HR0_3 := mk_ hr0_3
 have HC0_3 := mk_ hc0_3
 clear hr0_3 hc0_3
 have HB := mk_ (Below.refl w.heap.size w)
 have H := h
 unfold impl_MailBytes.f at H
 clear h
 have HC3 := mk_ H
 clear H
 go_enter Try.func73, Try.ntmps73
 go_upto_region 1 with (first | ((with_reducible refine gate_dst (N := 2) rfl ?_); refine box_event ?hg (N := 2) ?hd (cs := #[.int .i64 a0_0, .int .i64 a0_1, .int .i64 a0_2, .slice A0_3 l0_3.length c0_3]) (t := 40) ?hr ?_; (case hd => rfl); (case hg => rfl); (case hr => first | (go_simp; done) | (go_simp; rfl)); intro gb264 hg w4 hbox hb; have n0_ := mk_ (below_step (ub_ HB.out) hb); have BK264 := mk_ (hbox); have GW264 := mk_ ((by rw [hg]; exact (below_size (ub_ HB.out)) : w.heap.size ≤ gb264)); have GE264 := ge_ ((by rw [hg]; exact (below_size (ub_ HB.out)) : w.heap.size ≤ gb264)); replace HB := n0_; clear n0_; clear hb hbox hg))
 (try simp only [Act.put, la_, lz_, ls_])
 go_cut [13] (fun v13 wc => ∃ (kq : Nat) (x13_2 : Bool), v13 = .bool x13_2 ∧ Aside0 (impl_MailBytes.j0 kq a1 x13_2 a0_0 a0_1 a0_2 l0_3 = some r) ∧ Aside0 (kq ≤ k) ∧ Aside0 (wc.heap[gb264]? = some (.cells #[.int .i64 a0_0, .int .i64 a0_1, .int .i64 a0_2, (.slice A0_3 l0_3.length c0_3)] 40 (0, 0))) ∧ Aside0 (Below w.heap.size w wc))
 case first =>
  have H := HC3.out
  clear HC3
  replace H := Option.bind_eq_some_iff.mp H
  obtain ⟨t265, A50, H⟩ := H
  (try dsimp only at H)
  have A5 := mk_ A50
  clear A50
  by_cases c6 : t265 = true
  rotate_left
  ·replace c6 := Bool.eq_false_iff.mpr c6
   subst c6
   have H1 : (impl_MailBytes.j0 k a1 true a0_0 a0_1 a0_2 l0_3) = some r := by rw [if_neg (show ¬ (false = true) by decide)] at H; exact H
   clear H
   have H := H1
   clear H1
   have H' := mk_ H
   clear H
   obtain ⟨hcz10_0, hcz10_1, hcz10_2, hcz10_3, hfz10_0, hfz10_1, hfz10_2, hfz10_3⟩ := cells4_ BK264.out
   go_wp2_with (first | ((with_reducible refine gate_callee (f := 46) rfl ?_); refine goesL_ (some 7) rfl rfl Try.func46 (by kernel_rfl) rfl #[.agg #[.int .i64 a0_0, .int .i64 a0_1, .int .i64 a0_2, .slice A0_3 l0_3.length c0_3]] rfl (by (try simp only [lm_, lo_, ln_]); try rfl) ?_; (with_reducible refine (impl_MailOk.calls a0_0 a0_1 a0_2 _ _ l0_3 false _ ?side1 ?side2 A5.out).mono ?_); (case side1 => repeat (first | exact (Kd.C_below HR0_3.out HB.out) | (with_reducible refine Kd.C_alloc ?_ _) | (with_reducible refine Kd.C_drewN ?_ _) | (with_reducible refine Kd.C_drew ?_))); (case side2 => exact HC0_3.out); rintro e w11 ⟨rfl, hb⟩; refine ⟨_, rfl, ?_⟩; replace BK264 := mk_ (blk_below (u_ BK264.out) hb); replace HB := mk_ (below_step (us_ HB.out) hb)))
   go_meet
   case rel => exact ⟨_, (true), (by first | rfl | (simp; done) | (simp [*]; done)), H', ⟨by first | omega | exact Nat.le_refl _⟩, ⟨u_ BK264.out⟩, ⟨us_ HB.out⟩⟩
  subst c6
  rw [if_pos rfl] at H
  replace H := Option.bind_eq_some_iff.mp H
  obtain ⟨t266, A70, H⟩ := H
  replace H : (impl_MailBytes.j0 k a1 (!t266) a0_0 a0_1 a0_2 l0_3) = some r := H
  have A7 := mk_ A70
  clear A70
  have H' := mk_ H
  clear H
  obtain ⟨hcz8_0, hcz8_1, hcz8_2, hcz8_3, hfz8_0, hfz8_1, hfz8_2, hfz8_3⟩ := cells4_ BK264.out
  go_wp2_with (first | ((with_reducible refine gate_callee (f := 46) rfl ?_); refine goesL_ (some 7) rfl rfl Try.func46 (by kernel_rfl) rfl #[.agg #[.int .i64 a0_0, .int .i64 a0_1, .int .i64 a0_2, .slice A0_3 l0_3.length c0_3]] rfl (by (try simp only [lm_, lo_, ln_]); try rfl) ?_; (with_reducible refine (impl_MailOk.calls a0_0 a0_1 a0_2 _ _ l0_3 true _ ?side1 ?side2 A5.out).mono ?_); (case side1 => repeat (first | exact (Kd.C_below HR0_3.out HB.out) | (with_reducible refine Kd.C_alloc ?_ _) | (with_reducible refine Kd.C_drewN ?_ _) | (with_reducible refine Kd.C_drew ?_))); (case side2 => exact HC0_3.out); rintro e w9 ⟨rfl, hb⟩; refine ⟨_, rfl, ?_⟩; replace BK264 := mk_ (blk_below (u_ BK264.out) hb); replace HB := mk_ (below_step (us_ HB.out) hb)) | (go_at_call 78; (with_reducible refine (impl_word.calls a1 t266 _ A7.out).mono ?_); rintro e w' ⟨rfl, ⟨nd, rfl⟩⟩))
  go_meet
  case rel => exact ⟨_, (!t266), (by first | rfl | (simp; done) | (simp [*]; done)), H', ⟨by first | omega | exact Nat.le_refl _⟩, ⟨u_ BK264.out⟩, ⟨us_ HB.out⟩⟩
 case rest =>
  clear HC3
  try clear p2
  try clear c4
  try clear c6
  try clear c7
  try clear hcz10_0
  try clear hcz10_1
  try clear hcz10_2
  try clear hcz10_3
  try clear hcz8_0
  try clear hcz8_1
  try clear hcz8_2
  try clear hcz8_3
  try clear hfz10_0
  try clear hfz10_1
  try clear hfz10_2
  try clear hfz10_3
  try clear hfz8_0
  try clear hfz8_1
  try clear hfz8_2
  try clear hfz8_3
  obtain ⟨kq, x13_2, rfl, HA, HJ2, BK264, HB⟩ := hcut
  cases kq with
  | zero => exact absurd HA.out (by simp [impl_MailBytes.j0])
  | succ kj2 =>
   have H := HA.out
   clear HA
   simp only [impl_MailBytes.j0] at H
   by_cases c12 : x13_2 = true
   ·subst c12
    have H1 : (some ([] : List Int)) = some r := by rw [if_pos rfl] at H; exact H
    clear H
    have H := H1
    clear H1
    obtain rfl := Option.some.inj H
    go_wp2
    go_ret
    exact ⟨_, by first | rfl | (simp [errW_none, errW_some] <;> rfl) | (simp [*, errW_none, errW_some] <;> rfl), by first | exact Kd.R_nil _ _ _ _ _ | exact Kd.N_nil _ _ _ _ _ | exact Kd.V_nil _ _ _ _ _ | exact Kd.Q_nil _ _ _ _ _ | exact Kd.S_nil _ _ _ _ _, us_ HB.out⟩
   replace c12 := Bool.eq_false_iff.mpr c12
   subst c12
   rw [if_neg (show ¬ (false = true) by decide)] at H
   obtain ⟨y267, hy267⟩ : ∃ y_ : List Int, y_ = (([(a0_1) % 256, (a0_2) % 256, ((l0_3.length : Int)) % 256] : List Int)) := ⟨_, rfl⟩
   replace H : (if y267.length + l0_3.length < 140737488355328 then ((some (y267 ++ l0_3 : List Int)).bind fun y270 => ((impl_between.f kj2 a0_0 a1).bind fun t273 => ((slices_Concat_byte_byte.f (([t273, y270] : List (List Int)))).bind fun t279 => ((impl_sumOf.f t279).bind fun t282 => ((impl_bytesOf.f kj2 t282 2).bind fun t283 => ((slices_Concat_byte_byte.f (([y270, t283] : List (List Int)))).bind fun t289 => (some t289))))))) else (none)) = some r := by first | (rw [hy267]; with_reducible exact H) | (have H2_ := (Option.bind_some _ _).symm.trans H; rw [hy267]; with_reducible exact H2_) | (have H2_ := (Option.bind_some _ _).symm.trans H; with_reducible exact H2_) | with_reducible exact H | (rw [hy267]; exact H) | exact H
   have Ny267 := mk_ hy267
   clear hy267
   by_cases c13 : y267.length + l0_3.length < 140737488355328
   rotate_left
   ·rw [if_neg c13] at H
    exact absurd H (by simp)
   rw [if_pos c13] at H
   have LMc13 := mk_ c13
   clear c13
   obtain ⟨y270, hy270⟩ : ∃ y_ : List Int, y_ = (y267 ++ l0_3) := ⟨_, rfl⟩
   replace H : ((impl_between.f kj2 a0_0 a1).bind fun t273 => ((slices_Concat_byte_byte.f (([t273, y270] : List (List Int)))).bind fun t279 => ((impl_sumOf.f t279).bind fun t282 => ((impl_bytesOf.f kj2 t282 2).bind fun t283 => ((slices_Concat_byte_byte.f (([y270, t283] : List (List Int)))).bind fun t289 => (some t289)))))) = some r := by first | (rw [hy270]; with_reducible exact H) | (have H2_ := (Option.bind_some _ _).symm.trans H; rw [hy270]; with_reducible exact H2_) | (have H2_ := (Option.bind_some _ _).symm.trans H; with_reducible exact H2_) | with_reducible exact H | (rw [hy270]; exact H) | exact H
   have Ny270 := mk_ hy270
   clear hy270
   replace H := Option.bind_eq_some_iff.mp H
   obtain ⟨t273, A140, H⟩ := H
   (try dsimp only at H)
   have A14 := mk_ A140
   clear A140
   obtain ⟨y276, hy276⟩ : ∃ y_ : List (List Int), y_ = (([t273, y270] : List (List Int))) := ⟨_, rfl⟩
   replace H : ((slices_Concat_byte_byte.f y276).bind fun t279 => ((impl_sumOf.f t279).bind fun t282 => ((impl_bytesOf.f kj2 t282 2).bind fun t283 => ((slices_Concat_byte_byte.f (([y270, t283] : List (List Int)))).bind fun t289 => (some t289))))) = some r := by first | (rw [hy276]; with_reducible exact H) | (have H2_ := (Option.bind_some _ _).symm.trans H; rw [hy276]; with_reducible exact H2_) | (have H2_ := (Option.bind_some _ _).symm.trans H; with_reducible exact H2_) | with_reducible exact H | (rw [hy276]; exact H) | exact H
   have Ny276 := mk_ hy276
   clear hy276
   replace H := Option.bind_eq_some_iff.mp H
   obtain ⟨t279, A150, H⟩ := H
   (try dsimp only at H)
   have A15 := mk_ A150
   clear A150
   replace H := Option.bind_eq_some_iff.mp H
   obtain ⟨t282, A160, H⟩ := H
   (try dsimp only at H)
   have A16 := mk_ A160
   clear A160
   replace H := Option.bind_eq_some_iff.mp H
   obtain ⟨t283, A170, H⟩ := H
   (try dsimp only at H)
   have A17 := mk_ A170
   clear A170
   obtain ⟨y286, hy286⟩ : ∃ y_ : List (List Int), y_ = (([y270, t283] : List (List Int))) := ⟨_, rfl⟩
   replace H : ((slices_Concat_byte_byte.f y286).bind fun t289 => (some t289)) = some r := by first | (rw [hy286]; with_reducible exact H) | (have H2_ := (Option.bind_some _ _).symm.trans H; rw [hy286]; with_reducible exact H2_) | (have H2_ := (Option.bind_some _ _).symm.trans H; with_reducible exact H2_) | with_reducible exact H | (rw [hy286]; exact H) | exact H
   have Ny286 := mk_ hy286
   clear hy286
   replace H := Option.bind_eq_some_iff.mp H
   obtain ⟨t289, A180, H⟩ := H
   replace H : (some t289) = some r := H
   have A18 := mk_ A180
   clear A180
   obtain rfl := Option.some.inj H
   obtain ⟨_, _, _, _, _, _, _, _⟩ := cells4_ BK264.out
   go_wp2_with (first | ((with_reducible refine gate_dst (N := 24) rfl ?_); refine Kd.R_lit (Kd.int .u8) _ 5 ?hg (N := 24) ?hd (xs := ([(a0_1) % 256, (a0_2) % 256, ((l0_3.length : Int)) % 256] : List Int)) (inner := [.int .u8 ((a0_1) % 256), .int .u8 ((a0_2) % 256), .int .u8 (((l0_3.length : Int)) % 256)]) (ok := fun _ => True) (okp := fun _ => True) ?hr ?hp (fun _ hk => hk) trivial (Below.refl _ _) (Nat.le_refl _) (by simp) ?_; (case hd => rfl); (case hg => rfl); (case hr => first | (go_simp; done) | (go_simp; rfl)); (case hp => exact (Reps.one (show Kd.M (Kd.int .u8) _ _ _ ((a0_1) % 256) [.int .u8 ((a0_1) % 256)] from rfl) (Reps.one (show Kd.M (Kd.int .u8) _ _ _ ((a0_2) % 256) [.int .u8 ((a0_2) % 256)] from rfl) (Reps.one (show Kd.M (Kd.int .u8) _ _ _ (((l0_3.length : Int)) % 256) [.int .u8 (((l0_3.length : Int)) % 256)] from rfl) (Reps.none _ _))))); intro v268 w20 ho21 hb hg_ hnew_; clear hg_ hnew_; (first | rw [← Ny267.out] at ho21 | (simp only [Int.reduceToNat] at ho21; rw [← Ny267.out] at ho21)); have HO269 := mk_ (Kd.R_lower ho21 (below_size (us_ HB.out))); replace BK264 := mk_ (blk_below (u_ BK264.out) hb); replace HB := mk_ (below_step (us_ HB.out) hb); clear hb ho21; obtain ⟨_, _, _, _, _, _, _, _⟩ := cells4_ BK264.out) | ((with_reducible refine gate_builtin (b := .append) (xs := #[.tmp 24, .tmp 26]) rfl ?_); at_builtin; refine Kd.R_append_rows (Kd.int .u8) (w0 := w) w.heap.size rfl (.tmp 24) (.tmp 26) 29 5 (.int .u8 0) 1 rfl Try.underlying29 info5 rfl (by decide) (by omega) v268 y267 l0_3 _ _ _ (fun _ => True) (fun _ => False) rfl rfl ?aO ?aR (fun _ _ h => h) (fun _ h => h.elim) ?aF ?aB ?aS ?aL ?_; (case aR => repeat (first | exact (Kd.C_below HR0_3.out HB.out) | (with_reducible refine Kd.C_alloc ?_ _) | (with_reducible refine Kd.C_drewN ?_ _) | (with_reducible refine Kd.C_drew ?_))); (case aB => exact (us_ HB.out)); (case aF => exact (fun _ _ => trivial)); (case aO => exact (Kd.ur_ HO269.out)); (case aS => exact (below_size (us_ HB.out))); (case aL => have := LMc13.out; omega); intro v271 w23 ho hb hg hat; rw [← Ny270.out] at ho; replace BK264 := mk_ (blk_grown (g := gb264) (o := .cells #[.int .i64 a0_0, .int .i64 a0_1, .int .i64 a0_2, .slice A0_3 l0_3.length c0_3] 40 (0, 0)) (u_ BK264.out) hg (Kd.R_ne HO269.out BK264.out (by decide))); replace HB := mk_ (hb); have HO272 := mk_ (ho); clear HO269; clear ho hb hg hat; obtain ⟨_, _, _, _, _, _, _, _⟩ := cells4_ BK264.out) | ((with_reducible refine gate_callee (f := 96) rfl ?_); refine goesL_ (some 32) rfl rfl Try.func96 (by kernel_rfl) rfl #[.int .i64 a0_0, .int .i64 a1] rfl (by (try simp only [lm_, lo_, ln_]); try rfl) ?_; (with_reducible refine (impl_between.calls kj2 a0_0 a1 t273 _ A14.out).mono ?_); rintro e w25 ⟨v274, rfl, ho0, hb⟩; refine ⟨_, rfl, ?_⟩; have n0_ := mk_ (Kd.R_elder' (Kd.ur_ HO272.out) (Kd.R_base ho0) hb); have HO275 := mk_ (Kd.R_lower (Kd.R_new' ho0 (Kd.R_lt (Kd.ur_ HO272.out))) (below_size (us_ HB.out))); replace BK264 := mk_ (blk_below (u_ BK264.out) hb); replace HB := mk_ (below_step (us_ HB.out) hb); replace HO272 := n0_; clear n0_; obtain ⟨Ao26, co26, eo26⟩ := Kd.R_slice HO275.out; subst eo26; obtain ⟨Ao27, co27, eo27⟩ := Kd.R_slice HO272.out; subst eo27) | ((with_reducible refine gate_dst (N := 34) rfl ?_); refine Kd.N_lit (Kd.slice 5 (Kd.int .u8)) _ 29 ?hg (N' := 34) ?hd (xs := ([t273, y270] : List (List Int))) (inner := [.slice Ao26 t273.length co26, .slice Ao27 y270.length co27]) (ok := (fun k_ => k_ ≠ gb264)) (okp := (fun k_ => k_ ≠ gb264)) ?hr ?hp (fun _ hk => hk) ((show ∀ k_, w25.heap.size ≤ k_ → (fun k_ => k_ ≠ gb264) k_ from fun k_ hk => Kd.freshB (g := gb264) (o := .cells #[.int .i64 a0_0, .int .i64 a0_1, .int .i64 a0_2, .slice A0_3 l0_3.length c0_3] 40 (0, 0)) (u_ BK264.out) k_ hk) _ (Nat.le_refl _)) (Below.refl _ _) (Nat.le_refl _) (by simp) ?_; (case hd => rfl); (case hg => rfl); (case hr => first | (go_simp; done) | (go_simp; rfl)); (case hp => exact (Reps.one (show Kd.FK (Kd.slice 5 (Kd.int .u8)) _ _ t273 [.slice Ao26 t273.length co26] from (Kd.FK_slice_mk (Kd.R_reads' (Kd.R_mono (ok' := (fun k_ => k_ ≠ gb264)) (Kd.R_types (HO275.out) BK264.out (by decide)) (fun k_ hk => hk.2))).2.1 (Kd.R_F (Kd.R_mono (ok' := (fun k_ => k_ ≠ gb264)) (Kd.R_types (HO275.out) BK264.out (by decide)) (fun k_ hk => hk.2))))) (Reps.one (show Kd.FK (Kd.slice 5 (Kd.int .u8)) _ _ y270 [.slice Ao27 y270.length co27] from (Kd.FK_slice_mk (Kd.R_reads' (Kd.R_mono (ok' := (fun k_ => k_ ≠ gb264)) (Kd.R_types (HO272.out) BK264.out (by decide)) (fun k_ hk => hk.2))).2.1 (Kd.R_F (Kd.R_mono (ok' := (fun k_ => k_ ≠ gb264)) (Kd.R_types (HO272.out) BK264.out (by decide)) (fun k_ hk => hk.2))))) (Reps.none _ _)))); intro v277 w28 ho29 hb hg_ hnew_; clear hg_ hnew_; (first | rw [← Ny276.out] at ho29 | (simp only [Int.reduceToNat] at ho29; rw [← Ny276.out] at ho29)); replace HO272 := mk_ (Kd.R_below (Kd.ur_ HO272.out) hb); have HO278 := mk_ (Kd.N_lower ho29 (below_size (us_ HB.out))); replace BK264 := mk_ (blk_below (u_ BK264.out) hb); replace HB := mk_ (below_step (us_ HB.out) hb); clear HO275; clear hb ho29; obtain ⟨Ao30, co30, eo30⟩ := Kd.N_slice HO278.out; subst eo30) | ((with_reducible refine gate_callee (f := 94) rfl ?_); have hA_ := A15.out; refine goesL_ (some 35) rfl rfl Try.func94 (by kernel_rfl) rfl #[.slice Ao30 y276.length co30] rfl (by (try simp only [lm_, lo_, ln_]); try rfl) ?_; (with_reducible refine (slices_Concat_byte_byte.calls _ _ y276 t279 _ ?side1 ?side2 A15.out).mono ?_); (case side1 => repeat (first | exact (Kd.N_reads' HO278.out).2.2 | (with_reducible refine Kd.C_alloc ?_ _) | (with_reducible refine Kd.C_drewN ?_ _) | (with_reducible refine Kd.C_drew ?_))); (case side2 => exact (Kd.N_reads' HO278.out).2.1); rintro e w31 ⟨v280, rfl, ho0, hb⟩; refine ⟨_, rfl, ?_⟩; have n0_ := mk_ (Kd.R_elder' (Kd.ur_ HO272.out) (Kd.R_base ho0) hb); replace HO278 := mk_ (Kd.N_elder' (by (with_reducible repeat (first | apply Kd.N_alloc | apply Kd.N_drewN | apply Kd.N_drew)); exact HO278.out) (Kd.R_base ho0) hb); have HO281 := mk_ (Kd.R_lower (Kd.R_new' ho0 (Kd.R_lt (Kd.ur_ HO272.out))) (below_size (us_ HB.out))); replace BK264 := mk_ (blk_below (u_ BK264.out) hb); replace HB := mk_ (below_step (us_ HB.out) hb); replace HO272 := n0_; clear n0_; obtain ⟨Ao32, co32, eo32⟩ := Kd.R_slice HO281.out; subst eo32; clear hA_ A15) | ((with_reducible refine gate_callee (f := 95) rfl ?_); refine goesL_ (some 36) rfl rfl Try.func95 (by kernel_rfl) rfl #[.slice Ao32 t279.length co32] rfl (by (try simp only [lm_, lo_, ln_]); try rfl) ?_; (with_reducible refine (impl_sumOf.calls _ _ t279 t282 _ ?side1 ?side2 A16.out).mono ?_); (case side1 => repeat (first | exact (Kd.R_reads' HO281.out).2.2 | (with_reducible refine Kd.C_alloc ?_ _) | (with_reducible refine Kd.C_drewN ?_ _) | (with_reducible refine Kd.C_drew ?_))); (case side2 => exact (Kd.R_reads' HO281.out).2.1); rintro e w33 ⟨rfl, hb⟩; refine ⟨_, rfl, ?_⟩; replace HO272 := mk_ (Kd.R_below (Kd.ur_ HO272.out) hb); replace HO278 := mk_ (Kd.N_below (by (with_reducible repeat (first | apply Kd.N_alloc | apply Kd.N_drewN | apply Kd.N_drew)); exact HO278.out) hb); replace HO281 := mk_ (Kd.R_below (Kd.ur_ HO281.out) hb); replace BK264 := mk_ (blk_below (u_ BK264.out) hb); replace HB := mk_ (below_step (us_ HB.out) hb)) | ((with_reducible refine gate_callee (f := 81) rfl ?_); refine goesL_ (some 37) rfl rfl Try.func81 (by kernel_rfl) rfl #[.int .i64 t282, .int .i64 2] rfl (by (try simp only [lm_, lo_, ln_]); try rfl) ?_; (with_reducible refine (impl_bytesOf.calls kj2 t282 2 t283 _ A17.out).mono ?_); rintro e w34 ⟨v284, rfl, ho0, hb⟩; refine ⟨_, rfl, ?_⟩; have n0_ := mk_ (Kd.R_elder' (Kd.ur_ HO272.out) (Kd.R_base ho0) hb); replace HO278 := mk_ (Kd.N_elder' (by (with_reducible repeat (first | apply Kd.N_alloc | apply Kd.N_drewN | apply Kd.N_drew)); exact HO278.out) (Kd.R_base ho0) hb); have n2_ := mk_ (Kd.R_elder' (Kd.ur_ HO281.out) (Kd.R_base ho0) hb); have HO285 := mk_ (Kd.R_lower (Kd.R_new' (Kd.R_new' ho0 (Kd.R_lt (Kd.ur_ HO272.out))) (Kd.R_lt (Kd.ur_ HO281.out))) (below_size (us_ HB.out))); replace BK264 := mk_ (blk_below (u_ BK264.out) hb); replace HB := mk_ (below_step (us_ HB.out) hb); replace HO272 := n0_; replace HO281 := n2_; clear n0_ n2_; obtain ⟨Ao35, co35, eo35⟩ := Kd.R_slice HO285.out; subst eo35) | ((with_reducible refine gate_dst (N := 38) rfl ?_); refine Kd.N_lit (Kd.slice 5 (Kd.int .u8)) _ 29 ?hg (N' := 38) ?hd (xs := ([y270, t283] : List (List Int))) (inner := [.slice Ao27 y270.length co27, .slice Ao35 t283.length co35]) (ok := (fun k_ => some k_ ≠ (.slice Ao30 y276.length co30 : Value).ownBlock ∧ some k_ ≠ (.slice Ao32 t279.length co32 : Value).ownBlock ∧ k_ ≠ gb264)) (okp := (fun k_ => some k_ ≠ (.slice Ao30 y276.length co30 : Value).ownBlock ∧ some k_ ≠ (.slice Ao32 t279.length co32 : Value).ownBlock ∧ k_ ≠ gb264)) ?hr ?hp (fun _ hk => hk) ((show ∀ k_, w34.heap.size ≤ k_ → (fun k_ => some k_ ≠ (.slice Ao30 y276.length co30 : Value).ownBlock ∧ some k_ ≠ (.slice Ao32 t279.length co32 : Value).ownBlock ∧ k_ ≠ gb264) k_ from fun k_ hk => ⟨Kd.fresh' (Kd.N_lt (by (with_reducible repeat (first | apply Kd.N_alloc | apply Kd.N_drewN | apply Kd.N_drew)); exact HO278.out)) k_ hk, Kd.fresh' (Kd.R_lt (Kd.ur_ HO281.out)) k_ hk, Kd.freshB (g := gb264) (o := .cells #[.int .i64 a0_0, .int .i64 a0_1, .int .i64 a0_2, .slice A0_3 l0_3.length c0_3] 40 (0, 0)) (u_ BK264.out) k_ hk⟩) _ (Nat.le_refl _)) (Below.refl _ _) (Nat.le_refl _) (by simp) ?_; (case hd => rfl); (case hg => rfl); (case hr => first | (go_simp; done) | (go_simp; rfl)); (case hp => exact (Reps.one (show Kd.FK (Kd.slice 5 (Kd.int .u8)) _ _ y270 [.slice Ao27 y270.length co27] from (Kd.FK_slice_mk (Kd.R_reads' (Kd.R_mono (ok' := (fun k_ => some k_ ≠ (.slice Ao30 y276.length co30 : Value).ownBlock ∧ some k_ ≠ (.slice Ao32 t279.length co32 : Value).ownBlock ∧ k_ ≠ gb264)) (Kd.R_types (Kd.R_apart' (HO272.out) (Kd.N_typed HO278.out) (by decide)) BK264.out (by decide)) (fun k_ hk => by first | exact ⟨hk.1.2, ⟨hk.1.1.1.2, hk.2⟩⟩ | exact hk.1 | exact hk | exact ⟨hk.1, hk.2⟩ | exact ⟨.inr hk.1, hk.2⟩ | simp only [hk, ne_eq, not_false_eq_true, and_self]))).2.1 (Kd.R_F (Kd.R_mono (ok' := (fun k_ => some k_ ≠ (.slice Ao30 y276.length co30 : Value).ownBlock ∧ some k_ ≠ (.slice Ao32 t279.length co32 : Value).ownBlock ∧ k_ ≠ gb264)) (Kd.R_types (Kd.R_apart' (HO272.out) (Kd.N_typed HO278.out) (by decide)) BK264.out (by decide)) (fun k_ hk => by first | exact ⟨hk.1.2, ⟨hk.1.1.1.2, hk.2⟩⟩ | exact hk.1 | exact hk | exact ⟨hk.1, hk.2⟩ | exact ⟨.inr hk.1, hk.2⟩ | simp only [hk, ne_eq, not_false_eq_true, and_self]))))) (Reps.one (show Kd.FK (Kd.slice 5 (Kd.int .u8)) _ _ t283 [.slice Ao35 t283.length co35] from (Kd.FK_slice_mk (Kd.R_reads' (Kd.R_mono (ok' := (fun k_ => some k_ ≠ (.slice Ao30 y276.length co30 : Value).ownBlock ∧ some k_ ≠ (.slice Ao32 t279.length co32 : Value).ownBlock ∧ k_ ≠ gb264)) (Kd.R_types (Kd.R_apart' (HO285.out) (Kd.N_typed HO278.out) (by decide)) BK264.out (by decide)) (fun k_ hk => by first | exact ⟨hk.1.2, ⟨hk.1.1.2, hk.2⟩⟩ | exact hk.1 | exact hk | exact ⟨hk.1, hk.2⟩ | exact ⟨.inr hk.1, hk.2⟩ | simp only [hk, ne_eq, not_false_eq_true, and_self]))).2.1 (Kd.R_F (Kd.R_mono (ok' := (fun k_ => some k_ ≠ (.slice Ao30 y276.length co30 : Value).ownBlock ∧ some k_ ≠ (.slice Ao32 t279.length co32 : Value).ownBlock ∧ k_ ≠ gb264)) (Kd.R_types (Kd.R_apart' (HO285.out) (Kd.N_typed HO278.out) (by decide)) BK264.out (by decide)) (fun k_ hk => by first | exact ⟨hk.1.2, ⟨hk.1.1.2, hk.2⟩⟩ | exact hk.1 | exact hk | exact ⟨hk.1, hk.2⟩ | exact ⟨.inr hk.1, hk.2⟩ | simp only [hk, ne_eq, not_false_eq_true, and_self]))))) (Reps.none _ _)))); intro v287 w36 ho37 hb hg_ hnew_; clear hg_ hnew_; (first | rw [← Ny286.out] at ho37 | (simp only [Int.reduceToNat] at ho37; rw [← Ny286.out] at ho37)); replace HO278 := mk_ (Kd.N_elder' (by (with_reducible repeat (first | apply Kd.N_alloc | apply Kd.N_drewN | apply Kd.N_drew)); exact HO278.out) (Kd.N_base ho37) hb); replace HO281 := mk_ (Kd.R_below (Kd.ur_ HO281.out) hb); have HO288 := mk_ (Kd.N_lower ho37 (below_size (us_ HB.out))); replace BK264 := mk_ (blk_below (u_ BK264.out) hb); replace HB := mk_ (below_step (us_ HB.out) hb); clear HO272 HO285; clear hb ho37; obtain ⟨Ao38, co38, eo38⟩ := Kd.N_slice HO288.out; subst eo38) | ((with_reducible refine gate_callee (f := 94) rfl ?_); have hA_ := A18.out; refine goesL_ (some 39) rfl rfl Try.func94 (by kernel_rfl) rfl #[.slice Ao38 y286.length co38] rfl (by (try simp only [lm_, lo_, ln_]); try rfl) ?_; (with_reducible refine (slices_Concat_byte_byte.calls _ _ y286 t289 _ ?side1 ?side2 A18.out).mono ?_); (case side1 => repeat (first | exact (Kd.N_reads' HO288.out).2.2 | (with_reducible refine Kd.C_alloc ?_ _) | (with_reducible refine Kd.C_drewN ?_ _) | (with_reducible refine Kd.C_drew ?_))); (case side2 => exact (Kd.N_reads' HO288.out).2.1); rintro e w39 ⟨v290, rfl, ho0, hb⟩; refine ⟨_, rfl, ?_⟩; replace HO278 := mk_ (Kd.N_elder' (by (with_reducible repeat (first | apply Kd.N_alloc | apply Kd.N_drewN | apply Kd.N_drew)); exact HO278.out) (Kd.R_base ho0) hb); have n1_ := mk_ (Kd.R_elder' (Kd.ur_ HO281.out) (Kd.R_base ho0) hb); replace HO288 := mk_ (Kd.N_elder' (by (with_reducible repeat (first | apply Kd.N_alloc | apply Kd.N_drewN | apply Kd.N_drew)); exact HO288.out) (Kd.R_base ho0) hb); have HO291 := mk_ (Kd.R_lower (Kd.R_new' ho0 (Kd.R_lt (Kd.ur_ HO281.out))) (below_size (us_ HB.out))); replace BK264 := mk_ (blk_below (u_ BK264.out) hb); replace HB := mk_ (below_step (us_ HB.out) hb); replace HO281 := n1_; clear n1_; clear hA_ A18))
   go_ret
   exact ⟨_, by first | rfl | (simp [errW_none, errW_some] <;> rfl) | (simp [*, errW_none, errW_some] <;> rfl), by (with_reducible repeat (first | apply Kd.R_alloc | apply Kd.R_drewN | apply Kd.R_drew)); exact Kd.R_mono HO291.out (fun _ hk => trivial), us_ HB.out⟩

/-! ### impl_MailFrom: function 38 -/
def impl_MailFrom.f (k : Nat) (a0 : Int) (a1 : Int) (l2 : List Int) : Option (Int × Int × Int × List Int × Bool) := if (l2.length : Int) < 5 then (some (0, 0, 0, ([] : List Int), false)) else (if 0 < (l2.length : Int) then (if 1 < (l2.length : Int) then (if 3 ≤ (wrap64 ((l2.length : Int) - 2)) then (if (wrap64 ((l2.length : Int) - 2)) ≤ (l2.length : Int) then ((impl_clone_byte.f ((l2.take ((wrap64 ((l2.length : Int) - 2)) : Int).toNat).drop 3)).bind fun t296 => ((impl_MailBytes.f k a0 (wrap64 (rd l2 0)) (wrap64 (rd l2 1)) t296 a1).bind fun t300 => ((slices_Equal_byte_byte.f k t300 l2).bind fun t303 => (if t303 = true then (some (a0, wrap64 (rd l2 0), wrap64 (rd l2 1), t296, true)) else (some (0, 0, 0, ([] : List Int), false)))))) else (none)) else (none)) else (none)) else (none))
theorem impl_MailFrom.mono : ∀ a0 a1 a2 k, LeO (impl_MailFrom.f k a0 a1 a2) (impl_MailFrom.f (k + 1) a0 a1 a2) := by
 intro a0 a1 a2 k
 unfold impl_MailFrom.f
 repeat' first
   | (with_reducible exact impl_MailBytes.mono _ _ _ _ _ _)
   | (with_reducible exact slices_Equal_byte_byte.mono _ _ _)
   | (with_reducible exact LeO.refl _)
   | (with_reducible exact LeO.none _)
   | (with_reducible refine LeO.ite ?_ ?_)
   | (with_reducible refine LeO.bind ?_ (fun _ => ?_))
   | exact impl_MailBytes.mono _ _ _ _ _ _
   | exact slices_Equal_byte_byte.mono _ _ _
   | exact LeO.none _
   | refine LeO.ite ?_ ?_
   | refine LeO.bind ?_ (fun _ => ?_)
def impl_MailFrom.T3 : Bool × List (List Nat × List Nat) := (true, [([], []), ([], []), ([1], [1]), ([2], [2]), ([3], [3]), ([], []), ([5], [5]), ([6], [6]), ([7], [7]), ([], []), ([], []), ([10], [10]), ([11], [11]), ([9, 12], [9, 12]), ([13], [13]), ([0, 4, 8, 14], [0, 4, 8, 14]), ([], []), ([16, 15, 14, 0, 1, 2, 3, 4, 5, 6, 7, 8, 9, 10, 11, 12, 13, 14, 15, 16], [15, 16])])
def impl_MailFrom.B3 : List Nat := [0, 0, 2, 6, 14, 0, 32, 96, 224, 0, 0, 1024, 3072, 7680, 15872, 32767, 0, 131071]
theorem impl_MailFrom.tab3 : rtab .any (opsOf Try.f38 3) = impl_MailFrom.T3 := by kernel_rfl
theorem impl_MailFrom.bits3 : waitsOk impl_MailFrom.T3.2 impl_MailFrom.B3 = true := by kernel_rfl
set_option maxHeartbeats 8000000 in
set_option maxRecDepth 100000 in
theorem impl_MailFrom.calls (k : Nat) (a0 : Int) (a1 : Int) (A2 : Option Addr) (c2 : Nat) (l2 : List Int) (r1 : Int) (r2 : Int) (r3 : Int) (r4 : List Int) (r5 : Bool) (w : World) (hr2 : Kd.C (Kd.int .u8) w A2 l2.length l2) (hc2 : l2.length ≤ c2) (h : impl_MailFrom.f k a0 a1 l2 = some (r1, r2, r3, r4, r5)) :
  Calls Try.prog 38 #[.int .i64 a0, .int .i64 a1, .slice A2 l2.length c2] w fun e w' => ∃ v3_ : Value, e = .returned (.tuple #[.agg #[.int .i64 r1, .int .i64 r2, .int .i64 r3, v3_], .bool r5]) ∧ Kd.R (Kd.int .u8) 5 w' w.heap.size (fun _ => True) v3_ r4 ∧ Below w.heap.size w w' := by
 have hu40 := Try.underlying40
 have HR2 := mk_ hr2
 have HC2 := mk_ hc2
 clear hr2 hc2
 have HB := mk_ (Below.refl w.heap.size w)
 have H := h
 unfold impl_MailFrom.f at H
 clear h
 by_cases c4 : (l2.length : Int) < 5
 focus
  rw [if_pos c4] at H
  have c4b0 : decide ((l2.length : Int) < 5) = true := decide_eq_true c4
  have c4b1 : decide (l2.length < 5) = true := decide_eq_true (by omega)
  clear c4
  simp only [Option.some.injEq, Prod.mk.injEq] at H
  obtain ⟨rfl, rfl, rfl, rfl, rfl⟩ := H
 rotate_left
 focus
  rw [if_neg c4] at H
  have c4b0 : decide ((l2.length : Int) < 5) = false := decide_eq_false c4
  have c4b1 : decide (l2.length < 5) = false := decide_eq_false (by omega)
  clear c4
  by_cases c7 : 0 < (l2.length : Int)
  rotate_left
  ·rw [if_neg c7] at H
   exact absurd H (by simp)
  rw [if_pos c7] at H
  have c7b0 : decide (0 < (l2.length : Int)) = true := decide_eq_true c7
  have c7b1 : decide (0 < l2.length) = true := decide_eq_true (by omega)
  clear c7
  by_cases c8 : 1 < (l2.length : Int)
  rotate_left
  ·rw [if_neg c8] at H
   exact absurd H (by simp)
  rw [if_pos c8] at H
  have c8b0 : decide (1 < (l2.length : Int)) = true := decide_eq_true c8
  have c8b1 : decide (1 < l2.length) = true := decide_eq_true (by omega)
  clear c8
  by_cases c9 : 3 ≤ (wrap64 ((l2.length : Int) - 2))
  rotate_left
  ·rw [if_neg c9] at H
   exact absurd H (by simp)
  rw [if_pos c9] at H
  have c9b0 := eq_true c9
  have c9b1 : decide (3 ≤ (wrap64 ((l2.length : Int) - 2))) = true := decide_eq_true c9
  clear c9
  by_cases c10 : (wrap64 ((l2.length : Int) - 2)) ≤ (l2.length : Int)
  rotate_left
  ·rw [if_neg c10] at H
   exact absurd H (by simp)
  rw [if_pos c10] at H
  have c10b0 := eq_true c10
  have c10b1 : decide ((wrap64 ((l2.length : Int) - 2)) ≤ (l2.length : Int)) = true := decide_eq_true c10
  clear c10
  replace H := Option.bind_eq_some_iff.mp H
  obtain ⟨t296, A110, H⟩ := H
  (try dsimp only at H)
  have A11 := mk_ A110
  clear A110
  replace H := Option.bind_eq_some_iff.mp H
  obtain ⟨t300, A120, H⟩ := H
  (try dsimp only at H)
  have A12 := mk_ A120
  clear A120
  replace H := Option.bind_eq_some_iff.mp H
  obtain ⟨t303, A130, H⟩ := H
  (try dsimp only at H)
  have A13 := mk_ A130
  clear A130
  by_cases c14 : t303 = true
  focus
   subst c14
   rw [if_pos rfl] at H
   simp only [Option.some.injEq, Prod.mk.injEq] at H
   obtain ⟨rfl, rfl, rfl, rfl, rfl⟩ := H
  rotate_left
  focus
   replace c14 := Bool.eq_false_iff.mpr c14
   subst c14
   rw [if_neg (show ¬ (false = true) by decide)] at H
   simp only [Option.some.injEq, Prod.mk.injEq] at H
   obtain ⟨rfl, rfl, rfl, rfl, rfl⟩ := H
  rotate_left
 rotate_left 2
 all_goals
  go_enter Try.func38, Try.ntmps38
  try go_wp2_with (first | ((with_reducible refine gate_dst (N := 6) rfl ?_); refine box_event ?hg (N := 6) ?hd (cs := #[.int .i64 0, .int .i64 0, .int .i64 0, .slice none 0 0]) (t := 40) ?hr ?_; (case hd => rfl); (case hg => rfl); (case hr => first | (go_simp; done) | (go_simp; rfl)); intro gb2040 hg w2041 hbox hb; have n0_ := mk_ (below_step (ub_ HB.out) hb); have BK292 := mk_ (hbox); have GW292 := mk_ ((by rw [hg]; exact (below_size (ub_ HB.out)) : w.heap.size ≤ gb2040)); have GE292 := ge_ ((by rw [hg]; exact (below_size (ub_ HB.out)) : w.heap.size ≤ gb2040)); replace HB := n0_; clear n0_; clear hb hbox hg; obtain ⟨_, _, _, _, _, _, _, _⟩ := cells4_ BK292.out))
 ·refine bodyPost_ret (results_ct rfl _ _ gb2040 40 #[.int .i64 0, .int .i64 0, .int .i64 0, .slice none 0 0] (0, 0) _ rfl (by (with_reducible repeat (first | refine bn_ ?_ _ | refine bw_ ?_ | refine ba_ ?_ _)); refine blk_put (cs := #[.int .i64 0, .int .i64 0, .int .i64 0, .slice none 0 0]) ?_ 3 _ rfl; (with_reducible repeat (first | refine bn_ ?_ _ | refine bw_ ?_ | refine ba_ ?_ _)); refine blk_put (cs := #[.int .i64 0, .int .i64 0, .int .i64 0, .slice none 0 0]) ?_ 2 _ rfl; (with_reducible repeat (first | refine bn_ ?_ _ | refine bw_ ?_ | refine ba_ ?_ _)); refine blk_put (cs := #[.int .i64 0, .int .i64 0, .int .i64 0, .slice none 0 0]) ?_ 1 _ rfl; (with_reducible repeat (first | refine bn_ ?_ _ | refine bw_ ?_ | refine ba_ ?_ _)); refine blk_put (cs := #[.int .i64 0, .int .i64 0, .int .i64 0, .slice none 0 0]) ?_ 0 _ rfl; (with_reducible repeat (first | refine bn_ ?_ _ | refine bw_ ?_ | refine ba_ ?_ _)); exact BK292.out) Try.underlying40 rfl (by kernel_rfl)) rfl ?_
  exact ⟨_, by first | rfl | (simp [errW_none, errW_some] <;> rfl) | (simp [*, errW_none, errW_some] <;> rfl), by first | exact Kd.R_nil _ _ _ _ _ | exact Kd.N_nil _ _ _ _ _ | exact Kd.V_nil _ _ _ _ _ | exact Kd.Q_nil _ _ _ _ _ | exact Kd.S_nil _ _ _ _ _, us_ HB.out⟩
 all_goals
  have n0_ := mk_ (blk_drew BK292.out)
  have n1_ := mk_ (below_drew1 HB.out)
  clear BK292
  clear HB
  have BK292 := n0_
  have HB := n1_
  clear n0_ n1_
  have p2400 : 0 ≤ (0 : Int) := (by omega)
  have q2400 : 0 < (l2.length : Int) := of_decide_eq_true (by first | (with_reducible assumption) | assumption)
  obtain ⟨ad2400, e2400, hx293_0⟩ := Kd.at_int HR2.out 0 p2400 q2400
  have hw293_0 := hx293_0
  (try rw [show ((0 : Int)).toNat = 0 from rfl] at hw293_0)
  (try rw [show 0 * 1 = 0 from rfl] at hw293_0)
  (try rw [Addr.add_zero'] at hw293_0)
  cases e2400
  have qi2400 : (0 < l2.length) = True := eq_true (by omega)
  (try rw [show ((0 : Int)).toNat = 0 from rfl] at hx293_0)
  (try rw [Addr.add_zero'] at hx293_0)
  replace hx293_0 := (HB.out.cell (lc_ w _ hx293_0)).trans hx293_0
  replace p2400 := eq_true p2400
  replace q2400 := eq_true q2400
  have p2960 : 0 ≤ (1 : Int) := (by omega)
  have q2960 : 1 < (l2.length : Int) := of_decide_eq_true (by first | (with_reducible assumption) | assumption)
  obtain ⟨ad2960, e2960, hx294_0⟩ := Kd.at_int HR2.out 1 p2960 q2960
  have hw294_0 := hx294_0
  (try rw [show ((1 : Int)).toNat = 1 from rfl] at hw294_0)
  (try rw [show 1 * 1 = 1 from rfl] at hw294_0)
  (try simp only [Nat.reduceMul, Nat.reduceEqDiff, Go.Addr.add, ↓reduceIte] at hw294_0)
  obtain rfl : ad2400 = ad2960 := (by injection e2960)
  (try simp only [show (1 : Int).toNat = 1 from rfl, Nat.reduceMul, Nat.reduceEqDiff, Go.Addr.add, ↓reduceIte] at hx294_0)
  have qi2960 : (1 < l2.length) = True := eq_true (by omega)
  (try rw [show ((1 : Int)).toNat = 1 from rfl] at hx294_0)
  replace hx294_0 := (HB.out.cell (lc_ w _ hx294_0)).trans hx294_0
  replace p2960 := eq_true p2960
  replace q2960 := eq_true q2960
  obtain ⟨i3520, hi3520, _, hsz3521, _⟩ := info_parts info5
  obtain ⟨A3521, hcut3521, hA3521, hC3521⟩ := print_mid_of (P := Try.prog) (Value.int .u8) 0 29 5 .i64 .i64 Try.underlying29 hi3520 hsz3521 (some ad2400) c2 l2 3 (wrap64 ((l2.length : Int) - 2)) (by omega) (by first | omega | exact of_decide_eq_true (by first | (with_reducible assumption) | assumption)) (of_decide_eq_true (by first | (with_reducible assumption) | assumption)) HC2.out
  have HR3600 := mk_ (Kd.C_of_reads (h1 := fun _ => rfl) (hA3521 _ (Kd.reads_of_C HR2.out)))
  have HC3600 := mk_ hC3521
  clear hA3521 hC3521 hi3520 hsz3521
  refine start_ (n := 18) (S := fun w' => w'.cell? ad2400 = some (.int .u8 (rd l2 0)) ∧ w'.cell? ⟨ad2400.block, ad2400.off + 1, none⟩ = some (.int .u8 (rd l2 1))) (ds := []) #[F_, F_, F_, F_, F_, F_, F_, F_, F_, F_, F_, F_, F_, F_, F_, F_, F_, F_] (by kernel_rfl) rfl rfl ⟨((HB.out.cell (lc_ w _ hw293_0)).trans hw293_0), ((HB.out.cell (lc_ w _ hw294_0)).trans hw294_0)⟩ (fun hHeld => ?_); refine with_tabW impl_MailFrom.tab3 impl_MailFrom.bits3 (fun HT_ HW_ => ?_)
  generalize w2041.drew = w3760 at BK292 HB HR3600 hx293_0 hx294_0 hHeld ⊢
  refine pure_ (i := 0) (N := some 13) (v := ?_) (a' := ?_) #[T_, F_, F_, F_, F_, F_, F_, F_, F_, F_, F_, F_, F_, F_, F_, F_, F_, F_] rfl rfl (any_of HT_.out (by kernel_rfl)) (fun _ _ _ h => h) (Or.inl ⟨by rfl, ?_⟩) ?_ ?_
  rotate_left
  ·intro w'
   go_simp
   with_reducible rfl
  rotate_left
  ·simp only [Act.put, la_, lz_, ls_, i64_w, i32_w]
   rfl
  refine pure_ (i := 1) (N := some 14) (v := ?_) (a' := ?_) #[T_, T_, F_, F_, F_, F_, F_, F_, F_, F_, F_, F_, F_, F_, F_, F_, F_, F_] rfl rfl (any_of HT_.out (by kernel_rfl)) (fun _ _ _ h => h) (Or.inl ⟨by rfl, ?_⟩) ?_ ?_
  rotate_left
  ·intro w'
   go_simp
   with_reducible rfl
  rotate_left
  ·simp only [Act.put, la_, lz_, ls_, i64_w, i32_w]
   rfl
  refine pure_ (i := 2) (N := some 15) (v := ?_) (a' := ?_) #[T_, T_, T_, F_, F_, F_, F_, F_, F_, F_, F_, F_, F_, F_, F_, F_, F_, F_] rfl rfl (any_of HT_.out (by kernel_rfl)) (fun _ _ _ h => h) (Or.inl ⟨by rfl, ?_⟩) ?_ ?_
  rotate_left
  ·intro w'
   go_simp
   with_reducible rfl
  rotate_left
  ·simp only [Act.put, la_, lz_, ls_, i64_w, i32_w]
   rfl
  refine pure_ (i := 5) (N := some 18) (v := ?_) (a' := ?_) #[T_, T_, T_, F_, F_, T_, F_, F_, F_, F_, F_, F_, F_, F_, F_, F_, F_, F_] rfl rfl (any_of HT_.out (by kernel_rfl)) (fun _ _ _ h => h) (Or.inl ⟨by rfl, ?_⟩) ?_ ?_
  rotate_left
  ·intro w'
   go_simp
   with_reducible rfl
  rotate_left
  ·simp only [Act.put, la_, lz_, ls_, i64_w, i32_w]
   rfl
  refine pure_ (i := 6) (N := some 19) (v := ?_) (a' := ?_) #[T_, T_, T_, F_, F_, T_, T_, F_, F_, F_, F_, F_, F_, F_, F_, F_, F_, F_] rfl rfl (any_of HT_.out (by kernel_rfl)) (fun _ _ _ h => h) (Or.inl ⟨by rfl, ?_⟩) ?_ ?_
  rotate_left
  ·intro w'
   go_simp
   with_reducible rfl
  rotate_left
  ·simp only [Act.put, la_, lz_, ls_, i64_w, i32_w]
   rfl
  refine pure_ (i := 9) (N := some 22) (v := ?_) (a' := ?_) #[T_, T_, T_, F_, F_, T_, T_, F_, F_, T_, F_, F_, F_, F_, F_, F_, F_, F_] rfl rfl (any_of HT_.out (by kernel_rfl)) (fun _ _ _ h => h) (Or.inl ⟨by rfl, ?_⟩) ?_ ?_
  rotate_left
  ·intro w'
   go_simp
   with_reducible rfl
  rotate_left
  ·simp only [Act.put, la_, lz_, ls_, i64_w, i32_w]
   rfl
  refine pure_ (i := 10) (N := some 23) (v := ?_) (a' := ?_) #[T_, T_, T_, F_, F_, T_, T_, F_, F_, T_, T_, F_, F_, F_, F_, F_, F_, F_] rfl rfl (any_of HT_.out (by kernel_rfl)) (fun _ _ _ h => h) (Or.inl ⟨by rfl, ?_⟩) ?_ ?_
  rotate_left
  ·intro w'
   go_simp
   with_reducible rfl
  rotate_left
  ·simp only [Act.put, la_, lz_, ls_, i64_w, i32_w]
   rfl
  refine pure_ (i := 11) (N := some 24) (v := ?_) (a' := ?_) #[T_, T_, T_, F_, F_, T_, T_, F_, F_, T_, T_, T_, F_, F_, F_, F_, F_, F_] rfl rfl (any_of HT_.out (by kernel_rfl)) (fun _ _ _ h => h) (Or.inl ⟨by rfl, ?_⟩) ?_ ?_
  rotate_left
  ·intro w'
   go_simp
   with_reducible rfl
  rotate_left
  ·simp only [Act.put, la_, lz_, ls_, i64_w, i32_w]
   rfl
  refine pure_ (i := 12) (N := some 25) (v := ?_) (a' := ?_) #[T_, T_, T_, F_, F_, T_, T_, F_, F_, T_, T_, T_, T_, F_, F_, F_, F_, F_] rfl rfl (any_of HT_.out (by kernel_rfl)) (fun _ _ _ h => h) (Or.inl ⟨by rfl, ?_⟩) ?_ ?_
  rotate_left
  ·intro w'
   go_simp
   with_reducible rfl
  rotate_left
  ·simp only [Act.put, la_, lz_, ls_, i64_w, i32_w]
   rfl
  refine pure_ (i := 13) (N := some 26) (v := ?_) (a' := ?_) #[T_, T_, T_, F_, F_, T_, T_, F_, F_, T_, T_, T_, T_, T_, F_, F_, F_, F_] rfl rfl (any_of HT_.out (by kernel_rfl)) (fun _ _ _ h => h) (Or.inl ⟨by rfl, ?_⟩) ?_ ?_
  rotate_left
  ·intro w'
   go_simp
   with_reducible rfl
  rotate_left
  ·simp only [Act.put, la_, lz_, ls_, i64_w, i32_w]
   rfl
  refine take_ (i := 3) (N := some 16) (v := ?_) (a' := ?_) #[T_, T_, T_, T_, F_, T_, T_, F_, F_, T_, T_, T_, T_, T_, F_, F_, F_, F_] rfl rfl (take_ofW HT_.out HW_.out (by kernel_rfl)) (fun _ _ _ h => h) (Or.inl ⟨by rfl, ?_⟩) hHeld ?_ ?_
  rotate_left
  ·rintro w' ⟨s5880, s5881⟩
   go_simp
   with_reducible rfl
  rotate_left
  ·simp only [Act.put, la_, lz_, ls_, i64_w, i32_w]
   rfl
  refine pure_ (i := 4) (N := some 17) (v := ?_) (a' := ?_) #[T_, T_, T_, T_, T_, T_, T_, F_, F_, T_, T_, T_, T_, T_, F_, F_, F_, F_] rfl rfl (any_of HT_.out (by kernel_rfl)) (fun _ _ _ h => h) (Or.inl ⟨by rfl, ?_⟩) ?_ ?_
  rotate_left
  ·intro w'
   go_simp
   with_reducible rfl
  rotate_left
  ·simp only [Act.put, la_, lz_, ls_, i64_w, i32_w]
   rfl
  refine take_ (i := 7) (N := some 20) (v := ?_) (a' := ?_) #[T_, T_, T_, T_, T_, T_, T_, T_, F_, T_, T_, T_, T_, T_, F_, F_, F_, F_] rfl rfl (take_ofW HT_.out HW_.out (by kernel_rfl)) (fun _ _ _ h => h) (Or.inl ⟨by rfl, ?_⟩) hHeld ?_ ?_
  rotate_left
  ·rintro w' ⟨s5880, s5881⟩
   go_simp
   with_reducible rfl
  rotate_left
  ·simp only [Act.put, la_, lz_, ls_, i64_w, i32_w]
   rfl
  refine pure_ (i := 8) (N := some 21) (v := ?_) (a' := ?_) #[T_, T_, T_, T_, T_, T_, T_, T_, T_, T_, T_, T_, T_, T_, F_, F_, F_, F_] rfl rfl (any_of HT_.out (by kernel_rfl)) (fun _ _ _ h => h) (Or.inl ⟨by rfl, ?_⟩) ?_ ?_
  rotate_left
  ·intro w'
   go_simp
   with_reducible rfl
  rotate_left
  ·simp only [Act.put, la_, lz_, ls_, i64_w, i32_w]
   rfl
  refine join_ (σ := Value × Nat) 1 #[T_, T_, T_, T_, T_, T_, T_, T_, T_, T_, T_, T_, T_, T_, T_, T_, T_, F_] (fun s_ => [(27, s_.1), (8, .pointer (some ⟨s_.2, 0, none⟩)), (28, .agg #[.int .i64 a0, .int .i64 (wrap64 (rd l2 0)), .int .i64 (wrap64 (rd l2 1)), s_.1])]) (fun s_ w' => (w'.cell? ad2400 = some (.int .u8 (rd l2 0)) ∧ w'.cell? ⟨ad2400.block, ad2400.off + 1, none⟩ = some (.int .u8 (rd l2 1))) ∧ (Kd.R (Kd.int .u8) 5 w' w.heap.size (fun _ => True) s_.1 t296) ∧ (w'.heap[gb2040]? = some (.cells #[.int .i64 0, .int .i64 0, .int .i64 0, .slice none 0 0] 40 (0, 0))) ∧ (w'.heap[s_.2]? = some (.cells #[.int .i64 0, .int .i64 0, .int .i64 0, .slice none 0 0] 40 (0, 0))) ∧ (w.heap.size ≤ s_.2) ∧ (w.heap.size ≤ s_.2) ∧ (gb2040 ≠ s_.2) ∧ (s_.2 ≠ gb2040) ∧ (Below w.heap.size w w')) ?_ ?_
  rotate_left
  ·intro hCont
   refine two_ (i := 14) (j := 16) (Ni := some 27) (Nj := some 8) #[T_, T_, T_, T_, T_, T_, T_, T_, T_, T_, T_, T_, T_, T_, T_, F_, F_, F_] #[T_, T_, T_, T_, T_, T_, T_, T_, T_, T_, T_, T_, T_, T_, F_, F_, T_, F_] rfl rfl rfl rfl (two_of HT_.out (by kernel_rfl)) (by decide) (by decide) (fun K hK => ?_) (fun K hK => ?_)
   ·skip
    refine goes_ Try.func71 (by kernel_rfl) rfl #[.slice A3521 ((l2.take ((wrap64 ((l2.length : Int) - 2)) : Int).toNat).drop 3).length (c2 - 3)] (by rfl) rfl rfl (by (try simp only [List.map_toArray, List.map_cons, List.map_nil]); first | done | (rw [show ((l2.take ((wrap64 ((l2.length : Int) - 2)) : Int).toNat).drop 3).length = ((wrap64 ((l2.length : Int) - 2)).toNat - 3) from (by rw [List.length_drop, List.length_take]; have h_ : ((wrap64 ((l2.length : Int) - 2)) : Int) ≤ (l2.length : Int) := of_decide_eq_true (by first | (with_reducible assumption) | assumption); omega)] <;> rfl) | rfl | (simp only [List.length_drop, List.length_take]; rfl)) ?_
    with_reducible refine (impl_clone_byte.calls _ _ ((l2.take ((wrap64 ((l2.length : Int) - 2)) : Int).toNat).drop 3) t296 _ ?side1 ?side2 A11.out).mono ?_
    (case side1 => repeat (first | exact (Kd.C_below HR3600.out HB.out) | (with_reducible refine Kd.C_alloc ?_ _) | (with_reducible refine Kd.C_drewN ?_ _) | (with_reducible refine Kd.C_drew ?_)))
    (case side2 => exact HC3600.out)
    rintro e w6680 ⟨v6681, rfl, ho5880, hb⟩
    refine ⟨_, rfl, ?_⟩
    have n0_ := mk_ (Kd.R_lower ho5880 (below_size (us_ HB.out)))
    have n1_ := mk_ (blk_below (u_ BK292.out) hb)
    have n2_ := mk_ (below_step (us_ HB.out) hb)
    clear BK292
    clear HB
    have HO298 := n0_
    have BK292 := n1_
    have HB := n2_
    clear n0_ n1_ n2_
    (try clear hb)
    (try clear hb2)
    (try clear hk)
    (try clear hi)
    (try clear ho5880)
    obtain ⟨Ao1420298, co1420298, eo1420298⟩ := Kd.R_slice HO298.out
    (first | subst eo1420298 | (injection eo1420298 with f1_ f2_ f3_; have f4_ := f1_.symm; have f5_ := f3_.symm; clear f1_ f2_ f3_; subst f4_; subst f5_))
    refine hK.out _ _ ⟨((HB.out.cell (lc_ w _ hw293_0)).trans hw293_0), ((HB.out.cell (lc_ w _ hw294_0)).trans hw294_0)⟩ (fun hHeld => ?_)
    clear hK K
    refine norm_ (a' := ?_) ?_ ?_
    rotate_left
    ·show Act.put _ (some 27) _ = _
     simp only [Act.put, la_, lz_, ls_, i64_w, i32_w]
     rfl
    refine pure_ (i := 15) (N := some 28) (v := ?_) (a' := ?_) #[T_, T_, T_, T_, T_, T_, T_, T_, T_, T_, T_, T_, T_, T_, T_, T_, F_, F_] rfl rfl (any_of HT_.out (by kernel_rfl)) (fun _ _ _ h => h) (Or.inl ⟨by rfl, ?_⟩) ?_ ?_
    rotate_left
    ·intro w'
     go_simp
     with_reducible rfl
    rotate_left
    ·simp only [Act.put, la_, lz_, ls_, i64_w, i32_w]
     rfl
    refine one_ (i := 16) (N := some 8) #[T_, T_, T_, T_, T_, T_, T_, T_, T_, T_, T_, T_, T_, T_, T_, T_, T_, F_] rfl rfl (one_of HT_.out (by kernel_rfl)) (by decide) (fun K hK => ?_)
    refine box_step ?hg (N := 8) ?hd (cs := #[.int .i64 0, .int .i64 0, .int .i64 0, .slice none 0 0]) (t := 40) ?hr ?_; (case hd => rfl); (case hg => rfl); (case hr => first | (go_simp; done) | (go_simp; rfl))
    intro gb6682 hg w1420298 hbox hb
    have n0_ := mk_ (Kd.R_below (Kd.ur_ HO298.out) hb)
    have n1_ := mk_ (blk_below (u_ BK292.out) hb)
    have n2_ := mk_ (below_step (us_ HB.out) hb)
    have n3_ := mk_ (hbox)
    have n4_ := mk_ ((by rw [hg]; exact (below_size (us_ HB.out)) : w.heap.size ≤ gb6682))
    have n5_ := mk_ ((by rw [hg]; exact (below_size (us_ HB.out)) : w.heap.size ≤ gb6682))
    have n6_ := mk_ ((by rw [hg]; exact Nat.ne_of_lt (blk_lt (u_ BK292.out)) : gb2040 ≠ gb6682))
    have n7_ := mk_ ((by rw [hg]; exact Nat.ne_of_gt (blk_lt (u_ BK292.out)) : gb6682 ≠ gb2040))
    clear HO298
    clear BK292
    clear HB
    have HO298 := n0_
    have BK292 := n1_
    have HB := n2_
    have BK299 := n3_
    have GW299 := n4_
    have GE299 := ge_ n5_.out
    have NB292_299 := nq_ n6_.out
    have NB299_292 := nq_ n7_.out
    clear n0_ n1_ n2_ n3_ n4_ n5_ n6_ n7_
    clear hb hbox hg
    refine hK.out _ _ ⟨((HB.out.cell (lc_ w _ hw293_0)).trans hw293_0), ((HB.out.cell (lc_ w _ hw294_0)).trans hw294_0)⟩ (fun hHeld => ?_)
    clear hK K
    refine norm_ (a' := ?_) ?_ ?_
    rotate_left
    ·show Act.put _ (some 8) _ = _
     simp only [Act.put, la_, lz_, ls_, i64_w, i32_w]
     rfl
    exact norm_ (by simp only [putAll, Act.put, la_, lz_, ls_]) (hCont (.slice Ao1420298 t296.length co1420298, gb6682) _ ⟨hHeld, (Kd.ur_ HO298.out), (u_ BK292.out), (u_ BK299.out), GW299.out, GE299.out, NB292_299.out, NB299_292.out, (us_ HB.out)⟩)
   skip
   refine box_step ?hg (N := 8) ?hd (cs := #[.int .i64 0, .int .i64 0, .int .i64 0, .slice none 0 0]) (t := 40) ?hr ?_; (case hd => rfl); (case hg => rfl); (case hr => first | (go_simp; done) | (go_simp; rfl))
   intro gb6682 hg w6680 hbox hb
   have n0_ := mk_ (blk_below (u_ BK292.out) hb)
   have n1_ := mk_ (below_step (us_ HB.out) hb)
   have n2_ := mk_ (hbox)
   have n3_ := mk_ ((by rw [hg]; exact (below_size (us_ HB.out)) : w.heap.size ≤ gb6682))
   have n4_ := mk_ ((by rw [hg]; exact (below_size (us_ HB.out)) : w.heap.size ≤ gb6682))
   have n5_ := mk_ ((by rw [hg]; exact Nat.ne_of_lt (blk_lt (u_ BK292.out)) : gb2040 ≠ gb6682))
   have n6_ := mk_ ((by rw [hg]; exact Nat.ne_of_gt (blk_lt (u_ BK292.out)) : gb6682 ≠ gb2040))
   clear BK292
   clear HB
   have BK292 := n0_
   have HB := n1_
   have BK299 := n2_
   have GW299 := n3_
   have GE299 := ge_ n4_.out
   have NB292_299 := nq_ n5_.out
   have NB299_292 := nq_ n6_.out
   clear n0_ n1_ n2_ n3_ n4_ n5_ n6_
   clear hb hbox hg
   refine hK.out _ _ ⟨((HB.out.cell (lc_ w _ hw293_0)).trans hw293_0), ((HB.out.cell (lc_ w _ hw294_0)).trans hw294_0)⟩ (fun hHeld => ?_)
   clear hK K
   refine norm_ (a' := ?_) ?_ ?_
   rotate_left
   ·show Act.put _ (some 8) _ = _
    simp only [Act.put, la_, lz_, ls_, i64_w, i32_w]
    rfl
   refine one_ (i := 14) (N := some 27) #[T_, T_, T_, T_, T_, T_, T_, T_, T_, T_, T_, T_, T_, T_, T_, F_, T_, F_] rfl rfl (one_of HT_.out (by kernel_rfl)) (by decide) (fun K hK => ?_)
   refine goes_ Try.func71 (by kernel_rfl) rfl #[.slice A3521 ((l2.take ((wrap64 ((l2.length : Int) - 2)) : Int).toNat).drop 3).length (c2 - 3)] (by rfl) rfl rfl (by (try simp only [List.map_toArray, List.map_cons, List.map_nil]); first | done | (rw [show ((l2.take ((wrap64 ((l2.length : Int) - 2)) : Int).toNat).drop 3).length = ((wrap64 ((l2.length : Int) - 2)).toNat - 3) from (by rw [List.length_drop, List.length_take]; have h_ : ((wrap64 ((l2.length : Int) - 2)) : Int) ≤ (l2.length : Int) := of_decide_eq_true (by first | (with_reducible assumption) | assumption); omega)] <;> rfl) | rfl | (simp only [List.length_drop, List.length_take]; rfl)) ?_
   with_reducible refine (impl_clone_byte.calls _ _ ((l2.take ((wrap64 ((l2.length : Int) - 2)) : Int).toNat).drop 3) t296 _ ?side1 ?side2 A11.out).mono ?_
   (case side1 => repeat (first | exact (Kd.C_below HR3600.out HB.out) | (with_reducible refine Kd.C_alloc ?_ _) | (with_reducible refine Kd.C_drewN ?_ _) | (with_reducible refine Kd.C_drew ?_)))
   (case side2 => exact HC3600.out)
   rintro e w1420298 ⟨v6681, rfl, ho5880, hb⟩
   refine ⟨_, rfl, ?_⟩
   have n0_ := mk_ (Kd.R_lower ho5880 (below_size (us_ HB.out)))
   have n1_ := mk_ (blk_below (u_ BK292.out) hb)
   have n2_ := mk_ (blk_below (u_ BK299.out) hb)
   have n3_ := mk_ (below_step (us_ HB.out) hb)
   clear BK292
   clear BK299
   clear HB
   have HO298 := n0_
   have BK292 := n1_
   have BK299 := n2_
   have HB := n3_
   clear n0_ n1_ n2_ n3_
   (try clear hb)
   (try clear hb2)
   (try clear hk)
   (try clear hi)
   (try clear ho5880)
   obtain ⟨Ao1420298, co1420298, eo1420298⟩ := Kd.R_slice HO298.out
   (first | subst eo1420298 | (injection eo1420298 with f1_ f2_ f3_; have f4_ := f1_.symm; have f5_ := f3_.symm; clear f1_ f2_ f3_; subst f4_; subst f5_))
   refine hK.out _ _ ⟨((HB.out.cell (lc_ w _ hw293_0)).trans hw293_0), ((HB.out.cell (lc_ w _ hw294_0)).trans hw294_0)⟩ (fun hHeld => ?_)
   clear hK K
   refine norm_ (a' := ?_) ?_ ?_
   rotate_left
   ·show Act.put _ (some 27) _ = _
    simp only [Act.put, la_, lz_, ls_, i64_w, i32_w]
    rfl
   refine pure_ (i := 15) (N := some 28) (v := ?_) (a' := ?_) #[T_, T_, T_, T_, T_, T_, T_, T_, T_, T_, T_, T_, T_, T_, T_, T_, T_, F_] rfl rfl (any_of HT_.out (by kernel_rfl)) (fun _ _ _ h => h) (Or.inl ⟨by rfl, ?_⟩) ?_ ?_
   rotate_left
   ·intro w'
    go_simp
    with_reducible rfl
   rotate_left
   ·simp only [Act.put, la_, lz_, ls_, i64_w, i32_w]
    rfl
   exact norm_ (by simp only [putAll, Act.put, la_, lz_, ls_]) (hCont (.slice Ao1420298 t296.length co1420298, gb6682) _ ⟨hHeld, (Kd.ur_ HO298.out), (u_ BK292.out), (u_ BK299.out), GW299.out, GE299.out, NB292_299.out, NB299_292.out, (us_ HB.out)⟩)
  rintro ⟨v6681, gb6682⟩ w6720 ⟨hS_, h0_, h1_, h2_, h3_, h4_, h5_, h6_, h7_⟩
  have n0_ : Aside0 (Kd.R (Kd.int .u8) 5 w6720 w.heap.size (fun _ => True) v6681 t296) := ⟨h0_⟩
  have n1_ : Aside0 (w6720.heap[gb2040]? = some (.cells #[.int .i64 0, .int .i64 0, .int .i64 0, .slice none 0 0] 40 (0, 0))) := ⟨h1_⟩
  have n2_ : Aside0 (w6720.heap[gb6682]? = some (.cells #[.int .i64 0, .int .i64 0, .int .i64 0, .slice none 0 0] 40 (0, 0))) := ⟨h2_⟩
  have n3_ : Aside0 (w.heap.size ≤ gb6682) := ⟨h3_⟩
  have n4_ : Aside0 (w.heap.size ≤ gb6682) := ⟨h4_⟩
  have n5_ : Aside0 (gb2040 ≠ gb6682) := ⟨h5_⟩
  have n6_ : Aside0 (gb6682 ≠ gb2040) := ⟨h6_⟩
  have n7_ : Aside0 (Below w.heap.size w w6720) := ⟨h7_⟩
  clear BK292
  clear HB
  clear h0_ h1_ h2_ h3_ h4_ h5_ h6_ h7_
  have HO298 := n0_
  have BK292 := n1_
  have BK299 := n2_
  have GW299 := n3_
  have GE299 := ge_ n4_.out
  have NB292_299 := nq_ n5_.out
  have NB299_292 := nq_ n6_.out
  have HB := n7_
  clear n0_ n1_ n2_ n3_ n4_ n5_ n6_ n7_
  have hHeld : w6720.cell? ad2400 = some (.int .u8 (rd l2 0)) ∧ w6720.cell? ⟨ad2400.block, ad2400.off + 1, none⟩ = some (.int .u8 (rd l2 1)) := hS_
  obtain ⟨Ao1650298, co1650298, eo1650298⟩ := Kd.R_slice HO298.out
  (first | subst eo1650298 | (injection eo1650298 with f1_ f2_ f3_; have f4_ := f1_.symm; have f5_ := f3_.symm; clear f1_ f2_ f3_; subst f4_; subst f5_))
  refine norm_ (a' := ?_) ?_ ?_
  rotate_left
  ·simp only [putAll, Act.put, la_, lz_, ls_]
   rfl
  refine one_ (i := 17) (N := none) #[T_, T_, T_, T_, T_, T_, T_, T_, T_, T_, T_, T_, T_, T_, T_, T_, T_, T_] rfl rfl (one_of HT_.out (by kernel_rfl)) (by decide) (fun K hK => ?_)
  have hs7840 : w6720.cell? ⟨gb6682, 0, none⟩ = some (.int .i64 0) := (blk_cell BK299.out 0).trans rfl
  have hfs7840 := blk_frozen BK299.out 0
  have hns7840_0 := NB292_299.out
  have hms7840_0 := NB299_292.out
  have hs8000 : w6720.cell? ⟨gb6682, 1, none⟩ = some (.int .i64 0) := (blk_cell BK299.out 1).trans rfl
  have hfs8000 := blk_frozen BK299.out 1
  have hns8000_0 := NB292_299.out
  have hms8000_0 := NB299_292.out
  have hs8160 : w6720.cell? ⟨gb6682, 2, none⟩ = some (.int .i64 0) := (blk_cell BK299.out 2).trans rfl
  have hfs8160 := blk_frozen BK299.out 2
  have hns8160_0 := NB292_299.out
  have hms8160_0 := NB299_292.out
  have hs8320 : w6720.cell? ⟨gb6682, 3, none⟩ = some (.slice none 0 0) := (blk_cell BK299.out 3).trans rfl
  have hfs8320 := blk_frozen BK299.out 3
  have hns8320_0 := NB292_299.out
  have hms8320_0 := NB299_292.out
  refine skip_ (w1 := ?_) (by rfl) rfl ?_ ?_
  rotate_left
  ·go_simp
   rfl
  refine hK.out _ _ ⟨((cell_far (p := ⟨gb6682, _, none⟩) (by first | exact (ne1_ (by have := lc_ _ _ hw293_0; first | rwa [add_block] at this | exact this) GW299.out) | (rw [add_block]; exact (ne1_ (by have := lc_ _ _ hw293_0; first | rwa [add_block] at this | exact this) GW299.out)) | (show (Addr.add _ _).block ≠ _; rw [add_block]; exact (ne1_ (by have := lc_ _ _ hw293_0; first | rwa [add_block] at this | exact this) GW299.out)) | (dsimp only; exact (ne1_ (by have := lc_ _ _ hw293_0; first | rwa [add_block] at this | exact this) GW299.out))) _).trans (((cell_far (p := ⟨gb6682, _, none⟩) (by first | exact (ne1_ (by have := lc_ _ _ hw293_0; first | rwa [add_block] at this | exact this) GW299.out) | (rw [add_block]; exact (ne1_ (by have := lc_ _ _ hw293_0; first | rwa [add_block] at this | exact this) GW299.out)) | (show (Addr.add _ _).block ≠ _; rw [add_block]; exact (ne1_ (by have := lc_ _ _ hw293_0; first | rwa [add_block] at this | exact this) GW299.out)) | (dsimp only; exact (ne1_ (by have := lc_ _ _ hw293_0; first | rwa [add_block] at this | exact this) GW299.out))) _).trans (((cell_far (p := ⟨gb6682, _, none⟩) (by first | exact (ne1_ (by have := lc_ _ _ hw293_0; first | rwa [add_block] at this | exact this) GW299.out) | (rw [add_block]; exact (ne1_ (by have := lc_ _ _ hw293_0; first | rwa [add_block] at this | exact this) GW299.out)) | (show (Addr.add _ _).block ≠ _; rw [add_block]; exact (ne1_ (by have := lc_ _ _ hw293_0; first | rwa [add_block] at this | exact this) GW299.out)) | (dsimp only; exact (ne1_ (by have := lc_ _ _ hw293_0; first | rwa [add_block] at this | exact this) GW299.out))) _).trans (((cell_far (p := ⟨gb6682, _, none⟩) (by first | exact (ne1_ (by have := lc_ _ _ hw293_0; first | rwa [add_block] at this | exact this) GW299.out) | (rw [add_block]; exact (ne1_ (by have := lc_ _ _ hw293_0; first | rwa [add_block] at this | exact this) GW299.out)) | (show (Addr.add _ _).block ≠ _; rw [add_block]; exact (ne1_ (by have := lc_ _ _ hw293_0; first | rwa [add_block] at this | exact this) GW299.out)) | (dsimp only; exact (ne1_ (by have := lc_ _ _ hw293_0; first | rwa [add_block] at this | exact this) GW299.out))) _).trans (hHeld.1)))))))), ((cell_far (p := ⟨gb6682, _, none⟩) (by first | exact (ne1_ (by have := lc_ _ _ hw294_0; first | rwa [add_block] at this | exact this) GW299.out) | (rw [add_block]; exact (ne1_ (by have := lc_ _ _ hw294_0; first | rwa [add_block] at this | exact this) GW299.out)) | (show (Addr.add _ _).block ≠ _; rw [add_block]; exact (ne1_ (by have := lc_ _ _ hw294_0; first | rwa [add_block] at this | exact this) GW299.out)) | (dsimp only; exact (ne1_ (by have := lc_ _ _ hw294_0; first | rwa [add_block] at this | exact this) GW299.out))) _).trans (((cell_far (p := ⟨gb6682, _, none⟩) (by first | exact (ne1_ (by have := lc_ _ _ hw294_0; first | rwa [add_block] at this | exact this) GW299.out) | (rw [add_block]; exact (ne1_ (by have := lc_ _ _ hw294_0; first | rwa [add_block] at this | exact this) GW299.out)) | (show (Addr.add _ _).block ≠ _; rw [add_block]; exact (ne1_ (by have := lc_ _ _ hw294_0; first | rwa [add_block] at this | exact this) GW299.out)) | (dsimp only; exact (ne1_ (by have := lc_ _ _ hw294_0; first | rwa [add_block] at this | exact this) GW299.out))) _).trans (((cell_far (p := ⟨gb6682, _, none⟩) (by first | exact (ne1_ (by have := lc_ _ _ hw294_0; first | rwa [add_block] at this | exact this) GW299.out) | (rw [add_block]; exact (ne1_ (by have := lc_ _ _ hw294_0; first | rwa [add_block] at this | exact this) GW299.out)) | (show (Addr.add _ _).block ≠ _; rw [add_block]; exact (ne1_ (by have := lc_ _ _ hw294_0; first | rwa [add_block] at this | exact this) GW299.out)) | (dsimp only; exact (ne1_ (by have := lc_ _ _ hw294_0; first | rwa [add_block] at this | exact this) GW299.out))) _).trans (((cell_far (p := ⟨gb6682, _, none⟩) (by first | exact (ne1_ (by have := lc_ _ _ hw294_0; first | rwa [add_block] at this | exact this) GW299.out) | (rw [add_block]; exact (ne1_ (by have := lc_ _ _ hw294_0; first | rwa [add_block] at this | exact this) GW299.out)) | (show (Addr.add _ _).block ≠ _; rw [add_block]; exact (ne1_ (by have := lc_ _ _ hw294_0; first | rwa [add_block] at this | exact this) GW299.out)) | (dsimp only; exact (ne1_ (by have := lc_ _ _ hw294_0; first | rwa [add_block] at this | exact this) GW299.out))) _).trans (hHeld.2))))))))⟩ (fun hHeld => ?_)
  clear hK K
  refine done_ (done_of HT_.out (by kernel_rfl)) ?_
  have hnb1930292299 := NB299_292.out
  have hnc1930292299 := NB292_299.out
  obtain ⟨_, _, _, _, _, _, _, _⟩ := cells4_ BK299.out
  try go_wp2_with (first | ((with_reducible refine gate_callee (f := 73) rfl ?_); refine goesL_ (some 31) rfl rfl Try.func73 (by kernel_rfl) rfl #[.agg #[.int .i64 a0, .int .i64 (wrap64 (rd l2 0)), .int .i64 (wrap64 (rd l2 1)), .slice Ao1650298 t296.length co1650298], .int .i64 a1] rfl (by (try simp only [lm_, lo_, ln_]); try rfl) ?_; (with_reducible refine (impl_MailBytes.calls k a0 (wrap64 (rd l2 0)) (wrap64 (rd l2 1)) _ _ t296 a1 t300 _ ?side1 ?side2 A12.out).mono ?_); (case side1 => refine (Kd.R_reads' (e := 5) (base := w.heap.size) (ok := fun k_ => True) (n := t296.length) (c := co1650298) ?_).2.2; exact (by (with_reducible repeat (first | apply Kd.R_alloc | apply Kd.R_drewN | apply Kd.R_drew)); exact (Kd.R_mono (Kd.R_far (p := ⟨gb6682, 3, none⟩) (Kd.R_far (p := ⟨gb6682, 2, none⟩) (Kd.R_far (p := ⟨gb6682, 1, none⟩) (Kd.R_far (p := ⟨gb6682, 0, none⟩) (Kd.R_types HO298.out BK299.out (by decide)) (fun _ hk => hk.2) (.int .i64 a0)) (fun _ hk => hk.2) (.int .i64 (wrap64 (rd l2 0)))) (fun _ hk => hk.2) (.int .i64 (wrap64 (rd l2 1)))) (fun _ hk => hk.2) (.slice Ao1650298 t296.length co1650298)) (fun _ h_ => by first | exact h_.1 | simp only [h_, ne_eq, not_false_eq_true, and_self])))); (case side2 => exact (Kd.R_reads' HO298.out).2.1); rintro e w8840 ⟨v8841, rfl, ho5880, hb⟩; refine ⟨_, rfl, ?_⟩; have n0_ := mk_ (Kd.R_elder' (by (with_reducible repeat (first | apply Kd.R_alloc | apply Kd.R_drewN | apply Kd.R_drew)); exact (Kd.R_mono (Kd.R_far (p := ⟨gb6682, 3, none⟩) (Kd.R_far (p := ⟨gb6682, 2, none⟩) (Kd.R_far (p := ⟨gb6682, 1, none⟩) (Kd.R_far (p := ⟨gb6682, 0, none⟩) (Kd.R_types HO298.out BK299.out (by decide)) (fun _ hk => hk.2) (.int .i64 a0)) (fun _ hk => hk.2) (.int .i64 (wrap64 (rd l2 0)))) (fun _ hk => hk.2) (.int .i64 (wrap64 (rd l2 1)))) (fun _ hk => hk.2) (.slice Ao1650298 t296.length co1650298)) (fun _ h_ => by first | exact h_.1 | simp only [h_, ne_eq, not_false_eq_true, and_self]))) (Kd.R_base ho5880) hb); have HO302 := mk_ (Kd.R_lower (Kd.R_new' ho5880 (Kd.R_lt (by (with_reducible repeat (first | apply Kd.R_alloc | apply Kd.R_drewN | apply Kd.R_drew)); exact (Kd.R_mono (Kd.R_far (p := ⟨gb6682, 3, none⟩) (Kd.R_far (p := ⟨gb6682, 2, none⟩) (Kd.R_far (p := ⟨gb6682, 1, none⟩) (Kd.R_far (p := ⟨gb6682, 0, none⟩) (Kd.R_types HO298.out BK299.out (by decide)) (fun _ hk => hk.2) (.int .i64 a0)) (fun _ hk => hk.2) (.int .i64 (wrap64 (rd l2 0)))) (fun _ hk => hk.2) (.int .i64 (wrap64 (rd l2 1)))) (fun _ hk => hk.2) (.slice Ao1650298 t296.length co1650298)) (fun _ h_ => by first | exact h_.1 | simp only [h_, ne_eq, not_false_eq_true, and_self]))))) (below_size (us_ HB.out))); replace BK292 := mk_ (blk_below (g := gb2040) (o := .cells #[.int .i64 0, .int .i64 0, .int .i64 0, .slice none 0 0] 40 (0, 0)) (uf_ BK292.out) hb); replace BK299 := mk_ (blk_below (g := gb6682) (o := .cells #[.int .i64 a0, .int .i64 (wrap64 (rd l2 0)), .int .i64 (wrap64 (rd l2 1)), .slice Ao1650298 t296.length co1650298] 40 (0, 0)) (by (with_reducible repeat (first | refine bn_ ?_ _ | refine bw_ ?_ | refine ba_ ?_ _)); refine blk_put (cs := #[.int .i64 a0, .int .i64 (wrap64 (rd l2 0)), .int .i64 (wrap64 (rd l2 1)), .slice none 0 0]) ?_ 3 _ rfl; (with_reducible repeat (first | refine bn_ ?_ _ | refine bw_ ?_ | refine ba_ ?_ _)); refine blk_put (cs := #[.int .i64 a0, .int .i64 (wrap64 (rd l2 0)), .int .i64 0, .slice none 0 0]) ?_ 2 _ rfl; (with_reducible repeat (first | refine bn_ ?_ _ | refine bw_ ?_ | refine ba_ ?_ _)); refine blk_put (cs := #[.int .i64 a0, .int .i64 0, .int .i64 0, .slice none 0 0]) ?_ 1 _ rfl; (with_reducible repeat (first | refine bn_ ?_ _ | refine bw_ ?_ | refine ba_ ?_ _)); refine blk_put (cs := #[.int .i64 0, .int .i64 0, .int .i64 0, .slice none 0 0]) ?_ 0 _ rfl; (with_reducible repeat (first | refine bn_ ?_ _ | refine bw_ ?_ | refine ba_ ?_ _)); exact BK299.out) hb); replace HB := mk_ (below_step (us_ HB.out) hb); replace HO298 := n0_; clear n0_; obtain ⟨Ao1960302, co1960302, eo1960302⟩ := Kd.R_slice HO302.out; subst eo1960302) | ((with_reducible refine gate_callee (f := 72) rfl ?_); refine goesL_ (some 33) rfl rfl Try.func72 (by kernel_rfl) rfl #[.slice Ao1960302 t300.length co1960302, .slice (some ad2400) l2.length c2] rfl (by (try simp only [lm_, lo_, ln_]); try rfl) ?_; (with_reducible refine (slices_Equal_byte_byte.calls k _ _ t300 _ _ l2 true _ ?side1 ?side2 ?side3 ?side4 A13.out).mono ?_); (case side1 => repeat (first | exact (Kd.R_reads' HO302.out).2.2 | (with_reducible refine Kd.C_alloc ?_ _) | (with_reducible refine Kd.C_drewN ?_ _) | (with_reducible refine Kd.C_drew ?_))); (case side2 => exact (Kd.R_reads' HO302.out).2.1); (case side3 => repeat (first | exact (Kd.C_below HR2.out HB.out) | (with_reducible refine Kd.C_alloc ?_ _) | (with_reducible refine Kd.C_drewN ?_ _) | (with_reducible refine Kd.C_drew ?_))); (case side4 => exact HC2.out); rintro e w' ⟨rfl, ⟨nd, rfl⟩⟩; refine ⟨_, rfl, ?_⟩; (try simp only [World.drewN_drewN]); (try (rw [drewN_self w8840]; generalize hq_ : World.drewN w8840 _ = w8840; have n0_ : Aside0 (Kd.R (Kd.int .u8) 5 w8840 w.heap.size (fun k_ => some k_ ≠ (.slice Ao1960302 t300.length co1960302 : Value).ownBlock) (.slice Ao1650298 t296.length co1650298) t296) := ⟨by rw [← hq_]; exact (by (with_reducible repeat (first | apply Kd.R_alloc | apply Kd.R_drewN | apply Kd.R_drew)); exact Kd.R_mono HO298.out (fun _ hk => hk.2))⟩; have n1_ : Aside0 (Kd.R (Kd.int .u8) 5 w8840 w.heap.size (fun k_ => some k_ ≠ (.slice Ao1650298 t296.length co1650298 : Value).ownBlock) (.slice Ao1960302 t300.length co1960302) t300) := ⟨by rw [← hq_]; exact (by (with_reducible repeat (first | apply Kd.R_alloc | apply Kd.R_drewN | apply Kd.R_drew)); exact Kd.R_mono HO302.out (fun _ hk => hk.2))⟩; have n2_ : Aside0 (w8840.heap[gb2040]? = some (.cells #[.int .i64 0, .int .i64 0, .int .i64 0, .slice none 0 0] 40 (0, 0))) := ⟨by rw [← hq_]; exact (u_ BK292.out)⟩; have n3_ : Aside0 (w8840.heap[gb6682]? = some (.cells #[.int .i64 a0, .int .i64 (wrap64 (rd l2 0)), .int .i64 (wrap64 (rd l2 1)), .slice Ao1650298 t296.length co1650298] 40 (0, 0))) := ⟨by rw [← hq_]; exact (u_ BK299.out)⟩; have n4_ : Aside0 (Below w.heap.size w w8840) := ⟨by rw [← hq_]; exact (us_ HB.out)⟩; clear HO298 HO302 BK292 BK299 HB hq_; have HO298 := n0_; have HO302 := n1_; have BK292 := n2_; have BK299 := n3_; have HB := n4_; clear n0_ n1_ n2_ n3_ n4_)); obtain ⟨_, _, _, _, _, _, _, _⟩ := cells4_ BK299.out; obtain ⟨_, _, _, _, _, _, _, _⟩ := cells4_ BK292.out) | ((with_reducible refine gate_callee (f := 72) rfl ?_); refine goesL_ (some 33) rfl rfl Try.func72 (by kernel_rfl) rfl #[.slice Ao1960302 t300.length co1960302, .slice (some ad2400) l2.length c2] rfl (by (try simp only [lm_, lo_, ln_]); try rfl) ?_; (with_reducible refine (slices_Equal_byte_byte.calls k _ _ t300 _ _ l2 false _ ?side1 ?side2 ?side3 ?side4 A13.out).mono ?_); (case side1 => repeat (first | exact (Kd.R_reads' HO302.out).2.2 | (with_reducible refine Kd.C_alloc ?_ _) | (with_reducible refine Kd.C_drewN ?_ _) | (with_reducible refine Kd.C_drew ?_))); (case side2 => exact (Kd.R_reads' HO302.out).2.1); (case side3 => repeat (first | exact (Kd.C_below HR2.out HB.out) | (with_reducible refine Kd.C_alloc ?_ _) | (with_reducible refine Kd.C_drewN ?_ _) | (with_reducible refine Kd.C_drew ?_))); (case side4 => exact HC2.out); rintro e w' ⟨rfl, ⟨nd, rfl⟩⟩; refine ⟨_, rfl, ?_⟩; (try simp only [World.drewN_drewN]); (try (rw [drewN_self w8840]; generalize hq_ : World.drewN w8840 _ = w8840; have n0_ : Aside0 (Kd.R (Kd.int .u8) 5 w8840 w.heap.size (fun k_ => some k_ ≠ (.slice Ao1960302 t300.length co1960302 : Value).ownBlock) (.slice Ao1650298 t296.length co1650298) t296) := ⟨by rw [← hq_]; exact (by (with_reducible repeat (first | apply Kd.R_alloc | apply Kd.R_drewN | apply Kd.R_drew)); exact Kd.R_mono HO298.out (fun _ hk => hk.2))⟩; have n1_ : Aside0 (Kd.R (Kd.int .u8) 5 w8840 w.heap.size (fun k_ => some k_ ≠ (.slice Ao1650298 t296.length co1650298 : Value).ownBlock) (.slice Ao1960302 t300.length co1960302) t300) := ⟨by rw [← hq_]; exact (by (with_reducible repeat (first | apply Kd.R_alloc | apply Kd.R_drewN | apply Kd.R_drew)); exact Kd.R_mono HO302.out (fun _ hk => hk.2))⟩; have n2_ : Aside0 (w8840.heap[gb2040]? = some (.cells #[.int .i64 0, .int .i64 0, .int .i64 0, .slice none 0 0] 40 (0, 0))) := ⟨by rw [← hq_]; exact (u_ BK292.out)⟩; have n3_ : Aside0 (w8840.heap[gb6682]? = some (.cells #[.int .i64 a0, .int .i64 (wrap64 (rd l2 0)), .int .i64 (wrap64 (rd l2 1)), .slice Ao1650298 t296.length co1650298] 40 (0, 0))) := ⟨by rw [← hq_]; exact (u_ BK299.out)⟩; have n4_ : Aside0 (Below w.heap.size w w8840) := ⟨by rw [← hq_]; exact (us_ HB.out)⟩; clear HO298 HO302 BK292 BK299 HB hq_; have HO298 := n0_; have HO302 := n1_; have BK292 := n2_; have BK299 := n3_; have HB := n4_; clear n0_ n1_ n2_ n3_ n4_)); obtain ⟨_, _, _, _, _, _, _, _⟩ := cells4_ BK292.out))
 ·refine bodyPost_ret (results_ct rfl _ _ gb2040 40 #[.int .i64 a0, .int .i64 (wrap64 (rd l2 0)), .int .i64 (wrap64 (rd l2 1)), .slice Ao1650298 t296.length co1650298] (0, 0) _ rfl (by (with_reducible repeat (first | refine bn_ ?_ _ | refine bw_ ?_ | refine ba_ ?_ _)); refine blk_put (cs := #[.int .i64 a0, .int .i64 (wrap64 (rd l2 0)), .int .i64 (wrap64 (rd l2 1)), .slice none 0 0]) ?_ 3 _ rfl; (with_reducible repeat (first | refine bn_ ?_ _ | refine bw_ ?_ | refine ba_ ?_ _)); refine blk_put (cs := #[.int .i64 a0, .int .i64 (wrap64 (rd l2 0)), .int .i64 0, .slice none 0 0]) ?_ 2 _ rfl; (with_reducible repeat (first | refine bn_ ?_ _ | refine bw_ ?_ | refine ba_ ?_ _)); refine blk_put (cs := #[.int .i64 a0, .int .i64 0, .int .i64 0, .slice none 0 0]) ?_ 1 _ rfl; (with_reducible repeat (first | refine bn_ ?_ _ | refine bw_ ?_ | refine ba_ ?_ _)); refine blk_put (cs := #[.int .i64 0, .int .i64 0, .int .i64 0, .slice none 0 0]) ?_ 0 _ rfl; (with_reducible repeat (first | refine bn_ ?_ _ | refine bw_ ?_ | refine ba_ ?_ _)); exact BK292.out) Try.underlying40 rfl (by kernel_rfl)) rfl ?_
  exact ⟨_, by first | rfl | (simp [errW_none, errW_some] <;> rfl) | (simp [*, errW_none, errW_some] <;> rfl), by (with_reducible repeat (first | apply Kd.R_alloc | apply Kd.R_drewN | apply Kd.R_drew)); exact Kd.R_mono (Kd.R_far (p := ⟨gb2040, 3, none⟩) (Kd.R_far (p := ⟨gb2040, 2, none⟩) (Kd.R_far (p := ⟨gb2040, 1, none⟩) (Kd.R_far (p := ⟨gb2040, 0, none⟩) (Kd.R_types HO298.out BK292.out (by decide)) (fun _ hk => hk.2) (.int .i64 a0)) (fun _ hk => hk.2) (.int .i64 (wrap64 (rd l2 0)))) (fun _ hk => hk.2) (.int .i64 (wrap64 (rd l2 1)))) (fun _ hk => hk.2) (.slice Ao1650298 t296.length co1650298)) (fun _ hk => trivial), us_ HB.out⟩
 ·refine bodyPost_ret (results_ct rfl _ _ gb2040 40 #[.int .i64 0, .int .i64 0, .int .i64 0, .slice none 0 0] (0, 0) _ rfl (by (with_reducible repeat (first | refine bn_ ?_ _ | refine bw_ ?_ | refine ba_ ?_ _)); refine blk_put (cs := #[.int .i64 0, .int .i64 0, .int .i64 0, .slice none 0 0]) ?_ 3 _ rfl; (with_reducible repeat (first | refine bn_ ?_ _ | refine bw_ ?_ | refine ba_ ?_ _)); refine blk_put (cs := #[.int .i64 0, .int .i64 0, .int .i64 0, .slice none 0 0]) ?_ 2 _ rfl; (with_reducible repeat (first | refine bn_ ?_ _ | refine bw_ ?_ | refine ba_ ?_ _)); refine blk_put (cs := #[.int .i64 0, .int .i64 0, .int .i64 0, .slice none 0 0]) ?_ 1 _ rfl; (with_reducible repeat (first | refine bn_ ?_ _ | refine bw_ ?_ | refine ba_ ?_ _)); refine blk_put (cs := #[.int .i64 0, .int .i64 0, .int .i64 0, .slice none 0 0]) ?_ 0 _ rfl; (with_reducible repeat (first | refine bn_ ?_ _ | refine bw_ ?_ | refine ba_ ?_ _)); exact BK292.out) Try.underlying40 rfl (by kernel_rfl)) rfl ?_
  exact ⟨_, by first | rfl | (simp [errW_none, errW_some] <;> rfl) | (simp [*, errW_none, errW_some] <;> rfl), by first | exact Kd.R_nil _ _ _ _ _ | exact Kd.N_nil _ _ _ _ _ | exact Kd.V_nil _ _ _ _ _ | exact Kd.Q_nil _ _ _ _ _ | exact Kd.S_nil _ _ _ _ _, us_ HB.out⟩

end Go.Proofs.Ytkkibccnpkbbjaa.MFnPortsOk
