/- Functions that the law FnExactSegmentBytes reaches, each with the proof that the machine's call comes to just its answer; no conditions but those that each theorem states. Printed by a program of this session over the kit's print. -/
import Derived.Test.YtfcocnhkimbpbabMFnExactSegmentBytesx0
import Derived.Test.YtfcocnhkimbpbabMFnExactSegmentBytesx5
import Derived.Test.YtfcocnhkimbpbabMFnExactSegmentBytesx6
import Derived.Test.YtfcocnhkimbpbabMFnExactSegmentBytesx7
import Derived.RangeFuncNested
import Derived.RangeFuncBound
import Derived.RangeFuncCalls
import Derived.RangeFuncLeaves
import Derived.RangeFuncBox
import Derived.RangeFuncFrom
import Derived.RangeFuncWrites
import Derived.Shelf.Abstract
import Derived.WalkKit
import Derived.OwnWalkIn
import Derived.TacticsInMore
import Derived.LoopNIn
import Derived.LoopIn
import Derived.BigRegionIn
namespace Go.Proofs.Ytfcocnhkimbpbab.MFnExactSegmentBytes
open Go.RowKit Go.Proofs.YtfcocnhkimbpbabV.PrintWords Go.Proofs.YtfcocnhkimbpbabV.PrintLast Go.Proofs.YtfcocnhkimbpbabV.PrintMore
attribute [local go_sem] max2_int min2_int max_two min_two max_three min_three max_four min_four   -- for this text's walks alone
set_option linter.unusedVariables false
set_option linter.unusedSimpArgs false

-- slices_Chunk_byte_byte_1: see the function that ranges over it

-- slices_Chunk_byte_byte: see the function that ranges over it

/-! ### impl_added: function 97 -/
def impl_added.l0 : Nat → Int → List Int → Int → Int → Option (Int)
 | 0, _, _, _, _ => none
 | k + 1, x3, x6, x7, x8 => if x8 < x7 then (if 0 ≤ x8 then (if x8 < (x6.length : Int) then (if (wrap64 (x3 + (rd x6 x8))) > 65535 then (impl_added.l0 k (wrap64 ((wrap64 (x3 + (rd x6 x8))) - 65535)) x6 x7 (wrap64 (x8 + 1))) else (impl_added.l0 k (wrap64 (x3 + (rd x6 x8))) x6 x7 (wrap64 (x8 + 1)))) else (none)) else (none)) else (some x3)
def impl_added.f (k : Nat) (l0 : List Int) : Option (Int) := impl_added.l0 k 0 l0 (l0.length : Int) 0
theorem impl_added.mono_l : ∀ k, (∀ y0 y1 y2 y3, LeO (impl_added.l0 k y0 y1 y2 y3) (impl_added.l0 (k + 1) y0 y1 y2 y3))
 | 0 => fun _ _ _ _ r h => by simp [impl_added.l0] at h
 | k + 1 => by
  have ih0 := impl_added.mono_l k
  ·intro y0 y1 y2 y3
   unfold impl_added.l0
   repeat' first
   | (with_reducible exact ih0 _ _ _ _)
   | (with_reducible exact LeO.refl _)
   | (with_reducible exact LeO.none _)
   | (with_reducible refine LeO.ite ?_ ?_)
   | (with_reducible refine LeO.bind ?_ (fun _ => ?_))
   | exact ih0 _ _ _ _
   | exact LeO.none _
   | refine LeO.ite ?_ ?_
   | refine LeO.bind ?_ (fun _ => ?_)
theorem impl_added.mono : ∀ a0 k, LeO (impl_added.f k a0) (impl_added.f (k + 1) a0) := by
 intro a0 k
 have ih0 := impl_added.mono_l k
 unfold impl_added.f
 repeat' first
   | (with_reducible exact ih0 _ _ _ _)
   | (with_reducible exact LeO.refl _)
   | (with_reducible exact LeO.none _)
   | (with_reducible refine LeO.ite ?_ ?_)
   | (with_reducible refine LeO.bind ?_ (fun _ => ?_))
   | exact ih0 _ _ _ _
   | exact LeO.none _
   | refine LeO.ite ?_ ?_
   | refine LeO.bind ?_ (fun _ => ?_)
set_option maxHeartbeats 8000000 in
set_option maxRecDepth 100000 in
theorem impl_added.calls (k : Nat) (A0 : Option Addr) (c0 : Nat) (l0 : List Int) (r : Int) (w : World) (hr0 : Kd.C (Kd.int .i64) w A0 l0.length l0) (hc0 : l0.length ≤ c0) (h : impl_added.f k l0 = some r) :
  Calls Try.prog 97 #[.slice A0 l0.length c0] w fun e w' => e = .returned (.int .i64 r) ∧ Drawn0 w w' := by
 have HR0 := mk_ hr0
 have HC0 := mk_ hc0
 clear hr0 hc0
 have H : (impl_added.l0 k 0 l0 (l0.length : Int) 0) = some r := h
 clear h
 have H' := mk_ H
 clear H
 go_enter Try.func97, Try.ntmps97
 go_wp2
 go_loopg [3, 8] k (fun kq v3 v8 w' => ∃ (x3_1 : Int) (x8_1 : Int), v3 = .int .i64 x3_1 ∧ v8 = .int .i64 x8_1 ∧ Aside0 (impl_added.l0 kq x3_1 l0 (l0.length : Int) x8_1 = some r) ∧ Aside0 (kq ≤ k) ∧ Drawn0 w w')
 case atStart => exact ⟨(0), (0), (by first | rfl | (simp; done) | (simp [*]; done)), (by first | rfl | (simp; done) | (simp [*]; done)), H', ⟨Nat.le_refl _⟩, by repeat (first | exact Drawn0.refl _ | apply Drawn0.step)⟩
 case round =>
  clear H'
  obtain ⟨x3_1, x8_1, rfl, rfl, HA, HK1, ⟨m1, rfl⟩⟩ := hrel
  cases gk with
  | zero => exact absurd HA.out (by simp [impl_added.l0])
  | succ k1 =>
   have H := HA.out
   clear HA
   simp only [impl_added.l0] at H
   by_cases c2 : x8_1 < (l0.length : Int)
   rotate_left
   ·rw [if_neg c2] at H
    have c2b0 : decide (x8_1 < (l0.length : Int)) = false := decide_eq_false c2
    clear c2
    obtain rfl := Option.some.inj H
    go_wp2
    go_ret
    exact ⟨by first | rfl | (simp; done) | (simp [*]; done), by repeat (first | exact Drawn0.refl _ | apply Drawn0.step)⟩
   rw [if_pos c2] at H
   have c2b0 : decide (x8_1 < (l0.length : Int)) = true := decide_eq_true c2
   clear c2
   by_cases c3 : 0 ≤ x8_1
   rotate_left
   ·rw [if_neg c3] at H
    exact absurd H (by simp)
   rw [if_pos c3] at H
   have c3b0 : decide (0 ≤ x8_1) = true := decide_eq_true c3
   clear c3
   by_cases c4 : x8_1 < (l0.length : Int)
   rotate_left
   ·rw [if_neg c4] at H
    exact absurd H (by simp)
   rw [if_pos c4] at H
   have c4b0 : decide (x8_1 < (l0.length : Int)) = true := decide_eq_true c4
   clear c4
   by_cases c5 : (wrap64 (x3_1 + (rd l0 x8_1))) > 65535
   ·rw [if_pos c5] at H
    have c5b0 : decide (65535 < (wrap64 (x3_1 + (rd l0 x8_1)))) = true := decide_eq_true c5
    clear c5
    have H' := mk_ H
    clear H
    have p284 : 0 ≤ (x8_1 : Int) := of_decide_eq_true (by first | (with_reducible assumption) | assumption)
    have q284 : x8_1 < (l0.length : Int) := of_decide_eq_true (by first | (with_reducible assumption) | assumption)
    obtain ⟨ad284, e284, hx284_0⟩ := Kd.at_int HR0.out x8_1 p284 q284
    cases e284
    replace p284 := eq_true p284
    replace q284 := eq_true q284
    go_wp2
    go_roundg k1
    case measure => have := HK1.out; omega
    case rel => exact ⟨(wrap64 ((wrap64 (x3_1 + (rd l0 x8_1))) - 65535)), (wrap64 (x8_1 + 1)), (by first | rfl | (simp; done) | (simp [*]; done)), (by first | rfl | (simp; done) | (simp [*]; done)), H', ⟨by have := HK1.out; omega⟩, by repeat (first | exact Drawn0.refl _ | apply Drawn0.step)⟩
   rw [if_neg c5] at H
   have c5b0 : decide (65535 < (wrap64 (x3_1 + (rd l0 x8_1)))) = false := decide_eq_false c5
   clear c5
   have H' := mk_ H
   clear H
   have p284 : 0 ≤ (x8_1 : Int) := of_decide_eq_true (by first | (with_reducible assumption) | assumption)
   have q284 : x8_1 < (l0.length : Int) := of_decide_eq_true (by first | (with_reducible assumption) | assumption)
   obtain ⟨ad284, e284, hx284_0⟩ := Kd.at_int HR0.out x8_1 p284 q284
   cases e284
   replace p284 := eq_true p284
   replace q284 := eq_true q284
   go_wp2
   go_roundg k1
   case measure => have := HK1.out; omega
   case rel => exact ⟨(wrap64 (x3_1 + (rd l0 x8_1))), (wrap64 (x8_1 + 1)), (by first | rfl | (simp; done) | (simp [*]; done)), (by first | rfl | (simp; done) | (simp [*]; done)), H', ⟨by have := HK1.out; omega⟩, by repeat (first | exact Drawn0.refl _ | apply Drawn0.step)⟩

/-! ### impl_sumOf: function 64 -/
namespace SumOf_
open Go.Shelf
attribute [local go_sem] Oper.semAt_some
/-- The places of a row. -/
abbrev so_Pl (L : Nat) := { i : Nat // i < L }
/-- The cut of at most two from a place on. -/
def so_cutAt (ad : Addr) (L : Nat) (x : so_Pl L) : Value := .slice (some (ad.add x.1)) (min 2 (L - x.1)) (min 2 (L - x.1))
/-- The first k even places. -/
def so_evens (L : Nat) (h : 0 < L) (k : Nat) : List (so_Pl L) := (List.range k).map fun j => if h2 : 2 * j < L then ⟨2 * j, h2⟩ else ⟨0, h⟩
theorem so_evens_succ (L : Nat) (h : 0 < L) (k : Nat) (hk : 2 * k < L) : so_evens L h (k + 1) = so_evens L h k ++ [⟨2 * k, hk⟩] := by simp [so_evens, List.range_succ, hk]
theorem so_evens_length (L : Nat) (h : 0 < L) (k : Nat) : (so_evens L h k).length = k := by simp [so_evens]
/-- What a round keeps: the iterator's two cells, and whatever lay below. -/
def so_Kq (Bs Bn n₀ : Nat) (A B : World) : Prop := (∀ v, A.cell? ⟨Bs, 0, none⟩ = some v → B.cell? ⟨Bs, 0, none⟩ = some v) ∧ (∀ v, A.cell? ⟨Bn, 0, none⟩ = some v → B.cell? ⟨Bn, 0, none⟩ = some v) ∧ Below n₀ A B

theorem so_cut_l (ad : Addr) (L c0 k : Nat) (hk : k < L) (hc : L ≤ c0) (W' : World) : (Instr.slice 22 (.slice (some ad) L c0) (some (.int .i64 (k : Nat))) none none).run Try.prog W' = .ok (.slice (some (ad.add k)) (L - k) (c0 - k)) W' := by
  obtain ⟨i0, hi, _, hsz, _⟩ := info_parts info5
  have ht := Try.underlying22
  have hel : Try.prog.elem 22 = 5 := by simp [Program.elem, ht]
  have hu : Try.prog.underlying 22 = some (.slice (Try.prog.elem 22)) := by rw [hel]; exact ht
  rw [run_slice_l W' 22 (some ad) L c0 hu .i64 (k : Int) (by omega) (by omega), hel]
  have h1 : ¬ c0 = k := by omega
  simp [sizeOf, typeInfo, hi, hsz, sliced, Result.andThen, h1]
theorem so_cut_lhm (ad : Addr) (L c0 k m : Nat) (hk : k < L) (hm : 0 < m) (hc : k + m ≤ L) (hcc : L ≤ c0) (W' : World) : (Instr.slice 22 (.slice (some ad) L c0) (some (.int .i64 (k : Nat))) (some (.int .i64 ((k + m : Nat) : Int))) (some (.int .i64 ((k + m : Nat) : Int)))).run Try.prog W' = .ok (.slice (some (ad.add k)) m m) W' := by
  obtain ⟨i0, hi, _, hsz, _⟩ := info_parts info5
  have ht := Try.underlying22
  have hel : Try.prog.elem 22 = 5 := by simp [Program.elem, ht]
  have hu : Try.prog.underlying 22 = some (.slice (Try.prog.elem 22)) := by rw [hel]; exact ht
  rw [run_slice_lhm W' 22 (some ad) L c0 hu .i64 .i64 .i64 (k : Int) ((k + m : Nat) : Int) ((k + m : Nat) : Int) (by omega) (by omega) (by omega) (by omega), hel]
  have h1 : ¬ k + m = k := by omega
  simp only [sizeOf, typeInfo, sliced]
  simp [hi, hsz, Result.andThen]
  omega
set_option maxRecDepth 100000 in
set_option maxHeartbeats 4000000 in
theorem so_chunk1_in (F : Fence) (n : Nat) (hF : F.fn 109) (hro : F.round = none) (hn : 1 ≤ n) (l Bs Bn n₀ : Nat) (ad : Addr) (L c0 : Nat) (hL : 0 < L) (hreach : L ≤ 140737488355328) (hcap : L ≤ c0) (J Jx : List (so_Pl L) → World → Prop) (hJd : ∀ s W, J s W → J s W.drew)
    (hY : ∀ pre x W, J pre W → pre.length < L → YieldAt F (n - 1) Try.prog l #[so_cutAt ad L x] W fun e W' =>
      (e = .returned (.bool true) ∧ J (pre ++ [x]) W' ∧ so_Kq Bs Bn n₀ W W') ∨ (e = .returned (.bool false) ∧ Jx (pre ++ [x]) W'))
    (W : World) (hBs : W.cell? ⟨Bs, 0, none⟩ = some (.slice (some ad) L c0)) (hBn : W.cell? ⟨Bn, 0, none⟩ = some (.int .i64 2)) (h0 : J [] W) :
    CallsIn F n Try.prog 109 #[.func (.yield l) #[] #[], .pointer (some ⟨Bs, 0, none⟩), .pointer (some ⟨Bn, 0, none⟩)] W fun e W' => (∃ v, e = .returned v) ∧
      ((∃ ys, ys = so_evens L hL ((L + 1) / 2) ∧ J ys W') ∨ (∃ pre, True ∧ Jx pre W')) := by
  refine callsIn_of_wp Try.func109 rfl hF ?_ hro
  simp only [Try.ntmps109, List.size_toArray, List.length_cons, List.length_nil, Nat.reduceAdd, Nat.reduceSub, Array.replicate_succ, Array.replicate_zero, List.push_toArray, List.append_toArray, List.nil_append, List.cons_append]
  gi_wp2
  gi_loopw [4] (fun i wr => ∃ k : Nat, 2 * k ≤ L + 1 ∧ i = .int .i64 (2 * k : Nat) ∧ J (so_evens L hL k) wr ∧ so_Kq Bs Bn n₀ W wr)
    (fun i _ => L + 1 - (intOf i).toNat)
  case atStart => exact ⟨0, Nat.zero_le _, rfl, h0, fun v h => h, fun v h => h, Below.refl _ _⟩
  case round =>
    obtain ⟨k, hk, rfl, hJs, hk1, hk2, hk3⟩ := hrel
    have c1 := hk1 _ hBs
    have c2 := hk2 _ hBn
    by_cases hlt : 2 * k < L
    · obtain ⟨fn, tmps, assign, body, hy, hR⟩ := hY _ ⟨2 * k, hlt⟩ wr hJs (by rw [so_evens_length]; omega)
      have hs1 := so_cut_l ad L c0 (2 * k) hlt hcap
      obtain ⟨m, hm⟩ : ∃ m, m = min 2 (L - 2 * k) := ⟨_, rfl⟩
      have hmi : (if ((L - 2 * k : Nat) : Int) < 2 then ((L - 2 * k : Nat) : Int) else 2) = (m : Int) := by split <;> omega
      have hs2 := so_cut_lhm ad L c0 (2 * k) m hlt (by omega) (by omega) hcap
      have hsum : IntKind.i64.wrap (((2 * k : Nat) : Int) + (m : Int)) = ((2 * k + m : Nat) : Int) := by rw [i64_w]; unfold wrap64; omega
      have hsum2 : wrap64 (((2 * k : Nat) : Int) + (m : Int)) = ((2 * k + m : Nat) : Int) := by unfold wrap64; omega
      have hnext : wrap64 (((2 * k : Nat) : Int) + 2) = ((2 * (k + 1) : Nat) : Int) := by unfold wrap64; omega
      obtain ⟨fn, tmps, assign, body, hy, hR⟩ := hY _ ⟨2 * k, hlt⟩ wr.drew (hJd _ _ hJs) (by rw [so_evens_length]; omega)
      simp only [so_cutAt] at hy
      have c1' : wr.drew.cell? ⟨Bs, 0, none⟩ = some (.slice (some ad) L c0) := c1
      have c2' : wr.drew.cell? ⟨Bn, 0, none⟩ = some (.int .i64 2) := c2
      generalize hkk : 2 * k = kk at *
      gi_wp2
      gi_region
      all_goals (simp only [← hm])
      all_goals gi_wp2
      all_goals
        refine hR.mono ?_
        rintro e W3 (⟨rfl, hJ3, hk4, hk5, hk6⟩ | ⟨rfl, hJx3⟩)
        · have d1 := hk4 _ c1'
          have d2 := hk5 _ c2'
          gi_wp2
          subst hkk
          go_roundw
          case rel => exact ⟨k + 1, by omega, by first | rfl | (simp; omega) | (go_num), by rw [so_evens_succ L hL k hlt]; exact hJ3, fun v h => by rw [hBs] at h; rw [← h]; exact d1, fun v h => by rw [hBn] at h; rw [← h]; exact d2, (hk3.drew).trans hk6⟩
          case measure => simp [intOf]; omega
        · gi_wp2
          refine bodyPost_ret (results_none rfl _ _ _) rfl ?_
          exact ⟨⟨_, rfl⟩, .inr ⟨_, trivial, hJx3⟩⟩
    · obtain rfl : k = (L + 1) / 2 := by omega
      gi_wp2
      go_end0
      exact ⟨⟨_, rfl⟩, .inl ⟨_, rfl, hJs⟩⟩
set_option maxRecDepth 100000 in
set_option maxHeartbeats 2000000 in
theorem so_chunk0_in (F : Fence) (n : Nat) (hF : F.fn 109) (hro : F.round = none) (l Bs Bn : Nat) (A0 : Option Addr) (c0 : Nat) {α : Type} (J : List α → World → Prop)
    (W : World) (hBs : W.cell? ⟨Bs, 0, none⟩ = some (.slice A0 0 c0)) (hBn : W.cell? ⟨Bn, 0, none⟩ = some (.int .i64 2)) (h0 : J [] W) :
    CallsIn F n Try.prog 109 #[.func (.yield l) #[] #[], .pointer (some ⟨Bs, 0, none⟩), .pointer (some ⟨Bn, 0, none⟩)] W fun e W' => (∃ v, e = .returned v) ∧ J [] W' := by
  refine callsIn_of_wp Try.func109 rfl hF ?_ hro
  simp only [Try.ntmps109, List.size_toArray, List.length_cons, List.length_nil, Nat.reduceAdd, Nat.reduceSub, Array.replicate_succ, Array.replicate_zero, List.push_toArray, List.append_toArray, List.nil_append, List.cons_append]
  gi_wp2
  gi_loopw [4] (fun i wr => i = .int .i64 0 ∧ J [] wr ∧ wr = W) (fun _ _ => 0)
  case atStart => exact ⟨rfl, h0, rfl⟩
  case round =>
    obtain ⟨rfl, hJs, rfl⟩ := hrel
    gi_wp2
    go_end0
    exact ⟨⟨_, rfl⟩, hJs⟩
set_option maxHeartbeats 1000000 in
theorem so_chunk_in (F : Fence) (n : Nat) (hF : F.fn 96) (hro : F.round = none) (A0 : Option Addr) (L c0 : Nat) (w : World) :
    CallsIn F n Try.prog 96 #[.slice A0 L c0, .int .i64 2] w fun e w' => e = .returned (.func (.func 109) #[] #[.pointer (some ⟨w.heap.size, 0, none⟩), .pointer (some ⟨w.heap.size + 1, 0, none⟩)]) ∧ w' = (w.alloc (.cells #[.slice A0 L c0] 22)).alloc (.cells #[.int .i64 2] 3) := by
  have hmf : ∀ (fn : Fn) (first cap : Array Value) (w : World), (Instr.makeFunc fn first cap).run Try.prog w = .ok (.func fn first cap) w := fun _ _ _ _ => rfl
  have hc : ((w.alloc (.cells #[.slice A0 L c0] 22)).alloc (.cells #[.int .i64 2] 3)).cell? ⟨w.heap.size + 1, 0, none⟩ = some (.int .i64 2) := by
    have := (Boxed.new (w.alloc (.cells #[.slice A0 L c0] 22)) 3 (.int .i64 2)).cell
    rwa [World.size_alloc] at this
  refine callsIn_of_wp Try.func96 rfl hF ?_ hro
  simp only [Try.ntmps96, List.size_toArray, List.length_cons, List.length_nil, Nat.reduceAdd, Nat.reduceSub, Array.replicate_succ, Array.replicate_zero, List.push_toArray, List.append_toArray, List.nil_append, List.cons_append]
  gi_wp2
  go_ret
  exact ⟨rfl, rfl⟩
theorem so_Kq_t {Bs Bn n₀ : Nat} {A B C : World} (h : so_Kq Bs Bn n₀ A B) (k : so_Kq Bs Bn n₀ B C) : so_Kq Bs Bn n₀ A C := ⟨fun v x => k.1 v (h.1 v x), fun v x => k.2.1 v (h.2.1 v x), h.2.2.trans k.2.2⟩
theorem so_Kq_b {Bs Bn n₀ B : Nat} (hB : n₀ ≤ B) (W : World) (l : Nat) (o o' : Obj) (hl : B ≤ l) (h1 : W.heap[l]? = some o) (h2 : o.isCells = false) (h3 : o.isWalk = false) : so_Kq Bs Bn n₀ W (W.putObj l o') :=
  ⟨fun v h => cell_kept h (grownBy_putObj' W l o') (fun r e => by cases e; exact ⟨o, h1, h2⟩), fun v h => cell_kept h (grownBy_putObj' W l o') (fun r e => by cases e; exact ⟨o, h1, h2⟩), by
    have := belowK_b (w := W) (n₀ := n₀)
    exact ⟨rfl, rfl, rfl, by simp, fun i hi => World.putObj_heap_other (by omega)⟩⟩
theorem so_chunk_stops (F : Fence) (n : Nat) (hF : F.fn 109) (hro : F.round = none) (hn : 1 ≤ n) (Bs Bn n₀ : Nat) (ad : Addr) (L c0 : Nat) (hL : 0 < L) (hreach : L ≤ 140737488355328) (hcap : L ≤ c0) (w : World) (hs : Bs < w.heap.size) (hs' : Bn < w.heap.size)
    (h1 : w.cell? ⟨Bs, 0, none⟩ = some (.slice (some ad) L c0)) (h2 : w.cell? ⟨Bn, 0, none⟩ = some (.int .i64 2)) :
    SeqStopsK F n Try.prog 109 #[.pointer (some ⟨Bs, 0, none⟩), .pointer (some ⟨Bn, 0, none⟩)] (fun x : so_Pl L => #[so_cutAt ad L x]) (so_Kq Bs Bn n₀) (fun ys => ys = so_evens L hL ((L + 1) / 2)) (fun _ => True) L w := fun l J Jx W hW hJ _ hY h0 =>
  so_chunk1_in F n hF hro hn l Bs Bn n₀ ad L c0 hL hreach hcap J Jx (fun s A hA => hJ s A A.drew none hA ⟨rfl, rfl, rfl, Nat.le_refl _, fun _ _ _ => rfl⟩ (fun r e => by cases e)) hY W ((hW.cell (p := ⟨Bs, 0, none⟩) hs).trans h1) ((hW.cell (p := ⟨Bn, 0, none⟩) hs').trans h2) h0
/-- Two bytes, or the last so_one, put side by side. -/
def so_nAt (l : List Int) (i : Nat) : Int := if i + 1 < l.length then Go.bits .or .i64 (wrap64 (wrap64 (rd l (i : Int)) * 256)) (wrap64 (rd l ((i + 1 : Nat) : Int))) else wrap64 (wrap64 (rd l (i : Int)) * 256)
def so_one (a b : Int) : Int := if wrap64 (a + b) > 65535 then wrap64 (wrap64 (a + b) - 65535) else wrap64 (a + b)
def so_addW (s n : Int) : Int := so_one (so_one 0 s) n
theorem so_added2 (k : Nat) (s n : Int) : impl_added.f (k + 3) [s, n] = some (so_addW s n) := by
  have w1 : wrap64 (0 + 1) = 1 := by unfold wrap64; omega
  have w2 : wrap64 (1 + 1) = 2 := by unfold wrap64; omega
  have r0 : rd [s, n] 0 = s := rfl
  have r1 : rd [s, n] 1 = n := rfl
  simp only [impl_added.f]
  rw [impl_added.l0]
  simp only [List.length_cons, List.length_nil, r0, w1]
  rw [if_pos (by decide), if_pos (by decide), if_pos (by decide)]
  have step : ∀ a : Int, impl_added.l0 (k + 2) a [s, n] (((0 + 1 + 1 : Nat) : Int)) 1 = some (so_one a n) := by
    intro a
    rw [impl_added.l0]
    simp only [List.length_cons, List.length_nil, r1, w2]
    rw [if_pos (by decide), if_pos (by decide), if_pos (by decide)]
    unfold so_one
    split
    · rw [impl_added.l0, if_neg (by decide)]
    · rw [impl_added.l0, if_neg (by decide)]
  unfold so_addW
  rw [step, step]
  split
  · rename_i h; rw [show so_one 0 s = wrap64 (wrap64 (0 + s) - 65535) by unfold so_one; rw [if_pos h]]
  · rename_i h; rw [show so_one 0 s = wrap64 (0 + s) by unfold so_one; rw [if_neg h]]
def so_sumW (l : List Int) (pre : List (so_Pl l.length)) : Int := pre.foldl (fun s x => so_addW s (so_nAt l x.1)) 0
theorem so_sumW_snoc (l : List Int) (pre : List (so_Pl l.length)) (x : so_Pl l.length) : so_sumW l (pre ++ [x]) = so_addW (so_sumW l pre) (so_nAt l x.1) := by simp [so_sumW]
theorem so_addedAt (W : World) (s n : Int) : Calls Try.prog 97 #[.slice (some ⟨W.heap.size, 0, none⟩) 2 2] (W.alloc (.cells #[.int .i64 s, .int .i64 n] 3)) fun e w' => e = .returned (.int .i64 (so_addW s n)) ∧ Drawn0 (W.alloc (.cells #[.int .i64 s, .int .i64 n] 3)) w' := by
  have hb := blk_new W (.cells #[.int .i64 s, .int .i64 n] 3 (0, 0))
  have hC : Kd.C (Kd.int .i64) (W.alloc (.cells #[.int .i64 s, .int .i64 n] 3)) (some ⟨W.heap.size, 0, none⟩) [s, n].length [s, n] := by
    refine Kd.C_of_reads (d := (0 : Int)) (h1 := fun _ => rfl) ⟨rfl, by simp, fun _ => ⟨_, rfl, fun j hj => ?_⟩⟩
    have h0 := blk_cell hb 0
    have h1 := blk_cell hb 1
    have hj : j = 0 ∨ j = 1 := by simp at hj; omega
    rcases hj with rfl | rfl
    · exact h0
    · exact h1
  exact impl_added.calls 3 (some ⟨W.heap.size, 0, none⟩) 2 [s, n] _ _ hC (by simp) (so_added2 0 s n)
theorem so_cell_ad {W : World} {p : Addr} {v : Value} (o : Obj) (nd : Nat) (h : W.cell? p = some v) : ((W.alloc o).drewN nd).cell? p = some v :=
  show (W.alloc o).cell? p = some v from cell_kept h (World.grownBy_alloc W o none) (fun r e => by cases e)
theorem so_frozen_ad {W : World} {p : Addr} {v : Value} (o : Obj) (nd : Nat) (h : W.cell? p = some v) (hf : W.frozen? p = false) : ((W.alloc o).drewN nd).frozen? p = false :=
  show (W.alloc o).frozen? p = false from (frozen_kept h (World.grownBy_alloc W o none) (fun r e => by cases e)).trans hf
theorem so_pw_below_drewN2 {B : Nat} {w W : World} (h : Below B w W) (n : Nat) : Below B w (W.drewN n) := pw_below_drewN h n
theorem so_roundEnd {w W : World} {u v : Value} (B : Nat) (o : Obj) (nd : Nat) (hu : v.oneCell' = true) (hu' : u.oneCell' = true) (hc : W.cell? ⟨w.heap.size, 0, none⟩ = some u) (hf : W.frozen? ⟨w.heap.size, 0, none⟩ = false) (hB : Below w.heap.size w W) :
    KeepsFrom B W (((W.alloc o).drewN nd).setCell ⟨w.heap.size, 0, none⟩ v) ∧ so_Kq (w.heap.size + 1) (w.heap.size + 1 + 1) w.heap.size W (((W.alloc o).drewN nd).setCell ⟨w.heap.size, 0, none⟩ v) ∧
      ((((W.alloc o).drewN nd).setCell ⟨w.heap.size, 0, none⟩ v).cell? ⟨w.heap.size, 0, none⟩ = some v ∧ (((W.alloc o).drewN nd).setCell ⟨w.heap.size, 0, none⟩ v).frozen? ⟨w.heap.size, 0, none⟩ = false) ∧ Below w.heap.size w (((W.alloc o).drewN nd).setCell ⟨w.heap.size, 0, none⟩ v) := by
  have c2 := so_cell_ad o nd hc
  have f2 := so_frozen_ad o nd hc hf
  have b1 : Below w.heap.size W (((W.alloc o).drewN nd).setCell ⟨w.heap.size, 0, none⟩ v) := (so_pw_below_drewN2 ((Below.refl w.heap.size W).alloc hB.size o) nd).setCell (p := ⟨w.heap.size, 0, none⟩) (Nat.le_refl _) _
  have k0 : KeepsOthers (W.alloc o) ((W.alloc o).drewN nd) := ⟨Nat.le_refl _, fun _ _ h _ => h⟩
  refine ⟨(((KeepsOthers.alloc W o).trans k0).trans (KeepsOthers.setCell _ _ _)).from _, ⟨fun x hx => ?_, fun x hx => ?_, b1⟩, ⟨World.cell?_setCell_same' _ _ _ (by rw [c2]; rfl), by rw [World.frozen?_setCell]; exact f2⟩, hB.trans b1⟩
  · rw [cell_far (by simp)]
    exact so_cell_ad o nd hx
  · rw [cell_far (by simp; omega)]
    exact so_cell_ad o nd hx
set_option maxRecDepth 100000 in
set_option maxHeartbeats 4000000 in
theorem so_sumOf_in (ad : Addr) (c0 : Nat) (l0 : List Int) (w : World) (hr0 : Kd.C (Kd.int .u8) w (some ad) l0.length l0) (hc0 : l0.length ≤ c0) (hL : 0 < l0.length) (hlim : l0.length < 140737488355328) :
    CallsIn Fence.wide 5 Try.prog 64 #[.slice (some ad) l0.length c0] w fun e W' => e = .returned (.int .i64 (wrap64 (65535 - so_sumW l0 (so_evens l0.length hL ((l0.length + 1) / 2))))) ∧ Below w.heap.size w W' := by
  refine callsIn_of_wp_marks Try.func64 rfl trivial ?_ rfl
  simp only [Try.ntmps64, List.size_toArray, List.length_cons, List.length_nil, Nat.reduceAdd, Nat.reduceSub, Array.replicate_succ, Array.replicate_zero, List.push_toArray, List.append_toArray, List.nil_append, List.cons_append]
  gi_wp2_with (refine ⟨trivial, ?_⟩; gi_at_call 96; refine (so_chunk_in Fence.wide 4 trivial rfl _ _ _ _).mono ?_; rintro e w' ⟨rfl, rfl⟩)
  have bS := Boxed.new w 3 (.int .i64 0)
  have bs := Boxed.new (w.alloc (.cells #[.int .i64 0] 3)) 22 (.slice (some ad) l0.length c0)
  have bn := Boxed.new ((w.alloc (.cells #[.int .i64 0] 3)).alloc (.cells #[.slice (some ad) l0.length c0] 22)) 3 (.int .i64 2)
  rw [World.size_alloc] at bs
  rw [World.size_alloc, World.size_alloc] at bn
  have hB0 : Below w.heap.size w (((w.alloc (.cells #[.int .i64 0] 3)).alloc (.cells #[.slice (some ad) l0.length c0] 22)).alloc (.cells #[.int .i64 2] 3)) := (((Below.refl _ w).alloc (Nat.le_refl _) _).alloc (by simp) _).alloc (by simp; omega) _
  refine wpIn_rangeFunc_ownG rfl (by decide : 1 ≤ 5) (gf := 109) (lb := #[.pointer (some ⟨w.heap.size + 1, 0, none⟩), .pointer (some ⟨w.heap.size + 1 + 1, 0, none⟩)]) rfl trivial (enters_of Try.func109 (by kernel_rfl) rfl)
    (so_chunk_stops Fence.wide 4 trivial rfl (by omega) (w.heap.size + 1) (w.heap.size + 1 + 1) w.heap.size ad l0.length c0 hL (by omega) hc0 _ (by simp) (by simp) (bs.alloc _).cell bn.cell) so_Kq_t (so_Kq_b hB0.size) (Below.refl _ _) (fun _ => rfl)
    (fun pre W => (W.cell? ⟨w.heap.size, 0, none⟩ = some (.int .i64 (so_sumW l0 pre)) ∧ W.frozen? ⟨w.heap.size, 0, none⟩ = false) ∧ Below w.heap.size w W)
    (fun _ _ _ => False)
    (OwnFrom.and (Own.from (fun s A B row hs hg hr => ⟨cell_kept hs.1 hg hr, (frozen_kept hs.1 hg hr).trans hs.2⟩) _) (ownFrom_below (Nat.le_refl _) (by simp; omega)))
    (fun _ _ _ _ _ hs _ _ => hs)
    ⟨⟨((bS.alloc _).alloc _).cell, ((bS.alloc _).alloc _).frozen⟩, hB0⟩
    (fun x => { tmps := #[.slice (some ad) l0.length c0, undef, .int .i64 0, .pointer (some ⟨w.heap.size, 0, none⟩), so_cutAt ad l0.length x, undef, .slice (some ad) l0.length c0, .func (.func 109) #[] #[.pointer (some ⟨w.heap.size + 1, 0, none⟩), .pointer (some ⟨w.heap.size + 1 + 1, 0, none⟩)], so_cutAt ad l0.length x, undef, undef, undef, undef, undef, undef, undef, undef, undef, undef, undef, undef, undef, undef, undef, undef, undef, undef, undef, undef], defers := [] }) ?assign ?body ?done ?stop
  case assign =>
    intro l x W K hK
    gi_wp2
    exact hK
  case body =>
    rintro lr pre x W ⟨⟨hc, hf⟩, hB⟩ _
    have HRW := Kd.C_below hr0 hB
    have hx := x.2
    obtain ⟨ad', e', h00⟩ := Kd.at_int HRW (x.1 : Int) (by omega) (by omega)
    cases e'
    rw [Int.toNat_natCast] at h00
    by_cases h2 : x.1 + 1 < l0.length
    · have hm : min 2 (l0.length - x.1) = 2 := by omega
      obtain ⟨ad2, e2, h01⟩ := Kd.at_int HRW ((x.1 + 1 : Nat) : Int) (by omega) (by omega)
      cases e2
      rw [Int.toNat_natCast] at h01
      have h01' : W.cell? { block := (ad.add x.1).block, off := (ad.add x.1).off + 1 } = some (.int .u8 (rd l0 ((x.1 + 1 : Nat) : Int))) := by
        have e1 : ({ block := (ad.add x.1).block, off := (ad.add x.1).off + 1 } : Addr) = ad.add (x.1 + 1) := by
          unfold Addr.add
          by_cases h0 : x.1 = 0
          · simp [h0]
          · simp [h0]; omega
        rw [e1]; exact h01
      simp only [so_cutAt, hm]
      gi_wp2_with (refine ⟨trivial, ?_⟩; gi_at_call 97; refine (CallsIn.inRound lr (callsIn_wide.2 (so_addedAt W _ _))).mono ?_; rintro e w' ⟨rfl, ⟨nd, rfl⟩⟩; have hc2 := so_cell_ad (.cells #[.int .i64 (so_sumW l0 pre), .int .i64 (Go.bits .or .i64 (wrap64 (wrap64 (rd l0 (x.1 : Int)) * 256)) (wrap64 (rd l0 ((x.1 : Int) + 1))))] 3) nd hc; have hf2 := so_frozen_ad (.cells #[.int .i64 (so_sumW l0 pre), .int .i64 (Go.bits .or .i64 (wrap64 (wrap64 (rd l0 (x.1 : Int)) * 256)) (wrap64 (rd l0 ((x.1 : Int) + 1))))] 3) nd hc hf)
      obtain ⟨e1, e2, e3, e4⟩ := so_roundEnd (w := w) (W := W) (v := .int .i64 (so_addW (so_sumW l0 pre) (so_nAt l0 x.1))) _ (.cells #[.int .i64 (so_sumW l0 pre), .int .i64 (Go.bits .or .i64 (wrap64 (wrap64 (rd l0 (x.1 : Int)) * 256)) (wrap64 (rd l0 ((x.1 : Int) + 1))))] 3) nd rfl rfl hc hf hB
      have hn : so_nAt l0 x.1 = Go.bits .or .i64 (wrap64 (wrap64 (rd l0 (x.1 : Int)) * 256)) (wrap64 (rd l0 ((x.1 : Int) + 1))) := by unfold so_nAt; rw [if_pos h2]; rfl
      rw [hn] at e1 e2 e3 e4
      exact ⟨e1, e2, ⟨⟨by rw [so_sumW_snoc, hn]; exact e3.1, e3.2⟩, e4⟩⟩
    · have hm : min 2 (l0.length - x.1) = 1 := by omega
      simp only [so_cutAt, hm]
      gi_wp2_with (refine ⟨trivial, ?_⟩; gi_at_call 97; refine (CallsIn.inRound lr (callsIn_wide.2 (so_addedAt W _ _))).mono ?_; rintro e w' ⟨rfl, ⟨nd, rfl⟩⟩; have hc2 := so_cell_ad (.cells #[.int .i64 (so_sumW l0 pre), .int .i64 (wrap64 (wrap64 (rd l0 (x.1 : Int)) * 256))] 3) nd hc; have hf2 := so_frozen_ad (.cells #[.int .i64 (so_sumW l0 pre), .int .i64 (wrap64 (wrap64 (rd l0 (x.1 : Int)) * 256))] 3) nd hc hf)
      obtain ⟨e1, e2, e3, e4⟩ := so_roundEnd (w := w) (W := W) (v := .int .i64 (so_addW (so_sumW l0 pre) (so_nAt l0 x.1))) _ (.cells #[.int .i64 (so_sumW l0 pre), .int .i64 (wrap64 (wrap64 (rd l0 (x.1 : Int)) * 256))] 3) nd rfl rfl hc hf hB
      have hn : so_nAt l0 x.1 = wrap64 (wrap64 (rd l0 (x.1 : Int)) * 256) := by unfold so_nAt; rw [if_neg h2]
      rw [hn] at e1 e2 e3 e4
      exact ⟨e1, e2, ⟨⟨by rw [so_sumW_snoc, hn]; exact e3.1, e3.2⟩, e4⟩⟩
  case done =>
    rintro D ys W hD rfl ⟨⟨hc, _⟩, hB⟩ hK
    gi_wp2
    refine ⟨by simp, .inl ⟨_, _, rfl, run_takeDeferred hK, ?_⟩⟩
    exact ⟨_, results_tmp rfl _ _ _, rfl, hB.trans (belowK_b (w := w) (Nat.le_refl _) W D _ _ (by simp at hD; omega) hK rfl rfl)⟩
  case stop =>
    rintro D c pre W _ _ h _
    exact h.elim
set_option maxRecDepth 100000 in
set_option maxHeartbeats 4000000 in
theorem so_sumOf0_in (A0 : Option Addr) (c0 : Nat) (w : World) :
    CallsIn Fence.wide 5 Try.prog 64 #[.slice A0 0 c0] w fun e W' => e = .returned (.int .i64 65535) ∧ Below w.heap.size w W' := by
  refine callsIn_of_wp_marks Try.func64 rfl trivial ?_ rfl
  simp only [Try.ntmps64, List.size_toArray, List.length_cons, List.length_nil, Nat.reduceAdd, Nat.reduceSub, Array.replicate_succ, Array.replicate_zero, List.push_toArray, List.append_toArray, List.nil_append, List.cons_append]
  gi_wp2_with (refine ⟨trivial, ?_⟩; gi_at_call 96; refine (so_chunk_in Fence.wide 4 trivial rfl _ _ _ _).mono ?_; rintro e w' ⟨rfl, rfl⟩)
  have bS := Boxed.new w 3 (.int .i64 0)
  have bs := Boxed.new (w.alloc (.cells #[.int .i64 0] 3)) 22 (.slice A0 0 c0)
  have bn := Boxed.new ((w.alloc (.cells #[.int .i64 0] 3)).alloc (.cells #[.slice A0 0 c0] 22)) 3 (.int .i64 2)
  rw [World.size_alloc] at bs
  rw [World.size_alloc, World.size_alloc] at bn
  have hB0 : Below w.heap.size w (((w.alloc (.cells #[.int .i64 0] 3)).alloc (.cells #[.slice A0 0 c0] 22)).alloc (.cells #[.int .i64 2] 3)) := (((Below.refl _ w).alloc (Nat.le_refl _) _).alloc (by simp) _).alloc (by simp; omega) _
  have hS : SeqStopsK Fence.wide 4 Try.prog 109 #[.pointer (some ⟨w.heap.size + 1, 0, none⟩), .pointer (some ⟨w.heap.size + 1 + 1, 0, none⟩)] (fun x : so_Pl 0 => #[so_cutAt ⟨0, 0, none⟩ 0 x]) (so_Kq (w.heap.size + 1) (w.heap.size + 1 + 1) w.heap.size) (fun ys => ys = []) (fun _ => True) 0 (((w.alloc (.cells #[.int .i64 0] 3)).alloc (.cells #[.slice A0 0 c0] 22)).alloc (.cells #[.int .i64 2] 3)) :=
    fun l J Jx W hW hJ _ hY h0 => (so_chunk0_in Fence.wide 4 trivial rfl l (w.heap.size + 1) (w.heap.size + 1 + 1) A0 c0 J W ((hW.cell (p := ⟨w.heap.size + 1, 0, none⟩) (by simp)).trans (bs.alloc _).cell) ((hW.cell (p := ⟨w.heap.size + 1 + 1, 0, none⟩) (by simp)).trans bn.cell) h0).mono (fun e W' ⟨he, hj⟩ => ⟨he, .inl ⟨[], rfl, hj⟩⟩)
  refine wpIn_rangeFunc_ownG rfl (by decide : 1 ≤ 5) (gf := 109) (lb := #[.pointer (some ⟨w.heap.size + 1, 0, none⟩), .pointer (some ⟨w.heap.size + 1 + 1, 0, none⟩)]) rfl trivial (enters_of Try.func109 (by kernel_rfl) rfl)
    hS so_Kq_t (so_Kq_b hB0.size) (Below.refl _ _) (fun _ => rfl)
    (fun pre W => (W.cell? ⟨w.heap.size, 0, none⟩ = some (.int .i64 0) ∧ W.frozen? ⟨w.heap.size, 0, none⟩ = false) ∧ Below w.heap.size w W)
    (fun _ _ _ => False)
    (OwnFrom.and (Own.from (fun s A B row hs hg hr => ⟨cell_kept hs.1 hg hr, (frozen_kept hs.1 hg hr).trans hs.2⟩) _) (ownFrom_below (Nat.le_refl _) (by simp; omega)))
    (fun _ _ _ _ _ hs _ _ => hs)
    ⟨⟨((bS.alloc _).alloc _).cell, ((bS.alloc _).alloc _).frozen⟩, hB0⟩
    (fun x => { tmps := #[], defers := [] }) ?assign ?body ?done ?stop
  case assign =>
    intro l x W K hK
    exact absurd x.2 (Nat.not_lt_zero _)
  case body =>
    rintro lr pre x W _ _
    exact absurd x.2 (Nat.not_lt_zero _)
  case done =>
    rintro D ys W hD rfl ⟨⟨hc, _⟩, hB⟩ hK
    gi_wp2
    refine ⟨by simp, .inl ⟨_, _, rfl, run_takeDeferred hK, ?_⟩⟩
    exact ⟨_, results_tmp rfl _ _ _, rfl, hB.trans (belowK_b (w := w) (Nat.le_refl _) W D _ _ (by simp at hD; omega) hK rfl rfl)⟩
  case stop =>
    rintro D c pre W _ _ h _
    exact h.elim
/-- The sum of a row's bytes, two by two. -/
def so_sumAll (l : List Int) : Int := if h : 0 < l.length then so_sumW l (so_evens l.length h ((l.length + 1) / 2)) else 0
end SumOf_
open SumOf_ in
def impl_sumOf.f (l0 : List Int) : Option Int := if l0.length < 140737488355328 then some (wrap64 (65535 - so_sumAll l0)) else none
open SumOf_ in
theorem impl_sumOf.calls (A0 : Option Addr) (c0 : Nat) (l0 : List Int) (r : Int) (w : World) (hr0 : Kd.C (Kd.int .u8) w A0 l0.length l0) (hc0 : l0.length ≤ c0) (h : impl_sumOf.f l0 = some r) :
    Calls Try.prog 64 #[.slice A0 l0.length c0] w fun e w' => e = .returned (.int .i64 r) ∧ Below w.heap.size w w' := by
  unfold impl_sumOf.f at h
  by_cases hlim : l0.length < 140737488355328
  · rw [if_pos hlim] at h
    obtain rfl := Option.some.inj h
    unfold so_sumAll
    by_cases hL : 0 < l0.length
    · rw [dif_pos hL]
      obtain ⟨ad, rfl, _⟩ := Kd.at_int hr0 0 (by omega) (by omega)
      exact (callsIn_wide (n := 5)).1 (so_sumOf_in ad c0 l0 w hr0 hc0 hL hlim)
    · rw [dif_neg hL, show wrap64 (65535 - 0) = 65535 by unfold wrap64; omega]
      obtain rfl : l0 = [] := List.eq_nil_of_length_eq_zero (by omega)
      exact (callsIn_wide (n := 5)).1 (so_sumOf0_in A0 c0 w)
  · rw [if_neg hlim] at h; cases h

/-! ### impl_between: function 65 -/
def impl_between.f (k : Nat) (a0 : Int) (a1 : Int) : Option (List Int) := (impl_bytesOf.f k a0 2).bind fun t285 => ((impl_bytesOf.f k a1 2).bind fun t288 => ((slices_Concat_byte_byte.f (([t285, t288] : List (List Int)))).bind fun t294 => (some t294)))
theorem impl_between.mono : ∀ a0 a1 k, LeO (impl_between.f k a0 a1) (impl_between.f (k + 1) a0 a1) := by
 intro a0 a1 k
 unfold impl_between.f
 repeat' first
   | (with_reducible exact impl_bytesOf.mono _ _ _)
   | (with_reducible exact LeO.refl _)
   | (with_reducible exact LeO.none _)
   | (with_reducible refine LeO.ite ?_ ?_)
   | (with_reducible refine LeO.bind ?_ (fun _ => ?_))
   | exact impl_bytesOf.mono _ _ _
   | exact LeO.none _
   | refine LeO.ite ?_ ?_
   | refine LeO.bind ?_ (fun _ => ?_)
set_option maxHeartbeats 8000000 in
set_option maxRecDepth 100000 in
theorem impl_between.calls (k : Nat) (a0 : Int) (a1 : Int) (r : List Int) (w : World) (h : impl_between.f k a0 a1 = some r) :
  Calls Try.prog 65 #[.int .i64 a0, .int .i64 a1] w fun e w' => ∃ v0_ : Value, e = .returned (v0_) ∧ Kd.R (Kd.int .u8) 5 w' w.heap.size (fun _ => True) v0_ r ∧ Below w.heap.size w w' := by
 have HB := mk_ (Below.refl w.heap.size w)
 have H : ((impl_bytesOf.f k a0 2).bind fun t285 => ((impl_bytesOf.f k a1 2).bind fun t288 => ((slices_Concat_byte_byte.f (([t285, t288] : List (List Int)))).bind fun t294 => (some t294)))) = some r := h
 clear h
 replace H := Option.bind_eq_some_iff.mp H
 obtain ⟨t285, A30, H⟩ := H
 replace H : ((impl_bytesOf.f k a1 2).bind fun t288 => ((slices_Concat_byte_byte.f (([t285, t288] : List (List Int)))).bind fun t294 => (some t294))) = some r := H
 have A3 := mk_ A30
 clear A30
 replace H := Option.bind_eq_some_iff.mp H
 obtain ⟨t288, A40, H⟩ := H
 replace H : ((slices_Concat_byte_byte.f (([t285, t288] : List (List Int)))).bind fun t294 => (some t294)) = some r := H
 have A4 := mk_ A40
 clear A40
 obtain ⟨y291, hy291⟩ : ∃ y_ : List (List Int), y_ = (([t285, t288] : List (List Int))) := ⟨_, rfl⟩
 replace H : ((slices_Concat_byte_byte.f y291).bind fun t294 => (some t294)) = some r := by first | (rw [hy291]; with_reducible exact H) | (have H2_ := (Option.bind_some _ _).symm.trans H; rw [hy291]; with_reducible exact H2_) | (have H2_ := (Option.bind_some _ _).symm.trans H; with_reducible exact H2_) | with_reducible exact H | (rw [hy291]; exact H) | exact H
 have Ny291 := mk_ hy291
 clear hy291
 replace H := Option.bind_eq_some_iff.mp H
 obtain ⟨t294, A50, H⟩ := H
 replace H : (some t294) = some r := H
 have A5 := mk_ A50
 clear A50
 obtain rfl := Option.some.inj H
 go_enter Try.func65, Try.ntmps65
 go_wp2_with (first | ((with_reducible refine gate_callee (f := 63) rfl ?_); have hA_ := A3.out; refine goesL_ (some 6) rfl rfl Try.func63 (by kernel_rfl) rfl #[.int .i64 a0, .int .i64 2] rfl (by (try simp only [lm_, lo_, ln_]); first | done | rfl | (simp only [List.length_drop, List.length_take]; rfl)) ?_; (with_reducible refine (impl_bytesOf.calls k a0 2 t285 _ A3.out).mono ?_); rintro e w6 ⟨v286, rfl, ho0, hb⟩; refine ⟨_, rfl, ?_⟩; have n0_ := mk_ (Kd.R_lower ho0 (below_size (ub_ HB.out))); have n1_ := mk_ (below_step (ub_ HB.out) hb); clear HB; have HO287 := n0_; have HB := n1_; clear n0_ n1_; (try clear hb); (try clear hb2); (try clear hk); (try clear hi); (try clear ho0); clear hA_ A3) | ((with_reducible refine gate_callee (f := 63) rfl ?_); have hA_ := A4.out; refine goesL_ (some 8) rfl rfl Try.func63 (by kernel_rfl) rfl #[.int .i64 a1, .int .i64 2] rfl (by (try simp only [lm_, lo_, ln_]); first | done | rfl | (simp only [List.length_drop, List.length_take]; rfl)) ?_; (with_reducible refine (impl_bytesOf.calls k a1 2 t288 _ A4.out).mono ?_); rintro e w7 ⟨v289, rfl, ho0, hb⟩; refine ⟨_, rfl, ?_⟩; have n0_ := mk_ (Kd.R_elder' (Kd.ur_ HO287.out) (Kd.R_base ho0) hb); have n1_ := mk_ (Kd.R_lower (Kd.R_new' ho0 (Kd.R_lt (Kd.ur_ HO287.out))) (below_size (ub_ HB.out))); have n2_ := mk_ (below_step (ub_ HB.out) hb); clear HO287; clear HB; have HO287 := n0_; have HO290 := n1_; have HB := n2_; clear n0_ n1_ n2_; (try clear hb); (try clear hb2); (try clear hk); (try clear hi); (try clear ho0); obtain ⟨Ao8, co8, eo8⟩ := Kd.R_slice HO287.out; subst eo8; obtain ⟨Ao9, co9, eo9⟩ := Kd.R_slice HO290.out; subst eo9; clear hA_ A4) | ((with_reducible refine gate_dst (N := 9) rfl ?_); refine Kd.N_lit (Kd.slice 5 (Kd.int .u8)) _ 22 ?hg (N' := 9) ?hd (xs := ([t285, t288] : List (List Int))) (inner := [.slice Ao8 t285.length co8, .slice Ao9 t288.length co9]) (ok := (fun _ => True)) (okp := (fun _ => True)) ?hr ?hp (fun _ hk => hk) ((show ∀ k_, w7.heap.size ≤ k_ → (fun _ => True) k_ from fun k_ hk => trivial) _ (Nat.le_refl _)) (Below.refl _ _) (Nat.le_refl _) (by simp) ?_; (case hd => rfl); (case hg => rfl); (case hr => first | (go_simp; done) | (go_simp; rfl)); (case hp => exact (Reps.one (show Kd.FK (Kd.slice 5 (Kd.int .u8)) _ _ t285 [.slice Ao8 t285.length co8] from (Kd.FK_slice_mk (Kd.R_reads' (Kd.R_mono (ok' := (fun _ => True)) (HO287.out) (fun k_ hk => trivial))).2.1 (Kd.R_F (Kd.R_mono (ok' := (fun _ => True)) (HO287.out) (fun k_ hk => trivial))))) (Reps.one (show Kd.FK (Kd.slice 5 (Kd.int .u8)) _ _ t288 [.slice Ao9 t288.length co9] from (Kd.FK_slice_mk (Kd.R_reads' (Kd.R_mono (ok' := (fun _ => True)) (HO290.out) (fun k_ hk => trivial))).2.1 (Kd.R_F (Kd.R_mono (ok' := (fun _ => True)) (HO290.out) (fun k_ hk => trivial))))) (Reps.none _ _)))); intro v292 w10 ho11 hb hg_ hnew_; clear hg_ hnew_; (first | rw [← Ny291.out] at ho11 | (simp only [Int.reduceToNat] at ho11; rw [← Ny291.out] at ho11)); have n0_ := mk_ (Kd.N_lower ho11 (below_size (ub_ HB.out))); have n1_ := mk_ (below_step (ub_ HB.out) hb); clear HB; clear HO287; clear HO290; have HO293 := n0_; have HB := n1_; clear n0_ n1_; clear hb ho11; obtain ⟨Ao12, co12, eo12⟩ := Kd.N_slice HO293.out; subst eo12) | ((with_reducible refine gate_callee (f := 62) rfl ?_); refine goesL_ (some 10) rfl rfl Try.func62 (by kernel_rfl) rfl #[.slice Ao12 y291.length co12] rfl (by (try simp only [lm_, lo_, ln_]); first | done | rfl | (simp only [List.length_drop, List.length_take]; rfl)) ?_; (with_reducible refine (slices_Concat_byte_byte.calls _ _ y291 t294 _ ?side1 ?side2 A5.out).mono ?_); (case side1 => repeat (first | exact (Kd.N_reads' HO293.out).2.2 | (with_reducible refine Kd.C_alloc ?_ _) | (with_reducible refine Kd.C_drewN ?_ _) | (with_reducible refine Kd.C_drew ?_))); (case side2 => exact (Kd.N_reads' HO293.out).2.1); rintro e w13 ⟨v295, rfl, ho0, hb⟩; refine ⟨_, rfl, ?_⟩; have n0_ := mk_ (Kd.N_elder' (by (with_reducible repeat (first | apply Kd.N_alloc | apply Kd.N_drewN | apply Kd.N_drew)); exact HO293.out) (Kd.R_base ho0) hb); have n1_ := mk_ (Kd.R_lower ho0 (below_size (ub_ HB.out))); have n2_ := mk_ (below_step (ub_ HB.out) hb); clear HO293; clear HB; have HO293 := n0_; have HO296 := n1_; have HB := n2_; clear n0_ n1_ n2_; (try clear hb); (try clear hb2); (try clear hk); (try clear hi); (try clear ho0)))
 go_ret
 exact ⟨_, by first | rfl | (simp [errW_none, errW_some] <;> rfl) | (simp [*, errW_none, errW_some] <;> rfl), by (with_reducible repeat (first | apply Kd.R_alloc | apply Kd.R_drewN | apply Kd.R_drew)); exact HO296.out, by repeat (first | (with_reducible first | exact HB.out | apply na_ | apply nn_ | apply nw_) | exact HB.out)⟩

/-! ### impl_SegmentBytes: function 26 -/
def impl_SegmentBytes.j0 : Nat → Int → Int → Bool → Int → Int → Int → Int → Int → Bool → Bool → Bool → Bool → List (S42) → List Int → Option (List Int)
 | 0, _, _, _, _, _, _, _, _, _, _, _, _, _, _ => none
 | k + 1, x1, x2, x20, x298000, x298001, x298002, x298003, x298004, x298005, x298006, x298007, x298008, x298009, x298010 => if x20 = true then (some ([] : List Int)) else ((impl_Segment_body.f k x298000 x298001 x298002 x298003 x298004 x298005 x298006 x298007 x298008 x298009 x298010).bind fun t301 => ((impl_between.f k x1 x2).bind fun t304 => ((slices_Concat_byte_byte.f (([t304, t301] : List (List Int)))).bind fun t310 => ((impl_sumOf.f t310).bind fun t313 => ((impl_bytesOf.f k t313 2).bind fun t314 => ((slices_Concat_byte_byte.f (([t301, t314] : List (List Int)))).bind fun t320 => (some t320)))))))
def impl_SegmentBytes.f (k : Nat) (a0_0 : Int) (a0_1 : Int) (a0_2 : Int) (a0_3 : Int) (a0_4 : Int) (a0_5 : Bool) (a0_6 : Bool) (a0_7 : Bool) (a0_8 : Bool) (l0_9 : List (S42)) (l0_10 : List Int) (a1 : Int) (a2 : Int) : Option (List Int) := (impl_SegmentOk.f k a0_0 a0_1 a0_2 a0_3 a0_4 a0_5 a0_6 a0_7 a0_8 l0_9 l0_10).bind fun t298 => (if t298 = true then ((impl_word.f a1).bind fun t299 => (if t299 = true then ((impl_word.f a2).bind fun t300 => (impl_SegmentBytes.j0 k a1 a2 (!t300) a0_0 a0_1 a0_2 a0_3 a0_4 a0_5 a0_6 a0_7 a0_8 l0_9 l0_10)) else (impl_SegmentBytes.j0 k a1 a2 true a0_0 a0_1 a0_2 a0_3 a0_4 a0_5 a0_6 a0_7 a0_8 l0_9 l0_10))) else (impl_SegmentBytes.j0 k a1 a2 true a0_0 a0_1 a0_2 a0_3 a0_4 a0_5 a0_6 a0_7 a0_8 l0_9 l0_10))
theorem impl_SegmentBytes.mono_l : ∀ k, (∀ y0 y1 y2 y3 y4 y5 y6 y7 y8 y9 y10 y11 y12 y13, LeO (impl_SegmentBytes.j0 k y0 y1 y2 y3 y4 y5 y6 y7 y8 y9 y10 y11 y12 y13) (impl_SegmentBytes.j0 (k + 1) y0 y1 y2 y3 y4 y5 y6 y7 y8 y9 y10 y11 y12 y13))
 | 0 => fun _ _ _ _ _ _ _ _ _ _ _ _ _ _ r h => by simp [impl_SegmentBytes.j0] at h
 | k + 1 => by
  have ih0 := impl_SegmentBytes.mono_l k
  ·intro y0 y1 y2 y3 y4 y5 y6 y7 y8 y9 y10 y11 y12 y13
   unfold impl_SegmentBytes.j0
   repeat' first
   | (with_reducible exact ih0 _ _ _ _ _ _ _ _ _ _ _ _ _ _)
   | (with_reducible exact impl_SegmentOk.mono _ _ _ _ _ _ _ _ _ _ _ _)
   | (with_reducible exact impl_Segment_body.mono _ _ _ _ _ _ _ _ _ _ _ _)
   | (with_reducible exact impl_between.mono _ _ _)
   | (with_reducible exact impl_bytesOf.mono _ _ _)
   | (with_reducible exact LeO.refl _)
   | (with_reducible exact LeO.none _)
   | (with_reducible refine LeO.ite ?_ ?_)
   | (with_reducible refine LeO.bind ?_ (fun _ => ?_))
   | exact ih0 _ _ _ _ _ _ _ _ _ _ _ _ _ _
   | exact impl_SegmentOk.mono _ _ _ _ _ _ _ _ _ _ _ _
   | exact impl_Segment_body.mono _ _ _ _ _ _ _ _ _ _ _ _
   | exact impl_between.mono _ _ _
   | exact impl_bytesOf.mono _ _ _
   | exact LeO.none _
   | refine LeO.ite ?_ ?_
   | refine LeO.bind ?_ (fun _ => ?_)
theorem impl_SegmentBytes.mono : ∀ a0 a1 a2 a3 a4 a5 a6 a7 a8 a9 a10 a11 a12 k, LeO (impl_SegmentBytes.f k a0 a1 a2 a3 a4 a5 a6 a7 a8 a9 a10 a11 a12) (impl_SegmentBytes.f (k + 1) a0 a1 a2 a3 a4 a5 a6 a7 a8 a9 a10 a11 a12) := by
 intro a0 a1 a2 a3 a4 a5 a6 a7 a8 a9 a10 a11 a12 k
 have ih0 := impl_SegmentBytes.mono_l k
 unfold impl_SegmentBytes.f
 repeat' first
   | (with_reducible exact ih0 _ _ _ _ _ _ _ _ _ _ _ _ _ _)
   | (with_reducible exact impl_SegmentOk.mono _ _ _ _ _ _ _ _ _ _ _ _)
   | (with_reducible exact impl_Segment_body.mono _ _ _ _ _ _ _ _ _ _ _ _)
   | (with_reducible exact impl_between.mono _ _ _)
   | (with_reducible exact impl_bytesOf.mono _ _ _)
   | (with_reducible exact LeO.refl _)
   | (with_reducible exact LeO.none _)
   | (with_reducible refine LeO.ite ?_ ?_)
   | (with_reducible refine LeO.bind ?_ (fun _ => ?_))
   | exact ih0 _ _ _ _ _ _ _ _ _ _ _ _ _ _
   | exact impl_SegmentOk.mono _ _ _ _ _ _ _ _ _ _ _ _
   | exact impl_Segment_body.mono _ _ _ _ _ _ _ _ _ _ _ _
   | exact impl_between.mono _ _ _
   | exact impl_bytesOf.mono _ _ _
   | exact LeO.none _
   | refine LeO.ite ?_ ?_
   | refine LeO.bind ?_ (fun _ => ?_)
set_option maxHeartbeats 8000000 in
set_option maxRecDepth 100000 in
theorem impl_SegmentBytes.calls (k : Nat) (a0_0 : Int) (a0_1 : Int) (a0_2 : Int) (a0_3 : Int) (a0_4 : Int) (a0_5 : Bool) (a0_6 : Bool) (a0_7 : Bool) (a0_8 : Bool) (A0_9 : Option Addr) (c0_9 : Nat) (l0_9 : List (S42)) (A0_10 : Option Addr) (c0_10 : Nat) (l0_10 : List Int) (a1 : Int) (a2 : Int) (r : List Int) (w : World) (hr0_9 : Kd.C k42 w A0_9 l0_9.length l0_9) (hc0_9 : l0_9.length ≤ c0_9) (hr0_10 : Kd.C (Kd.int .u8) w A0_10 l0_10.length l0_10) (hc0_10 : l0_10.length ≤ c0_10) (h : impl_SegmentBytes.f k a0_0 a0_1 a0_2 a0_3 a0_4 a0_5 a0_6 a0_7 a0_8 l0_9 l0_10 a1 a2 = some r) :
  Calls Try.prog 26 #[.agg #[.int .i64 a0_0, .int .i64 a0_1, .int .i64 a0_2, .int .i64 a0_3, .int .i64 a0_4, .bool a0_5, .bool a0_6, .bool a0_7, .bool a0_8, .slice A0_9 l0_9.length c0_9, .slice A0_10 l0_10.length c0_10], .int .i64 a1, .int .i64 a2] w fun e w' => ∃ v0_ : Value, e = .returned (v0_) ∧ Kd.R (Kd.int .u8) 5 w' w.heap.size (fun _ => True) v0_ r ∧ Below w.heap.size w w' := by
 have hu31 := Try.underlying31
 have HR0_9 := mk_ hr0_9
 have HC0_9 := mk_ hc0_9
 clear hr0_9 hc0_9
 have HR0_10 := mk_ hr0_10
 have HC0_10 := mk_ hc0_10
 clear hr0_10 hc0_10
 have HB := mk_ (Below.refl w.heap.size w)
 have H : ((impl_SegmentOk.f k a0_0 a0_1 a0_2 a0_3 a0_4 a0_5 a0_6 a0_7 a0_8 l0_9 l0_10).bind fun t298 => (if t298 = true then ((impl_word.f a1).bind fun t299 => (if t299 = true then ((impl_word.f a2).bind fun t300 => (impl_SegmentBytes.j0 k a1 a2 (!t300) a0_0 a0_1 a0_2 a0_3 a0_4 a0_5 a0_6 a0_7 a0_8 l0_9 l0_10)) else (impl_SegmentBytes.j0 k a1 a2 true a0_0 a0_1 a0_2 a0_3 a0_4 a0_5 a0_6 a0_7 a0_8 l0_9 l0_10))) else (impl_SegmentBytes.j0 k a1 a2 true a0_0 a0_1 a0_2 a0_3 a0_4 a0_5 a0_6 a0_7 a0_8 l0_9 l0_10))) = some r := h
 clear h
 have HC4 := mk_ H
 clear H
 go_enter Try.func26, Try.ntmps26
 go_upto_region 1 with (first | ((with_reducible refine gate_dst (N := 3) rfl ?_); refine box_event ?hg (N := 3) ?hd (cs := #[.int .i64 a0_0, .int .i64 a0_1, .int .i64 a0_2, .int .i64 a0_3, .int .i64 a0_4, .bool a0_5, .bool a0_6, .bool a0_7, .bool a0_8, .slice A0_9 l0_9.length c0_9, .slice A0_10 l0_10.length c0_10]) (t := 31) ?hr ?_; (case hd => rfl); (case hg => rfl); (case hr => first | (go_simp; done) | (go_simp; rfl)); intro gb297 hg w5 hbox hb; have n0_ := mk_ (below_step (ub_ HB.out) hb); have n1_ := mk_ (hbox); have n2_ := mk_ ((by rw [hg]; exact (below_size (ub_ HB.out)) : w.heap.size ≤ gb297)); have n3_ := mk_ ((by rw [hg]; exact (below_size (ub_ HB.out)) : w.heap.size ≤ gb297)); clear HB; have HB := n0_; have BK297 := n1_; have GW297 := n2_; have GE297 := ge_ n3_.out; clear n0_ n1_ n2_ n3_; clear hb hbox hg))
 (try simp only [Act.put, la_, lz_, ls_])
 go_cut [20] (fun v20 wc => ∃ (kq : Nat) (x20_3 : Bool), v20 = .bool x20_3 ∧ Aside0 (impl_SegmentBytes.j0 kq a1 a2 x20_3 a0_0 a0_1 a0_2 a0_3 a0_4 a0_5 a0_6 a0_7 a0_8 l0_9 l0_10 = some r) ∧ Aside0 (kq ≤ k) ∧ Aside0 (wc.heap[gb297]? = some (.cells #[.int .i64 a0_0, .int .i64 a0_1, .int .i64 a0_2, .int .i64 a0_3, .int .i64 a0_4, .bool a0_5, .bool a0_6, .bool a0_7, .bool a0_8, (.slice A0_9 l0_9.length c0_9), (.slice A0_10 l0_10.length c0_10)] 31 (0, 0))) ∧ Aside0 (Below w.heap.size w wc))
 case first =>
  have H := HC4.out
  clear HC4
  replace H := Option.bind_eq_some_iff.mp H
  obtain ⟨t298, A60, H⟩ := H
  replace H : (if t298 = true then ((impl_word.f a1).bind fun t299 => (if t299 = true then ((impl_word.f a2).bind fun t300 => (impl_SegmentBytes.j0 k a1 a2 (!t300) a0_0 a0_1 a0_2 a0_3 a0_4 a0_5 a0_6 a0_7 a0_8 l0_9 l0_10)) else (impl_SegmentBytes.j0 k a1 a2 true a0_0 a0_1 a0_2 a0_3 a0_4 a0_5 a0_6 a0_7 a0_8 l0_9 l0_10))) else (impl_SegmentBytes.j0 k a1 a2 true a0_0 a0_1 a0_2 a0_3 a0_4 a0_5 a0_6 a0_7 a0_8 l0_9 l0_10)) = some r := H
  have A6 := mk_ A60
  clear A60
  by_cases c7 : t298 = true
  rotate_left
  ·replace c7 := Bool.eq_false_iff.mpr c7
   subst c7
   have H1 : (impl_SegmentBytes.j0 k a1 a2 true a0_0 a0_1 a0_2 a0_3 a0_4 a0_5 a0_6 a0_7 a0_8 l0_9 l0_10) = some r := by rw [if_neg (show ¬ (false = true) by decide)] at H; exact H
   clear H
   have H := H1
   clear H1
   have H' := mk_ H
   clear H
   obtain ⟨hcz15_0, hcz15_1, hcz15_2, hcz15_3, hcz15_4, hcz15_5, hcz15_6, hcz15_7, hcz15_8, hcz15_9, hcz15_10, hfz15_0, hfz15_1, hfz15_2, hfz15_3, hfz15_4, hfz15_5, hfz15_6, hfz15_7, hfz15_8, hfz15_9, hfz15_10⟩ := cells11_ BK297.out
   go_wp2_with (first | ((with_reducible refine gate_callee (f := 59) rfl ?_); refine goesL_ (some 9) rfl rfl Try.func59 (by kernel_rfl) rfl #[.agg #[.int .i64 a0_0, .int .i64 a0_1, .int .i64 a0_2, .int .i64 a0_3, .int .i64 a0_4, .bool a0_5, .bool a0_6, .bool a0_7, .bool a0_8, .slice A0_9 l0_9.length c0_9, .slice A0_10 l0_10.length c0_10]] rfl (by (try simp only [lm_, lo_, ln_]); first | done | rfl | (simp only [List.length_drop, List.length_take]; rfl)) ?_; (with_reducible refine (impl_SegmentOk.calls k a0_0 a0_1 a0_2 a0_3 a0_4 a0_5 a0_6 a0_7 a0_8 _ _ l0_9 _ _ l0_10 false _ ?side1 ?side2 ?side3 ?side4 A6.out).mono ?_); (case side1 => repeat (first | exact (Kd.C_below HR0_9.out HB.out) | (with_reducible refine Kd.C_alloc ?_ _) | (with_reducible refine Kd.C_drewN ?_ _) | (with_reducible refine Kd.C_drew ?_))); (case side2 => exact HC0_9.out); (case side3 => repeat (first | exact (Kd.C_below HR0_10.out HB.out) | (with_reducible refine Kd.C_alloc ?_ _) | (with_reducible refine Kd.C_drewN ?_ _) | (with_reducible refine Kd.C_drew ?_))); (case side4 => exact HC0_10.out); rintro e w16 ⟨rfl, hb⟩; refine ⟨_, rfl, ?_⟩; have n0_ := mk_ (blk_below (u_ BK297.out) hb); have n1_ := mk_ (below_step (us_ HB.out) hb); clear BK297; clear HB; have BK297 := n0_; have HB := n1_; clear n0_ n1_; (try clear hb); (try clear hb2); (try clear hk); (try clear hi)))
   go_meet
   case rel => exact ⟨_, (true), (by first | rfl | (simp; done) | (simp [*]; done)), H', ⟨by first | omega | exact Nat.le_refl _⟩, ⟨u_ BK297.out⟩, ⟨us_ HB.out⟩⟩
  subst c7
  have H1 : ((impl_word.f a1).bind fun t299 => (if t299 = true then ((impl_word.f a2).bind fun t300 => (impl_SegmentBytes.j0 k a1 a2 (!t300) a0_0 a0_1 a0_2 a0_3 a0_4 a0_5 a0_6 a0_7 a0_8 l0_9 l0_10)) else (impl_SegmentBytes.j0 k a1 a2 true a0_0 a0_1 a0_2 a0_3 a0_4 a0_5 a0_6 a0_7 a0_8 l0_9 l0_10))) = some r := by rw [if_pos rfl] at H; exact H
  clear H
  have H := H1
  clear H1
  replace H := Option.bind_eq_some_iff.mp H
  obtain ⟨t299, A80, H⟩ := H
  replace H : (if t299 = true then ((impl_word.f a2).bind fun t300 => (impl_SegmentBytes.j0 k a1 a2 (!t300) a0_0 a0_1 a0_2 a0_3 a0_4 a0_5 a0_6 a0_7 a0_8 l0_9 l0_10)) else (impl_SegmentBytes.j0 k a1 a2 true a0_0 a0_1 a0_2 a0_3 a0_4 a0_5 a0_6 a0_7 a0_8 l0_9 l0_10)) = some r := H
  have A8 := mk_ A80
  clear A80
  by_cases c9 : t299 = true
  rotate_left
  ·replace c9 := Bool.eq_false_iff.mpr c9
   subst c9
   have H1 : (impl_SegmentBytes.j0 k a1 a2 true a0_0 a0_1 a0_2 a0_3 a0_4 a0_5 a0_6 a0_7 a0_8 l0_9 l0_10) = some r := by rw [if_neg (show ¬ (false = true) by decide)] at H; exact H
   clear H
   have H := H1
   clear H1
   have H' := mk_ H
   clear H
   obtain ⟨hcz13_0, hcz13_1, hcz13_2, hcz13_3, hcz13_4, hcz13_5, hcz13_6, hcz13_7, hcz13_8, hcz13_9, hcz13_10, hfz13_0, hfz13_1, hfz13_2, hfz13_3, hfz13_4, hfz13_5, hfz13_6, hfz13_7, hfz13_8, hfz13_9, hfz13_10⟩ := cells11_ BK297.out
   go_wp2_with (first | ((with_reducible refine gate_callee (f := 59) rfl ?_); refine goesL_ (some 9) rfl rfl Try.func59 (by kernel_rfl) rfl #[.agg #[.int .i64 a0_0, .int .i64 a0_1, .int .i64 a0_2, .int .i64 a0_3, .int .i64 a0_4, .bool a0_5, .bool a0_6, .bool a0_7, .bool a0_8, .slice A0_9 l0_9.length c0_9, .slice A0_10 l0_10.length c0_10]] rfl (by (try simp only [lm_, lo_, ln_]); first | done | rfl | (simp only [List.length_drop, List.length_take]; rfl)) ?_; (with_reducible refine (impl_SegmentOk.calls k a0_0 a0_1 a0_2 a0_3 a0_4 a0_5 a0_6 a0_7 a0_8 _ _ l0_9 _ _ l0_10 true _ ?side1 ?side2 ?side3 ?side4 A6.out).mono ?_); (case side1 => repeat (first | exact (Kd.C_below HR0_9.out HB.out) | (with_reducible refine Kd.C_alloc ?_ _) | (with_reducible refine Kd.C_drewN ?_ _) | (with_reducible refine Kd.C_drew ?_))); (case side2 => exact HC0_9.out); (case side3 => repeat (first | exact (Kd.C_below HR0_10.out HB.out) | (with_reducible refine Kd.C_alloc ?_ _) | (with_reducible refine Kd.C_drewN ?_ _) | (with_reducible refine Kd.C_drew ?_))); (case side4 => exact HC0_10.out); rintro e w14 ⟨rfl, hb⟩; refine ⟨_, rfl, ?_⟩; have n0_ := mk_ (blk_below (u_ BK297.out) hb); have n1_ := mk_ (below_step (us_ HB.out) hb); clear BK297; clear HB; have BK297 := n0_; have HB := n1_; clear n0_ n1_; (try clear hb); (try clear hb2); (try clear hk); (try clear hi)) | (go_at_call 60; (with_reducible refine (impl_word.calls a1 false _ A8.out).mono ?_); rintro e w' ⟨rfl, ⟨nd, rfl⟩⟩))
   go_meet
   case rel => exact ⟨_, (true), (by first | rfl | (simp; done) | (simp [*]; done)), H', ⟨by first | omega | exact Nat.le_refl _⟩, ⟨u_ BK297.out⟩, ⟨us_ HB.out⟩⟩
  subst c9
  have H1 : ((impl_word.f a2).bind fun t300 => (impl_SegmentBytes.j0 k a1 a2 (!t300) a0_0 a0_1 a0_2 a0_3 a0_4 a0_5 a0_6 a0_7 a0_8 l0_9 l0_10)) = some r := by rw [if_pos rfl] at H; exact H
  clear H
  have H := H1
  clear H1
  replace H := Option.bind_eq_some_iff.mp H
  obtain ⟨t300, A100, H⟩ := H
  replace H : (impl_SegmentBytes.j0 k a1 a2 (!t300) a0_0 a0_1 a0_2 a0_3 a0_4 a0_5 a0_6 a0_7 a0_8 l0_9 l0_10) = some r := H
  have A10 := mk_ A100
  clear A100
  have H' := mk_ H
  clear H
  obtain ⟨hcz11_0, hcz11_1, hcz11_2, hcz11_3, hcz11_4, hcz11_5, hcz11_6, hcz11_7, hcz11_8, hcz11_9, hcz11_10, hfz11_0, hfz11_1, hfz11_2, hfz11_3, hfz11_4, hfz11_5, hfz11_6, hfz11_7, hfz11_8, hfz11_9, hfz11_10⟩ := cells11_ BK297.out
  go_wp2_with (first | ((with_reducible refine gate_callee (f := 59) rfl ?_); refine goesL_ (some 9) rfl rfl Try.func59 (by kernel_rfl) rfl #[.agg #[.int .i64 a0_0, .int .i64 a0_1, .int .i64 a0_2, .int .i64 a0_3, .int .i64 a0_4, .bool a0_5, .bool a0_6, .bool a0_7, .bool a0_8, .slice A0_9 l0_9.length c0_9, .slice A0_10 l0_10.length c0_10]] rfl (by (try simp only [lm_, lo_, ln_]); first | done | rfl | (simp only [List.length_drop, List.length_take]; rfl)) ?_; (with_reducible refine (impl_SegmentOk.calls k a0_0 a0_1 a0_2 a0_3 a0_4 a0_5 a0_6 a0_7 a0_8 _ _ l0_9 _ _ l0_10 true _ ?side1 ?side2 ?side3 ?side4 A6.out).mono ?_); (case side1 => repeat (first | exact (Kd.C_below HR0_9.out HB.out) | (with_reducible refine Kd.C_alloc ?_ _) | (with_reducible refine Kd.C_drewN ?_ _) | (with_reducible refine Kd.C_drew ?_))); (case side2 => exact HC0_9.out); (case side3 => repeat (first | exact (Kd.C_below HR0_10.out HB.out) | (with_reducible refine Kd.C_alloc ?_ _) | (with_reducible refine Kd.C_drewN ?_ _) | (with_reducible refine Kd.C_drew ?_))); (case side4 => exact HC0_10.out); rintro e w12 ⟨rfl, hb⟩; refine ⟨_, rfl, ?_⟩; have n0_ := mk_ (blk_below (u_ BK297.out) hb); have n1_ := mk_ (below_step (us_ HB.out) hb); clear BK297; clear HB; have BK297 := n0_; have HB := n1_; clear n0_ n1_; (try clear hb); (try clear hb2); (try clear hk); (try clear hi)) | (go_at_call 60; have hA_ := A8.out; (with_reducible refine (impl_word.calls a1 true _ A8.out).mono ?_); rintro e w' ⟨rfl, ⟨nd, rfl⟩⟩; clear hA_ A8) | (go_at_call 60; have hA_ := A10.out; (with_reducible refine (impl_word.calls a2 t300 _ A10.out).mono ?_); rintro e w' ⟨rfl, ⟨nd, rfl⟩⟩; clear hA_ A10))
  go_meet
  case rel => exact ⟨_, (!t300), (by first | rfl | (simp; done) | (simp [*]; done)), H', ⟨by first | omega | exact Nat.le_refl _⟩, ⟨u_ BK297.out⟩, ⟨us_ HB.out⟩⟩
 case rest =>
  clear HC4
  try clear c2
  try clear p2
  try clear c5
  try clear c7
  try clear c9
  try clear hcz11_0
  try clear hcz11_1
  try clear hcz11_10
  try clear hcz11_2
  try clear hcz11_3
  try clear hcz11_4
  try clear hcz11_5
  try clear hcz11_6
  try clear hcz11_7
  try clear hcz11_8
  try clear hcz11_9
  try clear hcz13_0
  try clear hcz13_1
  try clear hcz13_10
  try clear hcz13_2
  try clear hcz13_3
  try clear hcz13_4
  try clear hcz13_5
  try clear hcz13_6
  try clear hcz13_7
  try clear hcz13_8
  try clear hcz13_9
  try clear hcz15_0
  try clear hcz15_1
  try clear hcz15_10
  try clear hcz15_2
  try clear hcz15_3
  try clear hcz15_4
  try clear hcz15_5
  try clear hcz15_6
  try clear hcz15_7
  try clear hcz15_8
  try clear hcz15_9
  try clear hfz11_0
  try clear hfz11_1
  try clear hfz11_10
  try clear hfz11_2
  try clear hfz11_3
  try clear hfz11_4
  try clear hfz11_5
  try clear hfz11_6
  try clear hfz11_7
  try clear hfz11_8
  try clear hfz11_9
  try clear hfz13_0
  try clear hfz13_1
  try clear hfz13_10
  try clear hfz13_2
  try clear hfz13_3
  try clear hfz13_4
  try clear hfz13_5
  try clear hfz13_6
  try clear hfz13_7
  try clear hfz13_8
  try clear hfz13_9
  try clear hfz15_0
  try clear hfz15_1
  try clear hfz15_10
  try clear hfz15_2
  try clear hfz15_3
  try clear hfz15_4
  try clear hfz15_5
  try clear hfz15_6
  try clear hfz15_7
  try clear hfz15_8
  try clear hfz15_9
  obtain ⟨kq, x20_3, rfl, HA, HJ3, BK297, HB⟩ := hcut
  cases kq with
  | zero => exact absurd HA.out (by simp [impl_SegmentBytes.j0])
  | succ kj3 =>
   have H := HA.out
   clear HA
   simp only [impl_SegmentBytes.j0] at H
   by_cases c17 : x20_3 = true
   ·subst c17
    have H1 : (some ([] : List Int)) = some r := by rw [if_pos rfl] at H; exact H
    clear H
    have H := H1
    clear H1
    obtain rfl := Option.some.inj H
    go_wp2
    go_ret
    exact ⟨_, by first | rfl | (simp [errW_none, errW_some] <;> rfl) | (simp [*, errW_none, errW_some] <;> rfl), by first | exact Kd.R_nil _ _ _ _ _ | exact Kd.N_nil _ _ _ _ _ | exact Kd.V_nil _ _ _ _ _ | exact Kd.Q_nil _ _ _ _ _ | exact Kd.S_nil _ _ _ _ _, us_ HB.out⟩
   replace c17 := Bool.eq_false_iff.mpr c17
   subst c17
   have H1 : ((impl_Segment_body.f kj3 a0_0 a0_1 a0_2 a0_3 a0_4 a0_5 a0_6 a0_7 a0_8 l0_9 l0_10).bind fun t301 => ((impl_between.f kj3 a1 a2).bind fun t304 => ((slices_Concat_byte_byte.f (([t304, t301] : List (List Int)))).bind fun t310 => ((impl_sumOf.f t310).bind fun t313 => ((impl_bytesOf.f kj3 t313 2).bind fun t314 => ((slices_Concat_byte_byte.f (([t301, t314] : List (List Int)))).bind fun t320 => (some t320))))))) = some r := by rw [if_neg (show ¬ (false = true) by decide)] at H; exact H
   clear H
   have H := H1
   clear H1
   replace H := Option.bind_eq_some_iff.mp H
   obtain ⟨t301, A180, H⟩ := H
   replace H : ((impl_between.f kj3 a1 a2).bind fun t304 => ((slices_Concat_byte_byte.f (([t304, t301] : List (List Int)))).bind fun t310 => ((impl_sumOf.f t310).bind fun t313 => ((impl_bytesOf.f kj3 t313 2).bind fun t314 => ((slices_Concat_byte_byte.f (([t301, t314] : List (List Int)))).bind fun t320 => (some t320)))))) = some r := H
   have A18 := mk_ A180
   clear A180
   replace H := Option.bind_eq_some_iff.mp H
   obtain ⟨t304, A190, H⟩ := H
   replace H : ((slices_Concat_byte_byte.f (([t304, t301] : List (List Int)))).bind fun t310 => ((impl_sumOf.f t310).bind fun t313 => ((impl_bytesOf.f kj3 t313 2).bind fun t314 => ((slices_Concat_byte_byte.f (([t301, t314] : List (List Int)))).bind fun t320 => (some t320))))) = some r := H
   have A19 := mk_ A190
   clear A190
   obtain ⟨y307, hy307⟩ : ∃ y_ : List (List Int), y_ = (([t304, t301] : List (List Int))) := ⟨_, rfl⟩
   replace H : ((slices_Concat_byte_byte.f y307).bind fun t310 => ((impl_sumOf.f t310).bind fun t313 => ((impl_bytesOf.f kj3 t313 2).bind fun t314 => ((slices_Concat_byte_byte.f (([t301, t314] : List (List Int)))).bind fun t320 => (some t320))))) = some r := by first | (rw [hy307]; with_reducible exact H) | (have H2_ := (Option.bind_some _ _).symm.trans H; rw [hy307]; with_reducible exact H2_) | (have H2_ := (Option.bind_some _ _).symm.trans H; with_reducible exact H2_) | with_reducible exact H | (rw [hy307]; exact H) | exact H
   have Ny307 := mk_ hy307
   clear hy307
   replace H := Option.bind_eq_some_iff.mp H
   obtain ⟨t310, A200, H⟩ := H
   replace H : ((impl_sumOf.f t310).bind fun t313 => ((impl_bytesOf.f kj3 t313 2).bind fun t314 => ((slices_Concat_byte_byte.f (([t301, t314] : List (List Int)))).bind fun t320 => (some t320)))) = some r := H
   have A20 := mk_ A200
   clear A200
   replace H := Option.bind_eq_some_iff.mp H
   obtain ⟨t313, A210, H⟩ := H
   replace H : ((impl_bytesOf.f kj3 t313 2).bind fun t314 => ((slices_Concat_byte_byte.f (([t301, t314] : List (List Int)))).bind fun t320 => (some t320))) = some r := H
   have A21 := mk_ A210
   clear A210
   replace H := Option.bind_eq_some_iff.mp H
   obtain ⟨t314, A220, H⟩ := H
   replace H : ((slices_Concat_byte_byte.f (([t301, t314] : List (List Int)))).bind fun t320 => (some t320)) = some r := H
   have A22 := mk_ A220
   clear A220
   obtain ⟨y317, hy317⟩ : ∃ y_ : List (List Int), y_ = (([t301, t314] : List (List Int))) := ⟨_, rfl⟩
   replace H : ((slices_Concat_byte_byte.f y317).bind fun t320 => (some t320)) = some r := by first | (rw [hy317]; with_reducible exact H) | (have H2_ := (Option.bind_some _ _).symm.trans H; rw [hy317]; with_reducible exact H2_) | (have H2_ := (Option.bind_some _ _).symm.trans H; with_reducible exact H2_) | with_reducible exact H | (rw [hy317]; exact H) | exact H
   have Ny317 := mk_ hy317
   clear hy317
   replace H := Option.bind_eq_some_iff.mp H
   obtain ⟨t320, A230, H⟩ := H
   replace H : (some t320) = some r := H
   have A23 := mk_ A230
   clear A230
   obtain rfl := Option.some.inj H
   obtain ⟨hcz24_0, hcz24_1, hcz24_2, hcz24_3, hcz24_4, hcz24_5, hcz24_6, hcz24_7, hcz24_8, hcz24_9, hcz24_10, hfz24_0, hfz24_1, hfz24_2, hfz24_3, hfz24_4, hfz24_5, hfz24_6, hfz24_7, hfz24_8, hfz24_9, hfz24_10⟩ := cells11_ BK297.out
   go_wp2_with (first | ((with_reducible refine gate_callee (f := 61) rfl ?_); refine goesL_ (some 22) rfl rfl Try.func61 (by kernel_rfl) rfl #[.agg #[.int .i64 a0_0, .int .i64 a0_1, .int .i64 a0_2, .int .i64 a0_3, .int .i64 a0_4, .bool a0_5, .bool a0_6, .bool a0_7, .bool a0_8, .slice A0_9 l0_9.length c0_9, .slice A0_10 l0_10.length c0_10]] rfl (by (try simp only [lm_, lo_, ln_]); first | done | rfl | (simp only [List.length_drop, List.length_take]; rfl)) ?_; (with_reducible refine (impl_Segment_body.calls kj3 a0_0 a0_1 a0_2 a0_3 a0_4 a0_5 a0_6 a0_7 a0_8 _ _ l0_9 (fun k_ => k_ < w.heap.size) _ _ l0_10 t301 _ ?side1 ?side2 ?side3 A18.out).mono ?_); (case side1 => repeat (first | exact (Kd.C_below HR0_9.out HB.out) | (with_reducible refine Kd.C_alloc ?_ _) | (with_reducible refine Kd.C_drewN ?_ _) | (with_reducible refine Kd.C_drew ?_))); (case side2 => exact HC0_9.out); (case side3 => exact Kd.V_mk HC0_10.out (Kd.F_below (Kd.C_F (Kd.heap_int .u8) HR0_10.out) (us_ HB.out))); rintro e w25 ⟨v302, rfl, ho0, hb⟩; refine ⟨_, rfl, ?_⟩; have n0_ := mk_ (Kd.R_lower (Kd.R_mono (ok' := fun k_ => True) ho0 (fun _ hk_ => trivial)) (below_size (us_ HB.out))); have n1_ := mk_ (blk_below (u_ BK297.out) hb); have n2_ := mk_ (below_step (us_ HB.out) hb); clear BK297; clear HB; have HO303 := n0_; have BK297 := n1_; have HB := n2_; clear n0_ n1_ n2_; (try clear hb); (try clear hb2); (try clear hk); (try clear hi); (try clear ho0)) | ((with_reducible refine gate_callee (f := 65) rfl ?_); refine goesL_ (some 26) rfl rfl Try.func65 (by kernel_rfl) rfl #[.int .i64 a1, .int .i64 a2] rfl (by (try simp only [lm_, lo_, ln_]); first | done | rfl | (simp only [List.length_drop, List.length_take]; rfl)) ?_; (with_reducible refine (impl_between.calls kj3 a1 a2 t304 _ A19.out).mono ?_); rintro e w26 ⟨v305, rfl, ho0, hb⟩; refine ⟨_, rfl, ?_⟩; have n0_ := mk_ (Kd.R_elder' (Kd.ur_ HO303.out) (Kd.R_base ho0) hb); have n1_ := mk_ (Kd.R_lower (Kd.R_new' ho0 (Kd.R_lt (Kd.ur_ HO303.out))) (below_size (us_ HB.out))); have n2_ := mk_ (blk_below (u_ BK297.out) hb); have n3_ := mk_ (below_step (us_ HB.out) hb); clear HO303; clear BK297; clear HB; have HO303 := n0_; have HO306 := n1_; have BK297 := n2_; have HB := n3_; clear n0_ n1_ n2_ n3_; (try clear hb); (try clear hb2); (try clear hk); (try clear hi); (try clear ho0); obtain ⟨Ao27, co27, eo27⟩ := Kd.R_slice HO306.out; subst eo27; obtain ⟨Ao28, co28, eo28⟩ := Kd.R_slice HO303.out; subst eo28) | ((with_reducible refine gate_dst (N := 28) rfl ?_); refine Kd.N_lit (Kd.slice 5 (Kd.int .u8)) _ 22 ?hg (N' := 28) ?hd (xs := ([t304, t301] : List (List Int))) (inner := [.slice Ao27 t304.length co27, .slice Ao28 t301.length co28]) (ok := (fun k_ => k_ ≠ gb297)) (okp := (fun k_ => k_ ≠ gb297)) ?hr ?hp (fun _ hk => hk) ((show ∀ k_, w26.heap.size ≤ k_ → (fun k_ => k_ ≠ gb297) k_ from fun k_ hk => Kd.freshB (g := gb297) (o := .cells #[.int .i64 a0_0, .int .i64 a0_1, .int .i64 a0_2, .int .i64 a0_3, .int .i64 a0_4, .bool a0_5, .bool a0_6, .bool a0_7, .bool a0_8, .slice A0_9 l0_9.length c0_9, .slice A0_10 l0_10.length c0_10] 31 (0, 0)) (u_ BK297.out) k_ hk) _ (Nat.le_refl _)) (Below.refl _ _) (Nat.le_refl _) (by simp) ?_; (case hd => rfl); (case hg => rfl); (case hr => first | (go_simp; done) | (go_simp; rfl)); (case hp => exact (Reps.one (show Kd.FK (Kd.slice 5 (Kd.int .u8)) _ _ t304 [.slice Ao27 t304.length co27] from (Kd.FK_slice_mk (Kd.R_reads' (Kd.R_mono (ok' := (fun k_ => k_ ≠ gb297)) (Kd.R_types (HO306.out) BK297.out (by decide)) (fun k_ hk => hk.2))).2.1 (Kd.R_F (Kd.R_mono (ok' := (fun k_ => k_ ≠ gb297)) (Kd.R_types (HO306.out) BK297.out (by decide)) (fun k_ hk => hk.2))))) (Reps.one (show Kd.FK (Kd.slice 5 (Kd.int .u8)) _ _ t301 [.slice Ao28 t301.length co28] from (Kd.FK_slice_mk (Kd.R_reads' (Kd.R_mono (ok' := (fun k_ => k_ ≠ gb297)) (Kd.R_types (HO303.out) BK297.out (by decide)) (fun k_ hk => hk.2))).2.1 (Kd.R_F (Kd.R_mono (ok' := (fun k_ => k_ ≠ gb297)) (Kd.R_types (HO303.out) BK297.out (by decide)) (fun k_ hk => hk.2))))) (Reps.none _ _)))); intro v308 w29 ho30 hb hg_ hnew_; clear hg_ hnew_; (first | rw [← Ny307.out] at ho30 | (simp only [Int.reduceToNat] at ho30; rw [← Ny307.out] at ho30)); have n0_ := mk_ (Kd.R_below (Kd.ur_ HO303.out) hb); have n1_ := mk_ (Kd.N_lower ho30 (below_size (us_ HB.out))); have n2_ := mk_ (blk_below (u_ BK297.out) hb); have n3_ := mk_ (below_step (us_ HB.out) hb); clear HO303; clear BK297; clear HB; clear HO306; have HO303 := n0_; have HO309 := n1_; have BK297 := n2_; have HB := n3_; clear n0_ n1_ n2_ n3_; clear hb ho30; obtain ⟨Ao31, co31, eo31⟩ := Kd.N_slice HO309.out; subst eo31) | ((with_reducible refine gate_callee (f := 62) rfl ?_); have hA_ := A20.out; refine goesL_ (some 29) rfl rfl Try.func62 (by kernel_rfl) rfl #[.slice Ao31 y307.length co31] rfl (by (try simp only [lm_, lo_, ln_]); first | done | rfl | (simp only [List.length_drop, List.length_take]; rfl)) ?_; (with_reducible refine (slices_Concat_byte_byte.calls _ _ y307 t310 _ ?side1 ?side2 A20.out).mono ?_); (case side1 => repeat (first | exact (Kd.N_reads' HO309.out).2.2 | (with_reducible refine Kd.C_alloc ?_ _) | (with_reducible refine Kd.C_drewN ?_ _) | (with_reducible refine Kd.C_drew ?_))); (case side2 => exact (Kd.N_reads' HO309.out).2.1); rintro e w32 ⟨v311, rfl, ho0, hb⟩; refine ⟨_, rfl, ?_⟩; have n0_ := mk_ (Kd.R_elder' (Kd.ur_ HO303.out) (Kd.R_base ho0) hb); have n1_ := mk_ (Kd.N_elder' (by (with_reducible repeat (first | apply Kd.N_alloc | apply Kd.N_drewN | apply Kd.N_drew)); exact HO309.out) (Kd.R_base ho0) hb); have n2_ := mk_ (Kd.R_lower (Kd.R_new' ho0 (Kd.R_lt (Kd.ur_ HO303.out))) (below_size (us_ HB.out))); have n3_ := mk_ (blk_below (u_ BK297.out) hb); have n4_ := mk_ (below_step (us_ HB.out) hb); clear HO303; clear HO309; clear BK297; clear HB; have HO303 := n0_; have HO309 := n1_; have HO312 := n2_; have BK297 := n3_; have HB := n4_; clear n0_ n1_ n2_ n3_ n4_; (try clear hb); (try clear hb2); (try clear hk); (try clear hi); (try clear ho0); obtain ⟨Ao33, co33, eo33⟩ := Kd.R_slice HO312.out; subst eo33; clear hA_ A20) | ((with_reducible refine gate_callee (f := 64) rfl ?_); refine goesL_ (some 30) rfl rfl Try.func64 (by kernel_rfl) rfl #[.slice Ao33 t310.length co33] rfl (by (try simp only [lm_, lo_, ln_]); first | done | rfl | (simp only [List.length_drop, List.length_take]; rfl)) ?_; (with_reducible refine (impl_sumOf.calls _ _ t310 t313 _ ?side1 ?side2 A21.out).mono ?_); (case side1 => repeat (first | exact (Kd.R_reads' HO312.out).2.2 | (with_reducible refine Kd.C_alloc ?_ _) | (with_reducible refine Kd.C_drewN ?_ _) | (with_reducible refine Kd.C_drew ?_))); (case side2 => exact (Kd.R_reads' HO312.out).2.1); rintro e w34 ⟨rfl, hb⟩; refine ⟨_, rfl, ?_⟩; have n0_ := mk_ (Kd.R_below (Kd.ur_ HO303.out) hb); have n1_ := mk_ (Kd.N_below (by (with_reducible repeat (first | apply Kd.N_alloc | apply Kd.N_drewN | apply Kd.N_drew)); exact HO309.out) hb); have n2_ := mk_ (Kd.R_below (Kd.ur_ HO312.out) hb); have n3_ := mk_ (blk_below (u_ BK297.out) hb); have n4_ := mk_ (below_step (us_ HB.out) hb); clear HO303; clear HO309; clear HO312; clear BK297; clear HB; have HO303 := n0_; have HO309 := n1_; have HO312 := n2_; have BK297 := n3_; have HB := n4_; clear n0_ n1_ n2_ n3_ n4_; (try clear hb); (try clear hb2); (try clear hk); (try clear hi)) | ((with_reducible refine gate_callee (f := 63) rfl ?_); refine goesL_ (some 31) rfl rfl Try.func63 (by kernel_rfl) rfl #[.int .i64 t313, .int .i64 2] rfl (by (try simp only [lm_, lo_, ln_]); first | done | rfl | (simp only [List.length_drop, List.length_take]; rfl)) ?_; (with_reducible refine (impl_bytesOf.calls kj3 t313 2 t314 _ A22.out).mono ?_); rintro e w35 ⟨v315, rfl, ho0, hb⟩; refine ⟨_, rfl, ?_⟩; have n0_ := mk_ (Kd.R_elder' (Kd.ur_ HO303.out) (Kd.R_base ho0) hb); have n1_ := mk_ (Kd.N_elder' (by (with_reducible repeat (first | apply Kd.N_alloc | apply Kd.N_drewN | apply Kd.N_drew)); exact HO309.out) (Kd.R_base ho0) hb); have n2_ := mk_ (Kd.R_elder' (Kd.ur_ HO312.out) (Kd.R_base ho0) hb); have n3_ := mk_ (Kd.R_lower (Kd.R_new' (Kd.R_new' ho0 (Kd.R_lt (Kd.ur_ HO303.out))) (Kd.R_lt (Kd.ur_ HO312.out))) (below_size (us_ HB.out))); have n4_ := mk_ (blk_below (u_ BK297.out) hb); have n5_ := mk_ (below_step (us_ HB.out) hb); clear HO303; clear HO309; clear HO312; clear BK297; clear HB; have HO303 := n0_; have HO309 := n1_; have HO312 := n2_; have HO316 := n3_; have BK297 := n4_; have HB := n5_; clear n0_ n1_ n2_ n3_ n4_ n5_; (try clear hb); (try clear hb2); (try clear hk); (try clear hi); (try clear ho0); obtain ⟨Ao36, co36, eo36⟩ := Kd.R_slice HO316.out; subst eo36) | ((with_reducible refine gate_dst (N := 32) rfl ?_); refine Kd.N_lit (Kd.slice 5 (Kd.int .u8)) _ 22 ?hg (N' := 32) ?hd (xs := ([t301, t314] : List (List Int))) (inner := [.slice Ao28 t301.length co28, .slice Ao36 t314.length co36]) (ok := (fun k_ => some k_ ≠ (.slice Ao31 y307.length co31 : Value).ownBlock ∧ some k_ ≠ (.slice Ao33 t310.length co33 : Value).ownBlock ∧ k_ ≠ gb297)) (okp := (fun k_ => some k_ ≠ (.slice Ao31 y307.length co31 : Value).ownBlock ∧ some k_ ≠ (.slice Ao33 t310.length co33 : Value).ownBlock ∧ k_ ≠ gb297)) ?hr ?hp (fun _ hk => hk) ((show ∀ k_, w35.heap.size ≤ k_ → (fun k_ => some k_ ≠ (.slice Ao31 y307.length co31 : Value).ownBlock ∧ some k_ ≠ (.slice Ao33 t310.length co33 : Value).ownBlock ∧ k_ ≠ gb297) k_ from fun k_ hk => ⟨Kd.fresh' (Kd.N_lt (by (with_reducible repeat (first | apply Kd.N_alloc | apply Kd.N_drewN | apply Kd.N_drew)); exact HO309.out)) k_ hk, Kd.fresh' (Kd.R_lt (Kd.ur_ HO312.out)) k_ hk, Kd.freshB (g := gb297) (o := .cells #[.int .i64 a0_0, .int .i64 a0_1, .int .i64 a0_2, .int .i64 a0_3, .int .i64 a0_4, .bool a0_5, .bool a0_6, .bool a0_7, .bool a0_8, .slice A0_9 l0_9.length c0_9, .slice A0_10 l0_10.length c0_10] 31 (0, 0)) (u_ BK297.out) k_ hk⟩) _ (Nat.le_refl _)) (Below.refl _ _) (Nat.le_refl _) (by simp) ?_; (case hd => rfl); (case hg => rfl); (case hr => first | (go_simp; done) | (go_simp; rfl)); (case hp => exact (Reps.one (show Kd.FK (Kd.slice 5 (Kd.int .u8)) _ _ t301 [.slice Ao28 t301.length co28] from (Kd.FK_slice_mk (Kd.R_reads' (Kd.R_mono (ok' := (fun k_ => some k_ ≠ (.slice Ao31 y307.length co31 : Value).ownBlock ∧ some k_ ≠ (.slice Ao33 t310.length co33 : Value).ownBlock ∧ k_ ≠ gb297)) (Kd.R_types (Kd.R_apart' (HO303.out) (Kd.N_typed HO309.out) (by decide)) BK297.out (by decide)) (fun k_ hk => by first | exact ⟨hk.1.2, ⟨hk.1.1.1.2, hk.2⟩⟩ | exact hk.1 | exact hk | exact ⟨hk.1, hk.2⟩ | exact ⟨.inr hk.1, hk.2⟩ | simp only [hk, ne_eq, not_false_eq_true, and_self]))).2.1 (Kd.R_F (Kd.R_mono (ok' := (fun k_ => some k_ ≠ (.slice Ao31 y307.length co31 : Value).ownBlock ∧ some k_ ≠ (.slice Ao33 t310.length co33 : Value).ownBlock ∧ k_ ≠ gb297)) (Kd.R_types (Kd.R_apart' (HO303.out) (Kd.N_typed HO309.out) (by decide)) BK297.out (by decide)) (fun k_ hk => by first | exact ⟨hk.1.2, ⟨hk.1.1.1.2, hk.2⟩⟩ | exact hk.1 | exact hk | exact ⟨hk.1, hk.2⟩ | exact ⟨.inr hk.1, hk.2⟩ | simp only [hk, ne_eq, not_false_eq_true, and_self]))))) (Reps.one (show Kd.FK (Kd.slice 5 (Kd.int .u8)) _ _ t314 [.slice Ao36 t314.length co36] from (Kd.FK_slice_mk (Kd.R_reads' (Kd.R_mono (ok' := (fun k_ => some k_ ≠ (.slice Ao31 y307.length co31 : Value).ownBlock ∧ some k_ ≠ (.slice Ao33 t310.length co33 : Value).ownBlock ∧ k_ ≠ gb297)) (Kd.R_types (Kd.R_apart' (HO316.out) (Kd.N_typed HO309.out) (by decide)) BK297.out (by decide)) (fun k_ hk => by first | exact ⟨hk.1.2, ⟨hk.1.1.2, hk.2⟩⟩ | exact hk.1 | exact hk | exact ⟨hk.1, hk.2⟩ | exact ⟨.inr hk.1, hk.2⟩ | simp only [hk, ne_eq, not_false_eq_true, and_self]))).2.1 (Kd.R_F (Kd.R_mono (ok' := (fun k_ => some k_ ≠ (.slice Ao31 y307.length co31 : Value).ownBlock ∧ some k_ ≠ (.slice Ao33 t310.length co33 : Value).ownBlock ∧ k_ ≠ gb297)) (Kd.R_types (Kd.R_apart' (HO316.out) (Kd.N_typed HO309.out) (by decide)) BK297.out (by decide)) (fun k_ hk => by first | exact ⟨hk.1.2, ⟨hk.1.1.2, hk.2⟩⟩ | exact hk.1 | exact hk | exact ⟨hk.1, hk.2⟩ | exact ⟨.inr hk.1, hk.2⟩ | simp only [hk, ne_eq, not_false_eq_true, and_self]))))) (Reps.none _ _)))); intro v318 w37 ho38 hb hg_ hnew_; clear hg_ hnew_; (first | rw [← Ny317.out] at ho38 | (simp only [Int.reduceToNat] at ho38; rw [← Ny317.out] at ho38)); have n0_ := mk_ (Kd.N_elder' (by (with_reducible repeat (first | apply Kd.N_alloc | apply Kd.N_drewN | apply Kd.N_drew)); exact HO309.out) (Kd.N_base ho38) hb); have n1_ := mk_ (Kd.R_below (Kd.ur_ HO312.out) hb); have n2_ := mk_ (Kd.N_lower ho38 (below_size (us_ HB.out))); have n3_ := mk_ (blk_below (u_ BK297.out) hb); have n4_ := mk_ (below_step (us_ HB.out) hb); clear HO309; clear HO312; clear BK297; clear HB; clear HO303; clear HO316; have HO309 := n0_; have HO312 := n1_; have HO319 := n2_; have BK297 := n3_; have HB := n4_; clear n0_ n1_ n2_ n3_ n4_; clear hb ho38; obtain ⟨Ao39, co39, eo39⟩ := Kd.N_slice HO319.out; subst eo39) | ((with_reducible refine gate_callee (f := 62) rfl ?_); have hA_ := A23.out; refine goesL_ (some 33) rfl rfl Try.func62 (by kernel_rfl) rfl #[.slice Ao39 y317.length co39] rfl (by (try simp only [lm_, lo_, ln_]); first | done | rfl | (simp only [List.length_drop, List.length_take]; rfl)) ?_; (with_reducible refine (slices_Concat_byte_byte.calls _ _ y317 t320 _ ?side1 ?side2 A23.out).mono ?_); (case side1 => repeat (first | exact (Kd.N_reads' HO319.out).2.2 | (with_reducible refine Kd.C_alloc ?_ _) | (with_reducible refine Kd.C_drewN ?_ _) | (with_reducible refine Kd.C_drew ?_))); (case side2 => exact (Kd.N_reads' HO319.out).2.1); rintro e w40 ⟨v321, rfl, ho0, hb⟩; refine ⟨_, rfl, ?_⟩; have n0_ := mk_ (Kd.N_elder' (by (with_reducible repeat (first | apply Kd.N_alloc | apply Kd.N_drewN | apply Kd.N_drew)); exact HO309.out) (Kd.R_base ho0) hb); have n1_ := mk_ (Kd.R_elder' (Kd.ur_ HO312.out) (Kd.R_base ho0) hb); have n2_ := mk_ (Kd.N_elder' (by (with_reducible repeat (first | apply Kd.N_alloc | apply Kd.N_drewN | apply Kd.N_drew)); exact HO319.out) (Kd.R_base ho0) hb); have n3_ := mk_ (Kd.R_lower (Kd.R_new' ho0 (Kd.R_lt (Kd.ur_ HO312.out))) (below_size (us_ HB.out))); have n4_ := mk_ (blk_below (u_ BK297.out) hb); have n5_ := mk_ (below_step (us_ HB.out) hb); clear HO309; clear HO312; clear HO319; clear BK297; clear HB; have HO309 := n0_; have HO312 := n1_; have HO319 := n2_; have HO322 := n3_; have BK297 := n4_; have HB := n5_; clear n0_ n1_ n2_ n3_ n4_ n5_; (try clear hb); (try clear hb2); (try clear hk); (try clear hi); (try clear ho0); clear hA_ A23))
   go_ret
   exact ⟨_, by first | rfl | (simp [errW_none, errW_some] <;> rfl) | (simp [*, errW_none, errW_some] <;> rfl), by (with_reducible repeat (first | apply Kd.R_alloc | apply Kd.R_drewN | apply Kd.R_drew)); exact Kd.R_mono HO322.out (fun _ hk => trivial), us_ HB.out⟩

/-! ### laws_eqByteS: function 27 -/
def laws_eqByteS.l0 : Nat → List Int → List Int → Int → Option (Bool)
 | 0, _, _, _ => none
 | k + 1, x0, x1, x5 => if x5 < (x0.length : Int) then (if 0 ≤ x5 then (if x5 < (x1.length : Int) then (if (rd x0 x5) = (rd x1 x5) then (laws_eqByteS.l0 k x0 x1 (wrap64 (x5 + 1))) else (some false)) else (none)) else (none)) else (some true)
def laws_eqByteS.f (k : Nat) (l0 : List Int) (l1 : List Int) : Option (Bool) := if (l0.length : Int) = (l1.length : Int) then (laws_eqByteS.l0 k l0 l1 0) else (some false)
theorem laws_eqByteS.mono_l : ∀ k, (∀ y0 y1 y2, LeO (laws_eqByteS.l0 k y0 y1 y2) (laws_eqByteS.l0 (k + 1) y0 y1 y2))
 | 0 => fun _ _ _ r h => by simp [laws_eqByteS.l0] at h
 | k + 1 => by
  have ih0 := laws_eqByteS.mono_l k
  ·intro y0 y1 y2
   unfold laws_eqByteS.l0
   repeat' first
   | (with_reducible exact ih0 _ _ _)
   | (with_reducible exact LeO.refl _)
   | (with_reducible exact LeO.none _)
   | (with_reducible refine LeO.ite ?_ ?_)
   | (with_reducible refine LeO.bind ?_ (fun _ => ?_))
   | exact ih0 _ _ _
   | exact LeO.none _
   | refine LeO.ite ?_ ?_
   | refine LeO.bind ?_ (fun _ => ?_)
theorem laws_eqByteS.mono : ∀ a0 a1 k, LeO (laws_eqByteS.f k a0 a1) (laws_eqByteS.f (k + 1) a0 a1) := by
 intro a0 a1 k
 have ih0 := laws_eqByteS.mono_l k
 unfold laws_eqByteS.f
 repeat' first
   | (with_reducible exact ih0 _ _ _)
   | (with_reducible exact LeO.refl _)
   | (with_reducible exact LeO.none _)
   | (with_reducible refine LeO.ite ?_ ?_)
   | (with_reducible refine LeO.bind ?_ (fun _ => ?_))
   | exact ih0 _ _ _
   | exact LeO.none _
   | refine LeO.ite ?_ ?_
   | refine LeO.bind ?_ (fun _ => ?_)
set_option maxHeartbeats 8000000 in
set_option maxRecDepth 100000 in
theorem laws_eqByteS.calls (k : Nat) (A0 : Option Addr) (c0 : Nat) (l0 : List Int) (A1 : Option Addr) (c1 : Nat) (l1 : List Int) (r : Bool) (w : World) (hr0 : Kd.C (Kd.int .u8) w A0 l0.length l0) (hc0 : l0.length ≤ c0) (hr1 : Kd.C (Kd.int .u8) w A1 l1.length l1) (hc1 : l1.length ≤ c1) (h : laws_eqByteS.f k l0 l1 = some r) :
  Calls Try.prog 27 #[.slice A0 l0.length c0, .slice A1 l1.length c1] w fun e w' => e = .returned (.bool r) ∧ Drawn0 w w' := by
 have HR0 := mk_ hr0
 have HC0 := mk_ hc0
 clear hr0 hc0
 have HR1 := mk_ hr1
 have HC1 := mk_ hc1
 clear hr1 hc1
 have H : (if (l0.length : Int) = (l1.length : Int) then (laws_eqByteS.l0 k l0 l1 0) else (some false)) = some r := h
 clear h
 by_cases c3 : (l0.length : Int) = (l1.length : Int)
 rotate_left
 ·rw [if_neg c3] at H
  have c3b0 : ((l0.length : Int) == (l1.length : Int)) = false := beq_eq_false_iff_ne.mpr c3
  have c3b1 : ((l0.length : Int) != (l1.length : Int)) = true := bne_iff_ne.mpr c3
  have c3b2 : (l0.length == l1.length) = false := by first | simpa using c3 | (simp at c3 ⊢; omega)
  obtain rfl := Option.some.inj H
  go_enter Try.func27, Try.ntmps27
  go_wp2
  repeat (go_quiet (fail); try go_wp2)
  go_ret
  exact ⟨by first | rfl | (simp; done) | (simp [*]; done), by repeat (first | exact Drawn0.refl _ | apply Drawn0.step)⟩
 rw [if_pos c3] at H
 have c3b0 : ((l0.length : Int) == (l1.length : Int)) = true := beq_iff_eq.mpr c3
 have c3b1 : ((l0.length : Int) != (l1.length : Int)) = false := bne_eq_false_iff_eq.mpr c3
 have c3b2 : (l0.length == l1.length) = true := by first | simpa using c3 | (simp at c3 ⊢; omega)
 clear c3
 have H' := mk_ H
 clear H
 go_enter Try.func27, Try.ntmps27
 go_wp2
 repeat (go_quiet (fail); try go_wp2)
 go_loopg [5] k (fun kq v5 w' => ∃ (x5_1 : Int), v5 = .int .i64 x5_1 ∧ Aside0 (laws_eqByteS.l0 kq l0 l1 x5_1 = some r) ∧ Aside0 (kq ≤ k) ∧ Drawn0 w w')
 case atStart => exact ⟨(0), (by first | rfl | (simp; done) | (simp [*]; done)), H', ⟨Nat.le_refl _⟩, by repeat (first | exact Drawn0.refl _ | apply Drawn0.step)⟩
 case round =>
  clear H'
  try clear c1
  try clear c2
  try clear p2
  try clear c3
  try clear c3b0
  try clear c3b1
  try clear c3b2
  obtain ⟨x5_1, rfl, HA, HK1, ⟨m1, rfl⟩⟩ := hrel
  cases gk with
  | zero => exact absurd HA.out (by simp [laws_eqByteS.l0])
  | succ k1 =>
   have H := HA.out
   clear HA
   simp only [laws_eqByteS.l0] at H
   by_cases c4 : x5_1 < (l0.length : Int)
   rotate_left
   ·rw [if_neg c4] at H
    have c4b0 : decide (x5_1 < (l0.length : Int)) = false := decide_eq_false c4
    clear c4
    obtain rfl := Option.some.inj H
    go_wp2
    repeat (go_quiet (fail); try go_wp2)
    go_ret
    exact ⟨by first | rfl | (simp; done) | (simp [*]; done), by repeat (first | exact Drawn0.refl _ | apply Drawn0.step)⟩
   rw [if_pos c4] at H
   have c4b0 : decide (x5_1 < (l0.length : Int)) = true := decide_eq_true c4
   clear c4
   by_cases c5 : 0 ≤ x5_1
   rotate_left
   ·rw [if_neg c5] at H
    exact absurd H (by simp)
   rw [if_pos c5] at H
   have c5b0 : decide (0 ≤ x5_1) = true := decide_eq_true c5
   clear c5
   by_cases c6 : x5_1 < (l1.length : Int)
   rotate_left
   ·rw [if_neg c6] at H
    exact absurd H (by simp)
   rw [if_pos c6] at H
   have c6b0 : decide (x5_1 < (l1.length : Int)) = true := decide_eq_true c6
   clear c6
   by_cases c7 : (rd l0 x5_1) = (rd l1 x5_1)
   rotate_left
   ·rw [if_neg c7] at H
    have c7b0 : ((rd l0 x5_1) == (rd l1 x5_1)) = false := beq_eq_false_iff_ne.mpr c7
    have c7b1 : ((rd l0 x5_1) != (rd l1 x5_1)) = true := bne_iff_ne.mpr c7
    obtain rfl := Option.some.inj H
    have p323 : 0 ≤ (x5_1 : Int) := of_decide_eq_true (by first | (with_reducible assumption) | assumption)
    have q323 : x5_1 < (l0.length : Int) := of_decide_eq_true (by first | (with_reducible assumption) | assumption)
    obtain ⟨ad323, e323, hx323_0⟩ := Kd.at_int HR0.out x5_1 p323 q323
    cases e323
    replace p323 := eq_true p323
    replace q323 := eq_true q323
    have p324 : 0 ≤ (x5_1 : Int) := of_decide_eq_true (by first | (with_reducible assumption) | assumption)
    have q324 : x5_1 < (l1.length : Int) := of_decide_eq_true (by first | (with_reducible assumption) | assumption)
    obtain ⟨ad324, e324, hx324_0⟩ := Kd.at_int HR1.out x5_1 p324 q324
    cases e324
    replace p324 := eq_true p324
    replace q324 := eq_true q324
    go_wp2
    repeat (go_quiet (fail); try go_wp2)
    go_ret
    exact ⟨by first | rfl | (simp; done) | (simp [*]; done), by repeat (first | exact Drawn0.refl _ | apply Drawn0.step)⟩
   rw [if_pos c7] at H
   have c7b0 : ((rd l0 x5_1) == (rd l1 x5_1)) = true := beq_iff_eq.mpr c7
   have c7b1 : ((rd l0 x5_1) != (rd l1 x5_1)) = false := bne_eq_false_iff_eq.mpr c7
   clear c7
   have H' := mk_ H
   clear H
   have p323 : 0 ≤ (x5_1 : Int) := of_decide_eq_true (by first | (with_reducible assumption) | assumption)
   have q323 : x5_1 < (l0.length : Int) := of_decide_eq_true (by first | (with_reducible assumption) | assumption)
   obtain ⟨ad323, e323, hx323_0⟩ := Kd.at_int HR0.out x5_1 p323 q323
   cases e323
   replace p323 := eq_true p323
   replace q323 := eq_true q323
   have p324 : 0 ≤ (x5_1 : Int) := of_decide_eq_true (by first | (with_reducible assumption) | assumption)
   have q324 : x5_1 < (l1.length : Int) := of_decide_eq_true (by first | (with_reducible assumption) | assumption)
   obtain ⟨ad324, e324, hx324_0⟩ := Kd.at_int HR1.out x5_1 p324 q324
   cases e324
   replace p324 := eq_true p324
   replace q324 := eq_true q324
   go_wp2
   repeat (go_quiet (fail); try go_wp2)
   go_roundg k1
   case measure => have := HK1.out; omega
   case rel => exact ⟨(wrap64 (x5_1 + 1)), (by first | rfl | (simp; done) | (simp [*]; done)), H', ⟨by have := HK1.out; omega⟩, by repeat (first | exact Drawn0.refl _ | apply Drawn0.step)⟩

end Go.Proofs.Ytfcocnhkimbpbab.MFnExactSegmentBytes
