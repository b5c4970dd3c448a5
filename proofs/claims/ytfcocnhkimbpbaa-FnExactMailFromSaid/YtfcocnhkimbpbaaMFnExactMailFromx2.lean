/- Functions that the law FnExactMailFrom reaches, each with the proof that the machine's call comes to just its answer; no conditions but those that each theorem states. Printed by a program of this session over the kit's print. -/
import Derived.Test.YtfcocnhkimbpbaaMFnExactMailFromx0
import Derived.Test.YtfcocnhkimbpbaaMFnExactMailFromx1
import Derived.RangeFuncNested
import Derived.RangeFuncBound
import Derived.RangeFuncCalls
import Derived.RangeFuncLeaves
import Derived.RangeFuncBox
import Derived.RangeFuncFrom
import Derived.RangeFuncWrites
import Derived.Shelf.Abstract
import Derived.WalkKit
import Derived.OwnWalkIn
import Derived.TacticsInMore
import Derived.LoopNIn
import Derived.LoopIn
import Derived.BigRegionIn
namespace Go.Proofs.Ytfcocnhkimbpbaa.MFnExactMailFrom
open Go.RowKit Go.Proofs.YtfcocnhkimbpbaaV.PrintWords Go.Proofs.YtfcocnhkimbpbaaV.PrintLast Go.Proofs.YtfcocnhkimbpbaaV.PrintMore
attribute [local go_sem] max2_int min2_int max_two min_two max_three min_three max_four min_four   -- for this text's walks alone
set_option linter.unusedVariables false
set_option linter.unusedSimpArgs false

/-! ### impl_added: function 63 -/
def impl_added.l0 : Nat → Int → List Int → Int → Int → Option (Int)
 | 0, _, _, _, _ => none
 | k + 1, x3, x6, x7, x8 => if x8 < x7 then (if 0 ≤ x8 then (if x8 < (x6.length : Int) then (if (wrap64 (x3 + (rd x6 x8))) > 65535 then (impl_added.l0 k (wrap64 ((wrap64 (x3 + (rd x6 x8))) - 65535)) x6 x7 (wrap64 (x8 + 1))) else (impl_added.l0 k (wrap64 (x3 + (rd x6 x8))) x6 x7 (wrap64 (x8 + 1)))) else (none)) else (none)) else (some x3)
def impl_added.f (k : Nat) (l0 : List Int) : Option (Int) := impl_added.l0 k 0 l0 (l0.length : Int) 0
theorem impl_added.mono_l : ∀ k, (∀ y0 y1 y2 y3, LeO (impl_added.l0 k y0 y1 y2 y3) (impl_added.l0 (k + 1) y0 y1 y2 y3))
 | 0 => fun _ _ _ _ r h => by simp [impl_added.l0] at h
 | k + 1 => by
  have ih0 := impl_added.mono_l k
  ·intro y0 y1 y2 y3
   unfold impl_added.l0
   repeat' first
   | (with_reducible exact ih0 _ _ _ _)
   | (with_reducible exact LeO.refl _)
   | (with_reducible exact LeO.none _)
   | (with_reducible refine LeO.ite ?_ ?_)
   | (with_reducible refine LeO.bind ?_ (fun _ => ?_))
   | exact ih0 _ _ _ _
   | exact LeO.none _
   | refine LeO.ite ?_ ?_
   | refine LeO.bind ?_ (fun _ => ?_)
theorem impl_added.mono : ∀ a0 k, LeO (impl_added.f k a0) (impl_added.f (k + 1) a0) := by
 intro a0 k
 have ih0 := impl_added.mono_l k
 unfold impl_added.f
 repeat' first
   | (with_reducible exact ih0 _ _ _ _)
   | (with_reducible exact LeO.refl _)
   | (with_reducible exact LeO.none _)
   | (with_reducible refine LeO.ite ?_ ?_)
   | (with_reducible refine LeO.bind ?_ (fun _ => ?_))
   | exact ih0 _ _ _ _
   | exact LeO.none _
   | refine LeO.ite ?_ ?_
   | refine LeO.bind ?_ (fun _ => ?_)
set_option maxHeartbeats 8000000 in
set_option maxRecDepth 100000 in
theorem impl_added.calls (k : Nat) (A0 : Option Addr) (c0 : Nat) (l0 : List Int) (r : Int) (w : World) (hr0 : Kd.C (Kd.int .i64) w A0 l0.length l0) (hc0 : l0.length ≤ c0) (h : impl_added.f k l0 = some r) :
  Calls Try.prog 63 #[.slice A0 l0.length c0] w fun e w' => e = .returned (.int .i64 r) ∧ Drawn0 w w' := by
 have HR0 := mk_ hr0
 have HC0 := mk_ hc0
 clear hr0 hc0
 have H : (impl_added.l0 k 0 l0 (l0.length : Int) 0) = some r := h
 clear h
 have H' := mk_ H
 clear H
 go_enter Try.func63, Try.ntmps63
 go_wp2
 go_loopg [3, 8] k (fun kq v3 v8 w' => ∃ (x3_1 : Int) (x8_1 : Int), v3 = .int .i64 x3_1 ∧ v8 = .int .i64 x8_1 ∧ Aside0 (impl_added.l0 kq x3_1 l0 (l0.length : Int) x8_1 = some r) ∧ Aside0 (kq ≤ k) ∧ Drawn0 w w')
 case atStart => exact ⟨(0), (0), (by first | rfl | (simp; done) | (simp [*]; done)), (by first | rfl | (simp; done) | (simp [*]; done)), H', ⟨Nat.le_refl _⟩, by repeat (first | exact Drawn0.refl _ | apply Drawn0.step)⟩
 case round =>
  clear H'
  obtain ⟨x3_1, x8_1, rfl, rfl, HA, HK1, ⟨m1, rfl⟩⟩ := hrel
  cases gk with
  | zero => exact absurd HA.out (by simp [impl_added.l0])
  | succ k1 =>
   have H := HA.out
   clear HA
   simp only [impl_added.l0] at H
   by_cases c2 : x8_1 < (l0.length : Int)
   rotate_left
   ·rw [if_neg c2] at H
    have c2b0 : decide (x8_1 < (l0.length : Int)) = false := decide_eq_false c2
    clear c2
    obtain rfl := Option.some.inj H
    go_wp2
    go_ret
    exact ⟨by first | rfl | (simp; done) | (simp [*]; done), by repeat (first | exact Drawn0.refl _ | apply Drawn0.step)⟩
   rw [if_pos c2] at H
   have c2b0 : decide (x8_1 < (l0.length : Int)) = true := decide_eq_true c2
   clear c2
   by_cases c3 : 0 ≤ x8_1
   rotate_left
   ·rw [if_neg c3] at H
    exact absurd H (by simp)
   rw [if_pos c3] at H
   have c3b0 : decide (0 ≤ x8_1) = true := decide_eq_true c3
   clear c3
   by_cases c4 : x8_1 < (l0.length : Int)
   rotate_left
   ·rw [if_neg c4] at H
    exact absurd H (by simp)
   rw [if_pos c4] at H
   have c4b0 : decide (x8_1 < (l0.length : Int)) = true := decide_eq_true c4
   clear c4
   by_cases c5 : (wrap64 (x3_1 + (rd l0 x8_1))) > 65535
   ·rw [if_pos c5] at H
    have c5b0 : decide (65535 < (wrap64 (x3_1 + (rd l0 x8_1)))) = true := decide_eq_true c5
    clear c5
    have H' := mk_ H
    clear H
    have p120 : 0 ≤ (x8_1 : Int) := of_decide_eq_true (by first | (with_reducible assumption) | assumption)
    have q120 : x8_1 < (l0.length : Int) := of_decide_eq_true (by first | (with_reducible assumption) | assumption)
    obtain ⟨ad120, e120, hx120_0⟩ := Kd.at_int HR0.out x8_1 p120 q120
    cases e120
    replace p120 := eq_true p120
    replace q120 := eq_true q120
    go_wp2
    go_roundg k1
    case measure => have := HK1.out; omega
    case rel => exact ⟨(wrap64 ((wrap64 (x3_1 + (rd l0 x8_1))) - 65535)), (wrap64 (x8_1 + 1)), (by first | rfl | (simp; done) | (simp [*]; done)), (by first | rfl | (simp; done) | (simp [*]; done)), H', ⟨by have := HK1.out; omega⟩, by repeat (first | exact Drawn0.refl _ | apply Drawn0.step)⟩
   rw [if_neg c5] at H
   have c5b0 : decide (65535 < (wrap64 (x3_1 + (rd l0 x8_1)))) = false := decide_eq_false c5
   clear c5
   have H' := mk_ H
   clear H
   have p120 : 0 ≤ (x8_1 : Int) := of_decide_eq_true (by first | (with_reducible assumption) | assumption)
   have q120 : x8_1 < (l0.length : Int) := of_decide_eq_true (by first | (with_reducible assumption) | assumption)
   obtain ⟨ad120, e120, hx120_0⟩ := Kd.at_int HR0.out x8_1 p120 q120
   cases e120
   replace p120 := eq_true p120
   replace q120 := eq_true q120
   go_wp2
   go_roundg k1
   case measure => have := HK1.out; omega
   case rel => exact ⟨(wrap64 (x3_1 + (rd l0 x8_1))), (wrap64 (x8_1 + 1)), (by first | rfl | (simp; done) | (simp [*]; done)), (by first | rfl | (simp; done) | (simp [*]; done)), H', ⟨by have := HK1.out; omega⟩, by repeat (first | exact Drawn0.refl _ | apply Drawn0.step)⟩

/-! ### impl_sumOf: function 42 -/
namespace SumOf_
open Go.Shelf
attribute [local go_sem] Oper.semAt_some
/-- The places of a row. -/
abbrev so_Pl (L : Nat) := { i : Nat // i < L }
/-- The cut of at most two from a place on. -/
def so_cutAt (ad : Addr) (L : Nat) (x : so_Pl L) : Value := .slice (some (ad.add x.1)) (min 2 (L - x.1)) (min 2 (L - x.1))
/-- The first k even places. -/
def so_evens (L : Nat) (h : 0 < L) (k : Nat) : List (so_Pl L) := (List.range k).map fun j => if h2 : 2 * j < L then ⟨2 * j, h2⟩ else ⟨0, h⟩
theorem so_evens_succ (L : Nat) (h : 0 < L) (k : Nat) (hk : 2 * k < L) : so_evens L h (k + 1) = so_evens L h k ++ [⟨2 * k, hk⟩] := by simp [so_evens, List.range_succ, hk]
theorem so_evens_length (L : Nat) (h : 0 < L) (k : Nat) : (so_evens L h k).length = k := by simp [so_evens]
/-- What a round keeps: the iterator's two cells, and whatever lay below. -/
def so_Kq (Bs Bn n₀ : Nat) (A B : World) : Prop := (∀ v, A.cell? ⟨Bs, 0, none⟩ = some v → B.cell? ⟨Bs, 0, none⟩ = some v) ∧ (∀ v, A.cell? ⟨Bn, 0, none⟩ = some v → B.cell? ⟨Bn, 0, none⟩ = some v) ∧ Below n₀ A B

theorem so_cut_l (ad : Addr) (L c0 k : Nat) (hk : k < L) (hc : L ≤ c0) (W' : World) : (Instr.slice 22 (.slice (some ad) L c0) (some (.int .i64 (k : Nat))) none none).run Try.prog W' = .ok (.slice (some (ad.add k)) (L - k) (c0 - k)) W' := by
  obtain ⟨i0, hi, _, hsz, _⟩ := info_parts info5
  have ht := Try.underlying22
  have hel : Try.prog.elem 22 = 5 := by simp [Program.elem, ht]
  have hu : Try.prog.underlying 22 = some (.slice (Try.prog.elem 22)) := by rw [hel]; exact ht
  rw [run_slice_l W' 22 (some ad) L c0 hu .i64 (k : Int) (by omega) (by omega), hel]
  have h1 : ¬ c0 = k := by omega
  simp [sizeOf, typeInfo, hi, hsz, sliced, Result.andThen, h1]
theorem so_cut_lhm (ad : Addr) (L c0 k m : Nat) (hk : k < L) (hm : 0 < m) (hc : k + m ≤ L) (hcc : L ≤ c0) (W' : World) : (Instr.slice 22 (.slice (some ad) L c0) (some (.int .i64 (k : Nat))) (some (.int .i64 ((k + m : Nat) : Int))) (some (.int .i64 ((k + m : Nat) : Int)))).run Try.prog W' = .ok (.slice (some (ad.add k)) m m) W' := by
  obtain ⟨i0, hi, _, hsz, _⟩ := info_parts info5
  have ht := Try.underlying22
  have hel : Try.prog.elem 22 = 5 := by simp [Program.elem, ht]
  have hu : Try.prog.underlying 22 = some (.slice (Try.prog.elem 22)) := by rw [hel]; exact ht
  rw [run_slice_lhm W' 22 (some ad) L c0 hu .i64 .i64 .i64 (k : Int) ((k + m : Nat) : Int) ((k + m : Nat) : Int) (by omega) (by omega) (by omega) (by omega), hel]
  have h1 : ¬ k + m = k := by omega
  simp only [sizeOf, typeInfo, sliced]
  simp [hi, hsz, Result.andThen]
  omega
set_option maxRecDepth 100000 in
set_option maxHeartbeats 4000000 in
theorem so_chunk1_in (F : Fence) (n : Nat) (hF : F.fn 78) (hro : F.round = none) (hn : 1 ≤ n) (l Bs Bn n₀ : Nat) (ad : Addr) (L c0 : Nat) (hL : 0 < L) (hreach : L ≤ 140737488355328) (hcap : L ≤ c0) (J Jx : List (so_Pl L) → World → Prop) (hJd : ∀ s W, J s W → J s W.drew)
    (hY : ∀ pre x W, J pre W → pre.length < L → YieldAt F (n - 1) Try.prog l #[so_cutAt ad L x] W fun e W' =>
      (e = .returned (.bool true) ∧ J (pre ++ [x]) W' ∧ so_Kq Bs Bn n₀ W W') ∨ (e = .returned (.bool false) ∧ Jx (pre ++ [x]) W'))
    (W : World) (hBs : W.cell? ⟨Bs, 0, none⟩ = some (.slice (some ad) L c0)) (hBn : W.cell? ⟨Bn, 0, none⟩ = some (.int .i64 2)) (h0 : J [] W) :
    CallsIn F n Try.prog 78 #[.func (.yield l) #[] #[], .pointer (some ⟨Bs, 0, none⟩), .pointer (some ⟨Bn, 0, none⟩)] W fun e W' => (∃ v, e = .returned v) ∧
      ((∃ ys, ys = so_evens L hL ((L + 1) / 2) ∧ J ys W') ∨ (∃ pre, True ∧ Jx pre W')) := by
  refine callsIn_of_wp Try.func78 rfl hF ?_ hro
  simp only [Try.ntmps78, List.size_toArray, List.length_cons, List.length_nil, Nat.reduceAdd, Nat.reduceSub, Array.replicate_succ, Array.replicate_zero, List.push_toArray, List.append_toArray, List.nil_append, List.cons_append]
  gi_wp2
  gi_loopw [4] (fun i wr => ∃ k : Nat, 2 * k ≤ L + 1 ∧ i = .int .i64 (2 * k : Nat) ∧ J (so_evens L hL k) wr ∧ so_Kq Bs Bn n₀ W wr)
    (fun i _ => L + 1 - (intOf i).toNat)
  case atStart => exact ⟨0, Nat.zero_le _, rfl, h0, fun v h => h, fun v h => h, Below.refl _ _⟩
  case round =>
    obtain ⟨k, hk, rfl, hJs, hk1, hk2, hk3⟩ := hrel
    have c1 := hk1 _ hBs
    have c2 := hk2 _ hBn
    by_cases hlt : 2 * k < L
    · obtain ⟨fn, tmps, assign, body, hy, hR⟩ := hY _ ⟨2 * k, hlt⟩ wr hJs (by rw [so_evens_length]; omega)
      have hs1 := so_cut_l ad L c0 (2 * k) hlt hcap
      obtain ⟨m, hm⟩ : ∃ m, m = min 2 (L - 2 * k) := ⟨_, rfl⟩
      have hmi : (if ((L - 2 * k : Nat) : Int) < 2 then ((L - 2 * k : Nat) : Int) else 2) = (m : Int) := by split <;> omega
      have hs2 := so_cut_lhm ad L c0 (2 * k) m hlt (by omega) (by omega) hcap
      have hsum : IntKind.i64.wrap (((2 * k : Nat) : Int) + (m : Int)) = ((2 * k + m : Nat) : Int) := by rw [i64_w]; unfold wrap64; omega
      have hsum2 : wrap64 (((2 * k : Nat) : Int) + (m : Int)) = ((2 * k + m : Nat) : Int) := by unfold wrap64; omega
      have hnext : wrap64 (((2 * k : Nat) : Int) + 2) = ((2 * (k + 1) : Nat) : Int) := by unfold wrap64; omega
      obtain ⟨fn, tmps, assign, body, hy, hR⟩ := hY _ ⟨2 * k, hlt⟩ wr.drew (hJd _ _ hJs) (by rw [so_evens_length]; omega)
      simp only [so_cutAt] at hy
      have c1' : wr.drew.cell? ⟨Bs, 0, none⟩ = some (.slice (some ad) L c0) := c1
      have c2' : wr.drew.cell? ⟨Bn, 0, none⟩ = some (.int .i64 2) := c2
      generalize hkk : 2 * k = kk at *
      gi_wp2
      gi_region
      all_goals (simp only [← hm])
      all_goals gi_wp2
      all_goals
        refine hR.mono ?_
        rintro e W3 (⟨rfl, hJ3, hk4, hk5, hk6⟩ | ⟨rfl, hJx3⟩)
        · have d1 := hk4 _ c1'
          have d2 := hk5 _ c2'
          gi_wp2
          subst hkk
          go_roundw
          case rel => exact ⟨k + 1, by omega, by first | rfl | (simp; omega) | (go_num), by rw [so_evens_succ L hL k hlt]; exact hJ3, fun v h => by rw [hBs] at h; rw [← h]; exact d1, fun v h => by rw [hBn] at h; rw [← h]; exact d2, (hk3.drew).trans hk6⟩
          case measure => simp [intOf]; omega
        · gi_wp2
          refine bodyPost_ret (results_none rfl _ _ _) rfl ?_
          exact ⟨⟨_, rfl⟩, .inr ⟨_, trivial, hJx3⟩⟩
    · obtain rfl : k = (L + 1) / 2 := by omega
      gi_wp2
      go_end0
      exact ⟨⟨_, rfl⟩, .inl ⟨_, rfl, hJs⟩⟩
set_option maxRecDepth 100000 in
set_option maxHeartbeats 2000000 in
theorem so_chunk0_in (F : Fence) (n : Nat) (hF : F.fn 78) (hro : F.round = none) (l Bs Bn : Nat) (A0 : Option Addr) (c0 : Nat) {α : Type} (J : List α → World → Prop)
    (W : World) (hBs : W.cell? ⟨Bs, 0, none⟩ = some (.slice A0 0 c0)) (hBn : W.cell? ⟨Bn, 0, none⟩ = some (.int .i64 2)) (h0 : J [] W) :
    CallsIn F n Try.prog 78 #[.func (.yield l) #[] #[], .pointer (some ⟨Bs, 0, none⟩), .pointer (some ⟨Bn, 0, none⟩)] W fun e W' => (∃ v, e = .returned v) ∧ J [] W' := by
  refine callsIn_of_wp Try.func78 rfl hF ?_ hro
  simp only [Try.ntmps78, List.size_toArray, List.length_cons, List.length_nil, Nat.reduceAdd, Nat.reduceSub, Array.replicate_succ, Array.replicate_zero, List.push_toArray, List.append_toArray, List.nil_append, List.cons_append]
  gi_wp2
  gi_loopw [4] (fun i wr => i = .int .i64 0 ∧ J [] wr ∧ wr = W) (fun _ _ => 0)
  case atStart => exact ⟨rfl, h0, rfl⟩
  case round =>
    obtain ⟨rfl, hJs, rfl⟩ := hrel
    gi_wp2
    go_end0
    exact ⟨⟨_, rfl⟩, hJs⟩
set_option maxHeartbeats 1000000 in
theorem so_chunk_in (F : Fence) (n : Nat) (hF : F.fn 62) (hro : F.round = none) (A0 : Option Addr) (L c0 : Nat) (w : World) :
    CallsIn F n Try.prog 62 #[.slice A0 L c0, .int .i64 2] w fun e w' => e = .returned (.func (.func 78) #[] #[.pointer (some ⟨w.heap.size, 0, none⟩), .pointer (some ⟨w.heap.size + 1, 0, none⟩)]) ∧ w' = (w.alloc (.cells #[.slice A0 L c0] 22)).alloc (.cells #[.int .i64 2] 3) := by
  have hmf : ∀ (fn : Fn) (first cap : Array Value) (w : World), (Instr.makeFunc fn first cap).run Try.prog w = .ok (.func fn first cap) w := fun _ _ _ _ => rfl
  have hc : ((w.alloc (.cells #[.slice A0 L c0] 22)).alloc (.cells #[.int .i64 2] 3)).cell? ⟨w.heap.size + 1, 0, none⟩ = some (.int .i64 2) := by
    have := (Boxed.new (w.alloc (.cells #[.slice A0 L c0] 22)) 3 (.int .i64 2)).cell
    rwa [World.size_alloc] at this
  refine callsIn_of_wp Try.func62 rfl hF ?_ hro
  simp only [Try.ntmps62, List.size_toArray, List.length_cons, List.length_nil, Nat.reduceAdd, Nat.reduceSub, Array.replicate_succ, Array.replicate_zero, List.push_toArray, List.append_toArray, List.nil_append, List.cons_append]
  gi_wp2
  go_ret
  exact ⟨rfl, rfl⟩
theorem so_Kq_t {Bs Bn n₀ : Nat} {A B C : World} (h : so_Kq Bs Bn n₀ A B) (k : so_Kq Bs Bn n₀ B C) : so_Kq Bs Bn n₀ A C := ⟨fun v x => k.1 v (h.1 v x), fun v x => k.2.1 v (h.2.1 v x), h.2.2.trans k.2.2⟩
theorem so_Kq_b {Bs Bn n₀ B : Nat} (hB : n₀ ≤ B) (W : World) (l : Nat) (o o' : Obj) (hl : B ≤ l) (h1 : W.heap[l]? = some o) (h2 : o.isCells = false) (h3 : o.isWalk = false) : so_Kq Bs Bn n₀ W (W.putObj l o') :=
  ⟨fun v h => cell_kept h (grownBy_putObj' W l o') (fun r e => by cases e; exact ⟨o, h1, h2⟩), fun v h => cell_kept h (grownBy_putObj' W l o') (fun r e => by cases e; exact ⟨o, h1, h2⟩), by
    have := belowK_b (w := W) (n₀ := n₀)
    exact ⟨rfl, rfl, rfl, by simp, fun i hi => World.putObj_heap_other (by omega)⟩⟩
theorem so_chunk_stops (F : Fence) (n : Nat) (hF : F.fn 78) (hro : F.round = none) (hn : 1 ≤ n) (Bs Bn n₀ : Nat) (ad : Addr) (L c0 : Nat) (hL : 0 < L) (hreach : L ≤ 140737488355328) (hcap : L ≤ c0) (w : World) (hs : Bs < w.heap.size) (hs' : Bn < w.heap.size)
    (h1 : w.cell? ⟨Bs, 0, none⟩ = some (.slice (some ad) L c0)) (h2 : w.cell? ⟨Bn, 0, none⟩ = some (.int .i64 2)) :
    SeqStopsK F n Try.prog 78 #[.pointer (some ⟨Bs, 0, none⟩), .pointer (some ⟨Bn, 0, none⟩)] (fun x : so_Pl L => #[so_cutAt ad L x]) (so_Kq Bs Bn n₀) (fun ys => ys = so_evens L hL ((L + 1) / 2)) (fun _ => True) L w := fun l J Jx W hW hJ _ hY h0 =>
  so_chunk1_in F n hF hro hn l Bs Bn n₀ ad L c0 hL hreach hcap J Jx (fun s A hA => hJ s A A.drew none hA ⟨rfl, rfl, rfl, Nat.le_refl _, fun _ _ _ => rfl⟩ (fun r e => by cases e)) hY W ((hW.cell (p := ⟨Bs, 0, none⟩) hs).trans h1) ((hW.cell (p := ⟨Bn, 0, none⟩) hs').trans h2) h0
/-- Two bytes, or the last so_one, put side by side. -/
def so_nAt (l : List Int) (i : Nat) : Int := if i + 1 < l.length then Go.bits .or .i64 (wrap64 (wrap64 (rd l (i : Int)) * 256)) (wrap64 (rd l ((i + 1 : Nat) : Int))) else wrap64 (wrap64 (rd l (i : Int)) * 256)
def so_one (a b : Int) : Int := if wrap64 (a + b) > 65535 then wrap64 (wrap64 (a + b) - 65535) else wrap64 (a + b)
def so_addW (s n : Int) : Int := so_one (so_one 0 s) n
theorem so_added2 (k : Nat) (s n : Int) : impl_added.f (k + 3) [s, n] = some (so_addW s n) := by
  have w1 : wrap64 (0 + 1) = 1 := by unfold wrap64; omega
  have w2 : wrap64 (1 + 1) = 2 := by unfold wrap64; omega
  have r0 : rd [s, n] 0 = s := rfl
  have r1 : rd [s, n] 1 = n := rfl
  simp only [impl_added.f]
  rw [impl_added.l0]
  simp only [List.length_cons, List.length_nil, r0, w1]
  rw [if_pos (by decide), if_pos (by decide), if_pos (by decide)]
  have step : ∀ a : Int, impl_added.l0 (k + 2) a [s, n] (((0 + 1 + 1 : Nat) : Int)) 1 = some (so_one a n) := by
    intro a
    rw [impl_added.l0]
    simp only [List.length_cons, List.length_nil, r1, w2]
    rw [if_pos (by decide), if_pos (by decide), if_pos (by decide)]
    unfold so_one
    split
    · rw [impl_added.l0, if_neg (by decide)]
    · rw [impl_added.l0, if_neg (by decide)]
  unfold so_addW
  rw [step, step]
  split
  · rename_i h; rw [show so_one 0 s = wrap64 (wrap64 (0 + s) - 65535) by unfold so_one; rw [if_pos h]]
  · rename_i h; rw [show so_one 0 s = wrap64 (0 + s) by unfold so_one; rw [if_neg h]]
def so_sumW (l : List Int) (pre : List (so_Pl l.length)) : Int := pre.foldl (fun s x => so_addW s (so_nAt l x.1)) 0
theorem so_sumW_snoc (l : List Int) (pre : List (so_Pl l.length)) (x : so_Pl l.length) : so_sumW l (pre ++ [x]) = so_addW (so_sumW l pre) (so_nAt l x.1) := by simp [so_sumW]
theorem so_addedAt (W : World) (s n : Int) : Calls Try.prog 63 #[.slice (some ⟨W.heap.size, 0, none⟩) 2 2] (W.alloc (.cells #[.int .i64 s, .int .i64 n] 3)) fun e w' => e = .returned (.int .i64 (so_addW s n)) ∧ Drawn0 (W.alloc (.cells #[.int .i64 s, .int .i64 n] 3)) w' := by
  have hb := blk_new W (.cells #[.int .i64 s, .int .i64 n] 3 (0, 0))
  have hC : Kd.C (Kd.int .i64) (W.alloc (.cells #[.int .i64 s, .int .i64 n] 3)) (some ⟨W.heap.size, 0, none⟩) [s, n].length [s, n] := by
    refine Kd.C_of_reads (d := (0 : Int)) (h1 := fun _ => rfl) ⟨rfl, by simp, fun _ => ⟨_, rfl, fun j hj => ?_⟩⟩
    have h0 := blk_cell hb 0
    have h1 := blk_cell hb 1
    have hj : j = 0 ∨ j = 1 := by simp at hj; omega
    rcases hj with rfl | rfl
    · exact h0
    · exact h1
  exact impl_added.calls 3 (some ⟨W.heap.size, 0, none⟩) 2 [s, n] _ _ hC (by simp) (so_added2 0 s n)
theorem so_cell_ad {W : World} {p : Addr} {v : Value} (o : Obj) (nd : Nat) (h : W.cell? p = some v) : ((W.alloc o).drewN nd).cell? p = some v :=
  show (W.alloc o).cell? p = some v from cell_kept h (World.grownBy_alloc W o none) (fun r e => by cases e)
theorem so_frozen_ad {W : World} {p : Addr} {v : Value} (o : Obj) (nd : Nat) (h : W.cell? p = some v) (hf : W.frozen? p = false) : ((W.alloc o).drewN nd).frozen? p = false :=
  show (W.alloc o).frozen? p = false from (frozen_kept h (World.grownBy_alloc W o none) (fun r e => by cases e)).trans hf
theorem so_pw_below_drewN2 {B : Nat} {w W : World} (h : Below B w W) (n : Nat) : Below B w (W.drewN n) := pw_below_drewN h n
theorem so_roundEnd {w W : World} {u v : Value} (B : Nat) (o : Obj) (nd : Nat) (hu : v.oneCell' = true) (hu' : u.oneCell' = true) (hc : W.cell? ⟨w.heap.size, 0, none⟩ = some u) (hf : W.frozen? ⟨w.heap.size, 0, none⟩ = false) (hB : Below w.heap.size w W) :
    KeepsFrom B W (((W.alloc o).drewN nd).setCell ⟨w.heap.size, 0, none⟩ v) ∧ so_Kq (w.heap.size + 1) (w.heap.size + 1 + 1) w.heap.size W (((W.alloc o).drewN nd).setCell ⟨w.heap.size, 0, none⟩ v) ∧
      ((((W.alloc o).drewN nd).setCell ⟨w.heap.size, 0, none⟩ v).cell? ⟨w.heap.size, 0, none⟩ = some v ∧ (((W.alloc o).drewN nd).setCell ⟨w.heap.size, 0, none⟩ v).frozen? ⟨w.heap.size, 0, none⟩ = false) ∧ Below w.heap.size w (((W.alloc o).drewN nd).setCell ⟨w.heap.size, 0, none⟩ v) := by
  have c2 := so_cell_ad o nd hc
  have f2 := so_frozen_ad o nd hc hf
  have b1 : Below w.heap.size W (((W.alloc o).drewN nd).setCell ⟨w.heap.size, 0, none⟩ v) := (so_pw_below_drewN2 ((Below.refl w.heap.size W).alloc hB.size o) nd).setCell (p := ⟨w.heap.size, 0, none⟩) (Nat.le_refl _) _
  have k0 : KeepsOthers (W.alloc o) ((W.alloc o).drewN nd) := ⟨Nat.le_refl _, fun _ _ h _ => h⟩
  refine ⟨(((KeepsOthers.alloc W o).trans k0).trans (KeepsOthers.setCell _ _ _)).from _, ⟨fun x hx => ?_, fun x hx => ?_, b1⟩, ⟨World.cell?_setCell_same' _ _ _ (by rw [c2]; rfl), by rw [World.frozen?_setCell]; exact f2⟩, hB.trans b1⟩
  · rw [cell_far (by simp)]
    exact so_cell_ad o nd hx
  · rw [cell_far (by simp; omega)]
    exact so_cell_ad o nd hx
set_option maxRecDepth 100000 in
set_option maxHeartbeats 4000000 in
theorem so_sumOf_in (ad : Addr) (c0 : Nat) (l0 : List Int) (w : World) (hr0 : Kd.C (Kd.int .u8) w (some ad) l0.length l0) (hc0 : l0.length ≤ c0) (hL : 0 < l0.length) (hlim : l0.length < 140737488355328) :
    CallsIn Fence.wide 5 Try.prog 42 #[.slice (some ad) l0.length c0] w fun e W' => e = .returned (.int .i64 (wrap64 (65535 - so_sumW l0 (so_evens l0.length hL ((l0.length + 1) / 2))))) ∧ Below w.heap.size w W' := by
  refine callsIn_of_wp_marks Try.func42 rfl trivial ?_ rfl
  simp only [Try.ntmps42, List.size_toArray, List.length_cons, List.length_nil, Nat.reduceAdd, Nat.reduceSub, Array.replicate_succ, Array.replicate_zero, List.push_toArray, List.append_toArray, List.nil_append, List.cons_append]
  gi_wp2_with (refine ⟨trivial, ?_⟩; gi_at_call 62; refine (so_chunk_in Fence.wide 4 trivial rfl _ _ _ _).mono ?_; rintro e w' ⟨rfl, rfl⟩)
  have bS := Boxed.new w 3 (.int .i64 0)
  have bs := Boxed.new (w.alloc (.cells #[.int .i64 0] 3)) 22 (.slice (some ad) l0.length c0)
  have bn := Boxed.new ((w.alloc (.cells #[.int .i64 0] 3)).alloc (.cells #[.slice (some ad) l0.length c0] 22)) 3 (.int .i64 2)
  rw [World.size_alloc] at bs
  rw [World.size_alloc, World.size_alloc] at bn
  have hB0 : Below w.heap.size w (((w.alloc (.cells #[.int .i64 0] 3)).alloc (.cells #[.slice (some ad) l0.length c0] 22)).alloc (.cells #[.int .i64 2] 3)) := (((Below.refl _ w).alloc (Nat.le_refl _) _).alloc (by simp) _).alloc (by simp; omega) _
  refine wpIn_rangeFunc_ownG rfl (by decide : 1 ≤ 5) (gf := 78) (lb := #[.pointer (some ⟨w.heap.size + 1, 0, none⟩), .pointer (some ⟨w.heap.size + 1 + 1, 0, none⟩)]) rfl trivial (enters_of Try.func78 (by kernel_rfl) rfl)
    (so_chunk_stops Fence.wide 4 trivial rfl (by omega) (w.heap.size + 1) (w.heap.size + 1 + 1) w.heap.size ad l0.length c0 hL (by omega) hc0 _ (by simp) (by simp) (bs.alloc _).cell bn.cell) so_Kq_t (so_Kq_b hB0.size) (Below.refl _ _) (fun _ => rfl)
    (fun pre W => (W.cell? ⟨w.heap.size, 0, none⟩ = some (.int .i64 (so_sumW l0 pre)) ∧ W.frozen? ⟨w.heap.size, 0, none⟩ = false) ∧ Below w.heap.size w W)
    (fun _ _ _ => False)
    (OwnFrom.and (Own.from (fun s A B row hs hg hr => ⟨cell_kept hs.1 hg hr, (frozen_kept hs.1 hg hr).trans hs.2⟩) _) (ownFrom_below (Nat.le_refl _) (by simp; omega)))
    (fun _ _ _ _ _ hs _ _ => hs)
    ⟨⟨((bS.alloc _).alloc _).cell, ((bS.alloc _).alloc _).frozen⟩, hB0⟩
    (fun x => { tmps := #[.slice (some ad) l0.length c0, undef, .int .i64 0, .pointer (some ⟨w.heap.size, 0, none⟩), so_cutAt ad l0.length x, undef, .slice (some ad) l0.length c0, .func (.func 78) #[] #[.pointer (some ⟨w.heap.size + 1, 0, none⟩), .pointer (some ⟨w.heap.size + 1 + 1, 0, none⟩)], so_cutAt ad l0.length x, undef, undef, undef, undef, undef, undef, undef, undef, undef, undef, undef, undef, undef, undef, undef, undef, undef, undef, undef, undef], defers := [] }) ?assign ?body ?done ?stop
  case assign =>
    intro l x W K hK
    gi_wp2
    exact hK
  case body =>
    rintro lr pre x W ⟨⟨hc, hf⟩, hB⟩ _
    have HRW := Kd.C_below hr0 hB
    have hx := x.2
    obtain ⟨ad', e', h00⟩ := Kd.at_int HRW (x.1 : Int) (by omega) (by omega)
    cases e'
    rw [Int.toNat_natCast] at h00
    by_cases h2 : x.1 + 1 < l0.length
    · have hm : min 2 (l0.length - x.1) = 2 := by omega
      obtain ⟨ad2, e2, h01⟩ := Kd.at_int HRW ((x.1 + 1 : Nat) : Int) (by omega) (by omega)
      cases e2
      rw [Int.toNat_natCast] at h01
      have h01' : W.cell? { block := (ad.add x.1).block, off := (ad.add x.1).off + 1 } = some (.int .u8 (rd l0 ((x.1 + 1 : Nat) : Int))) := by
        have e1 : ({ block := (ad.add x.1).block, off := (ad.add x.1).off + 1 } : Addr) = ad.add (x.1 + 1) := by
          unfold Addr.add
          by_cases h0 : x.1 = 0
          · simp [h0]
          · simp [h0]; omega
        rw [e1]; exact h01
      simp only [so_cutAt, hm]
      gi_wp2_with (refine ⟨trivial, ?_⟩; gi_at_call 63; refine (CallsIn.inRound lr (callsIn_wide.2 (so_addedAt W _ _))).mono ?_; rintro e w' ⟨rfl, ⟨nd, rfl⟩⟩; have hc2 := so_cell_ad (.cells #[.int .i64 (so_sumW l0 pre), .int .i64 (Go.bits .or .i64 (wrap64 (wrap64 (rd l0 (x.1 : Int)) * 256)) (wrap64 (rd l0 ((x.1 : Int) + 1))))] 3) nd hc; have hf2 := so_frozen_ad (.cells #[.int .i64 (so_sumW l0 pre), .int .i64 (Go.bits .or .i64 (wrap64 (wrap64 (rd l0 (x.1 : Int)) * 256)) (wrap64 (rd l0 ((x.1 : Int) + 1))))] 3) nd hc hf)
      obtain ⟨e1, e2, e3, e4⟩ := so_roundEnd (w := w) (W := W) (v := .int .i64 (so_addW (so_sumW l0 pre) (so_nAt l0 x.1))) _ (.cells #[.int .i64 (so_sumW l0 pre), .int .i64 (Go.bits .or .i64 (wrap64 (wrap64 (rd l0 (x.1 : Int)) * 256)) (wrap64 (rd l0 ((x.1 : Int) + 1))))] 3) nd rfl rfl hc hf hB
      have hn : so_nAt l0 x.1 = Go.bits .or .i64 (wrap64 (wrap64 (rd l0 (x.1 : Int)) * 256)) (wrap64 (rd l0 ((x.1 : Int) + 1))) := by unfold so_nAt; rw [if_pos h2]; rfl
      rw [hn] at e1 e2 e3 e4
      exact ⟨e1, e2, ⟨⟨by rw [so_sumW_snoc, hn]; exact e3.1, e3.2⟩, e4⟩⟩
    · have hm : min 2 (l0.length - x.1) = 1 := by omega
      simp only [so_cutAt, hm]
      gi_wp2_with (refine ⟨trivial, ?_⟩; gi_at_call 63; refine (CallsIn.inRound lr (callsIn_wide.2 (so_addedAt W _ _))).mono ?_; rintro e w' ⟨rfl, ⟨nd, rfl⟩⟩; have hc2 := so_cell_ad (.cells #[.int .i64 (so_sumW l0 pre), .int .i64 (wrap64 (wrap64 (rd l0 (x.1 : Int)) * 256))] 3) nd hc; have hf2 := so_frozen_ad (.cells #[.int .i64 (so_sumW l0 pre), .int .i64 (wrap64 (wrap64 (rd l0 (x.1 : Int)) * 256))] 3) nd hc hf)
      obtain ⟨e1, e2, e3, e4⟩ := so_roundEnd (w := w) (W := W) (v := .int .i64 (so_addW (so_sumW l0 pre) (so_nAt l0 x.1))) _ (.cells #[.int .i64 (so_sumW l0 pre), .int .i64 (wrap64 (wrap64 (rd l0 (x.1 : Int)) * 256))] 3) nd rfl rfl hc hf hB
      have hn : so_nAt l0 x.1 = wrap64 (wrap64 (rd l0 (x.1 : Int)) * 256) := by unfold so_nAt; rw [if_neg h2]
      rw [hn] at e1 e2 e3 e4
      exact ⟨e1, e2, ⟨⟨by rw [so_sumW_snoc, hn]; exact e3.1, e3.2⟩, e4⟩⟩
  case done =>
    rintro D ys W hD rfl ⟨⟨hc, _⟩, hB⟩ hK
    gi_wp2
    refine ⟨by simp, .inl ⟨_, _, rfl, run_takeDeferred hK, ?_⟩⟩
    exact ⟨_, results_tmp rfl _ _ _, rfl, hB.trans (belowK_b (w := w) (Nat.le_refl _) W D _ _ (by simp at hD; omega) hK rfl rfl)⟩
  case stop =>
    rintro D c pre W _ _ h _
    exact h.elim
set_option maxRecDepth 100000 in
set_option maxHeartbeats 4000000 in
theorem so_sumOf0_in (A0 : Option Addr) (c0 : Nat) (w : World) :
    CallsIn Fence.wide 5 Try.prog 42 #[.slice A0 0 c0] w fun e W' => e = .returned (.int .i64 65535) ∧ Below w.heap.size w W' := by
  refine callsIn_of_wp_marks Try.func42 rfl trivial ?_ rfl
  simp only [Try.ntmps42, List.size_toArray, List.length_cons, List.length_nil, Nat.reduceAdd, Nat.reduceSub, Array.replicate_succ, Array.replicate_zero, List.push_toArray, List.append_toArray, List.nil_append, List.cons_append]
  gi_wp2_with (refine ⟨trivial, ?_⟩; gi_at_call 62; refine (so_chunk_in Fence.wide 4 trivial rfl _ _ _ _).mono ?_; rintro e w' ⟨rfl, rfl⟩)
  have bS := Boxed.new w 3 (.int .i64 0)
  have bs := Boxed.new (w.alloc (.cells #[.int .i64 0] 3)) 22 (.slice A0 0 c0)
  have bn := Boxed.new ((w.alloc (.cells #[.int .i64 0] 3)).alloc (.cells #[.slice A0 0 c0] 22)) 3 (.int .i64 2)
  rw [World.size_alloc] at bs
  rw [World.size_alloc, World.size_alloc] at bn
  have hB0 : Below w.heap.size w (((w.alloc (.cells #[.int .i64 0] 3)).alloc (.cells #[.slice A0 0 c0] 22)).alloc (.cells #[.int .i64 2] 3)) := (((Below.refl _ w).alloc (Nat.le_refl _) _).alloc (by simp) _).alloc (by simp; omega) _
  have hS : SeqStopsK Fence.wide 4 Try.prog 78 #[.pointer (some ⟨w.heap.size + 1, 0, none⟩), .pointer (some ⟨w.heap.size + 1 + 1, 0, none⟩)] (fun x : so_Pl 0 => #[so_cutAt ⟨0, 0, none⟩ 0 x]) (so_Kq (w.heap.size + 1) (w.heap.size + 1 + 1) w.heap.size) (fun ys => ys = []) (fun _ => True) 0 (((w.alloc (.cells #[.int .i64 0] 3)).alloc (.cells #[.slice A0 0 c0] 22)).alloc (.cells #[.int .i64 2] 3)) :=
    fun l J Jx W hW hJ _ hY h0 => (so_chunk0_in Fence.wide 4 trivial rfl l (w.heap.size + 1) (w.heap.size + 1 + 1) A0 c0 J W ((hW.cell (p := ⟨w.heap.size + 1, 0, none⟩) (by simp)).trans (bs.alloc _).cell) ((hW.cell (p := ⟨w.heap.size + 1 + 1, 0, none⟩) (by simp)).trans bn.cell) h0).mono (fun e W' ⟨he, hj⟩ => ⟨he, .inl ⟨[], rfl, hj⟩⟩)
  refine wpIn_rangeFunc_ownG rfl (by decide : 1 ≤ 5) (gf := 78) (lb := #[.pointer (some ⟨w.heap.size + 1, 0, none⟩), .pointer (some ⟨w.heap.size + 1 + 1, 0, none⟩)]) rfl trivial (enters_of Try.func78 (by kernel_rfl) rfl)
    hS so_Kq_t (so_Kq_b hB0.size) (Below.refl _ _) (fun _ => rfl)
    (fun pre W => (W.cell? ⟨w.heap.size, 0, none⟩ = some (.int .i64 0) ∧ W.frozen? ⟨w.heap.size, 0, none⟩ = false) ∧ Below w.heap.size w W)
    (fun _ _ _ => False)
    (OwnFrom.and (Own.from (fun s A B row hs hg hr => ⟨cell_kept hs.1 hg hr, (frozen_kept hs.1 hg hr).trans hs.2⟩) _) (ownFrom_below (Nat.le_refl _) (by simp; omega)))
    (fun _ _ _ _ _ hs _ _ => hs)
    ⟨⟨((bS.alloc _).alloc _).cell, ((bS.alloc _).alloc _).frozen⟩, hB0⟩
    (fun x => { tmps := #[], defers := [] }) ?assign ?body ?done ?stop
  case assign =>
    intro l x W K hK
    exact absurd x.2 (Nat.not_lt_zero _)
  case body =>
    rintro lr pre x W _ _
    exact absurd x.2 (Nat.not_lt_zero _)
  case done =>
    rintro D ys W hD rfl ⟨⟨hc, _⟩, hB⟩ hK
    gi_wp2
    refine ⟨by simp, .inl ⟨_, _, rfl, run_takeDeferred hK, ?_⟩⟩
    exact ⟨_, results_tmp rfl _ _ _, rfl, hB.trans (belowK_b (w := w) (Nat.le_refl _) W D _ _ (by simp at hD; omega) hK rfl rfl)⟩
  case stop =>
    rintro D c pre W _ _ h _
    exact h.elim
/-- The sum of a row's bytes, two by two. -/
def so_sumAll (l : List Int) : Int := if h : 0 < l.length then so_sumW l (so_evens l.length h ((l.length + 1) / 2)) else 0
end SumOf_
open SumOf_ in
def impl_sumOf.f (l0 : List Int) : Option Int := if l0.length < 140737488355328 then some (wrap64 (65535 - so_sumAll l0)) else none
open SumOf_ in
theorem impl_sumOf.calls (A0 : Option Addr) (c0 : Nat) (l0 : List Int) (r : Int) (w : World) (hr0 : Kd.C (Kd.int .u8) w A0 l0.length l0) (hc0 : l0.length ≤ c0) (h : impl_sumOf.f l0 = some r) :
    Calls Try.prog 42 #[.slice A0 l0.length c0] w fun e w' => e = .returned (.int .i64 r) ∧ Below w.heap.size w w' := by
  unfold impl_sumOf.f at h
  by_cases hlim : l0.length < 140737488355328
  · rw [if_pos hlim] at h
    obtain rfl := Option.some.inj h
    unfold so_sumAll
    by_cases hL : 0 < l0.length
    · rw [dif_pos hL]
      obtain ⟨ad, rfl, _⟩ := Kd.at_int hr0 0 (by omega) (by omega)
      exact (callsIn_wide (n := 5)).1 (so_sumOf_in ad c0 l0 w hr0 hc0 hL hlim)
    · rw [dif_neg hL, show wrap64 (65535 - 0) = 65535 by unfold wrap64; omega]
      obtain rfl : l0 = [] := List.eq_nil_of_length_eq_zero (by omega)
      exact (callsIn_wide (n := 5)).1 (so_sumOf0_in A0 c0 w)
  · rw [if_neg hlim] at h; cases h

/-! ### impl_between: function 43 -/
def impl_between.f (k : Nat) (a0 : Int) (a1 : Int) : Option (List Int) := (impl_bytesOf.f k a0 2).bind fun t121 => ((impl_bytesOf.f k a1 2).bind fun t124 => ((slices_Concat_byte_byte.f (([t121, t124] : List (List Int)))).bind fun t130 => (some t130)))
theorem impl_between.mono : ∀ a0 a1 k, LeO (impl_between.f k a0 a1) (impl_between.f (k + 1) a0 a1) := by
 intro a0 a1 k
 unfold impl_between.f
 repeat' first
   | (with_reducible exact impl_bytesOf.mono _ _ _)
   | (with_reducible exact LeO.refl _)
   | (with_reducible exact LeO.none _)
   | (with_reducible refine LeO.ite ?_ ?_)
   | (with_reducible refine LeO.bind ?_ (fun _ => ?_))
   | exact impl_bytesOf.mono _ _ _
   | exact LeO.none _
   | refine LeO.ite ?_ ?_
   | refine LeO.bind ?_ (fun _ => ?_)
set_option maxHeartbeats 8000000 in
set_option maxRecDepth 100000 in
theorem impl_between.calls (k : Nat) (a0 : Int) (a1 : Int) (r : List Int) (w : World) (h : impl_between.f k a0 a1 = some r) :
  Calls Try.prog 43 #[.int .i64 a0, .int .i64 a1] w fun e w' => ∃ v0_ : Value, e = .returned (v0_) ∧ Kd.R (Kd.int .u8) 5 w' w.heap.size (fun _ => True) v0_ r ∧ Below w.heap.size w w' := by
 have HB := mk_ (Below.refl w.heap.size w)
 have H : ((impl_bytesOf.f k a0 2).bind fun t121 => ((impl_bytesOf.f k a1 2).bind fun t124 => ((slices_Concat_byte_byte.f (([t121, t124] : List (List Int)))).bind fun t130 => (some t130)))) = some r := h
 clear h
 replace H := Option.bind_eq_some_iff.mp H
 obtain ⟨t121, A30, H⟩ := H
 replace H : ((impl_bytesOf.f k a1 2).bind fun t124 => ((slices_Concat_byte_byte.f (([t121, t124] : List (List Int)))).bind fun t130 => (some t130))) = some r := H
 have A3 := mk_ A30
 clear A30
 replace H := Option.bind_eq_some_iff.mp H
 obtain ⟨t124, A40, H⟩ := H
 replace H : ((slices_Concat_byte_byte.f (([t121, t124] : List (List Int)))).bind fun t130 => (some t130)) = some r := H
 have A4 := mk_ A40
 clear A40
 obtain ⟨y127, hy127⟩ : ∃ y_ : List (List Int), y_ = (([t121, t124] : List (List Int))) := ⟨_, rfl⟩
 replace H : ((slices_Concat_byte_byte.f y127).bind fun t130 => (some t130)) = some r := by first | (rw [hy127]; with_reducible exact H) | (have H2_ := (Option.bind_some _ _).symm.trans H; rw [hy127]; with_reducible exact H2_) | (have H2_ := (Option.bind_some _ _).symm.trans H; with_reducible exact H2_) | with_reducible exact H | (rw [hy127]; exact H) | exact H
 have Ny127 := mk_ hy127
 clear hy127
 replace H := Option.bind_eq_some_iff.mp H
 obtain ⟨t130, A50, H⟩ := H
 replace H : (some t130) = some r := H
 have A5 := mk_ A50
 clear A50
 obtain rfl := Option.some.inj H
 go_enter Try.func43, Try.ntmps43
 go_wp2_with (first | ((with_reducible refine gate_callee (f := 41) rfl ?_); have hA_ := A3.out; refine goesL_ (some 6) rfl rfl Try.func41 (by kernel_rfl) rfl #[.int .i64 a0, .int .i64 2] rfl (by (try simp only [lm_, lo_, ln_]); first | done | rfl | (simp only [List.length_drop, List.length_take]; rfl)) ?_; (with_reducible refine (impl_bytesOf.calls k a0 2 t121 _ A3.out).mono ?_); rintro e w6 ⟨v122, rfl, ho0, hb⟩; refine ⟨_, rfl, ?_⟩; have n0_ := mk_ (Kd.R_lower ho0 (below_size (ub_ HB.out))); have n1_ := mk_ (below_step (ub_ HB.out) hb); clear HB; have HO123 := n0_; have HB := n1_; clear n0_ n1_; (try clear hb); (try clear hb2); (try clear hk); (try clear hi); (try clear ho0); clear hA_ A3) | ((with_reducible refine gate_callee (f := 41) rfl ?_); have hA_ := A4.out; refine goesL_ (some 8) rfl rfl Try.func41 (by kernel_rfl) rfl #[.int .i64 a1, .int .i64 2] rfl (by (try simp only [lm_, lo_, ln_]); first | done | rfl | (simp only [List.length_drop, List.length_take]; rfl)) ?_; (with_reducible refine (impl_bytesOf.calls k a1 2 t124 _ A4.out).mono ?_); rintro e w7 ⟨v125, rfl, ho0, hb⟩; refine ⟨_, rfl, ?_⟩; have n0_ := mk_ (Kd.R_elder' (Kd.ur_ HO123.out) (Kd.R_base ho0) hb); have n1_ := mk_ (Kd.R_lower (Kd.R_new' ho0 (Kd.R_lt (Kd.ur_ HO123.out))) (below_size (ub_ HB.out))); have n2_ := mk_ (below_step (ub_ HB.out) hb); clear HO123; clear HB; have HO123 := n0_; have HO126 := n1_; have HB := n2_; clear n0_ n1_ n2_; (try clear hb); (try clear hb2); (try clear hk); (try clear hi); (try clear ho0); obtain ⟨Ao8, co8, eo8⟩ := Kd.R_slice HO123.out; subst eo8; obtain ⟨Ao9, co9, eo9⟩ := Kd.R_slice HO126.out; subst eo9; clear hA_ A4) | ((with_reducible refine gate_dst (N := 9) rfl ?_); refine Kd.N_lit (Kd.slice 5 (Kd.int .u8)) _ 22 ?hg (N' := 9) ?hd (xs := ([t121, t124] : List (List Int))) (inner := [.slice Ao8 t121.length co8, .slice Ao9 t124.length co9]) (ok := (fun _ => True)) (okp := (fun _ => True)) ?hr ?hp (fun _ hk => hk) ((show ∀ k_, w7.heap.size ≤ k_ → (fun _ => True) k_ from fun k_ hk => trivial) _ (Nat.le_refl _)) (Below.refl _ _) (Nat.le_refl _) (by simp) ?_; (case hd => rfl); (case hg => rfl); (case hr => first | (go_simp; done) | (go_simp; rfl)); (case hp => exact (Reps.one (show Kd.FK (Kd.slice 5 (Kd.int .u8)) _ _ t121 [.slice Ao8 t121.length co8] from (Kd.FK_slice_mk (Kd.R_reads' (Kd.R_mono (ok' := (fun _ => True)) (HO123.out) (fun k_ hk => trivial))).2.1 (Kd.R_F (Kd.R_mono (ok' := (fun _ => True)) (HO123.out) (fun k_ hk => trivial))))) (Reps.one (show Kd.FK (Kd.slice 5 (Kd.int .u8)) _ _ t124 [.slice Ao9 t124.length co9] from (Kd.FK_slice_mk (Kd.R_reads' (Kd.R_mono (ok' := (fun _ => True)) (HO126.out) (fun k_ hk => trivial))).2.1 (Kd.R_F (Kd.R_mono (ok' := (fun _ => True)) (HO126.out) (fun k_ hk => trivial))))) (Reps.none _ _)))); intro v128 w10 ho11 hb hg_ hnew_; clear hg_ hnew_; (first | rw [← Ny127.out] at ho11 | (simp only [Int.reduceToNat] at ho11; rw [← Ny127.out] at ho11)); have n0_ := mk_ (Kd.N_lower ho11 (below_size (ub_ HB.out))); have n1_ := mk_ (below_step (ub_ HB.out) hb); clear HB; clear HO123; clear HO126; have HO129 := n0_; have HB := n1_; clear n0_ n1_; clear hb ho11; obtain ⟨Ao12, co12, eo12⟩ := Kd.N_slice HO129.out; subst eo12) | ((with_reducible refine gate_callee (f := 40) rfl ?_); refine goesL_ (some 10) rfl rfl Try.func40 (by kernel_rfl) rfl #[.slice Ao12 y127.length co12] rfl (by (try simp only [lm_, lo_, ln_]); first | done | rfl | (simp only [List.length_drop, List.length_take]; rfl)) ?_; (with_reducible refine (slices_Concat_byte_byte.calls _ _ y127 t130 _ ?side1 ?side2 A5.out).mono ?_); (case side1 => repeat (first | exact (Kd.N_reads' HO129.out).2.2 | (with_reducible refine Kd.C_alloc ?_ _) | (with_reducible refine Kd.C_drewN ?_ _) | (with_reducible refine Kd.C_drew ?_))); (case side2 => exact (Kd.N_reads' HO129.out).2.1); rintro e w13 ⟨v131, rfl, ho0, hb⟩; refine ⟨_, rfl, ?_⟩; have n0_ := mk_ (Kd.N_elder' (by (with_reducible repeat (first | apply Kd.N_alloc | apply Kd.N_drewN | apply Kd.N_drew)); exact HO129.out) (Kd.R_base ho0) hb); have n1_ := mk_ (Kd.R_lower ho0 (below_size (ub_ HB.out))); have n2_ := mk_ (below_step (ub_ HB.out) hb); clear HO129; clear HB; have HO129 := n0_; have HO132 := n1_; have HB := n2_; clear n0_ n1_ n2_; (try clear hb); (try clear hb2); (try clear hk); (try clear hi); (try clear ho0)))
 go_ret
 exact ⟨_, by first | rfl | (simp [errW_none, errW_some] <;> rfl) | (simp [*, errW_none, errW_some] <;> rfl), by (with_reducible repeat (first | apply Kd.R_alloc | apply Kd.R_drewN | apply Kd.R_drew)); exact HO132.out, by repeat (first | (with_reducible first | exact HB.out | apply na_ | apply nn_ | apply nw_) | exact HB.out)⟩

/-! ### impl_MailBytes: function 12 -/
def impl_MailBytes.j0 : Nat → Int → Bool → Int → Int → Int → List Int → Option (List Int)
 | 0, _, _, _, _, _, _ => none
 | k + 1, x1, x13, x134000, x134001, x134002, x134003 => if x13 = true then (some ([] : List Int)) else ((some (([(x134001) % 256, (x134002) % 256, ((x134003.length : Int)) % 256] : List Int) : List Int)).bind fun y136 => (if y136.length + x134003.length < 140737488355328 then ((some (y136 ++ x134003 : List Int)).bind fun y139 => ((impl_between.f k x134000 x1).bind fun t142 => ((slices_Concat_byte_byte.f (([t142, y139] : List (List Int)))).bind fun t148 => ((impl_sumOf.f t148).bind fun t151 => ((impl_bytesOf.f k t151 2).bind fun t152 => ((slices_Concat_byte_byte.f (([y139, t152] : List (List Int)))).bind fun t158 => (some t158))))))) else (none)))
def impl_MailBytes.f (k : Nat) (a0_0 : Int) (a0_1 : Int) (a0_2 : Int) (l0_3 : List Int) (a1 : Int) : Option (List Int) := (impl_MailOk.f a0_0 a0_1 a0_2 l0_3).bind fun t134 => (if t134 = true then ((impl_word.f a1).bind fun t135 => (impl_MailBytes.j0 k a1 (!t135) a0_0 a0_1 a0_2 l0_3)) else (impl_MailBytes.j0 k a1 true a0_0 a0_1 a0_2 l0_3))
theorem impl_MailBytes.mono_l : ∀ k, (∀ y0 y1 y2 y3 y4 y5, LeO (impl_MailBytes.j0 k y0 y1 y2 y3 y4 y5) (impl_MailBytes.j0 (k + 1) y0 y1 y2 y3 y4 y5))
 | 0 => fun _ _ _ _ _ _ r h => by simp [impl_MailBytes.j0] at h
 | k + 1 => by
  have ih0 := impl_MailBytes.mono_l k
  ·intro y0 y1 y2 y3 y4 y5
   unfold impl_MailBytes.j0
   repeat' first
   | (with_reducible exact ih0 _ _ _ _ _ _)
   | (with_reducible exact impl_between.mono _ _ _)
   | (with_reducible exact impl_bytesOf.mono _ _ _)
   | (with_reducible exact LeO.refl _)
   | (with_reducible exact LeO.none _)
   | (with_reducible refine LeO.ite ?_ ?_)
   | (with_reducible refine LeO.bind ?_ (fun _ => ?_))
   | exact ih0 _ _ _ _ _ _
   | exact impl_between.mono _ _ _
   | exact impl_bytesOf.mono _ _ _
   | exact LeO.none _
   | refine LeO.ite ?_ ?_
   | refine LeO.bind ?_ (fun _ => ?_)
theorem impl_MailBytes.mono : ∀ a0 a1 a2 a3 a4 k, LeO (impl_MailBytes.f k a0 a1 a2 a3 a4) (impl_MailBytes.f (k + 1) a0 a1 a2 a3 a4) := by
 intro a0 a1 a2 a3 a4 k
 have ih0 := impl_MailBytes.mono_l k
 unfold impl_MailBytes.f
 repeat' first
   | (with_reducible exact ih0 _ _ _ _ _ _)
   | (with_reducible exact impl_between.mono _ _ _)
   | (with_reducible exact impl_bytesOf.mono _ _ _)
   | (with_reducible exact LeO.refl _)
   | (with_reducible exact LeO.none _)
   | (with_reducible refine LeO.ite ?_ ?_)
   | (with_reducible refine LeO.bind ?_ (fun _ => ?_))
   | exact ih0 _ _ _ _ _ _
   | exact impl_between.mono _ _ _
   | exact impl_bytesOf.mono _ _ _
   | exact LeO.none _
   | refine LeO.ite ?_ ?_
   | refine LeO.bind ?_ (fun _ => ?_)
set_option maxHeartbeats 8000000 in
set_option maxRecDepth 100000 in
theorem impl_MailBytes.calls (k : Nat) (a0_0 : Int) (a0_1 : Int) (a0_2 : Int) (A0_3 : Option Addr) (c0_3 : Nat) (l0_3 : List Int) (a1 : Int) (r : List Int) (w : World) (hr0_3 : Kd.C (Kd.int .u8) w A0_3 l0_3.length l0_3) (hc0_3 : l0_3.length ≤ c0_3) (h : impl_MailBytes.f k a0_0 a0_1 a0_2 l0_3 a1 = some r) :
  Calls Try.prog 12 #[.agg #[.int .i64 a0_0, .int .i64 a0_1, .int .i64 a0_2, .slice A0_3 l0_3.length c0_3], .int .i64 a1] w fun e w' => ∃ v0_ : Value, e = .returned (v0_) ∧ Kd.R (Kd.int .u8) 5 w' w.heap.size (fun _ => True) v0_ r ∧ Below w.heap.size w w' := by
 have hu27 := Try.underlying27
 have HR0_3 := mk_ hr0_3
 have HC0_3 := mk_ hc0_3
 clear hr0_3 hc0_3
 have HB := mk_ (Below.refl w.heap.size w)
 have H : ((impl_MailOk.f a0_0 a0_1 a0_2 l0_3).bind fun t134 => (if t134 = true then ((impl_word.f a1).bind fun t135 => (impl_MailBytes.j0 k a1 (!t135) a0_0 a0_1 a0_2 l0_3)) else (impl_MailBytes.j0 k a1 true a0_0 a0_1 a0_2 l0_3))) = some r := h
 clear h
 have HC3 := mk_ H
 clear H
 go_enter Try.func12, Try.ntmps12
 go_upto_region 1 with (first | ((with_reducible refine gate_dst (N := 2) rfl ?_); refine box_event ?hg (N := 2) ?hd (cs := #[.int .i64 a0_0, .int .i64 a0_1, .int .i64 a0_2, .slice A0_3 l0_3.length c0_3]) (t := 27) ?hr ?_; (case hd => rfl); (case hg => rfl); (case hr => first | (go_simp; done) | (go_simp; rfl)); intro gb133 hg w4 hbox hb; have n0_ := mk_ (below_step (ub_ HB.out) hb); have n1_ := mk_ (hbox); have n2_ := mk_ ((by rw [hg]; exact (below_size (ub_ HB.out)) : w.heap.size ≤ gb133)); have n3_ := mk_ ((by rw [hg]; exact (below_size (ub_ HB.out)) : w.heap.size ≤ gb133)); clear HB; have HB := n0_; have BK133 := n1_; have GW133 := n2_; have GE133 := ge_ n3_.out; clear n0_ n1_ n2_ n3_; clear hb hbox hg))
 (try simp only [Act.put, la_, lz_, ls_])
 go_cut [13] (fun v13 wc => ∃ (kq : Nat) (x13_2 : Bool), v13 = .bool x13_2 ∧ Aside0 (impl_MailBytes.j0 kq a1 x13_2 a0_0 a0_1 a0_2 l0_3 = some r) ∧ Aside0 (kq ≤ k) ∧ Aside0 (wc.heap[gb133]? = some (.cells #[.int .i64 a0_0, .int .i64 a0_1, .int .i64 a0_2, (.slice A0_3 l0_3.length c0_3)] 27 (0, 0))) ∧ Aside0 (Below w.heap.size w wc))
 case first =>
  have H := HC3.out
  clear HC3
  replace H := Option.bind_eq_some_iff.mp H
  obtain ⟨t134, A50, H⟩ := H
  replace H : (if t134 = true then ((impl_word.f a1).bind fun t135 => (impl_MailBytes.j0 k a1 (!t135) a0_0 a0_1 a0_2 l0_3)) else (impl_MailBytes.j0 k a1 true a0_0 a0_1 a0_2 l0_3)) = some r := H
  have A5 := mk_ A50
  clear A50
  by_cases c6 : t134 = true
  rotate_left
  ·replace c6 := Bool.eq_false_iff.mpr c6
   subst c6
   have H1 : (impl_MailBytes.j0 k a1 true a0_0 a0_1 a0_2 l0_3) = some r := by rw [if_neg (show ¬ (false = true) by decide)] at H; exact H
   clear H
   have H := H1
   clear H1
   have H' := mk_ H
   clear H
   obtain ⟨hcz10_0, hcz10_1, hcz10_2, hcz10_3, hfz10_0, hfz10_1, hfz10_2, hfz10_3⟩ := cells4_ BK133.out
   go_wp2_with (first | ((with_reducible refine gate_callee (f := 38) rfl ?_); refine goesL_ (some 7) rfl rfl Try.func38 (by kernel_rfl) rfl #[.agg #[.int .i64 a0_0, .int .i64 a0_1, .int .i64 a0_2, .slice A0_3 l0_3.length c0_3]] rfl (by (try simp only [lm_, lo_, ln_]); first | done | rfl | (simp only [List.length_drop, List.length_take]; rfl)) ?_; (with_reducible refine (impl_MailOk.calls a0_0 a0_1 a0_2 _ _ l0_3 false _ ?side1 ?side2 A5.out).mono ?_); (case side1 => repeat (first | exact (Kd.C_below HR0_3.out HB.out) | (with_reducible refine Kd.C_alloc ?_ _) | (with_reducible refine Kd.C_drewN ?_ _) | (with_reducible refine Kd.C_drew ?_))); (case side2 => exact HC0_3.out); rintro e w11 ⟨rfl, hb⟩; refine ⟨_, rfl, ?_⟩; have n0_ := mk_ (blk_below (u_ BK133.out) hb); have n1_ := mk_ (below_step (us_ HB.out) hb); clear BK133; clear HB; have BK133 := n0_; have HB := n1_; clear n0_ n1_; (try clear hb); (try clear hb2); (try clear hk); (try clear hi)))
   go_meet
   case rel => exact ⟨_, (true), (by first | rfl | (simp; done) | (simp [*]; done)), H', ⟨by first | omega | exact Nat.le_refl _⟩, ⟨u_ BK133.out⟩, ⟨us_ HB.out⟩⟩
  subst c6
  have H1 : ((impl_word.f a1).bind fun t135 => (impl_MailBytes.j0 k a1 (!t135) a0_0 a0_1 a0_2 l0_3)) = some r := by rw [if_pos rfl] at H; exact H
  clear H
  have H := H1
  clear H1
  replace H := Option.bind_eq_some_iff.mp H
  obtain ⟨t135, A70, H⟩ := H
  replace H : (impl_MailBytes.j0 k a1 (!t135) a0_0 a0_1 a0_2 l0_3) = some r := H
  have A7 := mk_ A70
  clear A70
  have H' := mk_ H
  clear H
  obtain ⟨hcz8_0, hcz8_1, hcz8_2, hcz8_3, hfz8_0, hfz8_1, hfz8_2, hfz8_3⟩ := cells4_ BK133.out
  go_wp2_with (first | ((with_reducible refine gate_callee (f := 38) rfl ?_); refine goesL_ (some 7) rfl rfl Try.func38 (by kernel_rfl) rfl #[.agg #[.int .i64 a0_0, .int .i64 a0_1, .int .i64 a0_2, .slice A0_3 l0_3.length c0_3]] rfl (by (try simp only [lm_, lo_, ln_]); first | done | rfl | (simp only [List.length_drop, List.length_take]; rfl)) ?_; (with_reducible refine (impl_MailOk.calls a0_0 a0_1 a0_2 _ _ l0_3 true _ ?side1 ?side2 A5.out).mono ?_); (case side1 => repeat (first | exact (Kd.C_below HR0_3.out HB.out) | (with_reducible refine Kd.C_alloc ?_ _) | (with_reducible refine Kd.C_drewN ?_ _) | (with_reducible refine Kd.C_drew ?_))); (case side2 => exact HC0_3.out); rintro e w9 ⟨rfl, hb⟩; refine ⟨_, rfl, ?_⟩; have n0_ := mk_ (blk_below (u_ BK133.out) hb); have n1_ := mk_ (below_step (us_ HB.out) hb); clear BK133; clear HB; have BK133 := n0_; have HB := n1_; clear n0_ n1_; (try clear hb); (try clear hb2); (try clear hk); (try clear hi)) | (go_at_call 39; (with_reducible refine (impl_word.calls a1 t135 _ A7.out).mono ?_); rintro e w' ⟨rfl, ⟨nd, rfl⟩⟩))
  go_meet
  case rel => exact ⟨_, (!t135), (by first | rfl | (simp; done) | (simp [*]; done)), H', ⟨by first | omega | exact Nat.le_refl _⟩, ⟨u_ BK133.out⟩, ⟨us_ HB.out⟩⟩
 case rest =>
  clear HC3
  try clear c1
  try clear p2
  try clear c3
  try clear c6
  try clear hcz10_0
  try clear hcz10_1
  try clear hcz10_2
  try clear hcz10_3
  try clear hcz8_0
  try clear hcz8_1
  try clear hcz8_2
  try clear hcz8_3
  try clear hfz10_0
  try clear hfz10_1
  try clear hfz10_2
  try clear hfz10_3
  try clear hfz8_0
  try clear hfz8_1
  try clear hfz8_2
  try clear hfz8_3
  obtain ⟨kq, x13_2, rfl, HA, HJ2, BK133, HB⟩ := hcut
  cases kq with
  | zero => exact absurd HA.out (by simp [impl_MailBytes.j0])
  | succ kj2 =>
   have H := HA.out
   clear HA
   simp only [impl_MailBytes.j0] at H
   by_cases c12 : x13_2 = true
   ·subst c12
    have H1 : (some ([] : List Int)) = some r := by rw [if_pos rfl] at H; exact H
    clear H
    have H := H1
    clear H1
    obtain rfl := Option.some.inj H
    go_wp2
    go_ret
    exact ⟨_, by first | rfl | (simp [errW_none, errW_some] <;> rfl) | (simp [*, errW_none, errW_some] <;> rfl), by first | exact Kd.R_nil _ _ _ _ _ | exact Kd.N_nil _ _ _ _ _ | exact Kd.V_nil _ _ _ _ _ | exact Kd.Q_nil _ _ _ _ _ | exact Kd.S_nil _ _ _ _ _, us_ HB.out⟩
   replace c12 := Bool.eq_false_iff.mpr c12
   subst c12
   have H1 : ((some (([(a0_1) % 256, (a0_2) % 256, ((l0_3.length : Int)) % 256] : List Int) : List Int)).bind fun y136 => (if y136.length + l0_3.length < 140737488355328 then ((some (y136 ++ l0_3 : List Int)).bind fun y139 => ((impl_between.f kj2 a0_0 a1).bind fun t142 => ((slices_Concat_byte_byte.f (([t142, y139] : List (List Int)))).bind fun t148 => ((impl_sumOf.f t148).bind fun t151 => ((impl_bytesOf.f kj2 t151 2).bind fun t152 => ((slices_Concat_byte_byte.f (([y139, t152] : List (List Int)))).bind fun t158 => (some t158))))))) else (none))) = some r := by rw [if_neg (show ¬ (false = true) by decide)] at H; exact H
   clear H
   have H := H1
   clear H1
   obtain ⟨y136, hy136⟩ : ∃ y_ : List Int, y_ = (([(a0_1) % 256, (a0_2) % 256, ((l0_3.length : Int)) % 256] : List Int)) := ⟨_, rfl⟩
   replace H : (if y136.length + l0_3.length < 140737488355328 then ((some (y136 ++ l0_3 : List Int)).bind fun y139 => ((impl_between.f kj2 a0_0 a1).bind fun t142 => ((slices_Concat_byte_byte.f (([t142, y139] : List (List Int)))).bind fun t148 => ((impl_sumOf.f t148).bind fun t151 => ((impl_bytesOf.f kj2 t151 2).bind fun t152 => ((slices_Concat_byte_byte.f (([y139, t152] : List (List Int)))).bind fun t158 => (some t158))))))) else (none)) = some r := by first | (rw [hy136]; with_reducible exact H) | (have H2_ := (Option.bind_some _ _).symm.trans H; rw [hy136]; with_reducible exact H2_) | (have H2_ := (Option.bind_some _ _).symm.trans H; with_reducible exact H2_) | with_reducible exact H | (rw [hy136]; exact H) | exact H
   have Ny136 := mk_ hy136
   clear hy136
   by_cases c13 : y136.length + l0_3.length < 140737488355328
   rotate_left
   ·rw [if_neg c13] at H
    exact absurd H (by simp)
   rw [if_pos c13] at H
   have LMc13 := mk_ c13
   clear c13
   obtain ⟨y139, hy139⟩ : ∃ y_ : List Int, y_ = (y136 ++ l0_3) := ⟨_, rfl⟩
   replace H : ((impl_between.f kj2 a0_0 a1).bind fun t142 => ((slices_Concat_byte_byte.f (([t142, y139] : List (List Int)))).bind fun t148 => ((impl_sumOf.f t148).bind fun t151 => ((impl_bytesOf.f kj2 t151 2).bind fun t152 => ((slices_Concat_byte_byte.f (([y139, t152] : List (List Int)))).bind fun t158 => (some t158)))))) = some r := by first | (rw [hy139]; with_reducible exact H) | (have H2_ := (Option.bind_some _ _).symm.trans H; rw [hy139]; with_reducible exact H2_) | (have H2_ := (Option.bind_some _ _).symm.trans H; with_reducible exact H2_) | with_reducible exact H | (rw [hy139]; exact H) | exact H
   have Ny139 := mk_ hy139
   clear hy139
   replace H := Option.bind_eq_some_iff.mp H
   obtain ⟨t142, A140, H⟩ := H
   replace H : ((slices_Concat_byte_byte.f (([t142, y139] : List (List Int)))).bind fun t148 => ((impl_sumOf.f t148).bind fun t151 => ((impl_bytesOf.f kj2 t151 2).bind fun t152 => ((slices_Concat_byte_byte.f (([y139, t152] : List (List Int)))).bind fun t158 => (some t158))))) = some r := H
   have A14 := mk_ A140
   clear A140
   obtain ⟨y145, hy145⟩ : ∃ y_ : List (List Int), y_ = (([t142, y139] : List (List Int))) := ⟨_, rfl⟩
   replace H : ((slices_Concat_byte_byte.f y145).bind fun t148 => ((impl_sumOf.f t148).bind fun t151 => ((impl_bytesOf.f kj2 t151 2).bind fun t152 => ((slices_Concat_byte_byte.f (([y139, t152] : List (List Int)))).bind fun t158 => (some t158))))) = some r := by first | (rw [hy145]; with_reducible exact H) | (have H2_ := (Option.bind_some _ _).symm.trans H; rw [hy145]; with_reducible exact H2_) | (have H2_ := (Option.bind_some _ _).symm.trans H; with_reducible exact H2_) | with_reducible exact H | (rw [hy145]; exact H) | exact H
   have Ny145 := mk_ hy145
   clear hy145
   replace H := Option.bind_eq_some_iff.mp H
   obtain ⟨t148, A150, H⟩ := H
   replace H : ((impl_sumOf.f t148).bind fun t151 => ((impl_bytesOf.f kj2 t151 2).bind fun t152 => ((slices_Concat_byte_byte.f (([y139, t152] : List (List Int)))).bind fun t158 => (some t158)))) = some r := H
   have A15 := mk_ A150
   clear A150
   replace H := Option.bind_eq_some_iff.mp H
   obtain ⟨t151, A160, H⟩ := H
   replace H : ((impl_bytesOf.f kj2 t151 2).bind fun t152 => ((slices_Concat_byte_byte.f (([y139, t152] : List (List Int)))).bind fun t158 => (some t158))) = some r := H
   have A16 := mk_ A160
   clear A160
   replace H := Option.bind_eq_some_iff.mp H
   obtain ⟨t152, A170, H⟩ := H
   replace H : ((slices_Concat_byte_byte.f (([y139, t152] : List (List Int)))).bind fun t158 => (some t158)) = some r := H
   have A17 := mk_ A170
   clear A170
   obtain ⟨y155, hy155⟩ : ∃ y_ : List (List Int), y_ = (([y139, t152] : List (List Int))) := ⟨_, rfl⟩
   replace H : ((slices_Concat_byte_byte.f y155).bind fun t158 => (some t158)) = some r := by first | (rw [hy155]; with_reducible exact H) | (have H2_ := (Option.bind_some _ _).symm.trans H; rw [hy155]; with_reducible exact H2_) | (have H2_ := (Option.bind_some _ _).symm.trans H; with_reducible exact H2_) | with_reducible exact H | (rw [hy155]; exact H) | exact H
   have Ny155 := mk_ hy155
   clear hy155
   replace H := Option.bind_eq_some_iff.mp H
   obtain ⟨t158, A180, H⟩ := H
   replace H : (some t158) = some r := H
   have A18 := mk_ A180
   clear A180
   obtain rfl := Option.some.inj H
   obtain ⟨hcz19_0, hcz19_1, hcz19_2, hcz19_3, hfz19_0, hfz19_1, hfz19_2, hfz19_3⟩ := cells4_ BK133.out
   go_wp2_with (first | ((with_reducible refine gate_dst (N := 24) rfl ?_); refine Kd.R_lit (Kd.int .u8) _ 5 ?hg (N := 24) ?hd (xs := ([(a0_1) % 256, (a0_2) % 256, ((l0_3.length : Int)) % 256] : List Int)) (inner := [.int .u8 ((a0_1) % 256), .int .u8 ((a0_2) % 256), .int .u8 (((l0_3.length : Int)) % 256)]) (ok := fun _ => True) (okp := fun _ => True) ?hr ?hp (fun _ hk => hk) trivial (Below.refl _ _) (Nat.le_refl _) (by simp) ?_; (case hd => rfl); (case hg => rfl); (case hr => first | (go_simp; done) | (go_simp; rfl)); (case hp => exact (Reps.one (show Kd.M (Kd.int .u8) _ _ _ ((a0_1) % 256) [.int .u8 ((a0_1) % 256)] from rfl) (Reps.one (show Kd.M (Kd.int .u8) _ _ _ ((a0_2) % 256) [.int .u8 ((a0_2) % 256)] from rfl) (Reps.one (show Kd.M (Kd.int .u8) _ _ _ (((l0_3.length : Int)) % 256) [.int .u8 (((l0_3.length : Int)) % 256)] from rfl) (Reps.none _ _))))); intro v137 w20 ho21 hb hg_ hnew_; clear hg_ hnew_; (first | rw [← Ny136.out] at ho21 | (simp only [Int.reduceToNat] at ho21; rw [← Ny136.out] at ho21)); have n0_ := mk_ (Kd.R_lower ho21 (below_size (us_ HB.out))); have n1_ := mk_ (blk_below (u_ BK133.out) hb); have n2_ := mk_ (below_step (us_ HB.out) hb); clear BK133; clear HB; have HO138 := n0_; have BK133 := n1_; have HB := n2_; clear n0_ n1_ n2_; clear hb ho21; obtain ⟨hcz22_0, hcz22_1, hcz22_2, hcz22_3, hfz22_0, hfz22_1, hfz22_2, hfz22_3⟩ := cells4_ BK133.out) | ((with_reducible refine gate_builtin (b := .append) (xs := #[.tmp 24, .tmp 26]) rfl ?_); at_builtin; refine Kd.R_append_rows (Kd.int .u8) (w0 := w) w.heap.size rfl (.tmp 24) (.tmp 26) 22 5 (.int .u8 0) 1 rfl Try.underlying22 info5 rfl (by decide) (by omega) v137 y136 l0_3 _ _ _ (fun _ => True) (fun _ => False) rfl rfl ?aO ?aR (fun _ _ h => h) (fun _ h => h.elim) ?aF ?aB ?aS ?aL ?_; (case aR => repeat (first | exact (Kd.C_below HR0_3.out HB.out) | (with_reducible refine Kd.C_alloc ?_ _) | (with_reducible refine Kd.C_drewN ?_ _) | (with_reducible refine Kd.C_drew ?_))); (case aB => exact (us_ HB.out)); (case aF => exact (fun _ _ => trivial)); (case aO => exact (Kd.ur_ HO138.out)); (case aS => exact (below_size (us_ HB.out))); (case aL => have := LMc13.out; omega); intro v140 w23 ho hb hg hat; rw [← Ny139.out] at ho; have n0_ := mk_ (blk_grown (g := gb133) (o := .cells #[.int .i64 a0_0, .int .i64 a0_1, .int .i64 a0_2, .slice A0_3 l0_3.length c0_3] 27 (0, 0)) (u_ BK133.out) hg (Kd.R_ne HO138.out BK133.out (by decide))); have n1_ := mk_ (hb); have n2_ := mk_ (ho); clear BK133; clear HB; clear HO138; have BK133 := n0_; have HB := n1_; have HO141 := n2_; clear n0_ n1_ n2_; clear ho hb hg hat; obtain ⟨hcz24_0, hcz24_1, hcz24_2, hcz24_3, hfz24_0, hfz24_1, hfz24_2, hfz24_3⟩ := cells4_ BK133.out) | ((with_reducible refine gate_callee (f := 43) rfl ?_); refine goesL_ (some 32) rfl rfl Try.func43 (by kernel_rfl) rfl #[.int .i64 a0_0, .int .i64 a1] rfl (by (try simp only [lm_, lo_, ln_]); first | done | rfl | (simp only [List.length_drop, List.length_take]; rfl)) ?_; (with_reducible refine (impl_between.calls kj2 a0_0 a1 t142 _ A14.out).mono ?_); rintro e w25 ⟨v143, rfl, ho0, hb⟩; refine ⟨_, rfl, ?_⟩; have n0_ := mk_ (Kd.R_elder' (Kd.ur_ HO141.out) (Kd.R_base ho0) hb); have n1_ := mk_ (Kd.R_lower (Kd.R_new' ho0 (Kd.R_lt (Kd.ur_ HO141.out))) (below_size (us_ HB.out))); have n2_ := mk_ (blk_below (u_ BK133.out) hb); have n3_ := mk_ (below_step (us_ HB.out) hb); clear HO141; clear BK133; clear HB; have HO141 := n0_; have HO144 := n1_; have BK133 := n2_; have HB := n3_; clear n0_ n1_ n2_ n3_; (try clear hb); (try clear hb2); (try clear hk); (try clear hi); (try clear ho0); obtain ⟨Ao26, co26, eo26⟩ := Kd.R_slice HO144.out; subst eo26; obtain ⟨Ao27, co27, eo27⟩ := Kd.R_slice HO141.out; subst eo27) | ((with_reducible refine gate_dst (N := 34) rfl ?_); refine Kd.N_lit (Kd.slice 5 (Kd.int .u8)) _ 22 ?hg (N' := 34) ?hd (xs := ([t142, y139] : List (List Int))) (inner := [.slice Ao26 t142.length co26, .slice Ao27 y139.length co27]) (ok := (fun k_ => k_ ≠ gb133)) (okp := (fun k_ => k_ ≠ gb133)) ?hr ?hp (fun _ hk => hk) ((show ∀ k_, w25.heap.size ≤ k_ → (fun k_ => k_ ≠ gb133) k_ from fun k_ hk => Kd.freshB (g := gb133) (o := .cells #[.int .i64 a0_0, .int .i64 a0_1, .int .i64 a0_2, .slice A0_3 l0_3.length c0_3] 27 (0, 0)) (u_ BK133.out) k_ hk) _ (Nat.le_refl _)) (Below.refl _ _) (Nat.le_refl _) (by simp) ?_; (case hd => rfl); (case hg => rfl); (case hr => first | (go_simp; done) | (go_simp; rfl)); (case hp => exact (Reps.one (show Kd.FK (Kd.slice 5 (Kd.int .u8)) _ _ t142 [.slice Ao26 t142.length co26] from (Kd.FK_slice_mk (Kd.R_reads' (Kd.R_mono (ok' := (fun k_ => k_ ≠ gb133)) (Kd.R_types (HO144.out) BK133.out (by decide)) (fun k_ hk => hk.2))).2.1 (Kd.R_F (Kd.R_mono (ok' := (fun k_ => k_ ≠ gb133)) (Kd.R_types (HO144.out) BK133.out (by decide)) (fun k_ hk => hk.2))))) (Reps.one (show Kd.FK (Kd.slice 5 (Kd.int .u8)) _ _ y139 [.slice Ao27 y139.length co27] from (Kd.FK_slice_mk (Kd.R_reads' (Kd.R_mono (ok' := (fun k_ => k_ ≠ gb133)) (Kd.R_types (HO141.out) BK133.out (by decide)) (fun k_ hk => hk.2))).2.1 (Kd.R_F (Kd.R_mono (ok' := (fun k_ => k_ ≠ gb133)) (Kd.R_types (HO141.out) BK133.out (by decide)) (fun k_ hk => hk.2))))) (Reps.none _ _)))); intro v146 w28 ho29 hb hg_ hnew_; clear hg_ hnew_; (first | rw [← Ny145.out] at ho29 | (simp only [Int.reduceToNat] at ho29; rw [← Ny145.out] at ho29)); have n0_ := mk_ (Kd.R_below (Kd.ur_ HO141.out) hb); have n1_ := mk_ (Kd.N_lower ho29 (below_size (us_ HB.out))); have n2_ := mk_ (blk_below (u_ BK133.out) hb); have n3_ := mk_ (below_step (us_ HB.out) hb); clear HO141; clear BK133; clear HB; clear HO144; have HO141 := n0_; have HO147 := n1_; have BK133 := n2_; have HB := n3_; clear n0_ n1_ n2_ n3_; clear hb ho29; obtain ⟨Ao30, co30, eo30⟩ := Kd.N_slice HO147.out; subst eo30) | ((with_reducible refine gate_callee (f := 40) rfl ?_); have hA_ := A15.out; refine goesL_ (some 35) rfl rfl Try.func40 (by kernel_rfl) rfl #[.slice Ao30 y145.length co30] rfl (by (try simp only [lm_, lo_, ln_]); first | done | rfl | (simp only [List.length_drop, List.length_take]; rfl)) ?_; (with_reducible refine (slices_Concat_byte_byte.calls _ _ y145 t148 _ ?side1 ?side2 A15.out).mono ?_); (case side1 => repeat (first | exact (Kd.N_reads' HO147.out).2.2 | (with_reducible refine Kd.C_alloc ?_ _) | (with_reducible refine Kd.C_drewN ?_ _) | (with_reducible refine Kd.C_drew ?_))); (case side2 => exact (Kd.N_reads' HO147.out).2.1); rintro e w31 ⟨v149, rfl, ho0, hb⟩; refine ⟨_, rfl, ?_⟩; have n0_ := mk_ (Kd.R_elder' (Kd.ur_ HO141.out) (Kd.R_base ho0) hb); have n1_ := mk_ (Kd.N_elder' (by (with_reducible repeat (first | apply Kd.N_alloc | apply Kd.N_drewN | apply Kd.N_drew)); exact HO147.out) (Kd.R_base ho0) hb); have n2_ := mk_ (Kd.R_lower (Kd.R_new' ho0 (Kd.R_lt (Kd.ur_ HO141.out))) (below_size (us_ HB.out))); have n3_ := mk_ (blk_below (u_ BK133.out) hb); have n4_ := mk_ (below_step (us_ HB.out) hb); clear HO141; clear HO147; clear BK133; clear HB; have HO141 := n0_; have HO147 := n1_; have HO150 := n2_; have BK133 := n3_; have HB := n4_; clear n0_ n1_ n2_ n3_ n4_; (try clear hb); (try clear hb2); (try clear hk); (try clear hi); (try clear ho0); obtain ⟨Ao32, co32, eo32⟩ := Kd.R_slice HO150.out; subst eo32; clear hA_ A15) | ((with_reducible refine gate_callee (f := 42) rfl ?_); refine goesL_ (some 36) rfl rfl Try.func42 (by kernel_rfl) rfl #[.slice Ao32 t148.length co32] rfl (by (try simp only [lm_, lo_, ln_]); first | done | rfl | (simp only [List.length_drop, List.length_take]; rfl)) ?_; (with_reducible refine (impl_sumOf.calls _ _ t148 t151 _ ?side1 ?side2 A16.out).mono ?_); (case side1 => repeat (first | exact (Kd.R_reads' HO150.out).2.2 | (with_reducible refine Kd.C_alloc ?_ _) | (with_reducible refine Kd.C_drewN ?_ _) | (with_reducible refine Kd.C_drew ?_))); (case side2 => exact (Kd.R_reads' HO150.out).2.1); rintro e w33 ⟨rfl, hb⟩; refine ⟨_, rfl, ?_⟩; have n0_ := mk_ (Kd.R_below (Kd.ur_ HO141.out) hb); have n1_ := mk_ (Kd.N_below (by (with_reducible repeat (first | apply Kd.N_alloc | apply Kd.N_drewN | apply Kd.N_drew)); exact HO147.out) hb); have n2_ := mk_ (Kd.R_below (Kd.ur_ HO150.out) hb); have n3_ := mk_ (blk_below (u_ BK133.out) hb); have n4_ := mk_ (below_step (us_ HB.out) hb); clear HO141; clear HO147; clear HO150; clear BK133; clear HB; have HO141 := n0_; have HO147 := n1_; have HO150 := n2_; have BK133 := n3_; have HB := n4_; clear n0_ n1_ n2_ n3_ n4_; (try clear hb); (try clear hb2); (try clear hk); (try clear hi)) | ((with_reducible refine gate_callee (f := 41) rfl ?_); refine goesL_ (some 37) rfl rfl Try.func41 (by kernel_rfl) rfl #[.int .i64 t151, .int .i64 2] rfl (by (try simp only [lm_, lo_, ln_]); first | done | rfl | (simp only [List.length_drop, List.length_take]; rfl)) ?_; (with_reducible refine (impl_bytesOf.calls kj2 t151 2 t152 _ A17.out).mono ?_); rintro e w34 ⟨v153, rfl, ho0, hb⟩; refine ⟨_, rfl, ?_⟩; have n0_ := mk_ (Kd.R_elder' (Kd.ur_ HO141.out) (Kd.R_base ho0) hb); have n1_ := mk_ (Kd.N_elder' (by (with_reducible repeat (first | apply Kd.N_alloc | apply Kd.N_drewN | apply Kd.N_drew)); exact HO147.out) (Kd.R_base ho0) hb); have n2_ := mk_ (Kd.R_elder' (Kd.ur_ HO150.out) (Kd.R_base ho0) hb); have n3_ := mk_ (Kd.R_lower (Kd.R_new' (Kd.R_new' ho0 (Kd.R_lt (Kd.ur_ HO141.out))) (Kd.R_lt (Kd.ur_ HO150.out))) (below_size (us_ HB.out))); have n4_ := mk_ (blk_below (u_ BK133.out) hb); have n5_ := mk_ (below_step (us_ HB.out) hb); clear HO141; clear HO147; clear HO150; clear BK133; clear HB; have HO141 := n0_; have HO147 := n1_; have HO150 := n2_; have HO154 := n3_; have BK133 := n4_; have HB := n5_; clear n0_ n1_ n2_ n3_ n4_ n5_; (try clear hb); (try clear hb2); (try clear hk); (try clear hi); (try clear ho0); obtain ⟨Ao35, co35, eo35⟩ := Kd.R_slice HO154.out; subst eo35) | ((with_reducible refine gate_dst (N := 38) rfl ?_); refine Kd.N_lit (Kd.slice 5 (Kd.int .u8)) _ 22 ?hg (N' := 38) ?hd (xs := ([y139, t152] : List (List Int))) (inner := [.slice Ao27 y139.length co27, .slice Ao35 t152.length co35]) (ok := (fun k_ => some k_ ≠ (.slice Ao30 y145.length co30 : Value).ownBlock ∧ some k_ ≠ (.slice Ao32 t148.length co32 : Value).ownBlock ∧ k_ ≠ gb133)) (okp := (fun k_ => some k_ ≠ (.slice Ao30 y145.length co30 : Value).ownBlock ∧ some k_ ≠ (.slice Ao32 t148.length co32 : Value).ownBlock ∧ k_ ≠ gb133)) ?hr ?hp (fun _ hk => hk) ((show ∀ k_, w34.heap.size ≤ k_ → (fun k_ => some k_ ≠ (.slice Ao30 y145.length co30 : Value).ownBlock ∧ some k_ ≠ (.slice Ao32 t148.length co32 : Value).ownBlock ∧ k_ ≠ gb133) k_ from fun k_ hk => ⟨Kd.fresh' (Kd.N_lt (by (with_reducible repeat (first | apply Kd.N_alloc | apply Kd.N_drewN | apply Kd.N_drew)); exact HO147.out)) k_ hk, Kd.fresh' (Kd.R_lt (Kd.ur_ HO150.out)) k_ hk, Kd.freshB (g := gb133) (o := .cells #[.int .i64 a0_0, .int .i64 a0_1, .int .i64 a0_2, .slice A0_3 l0_3.length c0_3] 27 (0, 0)) (u_ BK133.out) k_ hk⟩) _ (Nat.le_refl _)) (Below.refl _ _) (Nat.le_refl _) (by simp) ?_; (case hd => rfl); (case hg => rfl); (case hr => first | (go_simp; done) | (go_simp; rfl)); (case hp => exact (Reps.one (show Kd.FK (Kd.slice 5 (Kd.int .u8)) _ _ y139 [.slice Ao27 y139.length co27] from (Kd.FK_slice_mk (Kd.R_reads' (Kd.R_mono (ok' := (fun k_ => some k_ ≠ (.slice Ao30 y145.length co30 : Value).ownBlock ∧ some k_ ≠ (.slice Ao32 t148.length co32 : Value).ownBlock ∧ k_ ≠ gb133)) (Kd.R_types (Kd.R_apart' (HO141.out) (Kd.N_typed HO147.out) (by decide)) BK133.out (by decide)) (fun k_ hk => by first | exact ⟨hk.1.2, ⟨hk.1.1.1.2, hk.2⟩⟩ | exact hk.1 | exact hk | exact ⟨hk.1, hk.2⟩ | exact ⟨.inr hk.1, hk.2⟩ | simp only [hk, ne_eq, not_false_eq_true, and_self]))).2.1 (Kd.R_F (Kd.R_mono (ok' := (fun k_ => some k_ ≠ (.slice Ao30 y145.length co30 : Value).ownBlock ∧ some k_ ≠ (.slice Ao32 t148.length co32 : Value).ownBlock ∧ k_ ≠ gb133)) (Kd.R_types (Kd.R_apart' (HO141.out) (Kd.N_typed HO147.out) (by decide)) BK133.out (by decide)) (fun k_ hk => by first | exact ⟨hk.1.2, ⟨hk.1.1.1.2, hk.2⟩⟩ | exact hk.1 | exact hk | exact ⟨hk.1, hk.2⟩ | exact ⟨.inr hk.1, hk.2⟩ | simp only [hk, ne_eq, not_false_eq_true, and_self]))))) (Reps.one (show Kd.FK (Kd.slice 5 (Kd.int .u8)) _ _ t152 [.slice Ao35 t152.length co35] from (Kd.FK_slice_mk (Kd.R_reads' (Kd.R_mono (ok' := (fun k_ => some k_ ≠ (.slice Ao30 y145.length co30 : Value).ownBlock ∧ some k_ ≠ (.slice Ao32 t148.length co32 : Value).ownBlock ∧ k_ ≠ gb133)) (Kd.R_types (Kd.R_apart' (HO154.out) (Kd.N_typed HO147.out) (by decide)) BK133.out (by decide)) (fun k_ hk => by first | exact ⟨hk.1.2, ⟨hk.1.1.2, hk.2⟩⟩ | exact hk.1 | exact hk | exact ⟨hk.1, hk.2⟩ | exact ⟨.inr hk.1, hk.2⟩ | simp only [hk, ne_eq, not_false_eq_true, and_self]))).2.1 (Kd.R_F (Kd.R_mono (ok' := (fun k_ => some k_ ≠ (.slice Ao30 y145.length co30 : Value).ownBlock ∧ some k_ ≠ (.slice Ao32 t148.length co32 : Value).ownBlock ∧ k_ ≠ gb133)) (Kd.R_types (Kd.R_apart' (HO154.out) (Kd.N_typed HO147.out) (by decide)) BK133.out (by decide)) (fun k_ hk => by first | exact ⟨hk.1.2, ⟨hk.1.1.2, hk.2⟩⟩ | exact hk.1 | exact hk | exact ⟨hk.1, hk.2⟩ | exact ⟨.inr hk.1, hk.2⟩ | simp only [hk, ne_eq, not_false_eq_true, and_self]))))) (Reps.none _ _)))); intro v156 w36 ho37 hb hg_ hnew_; clear hg_ hnew_; (first | rw [← Ny155.out] at ho37 | (simp only [Int.reduceToNat] at ho37; rw [← Ny155.out] at ho37)); have n0_ := mk_ (Kd.N_elder' (by (with_reducible repeat (first | apply Kd.N_alloc | apply Kd.N_drewN | apply Kd.N_drew)); exact HO147.out) (Kd.N_base ho37) hb); have n1_ := mk_ (Kd.R_below (Kd.ur_ HO150.out) hb); have n2_ := mk_ (Kd.N_lower ho37 (below_size (us_ HB.out))); have n3_ := mk_ (blk_below (u_ BK133.out) hb); have n4_ := mk_ (below_step (us_ HB.out) hb); clear HO147; clear HO150; clear BK133; clear HB; clear HO141; clear HO154; have HO147 := n0_; have HO150 := n1_; have HO157 := n2_; have BK133 := n3_; have HB := n4_; clear n0_ n1_ n2_ n3_ n4_; clear hb ho37; obtain ⟨Ao38, co38, eo38⟩ := Kd.N_slice HO157.out; subst eo38) | ((with_reducible refine gate_callee (f := 40) rfl ?_); have hA_ := A18.out; refine goesL_ (some 39) rfl rfl Try.func40 (by kernel_rfl) rfl #[.slice Ao38 y155.length co38] rfl (by (try simp only [lm_, lo_, ln_]); first | done | rfl | (simp only [List.length_drop, List.length_take]; rfl)) ?_; (with_reducible refine (slices_Concat_byte_byte.calls _ _ y155 t158 _ ?side1 ?side2 A18.out).mono ?_); (case side1 => repeat (first | exact (Kd.N_reads' HO157.out).2.2 | (with_reducible refine Kd.C_alloc ?_ _) | (with_reducible refine Kd.C_drewN ?_ _) | (with_reducible refine Kd.C_drew ?_))); (case side2 => exact (Kd.N_reads' HO157.out).2.1); rintro e w39 ⟨v159, rfl, ho0, hb⟩; refine ⟨_, rfl, ?_⟩; have n0_ := mk_ (Kd.N_elder' (by (with_reducible repeat (first | apply Kd.N_alloc | apply Kd.N_drewN | apply Kd.N_drew)); exact HO147.out) (Kd.R_base ho0) hb); have n1_ := mk_ (Kd.R_elder' (Kd.ur_ HO150.out) (Kd.R_base ho0) hb); have n2_ := mk_ (Kd.N_elder' (by (with_reducible repeat (first | apply Kd.N_alloc | apply Kd.N_drewN | apply Kd.N_drew)); exact HO157.out) (Kd.R_base ho0) hb); have n3_ := mk_ (Kd.R_lower (Kd.R_new' ho0 (Kd.R_lt (Kd.ur_ HO150.out))) (below_size (us_ HB.out))); have n4_ := mk_ (blk_below (u_ BK133.out) hb); have n5_ := mk_ (below_step (us_ HB.out) hb); clear HO147; clear HO150; clear HO157; clear BK133; clear HB; have HO147 := n0_; have HO150 := n1_; have HO157 := n2_; have HO160 := n3_; have BK133 := n4_; have HB := n5_; clear n0_ n1_ n2_ n3_ n4_ n5_; (try clear hb); (try clear hb2); (try clear hk); (try clear hi); (try clear ho0); clear hA_ A18))
   go_ret
   exact ⟨_, by first | rfl | (simp [errW_none, errW_some] <;> rfl) | (simp [*, errW_none, errW_some] <;> rfl), by (with_reducible repeat (first | apply Kd.R_alloc | apply Kd.R_drewN | apply Kd.R_drew)); exact Kd.R_mono HO160.out (fun _ hk => trivial), us_ HB.out⟩

/-! ### slices_Clip_byte_byte: function 66 -/
set_option maxHeartbeats 400000 in
set_option maxRecDepth 100000 in
theorem slices_Clip_byte_byte.calls (A : Option Addr) (n c : Nat) (w : World) (h : n ≤ c) (hn : n ≤ 9223372036854775807) :
    Calls Try.prog 66 #[.slice A n c] w fun e w' => e = .returned (.slice A n n) ∧ Drawn0 w w' := by
  obtain ⟨i0, hi0, _, hsz, _⟩ := info_parts info5
  have hcut : ∀ w : World, (Instr.slice 22 (.slice A n c) none (some (.int .i64 n)) (some (.int .i64 n))).run Try.prog w = .ok (.slice A n n) w := by
    intro w
    go_simp
  go_enter Try.func66, Try.ntmps66
  go_wp2
  go_ret
  exact ⟨rfl, Drawn0.refl _⟩

/-! ### impl_clone_byte: function 48 -/
def impl_clone_byte.f (l0 : List Int) : Option (List Int) := if l0.length < 140737488355328 then some l0 else none
set_option maxHeartbeats 400000 in
set_option maxRecDepth 100000 in
theorem impl_clone_byte.calls (A0 : Option Addr) (c0 : Nat) (l0 : List Int) (r : List Int) (w : World) (hr0 : Kd.C (Kd.int .u8) w A0 l0.length l0) (hc0 : l0.length ≤ c0) (h : impl_clone_byte.f l0 = some r) :
    Calls Try.prog 48 #[.slice A0 l0.length c0] w fun e w' => ∃ v0_ : Value, e = .returned (v0_) ∧ Kd.R (Kd.int .u8) 5 w' w.heap.size (fun _ => True) v0_ r ∧ Below w.heap.size w w' := by
  have hlim : l0.length < 140737488355328 := by
    unfold impl_clone_byte.f at h
    by_cases hl : l0.length < 140737488355328
    · exact hl
    · rw [if_neg hl] at h; cases h
  obtain rfl : l0 = r := by
    unfold impl_clone_byte.f at h
    rw [if_pos hlim] at h
    exact Option.some.inj h
  clear h
  have HR := Aside0.mk hr0
  have HL := Aside0.mk hlim
  have HI := Aside0.mk info5
  clear hr0 hc0 hlim
  by_cases hz : l0.length = 0
  · have hz1 : ((l0.length : Int) == 0) = true := by simpa using hz
    have HZ := Aside0.mk hz
    clear hz
    go_enter Try.func48, Try.ntmps48
    go_wp2_with fail
    go_ret
    refine ⟨_, rfl, ?_, Below.refl _ _⟩
    rw [List.eq_nil_of_length_eq_zero HZ.out]
    exact Kd.R_nil _ _ _ _ _
  · have hz1 : ((l0.length : Int) == 0) = false := by simpa using hz
    clear hz
    go_enter Try.func48, Try.ntmps48
    go_wp2_with (first | (at_builtin; refine Kd.R_append_rows (Kd.int .u8) (w0 := w) w.heap.size rfl (.const (.slice none 0 0)) (.tmp 6) 22 5 (.int .u8 0) 1 rfl Try.underlying22 HI.out rfl (by decide) (by omega) (.slice none 0 0) ([] : List Int) l0 _ _ _ (fun _ => True) (fun _ => False) rfl rfl ?aO ?aR (fun _ _ h => h) (fun _ h => h.elim) ?aF ?aB ?aS ?aL ?_; (case aO => exact Kd.R_nil _ _ _ _ _); (case aR => exact HR.out); (case aF => exact fun _ _ => trivial); (case aB => exact Below.refl _ _); (case aS => exact Nat.le_refl _); (case aL => have := HL.out; simp; omega); intro v1 w1 ho hb hg hat; rw [List.nil_append] at ho; obtain ⟨A1, c1, hv1, hl1, hc1⟩ := Kd.R_reads ho; subst hv1; have HO := Aside0.mk ho; have HB := Aside0.mk hb; have hn1 := hc1.2.1; clear ho hb hg hat hc1) | (go_at_call 66; (with_reducible refine (slices_Clip_byte_byte.calls _ _ _ _ hl1 hn1).mono ?_); rintro e w' ⟨rfl, ⟨nd, rfl⟩⟩))
    go_ret
    exact ⟨_, rfl, Kd.R_clip (by exact HO.out) rfl, by (first | exact HB.out | exact pw_below_drewN HB.out _)⟩

/-! ### slices_Equal_byte_byte: function 49 -/
def slices_Equal_byte_byte.l0 : Nat → List Int → List Int → Int → Int → Option (Bool)
 | 0, _, _, _, _ => none
 | k + 1, x0, x1, x12, x13 => if x13 < x12 then (if 0 ≤ x13 then (if x13 < (x0.length : Int) then (if x13 < (x1.length : Int) then (if (rd x0 x13) = (rd x1 x13) then (slices_Equal_byte_byte.l0 k x0 x1 x12 (wrap64 (x13 + 1))) else (some false)) else (none)) else (none)) else (none)) else (some true)
def slices_Equal_byte_byte.f (k : Nat) (l0 : List Int) (l1 : List Int) : Option (Bool) := if (l0.length : Int) = (l1.length : Int) then (slices_Equal_byte_byte.l0 k l0 l1 (l0.length : Int) 0) else (some false)
theorem slices_Equal_byte_byte.mono_l : ∀ k, (∀ y0 y1 y2 y3, LeO (slices_Equal_byte_byte.l0 k y0 y1 y2 y3) (slices_Equal_byte_byte.l0 (k + 1) y0 y1 y2 y3))
 | 0 => fun _ _ _ _ r h => by simp [slices_Equal_byte_byte.l0] at h
 | k + 1 => by
  have ih0 := slices_Equal_byte_byte.mono_l k
  ·intro y0 y1 y2 y3
   unfold slices_Equal_byte_byte.l0
   repeat' first
   | (with_reducible exact ih0 _ _ _ _)
   | (with_reducible exact LeO.refl _)
   | (with_reducible exact LeO.none _)
   | (with_reducible refine LeO.ite ?_ ?_)
   | (with_reducible refine LeO.bind ?_ (fun _ => ?_))
   | exact ih0 _ _ _ _
   | exact LeO.none _
   | refine LeO.ite ?_ ?_
   | refine LeO.bind ?_ (fun _ => ?_)
theorem slices_Equal_byte_byte.mono : ∀ a0 a1 k, LeO (slices_Equal_byte_byte.f k a0 a1) (slices_Equal_byte_byte.f (k + 1) a0 a1) := by
 intro a0 a1 k
 have ih0 := slices_Equal_byte_byte.mono_l k
 unfold slices_Equal_byte_byte.f
 repeat' first
   | (with_reducible exact ih0 _ _ _ _)
   | (with_reducible exact LeO.refl _)
   | (with_reducible exact LeO.none _)
   | (with_reducible refine LeO.ite ?_ ?_)
   | (with_reducible refine LeO.bind ?_ (fun _ => ?_))
   | exact ih0 _ _ _ _
   | exact LeO.none _
   | refine LeO.ite ?_ ?_
   | refine LeO.bind ?_ (fun _ => ?_)
set_option maxHeartbeats 8000000 in
set_option maxRecDepth 100000 in
theorem slices_Equal_byte_byte.calls (k : Nat) (A0 : Option Addr) (c0 : Nat) (l0 : List Int) (A1 : Option Addr) (c1 : Nat) (l1 : List Int) (r : Bool) (w : World) (hr0 : Kd.C (Kd.int .u8) w A0 l0.length l0) (hc0 : l0.length ≤ c0) (hr1 : Kd.C (Kd.int .u8) w A1 l1.length l1) (hc1 : l1.length ≤ c1) (h : slices_Equal_byte_byte.f k l0 l1 = some r) :
  Calls Try.prog 49 #[.slice A0 l0.length c0, .slice A1 l1.length c1] w fun e w' => e = .returned (.bool r) ∧ Drawn0 w w' := by
 have HR0 := mk_ hr0
 have HC0 := mk_ hc0
 clear hr0 hc0
 have HR1 := mk_ hr1
 have HC1 := mk_ hc1
 clear hr1 hc1
 have H : (if (l0.length : Int) = (l1.length : Int) then (slices_Equal_byte_byte.l0 k l0 l1 (l0.length : Int) 0) else (some false)) = some r := h
 clear h
 by_cases c3 : (l0.length : Int) = (l1.length : Int)
 rotate_left
 ·rw [if_neg c3] at H
  have c3b0 : ((l0.length : Int) == (l1.length : Int)) = false := beq_eq_false_iff_ne.mpr c3
  have c3b1 : ((l0.length : Int) != (l1.length : Int)) = true := bne_iff_ne.mpr c3
  have c3b2 : (l0.length == l1.length) = false := by first | simpa using c3 | (simp at c3 ⊢; omega)
  obtain rfl := Option.some.inj H
  go_enter Try.func49, Try.ntmps49
  go_wp2
  repeat (go_quiet (fail); try go_wp2)
  go_ret
  exact ⟨by first | rfl | (simp; done) | (simp [*]; done), by repeat (first | exact Drawn0.refl _ | apply Drawn0.step)⟩
 rw [if_pos c3] at H
 have c3b0 : ((l0.length : Int) == (l1.length : Int)) = true := beq_iff_eq.mpr c3
 have c3b1 : ((l0.length : Int) != (l1.length : Int)) = false := bne_eq_false_iff_eq.mpr c3
 have c3b2 : (l0.length == l1.length) = true := by first | simpa using c3 | (simp at c3 ⊢; omega)
 clear c3
 have H' := mk_ H
 clear H
 go_enter Try.func49, Try.ntmps49
 go_wp2
 repeat (go_quiet (fail); try go_wp2)
 go_loopg [13] k (fun kq v13 w' => ∃ (x13_1 : Int), v13 = .int .i64 x13_1 ∧ Aside0 (slices_Equal_byte_byte.l0 kq l0 l1 (l0.length : Int) x13_1 = some r) ∧ Aside0 (kq ≤ k) ∧ Drawn0 w w')
 case atStart => exact ⟨(0), (by first | rfl | (simp; done) | (simp [*]; done)), H', ⟨Nat.le_refl _⟩, by repeat (first | exact Drawn0.refl _ | apply Drawn0.step)⟩
 case round =>
  clear H'
  try clear c1
  try clear p2
  try clear c3
  try clear c3b0
  try clear c3b1
  try clear c3b2
  obtain ⟨x13_1, rfl, HA, HK1, ⟨m1, rfl⟩⟩ := hrel
  cases gk with
  | zero => exact absurd HA.out (by simp [slices_Equal_byte_byte.l0])
  | succ k1 =>
   have H := HA.out
   clear HA
   simp only [slices_Equal_byte_byte.l0] at H
   by_cases c4 : x13_1 < (l0.length : Int)
   rotate_left
   ·rw [if_neg c4] at H
    have c4b0 : decide (x13_1 < (l0.length : Int)) = false := decide_eq_false c4
    clear c4
    obtain rfl := Option.some.inj H
    go_wp2
    repeat (go_quiet (fail); try go_wp2)
    go_ret
    exact ⟨by first | rfl | (simp; done) | (simp [*]; done), by repeat (first | exact Drawn0.refl _ | apply Drawn0.step)⟩
   rw [if_pos c4] at H
   have c4b0 : decide (x13_1 < (l0.length : Int)) = true := decide_eq_true c4
   clear c4
   by_cases c5 : 0 ≤ x13_1
   rotate_left
   ·rw [if_neg c5] at H
    exact absurd H (by simp)
   rw [if_pos c5] at H
   have c5b0 : decide (0 ≤ x13_1) = true := decide_eq_true c5
   clear c5
   by_cases c6 : x13_1 < (l0.length : Int)
   rotate_left
   ·rw [if_neg c6] at H
    exact absurd H (by simp)
   rw [if_pos c6] at H
   have c6b0 : decide (x13_1 < (l0.length : Int)) = true := decide_eq_true c6
   clear c6
   by_cases c7 : x13_1 < (l1.length : Int)
   rotate_left
   ·rw [if_neg c7] at H
    exact absurd H (by simp)
   rw [if_pos c7] at H
   have c7b0 : decide (x13_1 < (l1.length : Int)) = true := decide_eq_true c7
   clear c7
   by_cases c8 : (rd l0 x13_1) = (rd l1 x13_1)
   rotate_left
   ·rw [if_neg c8] at H
    have c8b0 : ((rd l0 x13_1) == (rd l1 x13_1)) = false := beq_eq_false_iff_ne.mpr c8
    have c8b1 : ((rd l0 x13_1) != (rd l1 x13_1)) = true := bne_iff_ne.mpr c8
    obtain rfl := Option.some.inj H
    have p161 : 0 ≤ (x13_1 : Int) := of_decide_eq_true (by first | (with_reducible assumption) | assumption)
    have q161 : x13_1 < (l0.length : Int) := of_decide_eq_true (by first | (with_reducible assumption) | assumption)
    obtain ⟨ad161, e161, hx161_0⟩ := Kd.at_int HR0.out x13_1 p161 q161
    cases e161
    replace p161 := eq_true p161
    replace q161 := eq_true q161
    have p162 : 0 ≤ (x13_1 : Int) := of_decide_eq_true (by first | (with_reducible assumption) | assumption)
    have q162 : x13_1 < (l1.length : Int) := of_decide_eq_true (by first | (with_reducible assumption) | assumption)
    obtain ⟨ad162, e162, hx162_0⟩ := Kd.at_int HR1.out x13_1 p162 q162
    cases e162
    replace p162 := eq_true p162
    replace q162 := eq_true q162
    go_wp2
    repeat (go_quiet (fail); try go_wp2)
    go_ret
    exact ⟨by first | rfl | (simp; done) | (simp [*]; done), by repeat (first | exact Drawn0.refl _ | apply Drawn0.step)⟩
   rw [if_pos c8] at H
   have c8b0 : ((rd l0 x13_1) == (rd l1 x13_1)) = true := beq_iff_eq.mpr c8
   have c8b1 : ((rd l0 x13_1) != (rd l1 x13_1)) = false := bne_eq_false_iff_eq.mpr c8
   clear c8
   have H' := mk_ H
   clear H
   have p161 : 0 ≤ (x13_1 : Int) := of_decide_eq_true (by first | (with_reducible assumption) | assumption)
   have q161 : x13_1 < (l0.length : Int) := of_decide_eq_true (by first | (with_reducible assumption) | assumption)
   obtain ⟨ad161, e161, hx161_0⟩ := Kd.at_int HR0.out x13_1 p161 q161
   cases e161
   replace p161 := eq_true p161
   replace q161 := eq_true q161
   have p162 : 0 ≤ (x13_1 : Int) := of_decide_eq_true (by first | (with_reducible assumption) | assumption)
   have q162 : x13_1 < (l1.length : Int) := of_decide_eq_true (by first | (with_reducible assumption) | assumption)
   obtain ⟨ad162, e162, hx162_0⟩ := Kd.at_int HR1.out x13_1 p162 q162
   cases e162
   replace p162 := eq_true p162
   replace q162 := eq_true q162
   go_wp2
   repeat (go_quiet (fail); try go_wp2)
   go_roundg k1
   case measure => have := HK1.out; omega
   case rel => exact ⟨(wrap64 (x13_1 + 1)), (by first | rfl | (simp; done) | (simp [*]; done)), H', ⟨by have := HK1.out; omega⟩, by repeat (first | exact Drawn0.refl _ | apply Drawn0.step)⟩

end Go.Proofs.Ytfcocnhkimbpbaa.MFnExactMailFrom
