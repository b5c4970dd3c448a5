/- Functions that the law FnEarRanges reaches, each with the proof that the machine's call comes to just its answer; no conditions but those that each theorem states. Printed by a program of this session over the kit's print. -/
import Derived.Test.YtkkibccnpkbbjabMFnEarRangesx0
namespace Go.Proofs.Ytkkibccnpkbbjab.MFnEarRanges
open Go.RowKit Go.Proofs.YtkkibccnpkbbjabV.PrintWords Go.Proofs.YtkkibccnpkbbjabV.PrintLast Go.Proofs.YtkkibccnpkbbjabV.PrintMore
attribute [local go_sem] max2_int min2_int max_two min_two max_three min_three max_four min_four   -- for this text's walks alone
set_option linter.unusedVariables false
set_option linter.unusedSimpArgs false

/-- A state of type 107 at block g of W; what its slices lead to came in by w0. -/
def IsS107 (w0 W : World) (g : Nat) (f0 : List Int) (f1 : Int) : Prop := ∃ A0 c0, W.heap[g]? = some (.cells #[.slice A0 f0.length c0, .int .i64 f1] 107 (0, 0)) ∧ w0.heap.size ≤ g ∧ Kd.C (Kd.int .u8) w0 A0 f0.length f0
theorem IsS107.grown {w0 W : World} {g : Nat} {f0 : List Int} {f1 : Int} {W1 : World} {row : Option Nat} (h : IsS107 w0 W g f0 f1) (hw : W.grownBy W1 row) (hne : some g ≠ row) : IsS107 w0 W1 g f0 f1 := by
 obtain ⟨A0, c0, hb, hg, hr0⟩ := h
 exact ⟨A0, c0, blk_grown hb hw hne, hg, hr0⟩
theorem IsS107.own_neN {w0 W : World} {g : Nat} {f0 : List Int} {f1 : Int} {α : Type} {d : Kd α} {e : Nat} {base : Nat} {ok : Nat → Prop} {v : Value} {xs : List α} (h : IsS107 w0 W g f0 f1) (ho : Kd.N d e W base ok v xs) (ht : e ≠ 107) : some g ≠ v.ownBlock := by
 obtain ⟨A0, c0, hb, hg, hr0⟩ := h
 exact Kd.N_ne ho hb ht
theorem IsS107.fresh {w0 W : World} {g : Nat} {f0 : List Int} {f1 : Int} (h : IsS107 w0 W g f0 f1) : ∀ k, W.heap.size ≤ k → k ≠ g := by
 obtain ⟨A0, c0, hb, hg, hr0⟩ := h
 exact Kd.freshB hb
theorem IsS107.kept {w0 W : World} {g : Nat} {f0 : List Int} {f1 : Int} {W1 : World} {S : Nat → Prop} (h : IsS107 w0 W g f0 f1) (hk : Kept W W1 S) (hne : ¬ S g) : IsS107 w0 W1 g f0 f1 := by
 obtain ⟨A0, c0, hb, hg, hr0⟩ := h
 exact ⟨A0, c0, blk_kept hb hk hne, hg, hr0⟩
theorem IsS107.below {w0 W : World} {g : Nat} {f0 : List Int} {f1 : Int} {W1 : World} (h : IsS107 w0 W g f0 f1) (hw : Below W.heap.size W W1) : IsS107 w0 W1 g f0 f1 := h.grown (grown_of_below hw none) (by simp)
theorem IsS107.alloc {w0 W : World} {g : Nat} {f0 : List Int} {f1 : Int} (h : IsS107 w0 W g f0 f1) (o : Obj) : IsS107 w0 (W.alloc o) g f0 f1 := h.below (below_alloc (Below.refl _ _) o)
theorem IsS107.drewN {w0 W : World} {g : Nat} {f0 : List Int} {f1 : Int} (h : IsS107 w0 W g f0 f1) (m : Nat) : IsS107 w0 (W.drewN m) g f0 f1 := h
theorem IsS107.drew {w0 W : World} {g : Nat} {f0 : List Int} {f1 : Int} (h : IsS107 w0 W g f0 f1) : IsS107 w0 W.drew g f0 f1 := h
theorem IsS107.at_ {w0 W : World} {g : Nat} {f0 : List Int} {f1 : Int} {w' : World} {m : Nat} (hq : W.drewN m = w') (h : IsS107 w0 W g f0 f1) : IsS107 w0 w' g f0 f1 := by subst hq; exact IsS107.drewN h m
theorem IsS107.apart {w0 W : World} {g : Nat} {f0 : List Int} {f1 : Int} {α : Type} {d : Kd α} {e : Nat} {base : Nat} {ok : Nat → Prop} {v : Value} {xs : List α} (h : IsS107 w0 W g f0 f1) (ho : d.R e W base ok v xs) (ht : ∀ q, q ∈ e :: d.E → q ≠ 107) : d.R e W base (fun k => ok k ∧ k ≠ g) v xs := by
 obtain ⟨A0, c0, hb, hg, hr0⟩ := h
 exact Kd.R_types ho hb ht
theorem IsS107.own_ne {w0 W : World} {g : Nat} {f0 : List Int} {f1 : Int} {α : Type} {d : Kd α} {e : Nat} {base : Nat} {ok : Nat → Prop} {v : Value} {xs : List α} (h : IsS107 w0 W g f0 f1) (ho : d.R e W base ok v xs) (ht : e ≠ 107) : some g ≠ v.ownBlock := by
 obtain ⟨A0, c0, hb, hg, hr0⟩ := h
 exact Kd.R_ne ho hb ht
theorem IsS107.apartQ {w0 W : World} {g : Nat} {f0 : List Int} {f1 : Int} {α : Type} {d : Kd α} {e : Nat} {base : Nat} {ok : Nat → Prop} {v : Value} {xs : List α} (h : IsS107 w0 W g f0 f1) (ho : d.Q e W base ok v xs) (ht : ∀ q, q ∈ e :: d.E → q ≠ 107) : d.Q e W base (fun k => ok k ∧ k ≠ g) v xs := by
 obtain ⟨A0, c0, hb, hg, hr0⟩ := h
 exact Kd.Q_types ho hb ht
theorem IsS107.own_neQ {w0 W : World} {g : Nat} {f0 : List Int} {f1 : Int} {α : Type} {d : Kd α} {e : Nat} {base : Nat} {ok : Nat → Prop} {v : Value} {xs : List α} (h : IsS107 w0 W g f0 f1) (ho : d.Q e W base ok v xs) (ht : e ≠ 107) : some g ≠ v.ownBlock := by
 obtain ⟨A0, c0, hb, hg, hr0⟩ := h
 exact Kd.Q_ne ho hb ht
theorem IsS107.apartS {w0 W : World} {g : Nat} {f0 : List Int} {f1 : Int} {α : Type} {d : Kd α} {e : Nat} {base : Nat} {ok : Nat → Prop} {v : Value} {xs : List α} (h : IsS107 w0 W g f0 f1) (ho : d.S e W base ok v xs) (ht : ∀ q, q ∈ e :: d.E → q ≠ 107) : d.S e W base (fun k => ok k ∧ k ≠ g) v xs := by
 obtain ⟨A0, c0, hb, hg, hr0⟩ := h
 exact Kd.S_types ho hb ht
theorem IsS107.own_neS {w0 W : World} {g : Nat} {f0 : List Int} {f1 : Int} {α : Type} {d : Kd α} {e : Nat} {base : Nat} {ok : Nat → Prop} {v : Value} {xs : List α} (h : IsS107 w0 W g f0 f1) (ho : d.S e W base ok v xs) (ht : e ≠ 107) : some g ≠ v.ownBlock := by
 obtain ⟨A0, c0, hb, hg, hr0⟩ := h
 exact Kd.S_ne ho hb ht
theorem IsS107.lt {w0 W : World} {g : Nat} {f0 : List Int} {f1 : Int} (h : IsS107 w0 W g f0 f1) : g < W.heap.size := by
 obtain ⟨A0, c0, hb, hg, hr0⟩ := h
 exact blk_lt hb
theorem IsS107.ge {w0 W : World} {g : Nat} {f0 : List Int} {f1 : Int} (h : IsS107 w0 W g f0 f1) : w0.heap.size ≤ g := by
 obtain ⟨A0, c0, hb, hg, hr0⟩ := h
 exact hg
theorem IsS107.ne_blk {w0 W : World} {g : Nat} {f0 : List Int} {f1 : Int} {a : Nat} {cs : Array Value} {t : TypeId} {fr : Nat × Nat} (h : IsS107 w0 W g f0 f1) (hb2 : W.heap[a]? = some (.cells cs t fr)) (ht : t ≠ 107) : g ≠ a := by
 obtain ⟨A0, c0, hb, hg, hr0⟩ := h
 rintro rfl
 rw [hb] at hb2
 injection hb2 with hb2
 injection hb2 with _ ht2
 exact ht ht2.symm
theorem IsS107.far {w0 W : World} {g : Nat} {f0 : List Int} {f1 : Int} {p : Addr} (h : IsS107 w0 W g f0 f1) (hne : g ≠ p.block) (u : Value) : IsS107 w0 (W.setCell p u) g f0 f1 := by
 obtain ⟨A0, c0, hb, hg, hr0⟩ := h
 exact ⟨A0, c0, blk_far hb hne u, hg, hr0⟩
theorem cellS107_0 {W : World} {g : Nat} {A0 : Option Addr} {c0 : Nat} {f0 : List Int} {f1 : Int} (h : W.heap[g]? = some (.cells #[.slice A0 f0.length c0, .int .i64 f1] 107 (0, 0))) : W.cell? ⟨g, 0, none⟩ = some (.slice A0 f0.length c0) := (blk_cell h 0).trans rfl
theorem cellS107_1 {W : World} {g : Nat} {A0 : Option Addr} {c0 : Nat} {f0 : List Int} {f1 : Int} (h : W.heap[g]? = some (.cells #[.slice A0 f0.length c0, .int .i64 f1] 107 (0, 0))) : W.cell? ⟨g, 1, none⟩ = some (.int .i64 f1) := (blk_cell h 1).trans rfl
theorem IsS107.set_1 {w0 W : World} {g : Nat} {f0 : List Int} {f1 : Int} (h : IsS107 w0 W g f0 f1) (x : Int) : IsS107 w0 (W.setCell ⟨g, 1, none⟩ (.int .i64 x)) g f0 x := by
 obtain ⟨A0, c0, hb, hg, hr0⟩ := h
 exact ⟨A0, c0, by simpa using blk_set hb 1 (.int .i64 x), hg, hr0⟩
theorem IsS107.new (w0 W : World) (A0 : Option Addr) (c0 : Nat) (f0 : List Int) (f1 : Int) (hB : Below w0.heap.size w0 W) (hr0 : Kd.C (Kd.int .u8) w0 A0 f0.length f0) : IsS107 w0 (W.alloc (.cells #[.slice A0 f0.length c0, .int .i64 f1] 107)) W.heap.size f0 f1 := ⟨A0, c0, by simpa using heap_alloc_new W _, hB.size, hr0⟩

/-! ### spec_l20Open: function 44 -/
def spec_l20Open.f (l0 : List Int) : Option (List Int × Int) := if (l0.length : Int) > 2000 then (if 2000 ≤ (l0.length : Int) then (some (l0.take 2000, 0)) else (none)) else (some (l0, 0))
set_option maxHeartbeats 8000000 in
set_option maxRecDepth 100000 in
theorem spec_l20Open.calls (A0 : Option Addr) (c0 : Nat) (l0 : List Int) (r1 : List Int) (r2 : Int) (w0 w : World) (hB : Below w0.heap.size w0 w) (hr0 : Kd.C (Kd.int .u8) w0 A0 l0.length l0) (hc0 : l0.length ≤ c0) (h : spec_l20Open.f l0 = some (r1, r2)) :
  Calls Try.prog 44 #[.slice A0 l0.length c0] w fun e w' => ∃ g_ : Nat, e = .returned (.pointer (some ⟨g_, 0, none⟩)) ∧ IsS107 w0 w' g_ r1 r2 ∧ Below w0.heap.size w0 w' ∧ Below w.heap.size w w' := by
 have hu107 := Try.underlying107
 have HR0 := mk_ hr0
 have HC0 := mk_ hc0
 clear hr0 hc0
 have HBW := mk_ (Below.refl w.heap.size w)
 have HW0 := mk_ hB.size
 have HB := mk_ hB
 clear hB
 have H := h
 unfold spec_l20Open.f at H
 clear h
 by_cases c2 : (l0.length : Int) > 2000
 rotate_left
 ·rw [if_neg c2] at H
  have c2b0 : decide (2000 < (l0.length : Int)) = false := decide_eq_false c2
  have c2b1 : decide (2000 < l0.length) = false := decide_eq_false (by omega)
  clear c2
  simp only [Option.some.injEq, Prod.mk.injEq] at H
  obtain ⟨rfl, rfl⟩ := H
  go_enter Try.func44, Try.ntmps44
  go_wp2_with (first | ((with_reducible refine gate_dst (N := 10) rfl ?_); refine box_event ?hg (N := 10) ?hd (cs := #[.slice A0 l0.length c0, .int .i64 0]) (t := 107) ?hr ?_; (case hd => rfl); (case hg => rfl); (case hr => first | (go_simp; done) | (go_simp; rfl)); intro gb128 hg w6 hbox hb; have n0_ := mk_ (below_step HBW.out hb); replace HB := mk_ (below_step (ub_ HB.out) hb); have BK128 := mk_ (hbox); have GW128 := mk_ ((by rw [hg]; exact (below_size (by repeat (first | (with_reducible first | exact HBW.out | apply na_ | apply nn_ | apply nw_) | exact HBW.out))) : w.heap.size ≤ gb128)); have GE128 := ge_ ((Nat.le_trans HW0.out (by rw [hg]; exact (below_size (by repeat (first | (with_reducible first | exact HBW.out | apply na_ | apply nn_ | apply nw_) | exact HBW.out))) : w.heap.size ≤ gb128) : w0.heap.size ≤ gb128)); replace HBW := n0_; clear n0_; clear hb hbox hg))
  go_ret
  exact ⟨_, rfl, (show IsS107 w0 _ gb128 l0 0 from ⟨_, _, by (with_reducible repeat (first | refine bn_ ?_ _ | refine bw_ ?_ | refine ba_ ?_ _)); exact BK128.out, GE128.out, HR0.out⟩), by repeat (first | (with_reducible first | exact HB.out | apply na_ | apply nn_ | apply nw_ | refine bs_ ?_ GE128.out) | exact HB.out), by repeat (first | (with_reducible first | exact HBW.out | apply na_ | apply nn_ | apply nw_ | refine bs_ ?_ GW128.out) | exact HBW.out)⟩
 rw [if_pos c2] at H
 have c2b0 : decide (2000 < (l0.length : Int)) = true := decide_eq_true c2
 have c2b1 : decide (2000 < l0.length) = true := decide_eq_true (by omega)
 clear c2
 by_cases c3 : 2000 ≤ (l0.length : Int)
 rotate_left
 ·rw [if_neg c3] at H
  exact absurd H (by simp)
 rw [if_pos c3] at H
 have c3b0 := eq_true c3
 have c3b1 : decide (2000 ≤ (l0.length : Int)) = true := decide_eq_true c3
 clear c3
 simp only [Option.some.injEq, Prod.mk.injEq] at H
 obtain ⟨rfl, rfl⟩ := H
 obtain ⟨i04, hi04, _, hsz4, _⟩ := info_parts info5
 obtain ⟨hcut4, hA4, hC4⟩ := print_take_of (P := Try.prog) (Value.int .u8) 0 22 5 .i64 Try.underlying22 hi04 hsz4 A0 c0 l0 2000 (by omega) (of_decide_eq_true (by first | (with_reducible assumption) | assumption)) HC0.out
 have HR126 := mk_ (Kd.C_of_reads (h1 := fun _ => rfl) (hA4 _ (Kd.reads_of_C HR0.out)))
 have HC126 := mk_ hC4
 clear hA4 hC4 hi04 hsz4
 go_enter Try.func44, Try.ntmps44
 go_wp2_with (first | ((with_reducible refine gate_dst (N := 10) rfl ?_); refine box_event ?hg (N := 10) ?hd (cs := #[.slice A0 (l0.take 2000).length c0, .int .i64 0]) (t := 107) ?hr ?_; (case hd => rfl); (case hg => rfl); (case hr => first | (go_simp; done) | (go_simp; rfl)); intro gb127 hg w5 hbox hb; have n0_ := mk_ (below_step HBW.out hb); replace HB := mk_ (below_step (ub_ HB.out) hb); have BK127 := mk_ (hbox); have GW127 := mk_ ((by rw [hg]; exact (below_size (by repeat (first | (with_reducible first | exact HBW.out | apply na_ | apply nn_ | apply nw_) | exact HBW.out))) : w.heap.size ≤ gb127)); have GE127 := ge_ ((Nat.le_trans HW0.out (by rw [hg]; exact (below_size (by repeat (first | (with_reducible first | exact HBW.out | apply na_ | apply nn_ | apply nw_) | exact HBW.out))) : w.heap.size ≤ gb127) : w0.heap.size ≤ gb127)); replace HBW := n0_; clear n0_; clear hb hbox hg))
 go_ret
 exact ⟨_, rfl, (show IsS107 w0 _ gb127 (l0.take 2000) 0 from ⟨_, _, by (with_reducible repeat (first | refine bn_ ?_ _ | refine bw_ ?_ | refine ba_ ?_ _)); exact BK127.out, GE127.out, HR126.out⟩), by repeat (first | (with_reducible first | exact HB.out | apply na_ | apply nn_ | apply nw_ | refine bs_ ?_ GE127.out) | exact HB.out), by repeat (first | (with_reducible first | exact HBW.out | apply na_ | apply nn_ | apply nw_ | refine bs_ ?_ GW127.out) | exact HBW.out)⟩

/-! ### spec_l20Rd_pick: function 46 -/
def spec_l20Rd_pick.j0 : Nat → Int → Bool → List Int → Int → Option (Int × Int)
 | 0, _, _, _, _ => none
 | k + 1, x1, x24, x1000, x1001 => if x24 = true then (some (0, x1001)) else (if (wrap64 (x1001 - 1)) < (x1000.length : Int) then (if 0 ≤ (wrap64 (x1001 - 1)) then (if x1 = 0 then (none) else (some (Int.tmod (wrap64 (rd x1000 (wrap64 (x1001 - 1)))) x1, x1001))) else (none)) else (if (x1000.length : Int) = 0 then (none) else (if 0 ≤ (Int.tmod (wrap64 (x1001 - 1)) (x1000.length : Int)) then (if (Int.tmod (wrap64 (x1001 - 1)) (x1000.length : Int)) < (x1000.length : Int) then (if 0 ≤ (Int.tmod (wrap64 ((wrap64 ((wrap64 (x1001 - 1)) * 7)) + 3)) (x1000.length : Int)) then (if (Int.tmod (wrap64 ((wrap64 ((wrap64 (x1001 - 1)) * 7)) + 3)) (x1000.length : Int)) < (x1000.length : Int) then (if x1 = 0 then (none) else (some (Int.tmod (Go.bits .xor .i64 (wrap64 ((wrap64 ((wrap64 ((wrap64 ((wrap64 (rd x1000 (Int.tmod (wrap64 (x1001 - 1)) (x1000.length : Int)))) * 131)) + (wrap64 ((wrap64 (rd x1000 (Int.tmod (wrap64 ((wrap64 ((wrap64 (x1001 - 1)) * 7)) + 3)) (x1000.length : Int)))) * 1117)))) + (wrap64 ((wrap64 (x1001 - 1)) * 29)))) + (wrap64 ((wrap64 (Int.tdiv (wrap64 (x1001 - 1)) (x1000.length : Int))) * 53)))) (wrap64 (Int.tdiv (wrap64 ((wrap64 ((wrap64 ((wrap64 ((wrap64 (rd x1000 (Int.tmod (wrap64 (x1001 - 1)) (x1000.length : Int)))) * 131)) + (wrap64 ((wrap64 (rd x1000 (Int.tmod (wrap64 ((wrap64 ((wrap64 (x1001 - 1)) * 7)) + 3)) (x1000.length : Int)))) * 1117)))) + (wrap64 ((wrap64 (x1001 - 1)) * 29)))) + (wrap64 ((wrap64 (Int.tdiv (wrap64 (x1001 - 1)) (x1000.length : Int))) * 53)))) 64))) x1, x1001))) else (none)) else (none)) else (none)) else (none))))
def spec_l20Rd_pick.f (k : Nat) (s0_0 : List Int) (s0_1 : Int) (a1 : Int) : Option (Int × Int) := if a1 < 1 then (spec_l20Rd_pick.j0 k a1 true s0_0 (wrap64 (s0_1 + 1))) else (spec_l20Rd_pick.j0 k a1 ((s0_0.length : Int) == 0) s0_0 (wrap64 (s0_1 + 1)))
theorem spec_l20Rd_pick.mono_l : ∀ k, (∀ y0 y1 y2 y3, LeO (spec_l20Rd_pick.j0 k y0 y1 y2 y3) (spec_l20Rd_pick.j0 (k + 1) y0 y1 y2 y3))
 | 0 => fun _ _ _ _ r h => by simp [spec_l20Rd_pick.j0] at h
 | k + 1 => by
  have ih0 := spec_l20Rd_pick.mono_l k
  ·intro y0 y1 y2 y3
   unfold spec_l20Rd_pick.j0
   repeat' first
   | (with_reducible exact ih0 _ _ _ _)
   | (with_reducible exact LeO.refl _)
   | (with_reducible exact LeO.none _)
   | (with_reducible refine LeO.ite ?_ ?_)
   | (with_reducible refine LeO.bind ?_ (fun _ => ?_))
   | exact ih0 _ _ _ _
   | exact LeO.none _
   | refine LeO.ite ?_ ?_
   | refine LeO.bind ?_ (fun _ => ?_)
theorem spec_l20Rd_pick.mono : ∀ a0 a1 a2 k, LeO (spec_l20Rd_pick.f k a0 a1 a2) (spec_l20Rd_pick.f (k + 1) a0 a1 a2) := by
 intro a0 a1 a2 k
 have ih0 := spec_l20Rd_pick.mono_l k
 unfold spec_l20Rd_pick.f
 repeat' first
   | (with_reducible exact ih0 _ _ _ _)
   | (with_reducible exact LeO.refl _)
   | (with_reducible exact LeO.none _)
   | (with_reducible refine LeO.ite ?_ ?_)
   | (with_reducible refine LeO.bind ?_ (fun _ => ?_))
   | exact ih0 _ _ _ _
   | exact LeO.none _
   | refine LeO.ite ?_ ?_
   | refine LeO.bind ?_ (fun _ => ?_)
set_option maxHeartbeats 8000000 in
set_option maxRecDepth 100000 in
theorem spec_l20Rd_pick.calls (k : Nat) (g : Nat) (s0_0 : List Int) (s0_1 : Int) (a1 : Int) (r1 : Int) (r2 : Int) (w0 w : World) (hI : IsS107 w0 w g s0_0 s0_1) (hB : Below w0.heap.size w0 w) (h : spec_l20Rd_pick.f k s0_0 s0_1 a1 = some (r1, r2)) :
  Calls Try.prog 46 #[.pointer (some ⟨g, 0, none⟩), .int .i64 a1] w fun e w' => e = .returned (.int .i64 r1) ∧ IsS107 w0 w' g s0_0 r2 ∧ Below w0.heap.size w0 w' ∧ KeepBut w w' g none := by
 have HI0 := mk_ hI
 have HK := mk_ (KeepBut.refl w g none)
 have HL := mk_ hB.size
 clear hI
 have HW0 := mk_ hB.size
 have HB := mk_ hB
 clear hB
 have H := h
 unfold spec_l20Rd_pick.f at H
 clear h
 have HC3 := mk_ H
 clear H
 obtain ⟨ASz4_0, cSz4_0, HGz4, hgz4, HSz4_0⟩ := HI0.out
 have hcz4_0 := cellS107_0 HGz4
 have hcz4_1 := cellS107_1 HGz4
 have hfz4_1 := blk_frozen HGz4 1
 clear HGz4 hgz4
 go_enter Try.func46, Try.ntmps46
 go_upto_region 2 with (fail)
 repeat (go_quiet (fail); go_upto_region 2 with (fail))
 go_cut [24] (fun v24 wc => ∃ (kq : Nat) (x24_2 : Bool), v24 = .bool x24_2 ∧ Aside0 (spec_l20Rd_pick.j0 kq a1 x24_2 s0_0 (wrap64 (s0_1 + 1)) = some (r1, r2)) ∧ Aside0 (kq ≤ k) ∧ Aside0 (IsS107 w0 wc g s0_0 (wrap64 (s0_1 + 1))) ∧ Aside0 (KeepBut w wc g none) ∧ Aside0 (Below w0.heap.size w0 wc))
 case first =>
  have H := HC3.out
  clear HC3
  by_cases c5 : a1 < 1
  ·rw [if_pos c5] at H
   have c5b0 : decide (a1 < 1) = true := decide_eq_true c5
   clear c5
   (first | rw [c5b0] | (simp only [i64_w, i32_w]; rw [c5b0]) | skip)
   have H' := mk_ H
   clear H
   go_wp2
   repeat (go_quiet (fail); try go_wp2)
   go_meet
   case rel => exact ⟨_, (true), (by first | rfl | (simp; done) | (simp [*]; done)), H', ⟨by first | omega | exact Nat.le_refl _⟩, ⟨by repeat (first | (with_reducible first | exact HI0.out | apply IsS107.alloc | apply IsS107.drewN | apply IsS107.drew | apply IsS107.set_1) | exact HI0.out)⟩, ⟨by repeat (first | (with_reducible first | exact HK.out | apply KeepBut.set_ | apply keep_drewN | apply keep_drew | apply keep_alloc) | exact HK.out)⟩, ⟨by repeat (first | (with_reducible first | exact HB.out | apply na_ | apply nn_ | apply nw_ | refine bs_ ?_ (IsS107.ge HI0.out)) | exact HB.out)⟩⟩
  rw [if_neg c5] at H
  have c5b0 : decide (a1 < 1) = false := decide_eq_false c5
  clear c5
  (first | rw [c5b0] | (simp only [i64_w, i32_w]; rw [c5b0]) | skip)
  have H' := mk_ H
  clear H
  obtain ⟨ASz6_0, cSz6_0, HGz6, hgz6, HSz6_0⟩ := HI0.out
  have hcz6_0 := cellS107_0 HGz6
  have hcz6_1 := cellS107_1 HGz6
  have hfz6_1 := blk_frozen HGz6 1
  clear HGz6 hgz6
  go_wp2
  repeat (go_quiet (fail); try go_wp2)
  go_meet
  case rel => exact ⟨_, (((s0_0.length : Int) == 0)), (by first | rfl | (simp; done) | (simp [*]; done)), H', ⟨by first | omega | exact Nat.le_refl _⟩, ⟨by repeat (first | (with_reducible first | exact HI0.out | apply IsS107.alloc | apply IsS107.drewN | apply IsS107.drew | apply IsS107.set_1) | exact HI0.out)⟩, ⟨by repeat (first | (with_reducible first | exact HK.out | apply KeepBut.set_ | apply keep_drewN | apply keep_drew | apply keep_alloc) | exact HK.out)⟩, ⟨by repeat (first | (with_reducible first | exact HB.out | apply na_ | apply nn_ | apply nw_ | refine bs_ ?_ (IsS107.ge HI0.out)) | exact HB.out)⟩⟩
 case rest =>
  clear HC3
  try clear p2
  try clear c4
  try clear c5
  try clear c5b0
  try clear p6
  try clear hcz4_0
  try clear hcz4_1
  try clear hcz6_0
  try clear hcz6_1
  try clear hfz4_1
  try clear hfz6_1
  obtain ⟨kq, x24_2, rfl, HA, HJ2, HI0, HK, HB⟩ := hcut
  cases kq with
  | zero => exact absurd HA.out (by simp [spec_l20Rd_pick.j0])
  | succ kj2 =>
   have H := HA.out
   clear HA
   simp only [spec_l20Rd_pick.j0] at H
   by_cases c7 : x24_2 = true
   ·subst c7
    have H1 : (some (0, (wrap64 (s0_1 + 1)))) = some (r1, r2) := by rw [if_pos rfl] at H; exact H
    clear H
    have H := H1
    clear H1
    simp only [Option.some.injEq, Prod.mk.injEq] at H
    obtain ⟨rfl, rfl⟩ := H
    go_wp2
    repeat (go_quiet (fail); try go_wp2)
    go_ret
    exact ⟨by first | rfl | (simp [errW_none, errW_some] <;> rfl) | (simp [*, errW_none, errW_some] <;> rfl), by repeat (first | (with_reducible first | exact HI0.out | apply IsS107.alloc | apply IsS107.drewN | apply IsS107.drew | apply IsS107.set_1) | exact HI0.out), by repeat (first | (with_reducible first | exact HB.out | apply na_ | apply nn_ | apply nw_ | refine bs_ ?_ (IsS107.ge HI0.out)) | exact HB.out), by repeat (first | (with_reducible first | exact HK.out | apply KeepBut.set_ | apply keep_drewN | apply keep_drew | apply keep_alloc) | exact HK.out)⟩
   replace c7 := Bool.eq_false_iff.mpr c7
   subst c7
   rw [if_neg (show ¬ (false = true) by decide)] at H
   by_cases c8 : (wrap64 ((wrap64 (s0_1 + 1)) - 1)) < (s0_0.length : Int)
   ·rw [if_pos c8] at H
    have c8b0 : decide ((wrap64 ((wrap64 (s0_1 + 1)) - 1)) < (s0_0.length : Int)) = true := decide_eq_true c8
    clear c8
    obtain ⟨ji9, hji9⟩ : ∃ j_ : Int, (wrap64 ((wrap64 (s0_1 + 1)) - 1)) = j_ := ⟨_, rfl⟩
    replace H : (if 0 ≤ (ji9) then (if a1 = 0 then (none) else (some (Int.tmod (wrap64 (rd s0_0 (ji9))) a1, (wrap64 (s0_1 + 1))))) else (none)) = some (r1, r2) := by first | (rw [hji9] at H; exact H) | (simp only [hji9] at H ⊢; exact H)
    (try rw [hji9] at c8b0)
    have hji9w : (IntKind.i64.wrap ((wrap64 (s0_1 + 1)) - 1)) = ji9 := (i64_w _).trans hji9
    by_cases c10 : 0 ≤ (ji9)
    rotate_left
    ·rw [if_neg c10] at H
     exact absurd H (by simp)
    rw [if_pos c10] at H
    have c10b0 : decide (0 ≤ (ji9)) = true := decide_eq_true c10
    clear c10
    by_cases c11 : a1 = 0
    ·rw [if_pos c11] at H
     exact absurd H (by simp)
    rw [if_neg c11] at H
    have c11b0 : (a1 == 0) = false := beq_eq_false_iff_ne.mpr c11
    have c11b1 : (a1 != 0) = true := bne_iff_ne.mpr c11
    simp only [Option.some.injEq, Prod.mk.injEq] at H
    obtain ⟨rfl, rfl⟩ := H
    obtain ⟨ASz12_0, cSz12_0, HGz12, hgz12, HSz12_0⟩ := HI0.out
    have hcz12_0 := cellS107_0 HGz12
    have hcz12_1 := cellS107_1 HGz12
    have hfz12_1 := blk_frozen HGz12 1
    clear HGz12 hgz12
    have p129 : 0 ≤ ((ji9) : Int) := of_decide_eq_true (by first | (with_reducible assumption) | assumption)
    have q129 : (ji9) < (s0_0.length : Int) := of_decide_eq_true (by first | (with_reducible assumption) | assumption)
    obtain ⟨ad129, e129, hx129_0⟩ := Kd.at_int HSz12_0 (ji9) p129 q129
    cases e129
    replace hx129_0 := pw_cell_below HB.out hx129_0
    replace p129 := eq_true p129
    replace q129 := eq_true q129
    go_wp2
    repeat (go_quiet (fail); try go_wp2)
    go_ret
    exact ⟨by first | rfl | (simp [errW_none, errW_some] <;> rfl) | (simp only [← hji9]; first | rfl | (simp [errW_none, errW_some] <;> rfl)) | (simp [*, errW_none, errW_some] <;> rfl), by repeat (first | (with_reducible first | exact HI0.out | apply IsS107.alloc | apply IsS107.drewN | apply IsS107.drew | apply IsS107.set_1) | exact HI0.out), by repeat (first | (with_reducible first | exact HB.out | apply na_ | apply nn_ | apply nw_ | refine bs_ ?_ (IsS107.ge HI0.out)) | exact HB.out), by repeat (first | (with_reducible first | exact HK.out | apply KeepBut.set_ | apply keep_drewN | apply keep_drew | apply keep_alloc) | exact HK.out)⟩
   rw [if_neg c8] at H
   have c8b0 : decide ((wrap64 ((wrap64 (s0_1 + 1)) - 1)) < (s0_0.length : Int)) = false := decide_eq_false c8
   clear c8
   by_cases c13 : (s0_0.length : Int) = 0
   ·rw [if_pos c13] at H
    exact absurd H (by simp)
   rw [if_neg c13] at H
   have c13b0 : ((s0_0.length : Int) == 0) = false := beq_eq_false_iff_ne.mpr c13
   have c13b1 : ((s0_0.length : Int) != 0) = true := bne_iff_ne.mpr c13
   have c13b2 : ¬ (s0_0 = []) := fun h_ => c13 (by rw [h_]; rfl)
   obtain ⟨ji14, hji14⟩ : ∃ j_ : Int, (Int.tmod (wrap64 ((wrap64 (s0_1 + 1)) - 1)) (s0_0.length : Int)) = j_ := ⟨_, rfl⟩
   replace H : (if 0 ≤ (ji14) then (if (ji14) < (s0_0.length : Int) then (if 0 ≤ (Int.tmod (wrap64 ((wrap64 ((wrap64 ((wrap64 (s0_1 + 1)) - 1)) * 7)) + 3)) (s0_0.length : Int)) then (if (Int.tmod (wrap64 ((wrap64 ((wrap64 ((wrap64 (s0_1 + 1)) - 1)) * 7)) + 3)) (s0_0.length : Int)) < (s0_0.length : Int) then (if a1 = 0 then (none) else (some (Int.tmod (Go.bits .xor .i64 (wrap64 ((wrap64 ((wrap64 ((wrap64 ((wrap64 (rd s0_0 (ji14))) * 131)) + (wrap64 ((wrap64 (rd s0_0 (Int.tmod (wrap64 ((wrap64 ((wrap64 ((wrap64 (s0_1 + 1)) - 1)) * 7)) + 3)) (s0_0.length : Int)))) * 1117)))) + (wrap64 ((wrap64 ((wrap64 (s0_1 + 1)) - 1)) * 29)))) + (wrap64 ((wrap64 (Int.tdiv (wrap64 ((wrap64 (s0_1 + 1)) - 1)) (s0_0.length : Int))) * 53)))) (wrap64 (Int.tdiv (wrap64 ((wrap64 ((wrap64 ((wrap64 ((wrap64 (rd s0_0 (ji14))) * 131)) + (wrap64 ((wrap64 (rd s0_0 (Int.tmod (wrap64 ((wrap64 ((wrap64 ((wrap64 (s0_1 + 1)) - 1)) * 7)) + 3)) (s0_0.length : Int)))) * 1117)))) + (wrap64 ((wrap64 ((wrap64 (s0_1 + 1)) - 1)) * 29)))) + (wrap64 ((wrap64 (Int.tdiv (wrap64 ((wrap64 (s0_1 + 1)) - 1)) (s0_0.length : Int))) * 53)))) 64))) a1, (wrap64 (s0_1 + 1))))) else (none)) else (none)) else (none)) else (none)) = some (r1, r2) := by first | (rw [hji14] at H; exact H) | (simp only [hji14] at H ⊢; exact H)
   by_cases c15 : 0 ≤ (ji14)
   rotate_left
   ·rw [if_neg c15] at H
    exact absurd H (by simp)
   rw [if_pos c15] at H
   have c15b0 : decide (0 ≤ (ji14)) = true := decide_eq_true c15
   clear c15
   by_cases c16 : (ji14) < (s0_0.length : Int)
   rotate_left
   ·rw [if_neg c16] at H
    exact absurd H (by simp)
   rw [if_pos c16] at H
   have c16b0 : decide ((ji14) < (s0_0.length : Int)) = true := decide_eq_true c16
   clear c16
   obtain ⟨ji17, hji17⟩ : ∃ j_ : Int, (Int.tmod (wrap64 ((wrap64 ((wrap64 ((wrap64 (s0_1 + 1)) - 1)) * 7)) + 3)) (s0_0.length : Int)) = j_ := ⟨_, rfl⟩
   replace H : (if 0 ≤ (ji17) then (if (ji17) < (s0_0.length : Int) then (if a1 = 0 then (none) else (some (Int.tmod (Go.bits .xor .i64 (wrap64 ((wrap64 ((wrap64 ((wrap64 ((wrap64 (rd s0_0 (ji14))) * 131)) + (wrap64 ((wrap64 (rd s0_0 (ji17))) * 1117)))) + (wrap64 ((wrap64 ((wrap64 (s0_1 + 1)) - 1)) * 29)))) + (wrap64 ((wrap64 (Int.tdiv (wrap64 ((wrap64 (s0_1 + 1)) - 1)) (s0_0.length : Int))) * 53)))) (wrap64 (Int.tdiv (wrap64 ((wrap64 ((wrap64 ((wrap64 ((wrap64 (rd s0_0 (ji14))) * 131)) + (wrap64 ((wrap64 (rd s0_0 (ji17))) * 1117)))) + (wrap64 ((wrap64 ((wrap64 (s0_1 + 1)) - 1)) * 29)))) + (wrap64 ((wrap64 (Int.tdiv (wrap64 ((wrap64 (s0_1 + 1)) - 1)) (s0_0.length : Int))) * 53)))) 64))) a1, (wrap64 (s0_1 + 1))))) else (none)) else (none)) = some (r1, r2) := by first | (rw [hji17] at H; exact H) | (simp only [hji17] at H ⊢; exact H)
   by_cases c18 : 0 ≤ (ji17)
   rotate_left
   ·rw [if_neg c18] at H
    exact absurd H (by simp)
   rw [if_pos c18] at H
   have c18b0 : decide (0 ≤ (ji17)) = true := decide_eq_true c18
   clear c18
   by_cases c19 : (ji17) < (s0_0.length : Int)
   rotate_left
   ·rw [if_neg c19] at H
    exact absurd H (by simp)
   rw [if_pos c19] at H
   have c19b0 : decide ((ji17) < (s0_0.length : Int)) = true := decide_eq_true c19
   clear c19
   by_cases c20 : a1 = 0
   ·rw [if_pos c20] at H
    exact absurd H (by simp)
   rw [if_neg c20] at H
   have c20b0 : (a1 == 0) = false := beq_eq_false_iff_ne.mpr c20
   have c20b1 : (a1 != 0) = true := bne_iff_ne.mpr c20
   simp only [Option.some.injEq, Prod.mk.injEq] at H
   obtain ⟨rfl, rfl⟩ := H
   obtain ⟨ASz21_0, cSz21_0, HGz21, hgz21, HSz21_0⟩ := HI0.out
   have hcz21_0 := cellS107_0 HGz21
   have hcz21_1 := cellS107_1 HGz21
   have hfz21_1 := blk_frozen HGz21 1
   clear HGz21 hgz21
   have p130 : 0 ≤ ((ji14) : Int) := of_decide_eq_true (by first | (with_reducible assumption) | assumption)
   have q130 : (ji14) < (s0_0.length : Int) := of_decide_eq_true (by first | (with_reducible assumption) | assumption)
   obtain ⟨ad130, e130, hx130_0⟩ := Kd.at_int HSz21_0 (ji14) p130 q130
   cases e130
   replace hx130_0 := pw_cell_below HB.out hx130_0
   replace p130 := eq_true p130
   replace q130 := eq_true q130
   have p131 : 0 ≤ ((ji17) : Int) := of_decide_eq_true (by first | (with_reducible assumption) | assumption)
   have q131 : (ji17) < (s0_0.length : Int) := of_decide_eq_true (by first | (with_reducible assumption) | assumption)
   obtain ⟨ad131, e131, hx131_0⟩ := Kd.at_int HSz21_0 (ji17) p131 q131
   obtain rfl : ad130 = ad131 := (by injection e131)
   replace hx131_0 := pw_cell_below HB.out hx131_0
   replace p131 := eq_true p131
   replace q131 := eq_true q131
   go_wp2
   repeat (go_quiet (fail); try go_wp2)
   go_ret
   exact ⟨by first | rfl | (simp [errW_none, errW_some] <;> rfl) | (simp only [← hji14, ← hji17]; first | rfl | (simp [errW_none, errW_some] <;> rfl)) | (simp [*, errW_none, errW_some] <;> rfl), by repeat (first | (with_reducible first | exact HI0.out | apply IsS107.alloc | apply IsS107.drewN | apply IsS107.drew | apply IsS107.set_1) | exact HI0.out), by repeat (first | (with_reducible first | exact HB.out | apply na_ | apply nn_ | apply nw_ | refine bs_ ?_ (IsS107.ge HI0.out)) | exact HB.out), by repeat (first | (with_reducible first | exact HK.out | apply KeepBut.set_ | apply keep_drewN | apply keep_drew | apply keep_alloc) | exact HK.out)⟩

/-! ### spec_l20Rd_odd: function 90 -/
def spec_l20Rd_odd.f (k : Nat) (s0_0 : List Int) (s0_1 : Int) (a1 : Int) : Option (Bool × Int) := if a1 > 0 then ((spec_l20Rd_pick.f k s0_0 s0_1 a1).bind fun bt132 => (some ((bt132.1 == (wrap64 (a1 - 1))), bt132.2))) else (some (false, s0_1))
theorem spec_l20Rd_odd.mono : ∀ a0 a1 a2 k, LeO (spec_l20Rd_odd.f k a0 a1 a2) (spec_l20Rd_odd.f (k + 1) a0 a1 a2) := by
 intro a0 a1 a2 k
 unfold spec_l20Rd_odd.f
 repeat' first
   | (with_reducible exact spec_l20Rd_pick.mono _ _ _ _)
   | (with_reducible exact LeO.refl _)
   | (with_reducible exact LeO.none _)
   | (with_reducible refine LeO.ite ?_ ?_)
   | (with_reducible refine LeO.bind ?_ (fun _ => ?_))
   | exact spec_l20Rd_pick.mono _ _ _ _
   | exact LeO.none _
   | refine LeO.ite ?_ ?_
   | refine LeO.bind ?_ (fun _ => ?_)
set_option maxHeartbeats 8000000 in
set_option maxRecDepth 100000 in
theorem spec_l20Rd_odd.calls (k : Nat) (g : Nat) (s0_0 : List Int) (s0_1 : Int) (a1 : Int) (r1 : Bool) (r2 : Int) (w0 w : World) (hI : IsS107 w0 w g s0_0 s0_1) (hB : Below w0.heap.size w0 w) (h : spec_l20Rd_odd.f k s0_0 s0_1 a1 = some (r1, r2)) :
  Calls Try.prog 90 #[.pointer (some ⟨g, 0, none⟩), .int .i64 a1] w fun e w' => e = .returned (.bool r1) ∧ IsS107 w0 w' g s0_0 r2 ∧ Below w0.heap.size w0 w' ∧ KeepBut w w' g none := by
 have HI0 := mk_ hI
 have HK := mk_ (KeepBut.refl w g none)
 have HL := mk_ hB.size
 clear hI
 have HW0 := mk_ hB.size
 have HB := mk_ hB
 clear hB
 have H := h
 unfold spec_l20Rd_odd.f at H
 clear h
 by_cases c3 : a1 > 0
 rotate_left
 ·rw [if_neg c3] at H
  have c3b0 : decide (0 < a1) = false := decide_eq_false c3
  clear c3
  simp only [Option.some.injEq, Prod.mk.injEq] at H
  obtain ⟨rfl, rfl⟩ := H
  go_enter Try.func90, Try.ntmps90
  go_wp2
  go_ret
  exact ⟨by first | rfl | (simp [errW_none, errW_some] <;> rfl) | (simp [*, errW_none, errW_some] <;> rfl), by repeat (first | (with_reducible first | exact HI0.out | apply IsS107.alloc | apply IsS107.drewN | apply IsS107.drew | apply IsS107.set_1) | exact HI0.out), by repeat (first | (with_reducible first | exact HB.out | apply na_ | apply nn_ | apply nw_ | refine bs_ ?_ (IsS107.ge HI0.out)) | exact HB.out), by repeat (first | (with_reducible first | exact HK.out | apply KeepBut.set_ | apply keep_drewN | apply keep_drew | apply keep_alloc) | exact HK.out)⟩
 rw [if_pos c3] at H
 have c3b0 : decide (0 < a1) = true := decide_eq_true c3
 clear c3
 replace H := Option.bind_eq_some_iff.mp H
 obtain ⟨⟨t132, t133⟩, A40, H⟩ := H
 replace H : (some ((t132 == (wrap64 (a1 - 1))), t133)) = some (r1, r2) := H
 have A4 := mk_ A40
 clear A40
 simp only [Option.some.injEq, Prod.mk.injEq] at H
 obtain ⟨rfl, rfl⟩ := H
 go_enter Try.func90, Try.ntmps90
 go_wp2_with (first | (go_at_call 46; (with_reducible refine (spec_l20Rd_pick.calls k g s0_0 s0_1 a1 t132 t133 w0 _ ?side1 ?side2 A4.out).mono ?_); (case side1 => repeat (first | (with_reducible first | exact HI0.out | apply IsS107.alloc | apply IsS107.drewN | apply IsS107.drew | apply IsS107.set_1) | exact HI0.out)); (case side2 => repeat (first | (with_reducible first | exact HB.out | apply na_ | apply nn_ | apply nw_ | refine bs_ ?_ (IsS107.ge HI0.out)) | exact HB.out)); rintro e w5 ⟨rfl, hi, hb, hk⟩; replace HK := mk_ (KeepBut.trans (by repeat (first | (with_reducible first | exact HK.out | apply KeepBut.set_ | apply keep_drewN | apply keep_drew | apply keep_alloc) | exact HK.out)) hk (.inl rfl)); replace HB := mk_ (hb); replace HI0 := mk_ (hi)))
 go_ret
 exact ⟨by first | rfl | (simp [errW_none, errW_some] <;> rfl) | (simp [*, errW_none, errW_some] <;> rfl), by repeat (first | (with_reducible first | exact HI0.out | apply IsS107.alloc | apply IsS107.drewN | apply IsS107.drew | apply IsS107.set_1) | exact HI0.out), by repeat (first | (with_reducible first | exact HB.out | apply na_ | apply nn_ | apply nw_ | refine bs_ ?_ (IsS107.ge HI0.out)) | exact HB.out), by repeat (first | (with_reducible first | exact HK.out | apply KeepBut.set_ | apply keep_drewN | apply keep_drew | apply keep_alloc) | exact HK.out)⟩

/-! ### spec_l1In: function 53 -/
def spec_l1In.f (a0 : Int) (a1 : Int) (a2 : Int) : Option (Bool) := if a0 ≥ a1 then (some (decide (a0 ≤ a2))) else (some false)
set_option maxHeartbeats 8000000 in
set_option maxRecDepth 100000 in
theorem spec_l1In.calls (a0 : Int) (a1 : Int) (a2 : Int) (r : Bool) (w : World) (h : spec_l1In.f a0 a1 a2 = some r) :
  Calls Try.prog 53 #[.int .i64 a0, .int .i64 a1, .int .i64 a2] w fun e w' => e = .returned (.bool r) ∧ Drawn0 w w' := by
 have H : (if a0 ≥ a1 then (some (decide (a0 ≤ a2))) else (some false)) = some r := h
 clear h
 by_cases c4 : a0 ≥ a1
 focus
  rw [if_pos c4] at H
  have c4b0 : decide (a1 ≤ a0) = true := decide_eq_true c4
  clear c4
  obtain rfl := Option.some.inj H
 rotate_left
 focus
  rw [if_neg c4] at H
  have c4b0 : decide (a1 ≤ a0) = false := decide_eq_false c4
  clear c4
  obtain rfl := Option.some.inj H
 rotate_left
 all_goals
  go_enter Try.func53, Try.ntmps53
  go_wp2
  go_ret
  exact ⟨by first | rfl | (simp; done) | (simp [*]; done), by repeat (first | exact Drawn0.refl _ | apply Drawn0.step)⟩

/-! ### spec_EarOk: function 33 -/
mutual
def spec_EarOk.j0 : Nat → Bool → Int → Int → List Int → List (S68) → Option (Bool)
 | 0, _, _, _, _, _ => none
 | k + 1, x21, x135000, x135001, x135002, x135003 => if x21 = true then (some false) else (spec_EarOk.l0 k 0 x135000 x135001 x135002 x135003)
def spec_EarOk.l0 : Nat → Int → Int → Int → List Int → List (S68) → Option (Bool)
 | 0, _, _, _, _, _ => none
 | k + 1, x3, x135000, x135001, x135002, x135003 => if x3 < (x135003.length : Int) then (if 0 ≤ x3 then (if ((rd_T68 x135003 x3).f0) ≤ x135000 then (some false) else (if ((rd_T68 x135003 x3).f0) ≥ (wrap64 ((wrap64 (x135000 + x135001)) - (x135002.length : Int))) then (some false) else (if x3 > 0 then (if 0 ≤ (wrap64 (x3 - 1)) then (if (wrap64 (x3 - 1)) < (x135003.length : Int) then (if ((rd_T68 x135003 (wrap64 (x3 - 1))).f0) ≥ ((rd_T68 x135003 x3).f0) then (some false) else (spec_EarOk.l0 k (wrap64 (x3 + 1)) x135000 x135001 x135002 x135003)) else (none)) else (none)) else (spec_EarOk.l0 k (wrap64 (x3 + 1)) x135000 x135001 x135002 x135003)))) else (none)) else (some true)
end
def spec_EarOk.f (k : Nat) (a0_0 : Int) (a0_1 : Int) (l0_2 : List Int) (l0_3 : List (S68)) : Option (Bool) := (spec_l1In.f a0_0 0 1000000).bind fun t135 => (if t135 = true then ((spec_l1In.f a0_1 1 32).bind fun t136 => (if t136 = true then (spec_EarOk.j0 k (decide ((l0_2.length : Int) > a0_1)) a0_0 a0_1 l0_2 l0_3) else (spec_EarOk.j0 k true a0_0 a0_1 l0_2 l0_3))) else (spec_EarOk.j0 k true a0_0 a0_1 l0_2 l0_3))
theorem spec_EarOk.mono_l : ∀ k, (∀ y0 y1 y2 y3 y4, LeO (spec_EarOk.j0 k y0 y1 y2 y3 y4) (spec_EarOk.j0 (k + 1) y0 y1 y2 y3 y4)) ∧ (∀ y0 y1 y2 y3 y4, LeO (spec_EarOk.l0 k y0 y1 y2 y3 y4) (spec_EarOk.l0 (k + 1) y0 y1 y2 y3 y4))
 | 0 => ⟨fun _ _ _ _ _ r h => by simp [spec_EarOk.j0] at h, fun _ _ _ _ _ r h => by simp [spec_EarOk.l0] at h⟩
 | k + 1 => by
  obtain ⟨ih0, ih1⟩ := spec_EarOk.mono_l k
  refine ⟨?_, ?_⟩
  ·intro y0 y1 y2 y3 y4
   unfold spec_EarOk.j0
   repeat' first
   | (with_reducible exact ih0 _ _ _ _ _)
   | (with_reducible exact ih1 _ _ _ _ _)
   | (with_reducible exact LeO.refl _)
   | (with_reducible exact LeO.none _)
   | (with_reducible refine LeO.ite ?_ ?_)
   | (with_reducible refine LeO.bind ?_ (fun _ => ?_))
   | exact ih0 _ _ _ _ _
   | exact ih1 _ _ _ _ _
   | exact LeO.none _
   | refine LeO.ite ?_ ?_
   | refine LeO.bind ?_ (fun _ => ?_)
  ·intro y0 y1 y2 y3 y4
   unfold spec_EarOk.l0
   repeat' first
   | (with_reducible exact ih0 _ _ _ _ _)
   | (with_reducible exact ih1 _ _ _ _ _)
   | (with_reducible exact LeO.refl _)
   | (with_reducible exact LeO.none _)
   | (with_reducible refine LeO.ite ?_ ?_)
   | (with_reducible refine LeO.bind ?_ (fun _ => ?_))
   | exact ih0 _ _ _ _ _
   | exact ih1 _ _ _ _ _
   | exact LeO.none _
   | refine LeO.ite ?_ ?_
   | refine LeO.bind ?_ (fun _ => ?_)
theorem spec_EarOk.mono : ∀ a0 a1 a2 a3 k, LeO (spec_EarOk.f k a0 a1 a2 a3) (spec_EarOk.f (k + 1) a0 a1 a2 a3) := by
 intro a0 a1 a2 a3 k
 obtain ⟨ih0, ih1⟩ := spec_EarOk.mono_l k
 unfold spec_EarOk.f
 repeat' first
   | (with_reducible exact ih0 _ _ _ _ _)
   | (with_reducible exact ih1 _ _ _ _ _)
   | (with_reducible exact LeO.refl _)
   | (with_reducible exact LeO.none _)
   | (with_reducible refine LeO.ite ?_ ?_)
   | (with_reducible refine LeO.bind ?_ (fun _ => ?_))
   | exact ih0 _ _ _ _ _
   | exact ih1 _ _ _ _ _
   | exact LeO.none _
   | refine LeO.ite ?_ ?_
   | refine LeO.bind ?_ (fun _ => ?_)
set_option maxHeartbeats 8000000 in
set_option maxRecDepth 100000 in
theorem spec_EarOk.calls (k : Nat) (a0_0 : Int) (a0_1 : Int) (A0_2 : Option Addr) (c0_2 : Nat) (l0_2 : List Int) (A0_3 : Option Addr) (c0_3 : Nat) (l0_3 : List (S68)) (r : Bool) (w : World) (hr0_2 : Kd.C (Kd.int .u8) w A0_2 l0_2.length l0_2) (hc0_2 : l0_2.length ≤ c0_2) (hr0_3 : Kd.C k68 w A0_3 l0_3.length l0_3) (hc0_3 : l0_3.length ≤ c0_3) (h : spec_EarOk.f k a0_0 a0_1 l0_2 l0_3 = some r) :
  Calls Try.prog 33 #[.agg #[.int .i64 a0_0, .int .i64 a0_1, .slice A0_2 l0_2.length c0_2, .slice A0_3 l0_3.length c0_3]] w fun e w' => e = .returned (.bool r) ∧ Below w.heap.size w w' := by
 have hu59 := Try.underlying59
 have HR0_2 := mk_ hr0_2
 have HC0_2 := mk_ hc0_2
 clear hr0_2 hc0_2
 have HR0_3 := mk_ hr0_3
 have HC0_3 := mk_ hc0_3
 clear hr0_3 hc0_3
 have HB := mk_ (Below.refl w.heap.size w)
 have H := h
 unfold spec_EarOk.f at H
 clear h
 have HC2 := mk_ H
 clear H
 go_enter Try.func33, Try.ntmps33
 go_upto_region 1 with (first | ((with_reducible refine gate_dst (N := 1) rfl ?_); refine box_event ?hg (N := 1) ?hd (cs := #[.int .i64 a0_0, .int .i64 a0_1, .slice A0_2 l0_2.length c0_2, .slice A0_3 l0_3.length c0_3]) (t := 59) ?hr ?_; (case hd => rfl); (case hg => rfl); (case hr => first | (go_simp; done) | (go_simp; rfl)); intro gb134 hg w3 hbox hb; have n0_ := mk_ (below_step (ub_ HB.out) hb); have BK134 := mk_ (hbox); have GW134 := mk_ ((by rw [hg]; exact (below_size (ub_ HB.out)) : w.heap.size ≤ gb134)); have GE134 := ge_ ((by rw [hg]; exact (below_size (ub_ HB.out)) : w.heap.size ≤ gb134)); replace HB := n0_; clear n0_; clear hb hbox hg))
 repeat (go_quiet (first | ((with_reducible refine gate_dst (N := 1) rfl ?_); refine box_event ?hg (N := 1) ?hd (cs := #[.int .i64 a0_0, .int .i64 a0_1, .slice A0_2 l0_2.length c0_2, .slice A0_3 l0_3.length c0_3]) (t := 59) ?hr ?_; (case hd => rfl); (case hg => rfl); (case hr => first | (go_simp; done) | (go_simp; rfl)); intro gb134 hg w3 hbox hb; have n0_ := mk_ (below_step (ub_ HB.out) hb); have BK134 := mk_ (hbox); have GW134 := mk_ ((by rw [hg]; exact (below_size (ub_ HB.out)) : w.heap.size ≤ gb134)); have GE134 := ge_ ((by rw [hg]; exact (below_size (ub_ HB.out)) : w.heap.size ≤ gb134)); replace HB := n0_; clear n0_; clear hb hbox hg)); go_upto_region 1 with (first | ((with_reducible refine gate_dst (N := 1) rfl ?_); refine box_event ?hg (N := 1) ?hd (cs := #[.int .i64 a0_0, .int .i64 a0_1, .slice A0_2 l0_2.length c0_2, .slice A0_3 l0_3.length c0_3]) (t := 59) ?hr ?_; (case hd => rfl); (case hg => rfl); (case hr => first | (go_simp; done) | (go_simp; rfl)); intro gb134 hg w3 hbox hb; have n0_ := mk_ (below_step (ub_ HB.out) hb); have BK134 := mk_ (hbox); have GW134 := mk_ ((by rw [hg]; exact (below_size (ub_ HB.out)) : w.heap.size ≤ gb134)); have GE134 := ge_ ((by rw [hg]; exact (below_size (ub_ HB.out)) : w.heap.size ≤ gb134)); replace HB := n0_; clear n0_; clear hb hbox hg)))
 (try simp only [Act.put, la_, lz_, ls_])
 go_cut [21] (fun v21 wc => ∃ (kq : Nat) (x21_1 : Bool), v21 = .bool x21_1 ∧ Aside0 (spec_EarOk.j0 kq x21_1 a0_0 a0_1 l0_2 l0_3 = some r) ∧ Aside0 (kq ≤ k) ∧ Aside0 (wc.heap[gb134]? = some (.cells #[.int .i64 a0_0, .int .i64 a0_1, (.slice A0_2 l0_2.length c0_2), (.slice A0_3 l0_3.length c0_3)] 59 (0, 0))) ∧ Aside0 (Below w.heap.size w wc))
 case first =>
  have H := HC2.out
  clear HC2
  replace H := Option.bind_eq_some_iff.mp H
  obtain ⟨t135, A40, H⟩ := H
  (try dsimp only at H)
  have A4 := mk_ A40
  clear A40
  by_cases c5 : t135 = true
  rotate_left
  focus
   replace c5 := Bool.eq_false_iff.mpr c5
   subst c5
   have H1 : (spec_EarOk.j0 k true a0_0 a0_1 l0_2 l0_3) = some r := by rw [if_neg (show ¬ (false = true) by decide)] at H; exact H
   clear H
   have H := H1
   clear H1
   have H' := mk_ H
   clear H
   obtain ⟨hcz10_0, hcz10_1, hcz10_2, hcz10_3, hfz10_0, hfz10_1, hfz10_2, hfz10_3⟩ := cells4_ BK134.out
  rotate_left
  focus
   subst c5
   rw [if_pos rfl] at H
   replace H := Option.bind_eq_some_iff.mp H
   obtain ⟨t136, A60, H⟩ := H
   (try dsimp only at H)
   have A6 := mk_ A60
   clear A60
   by_cases c7 : t136 = true
   focus
    subst c7
    rw [if_pos rfl] at H
    have H' := mk_ H
    clear H
    obtain ⟨hcz8_0, hcz8_1, hcz8_2, hcz8_3, hfz8_0, hfz8_1, hfz8_2, hfz8_3⟩ := cells4_ BK134.out
   rotate_left
   focus
    replace c7 := Bool.eq_false_iff.mpr c7
    subst c7
    have H1 : (spec_EarOk.j0 k true a0_0 a0_1 l0_2 l0_3) = some r := by rw [if_neg (show ¬ (false = true) by decide)] at H; exact H
    clear H
    have H := H1
    clear H1
    have H' := mk_ H
    clear H
    obtain ⟨hcz9_0, hcz9_1, hcz9_2, hcz9_3, hfz9_0, hfz9_1, hfz9_2, hfz9_3⟩ := cells4_ BK134.out
   rotate_left
  rotate_left 2
  all_goals
   go_wp2_with (first | (go_at_call 53; (with_reducible refine (spec_l1In.calls a0_0 0 1000000 false _ A4.out).mono ?_); rintro e w' ⟨rfl, ⟨nd, rfl⟩⟩; (try first | exact ⟨rfl, _, World.drewN_drewN _ _ _⟩ | exact ⟨rfl, _, Eq.trans (World.drewN_drewN _ _ _) (congrArg (World.drewN _) (Nat.add_assoc _ _ _))⟩)) | (go_at_call 53; have hA_ := A4.out; (with_reducible refine (spec_l1In.calls a0_0 0 1000000 true _ A4.out).mono ?_); rintro e w' ⟨rfl, ⟨nd, rfl⟩⟩; (try first | exact ⟨rfl, _, World.drewN_drewN _ _ _⟩ | exact ⟨rfl, _, Eq.trans (World.drewN_drewN _ _ _) (congrArg (World.drewN _) (Nat.add_assoc _ _ _))⟩); clear hA_ A4) | (go_at_call 53; have hA_ := A6.out; (with_reducible refine (spec_l1In.calls a0_1 1 32 true _ A6.out).mono ?_); rintro e w' ⟨rfl, ⟨nd, rfl⟩⟩; (try first | exact ⟨rfl, _, World.drewN_drewN _ _ _⟩ | exact ⟨rfl, _, Eq.trans (World.drewN_drewN _ _ _) (congrArg (World.drewN _) (Nat.add_assoc _ _ _))⟩); clear hA_ A6) | (go_at_call 53; have hA_ := A6.out; (with_reducible refine (spec_l1In.calls a0_1 1 32 false _ A6.out).mono ?_); rintro e w' ⟨rfl, ⟨nd, rfl⟩⟩; (try first | exact ⟨rfl, _, World.drewN_drewN _ _ _⟩ | exact ⟨rfl, _, Eq.trans (World.drewN_drewN _ _ _) (congrArg (World.drewN _) (Nat.add_assoc _ _ _))⟩); clear hA_ A6))
  ·repeat (go_quiet (first | (go_at_call 53; (with_reducible refine (spec_l1In.calls a0_0 0 1000000 false _ A4.out).mono ?_); rintro e w' ⟨rfl, ⟨nd, rfl⟩⟩; (try first | exact ⟨rfl, _, World.drewN_drewN _ _ _⟩ | exact ⟨rfl, _, Eq.trans (World.drewN_drewN _ _ _) (congrArg (World.drewN _) (Nat.add_assoc _ _ _))⟩))); try go_wp2_with (first | (go_at_call 53; (with_reducible refine (spec_l1In.calls a0_0 0 1000000 false _ A4.out).mono ?_); rintro e w' ⟨rfl, ⟨nd, rfl⟩⟩; (try first | exact ⟨rfl, _, World.drewN_drewN _ _ _⟩ | exact ⟨rfl, _, Eq.trans (World.drewN_drewN _ _ _) (congrArg (World.drewN _) (Nat.add_assoc _ _ _))⟩))))
   go_meet
   case rel => exact ⟨_, (true), (by first | rfl | (simp; done) | (simp [*]; done)), H', ⟨by first | omega | exact Nat.le_refl _⟩, ⟨u_ BK134.out⟩, ⟨us_ HB.out⟩⟩
  ·repeat (go_quiet (first | (go_at_call 53; (with_reducible refine (spec_l1In.calls a0_0 0 1000000 true _ A4.out).mono ?_); rintro e w' ⟨rfl, ⟨nd, rfl⟩⟩; (try first | exact ⟨rfl, _, World.drewN_drewN _ _ _⟩ | exact ⟨rfl, _, Eq.trans (World.drewN_drewN _ _ _) (congrArg (World.drewN _) (Nat.add_assoc _ _ _))⟩)) | (go_at_call 53; (with_reducible refine (spec_l1In.calls a0_1 1 32 true _ A6.out).mono ?_); rintro e w' ⟨rfl, ⟨nd, rfl⟩⟩; (try first | exact ⟨rfl, _, World.drewN_drewN _ _ _⟩ | exact ⟨rfl, _, Eq.trans (World.drewN_drewN _ _ _) (congrArg (World.drewN _) (Nat.add_assoc _ _ _))⟩))); try go_wp2_with (first | (go_at_call 53; (with_reducible refine (spec_l1In.calls a0_0 0 1000000 true _ A4.out).mono ?_); rintro e w' ⟨rfl, ⟨nd, rfl⟩⟩; (try first | exact ⟨rfl, _, World.drewN_drewN _ _ _⟩ | exact ⟨rfl, _, Eq.trans (World.drewN_drewN _ _ _) (congrArg (World.drewN _) (Nat.add_assoc _ _ _))⟩)) | (go_at_call 53; (with_reducible refine (spec_l1In.calls a0_1 1 32 true _ A6.out).mono ?_); rintro e w' ⟨rfl, ⟨nd, rfl⟩⟩; (try first | exact ⟨rfl, _, World.drewN_drewN _ _ _⟩ | exact ⟨rfl, _, Eq.trans (World.drewN_drewN _ _ _) (congrArg (World.drewN _) (Nat.add_assoc _ _ _))⟩))))
   go_meet
   case rel => exact ⟨_, (decide ((l0_2.length : Int) > a0_1)), (by first | rfl | (simp; done) | (simp [*]; done)), H', ⟨by first | omega | exact Nat.le_refl _⟩, ⟨u_ BK134.out⟩, ⟨us_ HB.out⟩⟩
  ·repeat (go_quiet (first | (go_at_call 53; (with_reducible refine (spec_l1In.calls a0_0 0 1000000 true _ A4.out).mono ?_); rintro e w' ⟨rfl, ⟨nd, rfl⟩⟩; (try first | exact ⟨rfl, _, World.drewN_drewN _ _ _⟩ | exact ⟨rfl, _, Eq.trans (World.drewN_drewN _ _ _) (congrArg (World.drewN _) (Nat.add_assoc _ _ _))⟩)) | (go_at_call 53; (with_reducible refine (spec_l1In.calls a0_1 1 32 false _ A6.out).mono ?_); rintro e w' ⟨rfl, ⟨nd, rfl⟩⟩; (try first | exact ⟨rfl, _, World.drewN_drewN _ _ _⟩ | exact ⟨rfl, _, Eq.trans (World.drewN_drewN _ _ _) (congrArg (World.drewN _) (Nat.add_assoc _ _ _))⟩))); try go_wp2_with (first | (go_at_call 53; (with_reducible refine (spec_l1In.calls a0_0 0 1000000 true _ A4.out).mono ?_); rintro e w' ⟨rfl, ⟨nd, rfl⟩⟩; (try first | exact ⟨rfl, _, World.drewN_drewN _ _ _⟩ | exact ⟨rfl, _, Eq.trans (World.drewN_drewN _ _ _) (congrArg (World.drewN _) (Nat.add_assoc _ _ _))⟩)) | (go_at_call 53; (with_reducible refine (spec_l1In.calls a0_1 1 32 false _ A6.out).mono ?_); rintro e w' ⟨rfl, ⟨nd, rfl⟩⟩; (try first | exact ⟨rfl, _, World.drewN_drewN _ _ _⟩ | exact ⟨rfl, _, Eq.trans (World.drewN_drewN _ _ _) (congrArg (World.drewN _) (Nat.add_assoc _ _ _))⟩))))
   go_meet
   case rel => exact ⟨_, (true), (by first | rfl | (simp; done) | (simp [*]; done)), H', ⟨by first | omega | exact Nat.le_refl _⟩, ⟨u_ BK134.out⟩, ⟨us_ HB.out⟩⟩
 case rest =>
  clear HC2
  try clear p2
  try clear c3
  try clear c5
  try clear c7
  try clear hcz10_0
  try clear hcz10_1
  try clear hcz10_2
  try clear hcz10_3
  try clear hcz8_0
  try clear hcz8_1
  try clear hcz8_2
  try clear hcz8_3
  try clear hcz9_0
  try clear hcz9_1
  try clear hcz9_2
  try clear hcz9_3
  try clear hfz10_0
  try clear hfz10_1
  try clear hfz10_2
  try clear hfz10_3
  try clear hfz8_0
  try clear hfz8_1
  try clear hfz8_2
  try clear hfz8_3
  try clear hfz9_0
  try clear hfz9_1
  try clear hfz9_2
  try clear hfz9_3
  obtain ⟨kq, x21_1, rfl, HA, HJ1, BK134, HB⟩ := hcut
  cases kq with
  | zero => exact absurd HA.out (by simp [spec_EarOk.j0])
  | succ kj1 =>
   have H := HA.out
   clear HA
   simp only [spec_EarOk.j0] at H
   by_cases c11 : x21_1 = true
   ·subst c11
    have H1 : (some false) = some r := by rw [if_pos rfl] at H; exact H
    clear H
    have H := H1
    clear H1
    obtain rfl := Option.some.inj H
    go_wp2
    repeat (go_quiet (fail); try go_wp2)
    go_ret
    exact ⟨by first | rfl | (simp [errW_none, errW_some] <;> rfl) | (simp [*, errW_none, errW_some] <;> rfl), us_ HB.out⟩
   replace c11 := Bool.eq_false_iff.mpr c11
   subst c11
   have H1 : (spec_EarOk.l0 kj1 0 a0_0 a0_1 l0_2 l0_3) = some r := by rw [if_neg (show ¬ (false = true) by decide)] at H; exact H
   clear H
   have H := H1
   clear H1
   have H' := mk_ H
   clear H
   go_wp2
   repeat (go_quiet (fail); try go_wp2)
   go_loopg [3] kj1 (fun kq v3 w' => ∃ (x3_2 : Int), v3 = .int .i64 x3_2 ∧ Aside0 (spec_EarOk.l0 kq x3_2 a0_0 a0_1 l0_2 l0_3 = some r) ∧ Aside0 (kq ≤ kj1) ∧ Aside0 (w'.heap[gb134]? = some (.cells #[.int .i64 a0_0, .int .i64 a0_1, (.slice A0_2 l0_2.length c0_2), (.slice A0_3 l0_3.length c0_3)] 59 (0, 0))) ∧ Aside0 (Below w.heap.size w w'))
   case atStart => exact ⟨(0), (by first | rfl | (simp; done) | (simp [*]; done)), H', ⟨Nat.le_refl _⟩, ⟨u_ BK134.out⟩, ⟨us_ HB.out⟩⟩
   case round =>
    clear H'
    try clear c1
    try clear p2
    try clear c3
    try clear c5
    try clear c7
    try clear c11
    try clear hcz10_0
    try clear hcz10_1
    try clear hcz10_2
    try clear hcz10_3
    try clear hcz8_0
    try clear hcz8_1
    try clear hcz8_2
    try clear hcz8_3
    try clear hcz9_0
    try clear hcz9_1
    try clear hcz9_2
    try clear hcz9_3
    try clear hfz10_0
    try clear hfz10_1
    try clear hfz10_2
    try clear hfz10_3
    try clear hfz8_0
    try clear hfz8_1
    try clear hfz8_2
    try clear hfz8_3
    try clear hfz9_0
    try clear hfz9_1
    try clear hfz9_2
    try clear hfz9_3
    try clear p2
    obtain ⟨x3_2, rfl, HA, HK2, BK134, HB⟩ := hrel
    cases gk with
    | zero => exact absurd HA.out (by simp [spec_EarOk.l0])
    | succ k2 =>
     have H := HA.out
     clear HA
     simp only [spec_EarOk.l0] at H
     by_cases c12 : x3_2 < (l0_3.length : Int)
     rotate_left
     ·rw [if_neg c12] at H
      have c12b0 : decide (x3_2 < (l0_3.length : Int)) = false := decide_eq_false c12
      clear c12
      obtain rfl := Option.some.inj H
      obtain ⟨_, _, _, _, _, _, _, _⟩ := cells4_ BK134.out
      go_wp2
      repeat (go_quiet (fail); try go_wp2)
      go_ret
      exact ⟨by first | rfl | (simp [errW_none, errW_some] <;> rfl) | (simp [*, errW_none, errW_some] <;> rfl), us_ HB.out⟩
     rw [if_pos c12] at H
     have c12b0 : decide (x3_2 < (l0_3.length : Int)) = true := decide_eq_true c12
     clear c12
     by_cases c13 : 0 ≤ x3_2
     rotate_left
     ·rw [if_neg c13] at H
      exact absurd H (by simp)
     rw [if_pos c13] at H
     have c13b0 : decide (0 ≤ x3_2) = true := decide_eq_true c13
     clear c13
     by_cases c14 : ((rd_T68 l0_3 x3_2).f0) ≤ a0_0
     ·rw [if_pos c14] at H
      have c14b0 : decide (((rd_T68 l0_3 x3_2).f0) ≤ a0_0) = true := decide_eq_true c14
      clear c14
      obtain rfl := Option.some.inj H
      obtain ⟨_, _, _, _, _, _, _, _⟩ := cells4_ BK134.out
      have p137 : 0 ≤ (x3_2 : Int) := of_decide_eq_true (by first | (with_reducible assumption) | assumption)
      have q137 : x3_2 < (l0_3.length : Int) := of_decide_eq_true (by first | (with_reducible assumption) | assumption)
      obtain ⟨ad137, e137, hx137_0, hx137_1⟩ := at_T68 HR0_3.out x3_2 p137 q137
      cases e137
      replace hx137_0 := (HB.out.cell (lc_ w _ hx137_0)).trans hx137_0
      replace hx137_1 := (HB.out.cell (lc_ w _ hx137_1)).trans hx137_1
      replace p137 := eq_true p137
      replace q137 := eq_true q137
      go_wp2
      repeat (go_quiet (fail); try go_wp2)
      go_ret
      exact ⟨by first | rfl | (simp [errW_none, errW_some] <;> rfl) | (simp [*, errW_none, errW_some] <;> rfl), us_ HB.out⟩
     rw [if_neg c14] at H
     have c14b0 : decide (((rd_T68 l0_3 x3_2).f0) ≤ a0_0) = false := decide_eq_false c14
     clear c14
     by_cases c16 : ((rd_T68 l0_3 x3_2).f0) ≥ (wrap64 ((wrap64 (a0_0 + a0_1)) - (l0_2.length : Int)))
     ·rw [if_pos c16] at H
      have c16b0 : decide ((wrap64 ((wrap64 (a0_0 + a0_1)) - (l0_2.length : Int))) ≤ ((rd_T68 l0_3 x3_2).f0)) = true := decide_eq_true c16
      clear c16
      obtain rfl := Option.some.inj H
      obtain ⟨_, _, _, _, _, _, _, _⟩ := cells4_ BK134.out
      have p137 : 0 ≤ (x3_2 : Int) := of_decide_eq_true (by first | (with_reducible assumption) | assumption)
      have q137 : x3_2 < (l0_3.length : Int) := of_decide_eq_true (by first | (with_reducible assumption) | assumption)
      obtain ⟨ad137, e137, hx137_0, hx137_1⟩ := at_T68 HR0_3.out x3_2 p137 q137
      cases e137
      replace hx137_0 := (HB.out.cell (lc_ w _ hx137_0)).trans hx137_0
      replace hx137_1 := (HB.out.cell (lc_ w _ hx137_1)).trans hx137_1
      replace p137 := eq_true p137
      replace q137 := eq_true q137
      have p138 : 0 ≤ (x3_2 : Int) := of_decide_eq_true (by first | (with_reducible assumption) | assumption)
      have q138 : x3_2 < (l0_3.length : Int) := of_decide_eq_true (by first | (with_reducible assumption) | assumption)
      obtain ⟨ad138, e138, hx138_0, hx138_1⟩ := at_T68 HR0_3.out x3_2 p138 q138
      obtain rfl : ad137 = ad138 := (by injection e138)
      replace hx138_0 := (HB.out.cell (lc_ w _ hx138_0)).trans hx138_0
      replace hx138_1 := (HB.out.cell (lc_ w _ hx138_1)).trans hx138_1
      replace p138 := eq_true p138
      replace q138 := eq_true q138
      go_wp2
      repeat (go_quiet (fail); try go_wp2)
      go_ret
      exact ⟨by first | rfl | (simp [errW_none, errW_some] <;> rfl) | (simp [*, errW_none, errW_some] <;> rfl), us_ HB.out⟩
     rw [if_neg c16] at H
     have c16b0 : decide ((wrap64 ((wrap64 (a0_0 + a0_1)) - (l0_2.length : Int))) ≤ ((rd_T68 l0_3 x3_2).f0)) = false := decide_eq_false c16
     clear c16
     by_cases c18 : x3_2 > 0
     rotate_left
     ·rw [if_neg c18] at H
      have c18b0 : decide (0 < x3_2) = false := decide_eq_false c18
      clear c18
      have H' := mk_ H
      clear H
      obtain ⟨_, _, _, _, _, _, _, _⟩ := cells4_ BK134.out
      have p137 : 0 ≤ (x3_2 : Int) := of_decide_eq_true (by first | (with_reducible assumption) | assumption)
      have q137 : x3_2 < (l0_3.length : Int) := of_decide_eq_true (by first | (with_reducible assumption) | assumption)
      obtain ⟨ad137, e137, hx137_0, hx137_1⟩ := at_T68 HR0_3.out x3_2 p137 q137
      cases e137
      replace hx137_0 := (HB.out.cell (lc_ w _ hx137_0)).trans hx137_0
      replace hx137_1 := (HB.out.cell (lc_ w _ hx137_1)).trans hx137_1
      replace p137 := eq_true p137
      replace q137 := eq_true q137
      have p138 : 0 ≤ (x3_2 : Int) := of_decide_eq_true (by first | (with_reducible assumption) | assumption)
      have q138 : x3_2 < (l0_3.length : Int) := of_decide_eq_true (by first | (with_reducible assumption) | assumption)
      obtain ⟨ad138, e138, hx138_0, hx138_1⟩ := at_T68 HR0_3.out x3_2 p138 q138
      obtain rfl : ad137 = ad138 := (by injection e138)
      replace hx138_0 := (HB.out.cell (lc_ w _ hx138_0)).trans hx138_0
      replace hx138_1 := (HB.out.cell (lc_ w _ hx138_1)).trans hx138_1
      replace p138 := eq_true p138
      replace q138 := eq_true q138
      go_wp2
      repeat (go_quiet (fail); try go_wp2)
      go_roundg k2
      case measure => have := HJ1.out; have := HK2.out; omega
      case rel => exact ⟨(wrap64 (x3_2 + 1)), (by first | rfl | (simp; done) | (simp [*]; done)), H', ⟨by have := HJ1.out; have := HK2.out; omega⟩, ⟨u_ BK134.out⟩, ⟨us_ HB.out⟩⟩
     rw [if_pos c18] at H
     have c18b0 : decide (0 < x3_2) = true := decide_eq_true c18
     clear c18
     obtain ⟨ji19, hji19⟩ : ∃ j_ : Int, (wrap64 (x3_2 - 1)) = j_ := ⟨_, rfl⟩
     replace H : (if 0 ≤ (ji19) then (if (ji19) < (l0_3.length : Int) then (if ((rd_T68 l0_3 (ji19)).f0) ≥ ((rd_T68 l0_3 x3_2).f0) then (some false) else (spec_EarOk.l0 k2 (wrap64 (x3_2 + 1)) a0_0 a0_1 l0_2 l0_3)) else (none)) else (none)) = some r := by first | (rw [hji19] at H; exact H) | (simp only [hji19] at H ⊢; exact H)
     have hji19w : (IntKind.i64.wrap (x3_2 - 1)) = ji19 := (i64_w _).trans hji19
     by_cases c20 : 0 ≤ (ji19)
     rotate_left
     ·rw [if_neg c20] at H
      exact absurd H (by simp)
     rw [if_pos c20] at H
     have c20b0 : decide (0 ≤ (ji19)) = true := decide_eq_true c20
     clear c20
     by_cases c21 : (ji19) < (l0_3.length : Int)
     rotate_left
     ·rw [if_neg c21] at H
      exact absurd H (by simp)
     rw [if_pos c21] at H
     have c21b0 : decide ((ji19) < (l0_3.length : Int)) = true := decide_eq_true c21
     clear c21
     by_cases c22 : ((rd_T68 l0_3 (ji19)).f0) ≥ ((rd_T68 l0_3 x3_2).f0)
     ·rw [if_pos c22] at H
      have c22b0 : decide (((rd_T68 l0_3 x3_2).f0) ≤ ((rd_T68 l0_3 (ji19)).f0)) = true := decide_eq_true c22
      clear c22
      obtain rfl := Option.some.inj H
      obtain ⟨_, _, _, _, _, _, _, _⟩ := cells4_ BK134.out
      have p137 : 0 ≤ (x3_2 : Int) := of_decide_eq_true (by first | (with_reducible assumption) | assumption)
      have q137 : x3_2 < (l0_3.length : Int) := of_decide_eq_true (by first | (with_reducible assumption) | assumption)
      obtain ⟨ad137, e137, hx137_0, hx137_1⟩ := at_T68 HR0_3.out x3_2 p137 q137
      cases e137
      replace hx137_0 := (HB.out.cell (lc_ w _ hx137_0)).trans hx137_0
      replace hx137_1 := (HB.out.cell (lc_ w _ hx137_1)).trans hx137_1
      replace p137 := eq_true p137
      replace q137 := eq_true q137
      have p138 : 0 ≤ (x3_2 : Int) := of_decide_eq_true (by first | (with_reducible assumption) | assumption)
      have q138 : x3_2 < (l0_3.length : Int) := of_decide_eq_true (by first | (with_reducible assumption) | assumption)
      obtain ⟨ad138, e138, hx138_0, hx138_1⟩ := at_T68 HR0_3.out x3_2 p138 q138
      obtain rfl : ad137 = ad138 := (by injection e138)
      replace hx138_0 := (HB.out.cell (lc_ w _ hx138_0)).trans hx138_0
      replace hx138_1 := (HB.out.cell (lc_ w _ hx138_1)).trans hx138_1
      replace p138 := eq_true p138
      replace q138 := eq_true q138
      have p139 : 0 ≤ ((ji19) : Int) := of_decide_eq_true (by first | (with_reducible assumption) | assumption)
      have q139 : (ji19) < (l0_3.length : Int) := of_decide_eq_true (by first | (with_reducible assumption) | assumption)
      obtain ⟨ad139, e139, hx139_0, hx139_1⟩ := at_T68 HR0_3.out (ji19) p139 q139
      obtain rfl : ad137 = ad139 := (by injection e139)
      replace hx139_0 := (HB.out.cell (lc_ w _ hx139_0)).trans hx139_0
      replace hx139_1 := (HB.out.cell (lc_ w _ hx139_1)).trans hx139_1
      replace p139 := eq_true p139
      replace q139 := eq_true q139
      have p140 : 0 ≤ (x3_2 : Int) := of_decide_eq_true (by first | (with_reducible assumption) | assumption)
      have q140 : x3_2 < (l0_3.length : Int) := of_decide_eq_true (by first | (with_reducible assumption) | assumption)
      obtain ⟨ad140, e140, hx140_0, hx140_1⟩ := at_T68 HR0_3.out x3_2 p140 q140
      obtain rfl : ad137 = ad140 := (by injection e140)
      replace hx140_0 := (HB.out.cell (lc_ w _ hx140_0)).trans hx140_0
      replace hx140_1 := (HB.out.cell (lc_ w _ hx140_1)).trans hx140_1
      replace p140 := eq_true p140
      replace q140 := eq_true q140
      go_wp2
      repeat (go_quiet (fail); try go_wp2)
      go_ret
      exact ⟨by first | rfl | (simp [errW_none, errW_some] <;> rfl) | (simp only [← hji19]; first | rfl | (simp [errW_none, errW_some] <;> rfl)) | (simp [*, errW_none, errW_some] <;> rfl), us_ HB.out⟩
     rw [if_neg c22] at H
     have c22b0 : decide (((rd_T68 l0_3 x3_2).f0) ≤ ((rd_T68 l0_3 (ji19)).f0)) = false := decide_eq_false c22
     clear c22
     have H' := mk_ H
     clear H
     obtain ⟨_, _, _, _, _, _, _, _⟩ := cells4_ BK134.out
     have p137 : 0 ≤ (x3_2 : Int) := of_decide_eq_true (by first | (with_reducible assumption) | assumption)
     have q137 : x3_2 < (l0_3.length : Int) := of_decide_eq_true (by first | (with_reducible assumption) | assumption)
     obtain ⟨ad137, e137, hx137_0, hx137_1⟩ := at_T68 HR0_3.out x3_2 p137 q137
     cases e137
     replace hx137_0 := (HB.out.cell (lc_ w _ hx137_0)).trans hx137_0
     replace hx137_1 := (HB.out.cell (lc_ w _ hx137_1)).trans hx137_1
     replace p137 := eq_true p137
     replace q137 := eq_true q137
     have p138 : 0 ≤ (x3_2 : Int) := of_decide_eq_true (by first | (with_reducible assumption) | assumption)
     have q138 : x3_2 < (l0_3.length : Int) := of_decide_eq_true (by first | (with_reducible assumption) | assumption)
     obtain ⟨ad138, e138, hx138_0, hx138_1⟩ := at_T68 HR0_3.out x3_2 p138 q138
     obtain rfl : ad137 = ad138 := (by injection e138)
     replace hx138_0 := (HB.out.cell (lc_ w _ hx138_0)).trans hx138_0
     replace hx138_1 := (HB.out.cell (lc_ w _ hx138_1)).trans hx138_1
     replace p138 := eq_true p138
     replace q138 := eq_true q138
     have p139 : 0 ≤ ((ji19) : Int) := of_decide_eq_true (by first | (with_reducible assumption) | assumption)
     have q139 : (ji19) < (l0_3.length : Int) := of_decide_eq_true (by first | (with_reducible assumption) | assumption)
     obtain ⟨ad139, e139, hx139_0, hx139_1⟩ := at_T68 HR0_3.out (ji19) p139 q139
     obtain rfl : ad137 = ad139 := (by injection e139)
     replace hx139_0 := (HB.out.cell (lc_ w _ hx139_0)).trans hx139_0
     replace hx139_1 := (HB.out.cell (lc_ w _ hx139_1)).trans hx139_1
     replace p139 := eq_true p139
     replace q139 := eq_true q139
     have p140 : 0 ≤ (x3_2 : Int) := of_decide_eq_true (by first | (with_reducible assumption) | assumption)
     have q140 : x3_2 < (l0_3.length : Int) := of_decide_eq_true (by first | (with_reducible assumption) | assumption)
     obtain ⟨ad140, e140, hx140_0, hx140_1⟩ := at_T68 HR0_3.out x3_2 p140 q140
     obtain rfl : ad137 = ad140 := (by injection e140)
     replace hx140_0 := (HB.out.cell (lc_ w _ hx140_0)).trans hx140_0
     replace hx140_1 := (HB.out.cell (lc_ w _ hx140_1)).trans hx140_1
     replace p140 := eq_true p140
     replace q140 := eq_true q140
     go_wp2
     repeat (go_quiet (fail); try go_wp2)
     go_roundg k2
     case measure => have := HJ1.out; have := HK2.out; omega
     case rel => exact ⟨(wrap64 (x3_2 + 1)), (by first | rfl | (simp; done) | (simp [*]; done)), H', ⟨by have := HJ1.out; have := HK2.out; omega⟩, ⟨u_ BK134.out⟩, ⟨us_ HB.out⟩⟩

end Go.Proofs.Ytkkibccnpkbbjab.MFnEarRanges
