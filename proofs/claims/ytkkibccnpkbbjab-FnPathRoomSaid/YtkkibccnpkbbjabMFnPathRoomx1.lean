/- Functions that the law FnPathRoom reaches, each with the proof that the machine's call comes to just its answer; no conditions but those that each theorem states. Printed by a program of this session over the kit's print. -/
import Derived.Test.YtkkibccnpkbbjabMFnPathRoomx0
namespace Go.Proofs.Ytkkibccnpkbbjab.MFnPathRoom
open Go.RowKit Go.Proofs.YtkkibccnpkbbjabV.PrintWords Go.Proofs.YtkkibccnpkbbjabV.PrintLast Go.Proofs.YtkkibccnpkbbjabV.PrintMore
attribute [local go_sem] max2_int min2_int max_two min_two max_three min_three max_four min_four   -- for this text's walks alone
set_option linter.unusedVariables false
set_option linter.unusedSimpArgs false

/-- A state of type 107 at block g of W; what its slices lead to came in by w0. -/
def IsS107 (w0 W : World) (g : Nat) (f0 : List Int) (f1 : Int) : Prop := ∃ A0 c0, W.heap[g]? = some (.cells #[.slice A0 f0.length c0, .int .i64 f1] 107 (0, 0)) ∧ w0.heap.size ≤ g ∧ Kd.C (Kd.int .u8) w0 A0 f0.length f0
theorem IsS107.grown {w0 W : World} {g : Nat} {f0 : List Int} {f1 : Int} {W1 : World} {row : Option Nat} (h : IsS107 w0 W g f0 f1) (hw : W.grownBy W1 row) (hne : some g ≠ row) : IsS107 w0 W1 g f0 f1 := by
 obtain ⟨A0, c0, hb, hg, hr0⟩ := h
 exact ⟨A0, c0, blk_grown hb hw hne, hg, hr0⟩
theorem IsS107.own_neN {w0 W : World} {g : Nat} {f0 : List Int} {f1 : Int} {α : Type} {d : Kd α} {e : Nat} {base : Nat} {ok : Nat → Prop} {v : Value} {xs : List α} (h : IsS107 w0 W g f0 f1) (ho : Kd.N d e W base ok v xs) (ht : e ≠ 107) : some g ≠ v.ownBlock := by
 obtain ⟨A0, c0, hb, hg, hr0⟩ := h
 exact Kd.N_ne ho hb ht
theorem IsS107.fresh {w0 W : World} {g : Nat} {f0 : List Int} {f1 : Int} (h : IsS107 w0 W g f0 f1) : ∀ k, W.heap.size ≤ k → k ≠ g := by
 obtain ⟨A0, c0, hb, hg, hr0⟩ := h
 exact Kd.freshB hb
theorem IsS107.kept {w0 W : World} {g : Nat} {f0 : List Int} {f1 : Int} {W1 : World} {S : Nat → Prop} (h : IsS107 w0 W g f0 f1) (hk : Kept W W1 S) (hne : ¬ S g) : IsS107 w0 W1 g f0 f1 := by
 obtain ⟨A0, c0, hb, hg, hr0⟩ := h
 exact ⟨A0, c0, blk_kept hb hk hne, hg, hr0⟩
theorem IsS107.below {w0 W : World} {g : Nat} {f0 : List Int} {f1 : Int} {W1 : World} (h : IsS107 w0 W g f0 f1) (hw : Below W.heap.size W W1) : IsS107 w0 W1 g f0 f1 := h.grown (grown_of_below hw none) (by simp)
theorem IsS107.alloc {w0 W : World} {g : Nat} {f0 : List Int} {f1 : Int} (h : IsS107 w0 W g f0 f1) (o : Obj) : IsS107 w0 (W.alloc o) g f0 f1 := h.below (below_alloc (Below.refl _ _) o)
theorem IsS107.drewN {w0 W : World} {g : Nat} {f0 : List Int} {f1 : Int} (h : IsS107 w0 W g f0 f1) (m : Nat) : IsS107 w0 (W.drewN m) g f0 f1 := h
theorem IsS107.drew {w0 W : World} {g : Nat} {f0 : List Int} {f1 : Int} (h : IsS107 w0 W g f0 f1) : IsS107 w0 W.drew g f0 f1 := h
theorem IsS107.at_ {w0 W : World} {g : Nat} {f0 : List Int} {f1 : Int} {w' : World} {m : Nat} (hq : W.drewN m = w') (h : IsS107 w0 W g f0 f1) : IsS107 w0 w' g f0 f1 := by subst hq; exact IsS107.drewN h m
theorem IsS107.apart {w0 W : World} {g : Nat} {f0 : List Int} {f1 : Int} {α : Type} {d : Kd α} {e : Nat} {base : Nat} {ok : Nat → Prop} {v : Value} {xs : List α} (h : IsS107 w0 W g f0 f1) (ho : d.R e W base ok v xs) (ht : ∀ q, q ∈ e :: d.E → q ≠ 107) : d.R e W base (fun k => ok k ∧ k ≠ g) v xs := by
 obtain ⟨A0, c0, hb, hg, hr0⟩ := h
 exact Kd.R_types ho hb ht
theorem IsS107.own_ne {w0 W : World} {g : Nat} {f0 : List Int} {f1 : Int} {α : Type} {d : Kd α} {e : Nat} {base : Nat} {ok : Nat → Prop} {v : Value} {xs : List α} (h : IsS107 w0 W g f0 f1) (ho : d.R e W base ok v xs) (ht : e ≠ 107) : some g ≠ v.ownBlock := by
 obtain ⟨A0, c0, hb, hg, hr0⟩ := h
 exact Kd.R_ne ho hb ht
theorem IsS107.apartQ {w0 W : World} {g : Nat} {f0 : List Int} {f1 : Int} {α : Type} {d : Kd α} {e : Nat} {base : Nat} {ok : Nat → Prop} {v : Value} {xs : List α} (h : IsS107 w0 W g f0 f1) (ho : d.Q e W base ok v xs) (ht : ∀ q, q ∈ e :: d.E → q ≠ 107) : d.Q e W base (fun k => ok k ∧ k ≠ g) v xs := by
 obtain ⟨A0, c0, hb, hg, hr0⟩ := h
 exact Kd.Q_types ho hb ht
theorem IsS107.own_neQ {w0 W : World} {g : Nat} {f0 : List Int} {f1 : Int} {α : Type} {d : Kd α} {e : Nat} {base : Nat} {ok : Nat → Prop} {v : Value} {xs : List α} (h : IsS107 w0 W g f0 f1) (ho : d.Q e W base ok v xs) (ht : e ≠ 107) : some g ≠ v.ownBlock := by
 obtain ⟨A0, c0, hb, hg, hr0⟩ := h
 exact Kd.Q_ne ho hb ht
theorem IsS107.apartS {w0 W : World} {g : Nat} {f0 : List Int} {f1 : Int} {α : Type} {d : Kd α} {e : Nat} {base : Nat} {ok : Nat → Prop} {v : Value} {xs : List α} (h : IsS107 w0 W g f0 f1) (ho : d.S e W base ok v xs) (ht : ∀ q, q ∈ e :: d.E → q ≠ 107) : d.S e W base (fun k => ok k ∧ k ≠ g) v xs := by
 obtain ⟨A0, c0, hb, hg, hr0⟩ := h
 exact Kd.S_types ho hb ht
theorem IsS107.own_neS {w0 W : World} {g : Nat} {f0 : List Int} {f1 : Int} {α : Type} {d : Kd α} {e : Nat} {base : Nat} {ok : Nat → Prop} {v : Value} {xs : List α} (h : IsS107 w0 W g f0 f1) (ho : d.S e W base ok v xs) (ht : e ≠ 107) : some g ≠ v.ownBlock := by
 obtain ⟨A0, c0, hb, hg, hr0⟩ := h
 exact Kd.S_ne ho hb ht
theorem IsS107.lt {w0 W : World} {g : Nat} {f0 : List Int} {f1 : Int} (h : IsS107 w0 W g f0 f1) : g < W.heap.size := by
 obtain ⟨A0, c0, hb, hg, hr0⟩ := h
 exact blk_lt hb
theorem IsS107.ge {w0 W : World} {g : Nat} {f0 : List Int} {f1 : Int} (h : IsS107 w0 W g f0 f1) : w0.heap.size ≤ g := by
 obtain ⟨A0, c0, hb, hg, hr0⟩ := h
 exact hg
theorem IsS107.ne_blk {w0 W : World} {g : Nat} {f0 : List Int} {f1 : Int} {a : Nat} {cs : Array Value} {t : TypeId} {fr : Nat × Nat} (h : IsS107 w0 W g f0 f1) (hb2 : W.heap[a]? = some (.cells cs t fr)) (ht : t ≠ 107) : g ≠ a := by
 obtain ⟨A0, c0, hb, hg, hr0⟩ := h
 rintro rfl
 rw [hb] at hb2
 injection hb2 with hb2
 injection hb2 with _ ht2
 exact ht ht2.symm
theorem IsS107.far {w0 W : World} {g : Nat} {f0 : List Int} {f1 : Int} {p : Addr} (h : IsS107 w0 W g f0 f1) (hne : g ≠ p.block) (u : Value) : IsS107 w0 (W.setCell p u) g f0 f1 := by
 obtain ⟨A0, c0, hb, hg, hr0⟩ := h
 exact ⟨A0, c0, blk_far hb hne u, hg, hr0⟩
theorem cellS107_0 {W : World} {g : Nat} {A0 : Option Addr} {c0 : Nat} {f0 : List Int} {f1 : Int} (h : W.heap[g]? = some (.cells #[.slice A0 f0.length c0, .int .i64 f1] 107 (0, 0))) : W.cell? ⟨g, 0, none⟩ = some (.slice A0 f0.length c0) := (blk_cell h 0).trans rfl
theorem cellS107_1 {W : World} {g : Nat} {A0 : Option Addr} {c0 : Nat} {f0 : List Int} {f1 : Int} (h : W.heap[g]? = some (.cells #[.slice A0 f0.length c0, .int .i64 f1] 107 (0, 0))) : W.cell? ⟨g, 1, none⟩ = some (.int .i64 f1) := (blk_cell h 1).trans rfl
theorem IsS107.set_1 {w0 W : World} {g : Nat} {f0 : List Int} {f1 : Int} (h : IsS107 w0 W g f0 f1) (x : Int) : IsS107 w0 (W.setCell ⟨g, 1, none⟩ (.int .i64 x)) g f0 x := by
 obtain ⟨A0, c0, hb, hg, hr0⟩ := h
 exact ⟨A0, c0, by simpa using blk_set hb 1 (.int .i64 x), hg, hr0⟩
theorem IsS107.new (w0 W : World) (A0 : Option Addr) (c0 : Nat) (f0 : List Int) (f1 : Int) (hB : Below w0.heap.size w0 W) (hr0 : Kd.C (Kd.int .u8) w0 A0 f0.length f0) : IsS107 w0 (W.alloc (.cells #[.slice A0 f0.length c0, .int .i64 f1] 107)) W.heap.size f0 f1 := ⟨A0, c0, by simpa using heap_alloc_new W _, hB.size, hr0⟩

/-! ### spec_l20Open: function 44 -/
def spec_l20Open.f (l0 : List Int) : Option (List Int × Int) := if (l0.length : Int) > 2000 then (if 2000 ≤ (l0.length : Int) then (some (l0.take 2000, 0)) else (none)) else (some (l0, 0))
set_option maxHeartbeats 8000000 in
set_option maxRecDepth 100000 in
theorem spec_l20Open.calls (A0 : Option Addr) (c0 : Nat) (l0 : List Int) (r1 : List Int) (r2 : Int) (w0 w : World) (hB : Below w0.heap.size w0 w) (hr0 : Kd.C (Kd.int .u8) w0 A0 l0.length l0) (hc0 : l0.length ≤ c0) (h : spec_l20Open.f l0 = some (r1, r2)) :
  Calls Try.prog 44 #[.slice A0 l0.length c0] w fun e w' => ∃ g_ : Nat, e = .returned (.pointer (some ⟨g_, 0, none⟩)) ∧ IsS107 w0 w' g_ r1 r2 ∧ Below w0.heap.size w0 w' ∧ Below w.heap.size w w' := by
 have hu107 := Try.underlying107
 have HR0 := mk_ hr0
 have HC0 := mk_ hc0
 clear hr0 hc0
 have HBW := mk_ (Below.refl w.heap.size w)
 have HW0 := mk_ hB.size
 have HB := mk_ hB
 clear hB
 have H := h
 unfold spec_l20Open.f at H
 clear h
 by_cases c2 : (l0.length : Int) > 2000
 rotate_left
 ·rw [if_neg c2] at H
  have c2b0 : decide (2000 < (l0.length : Int)) = false := decide_eq_false c2
  have c2b1 : decide (2000 < l0.length) = false := decide_eq_false (by omega)
  clear c2
  simp only [Option.some.injEq, Prod.mk.injEq] at H
  obtain ⟨rfl, rfl⟩ := H
  go_enter Try.func44, Try.ntmps44
  go_wp2_with (first | ((with_reducible refine gate_dst (N := 10) rfl ?_); refine box_event ?hg (N := 10) ?hd (cs := #[.slice A0 l0.length c0, .int .i64 0]) (t := 107) ?hr ?_; (case hd => rfl); (case hg => rfl); (case hr => first | (go_simp; done) | (go_simp; rfl)); intro gb103 hg w6 hbox hb; have n0_ := mk_ (below_step HBW.out hb); replace HB := mk_ (below_step (ub_ HB.out) hb); have BK103 := mk_ (hbox); have GW103 := mk_ ((by rw [hg]; exact (below_size (by repeat (first | (with_reducible first | exact HBW.out | apply na_ | apply nn_ | apply nw_) | exact HBW.out))) : w.heap.size ≤ gb103)); have GE103 := ge_ ((Nat.le_trans HW0.out (by rw [hg]; exact (below_size (by repeat (first | (with_reducible first | exact HBW.out | apply na_ | apply nn_ | apply nw_) | exact HBW.out))) : w.heap.size ≤ gb103) : w0.heap.size ≤ gb103)); replace HBW := n0_; clear n0_; clear hb hbox hg))
  go_ret
  exact ⟨_, rfl, (show IsS107 w0 _ gb103 l0 0 from ⟨_, _, by (with_reducible repeat (first | refine bn_ ?_ _ | refine bw_ ?_ | refine ba_ ?_ _)); exact BK103.out, GE103.out, HR0.out⟩), by repeat (first | (with_reducible first | exact HB.out | apply na_ | apply nn_ | apply nw_ | refine bs_ ?_ GE103.out) | exact HB.out), by repeat (first | (with_reducible first | exact HBW.out | apply na_ | apply nn_ | apply nw_ | refine bs_ ?_ GW103.out) | exact HBW.out)⟩
 rw [if_pos c2] at H
 have c2b0 : decide (2000 < (l0.length : Int)) = true := decide_eq_true c2
 have c2b1 : decide (2000 < l0.length) = true := decide_eq_true (by omega)
 clear c2
 by_cases c3 : 2000 ≤ (l0.length : Int)
 rotate_left
 ·rw [if_neg c3] at H
  exact absurd H (by simp)
 rw [if_pos c3] at H
 have c3b0 := eq_true c3
 have c3b1 : decide (2000 ≤ (l0.length : Int)) = true := decide_eq_true c3
 clear c3
 simp only [Option.some.injEq, Prod.mk.injEq] at H
 obtain ⟨rfl, rfl⟩ := H
 obtain ⟨i04, hi04, _, hsz4, _⟩ := info_parts info5
 obtain ⟨hcut4, hA4, hC4⟩ := print_take_of (P := Try.prog) (Value.int .u8) 0 22 5 .i64 Try.underlying22 hi04 hsz4 A0 c0 l0 2000 (by omega) (of_decide_eq_true (by first | (with_reducible assumption) | assumption)) HC0.out
 have HR101 := mk_ (Kd.C_of_reads (h1 := fun _ => rfl) (hA4 _ (Kd.reads_of_C HR0.out)))
 have HC101 := mk_ hC4
 clear hA4 hC4 hi04 hsz4
 go_enter Try.func44, Try.ntmps44
 go_wp2_with (first | ((with_reducible refine gate_dst (N := 10) rfl ?_); refine box_event ?hg (N := 10) ?hd (cs := #[.slice A0 (l0.take 2000).length c0, .int .i64 0]) (t := 107) ?hr ?_; (case hd => rfl); (case hg => rfl); (case hr => first | (go_simp; done) | (go_simp; rfl)); intro gb102 hg w5 hbox hb; have n0_ := mk_ (below_step HBW.out hb); replace HB := mk_ (below_step (ub_ HB.out) hb); have BK102 := mk_ (hbox); have GW102 := mk_ ((by rw [hg]; exact (below_size (by repeat (first | (with_reducible first | exact HBW.out | apply na_ | apply nn_ | apply nw_) | exact HBW.out))) : w.heap.size ≤ gb102)); have GE102 := ge_ ((Nat.le_trans HW0.out (by rw [hg]; exact (below_size (by repeat (first | (with_reducible first | exact HBW.out | apply na_ | apply nn_ | apply nw_) | exact HBW.out))) : w.heap.size ≤ gb102) : w0.heap.size ≤ gb102)); replace HBW := n0_; clear n0_; clear hb hbox hg))
 go_ret
 exact ⟨_, rfl, (show IsS107 w0 _ gb102 (l0.take 2000) 0 from ⟨_, _, by (with_reducible repeat (first | refine bn_ ?_ _ | refine bw_ ?_ | refine ba_ ?_ _)); exact BK102.out, GE102.out, HR101.out⟩), by repeat (first | (with_reducible first | exact HB.out | apply na_ | apply nn_ | apply nw_ | refine bs_ ?_ GE102.out) | exact HB.out), by repeat (first | (with_reducible first | exact HBW.out | apply na_ | apply nn_ | apply nw_ | refine bs_ ?_ GW102.out) | exact HBW.out)⟩

/-! ### spec_l20Rd_pick: function 46 -/
def spec_l20Rd_pick.j0 : Nat → Int → Bool → List Int → Int → Option (Int × Int)
 | 0, _, _, _, _ => none
 | k + 1, x1, x24, x1000, x1001 => if x24 = true then (some (0, x1001)) else (if (wrap64 (x1001 - 1)) < (x1000.length : Int) then (if 0 ≤ (wrap64 (x1001 - 1)) then (if x1 = 0 then (none) else (some (Int.tmod (wrap64 (rd x1000 (wrap64 (x1001 - 1)))) x1, x1001))) else (none)) else (if (x1000.length : Int) = 0 then (none) else (if 0 ≤ (Int.tmod (wrap64 (x1001 - 1)) (x1000.length : Int)) then (if (Int.tmod (wrap64 (x1001 - 1)) (x1000.length : Int)) < (x1000.length : Int) then (if 0 ≤ (Int.tmod (wrap64 ((wrap64 ((wrap64 (x1001 - 1)) * 7)) + 3)) (x1000.length : Int)) then (if (Int.tmod (wrap64 ((wrap64 ((wrap64 (x1001 - 1)) * 7)) + 3)) (x1000.length : Int)) < (x1000.length : Int) then (if x1 = 0 then (none) else (some (Int.tmod (Go.bits .xor .i64 (wrap64 ((wrap64 ((wrap64 ((wrap64 ((wrap64 (rd x1000 (Int.tmod (wrap64 (x1001 - 1)) (x1000.length : Int)))) * 131)) + (wrap64 ((wrap64 (rd x1000 (Int.tmod (wrap64 ((wrap64 ((wrap64 (x1001 - 1)) * 7)) + 3)) (x1000.length : Int)))) * 1117)))) + (wrap64 ((wrap64 (x1001 - 1)) * 29)))) + (wrap64 ((wrap64 (Int.tdiv (wrap64 (x1001 - 1)) (x1000.length : Int))) * 53)))) (wrap64 (Int.tdiv (wrap64 ((wrap64 ((wrap64 ((wrap64 ((wrap64 (rd x1000 (Int.tmod (wrap64 (x1001 - 1)) (x1000.length : Int)))) * 131)) + (wrap64 ((wrap64 (rd x1000 (Int.tmod (wrap64 ((wrap64 ((wrap64 (x1001 - 1)) * 7)) + 3)) (x1000.length : Int)))) * 1117)))) + (wrap64 ((wrap64 (x1001 - 1)) * 29)))) + (wrap64 ((wrap64 (Int.tdiv (wrap64 (x1001 - 1)) (x1000.length : Int))) * 53)))) 64))) x1, x1001))) else (none)) else (none)) else (none)) else (none))))
def spec_l20Rd_pick.f (k : Nat) (s0_0 : List Int) (s0_1 : Int) (a1 : Int) : Option (Int × Int) := if a1 < 1 then (spec_l20Rd_pick.j0 k a1 true s0_0 (wrap64 (s0_1 + 1))) else (spec_l20Rd_pick.j0 k a1 ((s0_0.length : Int) == 0) s0_0 (wrap64 (s0_1 + 1)))
theorem spec_l20Rd_pick.mono_l : ∀ k, (∀ y0 y1 y2 y3, LeO (spec_l20Rd_pick.j0 k y0 y1 y2 y3) (spec_l20Rd_pick.j0 (k + 1) y0 y1 y2 y3))
 | 0 => fun _ _ _ _ r h => by simp [spec_l20Rd_pick.j0] at h
 | k + 1 => by
  have ih0 := spec_l20Rd_pick.mono_l k
  ·intro y0 y1 y2 y3
   unfold spec_l20Rd_pick.j0
   repeat' first
   | (with_reducible exact ih0 _ _ _ _)
   | (with_reducible exact LeO.refl _)
   | (with_reducible exact LeO.none _)
   | (with_reducible refine LeO.ite ?_ ?_)
   | (with_reducible refine LeO.bind ?_ (fun _ => ?_))
   | exact ih0 _ _ _ _
   | exact LeO.none _
   | refine LeO.ite ?_ ?_
   | refine LeO.bind ?_ (fun _ => ?_)
theorem spec_l20Rd_pick.mono : ∀ a0 a1 a2 k, LeO (spec_l20Rd_pick.f k a0 a1 a2) (spec_l20Rd_pick.f (k + 1) a0 a1 a2) := by
 intro a0 a1 a2 k
 have ih0 := spec_l20Rd_pick.mono_l k
 unfold spec_l20Rd_pick.f
 repeat' first
   | (with_reducible exact ih0 _ _ _ _)
   | (with_reducible exact LeO.refl _)
   | (with_reducible exact LeO.none _)
   | (with_reducible refine LeO.ite ?_ ?_)
   | (with_reducible refine LeO.bind ?_ (fun _ => ?_))
   | exact ih0 _ _ _ _
   | exact LeO.none _
   | refine LeO.ite ?_ ?_
   | refine LeO.bind ?_ (fun _ => ?_)
set_option maxHeartbeats 8000000 in
set_option maxRecDepth 100000 in
theorem spec_l20Rd_pick.calls (k : Nat) (g : Nat) (s0_0 : List Int) (s0_1 : Int) (a1 : Int) (r1 : Int) (r2 : Int) (w0 w : World) (hI : IsS107 w0 w g s0_0 s0_1) (hB : Below w0.heap.size w0 w) (h : spec_l20Rd_pick.f k s0_0 s0_1 a1 = some (r1, r2)) :
  Calls Try.prog 46 #[.pointer (some ⟨g, 0, none⟩), .int .i64 a1] w fun e w' => e = .returned (.int .i64 r1) ∧ IsS107 w0 w' g s0_0 r2 ∧ Below w0.heap.size w0 w' ∧ KeepBut w w' g none := by
 have HI0 := mk_ hI
 have HK := mk_ (KeepBut.refl w g none)
 have HL := mk_ hB.size
 clear hI
 have HW0 := mk_ hB.size
 have HB := mk_ hB
 clear hB
 have H := h
 unfold spec_l20Rd_pick.f at H
 clear h
 have HC3 := mk_ H
 clear H
 obtain ⟨ASz4_0, cSz4_0, HGz4, hgz4, HSz4_0⟩ := HI0.out
 have hcz4_0 := cellS107_0 HGz4
 have hcz4_1 := cellS107_1 HGz4
 have hfz4_1 := blk_frozen HGz4 1
 clear HGz4 hgz4
 go_enter Try.func46, Try.ntmps46
 go_upto_region 2 with (fail)
 repeat (go_quiet (fail); go_upto_region 2 with (fail))
 go_cut [24] (fun v24 wc => ∃ (kq : Nat) (x24_2 : Bool), v24 = .bool x24_2 ∧ Aside0 (spec_l20Rd_pick.j0 kq a1 x24_2 s0_0 (wrap64 (s0_1 + 1)) = some (r1, r2)) ∧ Aside0 (kq ≤ k) ∧ Aside0 (IsS107 w0 wc g s0_0 (wrap64 (s0_1 + 1))) ∧ Aside0 (KeepBut w wc g none) ∧ Aside0 (Below w0.heap.size w0 wc))
 case first =>
  have H := HC3.out
  clear HC3
  by_cases c5 : a1 < 1
  ·rw [if_pos c5] at H
   have c5b0 : decide (a1 < 1) = true := decide_eq_true c5
   clear c5
   (first | rw [c5b0] | (simp only [i64_w, i32_w]; rw [c5b0]) | skip)
   have H' := mk_ H
   clear H
   go_wp2
   repeat (go_quiet (fail); try go_wp2)
   go_meet
   case rel => exact ⟨_, (true), (by first | rfl | (simp; done) | (simp [*]; done)), H', ⟨by first | omega | exact Nat.le_refl _⟩, ⟨by repeat (first | (with_reducible first | exact HI0.out | apply IsS107.alloc | apply IsS107.drewN | apply IsS107.drew | apply IsS107.set_1) | exact HI0.out)⟩, ⟨by repeat (first | (with_reducible first | exact HK.out | apply KeepBut.set_ | apply keep_drewN | apply keep_drew | apply keep_alloc) | exact HK.out)⟩, ⟨by repeat (first | (with_reducible first | exact HB.out | apply na_ | apply nn_ | apply nw_ | refine bs_ ?_ (IsS107.ge HI0.out)) | exact HB.out)⟩⟩
  rw [if_neg c5] at H
  have c5b0 : decide (a1 < 1) = false := decide_eq_false c5
  clear c5
  (first | rw [c5b0] | (simp only [i64_w, i32_w]; rw [c5b0]) | skip)
  have H' := mk_ H
  clear H
  obtain ⟨ASz6_0, cSz6_0, HGz6, hgz6, HSz6_0⟩ := HI0.out
  have hcz6_0 := cellS107_0 HGz6
  have hcz6_1 := cellS107_1 HGz6
  have hfz6_1 := blk_frozen HGz6 1
  clear HGz6 hgz6
  go_wp2
  repeat (go_quiet (fail); try go_wp2)
  go_meet
  case rel => exact ⟨_, (((s0_0.length : Int) == 0)), (by first | rfl | (simp; done) | (simp [*]; done)), H', ⟨by first | omega | exact Nat.le_refl _⟩, ⟨by repeat (first | (with_reducible first | exact HI0.out | apply IsS107.alloc | apply IsS107.drewN | apply IsS107.drew | apply IsS107.set_1) | exact HI0.out)⟩, ⟨by repeat (first | (with_reducible first | exact HK.out | apply KeepBut.set_ | apply keep_drewN | apply keep_drew | apply keep_alloc) | exact HK.out)⟩, ⟨by repeat (first | (with_reducible first | exact HB.out | apply na_ | apply nn_ | apply nw_ | refine bs_ ?_ (IsS107.ge HI0.out)) | exact HB.out)⟩⟩
 case rest =>
  clear HC3
  try clear p2
  try clear c4
  try clear c5
  try clear c5b0
  try clear p6
  try clear hcz4_0
  try clear hcz4_1
  try clear hcz6_0
  try clear hcz6_1
  try clear hfz4_1
  try clear hfz6_1
  obtain ⟨kq, x24_2, rfl, HA, HJ2, HI0, HK, HB⟩ := hcut
  cases kq with
  | zero => exact absurd HA.out (by simp [spec_l20Rd_pick.j0])
  | succ kj2 =>
   have H := HA.out
   clear HA
   simp only [spec_l20Rd_pick.j0] at H
   by_cases c7 : x24_2 = true
   ·subst c7
    have H1 : (some (0, (wrap64 (s0_1 + 1)))) = some (r1, r2) := by rw [if_pos rfl] at H; exact H
    clear H
    have H := H1
    clear H1
    simp only [Option.some.injEq, Prod.mk.injEq] at H
    obtain ⟨rfl, rfl⟩ := H
    go_wp2
    repeat (go_quiet (fail); try go_wp2)
    go_ret
    exact ⟨by first | rfl | (simp [errW_none, errW_some] <;> rfl) | (simp [*, errW_none, errW_some] <;> rfl), by repeat (first | (with_reducible first | exact HI0.out | apply IsS107.alloc | apply IsS107.drewN | apply IsS107.drew | apply IsS107.set_1) | exact HI0.out), by repeat (first | (with_reducible first | exact HB.out | apply na_ | apply nn_ | apply nw_ | refine bs_ ?_ (IsS107.ge HI0.out)) | exact HB.out), by repeat (first | (with_reducible first | exact HK.out | apply KeepBut.set_ | apply keep_drewN | apply keep_drew | apply keep_alloc) | exact HK.out)⟩
   replace c7 := Bool.eq_false_iff.mpr c7
   subst c7
   rw [if_neg (show ¬ (false = true) by decide)] at H
   by_cases c8 : (wrap64 ((wrap64 (s0_1 + 1)) - 1)) < (s0_0.length : Int)
   ·rw [if_pos c8] at H
    have c8b0 : decide ((wrap64 ((wrap64 (s0_1 + 1)) - 1)) < (s0_0.length : Int)) = true := decide_eq_true c8
    clear c8
    obtain ⟨ji9, hji9⟩ : ∃ j_ : Int, (wrap64 ((wrap64 (s0_1 + 1)) - 1)) = j_ := ⟨_, rfl⟩
    replace H : (if 0 ≤ (ji9) then (if a1 = 0 then (none) else (some (Int.tmod (wrap64 (rd s0_0 (ji9))) a1, (wrap64 (s0_1 + 1))))) else (none)) = some (r1, r2) := by first | (rw [hji9] at H; exact H) | (simp only [hji9] at H ⊢; exact H)
    (try rw [hji9] at c8b0)
    have hji9w : (IntKind.i64.wrap ((wrap64 (s0_1 + 1)) - 1)) = ji9 := (i64_w _).trans hji9
    by_cases c10 : 0 ≤ (ji9)
    rotate_left
    ·rw [if_neg c10] at H
     exact absurd H (by simp)
    rw [if_pos c10] at H
    have c10b0 : decide (0 ≤ (ji9)) = true := decide_eq_true c10
    clear c10
    by_cases c11 : a1 = 0
    ·rw [if_pos c11] at H
     exact absurd H (by simp)
    rw [if_neg c11] at H
    have c11b0 : (a1 == 0) = false := beq_eq_false_iff_ne.mpr c11
    have c11b1 : (a1 != 0) = true := bne_iff_ne.mpr c11
    simp only [Option.some.injEq, Prod.mk.injEq] at H
    obtain ⟨rfl, rfl⟩ := H
    obtain ⟨ASz12_0, cSz12_0, HGz12, hgz12, HSz12_0⟩ := HI0.out
    have hcz12_0 := cellS107_0 HGz12
    have hcz12_1 := cellS107_1 HGz12
    have hfz12_1 := blk_frozen HGz12 1
    clear HGz12 hgz12
    have p104 : 0 ≤ ((ji9) : Int) := of_decide_eq_true (by first | (with_reducible assumption) | assumption)
    have q104 : (ji9) < (s0_0.length : Int) := of_decide_eq_true (by first | (with_reducible assumption) | assumption)
    obtain ⟨ad104, e104, hx104_0⟩ := Kd.at_int HSz12_0 (ji9) p104 q104
    cases e104
    replace hx104_0 := pw_cell_below HB.out hx104_0
    replace p104 := eq_true p104
    replace q104 := eq_true q104
    go_wp2
    repeat (go_quiet (fail); try go_wp2)
    go_ret
    exact ⟨by first | rfl | (simp [errW_none, errW_some] <;> rfl) | (simp only [← hji9]; first | rfl | (simp [errW_none, errW_some] <;> rfl)) | (simp [*, errW_none, errW_some] <;> rfl), by repeat (first | (with_reducible first | exact HI0.out | apply IsS107.alloc | apply IsS107.drewN | apply IsS107.drew | apply IsS107.set_1) | exact HI0.out), by repeat (first | (with_reducible first | exact HB.out | apply na_ | apply nn_ | apply nw_ | refine bs_ ?_ (IsS107.ge HI0.out)) | exact HB.out), by repeat (first | (with_reducible first | exact HK.out | apply KeepBut.set_ | apply keep_drewN | apply keep_drew | apply keep_alloc) | exact HK.out)⟩
   rw [if_neg c8] at H
   have c8b0 : decide ((wrap64 ((wrap64 (s0_1 + 1)) - 1)) < (s0_0.length : Int)) = false := decide_eq_false c8
   clear c8
   by_cases c13 : (s0_0.length : Int) = 0
   ·rw [if_pos c13] at H
    exact absurd H (by simp)
   rw [if_neg c13] at H
   have c13b0 : ((s0_0.length : Int) == 0) = false := beq_eq_false_iff_ne.mpr c13
   have c13b1 : ((s0_0.length : Int) != 0) = true := bne_iff_ne.mpr c13
   have c13b2 : ¬ (s0_0 = []) := fun h_ => c13 (by rw [h_]; rfl)
   obtain ⟨ji14, hji14⟩ : ∃ j_ : Int, (Int.tmod (wrap64 ((wrap64 (s0_1 + 1)) - 1)) (s0_0.length : Int)) = j_ := ⟨_, rfl⟩
   replace H : (if 0 ≤ (ji14) then (if (ji14) < (s0_0.length : Int) then (if 0 ≤ (Int.tmod (wrap64 ((wrap64 ((wrap64 ((wrap64 (s0_1 + 1)) - 1)) * 7)) + 3)) (s0_0.length : Int)) then (if (Int.tmod (wrap64 ((wrap64 ((wrap64 ((wrap64 (s0_1 + 1)) - 1)) * 7)) + 3)) (s0_0.length : Int)) < (s0_0.length : Int) then (if a1 = 0 then (none) else (some (Int.tmod (Go.bits .xor .i64 (wrap64 ((wrap64 ((wrap64 ((wrap64 ((wrap64 (rd s0_0 (ji14))) * 131)) + (wrap64 ((wrap64 (rd s0_0 (Int.tmod (wrap64 ((wrap64 ((wrap64 ((wrap64 (s0_1 + 1)) - 1)) * 7)) + 3)) (s0_0.length : Int)))) * 1117)))) + (wrap64 ((wrap64 ((wrap64 (s0_1 + 1)) - 1)) * 29)))) + (wrap64 ((wrap64 (Int.tdiv (wrap64 ((wrap64 (s0_1 + 1)) - 1)) (s0_0.length : Int))) * 53)))) (wrap64 (Int.tdiv (wrap64 ((wrap64 ((wrap64 ((wrap64 ((wrap64 (rd s0_0 (ji14))) * 131)) + (wrap64 ((wrap64 (rd s0_0 (Int.tmod (wrap64 ((wrap64 ((wrap64 ((wrap64 (s0_1 + 1)) - 1)) * 7)) + 3)) (s0_0.length : Int)))) * 1117)))) + (wrap64 ((wrap64 ((wrap64 (s0_1 + 1)) - 1)) * 29)))) + (wrap64 ((wrap64 (Int.tdiv (wrap64 ((wrap64 (s0_1 + 1)) - 1)) (s0_0.length : Int))) * 53)))) 64))) a1, (wrap64 (s0_1 + 1))))) else (none)) else (none)) else (none)) else (none)) = some (r1, r2) := by first | (rw [hji14] at H; exact H) | (simp only [hji14] at H ⊢; exact H)
   by_cases c15 : 0 ≤ (ji14)
   rotate_left
   ·rw [if_neg c15] at H
    exact absurd H (by simp)
   rw [if_pos c15] at H
   have c15b0 : decide (0 ≤ (ji14)) = true := decide_eq_true c15
   clear c15
   by_cases c16 : (ji14) < (s0_0.length : Int)
   rotate_left
   ·rw [if_neg c16] at H
    exact absurd H (by simp)
   rw [if_pos c16] at H
   have c16b0 : decide ((ji14) < (s0_0.length : Int)) = true := decide_eq_true c16
   clear c16
   obtain ⟨ji17, hji17⟩ : ∃ j_ : Int, (Int.tmod (wrap64 ((wrap64 ((wrap64 ((wrap64 (s0_1 + 1)) - 1)) * 7)) + 3)) (s0_0.length : Int)) = j_ := ⟨_, rfl⟩
   replace H : (if 0 ≤ (ji17) then (if (ji17) < (s0_0.length : Int) then (if a1 = 0 then (none) else (some (Int.tmod (Go.bits .xor .i64 (wrap64 ((wrap64 ((wrap64 ((wrap64 ((wrap64 (rd s0_0 (ji14))) * 131)) + (wrap64 ((wrap64 (rd s0_0 (ji17))) * 1117)))) + (wrap64 ((wrap64 ((wrap64 (s0_1 + 1)) - 1)) * 29)))) + (wrap64 ((wrap64 (Int.tdiv (wrap64 ((wrap64 (s0_1 + 1)) - 1)) (s0_0.length : Int))) * 53)))) (wrap64 (Int.tdiv (wrap64 ((wrap64 ((wrap64 ((wrap64 ((wrap64 (rd s0_0 (ji14))) * 131)) + (wrap64 ((wrap64 (rd s0_0 (ji17))) * 1117)))) + (wrap64 ((wrap64 ((wrap64 (s0_1 + 1)) - 1)) * 29)))) + (wrap64 ((wrap64 (Int.tdiv (wrap64 ((wrap64 (s0_1 + 1)) - 1)) (s0_0.length : Int))) * 53)))) 64))) a1, (wrap64 (s0_1 + 1))))) else (none)) else (none)) = some (r1, r2) := by first | (rw [hji17] at H; exact H) | (simp only [hji17] at H ⊢; exact H)
   by_cases c18 : 0 ≤ (ji17)
   rotate_left
   ·rw [if_neg c18] at H
    exact absurd H (by simp)
   rw [if_pos c18] at H
   have c18b0 : decide (0 ≤ (ji17)) = true := decide_eq_true c18
   clear c18
   by_cases c19 : (ji17) < (s0_0.length : Int)
   rotate_left
   ·rw [if_neg c19] at H
    exact absurd H (by simp)
   rw [if_pos c19] at H
   have c19b0 : decide ((ji17) < (s0_0.length : Int)) = true := decide_eq_true c19
   clear c19
   by_cases c20 : a1 = 0
   ·rw [if_pos c20] at H
    exact absurd H (by simp)
   rw [if_neg c20] at H
   have c20b0 : (a1 == 0) = false := beq_eq_false_iff_ne.mpr c20
   have c20b1 : (a1 != 0) = true := bne_iff_ne.mpr c20
   simp only [Option.some.injEq, Prod.mk.injEq] at H
   obtain ⟨rfl, rfl⟩ := H
   obtain ⟨ASz21_0, cSz21_0, HGz21, hgz21, HSz21_0⟩ := HI0.out
   have hcz21_0 := cellS107_0 HGz21
   have hcz21_1 := cellS107_1 HGz21
   have hfz21_1 := blk_frozen HGz21 1
   clear HGz21 hgz21
   have p105 : 0 ≤ ((ji14) : Int) := of_decide_eq_true (by first | (with_reducible assumption) | assumption)
   have q105 : (ji14) < (s0_0.length : Int) := of_decide_eq_true (by first | (with_reducible assumption) | assumption)
   obtain ⟨ad105, e105, hx105_0⟩ := Kd.at_int HSz21_0 (ji14) p105 q105
   cases e105
   replace hx105_0 := pw_cell_below HB.out hx105_0
   replace p105 := eq_true p105
   replace q105 := eq_true q105
   have p106 : 0 ≤ ((ji17) : Int) := of_decide_eq_true (by first | (with_reducible assumption) | assumption)
   have q106 : (ji17) < (s0_0.length : Int) := of_decide_eq_true (by first | (with_reducible assumption) | assumption)
   obtain ⟨ad106, e106, hx106_0⟩ := Kd.at_int HSz21_0 (ji17) p106 q106
   obtain rfl : ad105 = ad106 := (by injection e106)
   replace hx106_0 := pw_cell_below HB.out hx106_0
   replace p106 := eq_true p106
   replace q106 := eq_true q106
   go_wp2
   repeat (go_quiet (fail); try go_wp2)
   go_ret
   exact ⟨by first | rfl | (simp [errW_none, errW_some] <;> rfl) | (simp only [← hji14, ← hji17]; first | rfl | (simp [errW_none, errW_some] <;> rfl)) | (simp [*, errW_none, errW_some] <;> rfl), by repeat (first | (with_reducible first | exact HI0.out | apply IsS107.alloc | apply IsS107.drewN | apply IsS107.drew | apply IsS107.set_1) | exact HI0.out), by repeat (first | (with_reducible first | exact HB.out | apply na_ | apply nn_ | apply nw_ | refine bs_ ?_ (IsS107.ge HI0.out)) | exact HB.out), by repeat (first | (with_reducible first | exact HK.out | apply KeepBut.set_ | apply keep_drewN | apply keep_drew | apply keep_alloc) | exact HK.out)⟩

/-! ### spec_l1In: function 53 -/
def spec_l1In.f (a0 : Int) (a1 : Int) (a2 : Int) : Option (Bool) := if a0 ≥ a1 then (some (decide (a0 ≤ a2))) else (some false)
set_option maxHeartbeats 8000000 in
set_option maxRecDepth 100000 in
theorem spec_l1In.calls (a0 : Int) (a1 : Int) (a2 : Int) (r : Bool) (w : World) (h : spec_l1In.f a0 a1 a2 = some r) :
  Calls Try.prog 53 #[.int .i64 a0, .int .i64 a1, .int .i64 a2] w fun e w' => e = .returned (.bool r) ∧ Drawn0 w w' := by
 have H : (if a0 ≥ a1 then (some (decide (a0 ≤ a2))) else (some false)) = some r := h
 clear h
 by_cases c4 : a0 ≥ a1
 focus
  rw [if_pos c4] at H
  have c4b0 : decide (a1 ≤ a0) = true := decide_eq_true c4
  clear c4
  obtain rfl := Option.some.inj H
 rotate_left
 focus
  rw [if_neg c4] at H
  have c4b0 : decide (a1 ≤ a0) = false := decide_eq_false c4
  clear c4
  obtain rfl := Option.some.inj H
 rotate_left
 all_goals
  go_enter Try.func53, Try.ntmps53
  go_wp2
  go_ret
  exact ⟨by first | rfl | (simp; done) | (simp [*]; done), by repeat (first | exact Drawn0.refl _ | apply Drawn0.step)⟩

/-! ### spec_l6Rest: function 123 -/
def spec_l6Rest.f (a0 : Int) : Option (Int) := if 0 ≤ (wrap64 (16 - a0)) then (some (shl .i64 1 (wrap64 (16 - a0)))) else (none)
set_option maxHeartbeats 8000000 in
set_option maxRecDepth 100000 in
theorem spec_l6Rest.calls (a0 : Int) (r : Int) (w : World) (h : spec_l6Rest.f a0 = some r) :
  Calls Try.prog 123 #[.int .i64 a0] w fun e w' => e = .returned (.int .i64 r) ∧ Drawn0 w w' := by
 have H := h
 unfold spec_l6Rest.f at H
 clear h
 obtain ⟨ji2, hji2⟩ : ∃ j_ : Int, (wrap64 (16 - a0)) = j_ := ⟨_, rfl⟩
 replace H : (if 0 ≤ (ji2) then (some (shl .i64 1 (ji2))) else (none)) = some r := by first | (rw [hji2] at H; exact H) | (simp only [hji2] at H ⊢; exact H)
 have hji2w : (IntKind.i64.wrap (16 - a0)) = ji2 := (i64_w _).trans hji2
 by_cases c3 : 0 ≤ (ji2)
 rotate_left
 ·rw [if_neg c3] at H
  exact absurd H (by simp)
 rw [if_pos c3] at H
 have c3b0 := eq_true c3
 have c3b1 : decide (0 ≤ (ji2)) = true := decide_eq_true c3
 clear c3
 obtain ⟨ji4, hji4⟩ : ∃ j_ : Int, (shl .i64 1 (ji2)) = j_ := ⟨_, rfl⟩
 replace H : (some ji4) = some r := by first | (rw [hji4] at H; exact H) | (simp only [hji4] at H ⊢; exact H)
 have hji4_ : (IntKind.i64.wrap (1 * 2 ^ min (ji2).toNat 64)) = ji4 := hji4
 have hji4z : (ji2) ≤ 64 → (IntKind.i64.wrap (1 * 2 ^ (ji2).toNat)) = ji4 := shl_small hji4
 have hji4u : (IntKind.i64.wrap (2 ^ min (ji2).toNat 64)) = ji4 := by have h_ := hji4_; rw [Int.one_mul] at h_; exact h_
 have hji4v : (ji2) ≤ 64 → (IntKind.i64.wrap (2 ^ (ji2).toNat)) = ji4 := fun hle_ => by have h_ := hji4z hle_; rw [Int.one_mul] at h_; exact h_
 have hji4y : (wrap64 (1 * 2 ^ min (ji2).toNat 64)) = ji4 := (i64_w _).symm.trans hji4_
 have hji4x : (ji2) ≤ 64 → (wrap64 (1 * 2 ^ (ji2).toNat)) = ji4 := fun h_ => (i64_w _).symm.trans (hji4z h_)
 obtain rfl := Option.some.inj H
 go_enter Try.func123, Try.ntmps123
 go_wp2
 go_ret
 exact ⟨by first | rfl | (simp; done) | (simp only [← hji2, ← hji4] <;> (first | rfl | simp)) | (simp [*]; done), by repeat (first | exact Drawn0.refl _ | apply Drawn0.step)⟩

/-! ### spec_RouteOk: function 117 -/
def spec_RouteOk.f (a0_0 : Int) (a0_1 : Int) (a0_2 : Int) (a0_3 : Int) : Option (Bool) := (spec_l1In.f a0_1 0 16).bind fun t108 => (if t108 = true then ((spec_l1In.f a0_0 0 65535).bind fun t109 => (if t109 = true then ((spec_l6Rest.f a0_1).bind fun t110 => (if t110 = 0 then (none) else (if (Int.tmod a0_0 t110) = 0 then ((spec_l1In.f a0_2 0 65535).bind fun t111 => (if t111 = true then ((spec_l1In.f a0_3 1 48).bind fun t112 => (some t112)) else (some false))) else (some false)))) else (some false))) else (some false))
set_option maxHeartbeats 8000000 in
set_option maxRecDepth 100000 in
theorem spec_RouteOk.calls (a0_0 : Int) (a0_1 : Int) (a0_2 : Int) (a0_3 : Int) (r : Bool) (w : World) (h : spec_RouteOk.f a0_0 a0_1 a0_2 a0_3 = some r) :
  Calls Try.prog 117 #[.agg #[.int .i64 a0_0, .int .i64 a0_1, .int .i64 a0_2, .int .i64 a0_3]] w fun e w' => e = .returned (.bool r) ∧ Below w.heap.size w w' := by
 have hu29 := Try.underlying29
 have HB := mk_ (Below.refl w.heap.size w)
 have H := h
 unfold spec_RouteOk.f at H
 clear h
 replace H := Option.bind_eq_some_iff.mp H
 obtain ⟨t108, A20, H⟩ := H
 (try dsimp only at H)
 have A2 := mk_ A20
 clear A20
 by_cases c3 : t108 = true
 rotate_left
 focus
  replace c3 := Bool.eq_false_iff.mpr c3
  subst c3
  have H1 : (some false) = some r := by rw [if_neg (show ¬ (false = true) by decide)] at H; exact H
  clear H
  have H := H1
  clear H1
  obtain rfl := Option.some.inj H
 rotate_left
 focus
  subst c3
  rw [if_pos rfl] at H
  replace H := Option.bind_eq_some_iff.mp H
  obtain ⟨t109, A40, H⟩ := H
  (try dsimp only at H)
  have A4 := mk_ A40
  clear A40
  by_cases c5 : t109 = true
  rotate_left
  focus
   replace c5 := Bool.eq_false_iff.mpr c5
   subst c5
   have H1 : (some false) = some r := by rw [if_neg (show ¬ (false = true) by decide)] at H; exact H
   clear H
   have H := H1
   clear H1
   obtain rfl := Option.some.inj H
  rotate_left
  focus
   subst c5
   rw [if_pos rfl] at H
   replace H := Option.bind_eq_some_iff.mp H
   obtain ⟨t110, A60, H⟩ := H
   (try dsimp only at H)
   have A6 := mk_ A60
   clear A60
   by_cases c7 : t110 = 0
   ·rw [if_pos c7] at H
    exact absurd H (by simp)
   rw [if_neg c7] at H
   have c7b0 : (t110 == 0) = false := beq_eq_false_iff_ne.mpr c7
   have c7b1 : (t110 != 0) = true := bne_iff_ne.mpr c7
   by_cases c8 : (Int.tmod a0_0 t110) = 0
   rotate_left
   focus
    rw [if_neg c8] at H
    have c8b0 : ((Int.tmod a0_0 t110) == 0) = false := beq_eq_false_iff_ne.mpr c8
    have c8b1 : ((Int.tmod a0_0 t110) != 0) = true := bne_iff_ne.mpr c8
    obtain rfl := Option.some.inj H
   rotate_left
   focus
    rw [if_pos c8] at H
    have c8b0 : ((Int.tmod a0_0 t110) == 0) = true := beq_iff_eq.mpr c8
    have c8b1 : ((Int.tmod a0_0 t110) != 0) = false := bne_eq_false_iff_eq.mpr c8
    clear c8
    replace H := Option.bind_eq_some_iff.mp H
    obtain ⟨t111, A90, H⟩ := H
    (try dsimp only at H)
    have A9 := mk_ A90
    clear A90
    by_cases c10 : t111 = true
    rotate_left
    focus
     replace c10 := Bool.eq_false_iff.mpr c10
     subst c10
     have H1 : (some false) = some r := by rw [if_neg (show ¬ (false = true) by decide)] at H; exact H
     clear H
     have H := H1
     clear H1
     obtain rfl := Option.some.inj H
    rotate_left
    focus
     subst c10
     rw [if_pos rfl] at H
     replace H := Option.bind_eq_some_iff.mp H
     obtain ⟨t112, A110, H⟩ := H
     replace H : (some t112) = some r := H
     have A11 := mk_ A110
     clear A110
     obtain rfl := Option.some.inj H
    rotate_left
   rotate_left 2
  rotate_left 3
 rotate_left 4
 all_goals
  go_enter Try.func117, Try.ntmps117
  go_wp2_with (first | ((with_reducible refine gate_dst (N := 1) rfl ?_); refine box_event ?hg (N := 1) ?hd (cs := #[.int .i64 a0_0, .int .i64 a0_1, .int .i64 a0_2, .int .i64 a0_3]) (t := 29) ?hr ?_; (case hd => rfl); (case hg => rfl); (case hr => first | (go_simp; done) | (go_simp; rfl)); intro gb1400 hg w1401 hbox hb; have n0_ := mk_ (below_step (ub_ HB.out) hb); have BK107 := mk_ (hbox); have GW107 := mk_ ((by rw [hg]; exact (below_size (ub_ HB.out)) : w.heap.size ≤ gb1400)); have GE107 := ge_ ((by rw [hg]; exact (below_size (ub_ HB.out)) : w.heap.size ≤ gb1400)); replace HB := n0_; clear n0_; clear hb hbox hg; obtain ⟨hcz100107_0, hcz100107_1, hcz100107_2, hcz100107_3, hfz100107_0, hfz100107_1, hfz100107_2, hfz100107_3⟩ := cells4_ BK107.out) | (go_at_call 53; (with_reducible refine (spec_l1In.calls a0_1 0 16 false _ A2.out).mono ?_); rintro e w' ⟨rfl, ⟨nd, rfl⟩⟩; (try first | exact ⟨rfl, _, World.drewN_drewN _ _ _⟩ | exact ⟨rfl, _, Eq.trans (World.drewN_drewN _ _ _) (congrArg (World.drewN _) (Nat.add_assoc _ _ _))⟩)) | (go_at_call 53; have hA_ := A2.out; (with_reducible refine (spec_l1In.calls a0_1 0 16 true _ A2.out).mono ?_); rintro e w' ⟨rfl, ⟨nd, rfl⟩⟩; (try first | exact ⟨rfl, _, World.drewN_drewN _ _ _⟩ | exact ⟨rfl, _, Eq.trans (World.drewN_drewN _ _ _) (congrArg (World.drewN _) (Nat.add_assoc _ _ _))⟩); clear hA_ A2) | (go_at_call 53; have hA_ := A4.out; (with_reducible refine (spec_l1In.calls a0_0 0 65535 false _ A4.out).mono ?_); rintro e w' ⟨rfl, ⟨nd, rfl⟩⟩; (try first | exact ⟨rfl, _, World.drewN_drewN _ _ _⟩ | exact ⟨rfl, _, Eq.trans (World.drewN_drewN _ _ _) (congrArg (World.drewN _) (Nat.add_assoc _ _ _))⟩); clear hA_ A4) | (go_at_call 53; have hA_ := A4.out; (with_reducible refine (spec_l1In.calls a0_0 0 65535 true _ A4.out).mono ?_); rintro e w' ⟨rfl, ⟨nd, rfl⟩⟩; (try first | exact ⟨rfl, _, World.drewN_drewN _ _ _⟩ | exact ⟨rfl, _, Eq.trans (World.drewN_drewN _ _ _) (congrArg (World.drewN _) (Nat.add_assoc _ _ _))⟩); clear hA_ A4) | (go_at_call 123; (with_reducible refine (spec_l6Rest.calls a0_1 t110 _ A6.out).mono ?_); rintro e w' ⟨rfl, ⟨nd, rfl⟩⟩; (try first | exact ⟨rfl, _, World.drewN_drewN _ _ _⟩ | exact ⟨rfl, _, Eq.trans (World.drewN_drewN _ _ _) (congrArg (World.drewN _) (Nat.add_assoc _ _ _))⟩)) | (go_at_call 53; have hA_ := A9.out; (with_reducible refine (spec_l1In.calls a0_2 0 65535 false _ A9.out).mono ?_); rintro e w' ⟨rfl, ⟨nd, rfl⟩⟩; (try first | exact ⟨rfl, _, World.drewN_drewN _ _ _⟩ | exact ⟨rfl, _, Eq.trans (World.drewN_drewN _ _ _) (congrArg (World.drewN _) (Nat.add_assoc _ _ _))⟩); clear hA_ A9) | (go_at_call 53; have hA_ := A9.out; (with_reducible refine (spec_l1In.calls a0_2 0 65535 true _ A9.out).mono ?_); rintro e w' ⟨rfl, ⟨nd, rfl⟩⟩; (try first | exact ⟨rfl, _, World.drewN_drewN _ _ _⟩ | exact ⟨rfl, _, Eq.trans (World.drewN_drewN _ _ _) (congrArg (World.drewN _) (Nat.add_assoc _ _ _))⟩); clear hA_ A9) | (go_at_call 53; have hA_ := A11.out; (with_reducible refine (spec_l1In.calls a0_3 1 48 t112 _ A11.out).mono ?_); rintro e w' ⟨rfl, ⟨nd, rfl⟩⟩; (try first | exact ⟨rfl, _, World.drewN_drewN _ _ _⟩ | exact ⟨rfl, _, Eq.trans (World.drewN_drewN _ _ _) (congrArg (World.drewN _) (Nat.add_assoc _ _ _))⟩); clear hA_ A11))
 ·repeat (go_quiet (first | ((with_reducible refine gate_dst (N := 1) rfl ?_); refine box_event ?hg (N := 1) ?hd (cs := #[.int .i64 a0_0, .int .i64 a0_1, .int .i64 a0_2, .int .i64 a0_3]) (t := 29) ?hr ?_; (case hd => rfl); (case hg => rfl); (case hr => first | (go_simp; done) | (go_simp; rfl)); intro gb1400 hg w1401 hbox hb; have n0_ := mk_ (below_step (ub_ HB.out) hb); have BK107 := mk_ (hbox); have GW107 := mk_ ((by rw [hg]; exact (below_size (ub_ HB.out)) : w.heap.size ≤ gb1400)); have GE107 := ge_ ((by rw [hg]; exact (below_size (ub_ HB.out)) : w.heap.size ≤ gb1400)); replace HB := n0_; clear n0_; clear hb hbox hg; obtain ⟨hcz100107_0, hcz100107_1, hcz100107_2, hcz100107_3, hfz100107_0, hfz100107_1, hfz100107_2, hfz100107_3⟩ := cells4_ BK107.out) | (go_at_call 53; (with_reducible refine (spec_l1In.calls a0_1 0 16 false _ A2.out).mono ?_); rintro e w' ⟨rfl, ⟨nd, rfl⟩⟩; (try first | exact ⟨rfl, _, World.drewN_drewN _ _ _⟩ | exact ⟨rfl, _, Eq.trans (World.drewN_drewN _ _ _) (congrArg (World.drewN _) (Nat.add_assoc _ _ _))⟩))); try go_wp2_with (first | ((with_reducible refine gate_dst (N := 1) rfl ?_); refine box_event ?hg (N := 1) ?hd (cs := #[.int .i64 a0_0, .int .i64 a0_1, .int .i64 a0_2, .int .i64 a0_3]) (t := 29) ?hr ?_; (case hd => rfl); (case hg => rfl); (case hr => first | (go_simp; done) | (go_simp; rfl)); intro gb1400 hg w1401 hbox hb; have n0_ := mk_ (below_step (ub_ HB.out) hb); have BK107 := mk_ (hbox); have GW107 := mk_ ((by rw [hg]; exact (below_size (ub_ HB.out)) : w.heap.size ≤ gb1400)); have GE107 := ge_ ((by rw [hg]; exact (below_size (ub_ HB.out)) : w.heap.size ≤ gb1400)); replace HB := n0_; clear n0_; clear hb hbox hg; obtain ⟨hcz100107_0, hcz100107_1, hcz100107_2, hcz100107_3, hfz100107_0, hfz100107_1, hfz100107_2, hfz100107_3⟩ := cells4_ BK107.out) | (go_at_call 53; (with_reducible refine (spec_l1In.calls a0_1 0 16 false _ A2.out).mono ?_); rintro e w' ⟨rfl, ⟨nd, rfl⟩⟩; (try first | exact ⟨rfl, _, World.drewN_drewN _ _ _⟩ | exact ⟨rfl, _, Eq.trans (World.drewN_drewN _ _ _) (congrArg (World.drewN _) (Nat.add_assoc _ _ _))⟩))))
  go_ret
  exact ⟨by first | rfl | (simp [errW_none, errW_some] <;> rfl) | (simp [*, errW_none, errW_some] <;> rfl), us_ HB.out⟩
 ·repeat (go_quiet (first | ((with_reducible refine gate_dst (N := 1) rfl ?_); refine box_event ?hg (N := 1) ?hd (cs := #[.int .i64 a0_0, .int .i64 a0_1, .int .i64 a0_2, .int .i64 a0_3]) (t := 29) ?hr ?_; (case hd => rfl); (case hg => rfl); (case hr => first | (go_simp; done) | (go_simp; rfl)); intro gb1400 hg w1401 hbox hb; have n0_ := mk_ (below_step (ub_ HB.out) hb); have BK107 := mk_ (hbox); have GW107 := mk_ ((by rw [hg]; exact (below_size (ub_ HB.out)) : w.heap.size ≤ gb1400)); have GE107 := ge_ ((by rw [hg]; exact (below_size (ub_ HB.out)) : w.heap.size ≤ gb1400)); replace HB := n0_; clear n0_; clear hb hbox hg; obtain ⟨hcz100107_0, hcz100107_1, hcz100107_2, hcz100107_3, hfz100107_0, hfz100107_1, hfz100107_2, hfz100107_3⟩ := cells4_ BK107.out) | (go_at_call 53; (with_reducible refine (spec_l1In.calls a0_1 0 16 true _ A2.out).mono ?_); rintro e w' ⟨rfl, ⟨nd, rfl⟩⟩; (try first | exact ⟨rfl, _, World.drewN_drewN _ _ _⟩ | exact ⟨rfl, _, Eq.trans (World.drewN_drewN _ _ _) (congrArg (World.drewN _) (Nat.add_assoc _ _ _))⟩)) | (go_at_call 53; (with_reducible refine (spec_l1In.calls a0_0 0 65535 false _ A4.out).mono ?_); rintro e w' ⟨rfl, ⟨nd, rfl⟩⟩; (try first | exact ⟨rfl, _, World.drewN_drewN _ _ _⟩ | exact ⟨rfl, _, Eq.trans (World.drewN_drewN _ _ _) (congrArg (World.drewN _) (Nat.add_assoc _ _ _))⟩))); try go_wp2_with (first | ((with_reducible refine gate_dst (N := 1) rfl ?_); refine box_event ?hg (N := 1) ?hd (cs := #[.int .i64 a0_0, .int .i64 a0_1, .int .i64 a0_2, .int .i64 a0_3]) (t := 29) ?hr ?_; (case hd => rfl); (case hg => rfl); (case hr => first | (go_simp; done) | (go_simp; rfl)); intro gb1400 hg w1401 hbox hb; have n0_ := mk_ (below_step (ub_ HB.out) hb); have BK107 := mk_ (hbox); have GW107 := mk_ ((by rw [hg]; exact (below_size (ub_ HB.out)) : w.heap.size ≤ gb1400)); have GE107 := ge_ ((by rw [hg]; exact (below_size (ub_ HB.out)) : w.heap.size ≤ gb1400)); replace HB := n0_; clear n0_; clear hb hbox hg; obtain ⟨hcz100107_0, hcz100107_1, hcz100107_2, hcz100107_3, hfz100107_0, hfz100107_1, hfz100107_2, hfz100107_3⟩ := cells4_ BK107.out) | (go_at_call 53; (with_reducible refine (spec_l1In.calls a0_1 0 16 true _ A2.out).mono ?_); rintro e w' ⟨rfl, ⟨nd, rfl⟩⟩; (try first | exact ⟨rfl, _, World.drewN_drewN _ _ _⟩ | exact ⟨rfl, _, Eq.trans (World.drewN_drewN _ _ _) (congrArg (World.drewN _) (Nat.add_assoc _ _ _))⟩)) | (go_at_call 53; (with_reducible refine (spec_l1In.calls a0_0 0 65535 false _ A4.out).mono ?_); rintro e w' ⟨rfl, ⟨nd, rfl⟩⟩; (try first | exact ⟨rfl, _, World.drewN_drewN _ _ _⟩ | exact ⟨rfl, _, Eq.trans (World.drewN_drewN _ _ _) (congrArg (World.drewN _) (Nat.add_assoc _ _ _))⟩))))
  go_ret
  exact ⟨by first | rfl | (simp [errW_none, errW_some] <;> rfl) | (simp [*, errW_none, errW_some] <;> rfl), us_ HB.out⟩
 ·repeat (go_quiet (first | ((with_reducible refine gate_dst (N := 1) rfl ?_); refine box_event ?hg (N := 1) ?hd (cs := #[.int .i64 a0_0, .int .i64 a0_1, .int .i64 a0_2, .int .i64 a0_3]) (t := 29) ?hr ?_; (case hd => rfl); (case hg => rfl); (case hr => first | (go_simp; done) | (go_simp; rfl)); intro gb1400 hg w1401 hbox hb; have n0_ := mk_ (below_step (ub_ HB.out) hb); have BK107 := mk_ (hbox); have GW107 := mk_ ((by rw [hg]; exact (below_size (ub_ HB.out)) : w.heap.size ≤ gb1400)); have GE107 := ge_ ((by rw [hg]; exact (below_size (ub_ HB.out)) : w.heap.size ≤ gb1400)); replace HB := n0_; clear n0_; clear hb hbox hg; obtain ⟨hcz100107_0, hcz100107_1, hcz100107_2, hcz100107_3, hfz100107_0, hfz100107_1, hfz100107_2, hfz100107_3⟩ := cells4_ BK107.out) | (go_at_call 53; (with_reducible refine (spec_l1In.calls a0_1 0 16 true _ A2.out).mono ?_); rintro e w' ⟨rfl, ⟨nd, rfl⟩⟩; (try first | exact ⟨rfl, _, World.drewN_drewN _ _ _⟩ | exact ⟨rfl, _, Eq.trans (World.drewN_drewN _ _ _) (congrArg (World.drewN _) (Nat.add_assoc _ _ _))⟩)) | (go_at_call 53; (with_reducible refine (spec_l1In.calls a0_0 0 65535 true _ A4.out).mono ?_); rintro e w' ⟨rfl, ⟨nd, rfl⟩⟩; (try first | exact ⟨rfl, _, World.drewN_drewN _ _ _⟩ | exact ⟨rfl, _, Eq.trans (World.drewN_drewN _ _ _) (congrArg (World.drewN _) (Nat.add_assoc _ _ _))⟩)) | (go_at_call 123; (with_reducible refine (spec_l6Rest.calls a0_1 t110 _ A6.out).mono ?_); rintro e w' ⟨rfl, ⟨nd, rfl⟩⟩; (try first | exact ⟨rfl, _, World.drewN_drewN _ _ _⟩ | exact ⟨rfl, _, Eq.trans (World.drewN_drewN _ _ _) (congrArg (World.drewN _) (Nat.add_assoc _ _ _))⟩))); try go_wp2_with (first | ((with_reducible refine gate_dst (N := 1) rfl ?_); refine box_event ?hg (N := 1) ?hd (cs := #[.int .i64 a0_0, .int .i64 a0_1, .int .i64 a0_2, .int .i64 a0_3]) (t := 29) ?hr ?_; (case hd => rfl); (case hg => rfl); (case hr => first | (go_simp; done) | (go_simp; rfl)); intro gb1400 hg w1401 hbox hb; have n0_ := mk_ (below_step (ub_ HB.out) hb); have BK107 := mk_ (hbox); have GW107 := mk_ ((by rw [hg]; exact (below_size (ub_ HB.out)) : w.heap.size ≤ gb1400)); have GE107 := ge_ ((by rw [hg]; exact (below_size (ub_ HB.out)) : w.heap.size ≤ gb1400)); replace HB := n0_; clear n0_; clear hb hbox hg; obtain ⟨hcz100107_0, hcz100107_1, hcz100107_2, hcz100107_3, hfz100107_0, hfz100107_1, hfz100107_2, hfz100107_3⟩ := cells4_ BK107.out) | (go_at_call 53; (with_reducible refine (spec_l1In.calls a0_1 0 16 true _ A2.out).mono ?_); rintro e w' ⟨rfl, ⟨nd, rfl⟩⟩; (try first | exact ⟨rfl, _, World.drewN_drewN _ _ _⟩ | exact ⟨rfl, _, Eq.trans (World.drewN_drewN _ _ _) (congrArg (World.drewN _) (Nat.add_assoc _ _ _))⟩)) | (go_at_call 53; (with_reducible refine (spec_l1In.calls a0_0 0 65535 true _ A4.out).mono ?_); rintro e w' ⟨rfl, ⟨nd, rfl⟩⟩; (try first | exact ⟨rfl, _, World.drewN_drewN _ _ _⟩ | exact ⟨rfl, _, Eq.trans (World.drewN_drewN _ _ _) (congrArg (World.drewN _) (Nat.add_assoc _ _ _))⟩)) | (go_at_call 123; (with_reducible refine (spec_l6Rest.calls a0_1 t110 _ A6.out).mono ?_); rintro e w' ⟨rfl, ⟨nd, rfl⟩⟩; (try first | exact ⟨rfl, _, World.drewN_drewN _ _ _⟩ | exact ⟨rfl, _, Eq.trans (World.drewN_drewN _ _ _) (congrArg (World.drewN _) (Nat.add_assoc _ _ _))⟩))))
  go_ret
  exact ⟨by first | rfl | (simp [errW_none, errW_some] <;> rfl) | (simp [*, errW_none, errW_some] <;> rfl), us_ HB.out⟩
 ·repeat (go_quiet (first | ((with_reducible refine gate_dst (N := 1) rfl ?_); refine box_event ?hg (N := 1) ?hd (cs := #[.int .i64 a0_0, .int .i64 a0_1, .int .i64 a0_2, .int .i64 a0_3]) (t := 29) ?hr ?_; (case hd => rfl); (case hg => rfl); (case hr => first | (go_simp; done) | (go_simp; rfl)); intro gb1400 hg w1401 hbox hb; have n0_ := mk_ (below_step (ub_ HB.out) hb); have BK107 := mk_ (hbox); have GW107 := mk_ ((by rw [hg]; exact (below_size (ub_ HB.out)) : w.heap.size ≤ gb1400)); have GE107 := ge_ ((by rw [hg]; exact (below_size (ub_ HB.out)) : w.heap.size ≤ gb1400)); replace HB := n0_; clear n0_; clear hb hbox hg; obtain ⟨hcz100107_0, hcz100107_1, hcz100107_2, hcz100107_3, hfz100107_0, hfz100107_1, hfz100107_2, hfz100107_3⟩ := cells4_ BK107.out) | (go_at_call 53; (with_reducible refine (spec_l1In.calls a0_1 0 16 true _ A2.out).mono ?_); rintro e w' ⟨rfl, ⟨nd, rfl⟩⟩; (try first | exact ⟨rfl, _, World.drewN_drewN _ _ _⟩ | exact ⟨rfl, _, Eq.trans (World.drewN_drewN _ _ _) (congrArg (World.drewN _) (Nat.add_assoc _ _ _))⟩)) | (go_at_call 53; (with_reducible refine (spec_l1In.calls a0_0 0 65535 true _ A4.out).mono ?_); rintro e w' ⟨rfl, ⟨nd, rfl⟩⟩; (try first | exact ⟨rfl, _, World.drewN_drewN _ _ _⟩ | exact ⟨rfl, _, Eq.trans (World.drewN_drewN _ _ _) (congrArg (World.drewN _) (Nat.add_assoc _ _ _))⟩)) | (go_at_call 123; (with_reducible refine (spec_l6Rest.calls a0_1 t110 _ A6.out).mono ?_); rintro e w' ⟨rfl, ⟨nd, rfl⟩⟩; (try first | exact ⟨rfl, _, World.drewN_drewN _ _ _⟩ | exact ⟨rfl, _, Eq.trans (World.drewN_drewN _ _ _) (congrArg (World.drewN _) (Nat.add_assoc _ _ _))⟩)) | (go_at_call 53; (with_reducible refine (spec_l1In.calls a0_2 0 65535 false _ A9.out).mono ?_); rintro e w' ⟨rfl, ⟨nd, rfl⟩⟩; (try first | exact ⟨rfl, _, World.drewN_drewN _ _ _⟩ | exact ⟨rfl, _, Eq.trans (World.drewN_drewN _ _ _) (congrArg (World.drewN _) (Nat.add_assoc _ _ _))⟩))); try go_wp2_with (first | ((with_reducible refine gate_dst (N := 1) rfl ?_); refine box_event ?hg (N := 1) ?hd (cs := #[.int .i64 a0_0, .int .i64 a0_1, .int .i64 a0_2, .int .i64 a0_3]) (t := 29) ?hr ?_; (case hd => rfl); (case hg => rfl); (case hr => first | (go_simp; done) | (go_simp; rfl)); intro gb1400 hg w1401 hbox hb; have n0_ := mk_ (below_step (ub_ HB.out) hb); have BK107 := mk_ (hbox); have GW107 := mk_ ((by rw [hg]; exact (below_size (ub_ HB.out)) : w.heap.size ≤ gb1400)); have GE107 := ge_ ((by rw [hg]; exact (below_size (ub_ HB.out)) : w.heap.size ≤ gb1400)); replace HB := n0_; clear n0_; clear hb hbox hg; obtain ⟨hcz100107_0, hcz100107_1, hcz100107_2, hcz100107_3, hfz100107_0, hfz100107_1, hfz100107_2, hfz100107_3⟩ := cells4_ BK107.out) | (go_at_call 53; (with_reducible refine (spec_l1In.calls a0_1 0 16 true _ A2.out).mono ?_); rintro e w' ⟨rfl, ⟨nd, rfl⟩⟩; (try first | exact ⟨rfl, _, World.drewN_drewN _ _ _⟩ | exact ⟨rfl, _, Eq.trans (World.drewN_drewN _ _ _) (congrArg (World.drewN _) (Nat.add_assoc _ _ _))⟩)) | (go_at_call 53; (with_reducible refine (spec_l1In.calls a0_0 0 65535 true _ A4.out).mono ?_); rintro e w' ⟨rfl, ⟨nd, rfl⟩⟩; (try first | exact ⟨rfl, _, World.drewN_drewN _ _ _⟩ | exact ⟨rfl, _, Eq.trans (World.drewN_drewN _ _ _) (congrArg (World.drewN _) (Nat.add_assoc _ _ _))⟩)) | (go_at_call 123; (with_reducible refine (spec_l6Rest.calls a0_1 t110 _ A6.out).mono ?_); rintro e w' ⟨rfl, ⟨nd, rfl⟩⟩; (try first | exact ⟨rfl, _, World.drewN_drewN _ _ _⟩ | exact ⟨rfl, _, Eq.trans (World.drewN_drewN _ _ _) (congrArg (World.drewN _) (Nat.add_assoc _ _ _))⟩)) | (go_at_call 53; (with_reducible refine (spec_l1In.calls a0_2 0 65535 false _ A9.out).mono ?_); rintro e w' ⟨rfl, ⟨nd, rfl⟩⟩; (try first | exact ⟨rfl, _, World.drewN_drewN _ _ _⟩ | exact ⟨rfl, _, Eq.trans (World.drewN_drewN _ _ _) (congrArg (World.drewN _) (Nat.add_assoc _ _ _))⟩))))
  go_ret
  exact ⟨by first | rfl | (simp [errW_none, errW_some] <;> rfl) | (simp [*, errW_none, errW_some] <;> rfl), us_ HB.out⟩
 ·repeat (go_quiet (first | ((with_reducible refine gate_dst (N := 1) rfl ?_); refine box_event ?hg (N := 1) ?hd (cs := #[.int .i64 a0_0, .int .i64 a0_1, .int .i64 a0_2, .int .i64 a0_3]) (t := 29) ?hr ?_; (case hd => rfl); (case hg => rfl); (case hr => first | (go_simp; done) | (go_simp; rfl)); intro gb1400 hg w1401 hbox hb; have n0_ := mk_ (below_step (ub_ HB.out) hb); have BK107 := mk_ (hbox); have GW107 := mk_ ((by rw [hg]; exact (below_size (ub_ HB.out)) : w.heap.size ≤ gb1400)); have GE107 := ge_ ((by rw [hg]; exact (below_size (ub_ HB.out)) : w.heap.size ≤ gb1400)); replace HB := n0_; clear n0_; clear hb hbox hg; obtain ⟨hcz100107_0, hcz100107_1, hcz100107_2, hcz100107_3, hfz100107_0, hfz100107_1, hfz100107_2, hfz100107_3⟩ := cells4_ BK107.out) | (go_at_call 53; (with_reducible refine (spec_l1In.calls a0_1 0 16 true _ A2.out).mono ?_); rintro e w' ⟨rfl, ⟨nd, rfl⟩⟩; (try first | exact ⟨rfl, _, World.drewN_drewN _ _ _⟩ | exact ⟨rfl, _, Eq.trans (World.drewN_drewN _ _ _) (congrArg (World.drewN _) (Nat.add_assoc _ _ _))⟩)) | (go_at_call 53; (with_reducible refine (spec_l1In.calls a0_0 0 65535 true _ A4.out).mono ?_); rintro e w' ⟨rfl, ⟨nd, rfl⟩⟩; (try first | exact ⟨rfl, _, World.drewN_drewN _ _ _⟩ | exact ⟨rfl, _, Eq.trans (World.drewN_drewN _ _ _) (congrArg (World.drewN _) (Nat.add_assoc _ _ _))⟩)) | (go_at_call 123; (with_reducible refine (spec_l6Rest.calls a0_1 t110 _ A6.out).mono ?_); rintro e w' ⟨rfl, ⟨nd, rfl⟩⟩; (try first | exact ⟨rfl, _, World.drewN_drewN _ _ _⟩ | exact ⟨rfl, _, Eq.trans (World.drewN_drewN _ _ _) (congrArg (World.drewN _) (Nat.add_assoc _ _ _))⟩)) | (go_at_call 53; (with_reducible refine (spec_l1In.calls a0_2 0 65535 true _ A9.out).mono ?_); rintro e w' ⟨rfl, ⟨nd, rfl⟩⟩; (try first | exact ⟨rfl, _, World.drewN_drewN _ _ _⟩ | exact ⟨rfl, _, Eq.trans (World.drewN_drewN _ _ _) (congrArg (World.drewN _) (Nat.add_assoc _ _ _))⟩)) | (go_at_call 53; (with_reducible refine (spec_l1In.calls a0_3 1 48 t112 _ A11.out).mono ?_); rintro e w' ⟨rfl, ⟨nd, rfl⟩⟩; (try first | exact ⟨rfl, _, World.drewN_drewN _ _ _⟩ | exact ⟨rfl, _, Eq.trans (World.drewN_drewN _ _ _) (congrArg (World.drewN _) (Nat.add_assoc _ _ _))⟩))); try go_wp2_with (first | ((with_reducible refine gate_dst (N := 1) rfl ?_); refine box_event ?hg (N := 1) ?hd (cs := #[.int .i64 a0_0, .int .i64 a0_1, .int .i64 a0_2, .int .i64 a0_3]) (t := 29) ?hr ?_; (case hd => rfl); (case hg => rfl); (case hr => first | (go_simp; done) | (go_simp; rfl)); intro gb1400 hg w1401 hbox hb; have n0_ := mk_ (below_step (ub_ HB.out) hb); have BK107 := mk_ (hbox); have GW107 := mk_ ((by rw [hg]; exact (below_size (ub_ HB.out)) : w.heap.size ≤ gb1400)); have GE107 := ge_ ((by rw [hg]; exact (below_size (ub_ HB.out)) : w.heap.size ≤ gb1400)); replace HB := n0_; clear n0_; clear hb hbox hg; obtain ⟨hcz100107_0, hcz100107_1, hcz100107_2, hcz100107_3, hfz100107_0, hfz100107_1, hfz100107_2, hfz100107_3⟩ := cells4_ BK107.out) | (go_at_call 53; (with_reducible refine (spec_l1In.calls a0_1 0 16 true _ A2.out).mono ?_); rintro e w' ⟨rfl, ⟨nd, rfl⟩⟩; (try first | exact ⟨rfl, _, World.drewN_drewN _ _ _⟩ | exact ⟨rfl, _, Eq.trans (World.drewN_drewN _ _ _) (congrArg (World.drewN _) (Nat.add_assoc _ _ _))⟩)) | (go_at_call 53; (with_reducible refine (spec_l1In.calls a0_0 0 65535 true _ A4.out).mono ?_); rintro e w' ⟨rfl, ⟨nd, rfl⟩⟩; (try first | exact ⟨rfl, _, World.drewN_drewN _ _ _⟩ | exact ⟨rfl, _, Eq.trans (World.drewN_drewN _ _ _) (congrArg (World.drewN _) (Nat.add_assoc _ _ _))⟩)) | (go_at_call 123; (with_reducible refine (spec_l6Rest.calls a0_1 t110 _ A6.out).mono ?_); rintro e w' ⟨rfl, ⟨nd, rfl⟩⟩; (try first | exact ⟨rfl, _, World.drewN_drewN _ _ _⟩ | exact ⟨rfl, _, Eq.trans (World.drewN_drewN _ _ _) (congrArg (World.drewN _) (Nat.add_assoc _ _ _))⟩)) | (go_at_call 53; (with_reducible refine (spec_l1In.calls a0_2 0 65535 true _ A9.out).mono ?_); rintro e w' ⟨rfl, ⟨nd, rfl⟩⟩; (try first | exact ⟨rfl, _, World.drewN_drewN _ _ _⟩ | exact ⟨rfl, _, Eq.trans (World.drewN_drewN _ _ _) (congrArg (World.drewN _) (Nat.add_assoc _ _ _))⟩)) | (go_at_call 53; (with_reducible refine (spec_l1In.calls a0_3 1 48 t112 _ A11.out).mono ?_); rintro e w' ⟨rfl, ⟨nd, rfl⟩⟩; (try first | exact ⟨rfl, _, World.drewN_drewN _ _ _⟩ | exact ⟨rfl, _, Eq.trans (World.drewN_drewN _ _ _) (congrArg (World.drewN _) (Nat.add_assoc _ _ _))⟩))))
  go_ret
  exact ⟨by first | rfl | (simp [errW_none, errW_some] <;> rfl) | (simp [*, errW_none, errW_some] <;> rfl), us_ HB.out⟩

/-! ### spec_RoutesOk: function 84 -/
def spec_RoutesOk.l0 : Nat → List (S29) → Int → Option (Bool)
 | 0, _, _ => none
 | k + 1, x0, x3 => if x3 < (x0.length : Int) then (if 0 ≤ x3 then ((spec_RouteOk.f ((rd_T29 x0 x3).f0) ((rd_T29 x0 x3).f1) ((rd_T29 x0 x3).f2) ((rd_T29 x0 x3).f3)).bind fun t114 => (if t114 = true then (if x3 > 0 then (if 0 ≤ (wrap64 (x3 - 1)) then (if (wrap64 (x3 - 1)) < (x0.length : Int) then (if ((rd_T29 x0 (wrap64 (x3 - 1))).f1) > ((rd_T29 x0 x3).f1) then (some false) else (if ((rd_T29 x0 (wrap64 (x3 - 1))).f1) = ((rd_T29 x0 x3).f1) then (if ((rd_T29 x0 (wrap64 (x3 - 1))).f0) ≥ ((rd_T29 x0 x3).f0) then (some false) else (spec_RoutesOk.l0 k x0 (wrap64 (x3 + 1)))) else (spec_RoutesOk.l0 k x0 (wrap64 (x3 + 1))))) else (none)) else (none)) else (spec_RoutesOk.l0 k x0 (wrap64 (x3 + 1)))) else (some false))) else (none)) else (some (decide ((x0.length : Int) ≤ 8)))
def spec_RoutesOk.f (k : Nat) (l0 : List (S29)) : Option (Bool) := spec_RoutesOk.l0 k l0 0
theorem spec_RoutesOk.mono_l : ∀ k, (∀ y0 y1, LeO (spec_RoutesOk.l0 k y0 y1) (spec_RoutesOk.l0 (k + 1) y0 y1))
 | 0 => fun _ _ r h => by simp [spec_RoutesOk.l0] at h
 | k + 1 => by
  have ih0 := spec_RoutesOk.mono_l k
  ·intro y0 y1
   unfold spec_RoutesOk.l0
   repeat' first
   | (with_reducible exact ih0 _ _)
   | (with_reducible exact LeO.refl _)
   | (with_reducible exact LeO.none _)
   | (with_reducible refine LeO.ite ?_ ?_)
   | (with_reducible refine LeO.bind ?_ (fun _ => ?_))
   | exact ih0 _ _
   | exact LeO.none _
   | refine LeO.ite ?_ ?_
   | refine LeO.bind ?_ (fun _ => ?_)
theorem spec_RoutesOk.mono : ∀ a0 k, LeO (spec_RoutesOk.f k a0) (spec_RoutesOk.f (k + 1) a0) := by
 intro a0 k
 have ih0 := spec_RoutesOk.mono_l k
 unfold spec_RoutesOk.f
 repeat' first
   | (with_reducible exact ih0 _ _)
   | (with_reducible exact LeO.refl _)
   | (with_reducible exact LeO.none _)
   | (with_reducible refine LeO.ite ?_ ?_)
   | (with_reducible refine LeO.bind ?_ (fun _ => ?_))
   | exact ih0 _ _
   | exact LeO.none _
   | refine LeO.ite ?_ ?_
   | refine LeO.bind ?_ (fun _ => ?_)
set_option maxHeartbeats 8000000 in
set_option maxRecDepth 100000 in
theorem spec_RoutesOk.calls (k : Nat) (A0 : Option Addr) (c0 : Nat) (l0 : List (S29)) (r : Bool) (w : World) (hr0 : Kd.C k29 w A0 l0.length l0) (hc0 : l0.length ≤ c0) (h : spec_RoutesOk.f k l0 = some r) :
  Calls Try.prog 84 #[.slice A0 l0.length c0] w fun e w' => e = .returned (.bool r) ∧ Below w.heap.size w w' := by
 have hu29 := Try.underlying29
 have HR0 := mk_ hr0
 have HC0 := mk_ hc0
 clear hr0 hc0
 have HB := mk_ (Below.refl w.heap.size w)
 have H : (spec_RoutesOk.l0 k l0 0) = some r := h
 clear h
 have H' := mk_ H
 clear H
 go_enter Try.func84, Try.ntmps84
 go_wp2
 repeat (go_quiet (fail); try go_wp2)
 go_loopg [3] k (fun kq v3 w' => ∃ (x3_1 : Int), v3 = .int .i64 x3_1 ∧ Aside0 (spec_RoutesOk.l0 kq l0 x3_1 = some r) ∧ Aside0 (kq ≤ k) ∧ Aside0 (Below w.heap.size w w'))
 case atStart => exact ⟨(0), (by first | rfl | (simp; done) | (simp [*]; done)), H', ⟨Nat.le_refl _⟩, ⟨ub_ HB.out⟩⟩
 case round =>
  clear H'
  obtain ⟨x3_1, rfl, HA, HK1, HB⟩ := hrel
  cases gk with
  | zero => exact absurd HA.out (by simp [spec_RoutesOk.l0])
  | succ k1 =>
   have H := HA.out
   clear HA
   simp only [spec_RoutesOk.l0] at H
   by_cases c2 : x3_1 < (l0.length : Int)
   rotate_left
   focus
    rw [if_neg c2] at H
    have c2b0 : decide (x3_1 < (l0.length : Int)) = false := decide_eq_false c2
    clear c2
    obtain rfl := Option.some.inj H
   rotate_left
   focus
    rw [if_pos c2] at H
    have c2b0 : decide (x3_1 < (l0.length : Int)) = true := decide_eq_true c2
    clear c2
    by_cases c3 : 0 ≤ x3_1
    rotate_left
    ·rw [if_neg c3] at H
     exact absurd H (by simp)
    rw [if_pos c3] at H
    have c3b0 : decide (0 ≤ x3_1) = true := decide_eq_true c3
    clear c3
    replace H := Option.bind_eq_some_iff.mp H
    obtain ⟨t114, A40, H⟩ := H
    (try dsimp only at H)
    have A4 := mk_ A40
    clear A40
    by_cases c5 : t114 = true
    rotate_left
    focus
     replace c5 := Bool.eq_false_iff.mpr c5
     subst c5
     have H1 : (some false) = some r := by rw [if_neg (show ¬ (false = true) by decide)] at H; exact H
     clear H
     have H := H1
     clear H1
     obtain rfl := Option.some.inj H
     have p113 : 0 ≤ (x3_1 : Int) := of_decide_eq_true (by first | (with_reducible assumption) | assumption)
     have q113 : x3_1 < (l0.length : Int) := of_decide_eq_true (by first | (with_reducible assumption) | assumption)
     obtain ⟨ad113, e113, hx113_0, hx113_1, hx113_2, hx113_3⟩ := at_T29 HR0.out x3_1 p113 q113
     cases e113
     replace hx113_0 := (HB.out.cell (lc_ w _ hx113_0)).trans hx113_0
     replace hx113_1 := (HB.out.cell (lc_ w _ hx113_1)).trans hx113_1
     replace hx113_2 := (HB.out.cell (lc_ w _ hx113_2)).trans hx113_2
     replace hx113_3 := (HB.out.cell (lc_ w _ hx113_3)).trans hx113_3
     replace p113 := eq_true p113
     replace q113 := eq_true q113
    rotate_left
    focus
     subst c5
     rw [if_pos rfl] at H
     by_cases c6 : x3_1 > 0
     rotate_left
     focus
      rw [if_neg c6] at H
      have c6b0 : decide (0 < x3_1) = false := decide_eq_false c6
      clear c6
      have H' := mk_ H
      clear H
      have p113 : 0 ≤ (x3_1 : Int) := of_decide_eq_true (by first | (with_reducible assumption) | assumption)
      have q113 : x3_1 < (l0.length : Int) := of_decide_eq_true (by first | (with_reducible assumption) | assumption)
      obtain ⟨ad113, e113, hx113_0, hx113_1, hx113_2, hx113_3⟩ := at_T29 HR0.out x3_1 p113 q113
      cases e113
      replace hx113_0 := (HB.out.cell (lc_ w _ hx113_0)).trans hx113_0
      replace hx113_1 := (HB.out.cell (lc_ w _ hx113_1)).trans hx113_1
      replace hx113_2 := (HB.out.cell (lc_ w _ hx113_2)).trans hx113_2
      replace hx113_3 := (HB.out.cell (lc_ w _ hx113_3)).trans hx113_3
      replace p113 := eq_true p113
      replace q113 := eq_true q113
     rotate_left
     focus
      rw [if_pos c6] at H
      have c6b0 : decide (0 < x3_1) = true := decide_eq_true c6
      clear c6
      obtain ⟨ji7, hji7⟩ : ∃ j_ : Int, (wrap64 (x3_1 - 1)) = j_ := ⟨_, rfl⟩
      replace H : (if 0 ≤ (ji7) then (if (ji7) < (l0.length : Int) then (if ((rd_T29 l0 (ji7)).f1) > ((rd_T29 l0 x3_1).f1) then (some false) else (if ((rd_T29 l0 (ji7)).f1) = ((rd_T29 l0 x3_1).f1) then (if ((rd_T29 l0 (ji7)).f0) ≥ ((rd_T29 l0 x3_1).f0) then (some false) else (spec_RoutesOk.l0 k1 l0 (wrap64 (x3_1 + 1)))) else (spec_RoutesOk.l0 k1 l0 (wrap64 (x3_1 + 1))))) else (none)) else (none)) = some r := by first | (rw [hji7] at H; exact H) | (simp only [hji7] at H ⊢; exact H)
      (try rw [hji7] at A4)
      have hji7w : (IntKind.i64.wrap (x3_1 - 1)) = ji7 := (i64_w _).trans hji7
      by_cases c8 : 0 ≤ (ji7)
      rotate_left
      ·rw [if_neg c8] at H
       exact absurd H (by simp)
      rw [if_pos c8] at H
      have c8b0 : decide (0 ≤ (ji7)) = true := decide_eq_true c8
      clear c8
      by_cases c9 : (ji7) < (l0.length : Int)
      rotate_left
      ·rw [if_neg c9] at H
       exact absurd H (by simp)
      rw [if_pos c9] at H
      have c9b0 : decide ((ji7) < (l0.length : Int)) = true := decide_eq_true c9
      clear c9
      by_cases c10 : ((rd_T29 l0 (ji7)).f1) > ((rd_T29 l0 x3_1).f1)
      focus
       rw [if_pos c10] at H
       have c10b0 : decide (((rd_T29 l0 x3_1).f1) < ((rd_T29 l0 (ji7)).f1)) = true := decide_eq_true c10
       clear c10
       obtain rfl := Option.some.inj H
       have p113 : 0 ≤ (x3_1 : Int) := of_decide_eq_true (by first | (with_reducible assumption) | assumption)
       have q113 : x3_1 < (l0.length : Int) := of_decide_eq_true (by first | (with_reducible assumption) | assumption)
       obtain ⟨ad113, e113, hx113_0, hx113_1, hx113_2, hx113_3⟩ := at_T29 HR0.out x3_1 p113 q113
       cases e113
       replace hx113_0 := (HB.out.cell (lc_ w _ hx113_0)).trans hx113_0
       replace hx113_1 := (HB.out.cell (lc_ w _ hx113_1)).trans hx113_1
       replace hx113_2 := (HB.out.cell (lc_ w _ hx113_2)).trans hx113_2
       replace hx113_3 := (HB.out.cell (lc_ w _ hx113_3)).trans hx113_3
       replace p113 := eq_true p113
       replace q113 := eq_true q113
      rotate_left
      focus
       rw [if_neg c10] at H
       have c10b0 : decide (((rd_T29 l0 x3_1).f1) < ((rd_T29 l0 (ji7)).f1)) = false := decide_eq_false c10
       clear c10
       by_cases c12 : ((rd_T29 l0 (ji7)).f1) = ((rd_T29 l0 x3_1).f1)
       rotate_left
       focus
        rw [if_neg c12] at H
        have c12b0 : (((rd_T29 l0 (ji7)).f1) == ((rd_T29 l0 x3_1).f1)) = false := beq_eq_false_iff_ne.mpr c12
        have c12b1 : (((rd_T29 l0 (ji7)).f1) != ((rd_T29 l0 x3_1).f1)) = true := bne_iff_ne.mpr c12
        have H' := mk_ H
        clear H
        have p113 : 0 ≤ (x3_1 : Int) := of_decide_eq_true (by first | (with_reducible assumption) | assumption)
        have q113 : x3_1 < (l0.length : Int) := of_decide_eq_true (by first | (with_reducible assumption) | assumption)
        obtain ⟨ad113, e113, hx113_0, hx113_1, hx113_2, hx113_3⟩ := at_T29 HR0.out x3_1 p113 q113
        cases e113
        replace hx113_0 := (HB.out.cell (lc_ w _ hx113_0)).trans hx113_0
        replace hx113_1 := (HB.out.cell (lc_ w _ hx113_1)).trans hx113_1
        replace hx113_2 := (HB.out.cell (lc_ w _ hx113_2)).trans hx113_2
        replace hx113_3 := (HB.out.cell (lc_ w _ hx113_3)).trans hx113_3
        replace p113 := eq_true p113
        replace q113 := eq_true q113
       rotate_left
       focus
        rw [if_pos c12] at H
        have c12b0 : (((rd_T29 l0 (ji7)).f1) == ((rd_T29 l0 x3_1).f1)) = true := beq_iff_eq.mpr c12
        have c12b1 : (((rd_T29 l0 (ji7)).f1) != ((rd_T29 l0 x3_1).f1)) = false := bne_eq_false_iff_eq.mpr c12
        clear c12
        by_cases c13 : ((rd_T29 l0 (ji7)).f0) ≥ ((rd_T29 l0 x3_1).f0)
        focus
         rw [if_pos c13] at H
         have c13b0 : decide (((rd_T29 l0 x3_1).f0) ≤ ((rd_T29 l0 (ji7)).f0)) = true := decide_eq_true c13
         clear c13
         obtain rfl := Option.some.inj H
         have p113 : 0 ≤ (x3_1 : Int) := of_decide_eq_true (by first | (with_reducible assumption) | assumption)
         have q113 : x3_1 < (l0.length : Int) := of_decide_eq_true (by first | (with_reducible assumption) | assumption)
         obtain ⟨ad113, e113, hx113_0, hx113_1, hx113_2, hx113_3⟩ := at_T29 HR0.out x3_1 p113 q113
         cases e113
         replace hx113_0 := (HB.out.cell (lc_ w _ hx113_0)).trans hx113_0
         replace hx113_1 := (HB.out.cell (lc_ w _ hx113_1)).trans hx113_1
         replace hx113_2 := (HB.out.cell (lc_ w _ hx113_2)).trans hx113_2
         replace hx113_3 := (HB.out.cell (lc_ w _ hx113_3)).trans hx113_3
         replace p113 := eq_true p113
         replace q113 := eq_true q113
        rotate_left
        focus
         rw [if_neg c13] at H
         have c13b0 : decide (((rd_T29 l0 x3_1).f0) ≤ ((rd_T29 l0 (ji7)).f0)) = false := decide_eq_false c13
         clear c13
         have H' := mk_ H
         clear H
         have p113 : 0 ≤ (x3_1 : Int) := of_decide_eq_true (by first | (with_reducible assumption) | assumption)
         have q113 : x3_1 < (l0.length : Int) := of_decide_eq_true (by first | (with_reducible assumption) | assumption)
         obtain ⟨ad113, e113, hx113_0, hx113_1, hx113_2, hx113_3⟩ := at_T29 HR0.out x3_1 p113 q113
         cases e113
         replace hx113_0 := (HB.out.cell (lc_ w _ hx113_0)).trans hx113_0
         replace hx113_1 := (HB.out.cell (lc_ w _ hx113_1)).trans hx113_1
         replace hx113_2 := (HB.out.cell (lc_ w _ hx113_2)).trans hx113_2
         replace hx113_3 := (HB.out.cell (lc_ w _ hx113_3)).trans hx113_3
         replace p113 := eq_true p113
         replace q113 := eq_true q113
        rotate_left
       rotate_left 2
      rotate_left 3
     rotate_left 4
    rotate_left 5
   rotate_left 6
   rotate_left
   have z1_ := trivial
   rotate_left
   have z2_ := trivial
   rotate_left
   have z3_ := trivial
   rotate_left
   have z4_ := trivial
   rotate_left
   have z5_ := trivial
   rotate_left
   have z5_ := trivial
   rotate_left
   all_goals
    go_wp2_with (first | (have zz_ := z1_; clear zz_; go_at_call 117; (with_reducible refine (spec_RouteOk.calls ((rd_T29 l0 x3_1).f0) ((rd_T29 l0 x3_1).f1) ((rd_T29 l0 x3_1).f2) ((rd_T29 l0 x3_1).f3) false _ A4.out).mono ?_); rintro e w1800 ⟨rfl, hb⟩; replace HB := mk_ (below_step (ub_ HB.out) hb)) | (have zz_ := z2_; clear zz_; go_at_call 117; (with_reducible refine (spec_RouteOk.calls ((rd_T29 l0 x3_1).f0) ((rd_T29 l0 x3_1).f1) ((rd_T29 l0 x3_1).f2) ((rd_T29 l0 x3_1).f3) true _ A4.out).mono ?_); rintro e w1800 ⟨rfl, hb⟩; replace HB := mk_ (below_step (ub_ HB.out) hb)) | (have zz_ := z3_; clear zz_; go_at_call 117; (with_reducible refine (spec_RouteOk.calls ((rd_T29 l0 x3_1).f0) ((rd_T29 l0 x3_1).f1) ((rd_T29 l0 x3_1).f2) ((rd_T29 l0 x3_1).f3) true _ A4.out).mono ?_); rintro e w1800 ⟨rfl, hb⟩; replace HB := mk_ (below_step (ub_ HB.out) hb); have p1801 : 0 ≤ ((ji7) : Int) := of_decide_eq_true (by first | (with_reducible assumption) | assumption); have q1801 : (ji7) < (l0.length : Int) := of_decide_eq_true (by first | (with_reducible assumption) | assumption); obtain ⟨ad1801, e1801, hx115_0, hx115_1, hx115_2, hx115_3⟩ := at_T29 HR0.out (ji7) p1801 q1801; obtain rfl : ad113 = ad1801 := (by injection e1801); replace hx115_0 := (HB.out.cell (lc_ w _ hx115_0)).trans hx115_0; replace hx115_1 := (HB.out.cell (lc_ w _ hx115_1)).trans hx115_1; replace hx115_2 := (HB.out.cell (lc_ w _ hx115_2)).trans hx115_2; replace hx115_3 := (HB.out.cell (lc_ w _ hx115_3)).trans hx115_3; replace p1801 := eq_true p1801; replace q1801 := eq_true q1801; have p1802 : 0 ≤ (x3_1 : Int) := of_decide_eq_true (by first | (with_reducible assumption) | assumption); have q1802 : x3_1 < (l0.length : Int) := of_decide_eq_true (by first | (with_reducible assumption) | assumption); obtain ⟨ad1802, e1802, hx116_0, hx116_1, hx116_2, hx116_3⟩ := at_T29 HR0.out x3_1 p1802 q1802; obtain rfl : ad113 = ad1802 := (by injection e1802); replace hx116_0 := (HB.out.cell (lc_ w _ hx116_0)).trans hx116_0; replace hx116_1 := (HB.out.cell (lc_ w _ hx116_1)).trans hx116_1; replace hx116_2 := (HB.out.cell (lc_ w _ hx116_2)).trans hx116_2; replace hx116_3 := (HB.out.cell (lc_ w _ hx116_3)).trans hx116_3; replace p1802 := eq_true p1802; replace q1802 := eq_true q1802) | (have zz_ := z4_; clear zz_; go_at_call 117; (with_reducible refine (spec_RouteOk.calls ((rd_T29 l0 x3_1).f0) ((rd_T29 l0 x3_1).f1) ((rd_T29 l0 x3_1).f2) ((rd_T29 l0 x3_1).f3) true _ A4.out).mono ?_); rintro e w1800 ⟨rfl, hb⟩; replace HB := mk_ (below_step (ub_ HB.out) hb); have p1801 : 0 ≤ ((ji7) : Int) := of_decide_eq_true (by first | (with_reducible assumption) | assumption); have q1801 : (ji7) < (l0.length : Int) := of_decide_eq_true (by first | (with_reducible assumption) | assumption); obtain ⟨ad1801, e1801, hx115_0, hx115_1, hx115_2, hx115_3⟩ := at_T29 HR0.out (ji7) p1801 q1801; obtain rfl : ad113 = ad1801 := (by injection e1801); replace hx115_0 := (HB.out.cell (lc_ w _ hx115_0)).trans hx115_0; replace hx115_1 := (HB.out.cell (lc_ w _ hx115_1)).trans hx115_1; replace hx115_2 := (HB.out.cell (lc_ w _ hx115_2)).trans hx115_2; replace hx115_3 := (HB.out.cell (lc_ w _ hx115_3)).trans hx115_3; replace p1801 := eq_true p1801; replace q1801 := eq_true q1801; have p1802 : 0 ≤ (x3_1 : Int) := of_decide_eq_true (by first | (with_reducible assumption) | assumption); have q1802 : x3_1 < (l0.length : Int) := of_decide_eq_true (by first | (with_reducible assumption) | assumption); obtain ⟨ad1802, e1802, hx116_0, hx116_1, hx116_2, hx116_3⟩ := at_T29 HR0.out x3_1 p1802 q1802; obtain rfl : ad113 = ad1802 := (by injection e1802); replace hx116_0 := (HB.out.cell (lc_ w _ hx116_0)).trans hx116_0; replace hx116_1 := (HB.out.cell (lc_ w _ hx116_1)).trans hx116_1; replace hx116_2 := (HB.out.cell (lc_ w _ hx116_2)).trans hx116_2; replace hx116_3 := (HB.out.cell (lc_ w _ hx116_3)).trans hx116_3; replace p1802 := eq_true p1802; replace q1802 := eq_true q1802; have p1803 : 0 ≤ ((ji7) : Int) := of_decide_eq_true (by first | (with_reducible assumption) | assumption); have q1803 : (ji7) < (l0.length : Int) := of_decide_eq_true (by first | (with_reducible assumption) | assumption); obtain ⟨ad1803, e1803, hx117_0, hx117_1, hx117_2, hx117_3⟩ := at_T29 HR0.out (ji7) p1803 q1803; obtain rfl : ad113 = ad1803 := (by injection e1803); replace hx117_0 := (HB.out.cell (lc_ w _ hx117_0)).trans hx117_0; replace hx117_1 := (HB.out.cell (lc_ w _ hx117_1)).trans hx117_1; replace hx117_2 := (HB.out.cell (lc_ w _ hx117_2)).trans hx117_2; replace hx117_3 := (HB.out.cell (lc_ w _ hx117_3)).trans hx117_3; replace p1803 := eq_true p1803; replace q1803 := eq_true q1803; have p1804 : 0 ≤ (x3_1 : Int) := of_decide_eq_true (by first | (with_reducible assumption) | assumption); have q1804 : x3_1 < (l0.length : Int) := of_decide_eq_true (by first | (with_reducible assumption) | assumption); obtain ⟨ad1804, e1804, hx118_0, hx118_1, hx118_2, hx118_3⟩ := at_T29 HR0.out x3_1 p1804 q1804; obtain rfl : ad113 = ad1804 := (by injection e1804); replace hx118_0 := (HB.out.cell (lc_ w _ hx118_0)).trans hx118_0; replace hx118_1 := (HB.out.cell (lc_ w _ hx118_1)).trans hx118_1; replace hx118_2 := (HB.out.cell (lc_ w _ hx118_2)).trans hx118_2; replace hx118_3 := (HB.out.cell (lc_ w _ hx118_3)).trans hx118_3; replace p1804 := eq_true p1804; replace q1804 := eq_true q1804) | (have zz_ := z5_; clear zz_; go_at_call 117; (with_reducible refine (spec_RouteOk.calls ((rd_T29 l0 x3_1).f0) ((rd_T29 l0 x3_1).f1) ((rd_T29 l0 x3_1).f2) ((rd_T29 l0 x3_1).f3) true _ A4.out).mono ?_); rintro e w1800 ⟨rfl, hb⟩; replace HB := mk_ (below_step (ub_ HB.out) hb); have p1801 : 0 ≤ ((ji7) : Int) := of_decide_eq_true (by first | (with_reducible assumption) | assumption); have q1801 : (ji7) < (l0.length : Int) := of_decide_eq_true (by first | (with_reducible assumption) | assumption); obtain ⟨ad1801, e1801, hx115_0, hx115_1, hx115_2, hx115_3⟩ := at_T29 HR0.out (ji7) p1801 q1801; obtain rfl : ad113 = ad1801 := (by injection e1801); replace hx115_0 := (HB.out.cell (lc_ w _ hx115_0)).trans hx115_0; replace hx115_1 := (HB.out.cell (lc_ w _ hx115_1)).trans hx115_1; replace hx115_2 := (HB.out.cell (lc_ w _ hx115_2)).trans hx115_2; replace hx115_3 := (HB.out.cell (lc_ w _ hx115_3)).trans hx115_3; replace p1801 := eq_true p1801; replace q1801 := eq_true q1801; have p1802 : 0 ≤ (x3_1 : Int) := of_decide_eq_true (by first | (with_reducible assumption) | assumption); have q1802 : x3_1 < (l0.length : Int) := of_decide_eq_true (by first | (with_reducible assumption) | assumption); obtain ⟨ad1802, e1802, hx116_0, hx116_1, hx116_2, hx116_3⟩ := at_T29 HR0.out x3_1 p1802 q1802; obtain rfl : ad113 = ad1802 := (by injection e1802); replace hx116_0 := (HB.out.cell (lc_ w _ hx116_0)).trans hx116_0; replace hx116_1 := (HB.out.cell (lc_ w _ hx116_1)).trans hx116_1; replace hx116_2 := (HB.out.cell (lc_ w _ hx116_2)).trans hx116_2; replace hx116_3 := (HB.out.cell (lc_ w _ hx116_3)).trans hx116_3; replace p1802 := eq_true p1802; replace q1802 := eq_true q1802; have p1803 : 0 ≤ ((ji7) : Int) := of_decide_eq_true (by first | (with_reducible assumption) | assumption); have q1803 : (ji7) < (l0.length : Int) := of_decide_eq_true (by first | (with_reducible assumption) | assumption); obtain ⟨ad1803, e1803, hx117_0, hx117_1, hx117_2, hx117_3⟩ := at_T29 HR0.out (ji7) p1803 q1803; obtain rfl : ad113 = ad1803 := (by injection e1803); replace hx117_0 := (HB.out.cell (lc_ w _ hx117_0)).trans hx117_0; replace hx117_1 := (HB.out.cell (lc_ w _ hx117_1)).trans hx117_1; replace hx117_2 := (HB.out.cell (lc_ w _ hx117_2)).trans hx117_2; replace hx117_3 := (HB.out.cell (lc_ w _ hx117_3)).trans hx117_3; replace p1803 := eq_true p1803; replace q1803 := eq_true q1803; have p1804 : 0 ≤ (x3_1 : Int) := of_decide_eq_true (by first | (with_reducible assumption) | assumption); have q1804 : x3_1 < (l0.length : Int) := of_decide_eq_true (by first | (with_reducible assumption) | assumption); obtain ⟨ad1804, e1804, hx118_0, hx118_1, hx118_2, hx118_3⟩ := at_T29 HR0.out x3_1 p1804 q1804; obtain rfl : ad113 = ad1804 := (by injection e1804); replace hx118_0 := (HB.out.cell (lc_ w _ hx118_0)).trans hx118_0; replace hx118_1 := (HB.out.cell (lc_ w _ hx118_1)).trans hx118_1; replace hx118_2 := (HB.out.cell (lc_ w _ hx118_2)).trans hx118_2; replace hx118_3 := (HB.out.cell (lc_ w _ hx118_3)).trans hx118_3; replace p1804 := eq_true p1804; replace q1804 := eq_true q1804; have p1805 : 0 ≤ ((ji7) : Int) := of_decide_eq_true (by first | (with_reducible assumption) | assumption); have q1805 : (ji7) < (l0.length : Int) := of_decide_eq_true (by first | (with_reducible assumption) | assumption); obtain ⟨ad1805, e1805, hx119_0, hx119_1, hx119_2, hx119_3⟩ := at_T29 HR0.out (ji7) p1805 q1805; obtain rfl : ad113 = ad1805 := (by injection e1805); replace hx119_0 := (HB.out.cell (lc_ w _ hx119_0)).trans hx119_0; replace hx119_1 := (HB.out.cell (lc_ w _ hx119_1)).trans hx119_1; replace hx119_2 := (HB.out.cell (lc_ w _ hx119_2)).trans hx119_2; replace hx119_3 := (HB.out.cell (lc_ w _ hx119_3)).trans hx119_3; replace p1805 := eq_true p1805; replace q1805 := eq_true q1805; have p1806 : 0 ≤ (x3_1 : Int) := of_decide_eq_true (by first | (with_reducible assumption) | assumption); have q1806 : x3_1 < (l0.length : Int) := of_decide_eq_true (by first | (with_reducible assumption) | assumption); obtain ⟨ad1806, e1806, hx120_0, hx120_1, hx120_2, hx120_3⟩ := at_T29 HR0.out x3_1 p1806 q1806; obtain rfl : ad113 = ad1806 := (by injection e1806); replace hx120_0 := (HB.out.cell (lc_ w _ hx120_0)).trans hx120_0; replace hx120_1 := (HB.out.cell (lc_ w _ hx120_1)).trans hx120_1; replace hx120_2 := (HB.out.cell (lc_ w _ hx120_2)).trans hx120_2; replace hx120_3 := (HB.out.cell (lc_ w _ hx120_3)).trans hx120_3; replace p1806 := eq_true p1806; replace q1806 := eq_true q1806))
   ·repeat (go_quiet (fail); try go_wp2)
    go_ret
    exact ⟨by first | rfl | (simp [errW_none, errW_some] <;> rfl) | (simp [*, errW_none, errW_some] <;> rfl), by repeat (first | (with_reducible first | exact HB.out | apply na_ | apply nn_ | apply nw_) | exact HB.out)⟩
   ·repeat (go_quiet (first | (go_at_call 117; (with_reducible refine (spec_RouteOk.calls ((rd_T29 l0 x3_1).f0) ((rd_T29 l0 x3_1).f1) ((rd_T29 l0 x3_1).f2) ((rd_T29 l0 x3_1).f3) false _ A4.out).mono ?_); rintro e w1800 ⟨rfl, hb⟩; replace HB := mk_ (below_step (ub_ HB.out) hb))); try go_wp2_with (first | (go_at_call 117; (with_reducible refine (spec_RouteOk.calls ((rd_T29 l0 x3_1).f0) ((rd_T29 l0 x3_1).f1) ((rd_T29 l0 x3_1).f2) ((rd_T29 l0 x3_1).f3) false _ A4.out).mono ?_); rintro e w1800 ⟨rfl, hb⟩; replace HB := mk_ (below_step (ub_ HB.out) hb))))
    go_ret
    exact ⟨by first | rfl | (simp [errW_none, errW_some] <;> rfl) | (simp [*, errW_none, errW_some] <;> rfl), by repeat (first | (with_reducible first | exact HB.out | apply na_ | apply nn_ | apply nw_) | exact HB.out)⟩
   ·repeat (go_quiet (first | (go_at_call 117; (with_reducible refine (spec_RouteOk.calls ((rd_T29 l0 x3_1).f0) ((rd_T29 l0 x3_1).f1) ((rd_T29 l0 x3_1).f2) ((rd_T29 l0 x3_1).f3) true _ A4.out).mono ?_); rintro e w1800 ⟨rfl, hb⟩; replace HB := mk_ (below_step (ub_ HB.out) hb))); try go_wp2_with (first | (go_at_call 117; (with_reducible refine (spec_RouteOk.calls ((rd_T29 l0 x3_1).f0) ((rd_T29 l0 x3_1).f1) ((rd_T29 l0 x3_1).f2) ((rd_T29 l0 x3_1).f3) true _ A4.out).mono ?_); rintro e w1800 ⟨rfl, hb⟩; replace HB := mk_ (below_step (ub_ HB.out) hb))))
    go_roundg k1
    case measure => have := HK1.out; omega
    case rel => exact ⟨(wrap64 (x3_1 + 1)), (by first | rfl | (simp; done) | (simp [*]; done)), H', ⟨by have := HK1.out; omega⟩, ⟨ub_ HB.out⟩⟩
   ·repeat (go_quiet (first | (go_at_call 117; (with_reducible refine (spec_RouteOk.calls ((rd_T29 l0 x3_1).f0) ((rd_T29 l0 x3_1).f1) ((rd_T29 l0 x3_1).f2) ((rd_T29 l0 x3_1).f3) true _ A4.out).mono ?_); rintro e w1800 ⟨rfl, hb⟩; replace HB := mk_ (below_step (ub_ HB.out) hb); have p1801 : 0 ≤ ((ji7) : Int) := of_decide_eq_true (by first | (with_reducible assumption) | assumption); have q1801 : (ji7) < (l0.length : Int) := of_decide_eq_true (by first | (with_reducible assumption) | assumption); obtain ⟨ad1801, e1801, hx115_0, hx115_1, hx115_2, hx115_3⟩ := at_T29 HR0.out (ji7) p1801 q1801; obtain rfl : ad113 = ad1801 := (by injection e1801); replace hx115_0 := (HB.out.cell (lc_ w _ hx115_0)).trans hx115_0; replace hx115_1 := (HB.out.cell (lc_ w _ hx115_1)).trans hx115_1; replace hx115_2 := (HB.out.cell (lc_ w _ hx115_2)).trans hx115_2; replace hx115_3 := (HB.out.cell (lc_ w _ hx115_3)).trans hx115_3; replace p1801 := eq_true p1801; replace q1801 := eq_true q1801; have p1802 : 0 ≤ (x3_1 : Int) := of_decide_eq_true (by first | (with_reducible assumption) | assumption); have q1802 : x3_1 < (l0.length : Int) := of_decide_eq_true (by first | (with_reducible assumption) | assumption); obtain ⟨ad1802, e1802, hx116_0, hx116_1, hx116_2, hx116_3⟩ := at_T29 HR0.out x3_1 p1802 q1802; obtain rfl : ad113 = ad1802 := (by injection e1802); replace hx116_0 := (HB.out.cell (lc_ w _ hx116_0)).trans hx116_0; replace hx116_1 := (HB.out.cell (lc_ w _ hx116_1)).trans hx116_1; replace hx116_2 := (HB.out.cell (lc_ w _ hx116_2)).trans hx116_2; replace hx116_3 := (HB.out.cell (lc_ w _ hx116_3)).trans hx116_3; replace p1802 := eq_true p1802; replace q1802 := eq_true q1802)); try go_wp2_with (first | (go_at_call 117; (with_reducible refine (spec_RouteOk.calls ((rd_T29 l0 x3_1).f0) ((rd_T29 l0 x3_1).f1) ((rd_T29 l0 x3_1).f2) ((rd_T29 l0 x3_1).f3) true _ A4.out).mono ?_); rintro e w1800 ⟨rfl, hb⟩; replace HB := mk_ (below_step (ub_ HB.out) hb); have p1801 : 0 ≤ ((ji7) : Int) := of_decide_eq_true (by first | (with_reducible assumption) | assumption); have q1801 : (ji7) < (l0.length : Int) := of_decide_eq_true (by first | (with_reducible assumption) | assumption); obtain ⟨ad1801, e1801, hx115_0, hx115_1, hx115_2, hx115_3⟩ := at_T29 HR0.out (ji7) p1801 q1801; obtain rfl : ad113 = ad1801 := (by injection e1801); replace hx115_0 := (HB.out.cell (lc_ w _ hx115_0)).trans hx115_0; replace hx115_1 := (HB.out.cell (lc_ w _ hx115_1)).trans hx115_1; replace hx115_2 := (HB.out.cell (lc_ w _ hx115_2)).trans hx115_2; replace hx115_3 := (HB.out.cell (lc_ w _ hx115_3)).trans hx115_3; replace p1801 := eq_true p1801; replace q1801 := eq_true q1801; have p1802 : 0 ≤ (x3_1 : Int) := of_decide_eq_true (by first | (with_reducible assumption) | assumption); have q1802 : x3_1 < (l0.length : Int) := of_decide_eq_true (by first | (with_reducible assumption) | assumption); obtain ⟨ad1802, e1802, hx116_0, hx116_1, hx116_2, hx116_3⟩ := at_T29 HR0.out x3_1 p1802 q1802; obtain rfl : ad113 = ad1802 := (by injection e1802); replace hx116_0 := (HB.out.cell (lc_ w _ hx116_0)).trans hx116_0; replace hx116_1 := (HB.out.cell (lc_ w _ hx116_1)).trans hx116_1; replace hx116_2 := (HB.out.cell (lc_ w _ hx116_2)).trans hx116_2; replace hx116_3 := (HB.out.cell (lc_ w _ hx116_3)).trans hx116_3; replace p1802 := eq_true p1802; replace q1802 := eq_true q1802)))
    go_ret
    exact ⟨by first | rfl | (simp [errW_none, errW_some] <;> rfl) | (simp only [← hji7]; first | rfl | (simp [errW_none, errW_some] <;> rfl)) | (simp [*, errW_none, errW_some] <;> rfl), by repeat (first | (with_reducible first | exact HB.out | apply na_ | apply nn_ | apply nw_) | exact HB.out)⟩
   ·repeat (go_quiet (first | (go_at_call 117; (with_reducible refine (spec_RouteOk.calls ((rd_T29 l0 x3_1).f0) ((rd_T29 l0 x3_1).f1) ((rd_T29 l0 x3_1).f2) ((rd_T29 l0 x3_1).f3) true _ A4.out).mono ?_); rintro e w1800 ⟨rfl, hb⟩; replace HB := mk_ (below_step (ub_ HB.out) hb); have p1801 : 0 ≤ ((ji7) : Int) := of_decide_eq_true (by first | (with_reducible assumption) | assumption); have q1801 : (ji7) < (l0.length : Int) := of_decide_eq_true (by first | (with_reducible assumption) | assumption); obtain ⟨ad1801, e1801, hx115_0, hx115_1, hx115_2, hx115_3⟩ := at_T29 HR0.out (ji7) p1801 q1801; obtain rfl : ad113 = ad1801 := (by injection e1801); replace hx115_0 := (HB.out.cell (lc_ w _ hx115_0)).trans hx115_0; replace hx115_1 := (HB.out.cell (lc_ w _ hx115_1)).trans hx115_1; replace hx115_2 := (HB.out.cell (lc_ w _ hx115_2)).trans hx115_2; replace hx115_3 := (HB.out.cell (lc_ w _ hx115_3)).trans hx115_3; replace p1801 := eq_true p1801; replace q1801 := eq_true q1801; have p1802 : 0 ≤ (x3_1 : Int) := of_decide_eq_true (by first | (with_reducible assumption) | assumption); have q1802 : x3_1 < (l0.length : Int) := of_decide_eq_true (by first | (with_reducible assumption) | assumption); obtain ⟨ad1802, e1802, hx116_0, hx116_1, hx116_2, hx116_3⟩ := at_T29 HR0.out x3_1 p1802 q1802; obtain rfl : ad113 = ad1802 := (by injection e1802); replace hx116_0 := (HB.out.cell (lc_ w _ hx116_0)).trans hx116_0; replace hx116_1 := (HB.out.cell (lc_ w _ hx116_1)).trans hx116_1; replace hx116_2 := (HB.out.cell (lc_ w _ hx116_2)).trans hx116_2; replace hx116_3 := (HB.out.cell (lc_ w _ hx116_3)).trans hx116_3; replace p1802 := eq_true p1802; replace q1802 := eq_true q1802; have p1803 : 0 ≤ ((ji7) : Int) := of_decide_eq_true (by first | (with_reducible assumption) | assumption); have q1803 : (ji7) < (l0.length : Int) := of_decide_eq_true (by first | (with_reducible assumption) | assumption); obtain ⟨ad1803, e1803, hx117_0, hx117_1, hx117_2, hx117_3⟩ := at_T29 HR0.out (ji7) p1803 q1803; obtain rfl : ad113 = ad1803 := (by injection e1803); replace hx117_0 := (HB.out.cell (lc_ w _ hx117_0)).trans hx117_0; replace hx117_1 := (HB.out.cell (lc_ w _ hx117_1)).trans hx117_1; replace hx117_2 := (HB.out.cell (lc_ w _ hx117_2)).trans hx117_2; replace hx117_3 := (HB.out.cell (lc_ w _ hx117_3)).trans hx117_3; replace p1803 := eq_true p1803; replace q1803 := eq_true q1803; have p1804 : 0 ≤ (x3_1 : Int) := of_decide_eq_true (by first | (with_reducible assumption) | assumption); have q1804 : x3_1 < (l0.length : Int) := of_decide_eq_true (by first | (with_reducible assumption) | assumption); obtain ⟨ad1804, e1804, hx118_0, hx118_1, hx118_2, hx118_3⟩ := at_T29 HR0.out x3_1 p1804 q1804; obtain rfl : ad113 = ad1804 := (by injection e1804); replace hx118_0 := (HB.out.cell (lc_ w _ hx118_0)).trans hx118_0; replace hx118_1 := (HB.out.cell (lc_ w _ hx118_1)).trans hx118_1; replace hx118_2 := (HB.out.cell (lc_ w _ hx118_2)).trans hx118_2; replace hx118_3 := (HB.out.cell (lc_ w _ hx118_3)).trans hx118_3; replace p1804 := eq_true p1804; replace q1804 := eq_true q1804)); try go_wp2_with (first | (go_at_call 117; (with_reducible refine (spec_RouteOk.calls ((rd_T29 l0 x3_1).f0) ((rd_T29 l0 x3_1).f1) ((rd_T29 l0 x3_1).f2) ((rd_T29 l0 x3_1).f3) true _ A4.out).mono ?_); rintro e w1800 ⟨rfl, hb⟩; replace HB := mk_ (below_step (ub_ HB.out) hb); have p1801 : 0 ≤ ((ji7) : Int) := of_decide_eq_true (by first | (with_reducible assumption) | assumption); have q1801 : (ji7) < (l0.length : Int) := of_decide_eq_true (by first | (with_reducible assumption) | assumption); obtain ⟨ad1801, e1801, hx115_0, hx115_1, hx115_2, hx115_3⟩ := at_T29 HR0.out (ji7) p1801 q1801; obtain rfl : ad113 = ad1801 := (by injection e1801); replace hx115_0 := (HB.out.cell (lc_ w _ hx115_0)).trans hx115_0; replace hx115_1 := (HB.out.cell (lc_ w _ hx115_1)).trans hx115_1; replace hx115_2 := (HB.out.cell (lc_ w _ hx115_2)).trans hx115_2; replace hx115_3 := (HB.out.cell (lc_ w _ hx115_3)).trans hx115_3; replace p1801 := eq_true p1801; replace q1801 := eq_true q1801; have p1802 : 0 ≤ (x3_1 : Int) := of_decide_eq_true (by first | (with_reducible assumption) | assumption); have q1802 : x3_1 < (l0.length : Int) := of_decide_eq_true (by first | (with_reducible assumption) | assumption); obtain ⟨ad1802, e1802, hx116_0, hx116_1, hx116_2, hx116_3⟩ := at_T29 HR0.out x3_1 p1802 q1802; obtain rfl : ad113 = ad1802 := (by injection e1802); replace hx116_0 := (HB.out.cell (lc_ w _ hx116_0)).trans hx116_0; replace hx116_1 := (HB.out.cell (lc_ w _ hx116_1)).trans hx116_1; replace hx116_2 := (HB.out.cell (lc_ w _ hx116_2)).trans hx116_2; replace hx116_3 := (HB.out.cell (lc_ w _ hx116_3)).trans hx116_3; replace p1802 := eq_true p1802; replace q1802 := eq_true q1802; have p1803 : 0 ≤ ((ji7) : Int) := of_decide_eq_true (by first | (with_reducible assumption) | assumption); have q1803 : (ji7) < (l0.length : Int) := of_decide_eq_true (by first | (with_reducible assumption) | assumption); obtain ⟨ad1803, e1803, hx117_0, hx117_1, hx117_2, hx117_3⟩ := at_T29 HR0.out (ji7) p1803 q1803; obtain rfl : ad113 = ad1803 := (by injection e1803); replace hx117_0 := (HB.out.cell (lc_ w _ hx117_0)).trans hx117_0; replace hx117_1 := (HB.out.cell (lc_ w _ hx117_1)).trans hx117_1; replace hx117_2 := (HB.out.cell (lc_ w _ hx117_2)).trans hx117_2; replace hx117_3 := (HB.out.cell (lc_ w _ hx117_3)).trans hx117_3; replace p1803 := eq_true p1803; replace q1803 := eq_true q1803; have p1804 : 0 ≤ (x3_1 : Int) := of_decide_eq_true (by first | (with_reducible assumption) | assumption); have q1804 : x3_1 < (l0.length : Int) := of_decide_eq_true (by first | (with_reducible assumption) | assumption); obtain ⟨ad1804, e1804, hx118_0, hx118_1, hx118_2, hx118_3⟩ := at_T29 HR0.out x3_1 p1804 q1804; obtain rfl : ad113 = ad1804 := (by injection e1804); replace hx118_0 := (HB.out.cell (lc_ w _ hx118_0)).trans hx118_0; replace hx118_1 := (HB.out.cell (lc_ w _ hx118_1)).trans hx118_1; replace hx118_2 := (HB.out.cell (lc_ w _ hx118_2)).trans hx118_2; replace hx118_3 := (HB.out.cell (lc_ w _ hx118_3)).trans hx118_3; replace p1804 := eq_true p1804; replace q1804 := eq_true q1804)))
    go_roundg k1
    case measure => have := HK1.out; omega
    case rel => exact ⟨(wrap64 (x3_1 + 1)), (by first | rfl | (simp; done) | (simp [*]; done)), H', ⟨by have := HK1.out; omega⟩, ⟨ub_ HB.out⟩⟩
   all_goals
    repeat (go_quiet (first | (go_at_call 117; (with_reducible refine (spec_RouteOk.calls ((rd_T29 l0 x3_1).f0) ((rd_T29 l0 x3_1).f1) ((rd_T29 l0 x3_1).f2) ((rd_T29 l0 x3_1).f3) true _ A4.out).mono ?_); rintro e w1800 ⟨rfl, hb⟩; replace HB := mk_ (below_step (ub_ HB.out) hb); have p1801 : 0 ≤ ((ji7) : Int) := of_decide_eq_true (by first | (with_reducible assumption) | assumption); have q1801 : (ji7) < (l0.length : Int) := of_decide_eq_true (by first | (with_reducible assumption) | assumption); obtain ⟨ad1801, e1801, hx115_0, hx115_1, hx115_2, hx115_3⟩ := at_T29 HR0.out (ji7) p1801 q1801; obtain rfl : ad113 = ad1801 := (by injection e1801); replace hx115_0 := (HB.out.cell (lc_ w _ hx115_0)).trans hx115_0; replace hx115_1 := (HB.out.cell (lc_ w _ hx115_1)).trans hx115_1; replace hx115_2 := (HB.out.cell (lc_ w _ hx115_2)).trans hx115_2; replace hx115_3 := (HB.out.cell (lc_ w _ hx115_3)).trans hx115_3; replace p1801 := eq_true p1801; replace q1801 := eq_true q1801; have p1802 : 0 ≤ (x3_1 : Int) := of_decide_eq_true (by first | (with_reducible assumption) | assumption); have q1802 : x3_1 < (l0.length : Int) := of_decide_eq_true (by first | (with_reducible assumption) | assumption); obtain ⟨ad1802, e1802, hx116_0, hx116_1, hx116_2, hx116_3⟩ := at_T29 HR0.out x3_1 p1802 q1802; obtain rfl : ad113 = ad1802 := (by injection e1802); replace hx116_0 := (HB.out.cell (lc_ w _ hx116_0)).trans hx116_0; replace hx116_1 := (HB.out.cell (lc_ w _ hx116_1)).trans hx116_1; replace hx116_2 := (HB.out.cell (lc_ w _ hx116_2)).trans hx116_2; replace hx116_3 := (HB.out.cell (lc_ w _ hx116_3)).trans hx116_3; replace p1802 := eq_true p1802; replace q1802 := eq_true q1802; have p1803 : 0 ≤ ((ji7) : Int) := of_decide_eq_true (by first | (with_reducible assumption) | assumption); have q1803 : (ji7) < (l0.length : Int) := of_decide_eq_true (by first | (with_reducible assumption) | assumption); obtain ⟨ad1803, e1803, hx117_0, hx117_1, hx117_2, hx117_3⟩ := at_T29 HR0.out (ji7) p1803 q1803; obtain rfl : ad113 = ad1803 := (by injection e1803); replace hx117_0 := (HB.out.cell (lc_ w _ hx117_0)).trans hx117_0; replace hx117_1 := (HB.out.cell (lc_ w _ hx117_1)).trans hx117_1; replace hx117_2 := (HB.out.cell (lc_ w _ hx117_2)).trans hx117_2; replace hx117_3 := (HB.out.cell (lc_ w _ hx117_3)).trans hx117_3; replace p1803 := eq_true p1803; replace q1803 := eq_true q1803; have p1804 : 0 ≤ (x3_1 : Int) := of_decide_eq_true (by first | (with_reducible assumption) | assumption); have q1804 : x3_1 < (l0.length : Int) := of_decide_eq_true (by first | (with_reducible assumption) | assumption); obtain ⟨ad1804, e1804, hx118_0, hx118_1, hx118_2, hx118_3⟩ := at_T29 HR0.out x3_1 p1804 q1804; obtain rfl : ad113 = ad1804 := (by injection e1804); replace hx118_0 := (HB.out.cell (lc_ w _ hx118_0)).trans hx118_0; replace hx118_1 := (HB.out.cell (lc_ w _ hx118_1)).trans hx118_1; replace hx118_2 := (HB.out.cell (lc_ w _ hx118_2)).trans hx118_2; replace hx118_3 := (HB.out.cell (lc_ w _ hx118_3)).trans hx118_3; replace p1804 := eq_true p1804; replace q1804 := eq_true q1804; have p1805 : 0 ≤ ((ji7) : Int) := of_decide_eq_true (by first | (with_reducible assumption) | assumption); have q1805 : (ji7) < (l0.length : Int) := of_decide_eq_true (by first | (with_reducible assumption) | assumption); obtain ⟨ad1805, e1805, hx119_0, hx119_1, hx119_2, hx119_3⟩ := at_T29 HR0.out (ji7) p1805 q1805; obtain rfl : ad113 = ad1805 := (by injection e1805); replace hx119_0 := (HB.out.cell (lc_ w _ hx119_0)).trans hx119_0; replace hx119_1 := (HB.out.cell (lc_ w _ hx119_1)).trans hx119_1; replace hx119_2 := (HB.out.cell (lc_ w _ hx119_2)).trans hx119_2; replace hx119_3 := (HB.out.cell (lc_ w _ hx119_3)).trans hx119_3; replace p1805 := eq_true p1805; replace q1805 := eq_true q1805; have p1806 : 0 ≤ (x3_1 : Int) := of_decide_eq_true (by first | (with_reducible assumption) | assumption); have q1806 : x3_1 < (l0.length : Int) := of_decide_eq_true (by first | (with_reducible assumption) | assumption); obtain ⟨ad1806, e1806, hx120_0, hx120_1, hx120_2, hx120_3⟩ := at_T29 HR0.out x3_1 p1806 q1806; obtain rfl : ad113 = ad1806 := (by injection e1806); replace hx120_0 := (HB.out.cell (lc_ w _ hx120_0)).trans hx120_0; replace hx120_1 := (HB.out.cell (lc_ w _ hx120_1)).trans hx120_1; replace hx120_2 := (HB.out.cell (lc_ w _ hx120_2)).trans hx120_2; replace hx120_3 := (HB.out.cell (lc_ w _ hx120_3)).trans hx120_3; replace p1806 := eq_true p1806; replace q1806 := eq_true q1806)); try go_wp2_with (first | (go_at_call 117; (with_reducible refine (spec_RouteOk.calls ((rd_T29 l0 x3_1).f0) ((rd_T29 l0 x3_1).f1) ((rd_T29 l0 x3_1).f2) ((rd_T29 l0 x3_1).f3) true _ A4.out).mono ?_); rintro e w1800 ⟨rfl, hb⟩; replace HB := mk_ (below_step (ub_ HB.out) hb); have p1801 : 0 ≤ ((ji7) : Int) := of_decide_eq_true (by first | (with_reducible assumption) | assumption); have q1801 : (ji7) < (l0.length : Int) := of_decide_eq_true (by first | (with_reducible assumption) | assumption); obtain ⟨ad1801, e1801, hx115_0, hx115_1, hx115_2, hx115_3⟩ := at_T29 HR0.out (ji7) p1801 q1801; obtain rfl : ad113 = ad1801 := (by injection e1801); replace hx115_0 := (HB.out.cell (lc_ w _ hx115_0)).trans hx115_0; replace hx115_1 := (HB.out.cell (lc_ w _ hx115_1)).trans hx115_1; replace hx115_2 := (HB.out.cell (lc_ w _ hx115_2)).trans hx115_2; replace hx115_3 := (HB.out.cell (lc_ w _ hx115_3)).trans hx115_3; replace p1801 := eq_true p1801; replace q1801 := eq_true q1801; have p1802 : 0 ≤ (x3_1 : Int) := of_decide_eq_true (by first | (with_reducible assumption) | assumption); have q1802 : x3_1 < (l0.length : Int) := of_decide_eq_true (by first | (with_reducible assumption) | assumption); obtain ⟨ad1802, e1802, hx116_0, hx116_1, hx116_2, hx116_3⟩ := at_T29 HR0.out x3_1 p1802 q1802; obtain rfl : ad113 = ad1802 := (by injection e1802); replace hx116_0 := (HB.out.cell (lc_ w _ hx116_0)).trans hx116_0; replace hx116_1 := (HB.out.cell (lc_ w _ hx116_1)).trans hx116_1; replace hx116_2 := (HB.out.cell (lc_ w _ hx116_2)).trans hx116_2; replace hx116_3 := (HB.out.cell (lc_ w _ hx116_3)).trans hx116_3; replace p1802 := eq_true p1802; replace q1802 := eq_true q1802; have p1803 : 0 ≤ ((ji7) : Int) := of_decide_eq_true (by first | (with_reducible assumption) | assumption); have q1803 : (ji7) < (l0.length : Int) := of_decide_eq_true (by first | (with_reducible assumption) | assumption); obtain ⟨ad1803, e1803, hx117_0, hx117_1, hx117_2, hx117_3⟩ := at_T29 HR0.out (ji7) p1803 q1803; obtain rfl : ad113 = ad1803 := (by injection e1803); replace hx117_0 := (HB.out.cell (lc_ w _ hx117_0)).trans hx117_0; replace hx117_1 := (HB.out.cell (lc_ w _ hx117_1)).trans hx117_1; replace hx117_2 := (HB.out.cell (lc_ w _ hx117_2)).trans hx117_2; replace hx117_3 := (HB.out.cell (lc_ w _ hx117_3)).trans hx117_3; replace p1803 := eq_true p1803; replace q1803 := eq_true q1803; have p1804 : 0 ≤ (x3_1 : Int) := of_decide_eq_true (by first | (with_reducible assumption) | assumption); have q1804 : x3_1 < (l0.length : Int) := of_decide_eq_true (by first | (with_reducible assumption) | assumption); obtain ⟨ad1804, e1804, hx118_0, hx118_1, hx118_2, hx118_3⟩ := at_T29 HR0.out x3_1 p1804 q1804; obtain rfl : ad113 = ad1804 := (by injection e1804); replace hx118_0 := (HB.out.cell (lc_ w _ hx118_0)).trans hx118_0; replace hx118_1 := (HB.out.cell (lc_ w _ hx118_1)).trans hx118_1; replace hx118_2 := (HB.out.cell (lc_ w _ hx118_2)).trans hx118_2; replace hx118_3 := (HB.out.cell (lc_ w _ hx118_3)).trans hx118_3; replace p1804 := eq_true p1804; replace q1804 := eq_true q1804; have p1805 : 0 ≤ ((ji7) : Int) := of_decide_eq_true (by first | (with_reducible assumption) | assumption); have q1805 : (ji7) < (l0.length : Int) := of_decide_eq_true (by first | (with_reducible assumption) | assumption); obtain ⟨ad1805, e1805, hx119_0, hx119_1, hx119_2, hx119_3⟩ := at_T29 HR0.out (ji7) p1805 q1805; obtain rfl : ad113 = ad1805 := (by injection e1805); replace hx119_0 := (HB.out.cell (lc_ w _ hx119_0)).trans hx119_0; replace hx119_1 := (HB.out.cell (lc_ w _ hx119_1)).trans hx119_1; replace hx119_2 := (HB.out.cell (lc_ w _ hx119_2)).trans hx119_2; replace hx119_3 := (HB.out.cell (lc_ w _ hx119_3)).trans hx119_3; replace p1805 := eq_true p1805; replace q1805 := eq_true q1805; have p1806 : 0 ≤ (x3_1 : Int) := of_decide_eq_true (by first | (with_reducible assumption) | assumption); have q1806 : x3_1 < (l0.length : Int) := of_decide_eq_true (by first | (with_reducible assumption) | assumption); obtain ⟨ad1806, e1806, hx120_0, hx120_1, hx120_2, hx120_3⟩ := at_T29 HR0.out x3_1 p1806 q1806; obtain rfl : ad113 = ad1806 := (by injection e1806); replace hx120_0 := (HB.out.cell (lc_ w _ hx120_0)).trans hx120_0; replace hx120_1 := (HB.out.cell (lc_ w _ hx120_1)).trans hx120_1; replace hx120_2 := (HB.out.cell (lc_ w _ hx120_2)).trans hx120_2; replace hx120_3 := (HB.out.cell (lc_ w _ hx120_3)).trans hx120_3; replace p1806 := eq_true p1806; replace q1806 := eq_true q1806)))
   ·go_ret
    exact ⟨by first | rfl | (simp [errW_none, errW_some] <;> rfl) | (simp only [← hji7]; first | rfl | (simp [errW_none, errW_some] <;> rfl)) | (simp [*, errW_none, errW_some] <;> rfl), by repeat (first | (with_reducible first | exact HB.out | apply na_ | apply nn_ | apply nw_) | exact HB.out)⟩
   ·go_roundg k1
    case measure => have := HK1.out; omega
    case rel => exact ⟨(wrap64 (x3_1 + 1)), (by first | rfl | (simp; done) | (simp [*]; done)), H', ⟨by have := HK1.out; omega⟩, ⟨ub_ HB.out⟩⟩

end Go.Proofs.Ytkkibccnpkbbjab.MFnPathRoom
