/- Functions that the law FnExactNoteEchoed reaches, each with the proof that the machine's call comes to just its answer; no conditions but those that each theorem states. Printed by a program of this session over the kit's print. -/
import Derived.Test.YtgfaamcihlojdagMFnExactNoteEchoedx0
import Derived.Test.YtgfaamcihlojdagMFnExactNoteEchoedx8
namespace Go.Proofs.Ytgfaamcihlojdag.MFnExactNoteEchoed
open Go.RowKit Go.Proofs.YtgfaamcihlojdagV.PrintWords Go.Proofs.YtgfaamcihlojdagV.PrintLast Go.Proofs.YtgfaamcihlojdagV.PrintMore
attribute [local go_sem] max2_int min2_int max_two min_two max_three min_three max_four min_four   -- for this text's walks alone
set_option linter.unusedVariables false
set_option linter.unusedSimpArgs false

/-! ### laws_eqPacket: function 26 -/
def laws_eqPacket.f (k : Nat) (a0_0 : Int) (a0_1 : Int) (a0_2 : Int) (a0_3 : Int) (a0_4 : Int) (a0_5 : Int) (a0_6 : Bool) (a0_7 : Bool) (l0_8 : List Int) (a1_0 : Int) (a1_1 : Int) (a1_2 : Int) (a1_3 : Int) (a1_4 : Int) (a1_5 : Int) (a1_6 : Bool) (a1_7 : Bool) (l1_8 : List Int) : Option (Bool) := if a0_0 = a1_0 then (if a0_1 = a1_1 then (if a0_2 = a1_2 then (if a0_3 = a1_3 then (if a0_4 = a1_4 then (if a0_5 = a1_5 then (if (a0_6 != a1_6) = true then (some false) else (if (a0_7 != a1_7) = true then (some false) else ((laws_eqByteS.f k l0_8 l1_8).bind fun t264 => (if t264 = true then (some true) else (some false))))) else (some false)) else (some false)) else (some false)) else (some false)) else (some false)) else (some false)
theorem laws_eqPacket.mono : ∀ a0 a1 a2 a3 a4 a5 a6 a7 a8 a9 a10 a11 a12 a13 a14 a15 a16 a17 k, LeO (laws_eqPacket.f k a0 a1 a2 a3 a4 a5 a6 a7 a8 a9 a10 a11 a12 a13 a14 a15 a16 a17) (laws_eqPacket.f (k + 1) a0 a1 a2 a3 a4 a5 a6 a7 a8 a9 a10 a11 a12 a13 a14 a15 a16 a17) := by
 intro a0 a1 a2 a3 a4 a5 a6 a7 a8 a9 a10 a11 a12 a13 a14 a15 a16 a17 k
 unfold laws_eqPacket.f
 repeat' first
   | (with_reducible exact laws_eqByteS.mono _ _ _)
   | (with_reducible exact LeO.refl _)
   | (with_reducible exact LeO.none _)
   | (with_reducible refine LeO.ite ?_ ?_)
   | (with_reducible refine LeO.bind ?_ (fun _ => ?_))
   | exact laws_eqByteS.mono _ _ _
   | exact LeO.none _
   | refine LeO.ite ?_ ?_
   | refine LeO.bind ?_ (fun _ => ?_)
set_option maxHeartbeats 8000000 in
set_option maxRecDepth 100000 in
theorem laws_eqPacket.calls (k : Nat) (a0_0 : Int) (a0_1 : Int) (a0_2 : Int) (a0_3 : Int) (a0_4 : Int) (a0_5 : Int) (a0_6 : Bool) (a0_7 : Bool) (A0_8 : Option Addr) (c0_8 : Nat) (l0_8 : List Int) (a1_0 : Int) (a1_1 : Int) (a1_2 : Int) (a1_3 : Int) (a1_4 : Int) (a1_5 : Int) (a1_6 : Bool) (a1_7 : Bool) (A1_8 : Option Addr) (c1_8 : Nat) (l1_8 : List Int) (r : Bool) (w : World) (hr0_8 : Kd.C (Kd.int .u8) w A0_8 l0_8.length l0_8) (hc0_8 : l0_8.length ≤ c0_8) (hr1_8 : Kd.C (Kd.int .u8) w A1_8 l1_8.length l1_8) (hc1_8 : l1_8.length ≤ c1_8) (h : laws_eqPacket.f k a0_0 a0_1 a0_2 a0_3 a0_4 a0_5 a0_6 a0_7 l0_8 a1_0 a1_1 a1_2 a1_3 a1_4 a1_5 a1_6 a1_7 l1_8 = some r) :
  Calls Try.prog 26 #[.agg #[.int .i64 a0_0, .int .i64 a0_1, .int .i64 a0_2, .int .i64 a0_3, .int .i64 a0_4, .int .i64 a0_5, .bool a0_6, .bool a0_7, .slice A0_8 l0_8.length c0_8], .agg #[.int .i64 a1_0, .int .i64 a1_1, .int .i64 a1_2, .int .i64 a1_3, .int .i64 a1_4, .int .i64 a1_5, .bool a1_6, .bool a1_7, .slice A1_8 l1_8.length c1_8]] w fun e w' => e = .returned (.bool r) ∧ Below w.heap.size w w' := by
 have hu24 := Try.underlying24
 have HR0_8 := mk_ hr0_8
 have HC0_8 := mk_ hc0_8
 clear hr0_8 hc0_8
 have HR1_8 := mk_ hr1_8
 have HC1_8 := mk_ hc1_8
 clear hr1_8 hc1_8
 have HB := mk_ (Below.refl w.heap.size w)
 have H : (if a0_0 = a1_0 then (if a0_1 = a1_1 then (if a0_2 = a1_2 then (if a0_3 = a1_3 then (if a0_4 = a1_4 then (if a0_5 = a1_5 then (if (a0_6 != a1_6) = true then (some false) else (if (a0_7 != a1_7) = true then (some false) else ((laws_eqByteS.f k l0_8 l1_8).bind fun t264 => (if t264 = true then (some true) else (some false))))) else (some false)) else (some false)) else (some false)) else (some false)) else (some false)) else (some false)) = some r := h
 clear h
 by_cases c3 : a0_0 = a1_0
 rotate_left
 ·rw [if_neg c3] at H
  have c3b0 : (a0_0 == a1_0) = false := beq_eq_false_iff_ne.mpr c3
  have c3b1 : (a0_0 != a1_0) = true := bne_iff_ne.mpr c3
  obtain rfl := Option.some.inj H
  go_enter Try.func26, Try.ntmps26
  go_wp2_with (first | ((with_reducible refine gate_dst (N := 2) rfl ?_); refine box_event ?hg (N := 2) ?hd (cs := #[.int .i64 a0_0, .int .i64 a0_1, .int .i64 a0_2, .int .i64 a0_3, .int .i64 a0_4, .int .i64 a0_5, .bool a0_6, .bool a0_7, .slice A0_8 l0_8.length c0_8]) (t := 24) ?hr ?_; (case hd => rfl); (case hg => rfl); (case hr => first | (go_simp; done) | (go_simp; rfl)); intro gb262 hg w58 hbox hb; have n0_ := mk_ (below_step (ub_ HB.out) hb); have n1_ := mk_ (hbox); have n2_ := mk_ ((by rw [hg]; exact (below_size (ub_ HB.out)) : w.heap.size ≤ gb262)); have n3_ := mk_ ((by rw [hg]; exact (below_size (ub_ HB.out)) : w.heap.size ≤ gb262)); clear HB; have HB := n0_; have BK262 := n1_; have GW262 := n2_; have GE262 := ge_ n3_.out; clear n0_ n1_ n2_ n3_; clear hb hbox hg) | ((with_reducible refine gate_dst (N := 3) rfl ?_); refine box_event ?hg (N := 3) ?hd (cs := #[.int .i64 a1_0, .int .i64 a1_1, .int .i64 a1_2, .int .i64 a1_3, .int .i64 a1_4, .int .i64 a1_5, .bool a1_6, .bool a1_7, .slice A1_8 l1_8.length c1_8]) (t := 24) ?hr ?_; (case hd => rfl); (case hg => rfl); (case hr => first | (go_simp; done) | (go_simp; rfl)); intro gb263 hg w59 hbox hb; have n0_ := mk_ (blk_below (u_ BK262.out) hb); have n1_ := mk_ (below_step (us_ HB.out) hb); have n2_ := mk_ (hbox); have n3_ := mk_ ((by rw [hg]; exact (below_size (us_ HB.out)) : w.heap.size ≤ gb263)); have n4_ := mk_ ((by rw [hg]; exact (below_size (us_ HB.out)) : w.heap.size ≤ gb263)); have n5_ := mk_ ((by rw [hg]; exact Nat.ne_of_lt (blk_lt (u_ BK262.out)) : gb262 ≠ gb263)); have n6_ := mk_ ((by rw [hg]; exact Nat.ne_of_gt (blk_lt (u_ BK262.out)) : gb263 ≠ gb262)); clear BK262; clear HB; have BK262 := n0_; have HB := n1_; have BK263 := n2_; have GW263 := n3_; have GE263 := ge_ n4_.out; have NB262_263 := nq_ n5_.out; have NB263_262 := nq_ n6_.out; clear n0_ n1_ n2_ n3_ n4_ n5_ n6_; clear hb hbox hg; have hnb60 := NB262_263.out; have hnc60 := NB263_262.out; obtain ⟨hcz61_0, hcz61_1, hcz61_2, hcz61_3, hcz61_4, hcz61_5, hcz61_6, hcz61_7, hcz61_8, hfz61_0, hfz61_1, hfz61_2, hfz61_3, hfz61_4, hfz61_5, hfz61_6, hfz61_7, hfz61_8⟩ := cells9_ BK262.out; obtain ⟨hcz62_0, hcz62_1, hcz62_2, hcz62_3, hcz62_4, hcz62_5, hcz62_6, hcz62_7, hcz62_8, hfz62_0, hfz62_1, hfz62_2, hfz62_3, hfz62_4, hfz62_5, hfz62_6, hfz62_7, hfz62_8⟩ := cells9_ BK263.out))
  go_ret
  exact ⟨by first | rfl | (simp [errW_none, errW_some] <;> rfl) | (simp [*, errW_none, errW_some] <;> rfl), us_ HB.out⟩
 rw [if_pos c3] at H
 have c3b0 : (a0_0 == a1_0) = true := beq_iff_eq.mpr c3
 have c3b1 : (a0_0 != a1_0) = false := bne_eq_false_iff_eq.mpr c3
 clear c3
 by_cases c4 : a0_1 = a1_1
 rotate_left
 ·rw [if_neg c4] at H
  have c4b0 : (a0_1 == a1_1) = false := beq_eq_false_iff_ne.mpr c4
  have c4b1 : (a0_1 != a1_1) = true := bne_iff_ne.mpr c4
  obtain rfl := Option.some.inj H
  go_enter Try.func26, Try.ntmps26
  go_wp2_with (first | ((with_reducible refine gate_dst (N := 2) rfl ?_); refine box_event ?hg (N := 2) ?hd (cs := #[.int .i64 a0_0, .int .i64 a0_1, .int .i64 a0_2, .int .i64 a0_3, .int .i64 a0_4, .int .i64 a0_5, .bool a0_6, .bool a0_7, .slice A0_8 l0_8.length c0_8]) (t := 24) ?hr ?_; (case hd => rfl); (case hg => rfl); (case hr => first | (go_simp; done) | (go_simp; rfl)); intro gb262 hg w53 hbox hb; have n0_ := mk_ (below_step (ub_ HB.out) hb); have n1_ := mk_ (hbox); have n2_ := mk_ ((by rw [hg]; exact (below_size (ub_ HB.out)) : w.heap.size ≤ gb262)); have n3_ := mk_ ((by rw [hg]; exact (below_size (ub_ HB.out)) : w.heap.size ≤ gb262)); clear HB; have HB := n0_; have BK262 := n1_; have GW262 := n2_; have GE262 := ge_ n3_.out; clear n0_ n1_ n2_ n3_; clear hb hbox hg) | ((with_reducible refine gate_dst (N := 3) rfl ?_); refine box_event ?hg (N := 3) ?hd (cs := #[.int .i64 a1_0, .int .i64 a1_1, .int .i64 a1_2, .int .i64 a1_3, .int .i64 a1_4, .int .i64 a1_5, .bool a1_6, .bool a1_7, .slice A1_8 l1_8.length c1_8]) (t := 24) ?hr ?_; (case hd => rfl); (case hg => rfl); (case hr => first | (go_simp; done) | (go_simp; rfl)); intro gb263 hg w54 hbox hb; have n0_ := mk_ (blk_below (u_ BK262.out) hb); have n1_ := mk_ (below_step (us_ HB.out) hb); have n2_ := mk_ (hbox); have n3_ := mk_ ((by rw [hg]; exact (below_size (us_ HB.out)) : w.heap.size ≤ gb263)); have n4_ := mk_ ((by rw [hg]; exact (below_size (us_ HB.out)) : w.heap.size ≤ gb263)); have n5_ := mk_ ((by rw [hg]; exact Nat.ne_of_lt (blk_lt (u_ BK262.out)) : gb262 ≠ gb263)); have n6_ := mk_ ((by rw [hg]; exact Nat.ne_of_gt (blk_lt (u_ BK262.out)) : gb263 ≠ gb262)); clear BK262; clear HB; have BK262 := n0_; have HB := n1_; have BK263 := n2_; have GW263 := n3_; have GE263 := ge_ n4_.out; have NB262_263 := nq_ n5_.out; have NB263_262 := nq_ n6_.out; clear n0_ n1_ n2_ n3_ n4_ n5_ n6_; clear hb hbox hg; have hnb55 := NB262_263.out; have hnc55 := NB263_262.out; obtain ⟨hcz56_0, hcz56_1, hcz56_2, hcz56_3, hcz56_4, hcz56_5, hcz56_6, hcz56_7, hcz56_8, hfz56_0, hfz56_1, hfz56_2, hfz56_3, hfz56_4, hfz56_5, hfz56_6, hfz56_7, hfz56_8⟩ := cells9_ BK262.out; obtain ⟨hcz57_0, hcz57_1, hcz57_2, hcz57_3, hcz57_4, hcz57_5, hcz57_6, hcz57_7, hcz57_8, hfz57_0, hfz57_1, hfz57_2, hfz57_3, hfz57_4, hfz57_5, hfz57_6, hfz57_7, hfz57_8⟩ := cells9_ BK263.out))
  go_ret
  exact ⟨by first | rfl | (simp [errW_none, errW_some] <;> rfl) | (simp [*, errW_none, errW_some] <;> rfl), us_ HB.out⟩
 rw [if_pos c4] at H
 have c4b0 : (a0_1 == a1_1) = true := beq_iff_eq.mpr c4
 have c4b1 : (a0_1 != a1_1) = false := bne_eq_false_iff_eq.mpr c4
 clear c4
 by_cases c5 : a0_2 = a1_2
 rotate_left
 ·rw [if_neg c5] at H
  have c5b0 : (a0_2 == a1_2) = false := beq_eq_false_iff_ne.mpr c5
  have c5b1 : (a0_2 != a1_2) = true := bne_iff_ne.mpr c5
  obtain rfl := Option.some.inj H
  go_enter Try.func26, Try.ntmps26
  go_wp2_with (first | ((with_reducible refine gate_dst (N := 2) rfl ?_); refine box_event ?hg (N := 2) ?hd (cs := #[.int .i64 a0_0, .int .i64 a0_1, .int .i64 a0_2, .int .i64 a0_3, .int .i64 a0_4, .int .i64 a0_5, .bool a0_6, .bool a0_7, .slice A0_8 l0_8.length c0_8]) (t := 24) ?hr ?_; (case hd => rfl); (case hg => rfl); (case hr => first | (go_simp; done) | (go_simp; rfl)); intro gb262 hg w48 hbox hb; have n0_ := mk_ (below_step (ub_ HB.out) hb); have n1_ := mk_ (hbox); have n2_ := mk_ ((by rw [hg]; exact (below_size (ub_ HB.out)) : w.heap.size ≤ gb262)); have n3_ := mk_ ((by rw [hg]; exact (below_size (ub_ HB.out)) : w.heap.size ≤ gb262)); clear HB; have HB := n0_; have BK262 := n1_; have GW262 := n2_; have GE262 := ge_ n3_.out; clear n0_ n1_ n2_ n3_; clear hb hbox hg) | ((with_reducible refine gate_dst (N := 3) rfl ?_); refine box_event ?hg (N := 3) ?hd (cs := #[.int .i64 a1_0, .int .i64 a1_1, .int .i64 a1_2, .int .i64 a1_3, .int .i64 a1_4, .int .i64 a1_5, .bool a1_6, .bool a1_7, .slice A1_8 l1_8.length c1_8]) (t := 24) ?hr ?_; (case hd => rfl); (case hg => rfl); (case hr => first | (go_simp; done) | (go_simp; rfl)); intro gb263 hg w49 hbox hb; have n0_ := mk_ (blk_below (u_ BK262.out) hb); have n1_ := mk_ (below_step (us_ HB.out) hb); have n2_ := mk_ (hbox); have n3_ := mk_ ((by rw [hg]; exact (below_size (us_ HB.out)) : w.heap.size ≤ gb263)); have n4_ := mk_ ((by rw [hg]; exact (below_size (us_ HB.out)) : w.heap.size ≤ gb263)); have n5_ := mk_ ((by rw [hg]; exact Nat.ne_of_lt (blk_lt (u_ BK262.out)) : gb262 ≠ gb263)); have n6_ := mk_ ((by rw [hg]; exact Nat.ne_of_gt (blk_lt (u_ BK262.out)) : gb263 ≠ gb262)); clear BK262; clear HB; have BK262 := n0_; have HB := n1_; have BK263 := n2_; have GW263 := n3_; have GE263 := ge_ n4_.out; have NB262_263 := nq_ n5_.out; have NB263_262 := nq_ n6_.out; clear n0_ n1_ n2_ n3_ n4_ n5_ n6_; clear hb hbox hg; have hnb50 := NB262_263.out; have hnc50 := NB263_262.out; obtain ⟨hcz51_0, hcz51_1, hcz51_2, hcz51_3, hcz51_4, hcz51_5, hcz51_6, hcz51_7, hcz51_8, hfz51_0, hfz51_1, hfz51_2, hfz51_3, hfz51_4, hfz51_5, hfz51_6, hfz51_7, hfz51_8⟩ := cells9_ BK262.out; obtain ⟨hcz52_0, hcz52_1, hcz52_2, hcz52_3, hcz52_4, hcz52_5, hcz52_6, hcz52_7, hcz52_8, hfz52_0, hfz52_1, hfz52_2, hfz52_3, hfz52_4, hfz52_5, hfz52_6, hfz52_7, hfz52_8⟩ := cells9_ BK263.out))
  go_ret
  exact ⟨by first | rfl | (simp [errW_none, errW_some] <;> rfl) | (simp [*, errW_none, errW_some] <;> rfl), us_ HB.out⟩
 rw [if_pos c5] at H
 have c5b0 : (a0_2 == a1_2) = true := beq_iff_eq.mpr c5
 have c5b1 : (a0_2 != a1_2) = false := bne_eq_false_iff_eq.mpr c5
 clear c5
 by_cases c6 : a0_3 = a1_3
 rotate_left
 ·rw [if_neg c6] at H
  have c6b0 : (a0_3 == a1_3) = false := beq_eq_false_iff_ne.mpr c6
  have c6b1 : (a0_3 != a1_3) = true := bne_iff_ne.mpr c6
  obtain rfl := Option.some.inj H
  go_enter Try.func26, Try.ntmps26
  go_wp2_with (first | ((with_reducible refine gate_dst (N := 2) rfl ?_); refine box_event ?hg (N := 2) ?hd (cs := #[.int .i64 a0_0, .int .i64 a0_1, .int .i64 a0_2, .int .i64 a0_3, .int .i64 a0_4, .int .i64 a0_5, .bool a0_6, .bool a0_7, .slice A0_8 l0_8.length c0_8]) (t := 24) ?hr ?_; (case hd => rfl); (case hg => rfl); (case hr => first | (go_simp; done) | (go_simp; rfl)); intro gb262 hg w43 hbox hb; have n0_ := mk_ (below_step (ub_ HB.out) hb); have n1_ := mk_ (hbox); have n2_ := mk_ ((by rw [hg]; exact (below_size (ub_ HB.out)) : w.heap.size ≤ gb262)); have n3_ := mk_ ((by rw [hg]; exact (below_size (ub_ HB.out)) : w.heap.size ≤ gb262)); clear HB; have HB := n0_; have BK262 := n1_; have GW262 := n2_; have GE262 := ge_ n3_.out; clear n0_ n1_ n2_ n3_; clear hb hbox hg) | ((with_reducible refine gate_dst (N := 3) rfl ?_); refine box_event ?hg (N := 3) ?hd (cs := #[.int .i64 a1_0, .int .i64 a1_1, .int .i64 a1_2, .int .i64 a1_3, .int .i64 a1_4, .int .i64 a1_5, .bool a1_6, .bool a1_7, .slice A1_8 l1_8.length c1_8]) (t := 24) ?hr ?_; (case hd => rfl); (case hg => rfl); (case hr => first | (go_simp; done) | (go_simp; rfl)); intro gb263 hg w44 hbox hb; have n0_ := mk_ (blk_below (u_ BK262.out) hb); have n1_ := mk_ (below_step (us_ HB.out) hb); have n2_ := mk_ (hbox); have n3_ := mk_ ((by rw [hg]; exact (below_size (us_ HB.out)) : w.heap.size ≤ gb263)); have n4_ := mk_ ((by rw [hg]; exact (below_size (us_ HB.out)) : w.heap.size ≤ gb263)); have n5_ := mk_ ((by rw [hg]; exact Nat.ne_of_lt (blk_lt (u_ BK262.out)) : gb262 ≠ gb263)); have n6_ := mk_ ((by rw [hg]; exact Nat.ne_of_gt (blk_lt (u_ BK262.out)) : gb263 ≠ gb262)); clear BK262; clear HB; have BK262 := n0_; have HB := n1_; have BK263 := n2_; have GW263 := n3_; have GE263 := ge_ n4_.out; have NB262_263 := nq_ n5_.out; have NB263_262 := nq_ n6_.out; clear n0_ n1_ n2_ n3_ n4_ n5_ n6_; clear hb hbox hg; have hnb45 := NB262_263.out; have hnc45 := NB263_262.out; obtain ⟨hcz46_0, hcz46_1, hcz46_2, hcz46_3, hcz46_4, hcz46_5, hcz46_6, hcz46_7, hcz46_8, hfz46_0, hfz46_1, hfz46_2, hfz46_3, hfz46_4, hfz46_5, hfz46_6, hfz46_7, hfz46_8⟩ := cells9_ BK262.out; obtain ⟨hcz47_0, hcz47_1, hcz47_2, hcz47_3, hcz47_4, hcz47_5, hcz47_6, hcz47_7, hcz47_8, hfz47_0, hfz47_1, hfz47_2, hfz47_3, hfz47_4, hfz47_5, hfz47_6, hfz47_7, hfz47_8⟩ := cells9_ BK263.out))
  go_ret
  exact ⟨by first | rfl | (simp [errW_none, errW_some] <;> rfl) | (simp [*, errW_none, errW_some] <;> rfl), us_ HB.out⟩
 rw [if_pos c6] at H
 have c6b0 : (a0_3 == a1_3) = true := beq_iff_eq.mpr c6
 have c6b1 : (a0_3 != a1_3) = false := bne_eq_false_iff_eq.mpr c6
 clear c6
 by_cases c7 : a0_4 = a1_4
 rotate_left
 ·rw [if_neg c7] at H
  have c7b0 : (a0_4 == a1_4) = false := beq_eq_false_iff_ne.mpr c7
  have c7b1 : (a0_4 != a1_4) = true := bne_iff_ne.mpr c7
  obtain rfl := Option.some.inj H
  go_enter Try.func26, Try.ntmps26
  go_wp2_with (first | ((with_reducible refine gate_dst (N := 2) rfl ?_); refine box_event ?hg (N := 2) ?hd (cs := #[.int .i64 a0_0, .int .i64 a0_1, .int .i64 a0_2, .int .i64 a0_3, .int .i64 a0_4, .int .i64 a0_5, .bool a0_6, .bool a0_7, .slice A0_8 l0_8.length c0_8]) (t := 24) ?hr ?_; (case hd => rfl); (case hg => rfl); (case hr => first | (go_simp; done) | (go_simp; rfl)); intro gb262 hg w38 hbox hb; have n0_ := mk_ (below_step (ub_ HB.out) hb); have n1_ := mk_ (hbox); have n2_ := mk_ ((by rw [hg]; exact (below_size (ub_ HB.out)) : w.heap.size ≤ gb262)); have n3_ := mk_ ((by rw [hg]; exact (below_size (ub_ HB.out)) : w.heap.size ≤ gb262)); clear HB; have HB := n0_; have BK262 := n1_; have GW262 := n2_; have GE262 := ge_ n3_.out; clear n0_ n1_ n2_ n3_; clear hb hbox hg) | ((with_reducible refine gate_dst (N := 3) rfl ?_); refine box_event ?hg (N := 3) ?hd (cs := #[.int .i64 a1_0, .int .i64 a1_1, .int .i64 a1_2, .int .i64 a1_3, .int .i64 a1_4, .int .i64 a1_5, .bool a1_6, .bool a1_7, .slice A1_8 l1_8.length c1_8]) (t := 24) ?hr ?_; (case hd => rfl); (case hg => rfl); (case hr => first | (go_simp; done) | (go_simp; rfl)); intro gb263 hg w39 hbox hb; have n0_ := mk_ (blk_below (u_ BK262.out) hb); have n1_ := mk_ (below_step (us_ HB.out) hb); have n2_ := mk_ (hbox); have n3_ := mk_ ((by rw [hg]; exact (below_size (us_ HB.out)) : w.heap.size ≤ gb263)); have n4_ := mk_ ((by rw [hg]; exact (below_size (us_ HB.out)) : w.heap.size ≤ gb263)); have n5_ := mk_ ((by rw [hg]; exact Nat.ne_of_lt (blk_lt (u_ BK262.out)) : gb262 ≠ gb263)); have n6_ := mk_ ((by rw [hg]; exact Nat.ne_of_gt (blk_lt (u_ BK262.out)) : gb263 ≠ gb262)); clear BK262; clear HB; have BK262 := n0_; have HB := n1_; have BK263 := n2_; have GW263 := n3_; have GE263 := ge_ n4_.out; have NB262_263 := nq_ n5_.out; have NB263_262 := nq_ n6_.out; clear n0_ n1_ n2_ n3_ n4_ n5_ n6_; clear hb hbox hg; have hnb40 := NB262_263.out; have hnc40 := NB263_262.out; obtain ⟨hcz41_0, hcz41_1, hcz41_2, hcz41_3, hcz41_4, hcz41_5, hcz41_6, hcz41_7, hcz41_8, hfz41_0, hfz41_1, hfz41_2, hfz41_3, hfz41_4, hfz41_5, hfz41_6, hfz41_7, hfz41_8⟩ := cells9_ BK262.out; obtain ⟨hcz42_0, hcz42_1, hcz42_2, hcz42_3, hcz42_4, hcz42_5, hcz42_6, hcz42_7, hcz42_8, hfz42_0, hfz42_1, hfz42_2, hfz42_3, hfz42_4, hfz42_5, hfz42_6, hfz42_7, hfz42_8⟩ := cells9_ BK263.out))
  go_ret
  exact ⟨by first | rfl | (simp [errW_none, errW_some] <;> rfl) | (simp [*, errW_none, errW_some] <;> rfl), us_ HB.out⟩
 rw [if_pos c7] at H
 have c7b0 : (a0_4 == a1_4) = true := beq_iff_eq.mpr c7
 have c7b1 : (a0_4 != a1_4) = false := bne_eq_false_iff_eq.mpr c7
 clear c7
 by_cases c8 : a0_5 = a1_5
 rotate_left
 ·rw [if_neg c8] at H
  have c8b0 : (a0_5 == a1_5) = false := beq_eq_false_iff_ne.mpr c8
  have c8b1 : (a0_5 != a1_5) = true := bne_iff_ne.mpr c8
  obtain rfl := Option.some.inj H
  go_enter Try.func26, Try.ntmps26
  go_wp2_with (first | ((with_reducible refine gate_dst (N := 2) rfl ?_); refine box_event ?hg (N := 2) ?hd (cs := #[.int .i64 a0_0, .int .i64 a0_1, .int .i64 a0_2, .int .i64 a0_3, .int .i64 a0_4, .int .i64 a0_5, .bool a0_6, .bool a0_7, .slice A0_8 l0_8.length c0_8]) (t := 24) ?hr ?_; (case hd => rfl); (case hg => rfl); (case hr => first | (go_simp; done) | (go_simp; rfl)); intro gb262 hg w33 hbox hb; have n0_ := mk_ (below_step (ub_ HB.out) hb); have n1_ := mk_ (hbox); have n2_ := mk_ ((by rw [hg]; exact (below_size (ub_ HB.out)) : w.heap.size ≤ gb262)); have n3_ := mk_ ((by rw [hg]; exact (below_size (ub_ HB.out)) : w.heap.size ≤ gb262)); clear HB; have HB := n0_; have BK262 := n1_; have GW262 := n2_; have GE262 := ge_ n3_.out; clear n0_ n1_ n2_ n3_; clear hb hbox hg) | ((with_reducible refine gate_dst (N := 3) rfl ?_); refine box_event ?hg (N := 3) ?hd (cs := #[.int .i64 a1_0, .int .i64 a1_1, .int .i64 a1_2, .int .i64 a1_3, .int .i64 a1_4, .int .i64 a1_5, .bool a1_6, .bool a1_7, .slice A1_8 l1_8.length c1_8]) (t := 24) ?hr ?_; (case hd => rfl); (case hg => rfl); (case hr => first | (go_simp; done) | (go_simp; rfl)); intro gb263 hg w34 hbox hb; have n0_ := mk_ (blk_below (u_ BK262.out) hb); have n1_ := mk_ (below_step (us_ HB.out) hb); have n2_ := mk_ (hbox); have n3_ := mk_ ((by rw [hg]; exact (below_size (us_ HB.out)) : w.heap.size ≤ gb263)); have n4_ := mk_ ((by rw [hg]; exact (below_size (us_ HB.out)) : w.heap.size ≤ gb263)); have n5_ := mk_ ((by rw [hg]; exact Nat.ne_of_lt (blk_lt (u_ BK262.out)) : gb262 ≠ gb263)); have n6_ := mk_ ((by rw [hg]; exact Nat.ne_of_gt (blk_lt (u_ BK262.out)) : gb263 ≠ gb262)); clear BK262; clear HB; have BK262 := n0_; have HB := n1_; have BK263 := n2_; have GW263 := n3_; have GE263 := ge_ n4_.out; have NB262_263 := nq_ n5_.out; have NB263_262 := nq_ n6_.out; clear n0_ n1_ n2_ n3_ n4_ n5_ n6_; clear hb hbox hg; have hnb35 := NB262_263.out; have hnc35 := NB263_262.out; obtain ⟨hcz36_0, hcz36_1, hcz36_2, hcz36_3, hcz36_4, hcz36_5, hcz36_6, hcz36_7, hcz36_8, hfz36_0, hfz36_1, hfz36_2, hfz36_3, hfz36_4, hfz36_5, hfz36_6, hfz36_7, hfz36_8⟩ := cells9_ BK262.out; obtain ⟨hcz37_0, hcz37_1, hcz37_2, hcz37_3, hcz37_4, hcz37_5, hcz37_6, hcz37_7, hcz37_8, hfz37_0, hfz37_1, hfz37_2, hfz37_3, hfz37_4, hfz37_5, hfz37_6, hfz37_7, hfz37_8⟩ := cells9_ BK263.out))
  go_ret
  exact ⟨by first | rfl | (simp [errW_none, errW_some] <;> rfl) | (simp [*, errW_none, errW_some] <;> rfl), us_ HB.out⟩
 rw [if_pos c8] at H
 have c8b0 : (a0_5 == a1_5) = true := beq_iff_eq.mpr c8
 have c8b1 : (a0_5 != a1_5) = false := bne_eq_false_iff_eq.mpr c8
 clear c8
 by_cases c9 : (a0_6 != a1_6) = true
 ·rw [if_pos c9] at H
  have c9b0 : (a0_6 != a1_6) = true := c9
  (try (have c9b1 : decide (a0_6 = a1_6) = false := by simpa using c9))
  (try (have c9b2 : (a0_6 == a1_6) = false := by simpa using c9))
  (try (have c9b3 : ¬ (a0_6 = a1_6) := by simpa using c9))
  clear c9
  obtain rfl := Option.some.inj H
  go_enter Try.func26, Try.ntmps26
  go_wp2_with (first | ((with_reducible refine gate_dst (N := 2) rfl ?_); refine box_event ?hg (N := 2) ?hd (cs := #[.int .i64 a0_0, .int .i64 a0_1, .int .i64 a0_2, .int .i64 a0_3, .int .i64 a0_4, .int .i64 a0_5, .bool a0_6, .bool a0_7, .slice A0_8 l0_8.length c0_8]) (t := 24) ?hr ?_; (case hd => rfl); (case hg => rfl); (case hr => first | (go_simp; done) | (go_simp; rfl)); intro gb262 hg w10 hbox hb; have n0_ := mk_ (below_step (ub_ HB.out) hb); have n1_ := mk_ (hbox); have n2_ := mk_ ((by rw [hg]; exact (below_size (ub_ HB.out)) : w.heap.size ≤ gb262)); have n3_ := mk_ ((by rw [hg]; exact (below_size (ub_ HB.out)) : w.heap.size ≤ gb262)); clear HB; have HB := n0_; have BK262 := n1_; have GW262 := n2_; have GE262 := ge_ n3_.out; clear n0_ n1_ n2_ n3_; clear hb hbox hg) | ((with_reducible refine gate_dst (N := 3) rfl ?_); refine box_event ?hg (N := 3) ?hd (cs := #[.int .i64 a1_0, .int .i64 a1_1, .int .i64 a1_2, .int .i64 a1_3, .int .i64 a1_4, .int .i64 a1_5, .bool a1_6, .bool a1_7, .slice A1_8 l1_8.length c1_8]) (t := 24) ?hr ?_; (case hd => rfl); (case hg => rfl); (case hr => first | (go_simp; done) | (go_simp; rfl)); intro gb263 hg w11 hbox hb; have n0_ := mk_ (blk_below (u_ BK262.out) hb); have n1_ := mk_ (below_step (us_ HB.out) hb); have n2_ := mk_ (hbox); have n3_ := mk_ ((by rw [hg]; exact (below_size (us_ HB.out)) : w.heap.size ≤ gb263)); have n4_ := mk_ ((by rw [hg]; exact (below_size (us_ HB.out)) : w.heap.size ≤ gb263)); have n5_ := mk_ ((by rw [hg]; exact Nat.ne_of_lt (blk_lt (u_ BK262.out)) : gb262 ≠ gb263)); have n6_ := mk_ ((by rw [hg]; exact Nat.ne_of_gt (blk_lt (u_ BK262.out)) : gb263 ≠ gb262)); clear BK262; clear HB; have BK262 := n0_; have HB := n1_; have BK263 := n2_; have GW263 := n3_; have GE263 := ge_ n4_.out; have NB262_263 := nq_ n5_.out; have NB263_262 := nq_ n6_.out; clear n0_ n1_ n2_ n3_ n4_ n5_ n6_; clear hb hbox hg; have hnb12 := NB262_263.out; have hnc12 := NB263_262.out; obtain ⟨hcz13_0, hcz13_1, hcz13_2, hcz13_3, hcz13_4, hcz13_5, hcz13_6, hcz13_7, hcz13_8, hfz13_0, hfz13_1, hfz13_2, hfz13_3, hfz13_4, hfz13_5, hfz13_6, hfz13_7, hfz13_8⟩ := cells9_ BK262.out; obtain ⟨hcz14_0, hcz14_1, hcz14_2, hcz14_3, hcz14_4, hcz14_5, hcz14_6, hcz14_7, hcz14_8, hfz14_0, hfz14_1, hfz14_2, hfz14_3, hfz14_4, hfz14_5, hfz14_6, hfz14_7, hfz14_8⟩ := cells9_ BK263.out))
  go_ret
  exact ⟨by first | rfl | (simp [errW_none, errW_some] <;> rfl) | (simp [*, errW_none, errW_some] <;> rfl), us_ HB.out⟩
 rw [if_neg c9] at H
 have c9b0 : (a0_6 != a1_6) = false := by simpa using c9
 (try (have c9b1 : decide (a0_6 = a1_6) = true := by simpa using c9))
 (try (have c9b2 : (a0_6 == a1_6) = true := by simpa using c9))
 clear c9
 by_cases c15 : (a0_7 != a1_7) = true
 ·rw [if_pos c15] at H
  have c15b0 : (a0_7 != a1_7) = true := c15
  (try (have c15b1 : decide (a0_7 = a1_7) = false := by simpa using c15))
  (try (have c15b2 : (a0_7 == a1_7) = false := by simpa using c15))
  (try (have c15b3 : ¬ (a0_7 = a1_7) := by simpa using c15))
  clear c15
  obtain rfl := Option.some.inj H
  go_enter Try.func26, Try.ntmps26
  go_wp2_with (first | ((with_reducible refine gate_dst (N := 2) rfl ?_); refine box_event ?hg (N := 2) ?hd (cs := #[.int .i64 a0_0, .int .i64 a0_1, .int .i64 a0_2, .int .i64 a0_3, .int .i64 a0_4, .int .i64 a0_5, .bool a0_6, .bool a0_7, .slice A0_8 l0_8.length c0_8]) (t := 24) ?hr ?_; (case hd => rfl); (case hg => rfl); (case hr => first | (go_simp; done) | (go_simp; rfl)); intro gb262 hg w16 hbox hb; have n0_ := mk_ (below_step (ub_ HB.out) hb); have n1_ := mk_ (hbox); have n2_ := mk_ ((by rw [hg]; exact (below_size (ub_ HB.out)) : w.heap.size ≤ gb262)); have n3_ := mk_ ((by rw [hg]; exact (below_size (ub_ HB.out)) : w.heap.size ≤ gb262)); clear HB; have HB := n0_; have BK262 := n1_; have GW262 := n2_; have GE262 := ge_ n3_.out; clear n0_ n1_ n2_ n3_; clear hb hbox hg) | ((with_reducible refine gate_dst (N := 3) rfl ?_); refine box_event ?hg (N := 3) ?hd (cs := #[.int .i64 a1_0, .int .i64 a1_1, .int .i64 a1_2, .int .i64 a1_3, .int .i64 a1_4, .int .i64 a1_5, .bool a1_6, .bool a1_7, .slice A1_8 l1_8.length c1_8]) (t := 24) ?hr ?_; (case hd => rfl); (case hg => rfl); (case hr => first | (go_simp; done) | (go_simp; rfl)); intro gb263 hg w17 hbox hb; have n0_ := mk_ (blk_below (u_ BK262.out) hb); have n1_ := mk_ (below_step (us_ HB.out) hb); have n2_ := mk_ (hbox); have n3_ := mk_ ((by rw [hg]; exact (below_size (us_ HB.out)) : w.heap.size ≤ gb263)); have n4_ := mk_ ((by rw [hg]; exact (below_size (us_ HB.out)) : w.heap.size ≤ gb263)); have n5_ := mk_ ((by rw [hg]; exact Nat.ne_of_lt (blk_lt (u_ BK262.out)) : gb262 ≠ gb263)); have n6_ := mk_ ((by rw [hg]; exact Nat.ne_of_gt (blk_lt (u_ BK262.out)) : gb263 ≠ gb262)); clear BK262; clear HB; have BK262 := n0_; have HB := n1_; have BK263 := n2_; have GW263 := n3_; have GE263 := ge_ n4_.out; have NB262_263 := nq_ n5_.out; have NB263_262 := nq_ n6_.out; clear n0_ n1_ n2_ n3_ n4_ n5_ n6_; clear hb hbox hg; have hnb18 := NB262_263.out; have hnc18 := NB263_262.out; obtain ⟨hcz19_0, hcz19_1, hcz19_2, hcz19_3, hcz19_4, hcz19_5, hcz19_6, hcz19_7, hcz19_8, hfz19_0, hfz19_1, hfz19_2, hfz19_3, hfz19_4, hfz19_5, hfz19_6, hfz19_7, hfz19_8⟩ := cells9_ BK262.out; obtain ⟨hcz20_0, hcz20_1, hcz20_2, hcz20_3, hcz20_4, hcz20_5, hcz20_6, hcz20_7, hcz20_8, hfz20_0, hfz20_1, hfz20_2, hfz20_3, hfz20_4, hfz20_5, hfz20_6, hfz20_7, hfz20_8⟩ := cells9_ BK263.out))
  go_ret
  exact ⟨by first | rfl | (simp [errW_none, errW_some] <;> rfl) | (simp [*, errW_none, errW_some] <;> rfl), us_ HB.out⟩
 rw [if_neg c15] at H
 have c15b0 : (a0_7 != a1_7) = false := by simpa using c15
 (try (have c15b1 : decide (a0_7 = a1_7) = true := by simpa using c15))
 (try (have c15b2 : (a0_7 == a1_7) = true := by simpa using c15))
 clear c15
 replace H := Option.bind_eq_some_iff.mp H
 obtain ⟨t264, A210, H⟩ := H
 replace H : (if t264 = true then (some true) else (some false)) = some r := H
 have A21 := mk_ A210
 clear A210
 by_cases c22 : t264 = true
 ·subst c22
  have H1 : (some true) = some r := by rw [if_pos rfl] at H; exact H
  clear H
  have H := H1
  clear H1
  obtain rfl := Option.some.inj H
  go_enter Try.func26, Try.ntmps26
  go_wp2_with (first | ((with_reducible refine gate_dst (N := 2) rfl ?_); refine box_event ?hg (N := 2) ?hd (cs := #[.int .i64 a0_0, .int .i64 a0_1, .int .i64 a0_2, .int .i64 a0_3, .int .i64 a0_4, .int .i64 a0_5, .bool a0_6, .bool a0_7, .slice A0_8 l0_8.length c0_8]) (t := 24) ?hr ?_; (case hd => rfl); (case hg => rfl); (case hr => first | (go_simp; done) | (go_simp; rfl)); intro gb262 hg w23 hbox hb; have n0_ := mk_ (below_step (ub_ HB.out) hb); have n1_ := mk_ (hbox); have n2_ := mk_ ((by rw [hg]; exact (below_size (ub_ HB.out)) : w.heap.size ≤ gb262)); have n3_ := mk_ ((by rw [hg]; exact (below_size (ub_ HB.out)) : w.heap.size ≤ gb262)); clear HB; have HB := n0_; have BK262 := n1_; have GW262 := n2_; have GE262 := ge_ n3_.out; clear n0_ n1_ n2_ n3_; clear hb hbox hg) | ((with_reducible refine gate_dst (N := 3) rfl ?_); refine box_event ?hg (N := 3) ?hd (cs := #[.int .i64 a1_0, .int .i64 a1_1, .int .i64 a1_2, .int .i64 a1_3, .int .i64 a1_4, .int .i64 a1_5, .bool a1_6, .bool a1_7, .slice A1_8 l1_8.length c1_8]) (t := 24) ?hr ?_; (case hd => rfl); (case hg => rfl); (case hr => first | (go_simp; done) | (go_simp; rfl)); intro gb263 hg w24 hbox hb; have n0_ := mk_ (blk_below (u_ BK262.out) hb); have n1_ := mk_ (below_step (us_ HB.out) hb); have n2_ := mk_ (hbox); have n3_ := mk_ ((by rw [hg]; exact (below_size (us_ HB.out)) : w.heap.size ≤ gb263)); have n4_ := mk_ ((by rw [hg]; exact (below_size (us_ HB.out)) : w.heap.size ≤ gb263)); have n5_ := mk_ ((by rw [hg]; exact Nat.ne_of_lt (blk_lt (u_ BK262.out)) : gb262 ≠ gb263)); have n6_ := mk_ ((by rw [hg]; exact Nat.ne_of_gt (blk_lt (u_ BK262.out)) : gb263 ≠ gb262)); clear BK262; clear HB; have BK262 := n0_; have HB := n1_; have BK263 := n2_; have GW263 := n3_; have GE263 := ge_ n4_.out; have NB262_263 := nq_ n5_.out; have NB263_262 := nq_ n6_.out; clear n0_ n1_ n2_ n3_ n4_ n5_ n6_; clear hb hbox hg; have hnb25 := NB262_263.out; have hnc25 := NB263_262.out; obtain ⟨hcz26_0, hcz26_1, hcz26_2, hcz26_3, hcz26_4, hcz26_5, hcz26_6, hcz26_7, hcz26_8, hfz26_0, hfz26_1, hfz26_2, hfz26_3, hfz26_4, hfz26_5, hfz26_6, hfz26_7, hfz26_8⟩ := cells9_ BK262.out; obtain ⟨hcz27_0, hcz27_1, hcz27_2, hcz27_3, hcz27_4, hcz27_5, hcz27_6, hcz27_7, hcz27_8, hfz27_0, hfz27_1, hfz27_2, hfz27_3, hfz27_4, hfz27_5, hfz27_6, hfz27_7, hfz27_8⟩ := cells9_ BK263.out) | ((with_reducible refine gate_callee (f := 65) rfl ?_); refine goesL_ (some 49) rfl rfl Try.func65 (by kernel_rfl) rfl #[.slice A0_8 l0_8.length c0_8, .slice A1_8 l1_8.length c1_8] rfl (by (try simp only [lm_, lo_, ln_]); first | done | rfl | (simp only [List.length_drop, List.length_take]; rfl)) ?_; (with_reducible refine (laws_eqByteS.calls k _ _ l0_8 _ _ l1_8 true _ ?side1 ?side2 ?side3 ?side4 A21.out).mono ?_); (case side1 => repeat (first | exact (Kd.C_below HR0_8.out HB.out) | (with_reducible refine Kd.C_alloc ?_ _) | (with_reducible refine Kd.C_drewN ?_ _) | (with_reducible refine Kd.C_drew ?_))); (case side2 => exact HC0_8.out); (case side3 => repeat (first | exact (Kd.C_below HR1_8.out HB.out) | (with_reducible refine Kd.C_alloc ?_ _) | (with_reducible refine Kd.C_drewN ?_ _) | (with_reducible refine Kd.C_drew ?_))); (case side4 => exact HC1_8.out); rintro e w' ⟨rfl, ⟨nd, rfl⟩⟩; refine ⟨_, rfl, ?_⟩))
  go_ret
  exact ⟨by first | rfl | (simp [errW_none, errW_some] <;> rfl) | (simp [*, errW_none, errW_some] <;> rfl), us_ HB.out⟩
 replace c22 := Bool.eq_false_iff.mpr c22
 subst c22
 have H1 : (some false) = some r := by rw [if_neg (show ¬ (false = true) by decide)] at H; exact H
 clear H
 have H := H1
 clear H1
 obtain rfl := Option.some.inj H
 go_enter Try.func26, Try.ntmps26
 go_wp2_with (first | ((with_reducible refine gate_dst (N := 2) rfl ?_); refine box_event ?hg (N := 2) ?hd (cs := #[.int .i64 a0_0, .int .i64 a0_1, .int .i64 a0_2, .int .i64 a0_3, .int .i64 a0_4, .int .i64 a0_5, .bool a0_6, .bool a0_7, .slice A0_8 l0_8.length c0_8]) (t := 24) ?hr ?_; (case hd => rfl); (case hg => rfl); (case hr => first | (go_simp; done) | (go_simp; rfl)); intro gb262 hg w28 hbox hb; have n0_ := mk_ (below_step (ub_ HB.out) hb); have n1_ := mk_ (hbox); have n2_ := mk_ ((by rw [hg]; exact (below_size (ub_ HB.out)) : w.heap.size ≤ gb262)); have n3_ := mk_ ((by rw [hg]; exact (below_size (ub_ HB.out)) : w.heap.size ≤ gb262)); clear HB; have HB := n0_; have BK262 := n1_; have GW262 := n2_; have GE262 := ge_ n3_.out; clear n0_ n1_ n2_ n3_; clear hb hbox hg) | ((with_reducible refine gate_dst (N := 3) rfl ?_); refine box_event ?hg (N := 3) ?hd (cs := #[.int .i64 a1_0, .int .i64 a1_1, .int .i64 a1_2, .int .i64 a1_3, .int .i64 a1_4, .int .i64 a1_5, .bool a1_6, .bool a1_7, .slice A1_8 l1_8.length c1_8]) (t := 24) ?hr ?_; (case hd => rfl); (case hg => rfl); (case hr => first | (go_simp; done) | (go_simp; rfl)); intro gb263 hg w29 hbox hb; have n0_ := mk_ (blk_below (u_ BK262.out) hb); have n1_ := mk_ (below_step (us_ HB.out) hb); have n2_ := mk_ (hbox); have n3_ := mk_ ((by rw [hg]; exact (below_size (us_ HB.out)) : w.heap.size ≤ gb263)); have n4_ := mk_ ((by rw [hg]; exact (below_size (us_ HB.out)) : w.heap.size ≤ gb263)); have n5_ := mk_ ((by rw [hg]; exact Nat.ne_of_lt (blk_lt (u_ BK262.out)) : gb262 ≠ gb263)); have n6_ := mk_ ((by rw [hg]; exact Nat.ne_of_gt (blk_lt (u_ BK262.out)) : gb263 ≠ gb262)); clear BK262; clear HB; have BK262 := n0_; have HB := n1_; have BK263 := n2_; have GW263 := n3_; have GE263 := ge_ n4_.out; have NB262_263 := nq_ n5_.out; have NB263_262 := nq_ n6_.out; clear n0_ n1_ n2_ n3_ n4_ n5_ n6_; clear hb hbox hg; have hnb30 := NB262_263.out; have hnc30 := NB263_262.out; obtain ⟨hcz31_0, hcz31_1, hcz31_2, hcz31_3, hcz31_4, hcz31_5, hcz31_6, hcz31_7, hcz31_8, hfz31_0, hfz31_1, hfz31_2, hfz31_3, hfz31_4, hfz31_5, hfz31_6, hfz31_7, hfz31_8⟩ := cells9_ BK262.out; obtain ⟨hcz32_0, hcz32_1, hcz32_2, hcz32_3, hcz32_4, hcz32_5, hcz32_6, hcz32_7, hcz32_8, hfz32_0, hfz32_1, hfz32_2, hfz32_3, hfz32_4, hfz32_5, hfz32_6, hfz32_7, hfz32_8⟩ := cells9_ BK263.out) | ((with_reducible refine gate_callee (f := 65) rfl ?_); refine goesL_ (some 49) rfl rfl Try.func65 (by kernel_rfl) rfl #[.slice A0_8 l0_8.length c0_8, .slice A1_8 l1_8.length c1_8] rfl (by (try simp only [lm_, lo_, ln_]); first | done | rfl | (simp only [List.length_drop, List.length_take]; rfl)) ?_; (with_reducible refine (laws_eqByteS.calls k _ _ l0_8 _ _ l1_8 false _ ?side1 ?side2 ?side3 ?side4 A21.out).mono ?_); (case side1 => repeat (first | exact (Kd.C_below HR0_8.out HB.out) | (with_reducible refine Kd.C_alloc ?_ _) | (with_reducible refine Kd.C_drewN ?_ _) | (with_reducible refine Kd.C_drew ?_))); (case side2 => exact HC0_8.out); (case side3 => repeat (first | exact (Kd.C_below HR1_8.out HB.out) | (with_reducible refine Kd.C_alloc ?_ _) | (with_reducible refine Kd.C_drewN ?_ _) | (with_reducible refine Kd.C_drew ?_))); (case side4 => exact HC1_8.out); rintro e w' ⟨rfl, ⟨nd, rfl⟩⟩; refine ⟨_, rfl, ?_⟩))
 go_ret
 exact ⟨by first | rfl | (simp [errW_none, errW_some] <;> rfl) | (simp [*, errW_none, errW_some] <;> rfl), us_ HB.out⟩

/-! ### laws_markByteS: function 66 -/
def laws_markByteS.l0 : Nat → List Int → Int → Int → Option (Int × List Int)
 | 0, _, _, _ => none
 | k + 1, x0, x1, x5 => if x5 < (x0.length : Int) then (if 0 ≤ x5 then (laws_markByteS.l0 k (x0.set (x5 : Int).toNat ((x1) % 256)) (wrap64 (x1 + 1)) (wrap64 (x5 + 1))) else (none)) else (some (x1, x0))
def laws_markByteS.f (k : Nat) (l0 : List Int) (a1 : Int) : Option (Int × List Int) := laws_markByteS.l0 k l0 a1 0
theorem laws_markByteS.mono_l : ∀ k, (∀ y0 y1 y2, LeO (laws_markByteS.l0 k y0 y1 y2) (laws_markByteS.l0 (k + 1) y0 y1 y2))
 | 0 => fun _ _ _ r h => by simp [laws_markByteS.l0] at h
 | k + 1 => by
  have ih0 := laws_markByteS.mono_l k
  ·intro y0 y1 y2
   unfold laws_markByteS.l0
   repeat' first
   | (with_reducible exact ih0 _ _ _)
   | (with_reducible exact LeO.refl _)
   | (with_reducible exact LeO.none _)
   | (with_reducible refine LeO.ite ?_ ?_)
   | (with_reducible refine LeO.bind ?_ (fun _ => ?_))
   | exact ih0 _ _ _
   | exact LeO.none _
   | refine LeO.ite ?_ ?_
   | refine LeO.bind ?_ (fun _ => ?_)
theorem laws_markByteS.mono : ∀ a0 a1 k, LeO (laws_markByteS.f k a0 a1) (laws_markByteS.f (k + 1) a0 a1) := by
 intro a0 a1 k
 have ih0 := laws_markByteS.mono_l k
 unfold laws_markByteS.f
 repeat' first
   | (with_reducible exact ih0 _ _ _)
   | (with_reducible exact LeO.refl _)
   | (with_reducible exact LeO.none _)
   | (with_reducible refine LeO.ite ?_ ?_)
   | (with_reducible refine LeO.bind ?_ (fun _ => ?_))
   | exact ih0 _ _ _
   | exact LeO.none _
   | refine LeO.ite ?_ ?_
   | refine LeO.bind ?_ (fun _ => ?_)
set_option maxHeartbeats 8000000 in
set_option maxRecDepth 100000 in
theorem laws_markByteS.calls (k : Nat) (P0_ : Nat → Prop) (u9000_ : Value) (l0 : List Int) (a1 : Int) (r1 : Int) (r2 : List Int) (w0 w : World) (hB : Below w0.heap.size w0 w) (ho0 : Kd.R (Kd.int .u8) 5 w w0.heap.size P0_ u9000_ l0) (h : laws_markByteS.f k l0 a1 = some (r1, r2)) :
  Calls Try.prog 66 #[u9000_, .int .i64 a1] w fun e w' => e = .returned (.int .i64 r1) ∧ Kd.R (Kd.int .u8) 5 w' w0.heap.size (fun k_ => (P0_ k_ ∨ w.heap.size ≤ k_)) u9000_ r2 ∧ Below w0.heap.size w0 w' ∧ Kept w w' (fun k_ => P0_ k_) := by
 have HO0 := mk_ (show Kd.R (Kd.int .u8) 5 w w0.heap.size (fun k_ => (P0_ k_ ∨ w.heap.size ≤ k_)) u9000_ l0 from Kd.R_mono ho0 (fun k_ hk => (.inl hk)))
 have HK := mk_ (Kept.refl w (fun k_ => P0_ k_))
 have HW0 := mk_ hB.size
 have HB := mk_ hB
 clear hB
 have H : (laws_markByteS.l0 k l0 a1 0) = some (r1, r2) := h
 clear h
 have H' := mk_ H
 clear H
 go_enter Try.func66, Try.ntmps66
 go_wp2
 go_loopg [1, 5] k (fun kq v1 v5 w' => ∃ (x0_1 : List Int) (x1_1 : Int) (x5_1 : Int), v1 = .int .i64 x1_1 ∧ v5 = .int .i64 x5_1 ∧ Aside0 (laws_markByteS.l0 kq x0_1 x1_1 x5_1 = some (r1, r2)) ∧ Aside0 (kq ≤ k) ∧ Aside0 (Kd.R (Kd.int .u8) 5 w' w0.heap.size (fun k_ => (P0_ k_ ∨ w.heap.size ≤ k_)) u9000_ x0_1) ∧ Aside0 (Kept w w' (fun k_ => P0_ k_)) ∧ Aside0 (Below w0.heap.size w0 w'))
 case atStart => exact ⟨(l0), (a1), (0), (by first | rfl | (simp; done) | (simp [*]; done)), (by first | rfl | (simp; done) | (simp [*]; done)), H', ⟨Nat.le_refl _⟩, ⟨Kd.ur_ HO0.out⟩, ⟨by repeat (first | (with_reducible first | exact HK.out | apply Kept.alloc | apply Kept.drewN | apply Kept.drew) | exact HK.out)⟩, ⟨ub_ HB.out⟩⟩
 case round =>
  clear H'
  try clear p2
  obtain ⟨x0_1, x1_1, x5_1, rfl, rfl, HA, HK1, HO_0, HK, HB⟩ := hrel
  cases gk with
  | zero => exact absurd HA.out (by simp [laws_markByteS.l0])
  | succ k1 =>
   have H := HA.out
   clear HA
   simp only [laws_markByteS.l0] at H
   by_cases c3 : x5_1 < (x0_1.length : Int)
   rotate_left
   ·rw [if_neg c3] at H
    have c3b0 : decide (x5_1 < (x0_1.length : Int)) = false := decide_eq_false c3
    clear c3
    simp only [Option.some.injEq, Prod.mk.injEq] at H
    obtain ⟨rfl, rfl⟩ := H
    obtain ⟨Ao9, co9, eo9⟩ := Kd.R_slice HO_0.out
    subst eo9
    go_wp2
    go_ret
    exact ⟨by first | rfl | (simp [errW_none, errW_some] <;> rfl) | (simp [*, errW_none, errW_some] <;> rfl), by (with_reducible repeat (first | apply Kd.R_alloc | apply Kd.R_drewN | apply Kd.R_drew)); exact HO_0.out, by repeat (first | (with_reducible first | exact HB.out | apply na_ | apply nn_ | apply nw_) | exact HB.out), by repeat (first | (with_reducible first | exact HK.out | apply Kept.alloc | apply Kept.drewN | apply Kept.drew) | exact HK.out)⟩
   rw [if_pos c3] at H
   have c3b0 : decide (x5_1 < (x0_1.length : Int)) = true := decide_eq_true c3
   clear c3
   by_cases c4 : 0 ≤ x5_1
   rotate_left
   ·rw [if_neg c4] at H
    exact absurd H (by simp)
   rw [if_pos c4] at H
   have c4b0 : decide (0 ≤ x5_1) = true := decide_eq_true c4
   clear c4
   obtain ⟨y265, hy265⟩ : ∃ y_ : List Int, y_ = (x0_1.set (x5_1 : Int).toNat ((x1_1) % 256)) := ⟨_, rfl⟩
   replace H : (laws_markByteS.l0 k1 y265 (wrap64 (x1_1 + 1)) (wrap64 (x5_1 + 1))) = some (r1, r2) := by first | (rw [hy265]; with_reducible exact H) | (have H2_ := (Option.bind_some _ _).symm.trans H; rw [hy265]; with_reducible exact H2_) | (have H2_ := (Option.bind_some _ _).symm.trans H; with_reducible exact H2_) | with_reducible exact H | (rw [hy265]; exact H) | exact H
   have Ny265 := mk_ hy265
   clear hy265
   have H' := mk_ H
   clear H
   obtain ⟨Ao6, co6, eo6⟩ := Kd.R_slice HO_0.out
   subst eo6
   have p5 : 0 ≤ (x5_1 : Int) := of_decide_eq_true (by first | (with_reducible assumption) | assumption)
   have q5 : (x5_1 : Int) < ((x0_1.length : Int) : Int) := of_decide_eq_true (by first | (with_reducible assumption) | assumption)
   obtain ⟨go5, co5, eo5, gb5, gl5, cl5, HG5⟩ := Kd.R_form HO_0.out (by omega)
   (first | cases eo5 | (injection eo5 with ea_ en_ ec_; (first | subst ea_ | (injection ea_ with ea_; subst ea_)); subst ec_; clear en_))
   have GB5 := mk_ gb5
   have GG5 := mk_ HG5
   clear gb5 gl5 HG5
   have HMgo5 := mk_ (show (P0_ go5 ∨ w.heap.size ≤ go5) from (HO_0.out.1 _ rfl))
   obtain ⟨hx5_0, hf5_0⟩ := Kd.R_celln 0 HO_0.out (x5_1 : Int) p5 q5
   replace p5 := eq_true p5
   replace q5 := eq_true q5
   have HP7 := Kd.R_putg HO_0.out (x5_1 : Int) ((x1_1) % 256)
   go_wp2_with (first | ((with_reducible refine gate_store (t := 5) (p := 16) rfl ?_); refine store_event (t := 5) (p := 16) (v := ?vo_w8) (w1 := (wr.setCell ⟨go5, (x5_1 : Int).toNat, none⟩ (.int .u8 ((x1_1) % 256)))) ?hg ?ho ?hn ?hr ?_; (case ho => rfl); (case hg => rfl); (case hn => rfl); (case hr => first | (go_simp; done) | (go_simp; rfl)); intro w8 hw; have hg : wr.grownBy w8 (some go5) := (by rw [hw]; exact HP7.2); have hp_ : Kd.R (Kd.int .u8) 5 w8 w0.heap.size (fun k_ => (P0_ k_ ∨ w.heap.size ≤ k_)) (.slice (some ⟨go5, 0, none⟩) x0_1.length co6) y265 := (by rw [hw, Ny265.out]; exact HP7.1); clear HP7; have n0_ := mk_ (hp_); have n1_ := mk_ ((by rw [hw]; exact below_set (HB.out) GB5.out : Below w0.heap.size w0 w8)); have n2_ := mk_ (Kept.of_grown (S := (fun k_ => P0_ k_)) hg (by repeat (first | (with_reducible first | exact HK.out | apply Kept.alloc | apply Kept.drewN | apply Kept.drew) | exact HK.out)) (fun k_ e_ => (HO_0.out.1 k_ e_))); clear HO_0; clear HB; clear HK; have HO_0 := n0_; have HB := n1_; have HK := n2_; clear n0_ n1_ n2_; clear hg hw hp_))
   go_roundg k1
   case measure => have := HK1.out; omega
   case rel => exact ⟨(y265), (wrap64 (x1_1 + 1)), (wrap64 (x5_1 + 1)), (by first | rfl | (simp; done) | (simp [*]; done)), (by first | rfl | (simp; done) | (simp [*]; done)), H', ⟨by have := HK1.out; omega⟩, ⟨Kd.ur_ HO_0.out⟩, ⟨by repeat (first | (with_reducible first | exact HK.out | apply Kept.alloc | apply Kept.drewN | apply Kept.drew) | exact HK.out)⟩, ⟨ub_ HB.out⟩⟩

/-! ### laws_markPacket: function 27 -/
def laws_markPacket.f (k : Nat) (a0_0 : Int) (a0_1 : Int) (a0_2 : Int) (a0_3 : Int) (a0_4 : Int) (a0_5 : Int) (a0_6 : Bool) (a0_7 : Bool) (l0_8 : List Int) (a1 : Int) : Option (Int × List Int) := (laws_markByteS.f k l0_8 a1).bind fun bt267 => (some (bt267.1, bt267.2))
theorem laws_markPacket.mono : ∀ a0 a1 a2 a3 a4 a5 a6 a7 a8 a9 k, LeO (laws_markPacket.f k a0 a1 a2 a3 a4 a5 a6 a7 a8 a9) (laws_markPacket.f (k + 1) a0 a1 a2 a3 a4 a5 a6 a7 a8 a9) := by
 intro a0 a1 a2 a3 a4 a5 a6 a7 a8 a9 k
 unfold laws_markPacket.f
 repeat' first
   | (with_reducible exact laws_markByteS.mono _ _ _)
   | (with_reducible exact LeO.refl _)
   | (with_reducible exact LeO.none _)
   | (with_reducible refine LeO.ite ?_ ?_)
   | (with_reducible refine LeO.bind ?_ (fun _ => ?_))
   | exact laws_markByteS.mono _ _ _
   | exact LeO.none _
   | refine LeO.ite ?_ ?_
   | refine LeO.bind ?_ (fun _ => ?_)
set_option maxHeartbeats 8000000 in
set_option maxRecDepth 100000 in
theorem laws_markPacket.calls (k : Nat) (a0_0 : Int) (a0_1 : Int) (a0_2 : Int) (a0_3 : Int) (a0_4 : Int) (a0_5 : Int) (a0_6 : Bool) (a0_7 : Bool) (P0_8_ : Nat → Prop) (u9000_ : Value) (l0_8 : List Int) (a1 : Int) (r1 : Int) (r2 : List Int) (w0 w : World) (hB : Below w0.heap.size w0 w) (ho0_8 : Kd.R (Kd.int .u8) 5 w w0.heap.size P0_8_ u9000_ l0_8) (h : laws_markPacket.f k a0_0 a0_1 a0_2 a0_3 a0_4 a0_5 a0_6 a0_7 l0_8 a1 = some (r1, r2)) :
  Calls Try.prog 27 #[.agg #[.int .i64 a0_0, .int .i64 a0_1, .int .i64 a0_2, .int .i64 a0_3, .int .i64 a0_4, .int .i64 a0_5, .bool a0_6, .bool a0_7, u9000_], .int .i64 a1] w fun e w' => e = .returned (.int .i64 r1) ∧ Kd.R (Kd.int .u8) 5 w' w0.heap.size (fun k_ => (P0_8_ k_ ∨ w.heap.size ≤ k_)) u9000_ r2 ∧ Below w0.heap.size w0 w' ∧ Kept w w' (fun k_ => P0_8_ k_) := by
 have hu24 := Try.underlying24
 have HO0_8 := mk_ (show Kd.R (Kd.int .u8) 5 w w0.heap.size (fun k_ => (P0_8_ k_ ∨ w.heap.size ≤ k_)) u9000_ l0_8 from Kd.R_mono ho0_8 (fun k_ hk => (.inl hk)))
 have HK := mk_ (Kept.refl w (fun k_ => P0_8_ k_))
 have HW0 := mk_ hB.size
 have HB := mk_ hB
 clear hB
 have H : ((laws_markByteS.f k l0_8 a1).bind fun bt267 => (some (bt267.1, bt267.2))) = some (r1, r2) := h
 clear h
 replace H := Option.bind_eq_some_iff.mp H
 obtain ⟨⟨t267, t268⟩, A30, H⟩ := H
 replace H : (some (t267, t268)) = some (r1, r2) := H
 have A3 := mk_ A30
 clear A30
 simp only [Option.some.injEq, Prod.mk.injEq] at H
 obtain ⟨rfl, rfl⟩ := H
 obtain ⟨Ao4, co4, eo4⟩ := Kd.R_slice HO0_8.out
 subst eo4
 go_enter Try.func27, Try.ntmps27
 go_wp2_with (first | ((with_reducible refine gate_dst (N := 2) rfl ?_); refine box_event ?hg (N := 2) ?hd (cs := #[.int .i64 a0_0, .int .i64 a0_1, .int .i64 a0_2, .int .i64 a0_3, .int .i64 a0_4, .int .i64 a0_5, .bool a0_6, .bool a0_7, .slice Ao4 l0_8.length co4]) (t := 24) ?hr ?_; (case hd => rfl); (case hg => rfl); (case hr => first | (go_simp; done) | (go_simp; rfl)); intro gb266 hg w5 hbox hb; have n0_ := mk_ (Kd.R_below (Kd.ur_ HO0_8.out) hb); have n1_ := mk_ (Kept.below (S := (fun k_ => P0_8_ k_)) (by repeat (first | (with_reducible first | exact HK.out | apply Kept.alloc | apply Kept.drewN | apply Kept.drew) | exact HK.out)) hb); have n2_ := mk_ (below_step (ub_ HB.out) hb); have n3_ := mk_ (hbox); have n4_ := mk_ ((by rw [hg]; exact (by first | exact HK.out.1 | exact (show Kept w _ (fun k_ => P0_8_ k_) from by repeat (first | (with_reducible first | exact HK.out | apply Kept.alloc | apply Kept.drewN | apply Kept.drew) | exact HK.out)).1) : w.heap.size ≤ gb266)); have n5_ := mk_ ((by rw [hg]; exact (below_size (ub_ HB.out)) : w0.heap.size ≤ gb266)); clear HO0_8; clear HK; clear HB; have HO0_8 := n0_; have HK := n1_; have HB := n2_; have BK266 := n3_; have GW266 := n4_; have GE266 := ge_ n5_.out; clear n0_ n1_ n2_ n3_ n4_ n5_; clear hb hbox hg; obtain ⟨hcz6_0, hcz6_1, hcz6_2, hcz6_3, hcz6_4, hcz6_5, hcz6_6, hcz6_7, hcz6_8, hfz6_0, hfz6_1, hfz6_2, hfz6_3, hfz6_4, hfz6_5, hfz6_6, hfz6_7, hfz6_8⟩ := cells9_ BK266.out) | ((with_reducible refine gate_callee (f := 66) rfl ?_); refine goesL_ (some 8) rfl rfl Try.func66 (by kernel_rfl) rfl #[.slice Ao4 l0_8.length co4, .int .i64 a1] rfl (by (try simp only [lm_, lo_, ln_]); first | done | rfl | (simp only [List.length_drop, List.length_take]; rfl)) ?_; (with_reducible refine (laws_markByteS.calls k (fun k_ => some k_ = (.slice Ao4 l0_8.length co4 : Value).ownBlock) (.slice Ao4 l0_8.length co4) l0_8 a1 t267 t268 w0 _ ?side1 ?side2 A3.out).mono ?_); (case side1 => repeat (first | (with_reducible first | exact HB.out | apply na_ | apply nn_ | apply nw_ | refine bs_ ?_ GE266.out) | exact HB.out)); (case side2 => exact Kd.R_tight rfl HO0_8.out); rintro e w7 ⟨rfl, hy0, hb, hkp⟩; refine ⟨_, rfl, ?_⟩; have n0_ := mk_ (Kd.R_reok rfl hy0 (fun k_ e_ => HO0_8.out.1 k_ e_)); have n1_ := mk_ (blk_kept (u_ BK266.out) hkp (fun hs_ => (fun e_ => (Kd.R_ne HO0_8.out BK266.out (by decide)) e_) hs_)); have n2_ := mk_ (Kept.then_ (S := (fun k_ => P0_8_ k_)) (by repeat (first | (with_reducible first | exact HK.out | apply Kept.alloc | apply Kept.drewN | apply Kept.drew | refine Kept.setCell ?_ (.inr GW266.out) _) | exact HK.out)) hkp (fun k_ hs_ => (fun e_ => (HO0_8.out.1 k_ e_.symm)) hs_)); have n3_ := mk_ (hb); clear HO0_8; clear BK266; clear HK; clear HB; have HO0_8 := n0_; have BK266 := n1_; have HK := n2_; have HB := n3_; clear n0_ n1_ n2_ n3_; (try clear hb); (try clear hkp); (try clear hy0)))
 go_ret
 exact ⟨by first | rfl | (simp [errW_none, errW_some] <;> rfl) | (simp [*, errW_none, errW_some] <;> rfl), by (with_reducible repeat (first | apply Kd.R_alloc | apply Kd.R_drewN | apply Kd.R_drew)); exact HO0_8.out, by repeat (first | (with_reducible first | exact HB.out | apply na_ | apply nn_ | apply nw_ | refine bs_ ?_ GE266.out) | exact HB.out), by repeat (first | (with_reducible first | exact HK.out | apply Kept.alloc | apply Kept.drewN | apply Kept.drew | refine Kept.setCell ?_ (.inr GW266.out) _) | exact HK.out)⟩

/-! ### laws_heldByteS: function 67 -/
def laws_heldByteS.l0 : Nat → List Int → Int → Int → Option (Int)
 | 0, _, _, _ => none
 | k + 1, x0, x1, x5 => if x5 < (x0.length : Int) then (if 0 ≤ x5 then (if (rd x0 x5) = ((x1) % 256) then (laws_heldByteS.l0 k x0 (wrap64 (x1 + 1)) (wrap64 (x5 + 1))) else (some (-1))) else (none)) else (some x1)
def laws_heldByteS.f (k : Nat) (l0 : List Int) (a1 : Int) : Option (Int) := laws_heldByteS.l0 k l0 a1 0
theorem laws_heldByteS.mono_l : ∀ k, (∀ y0 y1 y2, LeO (laws_heldByteS.l0 k y0 y1 y2) (laws_heldByteS.l0 (k + 1) y0 y1 y2))
 | 0 => fun _ _ _ r h => by simp [laws_heldByteS.l0] at h
 | k + 1 => by
  have ih0 := laws_heldByteS.mono_l k
  ·intro y0 y1 y2
   unfold laws_heldByteS.l0
   repeat' first
   | (with_reducible exact ih0 _ _ _)
   | (with_reducible exact LeO.refl _)
   | (with_reducible exact LeO.none _)
   | (with_reducible refine LeO.ite ?_ ?_)
   | (with_reducible refine LeO.bind ?_ (fun _ => ?_))
   | exact ih0 _ _ _
   | exact LeO.none _
   | refine LeO.ite ?_ ?_
   | refine LeO.bind ?_ (fun _ => ?_)
theorem laws_heldByteS.mono : ∀ a0 a1 k, LeO (laws_heldByteS.f k a0 a1) (laws_heldByteS.f (k + 1) a0 a1) := by
 intro a0 a1 k
 have ih0 := laws_heldByteS.mono_l k
 unfold laws_heldByteS.f
 repeat' first
   | (with_reducible exact ih0 _ _ _)
   | (with_reducible exact LeO.refl _)
   | (with_reducible exact LeO.none _)
   | (with_reducible refine LeO.ite ?_ ?_)
   | (with_reducible refine LeO.bind ?_ (fun _ => ?_))
   | exact ih0 _ _ _
   | exact LeO.none _
   | refine LeO.ite ?_ ?_
   | refine LeO.bind ?_ (fun _ => ?_)
set_option maxHeartbeats 8000000 in
set_option maxRecDepth 100000 in
theorem laws_heldByteS.calls (k : Nat) (A0 : Option Addr) (c0 : Nat) (l0 : List Int) (a1 : Int) (r : Int) (w : World) (hr0 : Kd.C (Kd.int .u8) w A0 l0.length l0) (hc0 : l0.length ≤ c0) (h : laws_heldByteS.f k l0 a1 = some r) :
  Calls Try.prog 67 #[.slice A0 l0.length c0, .int .i64 a1] w fun e w' => e = .returned (.int .i64 r) ∧ Drawn0 w w' := by
 have HR0 := mk_ hr0
 have HC0 := mk_ hc0
 clear hr0 hc0
 have H : (laws_heldByteS.l0 k l0 a1 0) = some r := h
 clear h
 have H' := mk_ H
 clear H
 go_enter Try.func67, Try.ntmps67
 go_wp2
 go_loopg [1, 5] k (fun kq v1 v5 w' => ∃ (x1_1 : Int) (x5_1 : Int), v1 = .int .i64 x1_1 ∧ v5 = .int .i64 x5_1 ∧ Aside0 (laws_heldByteS.l0 kq l0 x1_1 x5_1 = some r) ∧ Aside0 (kq ≤ k) ∧ Drawn0 w w')
 case atStart => exact ⟨(a1), (0), (by first | rfl | (simp; done) | (simp [*]; done)), (by first | rfl | (simp; done) | (simp [*]; done)), H', ⟨Nat.le_refl _⟩, by repeat (first | exact Drawn0.refl _ | apply Drawn0.step)⟩
 case round =>
  clear H'
  try clear p2
  obtain ⟨x1_1, x5_1, rfl, rfl, HA, HK1, ⟨m1, rfl⟩⟩ := hrel
  cases gk with
  | zero => exact absurd HA.out (by simp [laws_heldByteS.l0])
  | succ k1 =>
   have H := HA.out
   clear HA
   simp only [laws_heldByteS.l0] at H
   by_cases c3 : x5_1 < (l0.length : Int)
   rotate_left
   ·rw [if_neg c3] at H
    have c3b0 : decide (x5_1 < (l0.length : Int)) = false := decide_eq_false c3
    clear c3
    obtain rfl := Option.some.inj H
    go_wp2
    go_ret
    exact ⟨by first | rfl | (simp; done) | (simp [*]; done), by repeat (first | exact Drawn0.refl _ | apply Drawn0.step)⟩
   rw [if_pos c3] at H
   have c3b0 : decide (x5_1 < (l0.length : Int)) = true := decide_eq_true c3
   clear c3
   by_cases c4 : 0 ≤ x5_1
   rotate_left
   ·rw [if_neg c4] at H
    exact absurd H (by simp)
   rw [if_pos c4] at H
   have c4b0 : decide (0 ≤ x5_1) = true := decide_eq_true c4
   clear c4
   by_cases c5 : (rd l0 x5_1) = ((x1_1) % 256)
   rotate_left
   ·rw [if_neg c5] at H
    have c5b0 : ((rd l0 x5_1) == ((x1_1) % 256)) = false := beq_eq_false_iff_ne.mpr c5
    have c5b1 : ((rd l0 x5_1) != ((x1_1) % 256)) = true := bne_iff_ne.mpr c5
    obtain rfl := Option.some.inj H
    have p269 : 0 ≤ (x5_1 : Int) := of_decide_eq_true (by first | (with_reducible assumption) | assumption)
    have q269 : x5_1 < (l0.length : Int) := of_decide_eq_true (by first | (with_reducible assumption) | assumption)
    obtain ⟨ad269, e269, hx269_0⟩ := Kd.at_int HR0.out x5_1 p269 q269
    cases e269
    replace p269 := eq_true p269
    replace q269 := eq_true q269
    go_wp2
    go_ret
    exact ⟨by first | rfl | (simp; done) | (simp [*]; done), by repeat (first | exact Drawn0.refl _ | apply Drawn0.step)⟩
   rw [if_pos c5] at H
   have c5b0 : ((rd l0 x5_1) == ((x1_1) % 256)) = true := beq_iff_eq.mpr c5
   have c5b1 : ((rd l0 x5_1) != ((x1_1) % 256)) = false := bne_eq_false_iff_eq.mpr c5
   clear c5
   have H' := mk_ H
   clear H
   have p269 : 0 ≤ (x5_1 : Int) := of_decide_eq_true (by first | (with_reducible assumption) | assumption)
   have q269 : x5_1 < (l0.length : Int) := of_decide_eq_true (by first | (with_reducible assumption) | assumption)
   obtain ⟨ad269, e269, hx269_0⟩ := Kd.at_int HR0.out x5_1 p269 q269
   cases e269
   replace p269 := eq_true p269
   replace q269 := eq_true q269
   go_wp2
   go_roundg k1
   case measure => have := HK1.out; omega
   case rel => exact ⟨(wrap64 (x1_1 + 1)), (wrap64 (x5_1 + 1)), (by first | rfl | (simp; done) | (simp [*]; done)), (by first | rfl | (simp; done) | (simp [*]; done)), H', ⟨by have := HK1.out; omega⟩, by repeat (first | exact Drawn0.refl _ | apply Drawn0.step)⟩

/-! ### laws_heldPacket: function 28 -/
def laws_heldPacket.f (k : Nat) (a0_0 : Int) (a0_1 : Int) (a0_2 : Int) (a0_3 : Int) (a0_4 : Int) (a0_5 : Int) (a0_6 : Bool) (a0_7 : Bool) (l0_8 : List Int) (a1 : Int) : Option (Int) := (laws_heldByteS.f k l0_8 a1).bind fun t271 => (if t271 < 0 then (some (-1)) else (some t271))
theorem laws_heldPacket.mono : ∀ a0 a1 a2 a3 a4 a5 a6 a7 a8 a9 k, LeO (laws_heldPacket.f k a0 a1 a2 a3 a4 a5 a6 a7 a8 a9) (laws_heldPacket.f (k + 1) a0 a1 a2 a3 a4 a5 a6 a7 a8 a9) := by
 intro a0 a1 a2 a3 a4 a5 a6 a7 a8 a9 k
 unfold laws_heldPacket.f
 repeat' first
   | (with_reducible exact laws_heldByteS.mono _ _ _)
   | (with_reducible exact LeO.refl _)
   | (with_reducible exact LeO.none _)
   | (with_reducible refine LeO.ite ?_ ?_)
   | (with_reducible refine LeO.bind ?_ (fun _ => ?_))
   | exact laws_heldByteS.mono _ _ _
   | exact LeO.none _
   | refine LeO.ite ?_ ?_
   | refine LeO.bind ?_ (fun _ => ?_)
set_option maxHeartbeats 8000000 in
set_option maxRecDepth 100000 in
theorem laws_heldPacket.calls (k : Nat) (a0_0 : Int) (a0_1 : Int) (a0_2 : Int) (a0_3 : Int) (a0_4 : Int) (a0_5 : Int) (a0_6 : Bool) (a0_7 : Bool) (A0_8 : Option Addr) (c0_8 : Nat) (l0_8 : List Int) (a1 : Int) (r : Int) (w : World) (hr0_8 : Kd.C (Kd.int .u8) w A0_8 l0_8.length l0_8) (hc0_8 : l0_8.length ≤ c0_8) (h : laws_heldPacket.f k a0_0 a0_1 a0_2 a0_3 a0_4 a0_5 a0_6 a0_7 l0_8 a1 = some r) :
  Calls Try.prog 28 #[.agg #[.int .i64 a0_0, .int .i64 a0_1, .int .i64 a0_2, .int .i64 a0_3, .int .i64 a0_4, .int .i64 a0_5, .bool a0_6, .bool a0_7, .slice A0_8 l0_8.length c0_8], .int .i64 a1] w fun e w' => e = .returned (.int .i64 r) ∧ Below w.heap.size w w' := by
 have hu24 := Try.underlying24
 have HR0_8 := mk_ hr0_8
 have HC0_8 := mk_ hc0_8
 clear hr0_8 hc0_8
 have HB := mk_ (Below.refl w.heap.size w)
 have H : ((laws_heldByteS.f k l0_8 a1).bind fun t271 => (if t271 < 0 then (some (-1)) else (some t271))) = some r := h
 clear h
 replace H := Option.bind_eq_some_iff.mp H
 obtain ⟨t271, A30, H⟩ := H
 replace H : (if t271 < 0 then (some (-1)) else (some t271)) = some r := H
 have A3 := mk_ A30
 clear A30
 by_cases c4 : t271 < 0
 ·rw [if_pos c4] at H
  have c4b0 : decide (t271 < 0) = true := decide_eq_true c4
  clear c4
  obtain rfl := Option.some.inj H
  go_enter Try.func28, Try.ntmps28
  go_wp2_with (first | ((with_reducible refine gate_dst (N := 2) rfl ?_); refine box_event ?hg (N := 2) ?hd (cs := #[.int .i64 a0_0, .int .i64 a0_1, .int .i64 a0_2, .int .i64 a0_3, .int .i64 a0_4, .int .i64 a0_5, .bool a0_6, .bool a0_7, .slice A0_8 l0_8.length c0_8]) (t := 24) ?hr ?_; (case hd => rfl); (case hg => rfl); (case hr => first | (go_simp; done) | (go_simp; rfl)); intro gb270 hg w5 hbox hb; have n0_ := mk_ (below_step (ub_ HB.out) hb); have n1_ := mk_ (hbox); have n2_ := mk_ ((by rw [hg]; exact (below_size (ub_ HB.out)) : w.heap.size ≤ gb270)); have n3_ := mk_ ((by rw [hg]; exact (below_size (ub_ HB.out)) : w.heap.size ≤ gb270)); clear HB; have HB := n0_; have BK270 := n1_; have GW270 := n2_; have GE270 := ge_ n3_.out; clear n0_ n1_ n2_ n3_; clear hb hbox hg; obtain ⟨hcz6_0, hcz6_1, hcz6_2, hcz6_3, hcz6_4, hcz6_5, hcz6_6, hcz6_7, hcz6_8, hfz6_0, hfz6_1, hfz6_2, hfz6_3, hfz6_4, hfz6_5, hfz6_6, hfz6_7, hfz6_8⟩ := cells9_ BK270.out) | ((with_reducible refine gate_callee (f := 67) rfl ?_); refine goesL_ (some 8) rfl rfl Try.func67 (by kernel_rfl) rfl #[.slice A0_8 l0_8.length c0_8, .int .i64 a1] rfl (by (try simp only [lm_, lo_, ln_]); first | done | rfl | (simp only [List.length_drop, List.length_take]; rfl)) ?_; (with_reducible refine (laws_heldByteS.calls k _ _ l0_8 a1 t271 _ ?side1 ?side2 A3.out).mono ?_); (case side1 => repeat (first | exact (Kd.C_below HR0_8.out HB.out) | (with_reducible refine Kd.C_alloc ?_ _) | (with_reducible refine Kd.C_drewN ?_ _) | (with_reducible refine Kd.C_drew ?_))); (case side2 => exact HC0_8.out); rintro e w' ⟨rfl, ⟨nd, rfl⟩⟩; refine ⟨_, rfl, ?_⟩))
  go_ret
  exact ⟨by first | rfl | (simp [errW_none, errW_some] <;> rfl) | (simp [*, errW_none, errW_some] <;> rfl), us_ HB.out⟩
 rw [if_neg c4] at H
 have c4b0 : decide (t271 < 0) = false := decide_eq_false c4
 clear c4
 obtain rfl := Option.some.inj H
 go_enter Try.func28, Try.ntmps28
 go_wp2_with (first | ((with_reducible refine gate_dst (N := 2) rfl ?_); refine box_event ?hg (N := 2) ?hd (cs := #[.int .i64 a0_0, .int .i64 a0_1, .int .i64 a0_2, .int .i64 a0_3, .int .i64 a0_4, .int .i64 a0_5, .bool a0_6, .bool a0_7, .slice A0_8 l0_8.length c0_8]) (t := 24) ?hr ?_; (case hd => rfl); (case hg => rfl); (case hr => first | (go_simp; done) | (go_simp; rfl)); intro gb270 hg w7 hbox hb; have n0_ := mk_ (below_step (ub_ HB.out) hb); have n1_ := mk_ (hbox); have n2_ := mk_ ((by rw [hg]; exact (below_size (ub_ HB.out)) : w.heap.size ≤ gb270)); have n3_ := mk_ ((by rw [hg]; exact (below_size (ub_ HB.out)) : w.heap.size ≤ gb270)); clear HB; have HB := n0_; have BK270 := n1_; have GW270 := n2_; have GE270 := ge_ n3_.out; clear n0_ n1_ n2_ n3_; clear hb hbox hg; obtain ⟨hcz8_0, hcz8_1, hcz8_2, hcz8_3, hcz8_4, hcz8_5, hcz8_6, hcz8_7, hcz8_8, hfz8_0, hfz8_1, hfz8_2, hfz8_3, hfz8_4, hfz8_5, hfz8_6, hfz8_7, hfz8_8⟩ := cells9_ BK270.out) | ((with_reducible refine gate_callee (f := 67) rfl ?_); refine goesL_ (some 8) rfl rfl Try.func67 (by kernel_rfl) rfl #[.slice A0_8 l0_8.length c0_8, .int .i64 a1] rfl (by (try simp only [lm_, lo_, ln_]); first | done | rfl | (simp only [List.length_drop, List.length_take]; rfl)) ?_; (with_reducible refine (laws_heldByteS.calls k _ _ l0_8 a1 t271 _ ?side1 ?side2 A3.out).mono ?_); (case side1 => repeat (first | exact (Kd.C_below HR0_8.out HB.out) | (with_reducible refine Kd.C_alloc ?_ _) | (with_reducible refine Kd.C_drewN ?_ _) | (with_reducible refine Kd.C_drew ?_))); (case side2 => exact HC0_8.out); rintro e w' ⟨rfl, ⟨nd, rfl⟩⟩; refine ⟨_, rfl, ?_⟩))
 go_ret
 exact ⟨by first | rfl | (simp [errW_none, errW_some] <;> rfl) | (simp [*, errW_none, errW_some] <;> rfl), us_ HB.out⟩

end Go.Proofs.Ytgfaamcihlojdag.MFnExactNoteEchoed
