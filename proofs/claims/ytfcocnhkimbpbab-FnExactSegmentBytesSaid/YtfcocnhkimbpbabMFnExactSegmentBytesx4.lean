/- Functions that the law FnExactSegmentBytes reaches, each with the proof that the machine's call comes to just its answer; no conditions but those that each theorem states. Printed by a program of this session over the kit's print. -/
import Derived.Test.YtfcocnhkimbpbabMFnExactSegmentBytesx0
import Derived.Test.YtfcocnhkimbpbabMFnExactSegmentBytesx1
import Derived.Test.YtfcocnhkimbpbabMFnExactSegmentBytesx2
import Derived.Test.YtfcocnhkimbpbabMFnExactSegmentBytesx3
namespace Go.Proofs.Ytfcocnhkimbpbab.MFnExactSegmentBytes
open Go.RowKit Go.Proofs.YtfcocnhkimbpbabV.PrintWords Go.Proofs.YtfcocnhkimbpbabV.PrintLast Go.Proofs.YtfcocnhkimbpbabV.PrintMore
attribute [local go_sem] max2_int min2_int max_two min_two max_three min_three max_four min_four   -- for this text's walks alone
set_option linter.unusedVariables false
set_option linter.unusedSimpArgs false

/-! ### spec_SegmentBytes: function 24 -/
mutual
def spec_SegmentBytes.j0 : Nat → Int → Int → Bool → Int → Int → Int → Int → Int → Bool → Bool → Bool → Bool → List (S42) → List Int → Option (List Int)
 | 0, _, _, _, _, _, _, _, _, _, _, _, _, _, _ => none
 | k + 1, x1, x2, x21, x143000, x143001, x143002, x143003, x143004, x143005, x143006, x143007, x143008, x143009, x143010 => if x21 = true then (some (([] : List Int))) else ((some (([(x143000) % 256, (x143001) % 256] : List Int) : List Int)).bind fun y149 => ((spec_BytesOf.f k x143002 2).bind fun t152 => (if y149.length + t152.length < 140737488355328 then ((some (y149 ++ t152 : List Int)).bind fun y155 => ((spec_BytesOf.f k x143003 2).bind fun t158 => (if y155.length + t158.length < 140737488355328 then ((some (y155 ++ t158 : List Int)).bind fun y161 => ((spec_l11Marks.f k x143000 x143001 x143002 x143003 x143004 x143005 x143006 x143007 x143008 x143009 x143010).bind fun t164 => ((some (([(x143004) % 256, (t164) % 256, ((x143009.length : Int)) % 256] : List Int) : List Int)).bind fun y165 => (if y161.length + y165.length < 140737488355328 then (spec_SegmentBytes.l0 k x1 x2 (y161 ++ y165) 0 x143000 x143001 x143002 x143003 x143004 x143005 x143006 x143007 x143008 x143009 x143010) else (none))))) else (none)))) else (none))))
def spec_SegmentBytes.l0 : Nat → Int → Int → List Int → Int → Int → Int → Int → Int → Int → Bool → Bool → Bool → Bool → List (S42) → List Int → Option (List Int)
 | 0, _, _, _, _, _, _, _, _, _, _, _, _, _, _, _ => none
 | k + 1, x1, x2, x7, x8, x143000, x143001, x143002, x143003, x143004, x143005, x143006, x143007, x143008, x143009, x143010 => if x8 < (x143009.length : Int) then (if 0 ≤ x8 then ((spec_BytesOf.f k ((rd_T42 x143009 x8).f0) 2).bind fun t172 => (if x7.length + t172.length < 140737488355328 then ((some (x7 ++ t172 : List Int)).bind fun y175 => ((spec_BytesOf.f k ((rd_T42 x143009 x8).f1) 2).bind fun t179 => (if y175.length + t179.length < 140737488355328 then (spec_SegmentBytes.l0 k x1 x2 (y175 ++ t179) (wrap64 (x8 + 1)) x143000 x143001 x143002 x143003 x143004 x143005 x143006 x143007 x143008 x143009 x143010) else (none)))) else (none))) else (none)) else (if x7.length < 140737488355328 then ((some (x7 ++ [((x143010.length : Int)) % 256] : List Int)).bind fun y185 => (if y185.length + x143010.length < 140737488355328 then ((some (y185 ++ x143010 : List Int)).bind fun y188 => ((spec_l9Sum.f k x1 x2 y188).bind fun t191 => ((spec_BytesOf.f k t191 2).bind fun t192 => (if y188.length + t192.length < 140737488355328 then (some (y188 ++ t192)) else (none))))) else (none))) else (none))
end
def spec_SegmentBytes.f (k : Nat) (a0_0 : Int) (a0_1 : Int) (a0_2 : Int) (a0_3 : Int) (a0_4 : Int) (a0_5 : Bool) (a0_6 : Bool) (a0_7 : Bool) (a0_8 : Bool) (l0_9 : List (S42)) (l0_10 : List Int) (a1 : Int) (a2 : Int) : Option (List Int) := (spec_SegmentOk.f k a0_0 a0_1 a0_2 a0_3 a0_4 a0_5 a0_6 a0_7 a0_8 l0_9 l0_10).bind fun t143 => (if t143 = true then ((spec_l1In.f a1 0 65535).bind fun t144 => (if t144 = true then ((spec_l1In.f a2 0 65535).bind fun t145 => (spec_SegmentBytes.j0 k a1 a2 (!t145) a0_0 a0_1 a0_2 a0_3 a0_4 a0_5 a0_6 a0_7 a0_8 l0_9 l0_10)) else (spec_SegmentBytes.j0 k a1 a2 true a0_0 a0_1 a0_2 a0_3 a0_4 a0_5 a0_6 a0_7 a0_8 l0_9 l0_10))) else (spec_SegmentBytes.j0 k a1 a2 true a0_0 a0_1 a0_2 a0_3 a0_4 a0_5 a0_6 a0_7 a0_8 l0_9 l0_10))
theorem spec_SegmentBytes.mono_l : ∀ k, (∀ y0 y1 y2 y3 y4 y5 y6 y7 y8 y9 y10 y11 y12 y13, LeO (spec_SegmentBytes.j0 k y0 y1 y2 y3 y4 y5 y6 y7 y8 y9 y10 y11 y12 y13) (spec_SegmentBytes.j0 (k + 1) y0 y1 y2 y3 y4 y5 y6 y7 y8 y9 y10 y11 y12 y13)) ∧ (∀ y0 y1 y2 y3 y4 y5 y6 y7 y8 y9 y10 y11 y12 y13 y14, LeO (spec_SegmentBytes.l0 k y0 y1 y2 y3 y4 y5 y6 y7 y8 y9 y10 y11 y12 y13 y14) (spec_SegmentBytes.l0 (k + 1) y0 y1 y2 y3 y4 y5 y6 y7 y8 y9 y10 y11 y12 y13 y14))
 | 0 => ⟨fun _ _ _ _ _ _ _ _ _ _ _ _ _ _ r h => by simp [spec_SegmentBytes.j0] at h, fun _ _ _ _ _ _ _ _ _ _ _ _ _ _ _ r h => by simp [spec_SegmentBytes.l0] at h⟩
 | k + 1 => by
  obtain ⟨ih0, ih1⟩ := spec_SegmentBytes.mono_l k
  refine ⟨?_, ?_⟩
  ·intro y0 y1 y2 y3 y4 y5 y6 y7 y8 y9 y10 y11 y12 y13
   unfold spec_SegmentBytes.j0
   repeat' first
   | (with_reducible exact ih0 _ _ _ _ _ _ _ _ _ _ _ _ _ _)
   | (with_reducible exact ih1 _ _ _ _ _ _ _ _ _ _ _ _ _ _ _)
   | (with_reducible exact spec_BytesOf.mono _ _ _)
   | (with_reducible exact spec_SegmentOk.mono _ _ _ _ _ _ _ _ _ _ _ _)
   | (with_reducible exact spec_l11Marks.mono _ _ _ _ _ _ _ _ _ _ _ _)
   | (with_reducible exact spec_l9Sum.mono _ _ _ _)
   | (with_reducible exact LeO.refl _)
   | (with_reducible exact LeO.none _)
   | (with_reducible refine LeO.ite ?_ ?_)
   | (with_reducible refine LeO.bind ?_ (fun _ => ?_))
   | exact ih0 _ _ _ _ _ _ _ _ _ _ _ _ _ _
   | exact ih1 _ _ _ _ _ _ _ _ _ _ _ _ _ _ _
   | exact spec_BytesOf.mono _ _ _
   | exact spec_SegmentOk.mono _ _ _ _ _ _ _ _ _ _ _ _
   | exact spec_l11Marks.mono _ _ _ _ _ _ _ _ _ _ _ _
   | exact spec_l9Sum.mono _ _ _ _
   | exact LeO.none _
   | refine LeO.ite ?_ ?_
   | refine LeO.bind ?_ (fun _ => ?_)
  ·intro y0 y1 y2 y3 y4 y5 y6 y7 y8 y9 y10 y11 y12 y13 y14
   unfold spec_SegmentBytes.l0
   repeat' first
   | (with_reducible exact ih0 _ _ _ _ _ _ _ _ _ _ _ _ _ _)
   | (with_reducible exact ih1 _ _ _ _ _ _ _ _ _ _ _ _ _ _ _)
   | (with_reducible exact spec_BytesOf.mono _ _ _)
   | (with_reducible exact spec_SegmentOk.mono _ _ _ _ _ _ _ _ _ _ _ _)
   | (with_reducible exact spec_l11Marks.mono _ _ _ _ _ _ _ _ _ _ _ _)
   | (with_reducible exact spec_l9Sum.mono _ _ _ _)
   | (with_reducible exact LeO.refl _)
   | (with_reducible exact LeO.none _)
   | (with_reducible refine LeO.ite ?_ ?_)
   | (with_reducible refine LeO.bind ?_ (fun _ => ?_))
   | exact ih0 _ _ _ _ _ _ _ _ _ _ _ _ _ _
   | exact ih1 _ _ _ _ _ _ _ _ _ _ _ _ _ _ _
   | exact spec_BytesOf.mono _ _ _
   | exact spec_SegmentOk.mono _ _ _ _ _ _ _ _ _ _ _ _
   | exact spec_l11Marks.mono _ _ _ _ _ _ _ _ _ _ _ _
   | exact spec_l9Sum.mono _ _ _ _
   | exact LeO.none _
   | refine LeO.ite ?_ ?_
   | refine LeO.bind ?_ (fun _ => ?_)
theorem spec_SegmentBytes.mono : ∀ a0 a1 a2 a3 a4 a5 a6 a7 a8 a9 a10 a11 a12 k, LeO (spec_SegmentBytes.f k a0 a1 a2 a3 a4 a5 a6 a7 a8 a9 a10 a11 a12) (spec_SegmentBytes.f (k + 1) a0 a1 a2 a3 a4 a5 a6 a7 a8 a9 a10 a11 a12) := by
 intro a0 a1 a2 a3 a4 a5 a6 a7 a8 a9 a10 a11 a12 k
 obtain ⟨ih0, ih1⟩ := spec_SegmentBytes.mono_l k
 unfold spec_SegmentBytes.f
 repeat' first
   | (with_reducible exact ih0 _ _ _ _ _ _ _ _ _ _ _ _ _ _)
   | (with_reducible exact ih1 _ _ _ _ _ _ _ _ _ _ _ _ _ _ _)
   | (with_reducible exact spec_BytesOf.mono _ _ _)
   | (with_reducible exact spec_SegmentOk.mono _ _ _ _ _ _ _ _ _ _ _ _)
   | (with_reducible exact spec_l11Marks.mono _ _ _ _ _ _ _ _ _ _ _ _)
   | (with_reducible exact spec_l9Sum.mono _ _ _ _)
   | (with_reducible exact LeO.refl _)
   | (with_reducible exact LeO.none _)
   | (with_reducible refine LeO.ite ?_ ?_)
   | (with_reducible refine LeO.bind ?_ (fun _ => ?_))
   | exact ih0 _ _ _ _ _ _ _ _ _ _ _ _ _ _
   | exact ih1 _ _ _ _ _ _ _ _ _ _ _ _ _ _ _
   | exact spec_BytesOf.mono _ _ _
   | exact spec_SegmentOk.mono _ _ _ _ _ _ _ _ _ _ _ _
   | exact spec_l11Marks.mono _ _ _ _ _ _ _ _ _ _ _ _
   | exact spec_l9Sum.mono _ _ _ _
   | exact LeO.none _
   | refine LeO.ite ?_ ?_
   | refine LeO.bind ?_ (fun _ => ?_)
def spec_SegmentBytes.T3 : Bool × List (List Nat × List Nat) := (true, [([], []), ([0], [0]), ([1], [1]), ([], []), ([3], [3]), ([4], [4]), ([2, 5], [2, 5]), ([], []), ([7], [7]), ([8], [8]), ([6, 9, 9], [6, 9]), ([10, 10, 0, 1, 2, 3, 4, 5, 6, 7, 8, 9, 10], [10])])
def spec_SegmentBytes.B3 : List Nat := [0, 1, 3, 0, 8, 24, 63, 0, 128, 384, 1023, 2047]
theorem spec_SegmentBytes.tab3 : rtab .any (opsOf Try.f24 3) = spec_SegmentBytes.T3 := by kernel_rfl
theorem spec_SegmentBytes.bits3 : waitsOk spec_SegmentBytes.T3.2 spec_SegmentBytes.B3 = true := by kernel_rfl
def spec_SegmentBytes.T4 : Bool × List (List Nat × List Nat) := (true, [([], []), ([], []), ([1], [1]), ([2], [2]), ([0, 3, 3], [0, 3]), ([], []), ([5], [5]), ([6], [6]), ([], []), ([8, 4], [8]), ([9], [9]), ([], []), ([11], [11]), ([12], [12]), ([13], [13]), ([7, 10, 14], [7, 10, 14]), ([4, 15, 9], [4, 15]), ([16, 16, 0, 1, 2, 3, 4, 5, 6, 7, 8, 9, 10, 11, 12, 13, 14, 15, 16], [0, 16])])
def spec_SegmentBytes.B4 : List Nat := [0, 0, 2, 6, 15, 0, 32, 96, 0, 287, 799, 0, 2048, 6144, 14336, 32767, 65535, 131071]
theorem spec_SegmentBytes.tab4 : rtab .any (opsOf Try.f24 4) = spec_SegmentBytes.T4 := by kernel_rfl
theorem spec_SegmentBytes.bits4 : waitsOk spec_SegmentBytes.T4.2 spec_SegmentBytes.B4 = true := by kernel_rfl
def spec_SegmentBytes.T8 : Bool × List (List Nat × List Nat) := (true, [([], []), ([], []), ([1], [1]), ([], []), ([2, 3], [2, 3]), ([4], [4]), ([5], [5]), ([6], [6]), ([0, 7, 7], [0, 7]), ([], []), ([9], [9]), ([], []), ([10, 11], [10, 11]), ([12], [12]), ([13], [13]), ([14, 8], [14]), ([8, 15, 15], [8, 15]), ([16, 16, 0, 1, 2, 3, 4, 5, 6, 7, 8, 9, 10, 11, 12, 13, 14, 15, 16], [0, 16])])
def spec_SegmentBytes.B8 : List Nat := [0, 0, 2, 0, 14, 30, 62, 126, 255, 0, 512, 0, 3584, 7680, 15872, 32767, 65535, 131071]
theorem spec_SegmentBytes.tab8 : rtab .any (opsOf Try.f24 8) = spec_SegmentBytes.T8 := by kernel_rfl
theorem spec_SegmentBytes.bits8 : waitsOk spec_SegmentBytes.T8.2 spec_SegmentBytes.B8 = true := by kernel_rfl
def spec_SegmentBytes.T9 : Bool × List (List Nat × List Nat) := (true, [([], []), ([], []), ([1], [1]), ([2], [2]), ([3], [3]), ([4], [4]), ([0, 5], [0, 5]), ([], []), ([7], [7]), ([6, 8, 6], [6, 8]), ([9, 9, 0, 1, 2, 3, 4, 5, 6, 7, 8, 9], [0, 9])])
def spec_SegmentBytes.B9 : List Nat := [0, 0, 2, 6, 14, 30, 63, 0, 128, 511, 1023]
theorem spec_SegmentBytes.tab9 : rtab .any (opsOf Try.f24 9) = spec_SegmentBytes.T9 := by kernel_rfl
theorem spec_SegmentBytes.bits9 : waitsOk spec_SegmentBytes.T9.2 spec_SegmentBytes.B9 = true := by kernel_rfl
set_option maxHeartbeats 8000000 in
set_option maxRecDepth 100000 in
theorem spec_SegmentBytes.calls (k : Nat) (a0_0 : Int) (a0_1 : Int) (a0_2 : Int) (a0_3 : Int) (a0_4 : Int) (a0_5 : Bool) (a0_6 : Bool) (a0_7 : Bool) (a0_8 : Bool) (A0_9 : Option Addr) (c0_9 : Nat) (l0_9 : List (S42)) (A0_10 : Option Addr) (c0_10 : Nat) (l0_10 : List Int) (a1 : Int) (a2 : Int) (r : List Int) (w : World) (hr0_9 : Kd.C k42 w A0_9 l0_9.length l0_9) (hc0_9 : l0_9.length ≤ c0_9) (hr0_10 : Kd.C (Kd.int .u8) w A0_10 l0_10.length l0_10) (hc0_10 : l0_10.length ≤ c0_10) (h : spec_SegmentBytes.f k a0_0 a0_1 a0_2 a0_3 a0_4 a0_5 a0_6 a0_7 a0_8 l0_9 l0_10 a1 a2 = some r) :
  Calls Try.prog 24 #[.agg #[.int .i64 a0_0, .int .i64 a0_1, .int .i64 a0_2, .int .i64 a0_3, .int .i64 a0_4, .bool a0_5, .bool a0_6, .bool a0_7, .bool a0_8, .slice A0_9 l0_9.length c0_9, .slice A0_10 l0_10.length c0_10], .int .i64 a1, .int .i64 a2] w fun e w' => ∃ v0_ : Value, e = .returned (v0_) ∧ Kd.R (Kd.int .u8) 5 w' w.heap.size (fun _ => True) v0_ r ∧ Below w.heap.size w w' := by
 have hu31 := Try.underlying31
 have HR0_9 := mk_ hr0_9
 have HC0_9 := mk_ hc0_9
 clear hr0_9 hc0_9
 have HR0_10 := mk_ hr0_10
 have HC0_10 := mk_ hc0_10
 clear hr0_10 hc0_10
 have HB := mk_ (Below.refl w.heap.size w)
 have H : ((spec_SegmentOk.f k a0_0 a0_1 a0_2 a0_3 a0_4 a0_5 a0_6 a0_7 a0_8 l0_9 l0_10).bind fun t143 => (if t143 = true then ((spec_l1In.f a1 0 65535).bind fun t144 => (if t144 = true then ((spec_l1In.f a2 0 65535).bind fun t145 => (spec_SegmentBytes.j0 k a1 a2 (!t145) a0_0 a0_1 a0_2 a0_3 a0_4 a0_5 a0_6 a0_7 a0_8 l0_9 l0_10)) else (spec_SegmentBytes.j0 k a1 a2 true a0_0 a0_1 a0_2 a0_3 a0_4 a0_5 a0_6 a0_7 a0_8 l0_9 l0_10))) else (spec_SegmentBytes.j0 k a1 a2 true a0_0 a0_1 a0_2 a0_3 a0_4 a0_5 a0_6 a0_7 a0_8 l0_9 l0_10))) = some r := h
 clear h
 have HC4 := mk_ H
 clear H
 go_enter Try.func24, Try.ntmps24
 go_upto_region 1 with (first | ((with_reducible refine gate_dst (N := 3) rfl ?_); refine box_event ?hg (N := 3) ?hd (cs := #[.int .i64 a0_0, .int .i64 a0_1, .int .i64 a0_2, .int .i64 a0_3, .int .i64 a0_4, .bool a0_5, .bool a0_6, .bool a0_7, .bool a0_8, .slice A0_9 l0_9.length c0_9, .slice A0_10 l0_10.length c0_10]) (t := 31) ?hr ?_; (case hd => rfl); (case hg => rfl); (case hr => first | (go_simp; done) | (go_simp; rfl)); intro gb142 hg w5 hbox hb; have n0_ := mk_ (below_step (ub_ HB.out) hb); have n1_ := mk_ (hbox); have n2_ := mk_ ((by rw [hg]; exact (below_size (ub_ HB.out)) : w.heap.size ≤ gb142)); have n3_ := mk_ ((by rw [hg]; exact (below_size (ub_ HB.out)) : w.heap.size ≤ gb142)); clear HB; have HB := n0_; have BK142 := n1_; have GW142 := n2_; have GE142 := ge_ n3_.out; clear n0_ n1_ n2_ n3_; clear hb hbox hg))
 (try simp only [Act.put, la_, lz_, ls_])
 go_cut [21] (fun v21 wc => ∃ (kq : Nat) (x21_3 : Bool), v21 = .bool x21_3 ∧ Aside0 (spec_SegmentBytes.j0 kq a1 a2 x21_3 a0_0 a0_1 a0_2 a0_3 a0_4 a0_5 a0_6 a0_7 a0_8 l0_9 l0_10 = some r) ∧ Aside0 (kq ≤ k) ∧ Aside0 (wc.heap[gb142]? = some (.cells #[.int .i64 a0_0, .int .i64 a0_1, .int .i64 a0_2, .int .i64 a0_3, .int .i64 a0_4, .bool a0_5, .bool a0_6, .bool a0_7, .bool a0_8, (.slice A0_9 l0_9.length c0_9), (.slice A0_10 l0_10.length c0_10)] 31 (0, 0))) ∧ Aside0 (Below w.heap.size w wc))
 case first =>
  have H := HC4.out
  clear HC4
  replace H := Option.bind_eq_some_iff.mp H
  obtain ⟨t143, A60, H⟩ := H
  replace H : (if t143 = true then ((spec_l1In.f a1 0 65535).bind fun t144 => (if t144 = true then ((spec_l1In.f a2 0 65535).bind fun t145 => (spec_SegmentBytes.j0 k a1 a2 (!t145) a0_0 a0_1 a0_2 a0_3 a0_4 a0_5 a0_6 a0_7 a0_8 l0_9 l0_10)) else (spec_SegmentBytes.j0 k a1 a2 true a0_0 a0_1 a0_2 a0_3 a0_4 a0_5 a0_6 a0_7 a0_8 l0_9 l0_10))) else (spec_SegmentBytes.j0 k a1 a2 true a0_0 a0_1 a0_2 a0_3 a0_4 a0_5 a0_6 a0_7 a0_8 l0_9 l0_10)) = some r := H
  have A6 := mk_ A60
  clear A60
  by_cases c7 : t143 = true
  rotate_left
  ·replace c7 := Bool.eq_false_iff.mpr c7
   subst c7
   have H1 : (spec_SegmentBytes.j0 k a1 a2 true a0_0 a0_1 a0_2 a0_3 a0_4 a0_5 a0_6 a0_7 a0_8 l0_9 l0_10) = some r := by rw [if_neg (show ¬ (false = true) by decide)] at H; exact H
   clear H
   have H := H1
   clear H1
   have H' := mk_ H
   clear H
   obtain ⟨hcz15_0, hcz15_1, hcz15_2, hcz15_3, hcz15_4, hcz15_5, hcz15_6, hcz15_7, hcz15_8, hcz15_9, hcz15_10, hfz15_0, hfz15_1, hfz15_2, hfz15_3, hfz15_4, hfz15_5, hfz15_6, hfz15_7, hfz15_8, hfz15_9, hfz15_10⟩ := cells11_ BK142.out
   go_wp2_with (first | ((with_reducible refine gate_callee (f := 53) rfl ?_); refine goesL_ (some 10) rfl rfl Try.func53 (by kernel_rfl) rfl #[.agg #[.int .i64 a0_0, .int .i64 a0_1, .int .i64 a0_2, .int .i64 a0_3, .int .i64 a0_4, .bool a0_5, .bool a0_6, .bool a0_7, .bool a0_8, .slice A0_9 l0_9.length c0_9, .slice A0_10 l0_10.length c0_10]] rfl (by (try simp only [lm_, lo_, ln_]); first | done | rfl | (simp only [List.length_drop, List.length_take]; rfl)) ?_; (with_reducible refine (spec_SegmentOk.calls k a0_0 a0_1 a0_2 a0_3 a0_4 a0_5 a0_6 a0_7 a0_8 _ _ l0_9 _ _ l0_10 false _ ?side1 ?side2 ?side3 ?side4 A6.out).mono ?_); (case side1 => repeat (first | exact (Kd.C_below HR0_9.out HB.out) | (with_reducible refine Kd.C_alloc ?_ _) | (with_reducible refine Kd.C_drewN ?_ _) | (with_reducible refine Kd.C_drew ?_))); (case side2 => exact HC0_9.out); (case side3 => repeat (first | exact (Kd.C_below HR0_10.out HB.out) | (with_reducible refine Kd.C_alloc ?_ _) | (with_reducible refine Kd.C_drewN ?_ _) | (with_reducible refine Kd.C_drew ?_))); (case side4 => exact HC0_10.out); rintro e w16 ⟨rfl, hb⟩; refine ⟨_, rfl, ?_⟩; have n0_ := mk_ (blk_below (u_ BK142.out) hb); have n1_ := mk_ (below_step (us_ HB.out) hb); clear BK142; clear HB; have BK142 := n0_; have HB := n1_; clear n0_ n1_; (try clear hb); (try clear hb2); (try clear hk); (try clear hi)))
   go_meet
   case rel => exact ⟨_, (true), (by first | rfl | (simp; done) | (simp [*]; done)), H', ⟨by first | omega | exact Nat.le_refl _⟩, ⟨u_ BK142.out⟩, ⟨us_ HB.out⟩⟩
  subst c7
  have H1 : ((spec_l1In.f a1 0 65535).bind fun t144 => (if t144 = true then ((spec_l1In.f a2 0 65535).bind fun t145 => (spec_SegmentBytes.j0 k a1 a2 (!t145) a0_0 a0_1 a0_2 a0_3 a0_4 a0_5 a0_6 a0_7 a0_8 l0_9 l0_10)) else (spec_SegmentBytes.j0 k a1 a2 true a0_0 a0_1 a0_2 a0_3 a0_4 a0_5 a0_6 a0_7 a0_8 l0_9 l0_10))) = some r := by rw [if_pos rfl] at H; exact H
  clear H
  have H := H1
  clear H1
  replace H := Option.bind_eq_some_iff.mp H
  obtain ⟨t144, A80, H⟩ := H
  replace H : (if t144 = true then ((spec_l1In.f a2 0 65535).bind fun t145 => (spec_SegmentBytes.j0 k a1 a2 (!t145) a0_0 a0_1 a0_2 a0_3 a0_4 a0_5 a0_6 a0_7 a0_8 l0_9 l0_10)) else (spec_SegmentBytes.j0 k a1 a2 true a0_0 a0_1 a0_2 a0_3 a0_4 a0_5 a0_6 a0_7 a0_8 l0_9 l0_10)) = some r := H
  have A8 := mk_ A80
  clear A80
  by_cases c9 : t144 = true
  rotate_left
  ·replace c9 := Bool.eq_false_iff.mpr c9
   subst c9
   have H1 : (spec_SegmentBytes.j0 k a1 a2 true a0_0 a0_1 a0_2 a0_3 a0_4 a0_5 a0_6 a0_7 a0_8 l0_9 l0_10) = some r := by rw [if_neg (show ¬ (false = true) by decide)] at H; exact H
   clear H
   have H := H1
   clear H1
   have H' := mk_ H
   clear H
   obtain ⟨hcz13_0, hcz13_1, hcz13_2, hcz13_3, hcz13_4, hcz13_5, hcz13_6, hcz13_7, hcz13_8, hcz13_9, hcz13_10, hfz13_0, hfz13_1, hfz13_2, hfz13_3, hfz13_4, hfz13_5, hfz13_6, hfz13_7, hfz13_8, hfz13_9, hfz13_10⟩ := cells11_ BK142.out
   go_wp2_with (first | ((with_reducible refine gate_callee (f := 53) rfl ?_); refine goesL_ (some 10) rfl rfl Try.func53 (by kernel_rfl) rfl #[.agg #[.int .i64 a0_0, .int .i64 a0_1, .int .i64 a0_2, .int .i64 a0_3, .int .i64 a0_4, .bool a0_5, .bool a0_6, .bool a0_7, .bool a0_8, .slice A0_9 l0_9.length c0_9, .slice A0_10 l0_10.length c0_10]] rfl (by (try simp only [lm_, lo_, ln_]); first | done | rfl | (simp only [List.length_drop, List.length_take]; rfl)) ?_; (with_reducible refine (spec_SegmentOk.calls k a0_0 a0_1 a0_2 a0_3 a0_4 a0_5 a0_6 a0_7 a0_8 _ _ l0_9 _ _ l0_10 true _ ?side1 ?side2 ?side3 ?side4 A6.out).mono ?_); (case side1 => repeat (first | exact (Kd.C_below HR0_9.out HB.out) | (with_reducible refine Kd.C_alloc ?_ _) | (with_reducible refine Kd.C_drewN ?_ _) | (with_reducible refine Kd.C_drew ?_))); (case side2 => exact HC0_9.out); (case side3 => repeat (first | exact (Kd.C_below HR0_10.out HB.out) | (with_reducible refine Kd.C_alloc ?_ _) | (with_reducible refine Kd.C_drewN ?_ _) | (with_reducible refine Kd.C_drew ?_))); (case side4 => exact HC0_10.out); rintro e w14 ⟨rfl, hb⟩; refine ⟨_, rfl, ?_⟩; have n0_ := mk_ (blk_below (u_ BK142.out) hb); have n1_ := mk_ (below_step (us_ HB.out) hb); clear BK142; clear HB; have BK142 := n0_; have HB := n1_; clear n0_ n1_; (try clear hb); (try clear hb2); (try clear hk); (try clear hi)) | (go_at_call 49; (with_reducible refine (spec_l1In.calls a1 0 65535 false _ A8.out).mono ?_); rintro e w' ⟨rfl, ⟨nd, rfl⟩⟩))
   go_meet
   case rel => exact ⟨_, (true), (by first | rfl | (simp; done) | (simp [*]; done)), H', ⟨by first | omega | exact Nat.le_refl _⟩, ⟨u_ BK142.out⟩, ⟨us_ HB.out⟩⟩
  subst c9
  have H1 : ((spec_l1In.f a2 0 65535).bind fun t145 => (spec_SegmentBytes.j0 k a1 a2 (!t145) a0_0 a0_1 a0_2 a0_3 a0_4 a0_5 a0_6 a0_7 a0_8 l0_9 l0_10)) = some r := by rw [if_pos rfl] at H; exact H
  clear H
  have H := H1
  clear H1
  replace H := Option.bind_eq_some_iff.mp H
  obtain ⟨t145, A100, H⟩ := H
  replace H : (spec_SegmentBytes.j0 k a1 a2 (!t145) a0_0 a0_1 a0_2 a0_3 a0_4 a0_5 a0_6 a0_7 a0_8 l0_9 l0_10) = some r := H
  have A10 := mk_ A100
  clear A100
  have H' := mk_ H
  clear H
  obtain ⟨hcz11_0, hcz11_1, hcz11_2, hcz11_3, hcz11_4, hcz11_5, hcz11_6, hcz11_7, hcz11_8, hcz11_9, hcz11_10, hfz11_0, hfz11_1, hfz11_2, hfz11_3, hfz11_4, hfz11_5, hfz11_6, hfz11_7, hfz11_8, hfz11_9, hfz11_10⟩ := cells11_ BK142.out
  go_wp2_with (first | ((with_reducible refine gate_callee (f := 53) rfl ?_); refine goesL_ (some 10) rfl rfl Try.func53 (by kernel_rfl) rfl #[.agg #[.int .i64 a0_0, .int .i64 a0_1, .int .i64 a0_2, .int .i64 a0_3, .int .i64 a0_4, .bool a0_5, .bool a0_6, .bool a0_7, .bool a0_8, .slice A0_9 l0_9.length c0_9, .slice A0_10 l0_10.length c0_10]] rfl (by (try simp only [lm_, lo_, ln_]); first | done | rfl | (simp only [List.length_drop, List.length_take]; rfl)) ?_; (with_reducible refine (spec_SegmentOk.calls k a0_0 a0_1 a0_2 a0_3 a0_4 a0_5 a0_6 a0_7 a0_8 _ _ l0_9 _ _ l0_10 true _ ?side1 ?side2 ?side3 ?side4 A6.out).mono ?_); (case side1 => repeat (first | exact (Kd.C_below HR0_9.out HB.out) | (with_reducible refine Kd.C_alloc ?_ _) | (with_reducible refine Kd.C_drewN ?_ _) | (with_reducible refine Kd.C_drew ?_))); (case side2 => exact HC0_9.out); (case side3 => repeat (first | exact (Kd.C_below HR0_10.out HB.out) | (with_reducible refine Kd.C_alloc ?_ _) | (with_reducible refine Kd.C_drewN ?_ _) | (with_reducible refine Kd.C_drew ?_))); (case side4 => exact HC0_10.out); rintro e w12 ⟨rfl, hb⟩; refine ⟨_, rfl, ?_⟩; have n0_ := mk_ (blk_below (u_ BK142.out) hb); have n1_ := mk_ (below_step (us_ HB.out) hb); clear BK142; clear HB; have BK142 := n0_; have HB := n1_; clear n0_ n1_; (try clear hb); (try clear hb2); (try clear hk); (try clear hi)) | (go_at_call 49; have hA_ := A8.out; (with_reducible refine (spec_l1In.calls a1 0 65535 true _ A8.out).mono ?_); rintro e w' ⟨rfl, ⟨nd, rfl⟩⟩; clear hA_ A8) | (go_at_call 49; have hA_ := A10.out; (with_reducible refine (spec_l1In.calls a2 0 65535 t145 _ A10.out).mono ?_); rintro e w' ⟨rfl, ⟨nd, rfl⟩⟩; clear hA_ A10))
  go_meet
  case rel => exact ⟨_, (!t145), (by first | rfl | (simp; done) | (simp [*]; done)), H', ⟨by first | omega | exact Nat.le_refl _⟩, ⟨u_ BK142.out⟩, ⟨us_ HB.out⟩⟩
 case rest =>
  clear HC4
  try clear c2
  try clear p2
  try clear c5
  try clear c7
  try clear c9
  try clear hcz11_0
  try clear hcz11_1
  try clear hcz11_10
  try clear hcz11_2
  try clear hcz11_3
  try clear hcz11_4
  try clear hcz11_5
  try clear hcz11_6
  try clear hcz11_7
  try clear hcz11_8
  try clear hcz11_9
  try clear hcz13_0
  try clear hcz13_1
  try clear hcz13_10
  try clear hcz13_2
  try clear hcz13_3
  try clear hcz13_4
  try clear hcz13_5
  try clear hcz13_6
  try clear hcz13_7
  try clear hcz13_8
  try clear hcz13_9
  try clear hcz15_0
  try clear hcz15_1
  try clear hcz15_10
  try clear hcz15_2
  try clear hcz15_3
  try clear hcz15_4
  try clear hcz15_5
  try clear hcz15_6
  try clear hcz15_7
  try clear hcz15_8
  try clear hcz15_9
  try clear hfz11_0
  try clear hfz11_1
  try clear hfz11_10
  try clear hfz11_2
  try clear hfz11_3
  try clear hfz11_4
  try clear hfz11_5
  try clear hfz11_6
  try clear hfz11_7
  try clear hfz11_8
  try clear hfz11_9
  try clear hfz13_0
  try clear hfz13_1
  try clear hfz13_10
  try clear hfz13_2
  try clear hfz13_3
  try clear hfz13_4
  try clear hfz13_5
  try clear hfz13_6
  try clear hfz13_7
  try clear hfz13_8
  try clear hfz13_9
  try clear hfz15_0
  try clear hfz15_1
  try clear hfz15_10
  try clear hfz15_2
  try clear hfz15_3
  try clear hfz15_4
  try clear hfz15_5
  try clear hfz15_6
  try clear hfz15_7
  try clear hfz15_8
  try clear hfz15_9
  obtain ⟨kq, x21_3, rfl, HA, HJ3, BK142, HB⟩ := hcut
  cases kq with
  | zero => exact absurd HA.out (by simp [spec_SegmentBytes.j0])
  | succ kj3 =>
   have H := HA.out
   clear HA
   simp only [spec_SegmentBytes.j0] at H
   by_cases c17 : x21_3 = true
   ·subst c17
    have H1 : (some (([] : List Int))) = some r := by rw [if_pos rfl] at H; exact H
    clear H
    have H := H1
    clear H1
    obtain ⟨y146, hy146⟩ : ∃ y_ : List Int, y_ = (([] : List Int)) := ⟨_, rfl⟩
    replace H : (some y146) = some r := by first | (rw [hy146]; with_reducible exact H) | (have H2_ := (Option.bind_some _ _).symm.trans H; rw [hy146]; with_reducible exact H2_) | (have H2_ := (Option.bind_some _ _).symm.trans H; with_reducible exact H2_) | with_reducible exact H | (rw [hy146]; exact H) | exact H
    have Ny146 := mk_ hy146
    clear hy146
    obtain rfl := Option.some.inj H
    go_wp2_with (first | ((with_reducible refine gate_dst (N := 22) rfl ?_); refine Kd.R_lit (Kd.int .u8) _ 5 ?hg (N := 22) ?hd (xs := ([] : List Int)) (inner := []) (ok := fun _ => True) (okp := fun _ => True) ?hr ?hp (fun _ hk => hk) trivial (Below.refl _ _) (Nat.le_refl _) (by simp) ?_; (case hd => rfl); (case hg => rfl); (case hr => first | (go_simp; done) | (go_simp; rfl)); (case hp => exact (Reps.none _ _)); intro v147 w18 ho19 hb hg_ hnew_; clear hg_ hnew_; (first | rw [← Ny146.out] at ho19 | (simp only [Int.reduceToNat] at ho19; rw [← Ny146.out] at ho19)); have n0_ := mk_ (Kd.R_lower ho19 (below_size (us_ HB.out))); have n1_ := mk_ (blk_below (u_ BK142.out) hb); have n2_ := mk_ (below_step (us_ HB.out) hb); clear BK142; clear HB; have HO148 := n0_; have BK142 := n1_; have HB := n2_; clear n0_ n1_ n2_; clear hb ho19))
    go_ret
    exact ⟨_, by first | rfl | (simp [errW_none, errW_some] <;> rfl) | (simp [*, errW_none, errW_some] <;> rfl), by (with_reducible repeat (first | apply Kd.R_alloc | apply Kd.R_drewN | apply Kd.R_drew)); exact HO148.out, us_ HB.out⟩
   replace c17 := Bool.eq_false_iff.mpr c17
   subst c17
   have H1 : ((some (([(a0_0) % 256, (a0_1) % 256] : List Int) : List Int)).bind fun y149 => ((spec_BytesOf.f kj3 a0_2 2).bind fun t152 => (if y149.length + t152.length < 140737488355328 then ((some (y149 ++ t152 : List Int)).bind fun y155 => ((spec_BytesOf.f kj3 a0_3 2).bind fun t158 => (if y155.length + t158.length < 140737488355328 then ((some (y155 ++ t158 : List Int)).bind fun y161 => ((spec_l11Marks.f kj3 a0_0 a0_1 a0_2 a0_3 a0_4 a0_5 a0_6 a0_7 a0_8 l0_9 l0_10).bind fun t164 => ((some (([(a0_4) % 256, (t164) % 256, ((l0_9.length : Int)) % 256] : List Int) : List Int)).bind fun y165 => (if y161.length + y165.length < 140737488355328 then (spec_SegmentBytes.l0 kj3 a1 a2 (y161 ++ y165) 0 a0_0 a0_1 a0_2 a0_3 a0_4 a0_5 a0_6 a0_7 a0_8 l0_9 l0_10) else (none))))) else (none)))) else (none)))) = some r := by rw [if_neg (show ¬ (false = true) by decide)] at H; exact H
   clear H
   have H := H1
   clear H1
   obtain ⟨y149, hy149⟩ : ∃ y_ : List Int, y_ = (([(a0_0) % 256, (a0_1) % 256] : List Int)) := ⟨_, rfl⟩
   replace H : ((spec_BytesOf.f kj3 a0_2 2).bind fun t152 => (if y149.length + t152.length < 140737488355328 then ((some (y149 ++ t152 : List Int)).bind fun y155 => ((spec_BytesOf.f kj3 a0_3 2).bind fun t158 => (if y155.length + t158.length < 140737488355328 then ((some (y155 ++ t158 : List Int)).bind fun y161 => ((spec_l11Marks.f kj3 a0_0 a0_1 a0_2 a0_3 a0_4 a0_5 a0_6 a0_7 a0_8 l0_9 l0_10).bind fun t164 => ((some (([(a0_4) % 256, (t164) % 256, ((l0_9.length : Int)) % 256] : List Int) : List Int)).bind fun y165 => (if y161.length + y165.length < 140737488355328 then (spec_SegmentBytes.l0 kj3 a1 a2 (y161 ++ y165) 0 a0_0 a0_1 a0_2 a0_3 a0_4 a0_5 a0_6 a0_7 a0_8 l0_9 l0_10) else (none))))) else (none)))) else (none))) = some r := by first | (rw [hy149]; with_reducible exact H) | (have H2_ := (Option.bind_some _ _).symm.trans H; rw [hy149]; with_reducible exact H2_) | (have H2_ := (Option.bind_some _ _).symm.trans H; with_reducible exact H2_) | with_reducible exact H | (rw [hy149]; exact H) | exact H
   have Ny149 := mk_ hy149
   clear hy149
   replace H := Option.bind_eq_some_iff.mp H
   obtain ⟨t152, A200, H⟩ := H
   replace H : (if y149.length + t152.length < 140737488355328 then ((some (y149 ++ t152 : List Int)).bind fun y155 => ((spec_BytesOf.f kj3 a0_3 2).bind fun t158 => (if y155.length + t158.length < 140737488355328 then ((some (y155 ++ t158 : List Int)).bind fun y161 => ((spec_l11Marks.f kj3 a0_0 a0_1 a0_2 a0_3 a0_4 a0_5 a0_6 a0_7 a0_8 l0_9 l0_10).bind fun t164 => ((some (([(a0_4) % 256, (t164) % 256, ((l0_9.length : Int)) % 256] : List Int) : List Int)).bind fun y165 => (if y161.length + y165.length < 140737488355328 then (spec_SegmentBytes.l0 kj3 a1 a2 (y161 ++ y165) 0 a0_0 a0_1 a0_2 a0_3 a0_4 a0_5 a0_6 a0_7 a0_8 l0_9 l0_10) else (none))))) else (none)))) else (none)) = some r := H
   have A20 := mk_ A200
   clear A200
   by_cases c21 : y149.length + t152.length < 140737488355328
   rotate_left
   ·rw [if_neg c21] at H
    exact absurd H (by simp)
   rw [if_pos c21] at H
   have LMc21 := mk_ c21
   clear c21
   obtain ⟨y155, hy155⟩ : ∃ y_ : List Int, y_ = (y149 ++ t152) := ⟨_, rfl⟩
   replace H : ((spec_BytesOf.f kj3 a0_3 2).bind fun t158 => (if y155.length + t158.length < 140737488355328 then ((some (y155 ++ t158 : List Int)).bind fun y161 => ((spec_l11Marks.f kj3 a0_0 a0_1 a0_2 a0_3 a0_4 a0_5 a0_6 a0_7 a0_8 l0_9 l0_10).bind fun t164 => ((some (([(a0_4) % 256, (t164) % 256, ((l0_9.length : Int)) % 256] : List Int) : List Int)).bind fun y165 => (if y161.length + y165.length < 140737488355328 then (spec_SegmentBytes.l0 kj3 a1 a2 (y161 ++ y165) 0 a0_0 a0_1 a0_2 a0_3 a0_4 a0_5 a0_6 a0_7 a0_8 l0_9 l0_10) else (none))))) else (none))) = some r := by first | (rw [hy155]; with_reducible exact H) | (have H2_ := (Option.bind_some _ _).symm.trans H; rw [hy155]; with_reducible exact H2_) | (have H2_ := (Option.bind_some _ _).symm.trans H; with_reducible exact H2_) | with_reducible exact H | (rw [hy155]; exact H) | exact H
   have Ny155 := mk_ hy155
   clear hy155
   replace H := Option.bind_eq_some_iff.mp H
   obtain ⟨t158, A220, H⟩ := H
   replace H : (if y155.length + t158.length < 140737488355328 then ((some (y155 ++ t158 : List Int)).bind fun y161 => ((spec_l11Marks.f kj3 a0_0 a0_1 a0_2 a0_3 a0_4 a0_5 a0_6 a0_7 a0_8 l0_9 l0_10).bind fun t164 => ((some (([(a0_4) % 256, (t164) % 256, ((l0_9.length : Int)) % 256] : List Int) : List Int)).bind fun y165 => (if y161.length + y165.length < 140737488355328 then (spec_SegmentBytes.l0 kj3 a1 a2 (y161 ++ y165) 0 a0_0 a0_1 a0_2 a0_3 a0_4 a0_5 a0_6 a0_7 a0_8 l0_9 l0_10) else (none))))) else (none)) = some r := H
   have A22 := mk_ A220
   clear A220
   by_cases c23 : y155.length + t158.length < 140737488355328
   rotate_left
   ·rw [if_neg c23] at H
    exact absurd H (by simp)
   rw [if_pos c23] at H
   have LMc23 := mk_ c23
   clear c23
   obtain ⟨y161, hy161⟩ : ∃ y_ : List Int, y_ = (y155 ++ t158) := ⟨_, rfl⟩
   replace H : ((spec_l11Marks.f kj3 a0_0 a0_1 a0_2 a0_3 a0_4 a0_5 a0_6 a0_7 a0_8 l0_9 l0_10).bind fun t164 => ((some (([(a0_4) % 256, (t164) % 256, ((l0_9.length : Int)) % 256] : List Int) : List Int)).bind fun y165 => (if y161.length + y165.length < 140737488355328 then (spec_SegmentBytes.l0 kj3 a1 a2 (y161 ++ y165) 0 a0_0 a0_1 a0_2 a0_3 a0_4 a0_5 a0_6 a0_7 a0_8 l0_9 l0_10) else (none)))) = some r := by first | (rw [hy161]; with_reducible exact H) | (have H2_ := (Option.bind_some _ _).symm.trans H; rw [hy161]; with_reducible exact H2_) | (have H2_ := (Option.bind_some _ _).symm.trans H; with_reducible exact H2_) | with_reducible exact H | (rw [hy161]; exact H) | exact H
   have Ny161 := mk_ hy161
   clear hy161
   replace H := Option.bind_eq_some_iff.mp H
   obtain ⟨t164, A240, H⟩ := H
   replace H : ((some (([(a0_4) % 256, (t164) % 256, ((l0_9.length : Int)) % 256] : List Int) : List Int)).bind fun y165 => (if y161.length + y165.length < 140737488355328 then (spec_SegmentBytes.l0 kj3 a1 a2 (y161 ++ y165) 0 a0_0 a0_1 a0_2 a0_3 a0_4 a0_5 a0_6 a0_7 a0_8 l0_9 l0_10) else (none))) = some r := H
   have A24 := mk_ A240
   clear A240
   obtain ⟨y165, hy165⟩ : ∃ y_ : List Int, y_ = (([(a0_4) % 256, (t164) % 256, ((l0_9.length : Int)) % 256] : List Int)) := ⟨_, rfl⟩
   replace H : (if y161.length + y165.length < 140737488355328 then (spec_SegmentBytes.l0 kj3 a1 a2 (y161 ++ y165) 0 a0_0 a0_1 a0_2 a0_3 a0_4 a0_5 a0_6 a0_7 a0_8 l0_9 l0_10) else (none)) = some r := by first | (rw [hy165]; with_reducible exact H) | (have H2_ := (Option.bind_some _ _).symm.trans H; rw [hy165]; with_reducible exact H2_) | (have H2_ := (Option.bind_some _ _).symm.trans H; with_reducible exact H2_) | with_reducible exact H | (rw [hy165]; exact H) | exact H
   have Ny165 := mk_ hy165
   clear hy165
   by_cases c25 : y161.length + y165.length < 140737488355328
   rotate_left
   ·rw [if_neg c25] at H
    exact absurd H (by simp)
   rw [if_pos c25] at H
   have LMc25 := mk_ c25
   clear c25
   obtain ⟨y168, hy168⟩ : ∃ y_ : List Int, y_ = (y161 ++ y165) := ⟨_, rfl⟩
   replace H : (spec_SegmentBytes.l0 kj3 a1 a2 y168 0 a0_0 a0_1 a0_2 a0_3 a0_4 a0_5 a0_6 a0_7 a0_8 l0_9 l0_10) = some r := by first | (rw [hy168]; with_reducible exact H) | (have H2_ := (Option.bind_some _ _).symm.trans H; rw [hy168]; with_reducible exact H2_) | (have H2_ := (Option.bind_some _ _).symm.trans H; with_reducible exact H2_) | with_reducible exact H | (rw [hy168]; exact H) | exact H
   have Ny168 := mk_ hy168
   clear hy168
   have H' := mk_ H
   clear H
   try go_wp2
   have n0_ := mk_ (blk_drew BK142.out)
   have n1_ := mk_ (below_drew1 HB.out)
   clear BK142
   clear HB
   have BK142 := n0_
   have HB := n1_
   clear n0_ n1_
   refine start_ (n := 12) (S := fun w' => w'.cell? ⟨gb142, 0, none⟩ = some (.int .i64 a0_0) ∧ w'.cell? ⟨gb142, 1, none⟩ = some (.int .i64 a0_1) ∧ w'.cell? ⟨gb142, 2, none⟩ = some (.int .i64 a0_2) ∧ w'.cell? ⟨gb142, 3, none⟩ = some (.int .i64 a0_3) ∧ w'.cell? ⟨gb142, 4, none⟩ = some (.int .i64 a0_4) ∧ w'.cell? ⟨gb142, 5, none⟩ = some (.bool a0_5) ∧ w'.cell? ⟨gb142, 6, none⟩ = some (.bool a0_6) ∧ w'.cell? ⟨gb142, 7, none⟩ = some (.bool a0_7) ∧ w'.cell? ⟨gb142, 8, none⟩ = some (.bool a0_8) ∧ w'.cell? ⟨gb142, 9, none⟩ = some (.slice A0_9 l0_9.length c0_9) ∧ w'.cell? ⟨gb142, 10, none⟩ = some (.slice A0_10 l0_10.length c0_10)) (ds := []) #[F_, F_, F_, F_, F_, F_, F_, F_, F_, F_, F_, F_] (by kernel_rfl) rfl rfl ⟨(blk_cell BK142.out 0).trans rfl, (blk_cell BK142.out 1).trans rfl, (blk_cell BK142.out 2).trans rfl, (blk_cell BK142.out 3).trans rfl, (blk_cell BK142.out 4).trans rfl, (blk_cell BK142.out 5).trans rfl, (blk_cell BK142.out 6).trans rfl, (blk_cell BK142.out 7).trans rfl, (blk_cell BK142.out 8).trans rfl, (blk_cell BK142.out 9).trans rfl, (blk_cell BK142.out 10).trans rfl⟩ (fun hHeld => ?_); refine with_tabW spec_SegmentBytes.tab3 spec_SegmentBytes.bits3 (fun HT_ HW_ => ?_)
   generalize wc.drew = w26 at BK142 HB hHeld ⊢
   refine pure_ (i := 0) (N := some 23) (v := ?_) (a' := ?_) #[T_, F_, F_, F_, F_, F_, F_, F_, F_, F_, F_, F_] rfl rfl (any_of HT_.out (by kernel_rfl)) (fun _ _ _ h => h) (Or.inl ⟨by rfl, ?_⟩) ?_ ?_
   rotate_left
   ·intro w'
    go_simp
    with_reducible rfl
   rotate_left
   ·simp only [Act.put, la_, lz_, ls_, i64_w, i32_w]
    rfl
   refine pure_ (i := 3) (N := some 26) (v := ?_) (a' := ?_) #[T_, F_, F_, T_, F_, F_, F_, F_, F_, F_, F_, F_] rfl rfl (any_of HT_.out (by kernel_rfl)) (fun _ _ _ h => h) (Or.inl ⟨by rfl, ?_⟩) ?_ ?_
   rotate_left
   ·intro w'
    go_simp
    with_reducible rfl
   rotate_left
   ·simp only [Act.put, la_, lz_, ls_, i64_w, i32_w]
    rfl
   refine pure_ (i := 7) (N := some 30) (v := ?_) (a' := ?_) #[T_, F_, F_, T_, F_, F_, F_, T_, F_, F_, F_, F_] rfl rfl (any_of HT_.out (by kernel_rfl)) (fun _ _ _ h => h) (Or.inl ⟨by rfl, ?_⟩) ?_ ?_
   rotate_left
   ·intro w'
    go_simp
    with_reducible rfl
   rotate_left
   ·simp only [Act.put, la_, lz_, ls_, i64_w, i32_w]
    rfl
   refine take_ (i := 1) (N := some 24) (v := ?_) (a' := ?_) #[T_, T_, F_, T_, F_, F_, F_, T_, F_, F_, F_, F_] rfl rfl (take_ofW HT_.out HW_.out (by kernel_rfl)) (fun _ _ _ h => h) (Or.inl ⟨by rfl, ?_⟩) hHeld ?_ ?_
   rotate_left
   ·rintro w' ⟨s0, s1, s2, s3, s4, s5, s6, s7, s8, s9, s10⟩
    go_simp
    with_reducible rfl
   rotate_left
   ·simp only [Act.put, la_, lz_, ls_, i64_w, i32_w]
    rfl
   refine pure_ (i := 2) (N := some 25) (v := ?_) (a' := ?_) #[T_, T_, T_, T_, F_, F_, F_, T_, F_, F_, F_, F_] rfl rfl (any_of HT_.out (by kernel_rfl)) (fun _ _ _ h => h) (Or.inl ⟨by rfl, ?_⟩) ?_ ?_
   rotate_left
   ·intro w'
    go_simp
    with_reducible rfl
   rotate_left
   ·simp only [Act.put, la_, lz_, ls_, i64_w, i32_w]
    rfl
   refine take_ (i := 4) (N := some 27) (v := ?_) (a' := ?_) #[T_, T_, T_, T_, T_, F_, F_, T_, F_, F_, F_, F_] rfl rfl (take_ofW HT_.out HW_.out (by kernel_rfl)) (fun _ _ _ h => h) (Or.inl ⟨by rfl, ?_⟩) hHeld ?_ ?_
   rotate_left
   ·rintro w' ⟨s0, s1, s2, s3, s4, s5, s6, s7, s8, s9, s10⟩
    go_simp
    with_reducible rfl
   rotate_left
   ·simp only [Act.put, la_, lz_, ls_, i64_w, i32_w]
    rfl
   refine pure_ (i := 5) (N := some 28) (v := ?_) (a' := ?_) #[T_, T_, T_, T_, T_, T_, F_, T_, F_, F_, F_, F_] rfl rfl (any_of HT_.out (by kernel_rfl)) (fun _ _ _ h => h) (Or.inl ⟨by rfl, ?_⟩) ?_ ?_
   rotate_left
   ·intro w'
    go_simp
    with_reducible rfl
   rotate_left
   ·simp only [Act.put, la_, lz_, ls_, i64_w, i32_w]
    rfl
   refine take_ (i := 8) (N := some 31) (v := ?_) (a' := ?_) #[T_, T_, T_, T_, T_, T_, F_, T_, T_, F_, F_, F_] rfl rfl (take_ofW HT_.out HW_.out (by kernel_rfl)) (fun _ _ _ h => h) (Or.inl ⟨by rfl, ?_⟩) hHeld ?_ ?_
   rotate_left
   ·rintro w' ⟨s0, s1, s2, s3, s4, s5, s6, s7, s8, s9, s10⟩
    go_simp
    with_reducible rfl
   rotate_left
   ·simp only [Act.put, la_, lz_, ls_, i64_w, i32_w]
    rfl
   refine join_ (σ := Value × Value) 2 #[T_, T_, T_, T_, T_, T_, T_, T_, T_, T_, F_, F_] (fun s_ => [(29, s_.1), (32, s_.2)]) (fun s_ w' => (w'.cell? ⟨gb142, 0, none⟩ = some (.int .i64 a0_0) ∧ w'.cell? ⟨gb142, 1, none⟩ = some (.int .i64 a0_1) ∧ w'.cell? ⟨gb142, 2, none⟩ = some (.int .i64 a0_2) ∧ w'.cell? ⟨gb142, 3, none⟩ = some (.int .i64 a0_3) ∧ w'.cell? ⟨gb142, 4, none⟩ = some (.int .i64 a0_4) ∧ w'.cell? ⟨gb142, 5, none⟩ = some (.bool a0_5) ∧ w'.cell? ⟨gb142, 6, none⟩ = some (.bool a0_6) ∧ w'.cell? ⟨gb142, 7, none⟩ = some (.bool a0_7) ∧ w'.cell? ⟨gb142, 8, none⟩ = some (.bool a0_8) ∧ w'.cell? ⟨gb142, 9, none⟩ = some (.slice A0_9 l0_9.length c0_9) ∧ w'.cell? ⟨gb142, 10, none⟩ = some (.slice A0_10 l0_10.length c0_10)) ∧ (Kd.R (Kd.int .u8) 5 w' w.heap.size (fun k_ => some k_ ≠ (s_.2 : Value).ownBlock) s_.1 y149) ∧ (Kd.R (Kd.int .u8) 5 w' w.heap.size (fun k_ => some k_ ≠ (s_.1 : Value).ownBlock) s_.2 t152) ∧ (w'.heap[gb142]? = some (.cells #[.int .i64 a0_0, .int .i64 a0_1, .int .i64 a0_2, .int .i64 a0_3, .int .i64 a0_4, .bool a0_5, .bool a0_6, .bool a0_7, .bool a0_8, .slice A0_9 l0_9.length c0_9, .slice A0_10 l0_10.length c0_10] 31 (0, 0))) ∧ (Below w.heap.size w w')) ?_ ?_
   rotate_left
   ·intro hCont
    refine two_ (i := 6) (j := 9) (Ni := some 29) (Nj := some 32) #[T_, T_, T_, T_, T_, T_, T_, T_, T_, F_, F_, F_] #[T_, T_, T_, T_, T_, T_, F_, T_, T_, T_, F_, F_] rfl rfl rfl rfl (two_of HT_.out (by kernel_rfl)) (by decide) (by decide) (fun K hK => ?_) (fun K hK => ?_)
    ·skip
     refine Kd.R_lit_step (Kd.int .u8) _ 5 ?hg (N := 29) ?hd (xs := ([(a0_0) % 256, (a0_1) % 256] : List Int)) (inner := [.int .u8 ((a0_0) % 256), .int .u8 ((a0_1) % 256)]) (ok := fun _ => True) (okp := fun _ => True) ?hr ?hp (fun _ hk => hk) trivial (Below.refl _ _) (Nat.le_refl _) (by simp) ?_; (case hd => rfl); (case hg => rfl); (case hr => first | (go_simp; done) | (go_simp; rfl)); (case hp => exact (Reps.one (show Kd.M (Kd.int .u8) _ _ _ ((a0_0) % 256) [.int .u8 ((a0_0) % 256)] from rfl) (Reps.one (show Kd.M (Kd.int .u8) _ _ _ ((a0_1) % 256) [.int .u8 ((a0_1) % 256)] from rfl) (Reps.none _ _))))
     intro v150 w27 ho28 hb hg_ hnew_
     clear hg_ hnew_
     (first | rw [← Ny149.out] at ho28 | (simp only [Int.reduceToNat] at ho28; rw [← Ny149.out] at ho28))
     have n0_ := mk_ (Kd.R_lower ho28 (below_size (us_ HB.out)))
     have n1_ := mk_ (blk_below (u_ BK142.out) hb)
     have n2_ := mk_ (below_step (us_ HB.out) hb)
     clear BK142
     clear HB
     have HO151 := n0_
     have BK142 := n1_
     have HB := n2_
     clear n0_ n1_ n2_
     clear hb ho28
     refine hK.out _ _ ⟨(blk_cell BK142.out 0).trans rfl, (blk_cell BK142.out 1).trans rfl, (blk_cell BK142.out 2).trans rfl, (blk_cell BK142.out 3).trans rfl, (blk_cell BK142.out 4).trans rfl, (blk_cell BK142.out 5).trans rfl, (blk_cell BK142.out 6).trans rfl, (blk_cell BK142.out 7).trans rfl, (blk_cell BK142.out 8).trans rfl, (blk_cell BK142.out 9).trans rfl, (blk_cell BK142.out 10).trans rfl⟩ (fun hHeld => ?_)
     clear hK K
     refine norm_ (a' := ?_) ?_ ?_
     rotate_left
     ·show Act.put _ (some 29) _ = _
      simp only [Act.put, la_, lz_, ls_, i64_w, i32_w]
      rfl
     refine one_ (i := 9) (N := some 32) #[T_, T_, T_, T_, T_, T_, T_, T_, T_, T_, F_, F_] rfl rfl (one_of HT_.out (by kernel_rfl)) (by decide) (fun K hK => ?_)
     refine goes_ Try.func54 (by kernel_rfl) rfl #[.int .i64 a0_2, .int .i64 2] (by rfl) rfl rfl (by (try simp only [lm_, lo_, ln_]); first | done | rfl | (simp only [List.length_drop, List.length_take]; rfl)) ?_
     with_reducible refine (spec_BytesOf.calls kj3 a0_2 2 t152 _ A20.out).mono ?_
     rintro e w29 ⟨v153, rfl, ho0, hb⟩
     refine ⟨_, rfl, ?_⟩
     have n0_ := mk_ (Kd.R_elder' (Kd.ur_ HO151.out) (Kd.R_base ho0) hb)
     have n1_ := mk_ (Kd.R_lower (Kd.R_new' ho0 (Kd.R_lt (Kd.ur_ HO151.out))) (below_size (us_ HB.out)))
     have n2_ := mk_ (blk_below (u_ BK142.out) hb)
     have n3_ := mk_ (below_step (us_ HB.out) hb)
     clear HO151
     clear BK142
     clear HB
     have HO151 := n0_
     have HO154 := n1_
     have BK142 := n2_
     have HB := n3_
     clear n0_ n1_ n2_ n3_
     (try clear hb)
     (try clear hb2)
     (try clear hk)
     (try clear hi)
     (try clear ho0)
     refine hK.out _ _ ⟨(blk_cell BK142.out 0).trans rfl, (blk_cell BK142.out 1).trans rfl, (blk_cell BK142.out 2).trans rfl, (blk_cell BK142.out 3).trans rfl, (blk_cell BK142.out 4).trans rfl, (blk_cell BK142.out 5).trans rfl, (blk_cell BK142.out 6).trans rfl, (blk_cell BK142.out 7).trans rfl, (blk_cell BK142.out 8).trans rfl, (blk_cell BK142.out 9).trans rfl, (blk_cell BK142.out 10).trans rfl⟩ (fun hHeld => ?_)
     clear hK K
     refine norm_ (a' := ?_) ?_ ?_
     rotate_left
     ·show Act.put _ (some 32) _ = _
      simp only [Act.put, la_, lz_, ls_, i64_w, i32_w]
      rfl
     exact norm_ (by simp only [putAll, Act.put, la_, lz_, ls_]) (hCont (v150, v153) _ ⟨hHeld, (by (with_reducible repeat (first | apply Kd.R_alloc | apply Kd.R_drewN | apply Kd.R_drew)); exact Kd.R_mono HO151.out (fun _ hk => hk.2)), (by (with_reducible repeat (first | apply Kd.R_alloc | apply Kd.R_drewN | apply Kd.R_drew)); exact Kd.R_mono HO154.out (fun _ hk => hk.2)), (u_ BK142.out), (us_ HB.out)⟩)
    skip
    refine goes_ Try.func54 (by kernel_rfl) rfl #[.int .i64 a0_2, .int .i64 2] (by rfl) rfl rfl (by (try simp only [lm_, lo_, ln_]); first | done | rfl | (simp only [List.length_drop, List.length_take]; rfl)) ?_
    with_reducible refine (spec_BytesOf.calls kj3 a0_2 2 t152 _ A20.out).mono ?_
    rintro e w27 ⟨v153, rfl, ho0, hb⟩
    refine ⟨_, rfl, ?_⟩
    have n0_ := mk_ (Kd.R_lower ho0 (below_size (us_ HB.out)))
    have n1_ := mk_ (blk_below (u_ BK142.out) hb)
    have n2_ := mk_ (below_step (us_ HB.out) hb)
    clear BK142
    clear HB
    have HO154 := n0_
    have BK142 := n1_
    have HB := n2_
    clear n0_ n1_ n2_
    (try clear hb)
    (try clear hb2)
    (try clear hk)
    (try clear hi)
    (try clear ho0)
    refine hK.out _ _ ⟨(blk_cell BK142.out 0).trans rfl, (blk_cell BK142.out 1).trans rfl, (blk_cell BK142.out 2).trans rfl, (blk_cell BK142.out 3).trans rfl, (blk_cell BK142.out 4).trans rfl, (blk_cell BK142.out 5).trans rfl, (blk_cell BK142.out 6).trans rfl, (blk_cell BK142.out 7).trans rfl, (blk_cell BK142.out 8).trans rfl, (blk_cell BK142.out 9).trans rfl, (blk_cell BK142.out 10).trans rfl⟩ (fun hHeld => ?_)
    clear hK K
    refine norm_ (a' := ?_) ?_ ?_
    rotate_left
    ·show Act.put _ (some 32) _ = _
     simp only [Act.put, la_, lz_, ls_, i64_w, i32_w]
     rfl
    refine one_ (i := 6) (N := some 29) #[T_, T_, T_, T_, T_, T_, T_, T_, T_, T_, F_, F_] rfl rfl (one_of HT_.out (by kernel_rfl)) (by decide) (fun K hK => ?_)
    refine Kd.R_lit_step (Kd.int .u8) _ 5 ?hg (N := 29) ?hd (xs := ([(a0_0) % 256, (a0_1) % 256] : List Int)) (inner := [.int .u8 ((a0_0) % 256), .int .u8 ((a0_1) % 256)]) (ok := fun _ => True) (okp := fun _ => True) ?hr ?hp (fun _ hk => hk) trivial (Below.refl _ _) (Nat.le_refl _) (by simp) ?_; (case hd => rfl); (case hg => rfl); (case hr => first | (go_simp; done) | (go_simp; rfl)); (case hp => exact (Reps.one (show Kd.M (Kd.int .u8) _ _ _ ((a0_0) % 256) [.int .u8 ((a0_0) % 256)] from rfl) (Reps.one (show Kd.M (Kd.int .u8) _ _ _ ((a0_1) % 256) [.int .u8 ((a0_1) % 256)] from rfl) (Reps.none _ _))))
    intro v150 w28 ho29 hb hg_ hnew_
    clear hg_ hnew_
    (first | rw [← Ny149.out] at ho29 | (simp only [Int.reduceToNat] at ho29; rw [← Ny149.out] at ho29))
    have n0_ := mk_ (Kd.R_elder' (Kd.ur_ HO154.out) (Kd.R_base ho29) hb)
    have n1_ := mk_ (Kd.R_lower (Kd.R_new' ho29 (Kd.R_lt (Kd.ur_ HO154.out))) (below_size (us_ HB.out)))
    have n2_ := mk_ (blk_below (u_ BK142.out) hb)
    have n3_ := mk_ (below_step (us_ HB.out) hb)
    clear HO154
    clear BK142
    clear HB
    have HO154 := n0_
    have HO151 := n1_
    have BK142 := n2_
    have HB := n3_
    clear n0_ n1_ n2_ n3_
    clear hb ho29
    refine hK.out _ _ ⟨(blk_cell BK142.out 0).trans rfl, (blk_cell BK142.out 1).trans rfl, (blk_cell BK142.out 2).trans rfl, (blk_cell BK142.out 3).trans rfl, (blk_cell BK142.out 4).trans rfl, (blk_cell BK142.out 5).trans rfl, (blk_cell BK142.out 6).trans rfl, (blk_cell BK142.out 7).trans rfl, (blk_cell BK142.out 8).trans rfl, (blk_cell BK142.out 9).trans rfl, (blk_cell BK142.out 10).trans rfl⟩ (fun hHeld => ?_)
    clear hK K
    refine norm_ (a' := ?_) ?_ ?_
    rotate_left
    ·show Act.put _ (some 29) _ = _
     simp only [Act.put, la_, lz_, ls_, i64_w, i32_w]
     rfl
    exact norm_ (by simp only [putAll, Act.put, la_, lz_, ls_]) (hCont (v150, v153) _ ⟨hHeld, (by (with_reducible repeat (first | apply Kd.R_alloc | apply Kd.R_drewN | apply Kd.R_drew)); exact Kd.R_mono HO151.out (fun _ hk => hk.2)), (by (with_reducible repeat (first | apply Kd.R_alloc | apply Kd.R_drewN | apply Kd.R_drew)); exact Kd.R_mono HO154.out (fun _ hk => hk.2)), (u_ BK142.out), (us_ HB.out)⟩)
   rintro ⟨v150, v153⟩ w30 ⟨hS_, h0_, h1_, h2_, h3_⟩
   have n0_ : Aside0 (Kd.R (Kd.int .u8) 5 w30 w.heap.size (fun k_ => some k_ ≠ (v153 : Value).ownBlock) v150 y149) := ⟨h0_⟩
   have n1_ : Aside0 (Kd.R (Kd.int .u8) 5 w30 w.heap.size (fun k_ => some k_ ≠ (v150 : Value).ownBlock) v153 t152) := ⟨h1_⟩
   have n2_ : Aside0 (w30.heap[gb142]? = some (.cells #[.int .i64 a0_0, .int .i64 a0_1, .int .i64 a0_2, .int .i64 a0_3, .int .i64 a0_4, .bool a0_5, .bool a0_6, .bool a0_7, .bool a0_8, .slice A0_9 l0_9.length c0_9, .slice A0_10 l0_10.length c0_10] 31 (0, 0))) := ⟨h2_⟩
   have n3_ : Aside0 (Below w.heap.size w w30) := ⟨h3_⟩
   clear BK142
   clear HB
   clear h0_ h1_ h2_ h3_
   have HO151 := n0_
   have HO154 := n1_
   have BK142 := n2_
   have HB := n3_
   clear n0_ n1_ n2_ n3_
   have hHeld : w30.cell? ⟨gb142, 0, none⟩ = some (.int .i64 a0_0) ∧ w30.cell? ⟨gb142, 1, none⟩ = some (.int .i64 a0_1) ∧ w30.cell? ⟨gb142, 2, none⟩ = some (.int .i64 a0_2) ∧ w30.cell? ⟨gb142, 3, none⟩ = some (.int .i64 a0_3) ∧ w30.cell? ⟨gb142, 4, none⟩ = some (.int .i64 a0_4) ∧ w30.cell? ⟨gb142, 5, none⟩ = some (.bool a0_5) ∧ w30.cell? ⟨gb142, 6, none⟩ = some (.bool a0_6) ∧ w30.cell? ⟨gb142, 7, none⟩ = some (.bool a0_7) ∧ w30.cell? ⟨gb142, 8, none⟩ = some (.bool a0_8) ∧ w30.cell? ⟨gb142, 9, none⟩ = some (.slice A0_9 l0_9.length c0_9) ∧ w30.cell? ⟨gb142, 10, none⟩ = some (.slice A0_10 l0_10.length c0_10) := hS_
   obtain ⟨Ao32, co32, eo32⟩ := Kd.R_slice HO154.out
   (first | subst eo32 | (injection eo32 with f1_ f2_ f3_; have f4_ := f1_.symm; have f5_ := f3_.symm; clear f1_ f2_ f3_; subst f4_; subst f5_))
   refine norm_ (a' := ?_) ?_ ?_
   rotate_left
   ·simp only [putAll, Act.put, la_, lz_, ls_]
    rfl
   refine one_ (i := 10) (N := some 33) #[T_, T_, T_, T_, T_, T_, T_, T_, T_, T_, T_, F_] rfl rfl (one_of HT_.out (by kernel_rfl)) (by decide) (fun K hK => ?_)
   refine Kd.R_append_rows_step (Kd.int .u8) (w0 := w) w.heap.size (by rfl) (.tmp 29) (.tmp 32) 22 5 (.int .u8 0) 1 rfl Try.underlying22 info5 rfl (by decide) (by omega) v150 y149 t152 _ _ _ (fun k_ => some k_ ≠ (.slice Ao32 t152.length co32 : Value).ownBlock) (fun _ => False) rfl rfl ?aO ?aR (fun _ _ h => h) (fun _ h => h.elim) ?aF ?aB ?aS ?aL ?_
   (case aR => repeat (first | exact (Kd.R_reads' HO154.out).2.2 | (with_reducible refine Kd.C_alloc ?_ _) | (with_reducible refine Kd.C_drewN ?_ _) | (with_reducible refine Kd.C_drew ?_)))
   (case aB => exact (us_ HB.out))
   (case aF => exact (fun k_ hk => Kd.fresh' (Kd.R_lt (Kd.ur_ HO154.out)) k_ hk))
   (case aO => exact (Kd.ur_ HO151.out))
   (case aS => exact (below_size (us_ HB.out)))
   (case aL => have := LMc21.out; omega)
   intro v156 w31 ho hb hg hat
   rw [← Ny155.out] at ho
   have n0_ := mk_ (blk_grown (g := gb142) (o := .cells #[.int .i64 a0_0, .int .i64 a0_1, .int .i64 a0_2, .int .i64 a0_3, .int .i64 a0_4, .bool a0_5, .bool a0_6, .bool a0_7, .bool a0_8, .slice A0_9 l0_9.length c0_9, .slice A0_10 l0_10.length c0_10] 31 (0, 0)) (u_ BK142.out) hg (Kd.R_ne HO151.out BK142.out (by decide)))
   have n1_ := mk_ (Kd.R_after (ok := (fun _ => True)) (by (with_reducible repeat (first | apply Kd.R_alloc | apply Kd.R_drewN | apply Kd.R_drew)); exact Kd.R_mono HO154.out (fun _ hk => ⟨trivial, hk⟩)) hg hat)
   have n2_ := mk_ (hb)
   have n3_ := mk_ (ho)
   clear BK142
   clear HO154
   clear HB
   clear HO151
   have BK142 := n0_
   have HO154 := n1_
   have HB := n2_
   have HO157 := n3_
   clear n0_ n1_ n2_ n3_
   clear ho hb hg hat
   refine hK.out _ _ ⟨(blk_cell BK142.out 0).trans rfl, (blk_cell BK142.out 1).trans rfl, (blk_cell BK142.out 2).trans rfl, (blk_cell BK142.out 3).trans rfl, (blk_cell BK142.out 4).trans rfl, (blk_cell BK142.out 5).trans rfl, (blk_cell BK142.out 6).trans rfl, (blk_cell BK142.out 7).trans rfl, (blk_cell BK142.out 8).trans rfl, (blk_cell BK142.out 9).trans rfl, (blk_cell BK142.out 10).trans rfl⟩ (fun hHeld => ?_)
   clear hK K
   refine norm_ (a' := ?_) ?_ ?_
   rotate_left
   ·show Act.put _ (some 33) _ = _
    simp only [Act.put, la_, lz_, ls_, i64_w, i32_w]
    rfl
   refine pure_ (i := 11) (N := some 7) (v := ?_) (a' := ?_) #[T_, T_, T_, T_, T_, T_, T_, T_, T_, T_, T_, T_] rfl rfl (any_of HT_.out (by kernel_rfl)) (fun _ _ _ h => h) (Or.inl ⟨by rfl, ?_⟩) ?_ ?_
   rotate_left
   ·intro w'
    go_simp
    with_reducible rfl
   rotate_left
   ·simp only [Act.put, la_, lz_, ls_, i64_w, i32_w]
    rfl
   refine done_ (done_of HT_.out (by kernel_rfl)) ?_
   try go_wp2
   have n0_ := mk_ (Kd.R_drew HO154.out)
   have n1_ := mk_ (Kd.R_drew HO157.out)
   have n2_ := mk_ (blk_drew BK142.out)
   have n3_ := mk_ (below_drew1 HB.out)
   clear HO154
   clear HO157
   clear BK142
   clear HB
   have HO154 := n0_
   have HO157 := n1_
   have BK142 := n2_
   have HB := n3_
   clear n0_ n1_ n2_ n3_
   refine start_ (n := 18) (S := fun w' => w'.cell? ⟨gb142, 0, none⟩ = some (.int .i64 a0_0) ∧ w'.cell? ⟨gb142, 1, none⟩ = some (.int .i64 a0_1) ∧ w'.cell? ⟨gb142, 2, none⟩ = some (.int .i64 a0_2) ∧ w'.cell? ⟨gb142, 3, none⟩ = some (.int .i64 a0_3) ∧ w'.cell? ⟨gb142, 4, none⟩ = some (.int .i64 a0_4) ∧ w'.cell? ⟨gb142, 5, none⟩ = some (.bool a0_5) ∧ w'.cell? ⟨gb142, 6, none⟩ = some (.bool a0_6) ∧ w'.cell? ⟨gb142, 7, none⟩ = some (.bool a0_7) ∧ w'.cell? ⟨gb142, 8, none⟩ = some (.bool a0_8) ∧ w'.cell? ⟨gb142, 9, none⟩ = some (.slice A0_9 l0_9.length c0_9) ∧ w'.cell? ⟨gb142, 10, none⟩ = some (.slice A0_10 l0_10.length c0_10)) (ds := []) #[F_, F_, F_, F_, F_, F_, F_, F_, F_, F_, F_, F_, F_, F_, F_, F_, F_, F_] (by kernel_rfl) rfl rfl ⟨(blk_cell BK142.out 0).trans rfl, (blk_cell BK142.out 1).trans rfl, (blk_cell BK142.out 2).trans rfl, (blk_cell BK142.out 3).trans rfl, (blk_cell BK142.out 4).trans rfl, (blk_cell BK142.out 5).trans rfl, (blk_cell BK142.out 6).trans rfl, (blk_cell BK142.out 7).trans rfl, (blk_cell BK142.out 8).trans rfl, (blk_cell BK142.out 9).trans rfl, (blk_cell BK142.out 10).trans rfl⟩ (fun hHeld => ?_); refine with_tabW spec_SegmentBytes.tab4 spec_SegmentBytes.bits4 (fun HT_ HW_ => ?_)
   generalize w31.drew = w33 at HO154 HO157 BK142 HB hHeld ⊢
   refine pure_ (i := 0) (N := some 34) (v := ?_) (a' := ?_) #[T_, F_, F_, F_, F_, F_, F_, F_, F_, F_, F_, F_, F_, F_, F_, F_, F_, F_] rfl rfl (any_of HT_.out (by kernel_rfl)) (fun _ _ _ h => h) (Or.inl ⟨by rfl, ?_⟩) ?_ ?_
   rotate_left
   ·intro w'
    go_simp
    with_reducible rfl
   rotate_left
   ·simp only [Act.put, la_, lz_, ls_, i64_w, i32_w]
    rfl
   refine pure_ (i := 1) (N := some 35) (v := ?_) (a' := ?_) #[T_, T_, F_, F_, F_, F_, F_, F_, F_, F_, F_, F_, F_, F_, F_, F_, F_, F_] rfl rfl (any_of HT_.out (by kernel_rfl)) (fun _ _ _ h => h) (Or.inl ⟨by rfl, ?_⟩) ?_ ?_
   rotate_left
   ·intro w'
    go_simp
    with_reducible rfl
   rotate_left
   ·simp only [Act.put, la_, lz_, ls_, i64_w, i32_w]
    rfl
   refine pure_ (i := 5) (N := some 39) (v := ?_) (a' := ?_) #[T_, T_, F_, F_, F_, T_, F_, F_, F_, F_, F_, F_, F_, F_, F_, F_, F_, F_] rfl rfl (any_of HT_.out (by kernel_rfl)) (fun _ _ _ h => h) (Or.inl ⟨by rfl, ?_⟩) ?_ ?_
   rotate_left
   ·intro w'
    go_simp
    with_reducible rfl
   rotate_left
   ·simp only [Act.put, la_, lz_, ls_, i64_w, i32_w]
    rfl
   refine pure_ (i := 11) (N := some 45) (v := ?_) (a' := ?_) #[T_, T_, F_, F_, F_, T_, F_, F_, F_, F_, F_, T_, F_, F_, F_, F_, F_, F_] rfl rfl (any_of HT_.out (by kernel_rfl)) (fun _ _ _ h => h) (Or.inl ⟨by rfl, ?_⟩) ?_ ?_
   rotate_left
   ·intro w'
    go_simp
    with_reducible rfl
   rotate_left
   ·simp only [Act.put, la_, lz_, ls_, i64_w, i32_w]
    rfl
   refine take_ (i := 2) (N := some 36) (v := ?_) (a' := ?_) #[T_, T_, T_, F_, F_, T_, F_, F_, F_, F_, F_, T_, F_, F_, F_, F_, F_, F_] rfl rfl (take_ofW HT_.out HW_.out (by kernel_rfl)) (fun _ _ _ h => h) (Or.inl ⟨by rfl, ?_⟩) hHeld ?_ ?_
   rotate_left
   ·rintro w' ⟨s0, s1, s2, s3, s4, s5, s6, s7, s8, s9, s10⟩
    go_simp
    with_reducible rfl
   rotate_left
   ·simp only [Act.put, la_, lz_, ls_, i64_w, i32_w]
    rfl
   refine take_ (i := 6) (N := some 40) (v := ?_) (a' := ?_) #[T_, T_, T_, F_, F_, T_, T_, F_, F_, F_, F_, T_, F_, F_, F_, F_, F_, F_] rfl rfl (take_ofW HT_.out HW_.out (by kernel_rfl)) (fun _ _ _ h => h) (Or.inl ⟨by rfl, ?_⟩) hHeld ?_ ?_
   rotate_left
   ·rintro w' ⟨s0, s1, s2, s3, s4, s5, s6, s7, s8, s9, s10⟩
    go_simp
    with_reducible rfl
   rotate_left
   ·simp only [Act.put, la_, lz_, ls_, i64_w, i32_w]
    rfl
   refine pure_ (i := 7) (N := some 41) (v := ?_) (a' := ?_) #[T_, T_, T_, F_, F_, T_, T_, T_, F_, F_, F_, T_, F_, F_, F_, F_, F_, F_] rfl rfl (any_of HT_.out (by kernel_rfl)) (fun _ _ _ h => h) (Or.inl ⟨by rfl, ?_⟩) ?_ ?_
   rotate_left
   ·intro w'
    go_simp
    with_reducible rfl
   rotate_left
   ·simp only [Act.put, la_, lz_, ls_, i64_w, i32_w]
    rfl
   refine take_ (i := 8) (N := some 42) (v := ?_) (a' := ?_) #[T_, T_, T_, F_, F_, T_, T_, T_, T_, F_, F_, T_, F_, F_, F_, F_, F_, F_] rfl rfl (take_ofW HT_.out HW_.out (by kernel_rfl)) (fun _ _ _ h => h) (Or.inl ⟨by rfl, ?_⟩) hHeld ?_ ?_
   rotate_left
   ·rintro w' ⟨s0, s1, s2, s3, s4, s5, s6, s7, s8, s9, s10⟩
    go_simp
    with_reducible rfl
   rotate_left
   ·simp only [Act.put, la_, lz_, ls_, i64_w, i32_w]
    rfl
   refine take_ (i := 12) (N := some 46) (v := ?_) (a' := ?_) #[T_, T_, T_, F_, F_, T_, T_, T_, T_, F_, F_, T_, T_, F_, F_, F_, F_, F_] rfl rfl (take_ofW HT_.out HW_.out (by kernel_rfl)) (fun _ _ _ h => h) (Or.inl ⟨by rfl, ?_⟩) hHeld ?_ ?_
   rotate_left
   ·rintro w' ⟨s0, s1, s2, s3, s4, s5, s6, s7, s8, s9, s10⟩
    go_simp
    with_reducible rfl
   rotate_left
   ·simp only [Act.put, la_, lz_, ls_, i64_w, i32_w]
    rfl
   refine pure_ (i := 13) (N := some 47) (v := ?_) (a' := ?_) #[T_, T_, T_, F_, F_, T_, T_, T_, T_, F_, F_, T_, T_, T_, F_, F_, F_, F_] rfl rfl (any_of HT_.out (by kernel_rfl)) (fun _ _ _ h => h) (Or.inl ⟨by rfl, ?_⟩) ?_ ?_
   rotate_left
   ·intro w'
    go_simp
    with_reducible rfl
   rotate_left
   ·simp only [Act.put, la_, lz_, ls_, i64_w, i32_w]
    rfl
   refine pure_ (i := 14) (N := some 48) (v := ?_) (a' := ?_) #[T_, T_, T_, F_, F_, T_, T_, T_, T_, F_, F_, T_, T_, T_, T_, F_, F_, F_] rfl rfl (any_of HT_.out (by kernel_rfl)) (fun _ _ _ h => h) (Or.inl ⟨by rfl, ?_⟩) ?_ ?_
   rotate_left
   ·intro w'
    go_simp
    with_reducible rfl
   rotate_left
   ·simp only [Act.put, la_, lz_, ls_, i64_w, i32_w]
    rfl
   refine one_ (i := 3) (N := some 37) #[T_, T_, T_, T_, F_, T_, T_, T_, T_, F_, F_, T_, T_, T_, T_, F_, F_, F_] rfl rfl (one_of HT_.out (by kernel_rfl)) (by decide) (fun K hK => ?_)
   refine goes_ Try.func54 (by kernel_rfl) rfl #[.int .i64 a0_3, .int .i64 2] (by rfl) rfl rfl (by (try simp only [lm_, lo_, ln_]); first | done | rfl | (simp only [List.length_drop, List.length_take]; rfl)) ?_
   with_reducible refine (spec_BytesOf.calls kj3 a0_3 2 t158 _ A22.out).mono ?_
   rintro e w34 ⟨v159, rfl, ho0, hb⟩
   refine ⟨_, rfl, ?_⟩
   have n0_ := mk_ (Kd.R_elder' (Kd.ur_ HO154.out) (Kd.R_base ho0) hb)
   have n1_ := mk_ (Kd.R_elder' (Kd.ur_ HO157.out) (Kd.R_base ho0) hb)
   have n2_ := mk_ (Kd.R_lower (Kd.R_new' (Kd.R_new' ho0 (Kd.R_lt (Kd.ur_ HO154.out))) (Kd.R_lt (Kd.ur_ HO157.out))) (below_size (us_ HB.out)))
   have n3_ := mk_ (blk_below (u_ BK142.out) hb)
   have n4_ := mk_ (below_step (us_ HB.out) hb)
   clear HO154
   clear HO157
   clear BK142
   clear HB
   have HO154 := n0_
   have HO157 := n1_
   have HO160 := n2_
   have BK142 := n3_
   have HB := n4_
   clear n0_ n1_ n2_ n3_ n4_
   (try clear hb)
   (try clear hb2)
   (try clear hk)
   (try clear hi)
   (try clear ho0)
   obtain ⟨Ao36, co36, eo36⟩ := Kd.R_slice HO160.out
   (first | subst eo36 | (injection eo36 with f1_ f2_ f3_; have f4_ := f1_.symm; have f5_ := f3_.symm; clear f1_ f2_ f3_; subst f4_; subst f5_))
   refine hK.out _ _ ⟨(blk_cell BK142.out 0).trans rfl, (blk_cell BK142.out 1).trans rfl, (blk_cell BK142.out 2).trans rfl, (blk_cell BK142.out 3).trans rfl, (blk_cell BK142.out 4).trans rfl, (blk_cell BK142.out 5).trans rfl, (blk_cell BK142.out 6).trans rfl, (blk_cell BK142.out 7).trans rfl, (blk_cell BK142.out 8).trans rfl, (blk_cell BK142.out 9).trans rfl, (blk_cell BK142.out 10).trans rfl⟩ (fun hHeld => ?_)
   clear hK K
   refine norm_ (a' := ?_) ?_ ?_
   rotate_left
   ·show Act.put _ (some 37) _ = _
    simp only [Act.put, la_, lz_, ls_, i64_w, i32_w]
    rfl
   refine one_ (i := 4) (N := some 38) #[T_, T_, T_, T_, T_, T_, T_, T_, T_, F_, F_, T_, T_, T_, T_, F_, F_, F_] rfl rfl (one_of HT_.out (by kernel_rfl)) (by decide) (fun K hK => ?_)
   refine Kd.R_append_rows_step (Kd.int .u8) (w0 := w) w.heap.size (by rfl) (.tmp 34) (.tmp 37) 22 5 (.int .u8 0) 1 rfl Try.underlying22 info5 rfl (by decide) (by omega) v156 y155 t158 _ _ _ (fun k_ => some k_ ≠ (.slice Ao32 t152.length co32 : Value).ownBlock ∧ some k_ ≠ (.slice Ao36 t158.length co36 : Value).ownBlock) (fun _ => False) rfl rfl ?aO ?aR (fun _ _ h => h) (fun _ h => h.elim) ?aF ?aB ?aS ?aL ?_
   (case aR => repeat (first | exact (Kd.R_reads' HO160.out).2.2 | (with_reducible refine Kd.C_alloc ?_ _) | (with_reducible refine Kd.C_drewN ?_ _) | (with_reducible refine Kd.C_drew ?_)))
   (case aB => exact (us_ HB.out))
   (case aF => exact (fun k_ hk => ⟨Kd.fresh' (Kd.R_lt (Kd.ur_ HO154.out)) k_ hk, Kd.fresh' (Kd.R_lt (Kd.ur_ HO160.out)) k_ hk⟩))
   (case aO => exact (Kd.ur_ HO157.out))
   (case aS => exact (below_size (us_ HB.out)))
   (case aL => have := LMc23.out; omega)
   intro v162 w35 ho hb hg hat
   rw [← Ny161.out] at ho
   have n0_ := mk_ (blk_grown (g := gb142) (o := .cells #[.int .i64 a0_0, .int .i64 a0_1, .int .i64 a0_2, .int .i64 a0_3, .int .i64 a0_4, .bool a0_5, .bool a0_6, .bool a0_7, .bool a0_8, .slice A0_9 l0_9.length c0_9, .slice A0_10 l0_10.length c0_10] 31 (0, 0)) (u_ BK142.out) hg (Kd.R_ne HO157.out BK142.out (by decide)))
   have n1_ := mk_ (Kd.R_after (ok := (fun k_ => some k_ ≠ (.slice Ao36 t158.length co36 : Value).ownBlock)) (by (with_reducible repeat (first | apply Kd.R_alloc | apply Kd.R_drewN | apply Kd.R_drew)); exact Kd.R_mono HO154.out (fun _ hk => ⟨hk.2, hk.1.2⟩)) hg hat)
   have n2_ := mk_ (Kd.R_after (ok := (fun k_ => some k_ ≠ (.slice Ao32 t152.length co32 : Value).ownBlock)) (by (with_reducible repeat (first | apply Kd.R_alloc | apply Kd.R_drewN | apply Kd.R_drew)); exact Kd.R_mono HO160.out (fun _ hk => ⟨hk.1.2, hk.2⟩)) hg hat)
   have n3_ := mk_ (hb)
   have n4_ := mk_ (ho)
   clear BK142
   clear HO154
   clear HO160
   clear HB
   clear HO157
   have BK142 := n0_
   have HO154 := n1_
   have HO160 := n2_
   have HB := n3_
   have HO163 := n4_
   clear n0_ n1_ n2_ n3_ n4_
   clear ho hb hg hat
   refine hK.out _ _ ⟨(blk_cell BK142.out 0).trans rfl, (blk_cell BK142.out 1).trans rfl, (blk_cell BK142.out 2).trans rfl, (blk_cell BK142.out 3).trans rfl, (blk_cell BK142.out 4).trans rfl, (blk_cell BK142.out 5).trans rfl, (blk_cell BK142.out 6).trans rfl, (blk_cell BK142.out 7).trans rfl, (blk_cell BK142.out 8).trans rfl, (blk_cell BK142.out 9).trans rfl, (blk_cell BK142.out 10).trans rfl⟩ (fun hHeld => ?_)
   clear hK K
   refine norm_ (a' := ?_) ?_ ?_
   rotate_left
   ·show Act.put _ (some 38) _ = _
    simp only [Act.put, la_, lz_, ls_, i64_w, i32_w]
    rfl
   refine one_ (i := 9) (N := some 43) #[T_, T_, T_, T_, T_, T_, T_, T_, T_, T_, F_, T_, T_, T_, T_, F_, F_, F_] rfl rfl (one_of HT_.out (by kernel_rfl)) (by decide) (fun K hK => ?_)
   refine goes_ Try.func55 (by kernel_rfl) rfl #[.agg #[.int .i64 a0_0, .int .i64 a0_1, .int .i64 a0_2, .int .i64 a0_3, .int .i64 a0_4, .bool a0_5, .bool a0_6, .bool a0_7, .bool a0_8, .slice A0_9 l0_9.length c0_9, .slice A0_10 l0_10.length c0_10]] (by rfl) rfl rfl (by (try simp only [lm_, lo_, ln_]); first | done | rfl | (simp only [List.length_drop, List.length_take]; rfl)) ?_
   with_reducible refine (spec_l11Marks.calls kj3 a0_0 a0_1 a0_2 a0_3 a0_4 a0_5 a0_6 a0_7 a0_8 _ _ l0_9 _ _ l0_10 t164 _ ?side1 ?side2 ?side3 ?side4 A24.out).mono ?_
   (case side1 => repeat (first | exact (Kd.C_below HR0_9.out HB.out) | (with_reducible refine Kd.C_alloc ?_ _) | (with_reducible refine Kd.C_drewN ?_ _) | (with_reducible refine Kd.C_drew ?_)))
   (case side2 => exact HC0_9.out)
   (case side3 => repeat (first | exact (Kd.C_below HR0_10.out HB.out) | (with_reducible refine Kd.C_alloc ?_ _) | (with_reducible refine Kd.C_drewN ?_ _) | (with_reducible refine Kd.C_drew ?_)))
   (case side4 => exact HC0_10.out)
   rintro e w37 ⟨rfl, hb⟩
   refine ⟨_, rfl, ?_⟩
   have n0_ := mk_ (Kd.R_below (Kd.ur_ HO154.out) hb)
   have n1_ := mk_ (Kd.R_below (Kd.ur_ HO160.out) hb)
   have n2_ := mk_ (Kd.R_below (Kd.ur_ HO163.out) hb)
   have n3_ := mk_ (blk_below (u_ BK142.out) hb)
   have n4_ := mk_ (below_step (us_ HB.out) hb)
   clear HO154
   clear HO160
   clear HO163
   clear BK142
   clear HB
   have HO154 := n0_
   have HO160 := n1_
   have HO163 := n2_
   have BK142 := n3_
   have HB := n4_
   clear n0_ n1_ n2_ n3_ n4_
   (try clear hb)
   (try clear hb2)
   (try clear hk)
   (try clear hi)
   refine hK.out _ _ ⟨(blk_cell BK142.out 0).trans rfl, (blk_cell BK142.out 1).trans rfl, (blk_cell BK142.out 2).trans rfl, (blk_cell BK142.out 3).trans rfl, (blk_cell BK142.out 4).trans rfl, (blk_cell BK142.out 5).trans rfl, (blk_cell BK142.out 6).trans rfl, (blk_cell BK142.out 7).trans rfl, (blk_cell BK142.out 8).trans rfl, (blk_cell BK142.out 9).trans rfl, (blk_cell BK142.out 10).trans rfl⟩ (fun hHeld => ?_)
   clear hK K
   refine norm_ (a' := ?_) ?_ ?_
   rotate_left
   ·show Act.put _ (some 43) _ = _
    simp only [Act.put, la_, lz_, ls_, i64_w, i32_w]
    rfl
   refine pure_ (i := 10) (N := some 44) (v := ?_) (a' := ?_) #[T_, T_, T_, T_, T_, T_, T_, T_, T_, T_, T_, T_, T_, T_, T_, F_, F_, F_] rfl rfl (any_of HT_.out (by kernel_rfl)) (fun _ _ _ h => h) (Or.inl ⟨by rfl, ?_⟩) ?_ ?_
   rotate_left
   ·intro w'
    go_simp
    with_reducible rfl
   rotate_left
   ·simp only [Act.put, la_, lz_, ls_, i64_w, i32_w]
    rfl
   refine one_ (i := 15) (N := some 49) #[T_, T_, T_, T_, T_, T_, T_, T_, T_, T_, T_, T_, T_, T_, T_, T_, F_, F_] rfl rfl (one_of HT_.out (by kernel_rfl)) (by decide) (fun K hK => ?_)
   refine Kd.R_lit_step (Kd.int .u8) _ 5 ?hg (N := 49) ?hd (xs := ([(a0_4) % 256, (t164) % 256, ((l0_9.length : Int)) % 256] : List Int)) (inner := [.int .u8 ((a0_4) % 256), .int .u8 ((t164) % 256), .int .u8 (((l0_9.length : Int)) % 256)]) (ok := fun _ => True) (okp := fun _ => True) ?hr ?hp (fun _ hk => hk) trivial (Below.refl _ _) (Nat.le_refl _) (by simp) ?_; (case hd => rfl); (case hg => rfl); (case hr => first | (go_simp; done) | (go_simp; rfl)); (case hp => exact (Reps.one (show Kd.M (Kd.int .u8) _ _ _ ((a0_4) % 256) [.int .u8 ((a0_4) % 256)] from rfl) (Reps.one (show Kd.M (Kd.int .u8) _ _ _ ((t164) % 256) [.int .u8 ((t164) % 256)] from rfl) (Reps.one (show Kd.M (Kd.int .u8) _ _ _ (((l0_9.length : Int)) % 256) [.int .u8 (((l0_9.length : Int)) % 256)] from rfl) (Reps.none _ _)))))
   intro v166 w38 ho39 hb hg_ hnew_
   clear hg_ hnew_
   (first | rw [← Ny165.out] at ho39 | (simp only [Int.reduceToNat] at ho39; rw [← Ny165.out] at ho39))
   have n0_ := mk_ (Kd.R_elder' (Kd.ur_ HO154.out) (Kd.R_base ho39) hb)
   have n1_ := mk_ (Kd.R_elder' (Kd.ur_ HO160.out) (Kd.R_base ho39) hb)
   have n2_ := mk_ (Kd.R_elder' (Kd.ur_ HO163.out) (Kd.R_base ho39) hb)
   have n3_ := mk_ (Kd.R_lower (Kd.R_new' (Kd.R_new' (Kd.R_new' ho39 (Kd.R_lt (Kd.ur_ HO154.out))) (Kd.R_lt (Kd.ur_ HO160.out))) (Kd.R_lt (Kd.ur_ HO163.out))) (below_size (us_ HB.out)))
   have n4_ := mk_ (blk_below (u_ BK142.out) hb)
   have n5_ := mk_ (below_step (us_ HB.out) hb)
   clear HO154
   clear HO160
   clear HO163
   clear BK142
   clear HB
   have HO154 := n0_
   have HO160 := n1_
   have HO163 := n2_
   have HO167 := n3_
   have BK142 := n4_
   have HB := n5_
   clear n0_ n1_ n2_ n3_ n4_ n5_
   clear hb ho39
   obtain ⟨Ao41, co41, eo41⟩ := Kd.R_slice HO167.out
   (first | subst eo41 | (injection eo41 with f1_ f2_ f3_; have f4_ := f1_.symm; have f5_ := f3_.symm; clear f1_ f2_ f3_; subst f4_; subst f5_))
   refine hK.out _ _ ⟨(blk_cell BK142.out 0).trans rfl, (blk_cell BK142.out 1).trans rfl, (blk_cell BK142.out 2).trans rfl, (blk_cell BK142.out 3).trans rfl, (blk_cell BK142.out 4).trans rfl, (blk_cell BK142.out 5).trans rfl, (blk_cell BK142.out 6).trans rfl, (blk_cell BK142.out 7).trans rfl, (blk_cell BK142.out 8).trans rfl, (blk_cell BK142.out 9).trans rfl, (blk_cell BK142.out 10).trans rfl⟩ (fun hHeld => ?_)
   clear hK K
   refine norm_ (a' := ?_) ?_ ?_
   rotate_left
   ·show Act.put _ (some 49) _ = _
    simp only [Act.put, la_, lz_, ls_, i64_w, i32_w]
    rfl
   refine one_ (i := 16) (N := some 50) #[T_, T_, T_, T_, T_, T_, T_, T_, T_, T_, T_, T_, T_, T_, T_, T_, T_, F_] rfl rfl (one_of HT_.out (by kernel_rfl)) (by decide) (fun K hK => ?_)
   refine Kd.R_append_rows_step (Kd.int .u8) (w0 := w) w.heap.size (by rfl) (.tmp 38) (.tmp 49) 22 5 (.int .u8 0) 1 rfl Try.underlying22 info5 rfl (by decide) (by omega) v162 y161 y165 _ _ _ (fun k_ => some k_ ≠ (.slice Ao32 t152.length co32 : Value).ownBlock ∧ some k_ ≠ (.slice Ao36 t158.length co36 : Value).ownBlock ∧ some k_ ≠ (.slice Ao41 y165.length co41 : Value).ownBlock) (fun _ => False) rfl rfl ?aO ?aR (fun _ _ h => h) (fun _ h => h.elim) ?aF ?aB ?aS ?aL ?_
   (case aR => repeat (first | exact (Kd.R_reads' HO167.out).2.2 | (with_reducible refine Kd.C_alloc ?_ _) | (with_reducible refine Kd.C_drewN ?_ _) | (with_reducible refine Kd.C_drew ?_)))
   (case aB => exact (us_ HB.out))
   (case aF => exact (fun k_ hk => ⟨Kd.fresh' (Kd.R_lt (Kd.ur_ HO154.out)) k_ hk, Kd.fresh' (Kd.R_lt (Kd.ur_ HO160.out)) k_ hk, Kd.fresh' (Kd.R_lt (Kd.ur_ HO167.out)) k_ hk⟩))
   (case aO => exact (by (with_reducible repeat (first | apply Kd.R_alloc | apply Kd.R_drewN | apply Kd.R_drew)); exact Kd.R_mono HO163.out (fun _ hk => by first | exact ⟨hk.1.1, ⟨hk.1.2, hk.2⟩⟩ | exact hk.1 | exact hk | exact ⟨hk.1, hk.2⟩ | exact ⟨.inr hk.1, hk.2⟩ | simp only [hk, ne_eq, not_false_eq_true, and_self])))
   (case aS => exact (below_size (us_ HB.out)))
   (case aL => have := LMc25.out; omega)
   intro v169 w40 ho hb hg hat
   rw [← Ny168.out] at ho
   have n0_ := mk_ (blk_grown (g := gb142) (o := .cells #[.int .i64 a0_0, .int .i64 a0_1, .int .i64 a0_2, .int .i64 a0_3, .int .i64 a0_4, .bool a0_5, .bool a0_6, .bool a0_7, .bool a0_8, .slice A0_9 l0_9.length c0_9, .slice A0_10 l0_10.length c0_10] 31 (0, 0)) (u_ BK142.out) hg (Kd.R_ne HO163.out BK142.out (by decide)))
   have n1_ := mk_ (Kd.R_after (ok := (fun k_ => some k_ ≠ (.slice Ao36 t158.length co36 : Value).ownBlock ∧ some k_ ≠ (.slice Ao41 y165.length co41 : Value).ownBlock)) (by (with_reducible repeat (first | apply Kd.R_alloc | apply Kd.R_drewN | apply Kd.R_drew)); exact Kd.R_mono HO154.out (fun _ hk => by first | exact ⟨⟨hk.1.1, hk.2⟩, hk.1.2⟩ | exact hk.1 | exact hk | exact ⟨hk.1, hk.2⟩ | exact ⟨.inr hk.1, hk.2⟩ | simp only [hk, ne_eq, not_false_eq_true, and_self])) hg hat)
   have n2_ := mk_ (Kd.R_after (ok := (fun k_ => some k_ ≠ (.slice Ao32 t152.length co32 : Value).ownBlock ∧ some k_ ≠ (.slice Ao41 y165.length co41 : Value).ownBlock)) (by (with_reducible repeat (first | apply Kd.R_alloc | apply Kd.R_drewN | apply Kd.R_drew)); exact Kd.R_mono HO160.out (fun _ hk => by first | exact ⟨⟨hk.1.1, hk.2⟩, hk.1.2⟩ | exact hk.1 | exact hk | exact ⟨hk.1, hk.2⟩ | exact ⟨.inr hk.1, hk.2⟩ | simp only [hk, ne_eq, not_false_eq_true, and_self])) hg hat)
   have n3_ := mk_ (Kd.R_after (ok := (fun k_ => some k_ ≠ (.slice Ao32 t152.length co32 : Value).ownBlock ∧ some k_ ≠ (.slice Ao36 t158.length co36 : Value).ownBlock)) (by (with_reducible repeat (first | apply Kd.R_alloc | apply Kd.R_drewN | apply Kd.R_drew)); exact Kd.R_mono HO167.out (fun _ hk => by first | exact ⟨⟨hk.1.1.2, hk.1.2⟩, hk.2⟩ | exact hk.1 | exact hk | exact ⟨hk.1, hk.2⟩ | exact ⟨.inr hk.1, hk.2⟩ | simp only [hk, ne_eq, not_false_eq_true, and_self])) hg hat)
   have n4_ := mk_ (hb)
   have n5_ := mk_ (ho)
   clear BK142
   clear HO154
   clear HO160
   clear HO167
   clear HB
   clear HO163
   have BK142 := n0_
   have HO154 := n1_
   have HO160 := n2_
   have HO167 := n3_
   have HB := n4_
   have HO170 := n5_
   clear n0_ n1_ n2_ n3_ n4_ n5_
   clear ho hb hg hat
   refine hK.out _ _ ⟨(blk_cell BK142.out 0).trans rfl, (blk_cell BK142.out 1).trans rfl, (blk_cell BK142.out 2).trans rfl, (blk_cell BK142.out 3).trans rfl, (blk_cell BK142.out 4).trans rfl, (blk_cell BK142.out 5).trans rfl, (blk_cell BK142.out 6).trans rfl, (blk_cell BK142.out 7).trans rfl, (blk_cell BK142.out 8).trans rfl, (blk_cell BK142.out 9).trans rfl, (blk_cell BK142.out 10).trans rfl⟩ (fun hHeld => ?_)
   clear hK K
   refine norm_ (a' := ?_) ?_ ?_
   rotate_left
   ·show Act.put _ (some 50) _ = _
    simp only [Act.put, la_, lz_, ls_, i64_w, i32_w]
    rfl
   refine pure_ (i := 17) (N := some 7) (v := ?_) (a' := ?_) #[T_, T_, T_, T_, T_, T_, T_, T_, T_, T_, T_, T_, T_, T_, T_, T_, T_, T_] rfl rfl (any_of HT_.out (by kernel_rfl)) (fun _ _ _ h => h) (Or.inl ⟨by rfl, ?_⟩) ?_ ?_
   rotate_left
   ·intro w'
    go_simp
    with_reducible rfl
   rotate_left
   ·simp only [Act.put, la_, lz_, ls_, i64_w, i32_w]
    rfl
   refine done_ (done_of HT_.out (by kernel_rfl)) ?_
   try go_wp2
   go_loopg [7, 8] kj3 (fun kq v7 v8 w' => ∃ (x7_2 : List Int) (x8_2 : Int), v8 = .int .i64 x8_2 ∧ Aside0 (spec_SegmentBytes.l0 kq a1 a2 x7_2 x8_2 a0_0 a0_1 a0_2 a0_3 a0_4 a0_5 a0_6 a0_7 a0_8 l0_9 l0_10 = some r) ∧ Aside0 (kq ≤ kj3) ∧ Aside0 (Kd.R (Kd.int .u8) 5 w' w.heap.size (fun _ => True) v7 x7_2) ∧ Aside0 (w'.heap[gb142]? = some (.cells #[.int .i64 a0_0, .int .i64 a0_1, .int .i64 a0_2, .int .i64 a0_3, .int .i64 a0_4, .bool a0_5, .bool a0_6, .bool a0_7, .bool a0_8, (.slice A0_9 l0_9.length c0_9), (.slice A0_10 l0_10.length c0_10)] 31 (0, 0))) ∧ Aside0 (Below w.heap.size w w'))
   case atStart => exact ⟨(y168), (0), (by first | rfl | (simp; done) | (simp [*]; done)), H', ⟨Nat.le_refl _⟩, ⟨by (with_reducible repeat (first | apply Kd.R_alloc | apply Kd.R_drewN | apply Kd.R_drew)); exact Kd.R_mono HO170.out (fun _ hk => trivial)⟩, ⟨u_ BK142.out⟩, ⟨us_ HB.out⟩⟩
   case round =>
    clear H'
    try clear c1
    try clear c2
    try clear p2
    try clear c5
    try clear c17
    try clear c21
    try clear c23
    try clear c25
    obtain ⟨x7_2, x8_2, rfl, HA, HK2, HO_7, BK142, HB⟩ := hrel
    cases gk with
    | zero => exact absurd HA.out (by simp [spec_SegmentBytes.l0])
    | succ k2 =>
     have H := HA.out
     clear HA
     simp only [spec_SegmentBytes.l0] at H
     by_cases c42 : x8_2 < (l0_9.length : Int)
     rotate_left
     ·rw [if_neg c42] at H
      have c42b0 : decide (x8_2 < (l0_9.length : Int)) = false := decide_eq_false c42
      clear c42
      by_cases c56 : x7_2.length < 140737488355328
      rotate_left
      ·rw [if_neg c56] at H
       exact absurd H (by simp)
      rw [if_pos c56] at H
      have LMc56 := mk_ c56
      clear c56
      obtain ⟨y185, hy185⟩ : ∃ y_ : List Int, y_ = (x7_2 ++ [((l0_10.length : Int)) % 256]) := ⟨_, rfl⟩
      replace H : (if y185.length + l0_10.length < 140737488355328 then ((some (y185 ++ l0_10 : List Int)).bind fun y188 => ((spec_l9Sum.f k2 a1 a2 y188).bind fun t191 => ((spec_BytesOf.f k2 t191 2).bind fun t192 => (if y188.length + t192.length < 140737488355328 then (some (y188 ++ t192)) else (none))))) else (none)) = some r := by first | (rw [hy185]; with_reducible exact H) | (have H2_ := (Option.bind_some _ _).symm.trans H; rw [hy185]; with_reducible exact H2_) | (have H2_ := (Option.bind_some _ _).symm.trans H; with_reducible exact H2_) | with_reducible exact H | (rw [hy185]; exact H) | exact H
      have Ny185 := mk_ hy185
      clear hy185
      by_cases c57 : y185.length + l0_10.length < 140737488355328
      rotate_left
      ·rw [if_neg c57] at H
       exact absurd H (by simp)
      rw [if_pos c57] at H
      have LMc57 := mk_ c57
      clear c57
      obtain ⟨y188, hy188⟩ : ∃ y_ : List Int, y_ = (y185 ++ l0_10) := ⟨_, rfl⟩
      replace H : ((spec_l9Sum.f k2 a1 a2 y188).bind fun t191 => ((spec_BytesOf.f k2 t191 2).bind fun t192 => (if y188.length + t192.length < 140737488355328 then (some (y188 ++ t192)) else (none)))) = some r := by first | (rw [hy188]; with_reducible exact H) | (have H2_ := (Option.bind_some _ _).symm.trans H; rw [hy188]; with_reducible exact H2_) | (have H2_ := (Option.bind_some _ _).symm.trans H; with_reducible exact H2_) | with_reducible exact H | (rw [hy188]; exact H) | exact H
      have Ny188 := mk_ hy188
      clear hy188
      replace H := Option.bind_eq_some_iff.mp H
      obtain ⟨t191, A580, H⟩ := H
      replace H : ((spec_BytesOf.f k2 t191 2).bind fun t192 => (if y188.length + t192.length < 140737488355328 then (some (y188 ++ t192)) else (none))) = some r := H
      have A58 := mk_ A580
      clear A580
      replace H := Option.bind_eq_some_iff.mp H
      obtain ⟨t192, A590, H⟩ := H
      replace H : (if y188.length + t192.length < 140737488355328 then (some (y188 ++ t192)) else (none)) = some r := H
      have A59 := mk_ A590
      clear A590
      by_cases c60 : y188.length + t192.length < 140737488355328
      rotate_left
      ·rw [if_neg c60] at H
       exact absurd H (by simp)
      rw [if_pos c60] at H
      have LMc60 := mk_ c60
      clear c60
      obtain ⟨y195, hy195⟩ : ∃ y_ : List Int, y_ = (y188 ++ t192) := ⟨_, rfl⟩
      replace H : (some y195) = some r := by first | (rw [hy195]; with_reducible exact H) | (have H2_ := (Option.bind_some _ _).symm.trans H; rw [hy195]; with_reducible exact H2_) | (have H2_ := (Option.bind_some _ _).symm.trans H; with_reducible exact H2_) | with_reducible exact H | (rw [hy195]; exact H) | exact H
      have Ny195 := mk_ hy195
      clear hy195
      obtain rfl := Option.some.inj H
      obtain ⟨hcz61_0, hcz61_1, hcz61_2, hcz61_3, hcz61_4, hcz61_5, hcz61_6, hcz61_7, hcz61_8, hcz61_9, hcz61_10, hfz61_0, hfz61_1, hfz61_2, hfz61_3, hfz61_4, hfz61_5, hfz61_6, hfz61_7, hfz61_8, hfz61_9, hfz61_10⟩ := cells11_ BK142.out
      try go_wp2
      have n0_ := mk_ (Kd.R_drew HO_7.out)
      have n1_ := mk_ (blk_drew BK142.out)
      have n2_ := mk_ (below_drew1 HB.out)
      clear HO_7
      clear BK142
      clear HB
      have HO_7 := n0_
      have BK142 := n1_
      have HB := n2_
      clear n0_ n1_ n2_
      refine start_ (n := 11) (S := fun w' => w'.cell? ⟨gb142, 0, none⟩ = some (.int .i64 a0_0) ∧ w'.cell? ⟨gb142, 1, none⟩ = some (.int .i64 a0_1) ∧ w'.cell? ⟨gb142, 2, none⟩ = some (.int .i64 a0_2) ∧ w'.cell? ⟨gb142, 3, none⟩ = some (.int .i64 a0_3) ∧ w'.cell? ⟨gb142, 4, none⟩ = some (.int .i64 a0_4) ∧ w'.cell? ⟨gb142, 5, none⟩ = some (.bool a0_5) ∧ w'.cell? ⟨gb142, 6, none⟩ = some (.bool a0_6) ∧ w'.cell? ⟨gb142, 7, none⟩ = some (.bool a0_7) ∧ w'.cell? ⟨gb142, 8, none⟩ = some (.bool a0_8) ∧ w'.cell? ⟨gb142, 9, none⟩ = some (.slice A0_9 l0_9.length c0_9) ∧ w'.cell? ⟨gb142, 10, none⟩ = some (.slice A0_10 l0_10.length c0_10)) (ds := []) #[F_, F_, F_, F_, F_, F_, F_, F_, F_, F_, F_] (by kernel_rfl) rfl rfl ⟨(blk_cell BK142.out 0).trans rfl, (blk_cell BK142.out 1).trans rfl, (blk_cell BK142.out 2).trans rfl, (blk_cell BK142.out 3).trans rfl, (blk_cell BK142.out 4).trans rfl, (blk_cell BK142.out 5).trans rfl, (blk_cell BK142.out 6).trans rfl, (blk_cell BK142.out 7).trans rfl, (blk_cell BK142.out 8).trans rfl, (blk_cell BK142.out 9).trans rfl, (blk_cell BK142.out 10).trans rfl⟩ (fun hHeld => ?_); refine with_tabW spec_SegmentBytes.tab9 spec_SegmentBytes.bits9 (fun HT_ HW_ => ?_)
      generalize wr.drew = w62 at HO_7 BK142 HB hHeld ⊢
      refine pure_ (i := 0) (N := some 75) (v := ?_) (a' := ?_) #[T_, F_, F_, F_, F_, F_, F_, F_, F_, F_, F_] rfl rfl (any_of HT_.out (by kernel_rfl)) (fun _ _ _ h => h) (Or.inl ⟨by rfl, ?_⟩) ?_ ?_
      rotate_left
      ·intro w'
       go_simp
       with_reducible rfl
      rotate_left
      ·simp only [Act.put, la_, lz_, ls_, i64_w, i32_w]
       rfl
      refine pure_ (i := 1) (N := some 76) (v := ?_) (a' := ?_) #[T_, T_, F_, F_, F_, F_, F_, F_, F_, F_, F_] rfl rfl (any_of HT_.out (by kernel_rfl)) (fun _ _ _ h => h) (Or.inl ⟨by rfl, ?_⟩) ?_ ?_
      rotate_left
      ·intro w'
       go_simp
       with_reducible rfl
      rotate_left
      ·simp only [Act.put, la_, lz_, ls_, i64_w, i32_w]
       rfl
      refine pure_ (i := 7) (N := some 82) (v := ?_) (a' := ?_) #[T_, T_, F_, F_, F_, F_, F_, T_, F_, F_, F_] rfl rfl (any_of HT_.out (by kernel_rfl)) (fun _ _ _ h => h) (Or.inl ⟨by rfl, ?_⟩) ?_ ?_
      rotate_left
      ·intro w'
       go_simp
       with_reducible rfl
      rotate_left
      ·simp only [Act.put, la_, lz_, ls_, i64_w, i32_w]
       rfl
      refine take_ (i := 2) (N := some 77) (v := ?_) (a' := ?_) #[T_, T_, T_, F_, F_, F_, F_, T_, F_, F_, F_] rfl rfl (take_ofW HT_.out HW_.out (by kernel_rfl)) (fun _ _ _ h => h) (Or.inl ⟨by rfl, ?_⟩) hHeld ?_ ?_
      rotate_left
      ·rintro w' ⟨s0, s1, s2, s3, s4, s5, s6, s7, s8, s9, s10⟩
       go_simp
       with_reducible rfl
      rotate_left
      ·simp only [Act.put, la_, lz_, ls_, i64_w, i32_w]
       rfl
      refine pure_ (i := 3) (N := some 78) (v := ?_) (a' := ?_) #[T_, T_, T_, T_, F_, F_, F_, T_, F_, F_, F_] rfl rfl (any_of HT_.out (by kernel_rfl)) (fun _ _ _ h => h) (Or.inl ⟨by rfl, ?_⟩) ?_ ?_
      rotate_left
      ·intro w'
       go_simp
       with_reducible rfl
      rotate_left
      ·simp only [Act.put, la_, lz_, ls_, i64_w, i32_w]
       rfl
      refine pure_ (i := 4) (N := some 79) (v := ?_) (a' := ?_) #[T_, T_, T_, T_, T_, F_, F_, T_, F_, F_, F_] rfl rfl (any_of HT_.out (by kernel_rfl)) (fun _ _ _ h => h) (Or.inl ⟨by rfl, ?_⟩) ?_ ?_
      rotate_left
      ·intro w'
       go_simp
       with_reducible rfl
      rotate_left
      ·simp only [Act.put, la_, lz_, ls_, i64_w, i32_w]
       rfl
      refine take_ (i := 8) (N := some 83) (v := ?_) (a' := ?_) #[T_, T_, T_, T_, T_, F_, F_, T_, T_, F_, F_] rfl rfl (take_ofW HT_.out HW_.out (by kernel_rfl)) (fun _ _ _ h => h) (Or.inl ⟨by rfl, ?_⟩) hHeld ?_ ?_
      rotate_left
      ·rintro w' ⟨s0, s1, s2, s3, s4, s5, s6, s7, s8, s9, s10⟩
       go_simp
       with_reducible rfl
      rotate_left
      ·simp only [Act.put, la_, lz_, ls_, i64_w, i32_w]
       rfl
      refine one_ (i := 5) (N := some 80) #[T_, T_, T_, T_, T_, T_, F_, T_, T_, F_, F_] rfl rfl (one_of HT_.out (by kernel_rfl)) (by decide) (fun K hK => ?_)
      refine value_ (w1 := ?_) (v := ?_) (by rfl) rfl ?_ ?_
      rotate_left 2
      ·go_simp
       constructor
       ·rfl
       rfl
      refine hK.out _ _ ⟨(blk_cell (blk_alloc BK142.out _) 0).trans rfl, (blk_cell (blk_alloc BK142.out _) 1).trans rfl, (blk_cell (blk_alloc BK142.out _) 2).trans rfl, (blk_cell (blk_alloc BK142.out _) 3).trans rfl, (blk_cell (blk_alloc BK142.out _) 4).trans rfl, (blk_cell (blk_alloc BK142.out _) 5).trans rfl, (blk_cell (blk_alloc BK142.out _) 6).trans rfl, (blk_cell (blk_alloc BK142.out _) 7).trans rfl, (blk_cell (blk_alloc BK142.out _) 8).trans rfl, (blk_cell (blk_alloc BK142.out _) 9).trans rfl, (blk_cell (blk_alloc BK142.out _) 10).trans rfl⟩ (fun hHeld => ?_)
      clear hK K
      refine norm_ (a' := ?_) ?_ ?_
      rotate_left
      ·show Act.put _ (some 80) _ = _
       simp only [Act.put, la_, lz_, ls_, i64_w, i32_w]
       rfl
      refine one_ (i := 6) (N := some 81) #[T_, T_, T_, T_, T_, T_, T_, T_, T_, F_, F_] rfl rfl (one_of HT_.out (by kernel_rfl)) (by decide) (fun K hK => ?_)
      refine Kd.R_append_step (Kd.int .u8) (w0 := w) w.heap.size (by rfl) (.tmp 75) (.tmp 80) 22 5 (.int .u8 0) 1 rfl Try.underlying22 info5 rfl (by decide) (by omega) u7 x7_2 (((l0_10.length : Int)) % 256) [.int .u8 (((l0_10.length : Int)) % 256)] (fun _ => True) (fun _ => False) rfl rfl ?aP (fun _ hk => hk.elim) ?aF ?aO ?aB ?aS ?aL ?_
      (case aP => exact rfl)
      (case aB => exact (us_ HB.out))
      (case aF => exact (fun _ _ => trivial))
      (case aO => exact (Kd.ur_ HO_7.out))
      (case aS => exact (below_size (us_ HB.out)))
      (case aL => have := LMc56.out; omega)
      intro v186 w63 ho hb hg hat
      rw [← Ny185.out] at ho
      have n0_ := mk_ (blk_grown (g := gb142) (o := .cells #[.int .i64 a0_0, .int .i64 a0_1, .int .i64 a0_2, .int .i64 a0_3, .int .i64 a0_4, .bool a0_5, .bool a0_6, .bool a0_7, .bool a0_8, .slice A0_9 l0_9.length c0_9, .slice A0_10 l0_10.length c0_10] 31 (0, 0)) (u_ BK142.out) hg (Kd.R_ne HO_7.out BK142.out (by decide)))
      have n1_ := mk_ (hb)
      have n2_ := mk_ (ho)
      clear BK142
      clear HB
      clear HO_7
      have BK142 := n0_
      have HB := n1_
      have HO187 := n2_
      clear n0_ n1_ n2_
      clear ho hb hg hat
      refine hK.out _ _ ⟨(blk_cell BK142.out 0).trans rfl, (blk_cell BK142.out 1).trans rfl, (blk_cell BK142.out 2).trans rfl, (blk_cell BK142.out 3).trans rfl, (blk_cell BK142.out 4).trans rfl, (blk_cell BK142.out 5).trans rfl, (blk_cell BK142.out 6).trans rfl, (blk_cell BK142.out 7).trans rfl, (blk_cell BK142.out 8).trans rfl, (blk_cell BK142.out 9).trans rfl, (blk_cell BK142.out 10).trans rfl⟩ (fun hHeld => ?_)
      clear hK K
      refine norm_ (a' := ?_) ?_ ?_
      rotate_left
      ·show Act.put _ (some 81) _ = _
       simp only [Act.put, la_, lz_, ls_, i64_w, i32_w]
       rfl
      refine one_ (i := 9) (N := some 84) #[T_, T_, T_, T_, T_, T_, T_, T_, T_, T_, F_] rfl rfl (one_of HT_.out (by kernel_rfl)) (by decide) (fun K hK => ?_)
      refine Kd.R_append_rows_step (Kd.int .u8) (w0 := w) w.heap.size (by rfl) (.tmp 81) (.tmp 83) 22 5 (.int .u8 0) 1 rfl Try.underlying22 info5 rfl (by decide) (by omega) v186 y185 l0_10 _ _ _ (fun _ => True) (fun _ => False) rfl rfl ?aO ?aR (fun _ _ h => h) (fun _ h => h.elim) ?aF ?aB ?aS ?aL ?_
      (case aR => repeat (first | exact (Kd.C_below HR0_10.out HB.out) | (with_reducible refine Kd.C_alloc ?_ _) | (with_reducible refine Kd.C_drewN ?_ _) | (with_reducible refine Kd.C_drew ?_)))
      (case aB => exact (us_ HB.out))
      (case aF => exact (fun _ _ => trivial))
      (case aO => exact (Kd.ur_ HO187.out))
      (case aS => exact (below_size (us_ HB.out)))
      (case aL => have := LMc57.out; omega)
      intro v189 w64 ho hb hg hat
      rw [← Ny188.out] at ho
      have n0_ := mk_ (blk_grown (g := gb142) (o := .cells #[.int .i64 a0_0, .int .i64 a0_1, .int .i64 a0_2, .int .i64 a0_3, .int .i64 a0_4, .bool a0_5, .bool a0_6, .bool a0_7, .bool a0_8, .slice A0_9 l0_9.length c0_9, .slice A0_10 l0_10.length c0_10] 31 (0, 0)) (u_ BK142.out) hg (Kd.R_ne HO187.out BK142.out (by decide)))
      have n1_ := mk_ (hb)
      have n2_ := mk_ (ho)
      clear BK142
      clear HB
      clear HO187
      have BK142 := n0_
      have HB := n1_
      have HO190 := n2_
      clear n0_ n1_ n2_
      clear ho hb hg hat
      refine hK.out _ _ ⟨(blk_cell BK142.out 0).trans rfl, (blk_cell BK142.out 1).trans rfl, (blk_cell BK142.out 2).trans rfl, (blk_cell BK142.out 3).trans rfl, (blk_cell BK142.out 4).trans rfl, (blk_cell BK142.out 5).trans rfl, (blk_cell BK142.out 6).trans rfl, (blk_cell BK142.out 7).trans rfl, (blk_cell BK142.out 8).trans rfl, (blk_cell BK142.out 9).trans rfl, (blk_cell BK142.out 10).trans rfl⟩ (fun hHeld => ?_)
      clear hK K
      refine norm_ (a' := ?_) ?_ ?_
      rotate_left
      ·show Act.put _ (some 84) _ = _
       simp only [Act.put, la_, lz_, ls_, i64_w, i32_w]
       rfl
      refine pure_ (i := 10) (N := some 7) (v := ?_) (a' := ?_) #[T_, T_, T_, T_, T_, T_, T_, T_, T_, T_, T_] rfl rfl (any_of HT_.out (by kernel_rfl)) (fun _ _ _ h => h) (Or.inl ⟨by rfl, ?_⟩) ?_ ?_
      rotate_left
      ·intro w'
       go_simp
       with_reducible rfl
      rotate_left
      ·simp only [Act.put, la_, lz_, ls_, i64_w, i32_w]
       rfl
      refine done_ (done_of HT_.out (by kernel_rfl)) ?_
      obtain ⟨Ao65, co65, eo65⟩ := Kd.R_slice HO190.out
      subst eo65
      try go_wp2_with (first | ((with_reducible refine gate_callee (f := 56) rfl ?_); refine goesL_ (some 89) rfl rfl Try.func56 (by kernel_rfl) rfl #[.int .i64 a1, .int .i64 a2, .slice Ao65 y188.length co65] rfl (by (try simp only [lm_, lo_, ln_]); first | done | rfl | (simp only [List.length_drop, List.length_take]; rfl)) ?_; (with_reducible refine (spec_l9Sum.calls k2 a1 a2 _ _ y188 t191 _ ?side1 ?side2 A58.out).mono ?_); (case side1 => repeat (first | exact (Kd.R_reads' HO190.out).2.2 | (with_reducible refine Kd.C_alloc ?_ _) | (with_reducible refine Kd.C_drewN ?_ _) | (with_reducible refine Kd.C_drew ?_))); (case side2 => exact (Kd.R_reads' HO190.out).2.1); rintro e w66 ⟨rfl, hb⟩; refine ⟨_, rfl, ?_⟩; have n0_ := mk_ (Kd.R_below (Kd.ur_ HO190.out) hb); have n1_ := mk_ (blk_below (u_ BK142.out) hb); have n2_ := mk_ (below_step (us_ HB.out) hb); clear HO190; clear BK142; clear HB; have HO190 := n0_; have BK142 := n1_; have HB := n2_; clear n0_ n1_ n2_; (try clear hb); (try clear hb2); (try clear hk); (try clear hi)) | ((with_reducible refine gate_callee (f := 54) rfl ?_); refine goesL_ (some 90) rfl rfl Try.func54 (by kernel_rfl) rfl #[.int .i64 t191, .int .i64 2] rfl (by (try simp only [lm_, lo_, ln_]); first | done | rfl | (simp only [List.length_drop, List.length_take]; rfl)) ?_; (with_reducible refine (spec_BytesOf.calls k2 t191 2 t192 _ A59.out).mono ?_); rintro e w67 ⟨v193, rfl, ho0, hb⟩; refine ⟨_, rfl, ?_⟩; have n0_ := mk_ (Kd.R_elder' (Kd.ur_ HO190.out) (Kd.R_base ho0) hb); have n1_ := mk_ (Kd.R_lower (Kd.R_new' ho0 (Kd.R_lt (Kd.ur_ HO190.out))) (below_size (us_ HB.out))); have n2_ := mk_ (blk_below (u_ BK142.out) hb); have n3_ := mk_ (below_step (us_ HB.out) hb); clear HO190; clear BK142; clear HB; have HO190 := n0_; have HO194 := n1_; have BK142 := n2_; have HB := n3_; clear n0_ n1_ n2_ n3_; (try clear hb); (try clear hb2); (try clear hk); (try clear hi); (try clear ho0); obtain ⟨Ao69, co69, eo69⟩ := Kd.R_slice HO194.out; subst eo69) | ((with_reducible refine gate_builtin (b := .append) (xs := #[.tmp 85, .tmp 90]) rfl ?_); at_builtin; refine Kd.R_append_rows (Kd.int .u8) (w0 := w) w.heap.size rfl (.tmp 85) (.tmp 90) 22 5 (.int .u8 0) 1 rfl Try.underlying22 info5 rfl (by decide) (by omega) (.slice Ao65 y188.length co65) y188 t192 _ _ _ (fun k_ => some k_ ≠ (.slice Ao69 t192.length co69 : Value).ownBlock) (fun _ => False) rfl rfl ?aO ?aR (fun _ _ h => h) (fun _ h => h.elim) ?aF ?aB ?aS ?aL ?_; (case aR => repeat (first | exact (Kd.R_reads' HO194.out).2.2 | (with_reducible refine Kd.C_alloc ?_ _) | (with_reducible refine Kd.C_drewN ?_ _) | (with_reducible refine Kd.C_drew ?_))); (case aB => exact (us_ HB.out)); (case aF => exact (fun k_ hk => Kd.fresh' (Kd.R_lt (Kd.ur_ HO194.out)) k_ hk)); (case aO => exact (by (with_reducible repeat (first | apply Kd.R_alloc | apply Kd.R_drewN | apply Kd.R_drew)); exact Kd.R_mono HO190.out (fun _ hk => hk.2))); (case aS => exact (below_size (us_ HB.out))); (case aL => have := LMc60.out; omega); intro v196 w68 ho hb hg hat; rw [← Ny195.out] at ho; have n0_ := mk_ (blk_grown (g := gb142) (o := .cells #[.int .i64 a0_0, .int .i64 a0_1, .int .i64 a0_2, .int .i64 a0_3, .int .i64 a0_4, .bool a0_5, .bool a0_6, .bool a0_7, .bool a0_8, .slice A0_9 l0_9.length c0_9, .slice A0_10 l0_10.length c0_10] 31 (0, 0)) (u_ BK142.out) hg (Kd.R_ne HO190.out BK142.out (by decide))); have n1_ := mk_ (Kd.R_after (ok := (fun _ => True)) (Kd.ur_ HO194.out) hg hat); have n2_ := mk_ (hb); have n3_ := mk_ (ho); clear BK142; clear HO194; clear HB; clear HO190; have BK142 := n0_; have HO194 := n1_; have HB := n2_; have HO197 := n3_; clear n0_ n1_ n2_ n3_; clear ho hb hg hat))
      go_ret
      exact ⟨_, by first | rfl | (simp [errW_none, errW_some] <;> rfl) | (simp [*, errW_none, errW_some] <;> rfl), by (with_reducible repeat (first | apply Kd.R_alloc | apply Kd.R_drewN | apply Kd.R_drew)); exact Kd.R_mono HO197.out (fun _ hk => trivial), us_ HB.out⟩
     rw [if_pos c42] at H
     have c42b0 : decide (x8_2 < (l0_9.length : Int)) = true := decide_eq_true c42
     clear c42
     by_cases c43 : 0 ≤ x8_2
     rotate_left
     ·rw [if_neg c43] at H
      exact absurd H (by simp)
     rw [if_pos c43] at H
     have c43b0 : decide (0 ≤ x8_2) = true := decide_eq_true c43
     clear c43
     replace H := Option.bind_eq_some_iff.mp H
     obtain ⟨t172, A440, H⟩ := H
     replace H : (if x7_2.length + t172.length < 140737488355328 then ((some (x7_2 ++ t172 : List Int)).bind fun y175 => ((spec_BytesOf.f k2 ((rd_T42 l0_9 x8_2).f1) 2).bind fun t179 => (if y175.length + t179.length < 140737488355328 then (spec_SegmentBytes.l0 k2 a1 a2 (y175 ++ t179) (wrap64 (x8_2 + 1)) a0_0 a0_1 a0_2 a0_3 a0_4 a0_5 a0_6 a0_7 a0_8 l0_9 l0_10) else (none)))) else (none)) = some r := H
     have A44 := mk_ A440
     clear A440
     by_cases c45 : x7_2.length + t172.length < 140737488355328
     rotate_left
     ·rw [if_neg c45] at H
      exact absurd H (by simp)
     rw [if_pos c45] at H
     have LMc45 := mk_ c45
     clear c45
     obtain ⟨y175, hy175⟩ : ∃ y_ : List Int, y_ = (x7_2 ++ t172) := ⟨_, rfl⟩
     replace H : ((spec_BytesOf.f k2 ((rd_T42 l0_9 x8_2).f1) 2).bind fun t179 => (if y175.length + t179.length < 140737488355328 then (spec_SegmentBytes.l0 k2 a1 a2 (y175 ++ t179) (wrap64 (x8_2 + 1)) a0_0 a0_1 a0_2 a0_3 a0_4 a0_5 a0_6 a0_7 a0_8 l0_9 l0_10) else (none))) = some r := by first | (rw [hy175]; with_reducible exact H) | (have H2_ := (Option.bind_some _ _).symm.trans H; rw [hy175]; with_reducible exact H2_) | (have H2_ := (Option.bind_some _ _).symm.trans H; with_reducible exact H2_) | with_reducible exact H | (rw [hy175]; exact H) | exact H
     have Ny175 := mk_ hy175
     clear hy175
     replace H := Option.bind_eq_some_iff.mp H
     obtain ⟨t179, A460, H⟩ := H
     replace H : (if y175.length + t179.length < 140737488355328 then (spec_SegmentBytes.l0 k2 a1 a2 (y175 ++ t179) (wrap64 (x8_2 + 1)) a0_0 a0_1 a0_2 a0_3 a0_4 a0_5 a0_6 a0_7 a0_8 l0_9 l0_10) else (none)) = some r := H
     have A46 := mk_ A460
     clear A460
     by_cases c47 : y175.length + t179.length < 140737488355328
     rotate_left
     ·rw [if_neg c47] at H
      exact absurd H (by simp)
     rw [if_pos c47] at H
     have LMc47 := mk_ c47
     clear c47
     obtain ⟨y182, hy182⟩ : ∃ y_ : List Int, y_ = (y175 ++ t179) := ⟨_, rfl⟩
     replace H : (spec_SegmentBytes.l0 k2 a1 a2 y182 (wrap64 (x8_2 + 1)) a0_0 a0_1 a0_2 a0_3 a0_4 a0_5 a0_6 a0_7 a0_8 l0_9 l0_10) = some r := by first | (rw [hy182]; with_reducible exact H) | (have H2_ := (Option.bind_some _ _).symm.trans H; rw [hy182]; with_reducible exact H2_) | (have H2_ := (Option.bind_some _ _).symm.trans H; with_reducible exact H2_) | with_reducible exact H | (rw [hy182]; exact H) | exact H
     have Ny182 := mk_ hy182
     clear hy182
     have H' := mk_ H
     clear H
     obtain ⟨hcz48_0, hcz48_1, hcz48_2, hcz48_3, hcz48_4, hcz48_5, hcz48_6, hcz48_7, hcz48_8, hcz48_9, hcz48_10, hfz48_0, hfz48_1, hfz48_2, hfz48_3, hfz48_4, hfz48_5, hfz48_6, hfz48_7, hfz48_8, hfz48_9, hfz48_10⟩ := cells11_ BK142.out
     try go_wp2
     have n0_ := mk_ (Kd.R_drew HO_7.out)
     have n1_ := mk_ (blk_drew BK142.out)
     have n2_ := mk_ (below_drew1 HB.out)
     clear HO_7
     clear BK142
     clear HB
     have HO_7 := n0_
     have BK142 := n1_
     have HB := n2_
     clear n0_ n1_ n2_
     have p171 : 0 ≤ (x8_2 : Int) := of_decide_eq_true (by first | (with_reducible assumption) | assumption)
     have q171 : x8_2 < (l0_9.length : Int) := of_decide_eq_true (by first | (with_reducible assumption) | assumption)
     obtain ⟨ad171, e171, hx171_0, hx171_1⟩ := at_T42 HR0_9.out x8_2 p171 q171
     have hw171_1 := hx171_1
     have hw171_0 := hx171_0
     cases e171
     replace hx171_0 := (HB.out.cell (lc_ w _ hx171_0)).trans hx171_0
     replace hx171_1 := (HB.out.cell (lc_ w _ hx171_1)).trans hx171_1
     replace p171 := eq_true p171
     replace q171 := eq_true q171
     have p178 : 0 ≤ (x8_2 : Int) := of_decide_eq_true (by first | (with_reducible assumption) | assumption)
     have q178 : x8_2 < (l0_9.length : Int) := of_decide_eq_true (by first | (with_reducible assumption) | assumption)
     obtain ⟨ad178, e178, hx178_0, hx178_1⟩ := at_T42 HR0_9.out x8_2 p178 q178
     have hw178_1 := hx178_1
     have hw178_0 := hx178_0
     obtain rfl : ad171 = ad178 := (by injection e178)
     replace hx178_0 := (HB.out.cell (lc_ w _ hx178_0)).trans hx178_0
     replace hx178_1 := (HB.out.cell (lc_ w _ hx178_1)).trans hx178_1
     replace p178 := eq_true p178
     replace q178 := eq_true q178
     refine start_ (n := 18) (S := fun w' => w'.cell? ⟨gb142, 0, none⟩ = some (.int .i64 a0_0) ∧ w'.cell? ⟨gb142, 1, none⟩ = some (.int .i64 a0_1) ∧ w'.cell? ⟨gb142, 2, none⟩ = some (.int .i64 a0_2) ∧ w'.cell? ⟨gb142, 3, none⟩ = some (.int .i64 a0_3) ∧ w'.cell? ⟨gb142, 4, none⟩ = some (.int .i64 a0_4) ∧ w'.cell? ⟨gb142, 5, none⟩ = some (.bool a0_5) ∧ w'.cell? ⟨gb142, 6, none⟩ = some (.bool a0_6) ∧ w'.cell? ⟨gb142, 7, none⟩ = some (.bool a0_7) ∧ w'.cell? ⟨gb142, 8, none⟩ = some (.bool a0_8) ∧ w'.cell? ⟨gb142, 9, none⟩ = some (.slice (some ad171) l0_9.length c0_9) ∧ w'.cell? ⟨gb142, 10, none⟩ = some (.slice A0_10 l0_10.length c0_10) ∧ w'.cell? (ad171.add ((x8_2).toNat * 2)) = some (.int .i64 ((rd_T42 l0_9 x8_2).f0)) ∧ w'.cell? ⟨(ad171.add ((x8_2).toNat * 2)).block, (ad171.add ((x8_2).toNat * 2)).off + 1, none⟩ = some (.int .i64 ((rd_T42 l0_9 x8_2).f1)) ∧ w'.cell? (ad171.add ((x8_2).toNat * 2)) = some (.int .i64 ((rd_T42 l0_9 x8_2).f0)) ∧ w'.cell? ⟨(ad171.add ((x8_2).toNat * 2)).block, (ad171.add ((x8_2).toNat * 2)).off + 1, none⟩ = some (.int .i64 ((rd_T42 l0_9 x8_2).f1))) (ds := []) #[F_, F_, F_, F_, F_, F_, F_, F_, F_, F_, F_, F_, F_, F_, F_, F_, F_, F_] (by kernel_rfl) rfl rfl ⟨(blk_cell BK142.out 0).trans rfl, (blk_cell BK142.out 1).trans rfl, (blk_cell BK142.out 2).trans rfl, (blk_cell BK142.out 3).trans rfl, (blk_cell BK142.out 4).trans rfl, (blk_cell BK142.out 5).trans rfl, (blk_cell BK142.out 6).trans rfl, (blk_cell BK142.out 7).trans rfl, (blk_cell BK142.out 8).trans rfl, (blk_cell BK142.out 9).trans rfl, (blk_cell BK142.out 10).trans rfl, ((HB.out.cell (lc_ w _ hw171_0)).trans hw171_0), ((HB.out.cell (lc_ w _ hw171_1)).trans hw171_1), ((HB.out.cell (lc_ w _ hw178_0)).trans hw178_0), ((HB.out.cell (lc_ w _ hw178_1)).trans hw178_1)⟩ (fun hHeld => ?_); refine with_tabW spec_SegmentBytes.tab8 spec_SegmentBytes.bits8 (fun HT_ HW_ => ?_)
     generalize wr.drew = w49 at HO_7 BK142 HB hx171_0 hx171_1 hx178_0 hx178_1 hHeld ⊢
     refine pure_ (i := 0) (N := some 58) (v := ?_) (a' := ?_) #[T_, F_, F_, F_, F_, F_, F_, F_, F_, F_, F_, F_, F_, F_, F_, F_, F_, F_] rfl rfl (any_of HT_.out (by kernel_rfl)) (fun _ _ _ h => h) (Or.inl ⟨by rfl, ?_⟩) ?_ ?_
     rotate_left
     ·intro w'
      go_simp
      with_reducible rfl
     rotate_left
     ·simp only [Act.put, la_, lz_, ls_, i64_w, i32_w]
      rfl
     refine pure_ (i := 1) (N := some 59) (v := ?_) (a' := ?_) #[T_, T_, F_, F_, F_, F_, F_, F_, F_, F_, F_, F_, F_, F_, F_, F_, F_, F_] rfl rfl (any_of HT_.out (by kernel_rfl)) (fun _ _ _ h => h) (Or.inl ⟨by rfl, ?_⟩) ?_ ?_
     rotate_left
     ·intro w'
      go_simp
      with_reducible rfl
     rotate_left
     ·simp only [Act.put, la_, lz_, ls_, i64_w, i32_w]
      rfl
     refine pure_ (i := 3) (N := some 61) (v := ?_) (a' := ?_) #[T_, T_, F_, T_, F_, F_, F_, F_, F_, F_, F_, F_, F_, F_, F_, F_, F_, F_] rfl rfl (any_of HT_.out (by kernel_rfl)) (fun _ _ _ h => h) (Or.inl ⟨by rfl, ?_⟩) ?_ ?_
     rotate_left
     ·intro w'
      go_simp
      with_reducible rfl
     rotate_left
     ·simp only [Act.put, la_, lz_, ls_, i64_w, i32_w]
      rfl
     refine pure_ (i := 9) (N := some 67) (v := ?_) (a' := ?_) #[T_, T_, F_, T_, F_, F_, F_, F_, F_, T_, F_, F_, F_, F_, F_, F_, F_, F_] rfl rfl (any_of HT_.out (by kernel_rfl)) (fun _ _ _ h => h) (Or.inl ⟨by rfl, ?_⟩) ?_ ?_
     rotate_left
     ·intro w'
      go_simp
      with_reducible rfl
     rotate_left
     ·simp only [Act.put, la_, lz_, ls_, i64_w, i32_w]
      rfl
     refine pure_ (i := 11) (N := some 69) (v := ?_) (a' := ?_) #[T_, T_, F_, T_, F_, F_, F_, F_, F_, T_, F_, T_, F_, F_, F_, F_, F_, F_] rfl rfl (any_of HT_.out (by kernel_rfl)) (fun _ _ _ h => h) (Or.inl ⟨by rfl, ?_⟩) ?_ ?_
     rotate_left
     ·intro w'
      go_simp
      with_reducible rfl
     rotate_left
     ·simp only [Act.put, la_, lz_, ls_, i64_w, i32_w]
      rfl
     refine take_ (i := 2) (N := some 60) (v := ?_) (a' := ?_) #[T_, T_, T_, T_, F_, F_, F_, F_, F_, T_, F_, T_, F_, F_, F_, F_, F_, F_] rfl rfl (take_ofW HT_.out HW_.out (by kernel_rfl)) (fun _ _ _ h => h) (Or.inl ⟨by rfl, ?_⟩) hHeld ?_ ?_
     rotate_left
     ·rintro w' ⟨s0, s1, s2, s3, s4, s5, s6, s7, s8, s9, s10, s11, s12, s13, s14⟩
      go_simp
      with_reducible rfl
     rotate_left
     ·simp only [Act.put, la_, lz_, ls_, i64_w, i32_w]
      rfl
     refine pure_ (i := 4) (N := some 62) (v := ?_) (a' := ?_) #[T_, T_, T_, T_, T_, F_, F_, F_, F_, T_, F_, T_, F_, F_, F_, F_, F_, F_] rfl rfl (any_of HT_.out (by kernel_rfl)) (fun _ _ _ h => h) (Or.inl ⟨by rfl, ?_⟩) ?_ ?_
     rotate_left
     ·intro w'
      go_simp
      with_reducible rfl
     rotate_left
     ·simp only [Act.put, la_, lz_, ls_, i64_w, i32_w]
      rfl
     refine pure_ (i := 5) (N := some 63) (v := ?_) (a' := ?_) #[T_, T_, T_, T_, T_, T_, F_, F_, F_, T_, F_, T_, F_, F_, F_, F_, F_, F_] rfl rfl (any_of HT_.out (by kernel_rfl)) (fun _ _ _ h => h) (Or.inl ⟨by rfl, ?_⟩) ?_ ?_
     rotate_left
     ·intro w'
      go_simp
      with_reducible rfl
     rotate_left
     ·simp only [Act.put, la_, lz_, ls_, i64_w, i32_w]
      rfl
     refine take_ (i := 6) (N := some 64) (v := ?_) (a' := ?_) #[T_, T_, T_, T_, T_, T_, T_, F_, F_, T_, F_, T_, F_, F_, F_, F_, F_, F_] rfl rfl (take_ofW HT_.out HW_.out (by kernel_rfl)) (fun _ _ _ h => h) (Or.inl ⟨by rfl, ?_⟩) hHeld ?_ ?_
     rotate_left
     ·rintro w' ⟨s0, s1, s2, s3, s4, s5, s6, s7, s8, s9, s10, s11, s12, s13, s14⟩
      go_simp
      with_reducible rfl
     rotate_left
     ·simp only [Act.put, la_, lz_, ls_, i64_w, i32_w]
      rfl
     refine take_ (i := 10) (N := some 68) (v := ?_) (a' := ?_) #[T_, T_, T_, T_, T_, T_, T_, F_, F_, T_, T_, T_, F_, F_, F_, F_, F_, F_] rfl rfl (take_ofW HT_.out HW_.out (by kernel_rfl)) (fun _ _ _ h => h) (Or.inl ⟨by rfl, ?_⟩) hHeld ?_ ?_
     rotate_left
     ·rintro w' ⟨s0, s1, s2, s3, s4, s5, s6, s7, s8, s9, s10, s11, s12, s13, s14⟩
      go_simp
      with_reducible rfl
     rotate_left
     ·simp only [Act.put, la_, lz_, ls_, i64_w, i32_w]
      rfl
     refine pure_ (i := 12) (N := some 70) (v := ?_) (a' := ?_) #[T_, T_, T_, T_, T_, T_, T_, F_, F_, T_, T_, T_, T_, F_, F_, F_, F_, F_] rfl rfl (any_of HT_.out (by kernel_rfl)) (fun _ _ _ h => h) (Or.inl ⟨by rfl, ?_⟩) ?_ ?_
     rotate_left
     ·intro w'
      go_simp
      with_reducible rfl
     rotate_left
     ·simp only [Act.put, la_, lz_, ls_, i64_w, i32_w]
      rfl
     refine pure_ (i := 13) (N := some 71) (v := ?_) (a' := ?_) #[T_, T_, T_, T_, T_, T_, T_, F_, F_, T_, T_, T_, T_, T_, F_, F_, F_, F_] rfl rfl (any_of HT_.out (by kernel_rfl)) (fun _ _ _ h => h) (Or.inl ⟨by rfl, ?_⟩) ?_ ?_
     rotate_left
     ·intro w'
      go_simp
      with_reducible rfl
     rotate_left
     ·simp only [Act.put, la_, lz_, ls_, i64_w, i32_w]
      rfl
     refine take_ (i := 14) (N := some 72) (v := ?_) (a' := ?_) #[T_, T_, T_, T_, T_, T_, T_, F_, F_, T_, T_, T_, T_, T_, T_, F_, F_, F_] rfl rfl (take_ofW HT_.out HW_.out (by kernel_rfl)) (fun _ _ _ h => h) (Or.inl ⟨by rfl, ?_⟩) hHeld ?_ ?_
     rotate_left
     ·rintro w' ⟨s0, s1, s2, s3, s4, s5, s6, s7, s8, s9, s10, s11, s12, s13, s14⟩
      go_simp
      with_reducible rfl
     rotate_left
     ·simp only [Act.put, la_, lz_, ls_, i64_w, i32_w]
      rfl
     refine one_ (i := 7) (N := some 65) #[T_, T_, T_, T_, T_, T_, T_, T_, F_, T_, T_, T_, T_, T_, T_, F_, F_, F_] rfl rfl (one_of HT_.out (by kernel_rfl)) (by decide) (fun K hK => ?_)
     refine goes_ Try.func54 (by kernel_rfl) rfl #[.int .i64 ((rd_T42 l0_9 x8_2).f0), .int .i64 2] (by rfl) rfl rfl (by (try simp only [lm_, lo_, ln_]); first | done | rfl | (simp only [List.length_drop, List.length_take]; rfl)) ?_
     with_reducible refine (spec_BytesOf.calls k2 ((rd_T42 l0_9 x8_2).f0) 2 t172 _ A44.out).mono ?_
     rintro e w50 ⟨v173, rfl, ho0, hb⟩
     refine ⟨_, rfl, ?_⟩
     have n0_ := mk_ (Kd.R_elder' (Kd.ur_ HO_7.out) (Kd.R_base ho0) hb)
     have n1_ := mk_ (Kd.R_lower (Kd.R_new' ho0 (Kd.R_lt (Kd.ur_ HO_7.out))) (below_size (us_ HB.out)))
     have n2_ := mk_ (blk_below (u_ BK142.out) hb)
     have n3_ := mk_ (below_step (us_ HB.out) hb)
     clear HO_7
     clear BK142
     clear HB
     have HO_7 := n0_
     have HO174 := n1_
     have BK142 := n2_
     have HB := n3_
     clear n0_ n1_ n2_ n3_
     (try clear hb)
     (try clear hb2)
     (try clear hk)
     (try clear hi)
     (try clear ho0)
     obtain ⟨Ao52, co52, eo52⟩ := Kd.R_slice HO174.out
     (first | subst eo52 | (injection eo52 with f1_ f2_ f3_; have f4_ := f1_.symm; have f5_ := f3_.symm; clear f1_ f2_ f3_; subst f4_; subst f5_))
     refine hK.out _ _ ⟨(blk_cell BK142.out 0).trans rfl, (blk_cell BK142.out 1).trans rfl, (blk_cell BK142.out 2).trans rfl, (blk_cell BK142.out 3).trans rfl, (blk_cell BK142.out 4).trans rfl, (blk_cell BK142.out 5).trans rfl, (blk_cell BK142.out 6).trans rfl, (blk_cell BK142.out 7).trans rfl, (blk_cell BK142.out 8).trans rfl, (blk_cell BK142.out 9).trans rfl, (blk_cell BK142.out 10).trans rfl, ((HB.out.cell (lc_ w _ hw171_0)).trans hw171_0), ((HB.out.cell (lc_ w _ hw171_1)).trans hw171_1), ((HB.out.cell (lc_ w _ hw178_0)).trans hw178_0), ((HB.out.cell (lc_ w _ hw178_1)).trans hw178_1)⟩ (fun hHeld => ?_)
     clear hK K
     refine norm_ (a' := ?_) ?_ ?_
     rotate_left
     ·show Act.put _ (some 65) _ = _
      simp only [Act.put, la_, lz_, ls_, i64_w, i32_w]
      rfl
     refine one_ (i := 8) (N := some 66) #[T_, T_, T_, T_, T_, T_, T_, T_, T_, T_, T_, T_, T_, T_, T_, F_, F_, F_] rfl rfl (one_of HT_.out (by kernel_rfl)) (by decide) (fun K hK => ?_)
     refine Kd.R_append_rows_step (Kd.int .u8) (w0 := w) w.heap.size (by rfl) (.tmp 58) (.tmp 65) 22 5 (.int .u8 0) 1 rfl Try.underlying22 info5 rfl (by decide) (by omega) u7 x7_2 t172 _ _ _ (fun k_ => some k_ ≠ (.slice Ao52 t172.length co52 : Value).ownBlock) (fun _ => False) rfl rfl ?aO ?aR (fun _ _ h => h) (fun _ h => h.elim) ?aF ?aB ?aS ?aL ?_
     (case aR => repeat (first | exact (Kd.R_reads' HO174.out).2.2 | (with_reducible refine Kd.C_alloc ?_ _) | (with_reducible refine Kd.C_drewN ?_ _) | (with_reducible refine Kd.C_drew ?_)))
     (case aB => exact (us_ HB.out))
     (case aF => exact (fun k_ hk => Kd.fresh' (Kd.R_lt (Kd.ur_ HO174.out)) k_ hk))
     (case aO => exact (by (with_reducible repeat (first | apply Kd.R_alloc | apply Kd.R_drewN | apply Kd.R_drew)); exact Kd.R_mono HO_7.out (fun _ hk => hk.2)))
     (case aS => exact (below_size (us_ HB.out)))
     (case aL => have := LMc45.out; omega)
     intro v176 w51 ho hb hg hat
     rw [← Ny175.out] at ho
     have n0_ := mk_ (blk_grown (g := gb142) (o := .cells #[.int .i64 a0_0, .int .i64 a0_1, .int .i64 a0_2, .int .i64 a0_3, .int .i64 a0_4, .bool a0_5, .bool a0_6, .bool a0_7, .bool a0_8, .slice (some ad171) l0_9.length c0_9, .slice A0_10 l0_10.length c0_10] 31 (0, 0)) (u_ BK142.out) hg (Kd.R_ne HO_7.out BK142.out (by decide)))
     have n1_ := mk_ (Kd.R_after (ok := (fun _ => True)) (Kd.ur_ HO174.out) hg hat)
     have n2_ := mk_ (hb)
     have n3_ := mk_ (ho)
     clear BK142
     clear HO174
     clear HB
     clear HO_7
     have BK142 := n0_
     have HO174 := n1_
     have HB := n2_
     have HO177 := n3_
     clear n0_ n1_ n2_ n3_
     clear ho hb hg hat
     refine hK.out _ _ ⟨(blk_cell BK142.out 0).trans rfl, (blk_cell BK142.out 1).trans rfl, (blk_cell BK142.out 2).trans rfl, (blk_cell BK142.out 3).trans rfl, (blk_cell BK142.out 4).trans rfl, (blk_cell BK142.out 5).trans rfl, (blk_cell BK142.out 6).trans rfl, (blk_cell BK142.out 7).trans rfl, (blk_cell BK142.out 8).trans rfl, (blk_cell BK142.out 9).trans rfl, (blk_cell BK142.out 10).trans rfl, ((HB.out.cell (lc_ w _ hw171_0)).trans hw171_0), ((HB.out.cell (lc_ w _ hw171_1)).trans hw171_1), ((HB.out.cell (lc_ w _ hw178_0)).trans hw178_0), ((HB.out.cell (lc_ w _ hw178_1)).trans hw178_1)⟩ (fun hHeld => ?_)
     clear hK K
     refine norm_ (a' := ?_) ?_ ?_
     rotate_left
     ·show Act.put _ (some 66) _ = _
      simp only [Act.put, la_, lz_, ls_, i64_w, i32_w]
      rfl
     refine one_ (i := 15) (N := some 73) #[T_, T_, T_, T_, T_, T_, T_, T_, T_, T_, T_, T_, T_, T_, T_, T_, F_, F_] rfl rfl (one_of HT_.out (by kernel_rfl)) (by decide) (fun K hK => ?_)
     refine goes_ Try.func54 (by kernel_rfl) rfl #[.int .i64 ((rd_T42 l0_9 x8_2).f1), .int .i64 2] (by rfl) rfl rfl (by (try simp only [lm_, lo_, ln_]); first | done | rfl | (simp only [List.length_drop, List.length_take]; rfl)) ?_
     with_reducible refine (spec_BytesOf.calls k2 ((rd_T42 l0_9 x8_2).f1) 2 t179 _ A46.out).mono ?_
     rintro e w53 ⟨v180, rfl, ho0, hb⟩
     refine ⟨_, rfl, ?_⟩
     have n0_ := mk_ (Kd.R_elder' (Kd.ur_ HO174.out) (Kd.R_base ho0) hb)
     have n1_ := mk_ (Kd.R_elder' (Kd.ur_ HO177.out) (Kd.R_base ho0) hb)
     have n2_ := mk_ (Kd.R_lower (Kd.R_new' (Kd.R_new' ho0 (Kd.R_lt (Kd.ur_ HO174.out))) (Kd.R_lt (Kd.ur_ HO177.out))) (below_size (us_ HB.out)))
     have n3_ := mk_ (blk_below (u_ BK142.out) hb)
     have n4_ := mk_ (below_step (us_ HB.out) hb)
     clear HO174
     clear HO177
     clear BK142
     clear HB
     have HO174 := n0_
     have HO177 := n1_
     have HO181 := n2_
     have BK142 := n3_
     have HB := n4_
     clear n0_ n1_ n2_ n3_ n4_
     (try clear hb)
     (try clear hb2)
     (try clear hk)
     (try clear hi)
     (try clear ho0)
     obtain ⟨Ao55, co55, eo55⟩ := Kd.R_slice HO181.out
     (first | subst eo55 | (injection eo55 with f1_ f2_ f3_; have f4_ := f1_.symm; have f5_ := f3_.symm; clear f1_ f2_ f3_; subst f4_; subst f5_))
     refine hK.out _ _ ⟨(blk_cell BK142.out 0).trans rfl, (blk_cell BK142.out 1).trans rfl, (blk_cell BK142.out 2).trans rfl, (blk_cell BK142.out 3).trans rfl, (blk_cell BK142.out 4).trans rfl, (blk_cell BK142.out 5).trans rfl, (blk_cell BK142.out 6).trans rfl, (blk_cell BK142.out 7).trans rfl, (blk_cell BK142.out 8).trans rfl, (blk_cell BK142.out 9).trans rfl, (blk_cell BK142.out 10).trans rfl, ((HB.out.cell (lc_ w _ hw171_0)).trans hw171_0), ((HB.out.cell (lc_ w _ hw171_1)).trans hw171_1), ((HB.out.cell (lc_ w _ hw178_0)).trans hw178_0), ((HB.out.cell (lc_ w _ hw178_1)).trans hw178_1)⟩ (fun hHeld => ?_)
     clear hK K
     refine norm_ (a' := ?_) ?_ ?_
     rotate_left
     ·show Act.put _ (some 73) _ = _
      simp only [Act.put, la_, lz_, ls_, i64_w, i32_w]
      rfl
     refine one_ (i := 16) (N := some 74) #[T_, T_, T_, T_, T_, T_, T_, T_, T_, T_, T_, T_, T_, T_, T_, T_, T_, F_] rfl rfl (one_of HT_.out (by kernel_rfl)) (by decide) (fun K hK => ?_)
     refine Kd.R_append_rows_step (Kd.int .u8) (w0 := w) w.heap.size (by rfl) (.tmp 66) (.tmp 73) 22 5 (.int .u8 0) 1 rfl Try.underlying22 info5 rfl (by decide) (by omega) v176 y175 t179 _ _ _ (fun k_ => some k_ ≠ (.slice Ao52 t172.length co52 : Value).ownBlock ∧ some k_ ≠ (.slice Ao55 t179.length co55 : Value).ownBlock) (fun _ => False) rfl rfl ?aO ?aR (fun _ _ h => h) (fun _ h => h.elim) ?aF ?aB ?aS ?aL ?_
     (case aR => repeat (first | exact (Kd.R_reads' HO181.out).2.2 | (with_reducible refine Kd.C_alloc ?_ _) | (with_reducible refine Kd.C_drewN ?_ _) | (with_reducible refine Kd.C_drew ?_)))
     (case aB => exact (us_ HB.out))
     (case aF => exact (fun k_ hk => ⟨Kd.fresh' (Kd.R_lt (Kd.ur_ HO174.out)) k_ hk, Kd.fresh' (Kd.R_lt (Kd.ur_ HO181.out)) k_ hk⟩))
     (case aO => exact (Kd.ur_ HO177.out))
     (case aS => exact (below_size (us_ HB.out)))
     (case aL => have := LMc47.out; omega)
     intro v183 w54 ho hb hg hat
     rw [← Ny182.out] at ho
     have n0_ := mk_ (blk_grown (g := gb142) (o := .cells #[.int .i64 a0_0, .int .i64 a0_1, .int .i64 a0_2, .int .i64 a0_3, .int .i64 a0_4, .bool a0_5, .bool a0_6, .bool a0_7, .bool a0_8, .slice (some ad171) l0_9.length c0_9, .slice A0_10 l0_10.length c0_10] 31 (0, 0)) (u_ BK142.out) hg (Kd.R_ne HO177.out BK142.out (by decide)))
     have n1_ := mk_ (Kd.R_after (ok := (fun k_ => some k_ ≠ (.slice Ao55 t179.length co55 : Value).ownBlock)) (by (with_reducible repeat (first | apply Kd.R_alloc | apply Kd.R_drewN | apply Kd.R_drew)); exact Kd.R_mono HO174.out (fun _ hk => ⟨hk.2, hk.1.2⟩)) hg hat)
     have n2_ := mk_ (Kd.R_after (ok := (fun k_ => some k_ ≠ (.slice Ao52 t172.length co52 : Value).ownBlock)) (by (with_reducible repeat (first | apply Kd.R_alloc | apply Kd.R_drewN | apply Kd.R_drew)); exact Kd.R_mono HO181.out (fun _ hk => ⟨hk.1.2, hk.2⟩)) hg hat)
     have n3_ := mk_ (hb)
     have n4_ := mk_ (ho)
     clear BK142
     clear HO174
     clear HO181
     clear HB
     clear HO177
     have BK142 := n0_
     have HO174 := n1_
     have HO181 := n2_
     have HB := n3_
     have HO184 := n4_
     clear n0_ n1_ n2_ n3_ n4_
     clear ho hb hg hat
     refine hK.out _ _ ⟨(blk_cell BK142.out 0).trans rfl, (blk_cell BK142.out 1).trans rfl, (blk_cell BK142.out 2).trans rfl, (blk_cell BK142.out 3).trans rfl, (blk_cell BK142.out 4).trans rfl, (blk_cell BK142.out 5).trans rfl, (blk_cell BK142.out 6).trans rfl, (blk_cell BK142.out 7).trans rfl, (blk_cell BK142.out 8).trans rfl, (blk_cell BK142.out 9).trans rfl, (blk_cell BK142.out 10).trans rfl, ((HB.out.cell (lc_ w _ hw171_0)).trans hw171_0), ((HB.out.cell (lc_ w _ hw171_1)).trans hw171_1), ((HB.out.cell (lc_ w _ hw178_0)).trans hw178_0), ((HB.out.cell (lc_ w _ hw178_1)).trans hw178_1)⟩ (fun hHeld => ?_)
     clear hK K
     refine norm_ (a' := ?_) ?_ ?_
     rotate_left
     ·show Act.put _ (some 74) _ = _
      simp only [Act.put, la_, lz_, ls_, i64_w, i32_w]
      rfl
     refine pure_ (i := 17) (N := some 7) (v := ?_) (a' := ?_) #[T_, T_, T_, T_, T_, T_, T_, T_, T_, T_, T_, T_, T_, T_, T_, T_, T_, T_] rfl rfl (any_of HT_.out (by kernel_rfl)) (fun _ _ _ h => h) (Or.inl ⟨by rfl, ?_⟩) ?_ ?_
     rotate_left
     ·intro w'
      go_simp
      with_reducible rfl
     rotate_left
     ·simp only [Act.put, la_, lz_, ls_, i64_w, i32_w]
      rfl
     refine done_ (done_of HT_.out (by kernel_rfl)) ?_
     try go_wp2
     go_roundg k2
     case measure => have := HJ3.out; have := HK2.out; omega
     case rel => exact ⟨(y182), (wrap64 (x8_2 + 1)), (by first | rfl | (simp; done) | (simp [*]; done)), H', ⟨by have := HJ3.out; have := HK2.out; omega⟩, ⟨by (with_reducible repeat (first | apply Kd.R_alloc | apply Kd.R_drewN | apply Kd.R_drew)); exact Kd.R_mono HO184.out (fun _ hk => trivial)⟩, ⟨u_ BK142.out⟩, ⟨us_ HB.out⟩⟩

end Go.Proofs.Ytfcocnhkimbpbab.MFnExactSegmentBytes
