/- Functions that the law FnExactNetOk reaches, each with the proof that the machine's call comes to just its answer; no conditions but those that each theorem states. Printed by a program of this session over the kit's print. -/
import Derived.Test.YtfcocnhkimbpbacMFnExactNetOkx0
import Derived.Test.YtfcocnhkimbpbacMFnExactNetOkx2
import Derived.Test.YtfcocnhkimbpbacMFnExactNetOkx4
namespace Go.Proofs.Ytfcocnhkimbpbac.MFnExactNetOk
open Go.RowKit Go.Proofs.YtfcocnhkimbpbacV.PrintWords Go.Proofs.YtfcocnhkimbpbacV.PrintLast Go.Proofs.YtfcocnhkimbpbacV.PrintMore
attribute [local go_sem] max2_int min2_int max_two min_two max_three min_three max_four min_four   -- for this text's walks alone
set_option linter.unusedVariables false
set_option linter.unusedSimpArgs false

/-! ### impl_StationOk: function 43 -/
def impl_StationOk.f (k : Nat) (a0_0 : Int) (l0_1 : List (S118)) : Option (Bool) := (impl_word.f a0_0).bind fun t176 => (if t176 = true then ((impl_RoutesOk.f k l0_1).bind fun t177 => (some t177)) else (some false))
theorem impl_StationOk.mono : ∀ a0 a1 k, LeO (impl_StationOk.f k a0 a1) (impl_StationOk.f (k + 1) a0 a1) := by
 intro a0 a1 k
 unfold impl_StationOk.f
 repeat' first
   | (with_reducible exact impl_RoutesOk.mono _ _)
   | (with_reducible exact LeO.refl _)
   | (with_reducible exact LeO.none _)
   | (with_reducible refine LeO.ite ?_ ?_)
   | (with_reducible refine LeO.bind ?_ (fun _ => ?_))
   | exact impl_RoutesOk.mono _ _
   | exact LeO.none _
   | refine LeO.ite ?_ ?_
   | refine LeO.bind ?_ (fun _ => ?_)
set_option maxHeartbeats 8000000 in
set_option maxRecDepth 100000 in
theorem impl_StationOk.calls (k : Nat) (a0_0 : Int) (A0_1 : Option Addr) (c0_1 : Nat) (l0_1 : List (S118)) (r : Bool) (w : World) (hr0_1 : Kd.C k118 w A0_1 l0_1.length l0_1) (hc0_1 : l0_1.length ≤ c0_1) (h : impl_StationOk.f k a0_0 l0_1 = some r) :
  Calls Try.prog 43 #[.agg #[.int .i64 a0_0, .slice A0_1 l0_1.length c0_1]] w fun e w' => e = .returned (.bool r) ∧ Below w.heap.size w w' := by
 have hu79 := Try.underlying79
 have HR0_1 := mk_ hr0_1
 have HC0_1 := mk_ hc0_1
 clear hr0_1 hc0_1
 have HB := mk_ (Below.refl w.heap.size w)
 have H : ((impl_word.f a0_0).bind fun t176 => (if t176 = true then ((impl_RoutesOk.f k l0_1).bind fun t177 => (some t177)) else (some false))) = some r := h
 clear h
 replace H := Option.bind_eq_some_iff.mp H
 obtain ⟨t176, A20, H⟩ := H
 replace H : (if t176 = true then ((impl_RoutesOk.f k l0_1).bind fun t177 => (some t177)) else (some false)) = some r := H
 have A2 := mk_ A20
 clear A20
 by_cases c3 : t176 = true
 rotate_left
 ·replace c3 := Bool.eq_false_iff.mpr c3
  subst c3
  have H1 : (some false) = some r := by rw [if_neg (show ¬ (false = true) by decide)] at H; exact H
  clear H
  have H := H1
  clear H1
  obtain rfl := Option.some.inj H
  go_enter Try.func43, Try.ntmps43
  go_wp2_with (first | ((with_reducible refine gate_dst (N := 1) rfl ?_); refine box_event ?hg (N := 1) ?hd (cs := #[.int .i64 a0_0, .slice A0_1 l0_1.length c0_1]) (t := 79) ?hr ?_; (case hd => rfl); (case hg => rfl); (case hr => first | (go_simp; done) | (go_simp; rfl)); intro gb175 hg w8 hbox hb; have n0_ := mk_ (below_step (ub_ HB.out) hb); have n1_ := mk_ (hbox); have n2_ := mk_ ((by rw [hg]; exact (below_size (ub_ HB.out)) : w.heap.size ≤ gb175)); have n3_ := mk_ ((by rw [hg]; exact (below_size (ub_ HB.out)) : w.heap.size ≤ gb175)); clear HB; have HB := n0_; have BK175 := n1_; have GW175 := n2_; have GE175 := ge_ n3_.out; clear n0_ n1_ n2_ n3_; clear hb hbox hg; obtain ⟨hcz9_0, hcz9_1, hfz9_0, hfz9_1⟩ := cells2_ BK175.out) | ((with_reducible refine gate_callee (f := 51) rfl ?_); refine goesL_ (some 5) rfl rfl Try.func51 (by kernel_rfl) rfl #[.int .i64 a0_0] rfl (by (try simp only [lm_, lo_, ln_]); first | done | rfl | (simp only [List.length_drop, List.length_take]; rfl)) ?_; (with_reducible refine (impl_word.calls a0_0 false _ A2.out).mono ?_); rintro e w' ⟨rfl, ⟨nd, rfl⟩⟩; refine ⟨_, rfl, ?_⟩))
  go_ret
  exact ⟨by first | rfl | (simp [errW_none, errW_some] <;> rfl) | (simp [*, errW_none, errW_some] <;> rfl), us_ HB.out⟩
 subst c3
 have H1 : ((impl_RoutesOk.f k l0_1).bind fun t177 => (some t177)) = some r := by rw [if_pos rfl] at H; exact H
 clear H
 have H := H1
 clear H1
 replace H := Option.bind_eq_some_iff.mp H
 obtain ⟨t177, A40, H⟩ := H
 replace H : (some t177) = some r := H
 have A4 := mk_ A40
 clear A40
 obtain rfl := Option.some.inj H
 go_enter Try.func43, Try.ntmps43
 go_wp2_with (first | ((with_reducible refine gate_dst (N := 1) rfl ?_); refine box_event ?hg (N := 1) ?hd (cs := #[.int .i64 a0_0, .slice A0_1 l0_1.length c0_1]) (t := 79) ?hr ?_; (case hd => rfl); (case hg => rfl); (case hr => first | (go_simp; done) | (go_simp; rfl)); intro gb175 hg w5 hbox hb; have n0_ := mk_ (below_step (ub_ HB.out) hb); have n1_ := mk_ (hbox); have n2_ := mk_ ((by rw [hg]; exact (below_size (ub_ HB.out)) : w.heap.size ≤ gb175)); have n3_ := mk_ ((by rw [hg]; exact (below_size (ub_ HB.out)) : w.heap.size ≤ gb175)); clear HB; have HB := n0_; have BK175 := n1_; have GW175 := n2_; have GE175 := ge_ n3_.out; clear n0_ n1_ n2_ n3_; clear hb hbox hg; obtain ⟨hcz6_0, hcz6_1, hfz6_0, hfz6_1⟩ := cells2_ BK175.out) | ((with_reducible refine gate_callee (f := 51) rfl ?_); refine goesL_ (some 5) rfl rfl Try.func51 (by kernel_rfl) rfl #[.int .i64 a0_0] rfl (by (try simp only [lm_, lo_, ln_]); first | done | rfl | (simp only [List.length_drop, List.length_take]; rfl)) ?_; (with_reducible refine (impl_word.calls a0_0 true _ A2.out).mono ?_); rintro e w' ⟨rfl, ⟨nd, rfl⟩⟩; refine ⟨_, rfl, ?_⟩) | (go_at_call 72; (with_reducible refine (impl_RoutesOk.calls k _ _ l0_1 t177 _ ?side1 ?side2 A4.out).mono ?_); (case side1 => repeat (first | exact (Kd.C_below HR0_1.out (us_ HB.out)) | (with_reducible refine Kd.C_alloc ?_ _) | (with_reducible refine Kd.C_drewN ?_ _) | (with_reducible refine Kd.C_drew ?_))); (case side2 => exact HC0_1.out); rintro e w7 ⟨rfl, hb⟩; have n0_ := mk_ (blk_below (u_ BK175.out) hb); have n1_ := mk_ (below_step (us_ HB.out) hb); clear BK175; clear HB; have BK175 := n0_; have HB := n1_; clear n0_ n1_; (try clear hb); (try clear hb2); (try clear hk); (try clear hi)))
 go_ret
 exact ⟨by first | rfl | (simp [errW_none, errW_some] <;> rfl) | (simp [*, errW_none, errW_some] <;> rfl), us_ HB.out⟩

-- impl_Station: see the function that calls it

-- impl_stationAt_1: see stationAt

/-! ### impl_stationAt: function 44 -/
/-- The place of the first station with an address, told from a place on. -/
def impl_stationAt.at_ (a : Int) : List S79 → Nat → Int
  | [], _ => -1
  | x :: l, i => if x.f0 = a then (i : Int) else impl_stationAt.at_ a l (i + 1)
def impl_stationAt.f (l0 : List S79) (a1 : Int) : Option Int := some (impl_stationAt.at_ a1 l0 0)
theorem impl_stationAt.step (a : Int) (l : List S79) (q i : Nat) (h : q < l.length) : impl_stationAt.at_ a (l.drop q) i = if (rd_T79 l (q : Int)).f0 = a then (i : Int) else impl_stationAt.at_ a (l.drop (q + 1)) (i + 1) := by
  rw [List.drop_eq_getElem_cons h]
  have e : rd_T79 l (q : Int) = l[q] := by simp [rd_T79, List.getD_eq_getElem?_getD, List.getElem?_eq_getElem h]
  rw [e]
  rfl
set_option maxHeartbeats 1000000 in
set_option maxRecDepth 100000 in
theorem impl_stationAt.closure (a x : Int) (A1 : Option Addr) (n c1 B : Nat) (w : World) (hB : w.cell? ⟨B, 0, none⟩ = some (.int .i64 a)) :
    Calls Try.prog 74 #[.agg #[.int .i64 x, .slice A1 n c1], .pointer (some ⟨B, 0, none⟩)] w fun e w' => e = .returned (.bool (x == a)) ∧ Below w.heap.size w w' := by
  have HB0 := mk_ hB
  clear hB
  go_enter Try.func74, Try.ntmps74
  go_wp2_with ((with_reducible refine gate_dst (N := 2) rfl ?_); refine box_event ?hg (N := 2) ?hd (cs := #[.int .i64 x, .slice A1 n c1]) (t := 79) ?hr ?_; (case hd => rfl); (case hg => rfl); (case hr => first | (go_simp; done) | (go_simp; rfl)); intro gb hg w2 hbox hb; have hc0 := (blk_cell hbox 0).trans rfl; have hB2 := (hb.cell (lc_ w _ HB0.out)).trans HB0.out; have HBL := mk_ hb; clear hb hbox hg)
  go_ret
  exact ⟨rfl, HBL.out⟩
set_option maxHeartbeats 1000000 in
set_option maxRecDepth 100000 in
theorem impl_stationAt.index (a : Int) (B : Nat) (A0 : Option Addr) (c0 : Nat) (l0 : List S79) (w : World) (hr0 : Kd.C k79 w A0 l0.length l0) (hc0 : l0.length ≤ c0) (hB : w.cell? ⟨B, 0, none⟩ = some (.int .i64 a)) :
    Calls Try.prog 73 #[.slice A0 l0.length c0, .func (.func 74) #[] #[.pointer (some ⟨B, 0, none⟩)]] w fun e w' => e = .returned (.int .i64 (impl_stationAt.at_ a l0 0)) ∧ Below w.heap.size w w' := by
  have hlen : l0.length ≤ 9223372036854775807 := hr0.2.1
  have HR := mk_ hr0
  have HBB := mk_ hB
  clear hr0 hc0 hB
  go_enter Try.func73, Try.ntmps73
  go_wp2
  go_loopw [8] (fun i wr => ∃ q : Nat, q ≤ l0.length ∧ i = .int .i64 q ∧ Aside0 (impl_stationAt.at_ a l0 0 = impl_stationAt.at_ a (l0.drop q) q) ∧ Aside0 (Below w.heap.size w wr)) (fun i _ => l0.length - (intOf i).toNat)
  case atStart => exact ⟨0, Nat.zero_le _, rfl, ⟨rfl⟩, ⟨Below.refl _ _⟩⟩
  case round =>
    obtain ⟨q, hq, rfl, H2, HB⟩ := hrel
    by_cases hlt : q < l0.length
    · have H := H2.out
      rw [impl_stationAt.step a l0 q q hlt] at H
      have HH := mk_ H
      obtain ⟨ad, A1, c1, e, hx0, hx1, _, _⟩ := at_T79 HR.out (q : Int) (by omega) (by omega)
      cases e
      replace hx0 := (HB.out.cell (lc_ w _ hx0)).trans hx0
      replace hx1 := (HB.out.cell (lc_ w _ hx1)).trans hx1
      rw [Int.toNat_natCast] at hx0 hx1
      have HC := mk_ ((HB.out.cell (lc_ w _ HBB.out)).trans HBB.out)
      clear H H2
      generalize hx : (rd_T79 l0 (q : Int)).f0 = x at hx0 HH
      by_cases hxa : x = a
      · have hb1 : (x == a) = true := by simpa using hxa
        have HX := mk_ hxa
        clear hxa
        go_wp2_with (go_at_call 74; refine (impl_stationAt.closure a x _ _ _ B _ HC.out).mono ?_; rintro e w1 ⟨rfl, hb⟩; have HB1 := mk_ hb; clear hb)
        go_ret
        exact ⟨by rw [HH.out, if_pos HX.out]; rfl, below_step HB.out HB1.out⟩
      · have hb1 : (x == a) = false := by simpa using hxa
        have HX := mk_ hxa
        clear hxa
        go_wp2_with (go_at_call 74; refine (impl_stationAt.closure a x _ _ _ B _ HC.out).mono ?_; rintro e w1 ⟨rfl, hb⟩; have HB1 := mk_ hb; clear hb)
        go_roundw
        case rel => exact ⟨q + 1, by omega, by go_num, ⟨by rw [HH.out, if_neg HX.out]⟩, ⟨below_step HB.out HB1.out⟩⟩
        case measure => simp [intOf]; omega
    · obtain rfl : q = l0.length := by omega
      have H := H2.out
      rw [List.drop_length] at H
      have HH := mk_ H
      clear H H2
      go_wp2
      go_ret
      exact ⟨by rw [HH.out]; rfl, HB.out⟩
set_option maxHeartbeats 1000000 in
set_option maxRecDepth 100000 in
theorem impl_stationAt.calls (A0 : Option Addr) (c0 : Nat) (l0 : List S79) (a1 : Int) (r : Int) (w : World) (hr0 : Kd.C k79 w A0 l0.length l0) (hc0 : l0.length ≤ c0) (h : impl_stationAt.f l0 a1 = some r) :
    Calls Try.prog 44 #[.slice A0 l0.length c0, .int .i64 a1] w fun e w' => e = .returned (.int .i64 r) ∧ Below w.heap.size w w' := by
  obtain rfl : impl_stationAt.at_ a1 l0 0 = r := Option.some.inj h
  have hmf : ∀ (fn : Fn) (first cap : Array Value) (w : World), (Instr.makeFunc fn first cap).run Try.prog w = .ok (.func fn first cap) w := fun _ _ _ _ => rfl
  have HR := mk_ hr0
  have HC := mk_ hc0
  clear hr0 hc0 h
  go_enter Try.func44, Try.ntmps44
  go_wp2_with (first | ((with_reducible refine gate_dst (N := 3) rfl ?_); refine box_event ?hg (N := 3) ?hd (cs := #[.int .i64 a1]) (t := 3) ?hr ?_; (case hd => rfl); (case hg => rfl); (case hr => first | (go_simp; done) | (go_simp; rfl)); intro gb hg w2 hbox hb; have HX := mk_ ((blk_cell hbox 0).trans rfl); have HBL := mk_ hb; clear hb hbox hg) | (go_at_call 73; refine (impl_stationAt.index a1 gb _ _ l0 _ (Kd.C_below HR.out HBL.out) HC.out HX.out).mono ?_; rintro e w1 ⟨rfl, hb⟩; have HB1 := mk_ hb; clear hb))
  go_ret
  exact ⟨rfl, below_step HBL.out HB1.out⟩

/-! ### impl_NetOk: function 19 -/
def impl_NetOk.l0 : Nat → List (S79) → List (S79) → Int → Int → Option (Bool)
 | 0, _, _, _, _ => none
 | k + 1, x0, x5, x6, x7 => if x7 < x6 then (if 0 ≤ x7 then (if x7 < (x5.length : Int) then ((impl_StationOk.f k ((rd_T79 x5 x7).f0) ((rd_T79 x5 x7).f1)).bind fun t180 => (if t180 = true then ((impl_stationAt.f x0 ((rd_T79 x5 x7).f0)).bind fun t181 => (if t181 < x7 then (some false) else (impl_NetOk.l0 k x0 x5 x6 (wrap64 (x7 + 1))))) else (some false))) else (none)) else (none)) else (some (decide ((x0.length : Int) ≤ 5)))
def impl_NetOk.f (k : Nat) (l0 : List (S79)) : Option (Bool) := impl_NetOk.l0 k l0 l0 (l0.length : Int) 0
theorem impl_NetOk.mono_l : ∀ k, (∀ y0 y1 y2 y3, LeO (impl_NetOk.l0 k y0 y1 y2 y3) (impl_NetOk.l0 (k + 1) y0 y1 y2 y3))
 | 0 => fun _ _ _ _ r h => by simp [impl_NetOk.l0] at h
 | k + 1 => by
  have ih0 := impl_NetOk.mono_l k
  ·intro y0 y1 y2 y3
   unfold impl_NetOk.l0
   repeat' first
   | (with_reducible exact ih0 _ _ _ _)
   | (with_reducible exact impl_StationOk.mono _ _ _)
   | (with_reducible exact LeO.refl _)
   | (with_reducible exact LeO.none _)
   | (with_reducible refine LeO.ite ?_ ?_)
   | (with_reducible refine LeO.bind ?_ (fun _ => ?_))
   | exact ih0 _ _ _ _
   | exact impl_StationOk.mono _ _ _
   | exact LeO.none _
   | refine LeO.ite ?_ ?_
   | refine LeO.bind ?_ (fun _ => ?_)
theorem impl_NetOk.mono : ∀ a0 k, LeO (impl_NetOk.f k a0) (impl_NetOk.f (k + 1) a0) := by
 intro a0 k
 have ih0 := impl_NetOk.mono_l k
 unfold impl_NetOk.f
 repeat' first
   | (with_reducible exact ih0 _ _ _ _)
   | (with_reducible exact impl_StationOk.mono _ _ _)
   | (with_reducible exact LeO.refl _)
   | (with_reducible exact LeO.none _)
   | (with_reducible refine LeO.ite ?_ ?_)
   | (with_reducible refine LeO.bind ?_ (fun _ => ?_))
   | exact ih0 _ _ _ _
   | exact impl_StationOk.mono _ _ _
   | exact LeO.none _
   | refine LeO.ite ?_ ?_
   | refine LeO.bind ?_ (fun _ => ?_)
set_option maxHeartbeats 8000000 in
set_option maxRecDepth 100000 in
theorem impl_NetOk.calls (k : Nat) (A0 : Option Addr) (c0 : Nat) (l0 : List (S79)) (r : Bool) (w : World) (hr0 : Kd.C k79 w A0 l0.length l0) (hc0 : l0.length ≤ c0) (h : impl_NetOk.f k l0 = some r) :
  Calls Try.prog 19 #[.slice A0 l0.length c0] w fun e w' => e = .returned (.bool r) ∧ Below w.heap.size w w' := by
 have hu79 := Try.underlying79
 have HR0 := mk_ hr0
 have HC0 := mk_ hc0
 clear hr0 hc0
 have HB := mk_ (Below.refl w.heap.size w)
 have H : (impl_NetOk.l0 k l0 l0 (l0.length : Int) 0) = some r := h
 clear h
 have H' := mk_ H
 clear H
 go_enter Try.func19, Try.ntmps19
 go_wp2
 go_loopg [7] k (fun kq v7 w' => ∃ (x7_1 : Int), v7 = .int .i64 x7_1 ∧ Aside0 (impl_NetOk.l0 kq l0 l0 (l0.length : Int) x7_1 = some r) ∧ Aside0 (kq ≤ k) ∧ Aside0 (Below w.heap.size w w'))
 case atStart => exact ⟨(0), (by first | rfl | (simp; done) | (simp [*]; done)), H', ⟨Nat.le_refl _⟩, ⟨ub_ HB.out⟩⟩
 case round =>
  clear H'
  try clear c1
  obtain ⟨x7_1, rfl, HA, HK1, HB⟩ := hrel
  cases gk with
  | zero => exact absurd HA.out (by simp [impl_NetOk.l0])
  | succ k1 =>
   have H := HA.out
   clear HA
   simp only [impl_NetOk.l0] at H
   by_cases c2 : x7_1 < (l0.length : Int)
   rotate_left
   ·rw [if_neg c2] at H
    have c2b0 : decide (x7_1 < (l0.length : Int)) = false := decide_eq_false c2
    clear c2
    obtain rfl := Option.some.inj H
    go_wp2
    go_ret
    exact ⟨by first | rfl | (simp [errW_none, errW_some] <;> rfl) | (simp [*, errW_none, errW_some] <;> rfl), by repeat (first | (with_reducible first | exact HB.out | apply na_ | apply nn_ | apply nw_) | exact HB.out)⟩
   rw [if_pos c2] at H
   have c2b0 : decide (x7_1 < (l0.length : Int)) = true := decide_eq_true c2
   clear c2
   by_cases c3 : 0 ≤ x7_1
   rotate_left
   ·rw [if_neg c3] at H
    exact absurd H (by simp)
   rw [if_pos c3] at H
   have c3b0 : decide (0 ≤ x7_1) = true := decide_eq_true c3
   clear c3
   by_cases c4 : x7_1 < (l0.length : Int)
   rotate_left
   ·rw [if_neg c4] at H
    exact absurd H (by simp)
   rw [if_pos c4] at H
   have c4b0 : decide (x7_1 < (l0.length : Int)) = true := decide_eq_true c4
   clear c4
   replace H := Option.bind_eq_some_iff.mp H
   obtain ⟨t180, A50, H⟩ := H
   replace H : (if t180 = true then ((impl_stationAt.f l0 ((rd_T79 l0 x7_1).f0)).bind fun t181 => (if t181 < x7_1 then (some false) else (impl_NetOk.l0 k1 l0 l0 (l0.length : Int) (wrap64 (x7_1 + 1))))) else (some false)) = some r := H
   have A5 := mk_ A50
   clear A50
   by_cases c6 : t180 = true
   rotate_left
   ·replace c6 := Bool.eq_false_iff.mpr c6
    subst c6
    have H1 : (some false) = some r := by rw [if_neg (show ¬ (false = true) by decide)] at H; exact H
    clear H
    have H := H1
    clear H1
    obtain rfl := Option.some.inj H
    have p178 : 0 ≤ (x7_1 : Int) := of_decide_eq_true (by first | (with_reducible assumption) | assumption)
    have q178 : x7_1 < (l0.length : Int) := of_decide_eq_true (by first | (with_reducible assumption) | assumption)
    obtain ⟨ad178, A178_1, c178_1, e178, hx178_0, hx178_1, hl178_1, hi178_1⟩ := at_T79 HR0.out x7_1 p178 q178
    cases e178
    replace hx178_0 := (HB.out.cell (lc_ w _ hx178_0)).trans hx178_0
    replace hx178_1 := (HB.out.cell (lc_ w _ hx178_1)).trans hx178_1
    have HR178_1 := mk_ hi178_1
    have HC178_1 := mk_ hl178_1
    clear hi178_1 hl178_1
    replace p178 := eq_true p178
    replace q178 := eq_true q178
    go_wp2_with (first | ((with_reducible refine gate_dst (N := 4) rfl ?_); refine box_event ?hg (N := 4) ?hd (cs := #[.int .i64 0, .slice none 0 0]) (t := 79) ?hr ?_; (case hd => rfl); (case hg => rfl); (case hr => first | (go_simp; done) | (go_simp; rfl)); intro gb179 hg w19 hbox hb; have n0_ := mk_ (below_step (ub_ HB.out) hb); have n1_ := mk_ (hbox); have n2_ := mk_ ((by rw [hg]; exact (below_size (ub_ HB.out)) : w.heap.size ≤ gb179)); have n3_ := mk_ ((by rw [hg]; exact (below_size (ub_ HB.out)) : w.heap.size ≤ gb179)); clear HB; have HB := n0_; have BK179 := n1_; have GW179 := n2_; have GE179 := ge_ n3_.out; clear n0_ n1_ n2_ n3_; clear hb hbox hg; obtain ⟨hcz20_0, hcz20_1, hfz20_0, hfz20_1⟩ := cells2_ BK179.out) | ((with_reducible refine gate_callee (f := 43) rfl ?_); refine goesL_ (some 13) rfl rfl Try.func43 (by kernel_rfl) rfl #[.agg #[.int .i64 ((rd_T79 l0 x7_1).f0), .slice A178_1 ((rd_T79 l0 x7_1).f1).length c178_1]] rfl (by (try simp only [lm_, lo_, ln_]); first | done | rfl | (simp only [List.length_drop, List.length_take]; rfl)) ?_; (with_reducible refine (impl_StationOk.calls k1 ((rd_T79 l0 x7_1).f0) _ _ ((rd_T79 l0 x7_1).f1) false _ ?side1 ?side2 A5.out).mono ?_); (case side1 => exact Kd.C_below HR178_1.out (us_ HB.out)); (case side2 => exact HC178_1.out); rintro e w21 ⟨rfl, hb⟩; refine ⟨_, rfl, ?_⟩; have n0_ := mk_ (blk_below (g := gb179) (o := .cells #[.int .i64 ((rd_T79 l0 x7_1).f0), .slice A178_1 ((rd_T79 l0 x7_1).f1).length c178_1] 79 (0, 0)) (by (with_reducible repeat (first | refine bn_ ?_ _ | refine bw_ ?_ | refine ba_ ?_ _)); refine blk_put (cs := #[.int .i64 ((rd_T79 l0 x7_1).f0), .slice none 0 0]) ?_ 1 _ rfl; (with_reducible repeat (first | refine bn_ ?_ _ | refine bw_ ?_ | refine ba_ ?_ _)); refine blk_put (cs := #[.int .i64 0, .slice none 0 0]) ?_ 0 _ rfl; (with_reducible repeat (first | refine bn_ ?_ _ | refine bw_ ?_ | refine ba_ ?_ _)); exact BK179.out) hb); have n1_ := mk_ (below_step (us_ HB.out) hb); clear BK179; clear HB; have BK179 := n0_; have HB := n1_; clear n0_ n1_; (try clear hb); (try clear hb2); (try clear hk); (try clear hi)))
    go_ret
    exact ⟨by first | rfl | (simp [errW_none, errW_some] <;> rfl) | (simp [*, errW_none, errW_some] <;> rfl), us_ HB.out⟩
   subst c6
   have H1 : ((impl_stationAt.f l0 ((rd_T79 l0 x7_1).f0)).bind fun t181 => (if t181 < x7_1 then (some false) else (impl_NetOk.l0 k1 l0 l0 (l0.length : Int) (wrap64 (x7_1 + 1))))) = some r := by rw [if_pos rfl] at H; exact H
   clear H
   have H := H1
   clear H1
   replace H := Option.bind_eq_some_iff.mp H
   obtain ⟨t181, A70, H⟩ := H
   replace H : (if t181 < x7_1 then (some false) else (impl_NetOk.l0 k1 l0 l0 (l0.length : Int) (wrap64 (x7_1 + 1)))) = some r := H
   have A7 := mk_ A70
   clear A70
   by_cases c8 : t181 < x7_1
   ·rw [if_pos c8] at H
    have c8b0 : decide (t181 < x7_1) = true := decide_eq_true c8
    clear c8
    obtain rfl := Option.some.inj H
    have p178 : 0 ≤ (x7_1 : Int) := of_decide_eq_true (by first | (with_reducible assumption) | assumption)
    have q178 : x7_1 < (l0.length : Int) := of_decide_eq_true (by first | (with_reducible assumption) | assumption)
    obtain ⟨ad178, A178_1, c178_1, e178, hx178_0, hx178_1, hl178_1, hi178_1⟩ := at_T79 HR0.out x7_1 p178 q178
    cases e178
    replace hx178_0 := (HB.out.cell (lc_ w _ hx178_0)).trans hx178_0
    replace hx178_1 := (HB.out.cell (lc_ w _ hx178_1)).trans hx178_1
    have HR178_1 := mk_ hi178_1
    have HC178_1 := mk_ hl178_1
    clear hi178_1 hl178_1
    replace p178 := eq_true p178
    replace q178 := eq_true q178
    go_wp2_with (first | ((with_reducible refine gate_dst (N := 4) rfl ?_); refine box_event ?hg (N := 4) ?hd (cs := #[.int .i64 0, .slice none 0 0]) (t := 79) ?hr ?_; (case hd => rfl); (case hg => rfl); (case hr => first | (go_simp; done) | (go_simp; rfl)); intro gb179 hg w9 hbox hb; have n0_ := mk_ (below_step (ub_ HB.out) hb); have n1_ := mk_ (hbox); have n2_ := mk_ ((by rw [hg]; exact (below_size (ub_ HB.out)) : w.heap.size ≤ gb179)); have n3_ := mk_ ((by rw [hg]; exact (below_size (ub_ HB.out)) : w.heap.size ≤ gb179)); clear HB; have HB := n0_; have BK179 := n1_; have GW179 := n2_; have GE179 := ge_ n3_.out; clear n0_ n1_ n2_ n3_; clear hb hbox hg; obtain ⟨hcz10_0, hcz10_1, hfz10_0, hfz10_1⟩ := cells2_ BK179.out) | ((with_reducible refine gate_callee (f := 43) rfl ?_); refine goesL_ (some 13) rfl rfl Try.func43 (by kernel_rfl) rfl #[.agg #[.int .i64 ((rd_T79 l0 x7_1).f0), .slice A178_1 ((rd_T79 l0 x7_1).f1).length c178_1]] rfl (by (try simp only [lm_, lo_, ln_]); first | done | rfl | (simp only [List.length_drop, List.length_take]; rfl)) ?_; (with_reducible refine (impl_StationOk.calls k1 ((rd_T79 l0 x7_1).f0) _ _ ((rd_T79 l0 x7_1).f1) true _ ?side1 ?side2 A5.out).mono ?_); (case side1 => exact Kd.C_below HR178_1.out (us_ HB.out)); (case side2 => exact HC178_1.out); rintro e w11 ⟨rfl, hb⟩; refine ⟨_, rfl, ?_⟩; have n0_ := mk_ (blk_below (g := gb179) (o := .cells #[.int .i64 ((rd_T79 l0 x7_1).f0), .slice A178_1 ((rd_T79 l0 x7_1).f1).length c178_1] 79 (0, 0)) (by (with_reducible repeat (first | refine bn_ ?_ _ | refine bw_ ?_ | refine ba_ ?_ _)); refine blk_put (cs := #[.int .i64 ((rd_T79 l0 x7_1).f0), .slice none 0 0]) ?_ 1 _ rfl; (with_reducible repeat (first | refine bn_ ?_ _ | refine bw_ ?_ | refine ba_ ?_ _)); refine blk_put (cs := #[.int .i64 0, .slice none 0 0]) ?_ 0 _ rfl; (with_reducible repeat (first | refine bn_ ?_ _ | refine bw_ ?_ | refine ba_ ?_ _)); exact BK179.out) hb); have n1_ := mk_ (below_step (us_ HB.out) hb); clear BK179; clear HB; have BK179 := n0_; have HB := n1_; clear n0_ n1_; (try clear hb); (try clear hb2); (try clear hk); (try clear hi); obtain ⟨hcz12_0, hcz12_1, hfz12_0, hfz12_1⟩ := cells2_ BK179.out) | (go_at_call 44; (with_reducible refine (impl_stationAt.calls _ _ l0 ((rd_T79 l0 x7_1).f0) t181 _ ?side1 ?side2 A7.out).mono ?_); (case side1 => repeat (first | exact (Kd.C_below HR0.out HB.out) | (with_reducible refine Kd.C_alloc ?_ _) | (with_reducible refine Kd.C_drewN ?_ _) | (with_reducible refine Kd.C_drew ?_))); (case side2 => exact HC0.out); rintro e w13 ⟨rfl, hb⟩; have n0_ := mk_ (blk_below (u_ BK179.out) hb); have n1_ := mk_ (below_step (us_ HB.out) hb); clear BK179; clear HB; have BK179 := n0_; have HB := n1_; clear n0_ n1_; (try clear hb); (try clear hb2); (try clear hk); (try clear hi)))
    go_ret
    exact ⟨by first | rfl | (simp [errW_none, errW_some] <;> rfl) | (simp [*, errW_none, errW_some] <;> rfl), us_ HB.out⟩
   rw [if_neg c8] at H
   have c8b0 : decide (t181 < x7_1) = false := decide_eq_false c8
   clear c8
   have H' := mk_ H
   clear H
   have p178 : 0 ≤ (x7_1 : Int) := of_decide_eq_true (by first | (with_reducible assumption) | assumption)
   have q178 : x7_1 < (l0.length : Int) := of_decide_eq_true (by first | (with_reducible assumption) | assumption)
   obtain ⟨ad178, A178_1, c178_1, e178, hx178_0, hx178_1, hl178_1, hi178_1⟩ := at_T79 HR0.out x7_1 p178 q178
   cases e178
   replace hx178_0 := (HB.out.cell (lc_ w _ hx178_0)).trans hx178_0
   replace hx178_1 := (HB.out.cell (lc_ w _ hx178_1)).trans hx178_1
   have HR178_1 := mk_ hi178_1
   have HC178_1 := mk_ hl178_1
   clear hi178_1 hl178_1
   replace p178 := eq_true p178
   replace q178 := eq_true q178
   go_wp2_with (first | ((with_reducible refine gate_dst (N := 4) rfl ?_); refine box_event ?hg (N := 4) ?hd (cs := #[.int .i64 0, .slice none 0 0]) (t := 79) ?hr ?_; (case hd => rfl); (case hg => rfl); (case hr => first | (go_simp; done) | (go_simp; rfl)); intro gb179 hg w14 hbox hb; have n0_ := mk_ (below_step (ub_ HB.out) hb); have n1_ := mk_ (hbox); have n2_ := mk_ ((by rw [hg]; exact (below_size (ub_ HB.out)) : w.heap.size ≤ gb179)); have n3_ := mk_ ((by rw [hg]; exact (below_size (ub_ HB.out)) : w.heap.size ≤ gb179)); clear HB; have HB := n0_; have BK179 := n1_; have GW179 := n2_; have GE179 := ge_ n3_.out; clear n0_ n1_ n2_ n3_; clear hb hbox hg; obtain ⟨hcz15_0, hcz15_1, hfz15_0, hfz15_1⟩ := cells2_ BK179.out) | ((with_reducible refine gate_callee (f := 43) rfl ?_); refine goesL_ (some 13) rfl rfl Try.func43 (by kernel_rfl) rfl #[.agg #[.int .i64 ((rd_T79 l0 x7_1).f0), .slice A178_1 ((rd_T79 l0 x7_1).f1).length c178_1]] rfl (by (try simp only [lm_, lo_, ln_]); first | done | rfl | (simp only [List.length_drop, List.length_take]; rfl)) ?_; (with_reducible refine (impl_StationOk.calls k1 ((rd_T79 l0 x7_1).f0) _ _ ((rd_T79 l0 x7_1).f1) true _ ?side1 ?side2 A5.out).mono ?_); (case side1 => exact Kd.C_below HR178_1.out (us_ HB.out)); (case side2 => exact HC178_1.out); rintro e w16 ⟨rfl, hb⟩; refine ⟨_, rfl, ?_⟩; have n0_ := mk_ (blk_below (g := gb179) (o := .cells #[.int .i64 ((rd_T79 l0 x7_1).f0), .slice A178_1 ((rd_T79 l0 x7_1).f1).length c178_1] 79 (0, 0)) (by (with_reducible repeat (first | refine bn_ ?_ _ | refine bw_ ?_ | refine ba_ ?_ _)); refine blk_put (cs := #[.int .i64 ((rd_T79 l0 x7_1).f0), .slice none 0 0]) ?_ 1 _ rfl; (with_reducible repeat (first | refine bn_ ?_ _ | refine bw_ ?_ | refine ba_ ?_ _)); refine blk_put (cs := #[.int .i64 0, .slice none 0 0]) ?_ 0 _ rfl; (with_reducible repeat (first | refine bn_ ?_ _ | refine bw_ ?_ | refine ba_ ?_ _)); exact BK179.out) hb); have n1_ := mk_ (below_step (us_ HB.out) hb); clear BK179; clear HB; have BK179 := n0_; have HB := n1_; clear n0_ n1_; (try clear hb); (try clear hb2); (try clear hk); (try clear hi); obtain ⟨hcz17_0, hcz17_1, hfz17_0, hfz17_1⟩ := cells2_ BK179.out) | (go_at_call 44; (with_reducible refine (impl_stationAt.calls _ _ l0 ((rd_T79 l0 x7_1).f0) t181 _ ?side1 ?side2 A7.out).mono ?_); (case side1 => repeat (first | exact (Kd.C_below HR0.out HB.out) | (with_reducible refine Kd.C_alloc ?_ _) | (with_reducible refine Kd.C_drewN ?_ _) | (with_reducible refine Kd.C_drew ?_))); (case side2 => exact HC0.out); rintro e w18 ⟨rfl, hb⟩; have n0_ := mk_ (blk_below (u_ BK179.out) hb); have n1_ := mk_ (below_step (us_ HB.out) hb); clear BK179; clear HB; have BK179 := n0_; have HB := n1_; clear n0_ n1_; (try clear hb); (try clear hb2); (try clear hk); (try clear hi)))
   go_roundg k1
   case measure => have := HK1.out; omega
   case rel => exact ⟨(wrap64 (x7_1 + 1)), (by first | rfl | (simp; done) | (simp [*]; done)), H', ⟨by have := HK1.out; omega⟩, ⟨us_ HB.out⟩⟩

/-! ### laws_eqRoute: function 95 -/
def laws_eqRoute.f (a0_0 : Int) (a0_1 : Int) (a0_2 : Int) (a0_3 : Int) (a1_0 : Int) (a1_1 : Int) (a1_2 : Int) (a1_3 : Int) : Option (Bool) := if a0_0 = a1_0 then (if a0_1 = a1_1 then (if a0_2 = a1_2 then (if a0_3 = a1_3 then (some true) else (some false)) else (some false)) else (some false)) else (some false)
set_option maxHeartbeats 8000000 in
set_option maxRecDepth 100000 in
theorem laws_eqRoute.calls (a0_0 : Int) (a0_1 : Int) (a0_2 : Int) (a0_3 : Int) (a1_0 : Int) (a1_1 : Int) (a1_2 : Int) (a1_3 : Int) (r : Bool) (w : World) (h : laws_eqRoute.f a0_0 a0_1 a0_2 a0_3 a1_0 a1_1 a1_2 a1_3 = some r) :
  Calls Try.prog 95 #[.agg #[.int .i64 a0_0, .int .i64 a0_1, .int .i64 a0_2, .int .i64 a0_3], .agg #[.int .i64 a1_0, .int .i64 a1_1, .int .i64 a1_2, .int .i64 a1_3]] w fun e w' => e = .returned (.bool r) ∧ Below w.heap.size w w' := by
 have hu118 := Try.underlying118
 have HB := mk_ (Below.refl w.heap.size w)
 have H : (if a0_0 = a1_0 then (if a0_1 = a1_1 then (if a0_2 = a1_2 then (if a0_3 = a1_3 then (some true) else (some false)) else (some false)) else (some false)) else (some false)) = some r := h
 clear h
 by_cases c3 : a0_0 = a1_0
 rotate_left
 ·rw [if_neg c3] at H
  have c3b0 : (a0_0 == a1_0) = false := beq_eq_false_iff_ne.mpr c3
  have c3b1 : (a0_0 != a1_0) = true := bne_iff_ne.mpr c3
  obtain rfl := Option.some.inj H
  go_enter Try.func95, Try.ntmps95
  go_wp2_with (first | ((with_reducible refine gate_dst (N := 2) rfl ?_); refine box_event ?hg (N := 2) ?hd (cs := #[.int .i64 a0_0, .int .i64 a0_1, .int .i64 a0_2, .int .i64 a0_3]) (t := 118) ?hr ?_; (case hd => rfl); (case hg => rfl); (case hr => first | (go_simp; done) | (go_simp; rfl)); intro gb182 hg w27 hbox hb; have n0_ := mk_ (below_step (ub_ HB.out) hb); have n1_ := mk_ (hbox); have n2_ := mk_ ((by rw [hg]; exact (below_size (ub_ HB.out)) : w.heap.size ≤ gb182)); have n3_ := mk_ ((by rw [hg]; exact (below_size (ub_ HB.out)) : w.heap.size ≤ gb182)); clear HB; have HB := n0_; have BK182 := n1_; have GW182 := n2_; have GE182 := ge_ n3_.out; clear n0_ n1_ n2_ n3_; clear hb hbox hg) | ((with_reducible refine gate_dst (N := 3) rfl ?_); refine box_event ?hg (N := 3) ?hd (cs := #[.int .i64 a1_0, .int .i64 a1_1, .int .i64 a1_2, .int .i64 a1_3]) (t := 118) ?hr ?_; (case hd => rfl); (case hg => rfl); (case hr => first | (go_simp; done) | (go_simp; rfl)); intro gb183 hg w28 hbox hb; have n0_ := mk_ (blk_below (u_ BK182.out) hb); have n1_ := mk_ (below_step (us_ HB.out) hb); have n2_ := mk_ (hbox); have n3_ := mk_ ((by rw [hg]; exact (below_size (us_ HB.out)) : w.heap.size ≤ gb183)); have n4_ := mk_ ((by rw [hg]; exact (below_size (us_ HB.out)) : w.heap.size ≤ gb183)); have n5_ := mk_ ((by rw [hg]; exact Nat.ne_of_lt (blk_lt (u_ BK182.out)) : gb182 ≠ gb183)); have n6_ := mk_ ((by rw [hg]; exact Nat.ne_of_gt (blk_lt (u_ BK182.out)) : gb183 ≠ gb182)); clear BK182; clear HB; have BK182 := n0_; have HB := n1_; have BK183 := n2_; have GW183 := n3_; have GE183 := ge_ n4_.out; have NB182_183 := nq_ n5_.out; have NB183_182 := nq_ n6_.out; clear n0_ n1_ n2_ n3_ n4_ n5_ n6_; clear hb hbox hg; have hnb29 := NB182_183.out; have hnc29 := NB183_182.out; obtain ⟨hcz30_0, hcz30_1, hcz30_2, hcz30_3, hfz30_0, hfz30_1, hfz30_2, hfz30_3⟩ := cells4_ BK182.out; obtain ⟨hcz31_0, hcz31_1, hcz31_2, hcz31_3, hfz31_0, hfz31_1, hfz31_2, hfz31_3⟩ := cells4_ BK183.out))
  go_ret
  exact ⟨by first | rfl | (simp [errW_none, errW_some] <;> rfl) | (simp [*, errW_none, errW_some] <;> rfl), us_ HB.out⟩
 rw [if_pos c3] at H
 have c3b0 : (a0_0 == a1_0) = true := beq_iff_eq.mpr c3
 have c3b1 : (a0_0 != a1_0) = false := bne_eq_false_iff_eq.mpr c3
 clear c3
 by_cases c4 : a0_1 = a1_1
 rotate_left
 ·rw [if_neg c4] at H
  have c4b0 : (a0_1 == a1_1) = false := beq_eq_false_iff_ne.mpr c4
  have c4b1 : (a0_1 != a1_1) = true := bne_iff_ne.mpr c4
  obtain rfl := Option.some.inj H
  go_enter Try.func95, Try.ntmps95
  go_wp2_with (first | ((with_reducible refine gate_dst (N := 2) rfl ?_); refine box_event ?hg (N := 2) ?hd (cs := #[.int .i64 a0_0, .int .i64 a0_1, .int .i64 a0_2, .int .i64 a0_3]) (t := 118) ?hr ?_; (case hd => rfl); (case hg => rfl); (case hr => first | (go_simp; done) | (go_simp; rfl)); intro gb182 hg w22 hbox hb; have n0_ := mk_ (below_step (ub_ HB.out) hb); have n1_ := mk_ (hbox); have n2_ := mk_ ((by rw [hg]; exact (below_size (ub_ HB.out)) : w.heap.size ≤ gb182)); have n3_ := mk_ ((by rw [hg]; exact (below_size (ub_ HB.out)) : w.heap.size ≤ gb182)); clear HB; have HB := n0_; have BK182 := n1_; have GW182 := n2_; have GE182 := ge_ n3_.out; clear n0_ n1_ n2_ n3_; clear hb hbox hg) | ((with_reducible refine gate_dst (N := 3) rfl ?_); refine box_event ?hg (N := 3) ?hd (cs := #[.int .i64 a1_0, .int .i64 a1_1, .int .i64 a1_2, .int .i64 a1_3]) (t := 118) ?hr ?_; (case hd => rfl); (case hg => rfl); (case hr => first | (go_simp; done) | (go_simp; rfl)); intro gb183 hg w23 hbox hb; have n0_ := mk_ (blk_below (u_ BK182.out) hb); have n1_ := mk_ (below_step (us_ HB.out) hb); have n2_ := mk_ (hbox); have n3_ := mk_ ((by rw [hg]; exact (below_size (us_ HB.out)) : w.heap.size ≤ gb183)); have n4_ := mk_ ((by rw [hg]; exact (below_size (us_ HB.out)) : w.heap.size ≤ gb183)); have n5_ := mk_ ((by rw [hg]; exact Nat.ne_of_lt (blk_lt (u_ BK182.out)) : gb182 ≠ gb183)); have n6_ := mk_ ((by rw [hg]; exact Nat.ne_of_gt (blk_lt (u_ BK182.out)) : gb183 ≠ gb182)); clear BK182; clear HB; have BK182 := n0_; have HB := n1_; have BK183 := n2_; have GW183 := n3_; have GE183 := ge_ n4_.out; have NB182_183 := nq_ n5_.out; have NB183_182 := nq_ n6_.out; clear n0_ n1_ n2_ n3_ n4_ n5_ n6_; clear hb hbox hg; have hnb24 := NB182_183.out; have hnc24 := NB183_182.out; obtain ⟨hcz25_0, hcz25_1, hcz25_2, hcz25_3, hfz25_0, hfz25_1, hfz25_2, hfz25_3⟩ := cells4_ BK182.out; obtain ⟨hcz26_0, hcz26_1, hcz26_2, hcz26_3, hfz26_0, hfz26_1, hfz26_2, hfz26_3⟩ := cells4_ BK183.out))
  go_ret
  exact ⟨by first | rfl | (simp [errW_none, errW_some] <;> rfl) | (simp [*, errW_none, errW_some] <;> rfl), us_ HB.out⟩
 rw [if_pos c4] at H
 have c4b0 : (a0_1 == a1_1) = true := beq_iff_eq.mpr c4
 have c4b1 : (a0_1 != a1_1) = false := bne_eq_false_iff_eq.mpr c4
 clear c4
 by_cases c5 : a0_2 = a1_2
 rotate_left
 ·rw [if_neg c5] at H
  have c5b0 : (a0_2 == a1_2) = false := beq_eq_false_iff_ne.mpr c5
  have c5b1 : (a0_2 != a1_2) = true := bne_iff_ne.mpr c5
  obtain rfl := Option.some.inj H
  go_enter Try.func95, Try.ntmps95
  go_wp2_with (first | ((with_reducible refine gate_dst (N := 2) rfl ?_); refine box_event ?hg (N := 2) ?hd (cs := #[.int .i64 a0_0, .int .i64 a0_1, .int .i64 a0_2, .int .i64 a0_3]) (t := 118) ?hr ?_; (case hd => rfl); (case hg => rfl); (case hr => first | (go_simp; done) | (go_simp; rfl)); intro gb182 hg w17 hbox hb; have n0_ := mk_ (below_step (ub_ HB.out) hb); have n1_ := mk_ (hbox); have n2_ := mk_ ((by rw [hg]; exact (below_size (ub_ HB.out)) : w.heap.size ≤ gb182)); have n3_ := mk_ ((by rw [hg]; exact (below_size (ub_ HB.out)) : w.heap.size ≤ gb182)); clear HB; have HB := n0_; have BK182 := n1_; have GW182 := n2_; have GE182 := ge_ n3_.out; clear n0_ n1_ n2_ n3_; clear hb hbox hg) | ((with_reducible refine gate_dst (N := 3) rfl ?_); refine box_event ?hg (N := 3) ?hd (cs := #[.int .i64 a1_0, .int .i64 a1_1, .int .i64 a1_2, .int .i64 a1_3]) (t := 118) ?hr ?_; (case hd => rfl); (case hg => rfl); (case hr => first | (go_simp; done) | (go_simp; rfl)); intro gb183 hg w18 hbox hb; have n0_ := mk_ (blk_below (u_ BK182.out) hb); have n1_ := mk_ (below_step (us_ HB.out) hb); have n2_ := mk_ (hbox); have n3_ := mk_ ((by rw [hg]; exact (below_size (us_ HB.out)) : w.heap.size ≤ gb183)); have n4_ := mk_ ((by rw [hg]; exact (below_size (us_ HB.out)) : w.heap.size ≤ gb183)); have n5_ := mk_ ((by rw [hg]; exact Nat.ne_of_lt (blk_lt (u_ BK182.out)) : gb182 ≠ gb183)); have n6_ := mk_ ((by rw [hg]; exact Nat.ne_of_gt (blk_lt (u_ BK182.out)) : gb183 ≠ gb182)); clear BK182; clear HB; have BK182 := n0_; have HB := n1_; have BK183 := n2_; have GW183 := n3_; have GE183 := ge_ n4_.out; have NB182_183 := nq_ n5_.out; have NB183_182 := nq_ n6_.out; clear n0_ n1_ n2_ n3_ n4_ n5_ n6_; clear hb hbox hg; have hnb19 := NB182_183.out; have hnc19 := NB183_182.out; obtain ⟨hcz20_0, hcz20_1, hcz20_2, hcz20_3, hfz20_0, hfz20_1, hfz20_2, hfz20_3⟩ := cells4_ BK182.out; obtain ⟨hcz21_0, hcz21_1, hcz21_2, hcz21_3, hfz21_0, hfz21_1, hfz21_2, hfz21_3⟩ := cells4_ BK183.out))
  go_ret
  exact ⟨by first | rfl | (simp [errW_none, errW_some] <;> rfl) | (simp [*, errW_none, errW_some] <;> rfl), us_ HB.out⟩
 rw [if_pos c5] at H
 have c5b0 : (a0_2 == a1_2) = true := beq_iff_eq.mpr c5
 have c5b1 : (a0_2 != a1_2) = false := bne_eq_false_iff_eq.mpr c5
 clear c5
 by_cases c6 : a0_3 = a1_3
 rotate_left
 ·rw [if_neg c6] at H
  have c6b0 : (a0_3 == a1_3) = false := beq_eq_false_iff_ne.mpr c6
  have c6b1 : (a0_3 != a1_3) = true := bne_iff_ne.mpr c6
  obtain rfl := Option.some.inj H
  go_enter Try.func95, Try.ntmps95
  go_wp2_with (first | ((with_reducible refine gate_dst (N := 2) rfl ?_); refine box_event ?hg (N := 2) ?hd (cs := #[.int .i64 a0_0, .int .i64 a0_1, .int .i64 a0_2, .int .i64 a0_3]) (t := 118) ?hr ?_; (case hd => rfl); (case hg => rfl); (case hr => first | (go_simp; done) | (go_simp; rfl)); intro gb182 hg w12 hbox hb; have n0_ := mk_ (below_step (ub_ HB.out) hb); have n1_ := mk_ (hbox); have n2_ := mk_ ((by rw [hg]; exact (below_size (ub_ HB.out)) : w.heap.size ≤ gb182)); have n3_ := mk_ ((by rw [hg]; exact (below_size (ub_ HB.out)) : w.heap.size ≤ gb182)); clear HB; have HB := n0_; have BK182 := n1_; have GW182 := n2_; have GE182 := ge_ n3_.out; clear n0_ n1_ n2_ n3_; clear hb hbox hg) | ((with_reducible refine gate_dst (N := 3) rfl ?_); refine box_event ?hg (N := 3) ?hd (cs := #[.int .i64 a1_0, .int .i64 a1_1, .int .i64 a1_2, .int .i64 a1_3]) (t := 118) ?hr ?_; (case hd => rfl); (case hg => rfl); (case hr => first | (go_simp; done) | (go_simp; rfl)); intro gb183 hg w13 hbox hb; have n0_ := mk_ (blk_below (u_ BK182.out) hb); have n1_ := mk_ (below_step (us_ HB.out) hb); have n2_ := mk_ (hbox); have n3_ := mk_ ((by rw [hg]; exact (below_size (us_ HB.out)) : w.heap.size ≤ gb183)); have n4_ := mk_ ((by rw [hg]; exact (below_size (us_ HB.out)) : w.heap.size ≤ gb183)); have n5_ := mk_ ((by rw [hg]; exact Nat.ne_of_lt (blk_lt (u_ BK182.out)) : gb182 ≠ gb183)); have n6_ := mk_ ((by rw [hg]; exact Nat.ne_of_gt (blk_lt (u_ BK182.out)) : gb183 ≠ gb182)); clear BK182; clear HB; have BK182 := n0_; have HB := n1_; have BK183 := n2_; have GW183 := n3_; have GE183 := ge_ n4_.out; have NB182_183 := nq_ n5_.out; have NB183_182 := nq_ n6_.out; clear n0_ n1_ n2_ n3_ n4_ n5_ n6_; clear hb hbox hg; have hnb14 := NB182_183.out; have hnc14 := NB183_182.out; obtain ⟨hcz15_0, hcz15_1, hcz15_2, hcz15_3, hfz15_0, hfz15_1, hfz15_2, hfz15_3⟩ := cells4_ BK182.out; obtain ⟨hcz16_0, hcz16_1, hcz16_2, hcz16_3, hfz16_0, hfz16_1, hfz16_2, hfz16_3⟩ := cells4_ BK183.out))
  go_ret
  exact ⟨by first | rfl | (simp [errW_none, errW_some] <;> rfl) | (simp [*, errW_none, errW_some] <;> rfl), us_ HB.out⟩
 rw [if_pos c6] at H
 have c6b0 : (a0_3 == a1_3) = true := beq_iff_eq.mpr c6
 have c6b1 : (a0_3 != a1_3) = false := bne_eq_false_iff_eq.mpr c6
 clear c6
 obtain rfl := Option.some.inj H
 go_enter Try.func95, Try.ntmps95
 go_wp2_with (first | ((with_reducible refine gate_dst (N := 2) rfl ?_); refine box_event ?hg (N := 2) ?hd (cs := #[.int .i64 a0_0, .int .i64 a0_1, .int .i64 a0_2, .int .i64 a0_3]) (t := 118) ?hr ?_; (case hd => rfl); (case hg => rfl); (case hr => first | (go_simp; done) | (go_simp; rfl)); intro gb182 hg w7 hbox hb; have n0_ := mk_ (below_step (ub_ HB.out) hb); have n1_ := mk_ (hbox); have n2_ := mk_ ((by rw [hg]; exact (below_size (ub_ HB.out)) : w.heap.size ≤ gb182)); have n3_ := mk_ ((by rw [hg]; exact (below_size (ub_ HB.out)) : w.heap.size ≤ gb182)); clear HB; have HB := n0_; have BK182 := n1_; have GW182 := n2_; have GE182 := ge_ n3_.out; clear n0_ n1_ n2_ n3_; clear hb hbox hg) | ((with_reducible refine gate_dst (N := 3) rfl ?_); refine box_event ?hg (N := 3) ?hd (cs := #[.int .i64 a1_0, .int .i64 a1_1, .int .i64 a1_2, .int .i64 a1_3]) (t := 118) ?hr ?_; (case hd => rfl); (case hg => rfl); (case hr => first | (go_simp; done) | (go_simp; rfl)); intro gb183 hg w8 hbox hb; have n0_ := mk_ (blk_below (u_ BK182.out) hb); have n1_ := mk_ (below_step (us_ HB.out) hb); have n2_ := mk_ (hbox); have n3_ := mk_ ((by rw [hg]; exact (below_size (us_ HB.out)) : w.heap.size ≤ gb183)); have n4_ := mk_ ((by rw [hg]; exact (below_size (us_ HB.out)) : w.heap.size ≤ gb183)); have n5_ := mk_ ((by rw [hg]; exact Nat.ne_of_lt (blk_lt (u_ BK182.out)) : gb182 ≠ gb183)); have n6_ := mk_ ((by rw [hg]; exact Nat.ne_of_gt (blk_lt (u_ BK182.out)) : gb183 ≠ gb182)); clear BK182; clear HB; have BK182 := n0_; have HB := n1_; have BK183 := n2_; have GW183 := n3_; have GE183 := ge_ n4_.out; have NB182_183 := nq_ n5_.out; have NB183_182 := nq_ n6_.out; clear n0_ n1_ n2_ n3_ n4_ n5_ n6_; clear hb hbox hg; have hnb9 := NB182_183.out; have hnc9 := NB183_182.out; obtain ⟨hcz10_0, hcz10_1, hcz10_2, hcz10_3, hfz10_0, hfz10_1, hfz10_2, hfz10_3⟩ := cells4_ BK182.out; obtain ⟨hcz11_0, hcz11_1, hcz11_2, hcz11_3, hfz11_0, hfz11_1, hfz11_2, hfz11_3⟩ := cells4_ BK183.out))
 go_ret
 exact ⟨by first | rfl | (simp [errW_none, errW_some] <;> rfl) | (simp [*, errW_none, errW_some] <;> rfl), us_ HB.out⟩

/-! ### laws_eqRouteS: function 75 -/
def laws_eqRouteS.l0 : Nat → List (S118) → List (S118) → Int → Option (Bool)
 | 0, _, _, _ => none
 | k + 1, x0, x1, x5 => if x5 < (x0.length : Int) then (if 0 ≤ x5 then (if x5 < (x1.length : Int) then ((laws_eqRoute.f ((rd_T118 x0 x5).f0) ((rd_T118 x0 x5).f1) ((rd_T118 x0 x5).f2) ((rd_T118 x0 x5).f3) ((rd_T118 x1 x5).f0) ((rd_T118 x1 x5).f1) ((rd_T118 x1 x5).f2) ((rd_T118 x1 x5).f3)).bind fun t186 => (if t186 = true then (laws_eqRouteS.l0 k x0 x1 (wrap64 (x5 + 1))) else (some false))) else (none)) else (none)) else (some true)
def laws_eqRouteS.f (k : Nat) (l0 : List (S118)) (l1 : List (S118)) : Option (Bool) := if (l0.length : Int) = (l1.length : Int) then (laws_eqRouteS.l0 k l0 l1 0) else (some false)
theorem laws_eqRouteS.mono_l : ∀ k, (∀ y0 y1 y2, LeO (laws_eqRouteS.l0 k y0 y1 y2) (laws_eqRouteS.l0 (k + 1) y0 y1 y2))
 | 0 => fun _ _ _ r h => by simp [laws_eqRouteS.l0] at h
 | k + 1 => by
  have ih0 := laws_eqRouteS.mono_l k
  ·intro y0 y1 y2
   unfold laws_eqRouteS.l0
   repeat' first
   | (with_reducible exact ih0 _ _ _)
   | (with_reducible exact LeO.refl _)
   | (with_reducible exact LeO.none _)
   | (with_reducible refine LeO.ite ?_ ?_)
   | (with_reducible refine LeO.bind ?_ (fun _ => ?_))
   | exact ih0 _ _ _
   | exact LeO.none _
   | refine LeO.ite ?_ ?_
   | refine LeO.bind ?_ (fun _ => ?_)
theorem laws_eqRouteS.mono : ∀ a0 a1 k, LeO (laws_eqRouteS.f k a0 a1) (laws_eqRouteS.f (k + 1) a0 a1) := by
 intro a0 a1 k
 have ih0 := laws_eqRouteS.mono_l k
 unfold laws_eqRouteS.f
 repeat' first
   | (with_reducible exact ih0 _ _ _)
   | (with_reducible exact LeO.refl _)
   | (with_reducible exact LeO.none _)
   | (with_reducible refine LeO.ite ?_ ?_)
   | (with_reducible refine LeO.bind ?_ (fun _ => ?_))
   | exact ih0 _ _ _
   | exact LeO.none _
   | refine LeO.ite ?_ ?_
   | refine LeO.bind ?_ (fun _ => ?_)
def laws_eqRouteS.T6 : Bool × List (List Nat × List Nat) := (true, [([], []), ([], []), ([0, 1], [0, 1]), ([2], [2]), ([], []), ([], []), ([4, 5], [4, 5]), ([6], [6]), ([3, 7], [3, 7]), ([8], [8])])
def laws_eqRouteS.B6 : List Nat := [0, 0, 3, 7, 0, 0, 48, 112, 255, 511]
theorem laws_eqRouteS.tab6 : rtab .any (opsOf Try.f75 6) = laws_eqRouteS.T6 := by kernel_rfl
theorem laws_eqRouteS.bits6 : waitsOk laws_eqRouteS.T6.2 laws_eqRouteS.B6 = true := by kernel_rfl
set_option maxHeartbeats 8000000 in
set_option maxRecDepth 100000 in
theorem laws_eqRouteS.calls (k : Nat) (A0 : Option Addr) (c0 : Nat) (l0 : List (S118)) (A1 : Option Addr) (c1 : Nat) (l1 : List (S118)) (r : Bool) (w : World) (hr0 : Kd.C k118 w A0 l0.length l0) (hc0 : l0.length ≤ c0) (hr1 : Kd.C k118 w A1 l1.length l1) (hc1 : l1.length ≤ c1) (h : laws_eqRouteS.f k l0 l1 = some r) :
  Calls Try.prog 75 #[.slice A0 l0.length c0, .slice A1 l1.length c1] w fun e w' => e = .returned (.bool r) ∧ Below w.heap.size w w' := by
 have hu118 := Try.underlying118
 have HR0 := mk_ hr0
 have HC0 := mk_ hc0
 clear hr0 hc0
 have HR1 := mk_ hr1
 have HC1 := mk_ hc1
 clear hr1 hc1
 have HB := mk_ (Below.refl w.heap.size w)
 have H : (if (l0.length : Int) = (l1.length : Int) then (laws_eqRouteS.l0 k l0 l1 0) else (some false)) = some r := h
 clear h
 by_cases c3 : (l0.length : Int) = (l1.length : Int)
 rotate_left
 ·rw [if_neg c3] at H
  have c3b0 : ((l0.length : Int) == (l1.length : Int)) = false := beq_eq_false_iff_ne.mpr c3
  have c3b1 : ((l0.length : Int) != (l1.length : Int)) = true := bne_iff_ne.mpr c3
  have c3b2 : (l0.length == l1.length) = false := by first | simpa using c3 | (simp at c3 ⊢; omega)
  obtain rfl := Option.some.inj H
  go_enter Try.func75, Try.ntmps75
  go_wp2
  go_ret
  exact ⟨by first | rfl | (simp [errW_none, errW_some] <;> rfl) | (simp [*, errW_none, errW_some] <;> rfl), by repeat (first | (with_reducible first | exact HB.out | apply na_ | apply nn_ | apply nw_) | exact HB.out)⟩
 rw [if_pos c3] at H
 have c3b0 : ((l0.length : Int) == (l1.length : Int)) = true := beq_iff_eq.mpr c3
 have c3b1 : ((l0.length : Int) != (l1.length : Int)) = false := bne_eq_false_iff_eq.mpr c3
 have c3b2 : (l0.length == l1.length) = true := by first | simpa using c3 | (simp at c3 ⊢; omega)
 clear c3
 have H' := mk_ H
 clear H
 go_enter Try.func75, Try.ntmps75
 go_wp2
 go_loopg [5] k (fun kq v5 w' => ∃ (x5_1 : Int), v5 = .int .i64 x5_1 ∧ Aside0 (laws_eqRouteS.l0 kq l0 l1 x5_1 = some r) ∧ Aside0 (kq ≤ k) ∧ Aside0 (Below w.heap.size w w'))
 case atStart => exact ⟨(0), (by first | rfl | (simp; done) | (simp [*]; done)), H', ⟨Nat.le_refl _⟩, ⟨ub_ HB.out⟩⟩
 case round =>
  clear H'
  try clear c1
  try clear p2
  try clear c3
  try clear c3b0
  try clear c3b1
  try clear c3b2
  obtain ⟨x5_1, rfl, HA, HK1, HB⟩ := hrel
  cases gk with
  | zero => exact absurd HA.out (by simp [laws_eqRouteS.l0])
  | succ k1 =>
   have H := HA.out
   clear HA
   simp only [laws_eqRouteS.l0] at H
   by_cases c4 : x5_1 < (l0.length : Int)
   rotate_left
   ·rw [if_neg c4] at H
    have c4b0 : decide (x5_1 < (l0.length : Int)) = false := decide_eq_false c4
    clear c4
    obtain rfl := Option.some.inj H
    go_wp2
    go_ret
    exact ⟨by first | rfl | (simp [errW_none, errW_some] <;> rfl) | (simp [*, errW_none, errW_some] <;> rfl), by repeat (first | (with_reducible first | exact HB.out | apply na_ | apply nn_ | apply nw_) | exact HB.out)⟩
   rw [if_pos c4] at H
   have c4b0 : decide (x5_1 < (l0.length : Int)) = true := decide_eq_true c4
   clear c4
   by_cases c5 : 0 ≤ x5_1
   rotate_left
   ·rw [if_neg c5] at H
    exact absurd H (by simp)
   rw [if_pos c5] at H
   have c5b0 : decide (0 ≤ x5_1) = true := decide_eq_true c5
   clear c5
   by_cases c6 : x5_1 < (l1.length : Int)
   rotate_left
   ·rw [if_neg c6] at H
    exact absurd H (by simp)
   rw [if_pos c6] at H
   have c6b0 : decide (x5_1 < (l1.length : Int)) = true := decide_eq_true c6
   clear c6
   replace H := Option.bind_eq_some_iff.mp H
   obtain ⟨t186, A70, H⟩ := H
   replace H : (if t186 = true then (laws_eqRouteS.l0 k1 l0 l1 (wrap64 (x5_1 + 1))) else (some false)) = some r := H
   have A7 := mk_ A70
   clear A70
   by_cases c8 : t186 = true
   rotate_left
   ·replace c8 := Bool.eq_false_iff.mpr c8
    subst c8
    have H1 : (some false) = some r := by rw [if_neg (show ¬ (false = true) by decide)] at H; exact H
    clear H
    have H := H1
    clear H1
    obtain rfl := Option.some.inj H
    try go_wp2
    have n0_ := mk_ (below_drew1 HB.out)
    clear HB
    have HB := n0_
    clear n0_
    have p184 : 0 ≤ (x5_1 : Int) := of_decide_eq_true (by first | (with_reducible assumption) | assumption)
    have q184 : x5_1 < (l0.length : Int) := of_decide_eq_true (by first | (with_reducible assumption) | assumption)
    obtain ⟨ad184, e184, hx184_0, hx184_1, hx184_2, hx184_3⟩ := at_T118 HR0.out x5_1 p184 q184
    have hw184_3 := hx184_3
    have hw184_2 := hx184_2
    have hw184_1 := hx184_1
    have hw184_0 := hx184_0
    cases e184
    replace hx184_0 := (HB.out.cell (lc_ w _ hx184_0)).trans hx184_0
    replace hx184_1 := (HB.out.cell (lc_ w _ hx184_1)).trans hx184_1
    replace hx184_2 := (HB.out.cell (lc_ w _ hx184_2)).trans hx184_2
    replace hx184_3 := (HB.out.cell (lc_ w _ hx184_3)).trans hx184_3
    replace p184 := eq_true p184
    replace q184 := eq_true q184
    have p185 : 0 ≤ (x5_1 : Int) := of_decide_eq_true (by first | (with_reducible assumption) | assumption)
    have q185 : x5_1 < (l1.length : Int) := of_decide_eq_true (by first | (with_reducible assumption) | assumption)
    obtain ⟨ad185, e185, hx185_0, hx185_1, hx185_2, hx185_3⟩ := at_T118 HR1.out x5_1 p185 q185
    have hw185_3 := hx185_3
    have hw185_2 := hx185_2
    have hw185_1 := hx185_1
    have hw185_0 := hx185_0
    cases e185
    replace hx185_0 := (HB.out.cell (lc_ w _ hx185_0)).trans hx185_0
    replace hx185_1 := (HB.out.cell (lc_ w _ hx185_1)).trans hx185_1
    replace hx185_2 := (HB.out.cell (lc_ w _ hx185_2)).trans hx185_2
    replace hx185_3 := (HB.out.cell (lc_ w _ hx185_3)).trans hx185_3
    replace p185 := eq_true p185
    replace q185 := eq_true q185
    refine start_ (n := 10) (S := fun w' => w'.cell? (ad184.add ((x5_1).toNat * 4)) = some (.int .i64 ((rd_T118 l0 x5_1).f0)) ∧ w'.cell? ⟨(ad184.add ((x5_1).toNat * 4)).block, (ad184.add ((x5_1).toNat * 4)).off + 1, none⟩ = some (.int .i64 ((rd_T118 l0 x5_1).f1)) ∧ w'.cell? ⟨(ad184.add ((x5_1).toNat * 4)).block, (ad184.add ((x5_1).toNat * 4)).off + 2, none⟩ = some (.int .i64 ((rd_T118 l0 x5_1).f2)) ∧ w'.cell? ⟨(ad184.add ((x5_1).toNat * 4)).block, (ad184.add ((x5_1).toNat * 4)).off + 3, none⟩ = some (.int .i64 ((rd_T118 l0 x5_1).f3)) ∧ w'.cell? (ad185.add ((x5_1).toNat * 4)) = some (.int .i64 ((rd_T118 l1 x5_1).f0)) ∧ w'.cell? ⟨(ad185.add ((x5_1).toNat * 4)).block, (ad185.add ((x5_1).toNat * 4)).off + 1, none⟩ = some (.int .i64 ((rd_T118 l1 x5_1).f1)) ∧ w'.cell? ⟨(ad185.add ((x5_1).toNat * 4)).block, (ad185.add ((x5_1).toNat * 4)).off + 2, none⟩ = some (.int .i64 ((rd_T118 l1 x5_1).f2)) ∧ w'.cell? ⟨(ad185.add ((x5_1).toNat * 4)).block, (ad185.add ((x5_1).toNat * 4)).off + 3, none⟩ = some (.int .i64 ((rd_T118 l1 x5_1).f3))) (ds := []) #[F_, F_, F_, F_, F_, F_, F_, F_, F_, F_] (by kernel_rfl) rfl rfl ⟨((HB.out.cell (lc_ w _ hw184_0)).trans hw184_0), ((HB.out.cell (lc_ w _ hw184_1)).trans hw184_1), ((HB.out.cell (lc_ w _ hw184_2)).trans hw184_2), ((HB.out.cell (lc_ w _ hw184_3)).trans hw184_3), ((HB.out.cell (lc_ w _ hw185_0)).trans hw185_0), ((HB.out.cell (lc_ w _ hw185_1)).trans hw185_1), ((HB.out.cell (lc_ w _ hw185_2)).trans hw185_2), ((HB.out.cell (lc_ w _ hw185_3)).trans hw185_3)⟩ (fun hHeld => ?_); refine with_tabW laws_eqRouteS.tab6 laws_eqRouteS.bits6 (fun HT_ HW_ => ?_)
    generalize wr.drew = w11 at HB hx184_0 hx184_1 hx184_2 hx184_3 hx185_0 hx185_1 hx185_2 hx185_3 hHeld ⊢
    refine pure_ (i := 0) (N := some 17) (v := ?_) (a' := ?_) #[T_, F_, F_, F_, F_, F_, F_, F_, F_, F_] rfl rfl (any_of HT_.out (by kernel_rfl)) (fun _ _ _ h => h) (Or.inl ⟨by rfl, ?_⟩) ?_ ?_
    rotate_left
    ·intro w'
     go_simp
     with_reducible rfl
    rotate_left
    ·simp only [Act.put, la_, lz_, ls_, i64_w, i32_w]
     rfl
    refine pure_ (i := 1) (N := some 18) (v := ?_) (a' := ?_) #[T_, T_, F_, F_, F_, F_, F_, F_, F_, F_] rfl rfl (any_of HT_.out (by kernel_rfl)) (fun _ _ _ h => h) (Or.inl ⟨by rfl, ?_⟩) ?_ ?_
    rotate_left
    ·intro w'
     go_simp
     with_reducible rfl
    rotate_left
    ·simp only [Act.put, la_, lz_, ls_, i64_w, i32_w]
     rfl
    refine pure_ (i := 2) (N := some 19) (v := ?_) (a' := ?_) #[T_, T_, T_, F_, F_, F_, F_, F_, F_, F_] rfl rfl (any_of HT_.out (by kernel_rfl)) (fun _ _ _ h => h) (Or.inl ⟨by rfl, ?_⟩) ?_ ?_
    rotate_left
    ·intro w'
     go_simp
     with_reducible rfl
    rotate_left
    ·simp only [Act.put, la_, lz_, ls_, i64_w, i32_w]
     rfl
    refine pure_ (i := 4) (N := some 21) (v := ?_) (a' := ?_) #[T_, T_, T_, F_, T_, F_, F_, F_, F_, F_] rfl rfl (any_of HT_.out (by kernel_rfl)) (fun _ _ _ h => h) (Or.inl ⟨by rfl, ?_⟩) ?_ ?_
    rotate_left
    ·intro w'
     go_simp
     with_reducible rfl
    rotate_left
    ·simp only [Act.put, la_, lz_, ls_, i64_w, i32_w]
     rfl
    refine pure_ (i := 5) (N := some 22) (v := ?_) (a' := ?_) #[T_, T_, T_, F_, T_, T_, F_, F_, F_, F_] rfl rfl (any_of HT_.out (by kernel_rfl)) (fun _ _ _ h => h) (Or.inl ⟨by rfl, ?_⟩) ?_ ?_
    rotate_left
    ·intro w'
     go_simp
     with_reducible rfl
    rotate_left
    ·simp only [Act.put, la_, lz_, ls_, i64_w, i32_w]
     rfl
    refine pure_ (i := 6) (N := some 23) (v := ?_) (a' := ?_) #[T_, T_, T_, F_, T_, T_, T_, F_, F_, F_] rfl rfl (any_of HT_.out (by kernel_rfl)) (fun _ _ _ h => h) (Or.inl ⟨by rfl, ?_⟩) ?_ ?_
    rotate_left
    ·intro w'
     go_simp
     with_reducible rfl
    rotate_left
    ·simp only [Act.put, la_, lz_, ls_, i64_w, i32_w]
     rfl
    refine take_ (i := 3) (N := some 20) (v := ?_) (a' := ?_) #[T_, T_, T_, T_, T_, T_, T_, F_, F_, F_] rfl rfl (take_ofW HT_.out HW_.out (by kernel_rfl)) (fun _ _ _ h => h) (Or.inl ⟨by rfl, ?_⟩) hHeld ?_ ?_
    rotate_left
    ·rintro w' ⟨s0, s1, s2, s3, s4, s5, s6, s7⟩
     go_simp
     with_reducible rfl
    rotate_left
    ·simp only [Act.put, la_, lz_, ls_, i64_w, i32_w]
     rfl
    refine take_ (i := 7) (N := some 24) (v := ?_) (a' := ?_) #[T_, T_, T_, T_, T_, T_, T_, T_, F_, F_] rfl rfl (take_ofW HT_.out HW_.out (by kernel_rfl)) (fun _ _ _ h => h) (Or.inl ⟨by rfl, ?_⟩) hHeld ?_ ?_
    rotate_left
    ·rintro w' ⟨s0, s1, s2, s3, s4, s5, s6, s7⟩
     go_simp
     with_reducible rfl
    rotate_left
    ·simp only [Act.put, la_, lz_, ls_, i64_w, i32_w]
     rfl
    refine one_ (i := 8) (N := some 25) #[T_, T_, T_, T_, T_, T_, T_, T_, T_, F_] rfl rfl (one_of HT_.out (by kernel_rfl)) (by decide) (fun K hK => ?_)
    refine goes_ Try.func95 (by kernel_rfl) rfl #[.agg #[.int .i64 ((rd_T118 l0 x5_1).f0), .int .i64 ((rd_T118 l0 x5_1).f1), .int .i64 ((rd_T118 l0 x5_1).f2), .int .i64 ((rd_T118 l0 x5_1).f3)], .agg #[.int .i64 ((rd_T118 l1 x5_1).f0), .int .i64 ((rd_T118 l1 x5_1).f1), .int .i64 ((rd_T118 l1 x5_1).f2), .int .i64 ((rd_T118 l1 x5_1).f3)]] (by rfl) rfl rfl (by (try simp only [lm_, lo_, ln_]); first | done | rfl | (simp only [List.length_drop, List.length_take]; rfl)) ?_
    with_reducible refine (laws_eqRoute.calls ((rd_T118 l0 x5_1).f0) ((rd_T118 l0 x5_1).f1) ((rd_T118 l0 x5_1).f2) ((rd_T118 l0 x5_1).f3) ((rd_T118 l1 x5_1).f0) ((rd_T118 l1 x5_1).f1) ((rd_T118 l1 x5_1).f2) ((rd_T118 l1 x5_1).f3) false _ A7.out).mono ?_
    rintro e w12 ⟨rfl, hb⟩
    refine ⟨_, rfl, ?_⟩
    have n0_ := mk_ (below_step (ub_ HB.out) hb)
    clear HB
    have HB := n0_
    clear n0_
    (try clear hb)
    (try clear hb2)
    (try clear hk)
    (try clear hi)
    refine hK.out _ _ ⟨((HB.out.cell (lc_ w _ hw184_0)).trans hw184_0), ((HB.out.cell (lc_ w _ hw184_1)).trans hw184_1), ((HB.out.cell (lc_ w _ hw184_2)).trans hw184_2), ((HB.out.cell (lc_ w _ hw184_3)).trans hw184_3), ((HB.out.cell (lc_ w _ hw185_0)).trans hw185_0), ((HB.out.cell (lc_ w _ hw185_1)).trans hw185_1), ((HB.out.cell (lc_ w _ hw185_2)).trans hw185_2), ((HB.out.cell (lc_ w _ hw185_3)).trans hw185_3)⟩ (fun hHeld => ?_)
    clear hK K
    refine norm_ (a' := ?_) ?_ ?_
    rotate_left
    ·show Act.put _ (some 25) _ = _
     simp only [Act.put, la_, lz_, ls_, i64_w, i32_w]
     rfl
    refine pure_ (i := 9) (N := some 26) (v := ?_) (a' := ?_) #[T_, T_, T_, T_, T_, T_, T_, T_, T_, T_] rfl rfl (any_of HT_.out (by kernel_rfl)) (fun _ _ _ h => h) (Or.inl ⟨by rfl, ?_⟩) ?_ ?_
    rotate_left
    ·intro w'
     go_simp
     with_reducible rfl
    rotate_left
    ·simp only [Act.put, la_, lz_, ls_, i64_w, i32_w]
     rfl
    refine done_ (done_of HT_.out (by kernel_rfl)) ?_
    try go_wp2
    go_ret
    exact ⟨by first | rfl | (simp [errW_none, errW_some] <;> rfl) | (simp [*, errW_none, errW_some] <;> rfl), by repeat (first | (with_reducible first | exact HB.out | apply na_ | apply nn_ | apply nw_) | exact HB.out)⟩
   subst c8
   have H1 : (laws_eqRouteS.l0 k1 l0 l1 (wrap64 (x5_1 + 1))) = some r := by rw [if_pos rfl] at H; exact H
   clear H
   have H := H1
   clear H1
   have H' := mk_ H
   clear H
   try go_wp2
   have n0_ := mk_ (below_drew1 HB.out)
   clear HB
   have HB := n0_
   clear n0_
   have p184 : 0 ≤ (x5_1 : Int) := of_decide_eq_true (by first | (with_reducible assumption) | assumption)
   have q184 : x5_1 < (l0.length : Int) := of_decide_eq_true (by first | (with_reducible assumption) | assumption)
   obtain ⟨ad184, e184, hx184_0, hx184_1, hx184_2, hx184_3⟩ := at_T118 HR0.out x5_1 p184 q184
   have hw184_3 := hx184_3
   have hw184_2 := hx184_2
   have hw184_1 := hx184_1
   have hw184_0 := hx184_0
   cases e184
   replace hx184_0 := (HB.out.cell (lc_ w _ hx184_0)).trans hx184_0
   replace hx184_1 := (HB.out.cell (lc_ w _ hx184_1)).trans hx184_1
   replace hx184_2 := (HB.out.cell (lc_ w _ hx184_2)).trans hx184_2
   replace hx184_3 := (HB.out.cell (lc_ w _ hx184_3)).trans hx184_3
   replace p184 := eq_true p184
   replace q184 := eq_true q184
   have p185 : 0 ≤ (x5_1 : Int) := of_decide_eq_true (by first | (with_reducible assumption) | assumption)
   have q185 : x5_1 < (l1.length : Int) := of_decide_eq_true (by first | (with_reducible assumption) | assumption)
   obtain ⟨ad185, e185, hx185_0, hx185_1, hx185_2, hx185_3⟩ := at_T118 HR1.out x5_1 p185 q185
   have hw185_3 := hx185_3
   have hw185_2 := hx185_2
   have hw185_1 := hx185_1
   have hw185_0 := hx185_0
   cases e185
   replace hx185_0 := (HB.out.cell (lc_ w _ hx185_0)).trans hx185_0
   replace hx185_1 := (HB.out.cell (lc_ w _ hx185_1)).trans hx185_1
   replace hx185_2 := (HB.out.cell (lc_ w _ hx185_2)).trans hx185_2
   replace hx185_3 := (HB.out.cell (lc_ w _ hx185_3)).trans hx185_3
   replace p185 := eq_true p185
   replace q185 := eq_true q185
   refine start_ (n := 10) (S := fun w' => w'.cell? (ad184.add ((x5_1).toNat * 4)) = some (.int .i64 ((rd_T118 l0 x5_1).f0)) ∧ w'.cell? ⟨(ad184.add ((x5_1).toNat * 4)).block, (ad184.add ((x5_1).toNat * 4)).off + 1, none⟩ = some (.int .i64 ((rd_T118 l0 x5_1).f1)) ∧ w'.cell? ⟨(ad184.add ((x5_1).toNat * 4)).block, (ad184.add ((x5_1).toNat * 4)).off + 2, none⟩ = some (.int .i64 ((rd_T118 l0 x5_1).f2)) ∧ w'.cell? ⟨(ad184.add ((x5_1).toNat * 4)).block, (ad184.add ((x5_1).toNat * 4)).off + 3, none⟩ = some (.int .i64 ((rd_T118 l0 x5_1).f3)) ∧ w'.cell? (ad185.add ((x5_1).toNat * 4)) = some (.int .i64 ((rd_T118 l1 x5_1).f0)) ∧ w'.cell? ⟨(ad185.add ((x5_1).toNat * 4)).block, (ad185.add ((x5_1).toNat * 4)).off + 1, none⟩ = some (.int .i64 ((rd_T118 l1 x5_1).f1)) ∧ w'.cell? ⟨(ad185.add ((x5_1).toNat * 4)).block, (ad185.add ((x5_1).toNat * 4)).off + 2, none⟩ = some (.int .i64 ((rd_T118 l1 x5_1).f2)) ∧ w'.cell? ⟨(ad185.add ((x5_1).toNat * 4)).block, (ad185.add ((x5_1).toNat * 4)).off + 3, none⟩ = some (.int .i64 ((rd_T118 l1 x5_1).f3))) (ds := []) #[F_, F_, F_, F_, F_, F_, F_, F_, F_, F_] (by kernel_rfl) rfl rfl ⟨((HB.out.cell (lc_ w _ hw184_0)).trans hw184_0), ((HB.out.cell (lc_ w _ hw184_1)).trans hw184_1), ((HB.out.cell (lc_ w _ hw184_2)).trans hw184_2), ((HB.out.cell (lc_ w _ hw184_3)).trans hw184_3), ((HB.out.cell (lc_ w _ hw185_0)).trans hw185_0), ((HB.out.cell (lc_ w _ hw185_1)).trans hw185_1), ((HB.out.cell (lc_ w _ hw185_2)).trans hw185_2), ((HB.out.cell (lc_ w _ hw185_3)).trans hw185_3)⟩ (fun hHeld => ?_); refine with_tabW laws_eqRouteS.tab6 laws_eqRouteS.bits6 (fun HT_ HW_ => ?_)
   generalize wr.drew = w9 at HB hx184_0 hx184_1 hx184_2 hx184_3 hx185_0 hx185_1 hx185_2 hx185_3 hHeld ⊢
   refine pure_ (i := 0) (N := some 17) (v := ?_) (a' := ?_) #[T_, F_, F_, F_, F_, F_, F_, F_, F_, F_] rfl rfl (any_of HT_.out (by kernel_rfl)) (fun _ _ _ h => h) (Or.inl ⟨by rfl, ?_⟩) ?_ ?_
   rotate_left
   ·intro w'
    go_simp
    with_reducible rfl
   rotate_left
   ·simp only [Act.put, la_, lz_, ls_, i64_w, i32_w]
    rfl
   refine pure_ (i := 1) (N := some 18) (v := ?_) (a' := ?_) #[T_, T_, F_, F_, F_, F_, F_, F_, F_, F_] rfl rfl (any_of HT_.out (by kernel_rfl)) (fun _ _ _ h => h) (Or.inl ⟨by rfl, ?_⟩) ?_ ?_
   rotate_left
   ·intro w'
    go_simp
    with_reducible rfl
   rotate_left
   ·simp only [Act.put, la_, lz_, ls_, i64_w, i32_w]
    rfl
   refine pure_ (i := 2) (N := some 19) (v := ?_) (a' := ?_) #[T_, T_, T_, F_, F_, F_, F_, F_, F_, F_] rfl rfl (any_of HT_.out (by kernel_rfl)) (fun _ _ _ h => h) (Or.inl ⟨by rfl, ?_⟩) ?_ ?_
   rotate_left
   ·intro w'
    go_simp
    with_reducible rfl
   rotate_left
   ·simp only [Act.put, la_, lz_, ls_, i64_w, i32_w]
    rfl
   refine pure_ (i := 4) (N := some 21) (v := ?_) (a' := ?_) #[T_, T_, T_, F_, T_, F_, F_, F_, F_, F_] rfl rfl (any_of HT_.out (by kernel_rfl)) (fun _ _ _ h => h) (Or.inl ⟨by rfl, ?_⟩) ?_ ?_
   rotate_left
   ·intro w'
    go_simp
    with_reducible rfl
   rotate_left
   ·simp only [Act.put, la_, lz_, ls_, i64_w, i32_w]
    rfl
   refine pure_ (i := 5) (N := some 22) (v := ?_) (a' := ?_) #[T_, T_, T_, F_, T_, T_, F_, F_, F_, F_] rfl rfl (any_of HT_.out (by kernel_rfl)) (fun _ _ _ h => h) (Or.inl ⟨by rfl, ?_⟩) ?_ ?_
   rotate_left
   ·intro w'
    go_simp
    with_reducible rfl
   rotate_left
   ·simp only [Act.put, la_, lz_, ls_, i64_w, i32_w]
    rfl
   refine pure_ (i := 6) (N := some 23) (v := ?_) (a' := ?_) #[T_, T_, T_, F_, T_, T_, T_, F_, F_, F_] rfl rfl (any_of HT_.out (by kernel_rfl)) (fun _ _ _ h => h) (Or.inl ⟨by rfl, ?_⟩) ?_ ?_
   rotate_left
   ·intro w'
    go_simp
    with_reducible rfl
   rotate_left
   ·simp only [Act.put, la_, lz_, ls_, i64_w, i32_w]
    rfl
   refine take_ (i := 3) (N := some 20) (v := ?_) (a' := ?_) #[T_, T_, T_, T_, T_, T_, T_, F_, F_, F_] rfl rfl (take_ofW HT_.out HW_.out (by kernel_rfl)) (fun _ _ _ h => h) (Or.inl ⟨by rfl, ?_⟩) hHeld ?_ ?_
   rotate_left
   ·rintro w' ⟨s0, s1, s2, s3, s4, s5, s6, s7⟩
    go_simp
    with_reducible rfl
   rotate_left
   ·simp only [Act.put, la_, lz_, ls_, i64_w, i32_w]
    rfl
   refine take_ (i := 7) (N := some 24) (v := ?_) (a' := ?_) #[T_, T_, T_, T_, T_, T_, T_, T_, F_, F_] rfl rfl (take_ofW HT_.out HW_.out (by kernel_rfl)) (fun _ _ _ h => h) (Or.inl ⟨by rfl, ?_⟩) hHeld ?_ ?_
   rotate_left
   ·rintro w' ⟨s0, s1, s2, s3, s4, s5, s6, s7⟩
    go_simp
    with_reducible rfl
   rotate_left
   ·simp only [Act.put, la_, lz_, ls_, i64_w, i32_w]
    rfl
   refine one_ (i := 8) (N := some 25) #[T_, T_, T_, T_, T_, T_, T_, T_, T_, F_] rfl rfl (one_of HT_.out (by kernel_rfl)) (by decide) (fun K hK => ?_)
   refine goes_ Try.func95 (by kernel_rfl) rfl #[.agg #[.int .i64 ((rd_T118 l0 x5_1).f0), .int .i64 ((rd_T118 l0 x5_1).f1), .int .i64 ((rd_T118 l0 x5_1).f2), .int .i64 ((rd_T118 l0 x5_1).f3)], .agg #[.int .i64 ((rd_T118 l1 x5_1).f0), .int .i64 ((rd_T118 l1 x5_1).f1), .int .i64 ((rd_T118 l1 x5_1).f2), .int .i64 ((rd_T118 l1 x5_1).f3)]] (by rfl) rfl rfl (by (try simp only [lm_, lo_, ln_]); first | done | rfl | (simp only [List.length_drop, List.length_take]; rfl)) ?_
   with_reducible refine (laws_eqRoute.calls ((rd_T118 l0 x5_1).f0) ((rd_T118 l0 x5_1).f1) ((rd_T118 l0 x5_1).f2) ((rd_T118 l0 x5_1).f3) ((rd_T118 l1 x5_1).f0) ((rd_T118 l1 x5_1).f1) ((rd_T118 l1 x5_1).f2) ((rd_T118 l1 x5_1).f3) true _ A7.out).mono ?_
   rintro e w10 ⟨rfl, hb⟩
   refine ⟨_, rfl, ?_⟩
   have n0_ := mk_ (below_step (ub_ HB.out) hb)
   clear HB
   have HB := n0_
   clear n0_
   (try clear hb)
   (try clear hb2)
   (try clear hk)
   (try clear hi)
   refine hK.out _ _ ⟨((HB.out.cell (lc_ w _ hw184_0)).trans hw184_0), ((HB.out.cell (lc_ w _ hw184_1)).trans hw184_1), ((HB.out.cell (lc_ w _ hw184_2)).trans hw184_2), ((HB.out.cell (lc_ w _ hw184_3)).trans hw184_3), ((HB.out.cell (lc_ w _ hw185_0)).trans hw185_0), ((HB.out.cell (lc_ w _ hw185_1)).trans hw185_1), ((HB.out.cell (lc_ w _ hw185_2)).trans hw185_2), ((HB.out.cell (lc_ w _ hw185_3)).trans hw185_3)⟩ (fun hHeld => ?_)
   clear hK K
   refine norm_ (a' := ?_) ?_ ?_
   rotate_left
   ·show Act.put _ (some 25) _ = _
    simp only [Act.put, la_, lz_, ls_, i64_w, i32_w]
    rfl
   refine pure_ (i := 9) (N := some 26) (v := ?_) (a' := ?_) #[T_, T_, T_, T_, T_, T_, T_, T_, T_, T_] rfl rfl (any_of HT_.out (by kernel_rfl)) (fun _ _ _ h => h) (Or.inl ⟨by rfl, ?_⟩) ?_ ?_
   rotate_left
   ·intro w'
    go_simp
    with_reducible rfl
   rotate_left
   ·simp only [Act.put, la_, lz_, ls_, i64_w, i32_w]
    rfl
   refine done_ (done_of HT_.out (by kernel_rfl)) ?_
   try go_wp2
   go_roundg k1
   case measure => have := HK1.out; omega
   case rel => exact ⟨(wrap64 (x5_1 + 1)), (by first | rfl | (simp; done) | (simp [*]; done)), H', ⟨by have := HK1.out; omega⟩, ⟨ub_ HB.out⟩⟩

/-! ### laws_eqStation: function 45 -/
def laws_eqStation.f (k : Nat) (a0_0 : Int) (l0_1 : List (S118)) (a1_0 : Int) (l1_1 : List (S118)) : Option (Bool) := if a0_0 = a1_0 then ((laws_eqRouteS.f k l0_1 l1_1).bind fun t189 => (if t189 = true then (some true) else (some false))) else (some false)
theorem laws_eqStation.mono : ∀ a0 a1 a2 a3 k, LeO (laws_eqStation.f k a0 a1 a2 a3) (laws_eqStation.f (k + 1) a0 a1 a2 a3) := by
 intro a0 a1 a2 a3 k
 unfold laws_eqStation.f
 repeat' first
   | (with_reducible exact laws_eqRouteS.mono _ _ _)
   | (with_reducible exact LeO.refl _)
   | (with_reducible exact LeO.none _)
   | (with_reducible refine LeO.ite ?_ ?_)
   | (with_reducible refine LeO.bind ?_ (fun _ => ?_))
   | exact laws_eqRouteS.mono _ _ _
   | exact LeO.none _
   | refine LeO.ite ?_ ?_
   | refine LeO.bind ?_ (fun _ => ?_)
set_option maxHeartbeats 8000000 in
set_option maxRecDepth 100000 in
theorem laws_eqStation.calls (k : Nat) (a0_0 : Int) (A0_1 : Option Addr) (c0_1 : Nat) (l0_1 : List (S118)) (a1_0 : Int) (A1_1 : Option Addr) (c1_1 : Nat) (l1_1 : List (S118)) (r : Bool) (w : World) (hr0_1 : Kd.C k118 w A0_1 l0_1.length l0_1) (hc0_1 : l0_1.length ≤ c0_1) (hr1_1 : Kd.C k118 w A1_1 l1_1.length l1_1) (hc1_1 : l1_1.length ≤ c1_1) (h : laws_eqStation.f k a0_0 l0_1 a1_0 l1_1 = some r) :
  Calls Try.prog 45 #[.agg #[.int .i64 a0_0, .slice A0_1 l0_1.length c0_1], .agg #[.int .i64 a1_0, .slice A1_1 l1_1.length c1_1]] w fun e w' => e = .returned (.bool r) ∧ Below w.heap.size w w' := by
 have hu79 := Try.underlying79
 have HR0_1 := mk_ hr0_1
 have HC0_1 := mk_ hc0_1
 clear hr0_1 hc0_1
 have HR1_1 := mk_ hr1_1
 have HC1_1 := mk_ hc1_1
 clear hr1_1 hc1_1
 have HB := mk_ (Below.refl w.heap.size w)
 have H : (if a0_0 = a1_0 then ((laws_eqRouteS.f k l0_1 l1_1).bind fun t189 => (if t189 = true then (some true) else (some false))) else (some false)) = some r := h
 clear h
 by_cases c3 : a0_0 = a1_0
 rotate_left
 ·rw [if_neg c3] at H
  have c3b0 : (a0_0 == a1_0) = false := beq_eq_false_iff_ne.mpr c3
  have c3b1 : (a0_0 != a1_0) = true := bne_iff_ne.mpr c3
  obtain rfl := Option.some.inj H
  go_enter Try.func45, Try.ntmps45
  go_wp2_with (first | ((with_reducible refine gate_dst (N := 2) rfl ?_); refine box_event ?hg (N := 2) ?hd (cs := #[.int .i64 a0_0, .slice A0_1 l0_1.length c0_1]) (t := 79) ?hr ?_; (case hd => rfl); (case hg => rfl); (case hr => first | (go_simp; done) | (go_simp; rfl)); intro gb187 hg w18 hbox hb; have n0_ := mk_ (below_step (ub_ HB.out) hb); have n1_ := mk_ (hbox); have n2_ := mk_ ((by rw [hg]; exact (below_size (ub_ HB.out)) : w.heap.size ≤ gb187)); have n3_ := mk_ ((by rw [hg]; exact (below_size (ub_ HB.out)) : w.heap.size ≤ gb187)); clear HB; have HB := n0_; have BK187 := n1_; have GW187 := n2_; have GE187 := ge_ n3_.out; clear n0_ n1_ n2_ n3_; clear hb hbox hg) | ((with_reducible refine gate_dst (N := 3) rfl ?_); refine box_event ?hg (N := 3) ?hd (cs := #[.int .i64 a1_0, .slice A1_1 l1_1.length c1_1]) (t := 79) ?hr ?_; (case hd => rfl); (case hg => rfl); (case hr => first | (go_simp; done) | (go_simp; rfl)); intro gb188 hg w19 hbox hb; have n0_ := mk_ (blk_below (u_ BK187.out) hb); have n1_ := mk_ (below_step (us_ HB.out) hb); have n2_ := mk_ (hbox); have n3_ := mk_ ((by rw [hg]; exact (below_size (us_ HB.out)) : w.heap.size ≤ gb188)); have n4_ := mk_ ((by rw [hg]; exact (below_size (us_ HB.out)) : w.heap.size ≤ gb188)); have n5_ := mk_ ((by rw [hg]; exact Nat.ne_of_lt (blk_lt (u_ BK187.out)) : gb187 ≠ gb188)); have n6_ := mk_ ((by rw [hg]; exact Nat.ne_of_gt (blk_lt (u_ BK187.out)) : gb188 ≠ gb187)); clear BK187; clear HB; have BK187 := n0_; have HB := n1_; have BK188 := n2_; have GW188 := n3_; have GE188 := ge_ n4_.out; have NB187_188 := nq_ n5_.out; have NB188_187 := nq_ n6_.out; clear n0_ n1_ n2_ n3_ n4_ n5_ n6_; clear hb hbox hg; have hnb20 := NB187_188.out; have hnc20 := NB188_187.out; obtain ⟨hcz21_0, hcz21_1, hfz21_0, hfz21_1⟩ := cells2_ BK187.out; obtain ⟨hcz22_0, hcz22_1, hfz22_0, hfz22_1⟩ := cells2_ BK188.out))
  go_ret
  exact ⟨by first | rfl | (simp [errW_none, errW_some] <;> rfl) | (simp [*, errW_none, errW_some] <;> rfl), us_ HB.out⟩
 rw [if_pos c3] at H
 have c3b0 : (a0_0 == a1_0) = true := beq_iff_eq.mpr c3
 have c3b1 : (a0_0 != a1_0) = false := bne_eq_false_iff_eq.mpr c3
 clear c3
 replace H := Option.bind_eq_some_iff.mp H
 obtain ⟨t189, A40, H⟩ := H
 replace H : (if t189 = true then (some true) else (some false)) = some r := H
 have A4 := mk_ A40
 clear A40
 by_cases c5 : t189 = true
 ·subst c5
  have H1 : (some true) = some r := by rw [if_pos rfl] at H; exact H
  clear H
  have H := H1
  clear H1
  obtain rfl := Option.some.inj H
  go_enter Try.func45, Try.ntmps45
  go_wp2_with (first | ((with_reducible refine gate_dst (N := 2) rfl ?_); refine box_event ?hg (N := 2) ?hd (cs := #[.int .i64 a0_0, .slice A0_1 l0_1.length c0_1]) (t := 79) ?hr ?_; (case hd => rfl); (case hg => rfl); (case hr => first | (go_simp; done) | (go_simp; rfl)); intro gb187 hg w6 hbox hb; have n0_ := mk_ (below_step (ub_ HB.out) hb); have n1_ := mk_ (hbox); have n2_ := mk_ ((by rw [hg]; exact (below_size (ub_ HB.out)) : w.heap.size ≤ gb187)); have n3_ := mk_ ((by rw [hg]; exact (below_size (ub_ HB.out)) : w.heap.size ≤ gb187)); clear HB; have HB := n0_; have BK187 := n1_; have GW187 := n2_; have GE187 := ge_ n3_.out; clear n0_ n1_ n2_ n3_; clear hb hbox hg) | ((with_reducible refine gate_dst (N := 3) rfl ?_); refine box_event ?hg (N := 3) ?hd (cs := #[.int .i64 a1_0, .slice A1_1 l1_1.length c1_1]) (t := 79) ?hr ?_; (case hd => rfl); (case hg => rfl); (case hr => first | (go_simp; done) | (go_simp; rfl)); intro gb188 hg w7 hbox hb; have n0_ := mk_ (blk_below (u_ BK187.out) hb); have n1_ := mk_ (below_step (us_ HB.out) hb); have n2_ := mk_ (hbox); have n3_ := mk_ ((by rw [hg]; exact (below_size (us_ HB.out)) : w.heap.size ≤ gb188)); have n4_ := mk_ ((by rw [hg]; exact (below_size (us_ HB.out)) : w.heap.size ≤ gb188)); have n5_ := mk_ ((by rw [hg]; exact Nat.ne_of_lt (blk_lt (u_ BK187.out)) : gb187 ≠ gb188)); have n6_ := mk_ ((by rw [hg]; exact Nat.ne_of_gt (blk_lt (u_ BK187.out)) : gb188 ≠ gb187)); clear BK187; clear HB; have BK187 := n0_; have HB := n1_; have BK188 := n2_; have GW188 := n3_; have GE188 := ge_ n4_.out; have NB187_188 := nq_ n5_.out; have NB188_187 := nq_ n6_.out; clear n0_ n1_ n2_ n3_ n4_ n5_ n6_; clear hb hbox hg; have hnb8 := NB187_188.out; have hnc8 := NB188_187.out; obtain ⟨hcz9_0, hcz9_1, hfz9_0, hfz9_1⟩ := cells2_ BK187.out; obtain ⟨hcz10_0, hcz10_1, hfz10_0, hfz10_1⟩ := cells2_ BK188.out) | ((with_reducible refine gate_callee (f := 75) rfl ?_); refine goesL_ (some 14) rfl rfl Try.func75 (by kernel_rfl) rfl #[.slice A0_1 l0_1.length c0_1, .slice A1_1 l1_1.length c1_1] rfl (by (try simp only [lm_, lo_, ln_]); first | done | rfl | (simp only [List.length_drop, List.length_take]; rfl)) ?_; (with_reducible refine (laws_eqRouteS.calls k _ _ l0_1 _ _ l1_1 true _ ?side1 ?side2 ?side3 ?side4 A4.out).mono ?_); (case side1 => repeat (first | exact (Kd.C_below HR0_1.out HB.out) | (with_reducible refine Kd.C_alloc ?_ _) | (with_reducible refine Kd.C_drewN ?_ _) | (with_reducible refine Kd.C_drew ?_))); (case side2 => exact HC0_1.out); (case side3 => repeat (first | exact (Kd.C_below HR1_1.out HB.out) | (with_reducible refine Kd.C_alloc ?_ _) | (with_reducible refine Kd.C_drewN ?_ _) | (with_reducible refine Kd.C_drew ?_))); (case side4 => exact HC1_1.out); rintro e w11 ⟨rfl, hb⟩; refine ⟨_, rfl, ?_⟩; have n0_ := mk_ (blk_below (u_ BK187.out) hb); have n1_ := mk_ (blk_below (u_ BK188.out) hb); have n2_ := mk_ (below_step (us_ HB.out) hb); clear BK187; clear BK188; clear HB; have BK187 := n0_; have BK188 := n1_; have HB := n2_; clear n0_ n1_ n2_; (try clear hb); (try clear hb2); (try clear hk); (try clear hi)))
  go_ret
  exact ⟨by first | rfl | (simp [errW_none, errW_some] <;> rfl) | (simp [*, errW_none, errW_some] <;> rfl), us_ HB.out⟩
 replace c5 := Bool.eq_false_iff.mpr c5
 subst c5
 have H1 : (some false) = some r := by rw [if_neg (show ¬ (false = true) by decide)] at H; exact H
 clear H
 have H := H1
 clear H1
 obtain rfl := Option.some.inj H
 go_enter Try.func45, Try.ntmps45
 go_wp2_with (first | ((with_reducible refine gate_dst (N := 2) rfl ?_); refine box_event ?hg (N := 2) ?hd (cs := #[.int .i64 a0_0, .slice A0_1 l0_1.length c0_1]) (t := 79) ?hr ?_; (case hd => rfl); (case hg => rfl); (case hr => first | (go_simp; done) | (go_simp; rfl)); intro gb187 hg w12 hbox hb; have n0_ := mk_ (below_step (ub_ HB.out) hb); have n1_ := mk_ (hbox); have n2_ := mk_ ((by rw [hg]; exact (below_size (ub_ HB.out)) : w.heap.size ≤ gb187)); have n3_ := mk_ ((by rw [hg]; exact (below_size (ub_ HB.out)) : w.heap.size ≤ gb187)); clear HB; have HB := n0_; have BK187 := n1_; have GW187 := n2_; have GE187 := ge_ n3_.out; clear n0_ n1_ n2_ n3_; clear hb hbox hg) | ((with_reducible refine gate_dst (N := 3) rfl ?_); refine box_event ?hg (N := 3) ?hd (cs := #[.int .i64 a1_0, .slice A1_1 l1_1.length c1_1]) (t := 79) ?hr ?_; (case hd => rfl); (case hg => rfl); (case hr => first | (go_simp; done) | (go_simp; rfl)); intro gb188 hg w13 hbox hb; have n0_ := mk_ (blk_below (u_ BK187.out) hb); have n1_ := mk_ (below_step (us_ HB.out) hb); have n2_ := mk_ (hbox); have n3_ := mk_ ((by rw [hg]; exact (below_size (us_ HB.out)) : w.heap.size ≤ gb188)); have n4_ := mk_ ((by rw [hg]; exact (below_size (us_ HB.out)) : w.heap.size ≤ gb188)); have n5_ := mk_ ((by rw [hg]; exact Nat.ne_of_lt (blk_lt (u_ BK187.out)) : gb187 ≠ gb188)); have n6_ := mk_ ((by rw [hg]; exact Nat.ne_of_gt (blk_lt (u_ BK187.out)) : gb188 ≠ gb187)); clear BK187; clear HB; have BK187 := n0_; have HB := n1_; have BK188 := n2_; have GW188 := n3_; have GE188 := ge_ n4_.out; have NB187_188 := nq_ n5_.out; have NB188_187 := nq_ n6_.out; clear n0_ n1_ n2_ n3_ n4_ n5_ n6_; clear hb hbox hg; have hnb14 := NB187_188.out; have hnc14 := NB188_187.out; obtain ⟨hcz15_0, hcz15_1, hfz15_0, hfz15_1⟩ := cells2_ BK187.out; obtain ⟨hcz16_0, hcz16_1, hfz16_0, hfz16_1⟩ := cells2_ BK188.out) | ((with_reducible refine gate_callee (f := 75) rfl ?_); refine goesL_ (some 14) rfl rfl Try.func75 (by kernel_rfl) rfl #[.slice A0_1 l0_1.length c0_1, .slice A1_1 l1_1.length c1_1] rfl (by (try simp only [lm_, lo_, ln_]); first | done | rfl | (simp only [List.length_drop, List.length_take]; rfl)) ?_; (with_reducible refine (laws_eqRouteS.calls k _ _ l0_1 _ _ l1_1 false _ ?side1 ?side2 ?side3 ?side4 A4.out).mono ?_); (case side1 => repeat (first | exact (Kd.C_below HR0_1.out HB.out) | (with_reducible refine Kd.C_alloc ?_ _) | (with_reducible refine Kd.C_drewN ?_ _) | (with_reducible refine Kd.C_drew ?_))); (case side2 => exact HC0_1.out); (case side3 => repeat (first | exact (Kd.C_below HR1_1.out HB.out) | (with_reducible refine Kd.C_alloc ?_ _) | (with_reducible refine Kd.C_drewN ?_ _) | (with_reducible refine Kd.C_drew ?_))); (case side4 => exact HC1_1.out); rintro e w17 ⟨rfl, hb⟩; refine ⟨_, rfl, ?_⟩; have n0_ := mk_ (blk_below (u_ BK187.out) hb); have n1_ := mk_ (blk_below (u_ BK188.out) hb); have n2_ := mk_ (below_step (us_ HB.out) hb); clear BK187; clear BK188; clear HB; have BK187 := n0_; have BK188 := n1_; have HB := n2_; clear n0_ n1_ n2_; (try clear hb); (try clear hb2); (try clear hk); (try clear hi)))
 go_ret
 exact ⟨by first | rfl | (simp [errW_none, errW_some] <;> rfl) | (simp [*, errW_none, errW_some] <;> rfl), us_ HB.out⟩

end Go.Proofs.Ytfcocnhkimbpbac.MFnExactNetOk
