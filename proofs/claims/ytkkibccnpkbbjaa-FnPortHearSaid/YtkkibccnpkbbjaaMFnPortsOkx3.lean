/- Functions that the law FnPortsOk reaches, each with the proof that the machine's call comes to just its answer; no conditions but those that each theorem states. Printed by a program of this session over the kit's print. -/
import Derived.Test.YtkkibccnpkbbjaaMFnPortsOkx0
import Derived.Deep.QuietTactic
import Derived.BigQuiet
import Derived.StillTailTactics
import Derived.IntWalk
namespace Go.Proofs.Ytkkibccnpkbbjaa.MFnPortsOk
open Go.RowKit Go.Proofs.YtkkibccnpkbbjaaV.PrintWords Go.Proofs.YtkkibccnpkbbjaaV.PrintLast Go.Proofs.YtkkibccnpkbbjaaV.PrintMore
attribute [local go_sem] max2_int min2_int max_two min_two max_three min_three max_four min_four   -- for this text's walks alone
set_option linter.unusedVariables false
set_option linter.unusedSimpArgs false

/-! ### impl_in: function 76 -/
def impl_in.f (a0 : Int) (a1 : Int) (a2 : Int) : Option (Bool) := if a0 ≥ a1 then (some (decide (a0 ≤ a2))) else (some false)
set_option maxHeartbeats 8000000 in
set_option maxRecDepth 100000 in
theorem impl_in.calls (a0 : Int) (a1 : Int) (a2 : Int) (r : Bool) (w : World) (h : impl_in.f a0 a1 a2 = some r) :
  Calls Try.prog 76 #[.int .i64 a0, .int .i64 a1, .int .i64 a2] w fun e w' => e = .returned (.bool r) ∧ Drawn0 w w' := by
 have H : (if a0 ≥ a1 then (some (decide (a0 ≤ a2))) else (some false)) = some r := h
 clear h
 by_cases c4 : a0 ≥ a1
 focus
  rw [if_pos c4] at H
  have c4b0 : decide (a1 ≤ a0) = true := decide_eq_true c4
  clear c4
  obtain rfl := Option.some.inj H
 rotate_left
 focus
  rw [if_neg c4] at H
  have c4b0 : decide (a1 ≤ a0) = false := decide_eq_false c4
  clear c4
  obtain rfl := Option.some.inj H
 rotate_left
 all_goals
  go_enter Try.func76, Try.ntmps76
  go_wp2
  go_ret
  exact ⟨by first | rfl | (simp; done) | (simp [*]; done), by repeat (first | exact Drawn0.refl _ | apply Drawn0.step)⟩

/-! ### impl_portOk: function 43 -/
def impl_portOk.f (a0 : Int) : Option (Bool) := (impl_in.f a0 1 255).bind fun t118 => (some t118)
set_option maxHeartbeats 8000000 in
set_option maxRecDepth 100000 in
theorem impl_portOk.calls (a0 : Int) (r : Bool) (w : World) (h : impl_portOk.f a0 = some r) :
  Calls Try.prog 43 #[.int .i64 a0] w fun e w' => e = .returned (.bool r) ∧ Drawn0 w w' := by
 have H : ((impl_in.f a0 1 255).bind fun t118 => (some t118)) = some r := h
 clear h
 replace H := Option.bind_eq_some_iff.mp H
 obtain ⟨t118, A20, H⟩ := H
 replace H : (some t118) = some r := H
 have A2 := mk_ A20
 clear A20
 obtain rfl := Option.some.inj H
 go_enter Try.func43, Try.ntmps43
 go_wp2_with (first | ((with_reducible refine gate_callee (f := 76) rfl ?_); refine goesL_ (some 4) rfl rfl Try.func76 (by kernel_rfl) rfl #[.int .i64 a0, .int .i64 1, .int .i64 255] rfl (by (try simp only [lm_, lo_, ln_]); try rfl) ?_; (with_reducible refine (impl_in.calls a0 1 255 t118 _ A2.out).mono ?_); rintro e w' ⟨rfl, ⟨nd, rfl⟩⟩; refine ⟨_, rfl, ?_⟩))
 go_ret
 exact ⟨by first | rfl | (simp; done) | (simp [*]; done), by repeat (first | exact Drawn0.refl _ | apply Drawn0.step)⟩

-- impl_Mail_77: see impl.PortsOk

-- impl_Mail_44: see impl.PortsOk

/-! ### impl_word: function 78 -/
def impl_word.f (a0 : Int) : Option (Bool) := (impl_in.f a0 0 65535).bind fun t119 => (some t119)
set_option maxHeartbeats 8000000 in
set_option maxRecDepth 100000 in
theorem impl_word.calls (a0 : Int) (r : Bool) (w : World) (h : impl_word.f a0 = some r) :
  Calls Try.prog 78 #[.int .i64 a0] w fun e w' => e = .returned (.bool r) ∧ Drawn0 w w' := by
 have H : ((impl_in.f a0 0 65535).bind fun t119 => (some t119)) = some r := h
 clear h
 replace H := Option.bind_eq_some_iff.mp H
 obtain ⟨t119, A20, H⟩ := H
 replace H : (some t119) = some r := H
 have A2 := mk_ A20
 clear A20
 obtain rfl := Option.some.inj H
 go_enter Try.func78, Try.ntmps78
 go_wp2_with (first | ((with_reducible refine gate_callee (f := 76) rfl ?_); refine goesL_ (some 4) rfl rfl Try.func76 (by kernel_rfl) rfl #[.int .i64 a0, .int .i64 0, .int .i64 65535] rfl (by (try simp only [lm_, lo_, ln_]); try rfl) ?_; (with_reducible refine (impl_in.calls a0 0 65535 t119 _ A2.out).mono ?_); rintro e w' ⟨rfl, ⟨nd, rfl⟩⟩; refine ⟨_, rfl, ?_⟩))
 go_ret
 exact ⟨by first | rfl | (simp; done) | (simp [*]; done), by repeat (first | exact Drawn0.refl _ | apply Drawn0.step)⟩

/-! ### impl_MailOk: function 46 -/
def impl_MailOk.f (a0_0 : Int) (a0_1 : Int) (a0_2 : Int) (l0_3 : List Int) : Option (Bool) := (impl_word.f a0_0).bind fun t121 => (if t121 = true then ((impl_portOk.f a0_1).bind fun t122 => (if t122 = true then ((impl_portOk.f a0_2).bind fun t123 => (if t123 = true then (some (decide ((l0_3.length : Int) ≤ 40))) else (some false))) else (some false))) else (some false))
set_option maxHeartbeats 8000000 in
set_option maxRecDepth 100000 in
theorem impl_MailOk.calls (a0_0 : Int) (a0_1 : Int) (a0_2 : Int) (A0_3 : Option Addr) (c0_3 : Nat) (l0_3 : List Int) (r : Bool) (w : World) (hr0_3 : Kd.C (Kd.int .u8) w A0_3 l0_3.length l0_3) (hc0_3 : l0_3.length ≤ c0_3) (h : impl_MailOk.f a0_0 a0_1 a0_2 l0_3 = some r) :
  Calls Try.prog 46 #[.agg #[.int .i64 a0_0, .int .i64 a0_1, .int .i64 a0_2, .slice A0_3 l0_3.length c0_3]] w fun e w' => e = .returned (.bool r) ∧ Below w.heap.size w w' := by
 have hu40 := Try.underlying40
 have HR0_3 := mk_ hr0_3
 have HC0_3 := mk_ hc0_3
 clear hr0_3 hc0_3
 have HB := mk_ (Below.refl w.heap.size w)
 have H := h
 unfold impl_MailOk.f at H
 clear h
 replace H := Option.bind_eq_some_iff.mp H
 obtain ⟨t121, A20, H⟩ := H
 (try dsimp only at H)
 have A2 := mk_ A20
 clear A20
 by_cases c3 : t121 = true
 rotate_left
 focus
  replace c3 := Bool.eq_false_iff.mpr c3
  subst c3
  have H1 : (some false) = some r := by rw [if_neg (show ¬ (false = true) by decide)] at H; exact H
  clear H
  have H := H1
  clear H1
  obtain rfl := Option.some.inj H
 rotate_left
 focus
  subst c3
  rw [if_pos rfl] at H
  replace H := Option.bind_eq_some_iff.mp H
  obtain ⟨t122, A40, H⟩ := H
  (try dsimp only at H)
  have A4 := mk_ A40
  clear A40
  by_cases c5 : t122 = true
  rotate_left
  focus
   replace c5 := Bool.eq_false_iff.mpr c5
   subst c5
   have H1 : (some false) = some r := by rw [if_neg (show ¬ (false = true) by decide)] at H; exact H
   clear H
   have H := H1
   clear H1
   obtain rfl := Option.some.inj H
  rotate_left
  focus
   subst c5
   rw [if_pos rfl] at H
   replace H := Option.bind_eq_some_iff.mp H
   obtain ⟨t123, A60, H⟩ := H
   replace H : (if t123 = true then (some (decide ((l0_3.length : Int) ≤ 40))) else (some false)) = some r := H
   have A6 := mk_ A60
   clear A60
   by_cases c7 : t123 = true
   focus
    subst c7
    have H1 : (some (decide ((l0_3.length : Int) ≤ 40))) = some r := by rw [if_pos rfl] at H; exact H
    clear H
    have H := H1
    clear H1
    obtain rfl := Option.some.inj H
   rotate_left
   focus
    replace c7 := Bool.eq_false_iff.mpr c7
    subst c7
    have H1 : (some false) = some r := by rw [if_neg (show ¬ (false = true) by decide)] at H; exact H
    clear H
    have H := H1
    clear H1
    obtain rfl := Option.some.inj H
   rotate_left
  rotate_left 2
 rotate_left 3
 all_goals
  go_enter Try.func46, Try.ntmps46
  go_wp2_with (first | ((with_reducible refine gate_dst (N := 1) rfl ?_); refine box_event ?hg (N := 1) ?hd (cs := #[.int .i64 a0_0, .int .i64 a0_1, .int .i64 a0_2, .slice A0_3 l0_3.length c0_3]) (t := 40) ?hr ?_; (case hd => rfl); (case hg => rfl); (case hr => first | (go_simp; done) | (go_simp; rfl)); intro gb1200 hg w1201 hbox hb; have n0_ := mk_ (below_step (ub_ HB.out) hb); have BK120 := mk_ (hbox); have GW120 := mk_ ((by rw [hg]; exact (below_size (ub_ HB.out)) : w.heap.size ≤ gb1200)); have GE120 := ge_ ((by rw [hg]; exact (below_size (ub_ HB.out)) : w.heap.size ≤ gb1200)); replace HB := n0_; clear n0_; clear hb hbox hg; obtain ⟨_, _, _, _, _, _, _, _⟩ := cells4_ BK120.out) | ((with_reducible refine gate_callee (f := 78) rfl ?_); refine goesL_ (some 5) rfl rfl Try.func78 (by kernel_rfl) rfl #[.int .i64 a0_0] rfl (by (try simp only [lm_, lo_, ln_]); try rfl) ?_; (with_reducible refine (impl_word.calls a0_0 false _ A2.out).mono ?_); rintro e w' ⟨rfl, ⟨nd, rfl⟩⟩; refine ⟨_, rfl, ?_⟩) | ((with_reducible refine gate_callee (f := 78) rfl ?_); refine goesL_ (some 5) rfl rfl Try.func78 (by kernel_rfl) rfl #[.int .i64 a0_0] rfl (by (try simp only [lm_, lo_, ln_]); try rfl) ?_; (with_reducible refine (impl_word.calls a0_0 true _ A2.out).mono ?_); rintro e w' ⟨rfl, ⟨nd, rfl⟩⟩; refine ⟨_, rfl, ?_⟩) | (go_at_call 43; (with_reducible refine (impl_portOk.calls a0_1 false _ A4.out).mono ?_); rintro e w' ⟨rfl, ⟨nd, rfl⟩⟩) | (go_at_call 43; have hA_ := A4.out; (with_reducible refine (impl_portOk.calls a0_1 true _ A4.out).mono ?_); rintro e w' ⟨rfl, ⟨nd, rfl⟩⟩; clear hA_ A4) | (go_at_call 43; have hA_ := A6.out; (with_reducible refine (impl_portOk.calls a0_2 true _ A6.out).mono ?_); rintro e w' ⟨rfl, ⟨nd, rfl⟩⟩; clear hA_ A6) | (go_at_call 43; have hA_ := A6.out; (with_reducible refine (impl_portOk.calls a0_2 false _ A6.out).mono ?_); rintro e w' ⟨rfl, ⟨nd, rfl⟩⟩; clear hA_ A6))
  go_ret
  exact ⟨by first | rfl | (simp [errW_none, errW_some] <;> rfl) | (simp [*, errW_none, errW_some] <;> rfl), us_ HB.out⟩

-- impl_PortsOk_1: see impl.PortsOk

/-! ### impl_PortsOk: function 14 -/
/-- Is a message none, or one to another port? -/
def impl_PortsOk.bad (N : Int) (x : S40) : Option Bool := (impl_MailOk.f x.f0 x.f1 x.f2 x.f3).bind fun t => some (!t || x.f2 != N)
def impl_PortsOk.row (N : Int) : List S40 → Option Bool
  | [] => some false
  | x :: l => (impl_PortsOk.bad N x).bind fun t => if t = true then some true else impl_PortsOk.row N l
theorem impl_PortsOk.row_step (N : Int) (l : List S40) (q : Nat) (h : q < l.length) : impl_PortsOk.row N (l.drop q) = (impl_PortsOk.bad N (rd_T40 l (q : Int))).bind fun t => if t = true then some true else impl_PortsOk.row N (l.drop (q + 1)) := by
  rw [List.drop_eq_getElem_cons h]
  have e : rd_T40 l (q : Int) = l[q] := by simp [rd_T40, List.getD_eq_getElem?_getD, List.getElem?_eq_getElem h]
  rw [e]
  rfl
set_option maxHeartbeats 1000000 in
set_option maxRecDepth 100000 in
theorem impl_PortsOk.closure (N a f t : Int) (A1 : Option Addr) (c1 B : Nat) (l : List Int) (r : Bool) (w : World) (hr : (Kd.int .u8).C w A1 l.length l) (hc : l.length ≤ c1) (hB : w.cell? ⟨B, 0, none⟩ = some (.int .i64 N)) (h : impl_MailOk.f a f t l = some r) :
    Calls Try.prog 45 #[.agg #[.int .i64 a, .int .i64 f, .int .i64 t, .slice A1 l.length c1], .pointer (some ⟨B, 0, none⟩)] w fun e w' => e = .returned (.bool (!r || t != N)) ∧ Below w.heap.size w w' := by
  have HR := mk_ hr
  have HC := mk_ hc
  have HB0 := mk_ hB
  have HH := mk_ h
  clear hr hc hB h
  cases r
  all_goals
    go_enter Try.func45, Try.ntmps45
    go_wp2_with (first | ((with_reducible refine gate_dst (N := 2) rfl ?_); refine box_event ?hg (N := 2) ?hd (cs := #[.int .i64 a, .int .i64 f, .int .i64 t, .slice A1 l.length c1]) (t := 40) ?hr ?_; (case hd => rfl); (case hg => rfl); (case hr => first | (go_simp; done) | (go_simp; rfl)); intro gb hg w2 hbox hb; have hc0 := (blk_cell hbox 0).trans rfl; have hc1 := (blk_cell hbox 1).trans rfl; have hc2 := (blk_cell hbox 2).trans rfl; have hc3 := (blk_cell hbox 3).trans rfl; have HBX := mk_ hbox; have HBL := mk_ hb; clear hb hbox hg) | (go_at_call 46; (with_reducible refine (impl_MailOk.calls a f t _ _ l _ _ ?side1 ?side2 HH.out).mono ?_); (case side1 => exact Kd.C_below HR.out HBL.out); (case side2 => exact HC.out); rintro e w1 ⟨rfl, hb⟩; have hbx := blk_below HBX.out hb; have k2 := (blk_cell hbx 2).trans rfl; have k3 := ((below_step HBL.out hb).cell (lc_ w _ HB0.out)).trans HB0.out; have HB1 := mk_ (below_step HBL.out hb); clear hb hbx))
    go_ret
    exact ⟨rfl, HB1.out⟩
set_option maxHeartbeats 1000000 in
set_option maxRecDepth 100000 in
theorem impl_PortsOk.index (N : Int) (B : Nat) (A0 : Option Addr) (c0 : Nat) (l0 : List S40) (r : Bool) (w : World) (hr0 : Kd.C k40 w A0 l0.length l0) (hc0 : l0.length ≤ c0) (hB : w.cell? ⟨B, 0, none⟩ = some (.int .i64 N)) (h : impl_PortsOk.row N l0 = some r) :
    Calls Try.prog 77 #[.slice A0 l0.length c0, .func (.func 45) #[] #[.pointer (some ⟨B, 0, none⟩)]] w fun e w' => (∃ v : Int, e = .returned (.int .i64 v) ∧ decide (0 ≤ v) = r) ∧ Below w.heap.size w w' := by
  have hlen : l0.length ≤ 9223372036854775807 := hr0.2.1
  have HR := mk_ hr0
  have HH := mk_ h
  have HBB := mk_ hB
  clear hr0 hc0 h hB
  go_enter Try.func77, Try.ntmps77
  go_wp2
  go_loopw [8] (fun i wr => ∃ q : Nat, q ≤ l0.length ∧ i = .int .i64 q ∧ Aside0 (impl_PortsOk.row N (l0.drop q) = some r) ∧ Aside0 (Below w.heap.size w wr)) (fun i _ => l0.length - (intOf i).toNat)
  case atStart => exact ⟨0, Nat.zero_le _, rfl, HH, ⟨Below.refl _ _⟩⟩
  case round =>
    obtain ⟨q, hq, rfl, H2, HB⟩ := hrel
    by_cases hlt : q < l0.length
    · have H := H2.out
      rw [impl_PortsOk.row_step N l0 q hlt] at H
      obtain ⟨t, ht, H⟩ := Option.bind_eq_some_iff.mp H
      obtain ⟨u, hu, ht⟩ := Option.bind_eq_some_iff.mp ht
      have HT := mk_ (Option.some.inj ht)
      have HU := mk_ hu
      have H3 := mk_ H
      obtain ⟨ad, A3, c3, e, hx0, hx1, hx2, hx3, hx4, hx5⟩ := at_T40 HR.out (q : Int) (by omega) (by omega)
      cases e
      replace hx0 := (HB.out.cell (lc_ w _ hx0)).trans hx0
      replace hx1 := (HB.out.cell (lc_ w _ hx1)).trans hx1
      replace hx2 := (HB.out.cell (lc_ w _ hx2)).trans hx2
      replace hx3 := (HB.out.cell (lc_ w _ hx3)).trans hx3
      have HX4 := mk_ hx4
      have HX5 := mk_ (Kd.C_below hx5 HB.out)
      have HC := mk_ ((HB.out.cell (lc_ w _ HBB.out)).trans HBB.out)
      rw [Int.toNat_natCast] at hx0 hx1 hx2 hx3
      clear ht hu H H2 hx4 hx5
      cases t with
      | true =>
        go_wp2_with (go_at_call 45; (with_reducible refine (impl_PortsOk.closure N _ _ _ _ _ B _ u _ HX5.out HX4.out HC.out HU.out).mono ?_); rw [HT.out]; rintro e w1 ⟨rfl, hb⟩; have HB1 := mk_ hb; clear hb)
        go_ret
        have e1 : true = r := Option.some.inj H3.out
        exact ⟨⟨_, rfl, by rw [← e1]; exact decide_eq_true (by omega)⟩, below_step HB.out HB1.out⟩
      | false =>
        go_wp2_with (go_at_call 45; (with_reducible refine (impl_PortsOk.closure N _ _ _ _ _ B _ u _ HX5.out HX4.out HC.out HU.out).mono ?_); rw [HT.out]; rintro e w1 ⟨rfl, hb⟩; have HB1 := mk_ hb; clear hb)
        go_roundw
        case rel => exact ⟨q + 1, by omega, by go_num, ⟨by simpa using H3.out⟩, ⟨below_step HB.out HB1.out⟩⟩
        case measure => simp [intOf]; omega
    · obtain rfl : q = l0.length := by omega
      have H := H2.out
      rw [List.drop_length] at H
      obtain rfl : false = r := Option.some.inj H
      go_wp2
      go_ret
      exact ⟨⟨_, rfl, rfl⟩, HB.out⟩
set_option maxHeartbeats 400000 in
set_option maxRecDepth 100000 in
theorem impl_PortsOk.contains (N : Int) (B : Nat) (A0 : Option Addr) (c0 : Nat) (l0 : List S40) (r : Bool) (w : World) (hr0 : Kd.C k40 w A0 l0.length l0) (hc0 : l0.length ≤ c0) (hB : w.cell? ⟨B, 0, none⟩ = some (.int .i64 N)) (h : impl_PortsOk.row N l0 = some r) :
    Calls Try.prog 44 #[.slice A0 l0.length c0, .func (.func 45) #[] #[.pointer (some ⟨B, 0, none⟩)]] w fun e w' => e = .returned (.bool r) ∧ Below w.heap.size w w' := by
  have HR := mk_ hr0
  have HC := mk_ hc0
  have HH := mk_ h
  have HBB := mk_ hB
  clear hr0 hc0 h hB
  go_enter Try.func44, Try.ntmps44
  go_wp2_with (go_at_call 77; refine (impl_PortsOk.index N B _ _ l0 _ _ HR.out HC.out HBB.out HH.out).mono ?_; rintro e w1 ⟨⟨v, rfl, hv⟩, hb⟩; have HB1 := mk_ hb; clear hb)
  go_ret
  exact ⟨by subst hv; first | rfl | (simp; done) | (simp; rfl), HB1.out⟩
theorem impl_PortsOk.skip {P : Program} {ops : Array Oper} {w : World} {Q : Act → Prop} {a : Act} {o : Oper} {rest : List Oper} (h : Region.wanted o (yielded ops a.tmps) = false) : wpStill P ops w Q (o :: rest) a = wpStill P ops w Q rest (a.put o.dst undef) := by
  rw [wpStill]
  simp [h]
theorem impl_PortsOk.prev {a b d : Nat} (h : a - b = d + 1) : a - (b + 1) = d := by omega
theorem impl_PortsOk.in_same (a b c : Int) (w : World) : Calls Try.prog 76 #[.int .i64 a, .int .i64 b, .int .i64 c] w fun e w' => e = .returned (.bool (decide (b ≤ a) && decide (a ≤ c))) ∧ w = w' := by
  by_cases h : b ≤ a
  · have h1 : decide (b ≤ a) = true := decide_eq_true h
    rw [h1]
    clear h
    go_enter Try.func76, Try.ntmps76
    go_wp2
    go_ret
    exact ⟨rfl, rfl⟩
  · have h1 : decide (b ≤ a) = false := decide_eq_false h
    rw [h1]
    clear h
    go_enter Try.func76, Try.ntmps76
    go_wp2
    go_ret
    exact ⟨rfl, rfl⟩
def impl_PortsOk.num (a : Int) : Bool := decide (1 ≤ a) && decide (a ≤ 255)
theorem impl_PortsOk.num_same (a : Int) (w : World) : Calls Try.prog 43 #[.int .i64 a] w fun e w' => e = .returned (.bool (impl_PortsOk.num a)) ∧ w = w' := by
  go_enter Try.func43, Try.ntmps43
  go_wp2_with (go_at_call 76; refine (impl_PortsOk.in_same _ _ _ _).mono ?_; rintro e w' ⟨rfl, rfl⟩)
  go_ret
  exact ⟨rfl, rfl⟩
/-- From a place on, so many ports left. -/
def impl_PortsOk.at_ (l : List S47) : Nat → Nat → Option Bool
  | 0, _ => some (decide (l.length ≤ 4))
  | d + 1, i => if impl_PortsOk.num (rd_T47 l (i : Int)).f0 = false then some false else if 0 < i ∧ (rd_T47 l ((i : Int) - 1)).f0 ≥ (rd_T47 l (i : Int)).f0 then some false else if 3 < (rd_T47 l (i : Int)).f1.length then some false else
    (impl_PortsOk.row (rd_T47 l (i : Int)).f0 (rd_T47 l (i : Int)).f1).bind fun t => if t = true then some false else impl_PortsOk.at_ l d (i + 1)
def impl_PortsOk.f (l0 : List S47) : Option Bool := impl_PortsOk.at_ l0 l0.length 0
/-- What a walk over the test knows: what a port's cells say, and that of the one ahead. -/
theorem impl_PortsOk.box (wr w2 : World) (gb : Nat) (N : Int) (A1 : Option Addr) (n c1 : Nat) (w : World) (hB : Below w.heap.size w wr) (hb : Below wr.heap.size wr w2) (hg : gb = wr.heap.size) (hbox : w2.heap[gb]? = some (.cells #[.int .i64 0, .slice none 0 0] 47 (0, 0))) :
    ((w2.setCell ⟨gb, 0, none⟩ (.int .i64 N)).setCell ⟨gb, 1, none⟩ (.slice A1 n c1)).heap[gb]? = some (.cells #[.int .i64 N, .slice A1 n c1] 47 (0, 0)) ∧ Below w.heap.size w ((w2.setCell ⟨gb, 0, none⟩ (.int .i64 N)).setCell ⟨gb, 1, none⟩ (.slice A1 n c1)) := by
  refine ⟨blk_put (cs := #[.int .i64 N, .slice none 0 0]) (blk_put (cs := #[.int .i64 0, .slice none 0 0]) hbox 0 _ rfl) 1 _ rfl, ?_⟩
  have := hB.size
  exact bs_ (bs_ (below_step hB hb) (by omega)) (by omega)
set_option maxHeartbeats 4000000 in
set_option maxRecDepth 100000 in
theorem impl_PortsOk.calls (A0 : Option Addr) (c0 : Nat) (l0 : List S47) (r : Bool) (w : World) (hr0 : Kd.C k47 w A0 l0.length l0) (hc0 : l0.length ≤ c0) (h : impl_PortsOk.f l0 = some r) :
    Calls Try.prog 14 #[.slice A0 l0.length c0] w fun e w' => e = .returned (.bool r) ∧ Below w.heap.size w w' := by
 have hlen : l0.length ≤ 9223372036854775807 := hr0.2.1
 have hmf : ∀ (fn : Fn) (first cap : Array Value) (w : World), (Instr.makeFunc fn first cap).run Try.prog w = .ok (.func fn first cap) w := fun _ _ _ _ => rfl
 have hu := Try.underlying47
 have HR := mk_ hr0
 have HH := mk_ h
 clear hr0 hc0 h
 go_enter Try.func14, Try.ntmps14
 go_wp2
 go_loopw [7] (fun i wr => ∃ q : Nat, q ≤ l0.length ∧ i = .int .i64 q ∧ Aside0 (impl_PortsOk.at_ l0 (l0.length - q) q = some r) ∧ Aside0 (Below w.heap.size w wr)) (fun i _ => l0.length - (intOf i).toNat)
 case atStart => exact ⟨0, Nat.zero_le _, rfl, HH, ⟨Below.refl _ _⟩⟩
 case round =>
  obtain ⟨q, hq, rfl, H2, HB⟩ := hrel
  by_cases hlt : q < l0.length
  ·have H := H2.out
   obtain ⟨d, hd⟩ : ∃ d, l0.length - q = d + 1 := ⟨l0.length - q - 1, by omega⟩
   rw [hd, impl_PortsOk.at_] at H
   have HD := mk_ hd
   clear hd H2
   obtain ⟨ad, A1, c1, e, hx0, hx1, hx2, hx3⟩ := at_T47 HR.out (q : Int) (by omega) (by omega)
   cases e
   replace hx0 := (HB.out.cell (lc_ w _ hx0)).trans hx0
   replace hx1 := (HB.out.cell (lc_ w _ hx1)).trans hx1
   rw [Int.toNat_natCast] at hx0 hx1
   have HX2 := mk_ hx2
   have HX3 := mk_ hx3
   clear hx2 hx3
   obtain ⟨N, hN⟩ : ∃ N, (rd_T47 l0 (q : Int)).f0 = N := ⟨_, rfl⟩
   obtain ⟨L, hL⟩ : ∃ L, (rd_T47 l0 (q : Int)).f1 = L := ⟨_, rfl⟩
   rw [hN, hL] at H
   rw [hN] at hx0
   rw [hL] at hx1 HX2 HX3
   have HN := mk_ hN
   have HL := mk_ hL
   have HH := mk_ H
   clear hN hL H
   go_wp2_with (first | ((with_reducible refine gate_dst (N := 4) rfl ?_); refine box_event ?hg (N := 4) ?hd (cs := #[.int .i64 0, .slice none 0 0]) (t := 47) ?hr ?_; (case hd => rfl); (case hg => rfl); (case hr => first | (go_simp; done) | (go_simp; rfl)); intro gb hg w2 hbox hb; obtain ⟨hc0, hc1, hf0, hf1⟩ := cells2_ hbox; have HBX := mk_ hbox; have HBL := mk_ hb; have HG := mk_ hg; clear hb hbox hg))
   have hbx := impl_PortsOk.box wr w2 gb N A1 L.length c1 w HB.out HBL.out HG.out HBX.out
   clear hc0 hc1 hf0 hf1
   generalize ((w2.setCell ⟨gb, 0, none⟩ (.int .i64 N)).setCell ⟨gb, 1, none⟩ (.slice A1 L.length c1)) = W at hbx ⊢
   obtain ⟨hbW, hBW⟩ := hbx
   have k0 := (blk_cell hbW 0).trans rfl
   have k1 := (blk_cell hbW 1).trans rfl
   have HBW := mk_ hBW
   have HbW := mk_ hbW
   clear hx0 hx1 hbW hBW
   obtain ⟨j, hj⟩ : ∃ j : Int, (q : Int) - 1 = j := ⟨_, rfl⟩
   have iw : IntKind.i64.wrap ((q : Int) - 1) = j := (IntWalk.i64_in _ (by omega)).trans hj
   rw [hj] at HH
   have HJ := mk_ hj
   clear hj
   by_cases g1 : impl_PortsOk.num N = false
   ·have H := HH.out
    rw [if_pos g1] at H
    obtain rfl := Option.some.inj H
    clear H
    go_quiet ((go_at_call 43; exact Calls.quiet_of_same ((impl_PortsOk.num_same N _).mono fun e w' h => ⟨h.1, h.2.symm⟩)))
    go_wp2
    go_ret
    exact ⟨rfl, nn_ HBW.out _⟩
   ·replace g1 : impl_PortsOk.num N = true := by simpa using g1
    have H := HH.out
    rw [if_neg (by simp [g1])] at H
    by_cases g2 : 0 < q ∧ (rd_T47 l0 j).f0 ≥ N
    ·rw [if_pos g2] at H
     obtain rfl := Option.some.inj H
     clear H
     obtain ⟨g2, g3⟩ := g2
     obtain ⟨ad', A2, c2, e, hx0, _, _, _⟩ := at_T47 HR.out j (by have := HJ.out; omega) (by have := HJ.out; omega)
     cases e
     replace hx0 := (HBW.out.cell (lc_ w _ hx0)).trans hx0
     have b0 : decide (0 < q) = true := decide_eq_true g2
     have b1 : decide ((0 : Int) < (q : Int)) = true := decide_eq_true (by omega)
     have b2 : (0 : Int) ≤ j := by have := HJ.out; omega
     have b3 : j < (l0.length : Int) := by have := HJ.out; omega
     have b4 : decide (N ≤ (rd_T47 l0 j).f0) = true := decide_eq_true g3
     clear g2 g3
     go_quiet ((go_at_call 43; exact Calls.quiet_of_same ((impl_PortsOk.num_same N _).mono fun e w' h => ⟨h.1, h.2.symm⟩)))
     go_wp2
     go_ret
     exact ⟨rfl, nn_ HBW.out _⟩
    ·rw [if_neg g2] at H
     have HH := mk_ H
     clear H
     by_cases g4 : 0 < q
     ·have g3 : ¬ (rd_T47 l0 j).f0 ≥ N := fun h => g2 ⟨g4, h⟩
      obtain ⟨ad', A2, c2, e, hx0, _, _, _⟩ := at_T47 HR.out j (by have := HJ.out; omega) (by have := HJ.out; omega)
      cases e
      replace hx0 := (HBW.out.cell (lc_ w _ hx0)).trans hx0
      have b0 : decide (0 < q) = true := decide_eq_true g4
      have b1 : decide ((0 : Int) < (q : Int)) = true := decide_eq_true (by omega)
      have b2 : (0 : Int) ≤ j := by have := HJ.out; omega
      have b3 : j < (l0.length : Int) := by have := HJ.out; omega
      have b4 : decide (N ≤ (rd_T47 l0 j).f0) = false := decide_eq_false g3
      clear g2 g3 g4
      by_cases g5 : 3 < L.length
      ·have H := HH.out
       rw [if_pos g5] at H
       obtain rfl := Option.some.inj H
       clear H
       have b5 : decide ((3 : Int) < (L.length : Int)) = true := decide_eq_true (by omega)
       have b6 : decide (3 < L.length) = true := decide_eq_true g5
       clear g5
       go_quiet ((go_at_call 43; exact Calls.quiet_of_same ((impl_PortsOk.num_same N _).mono fun e w' h => ⟨h.1, h.2.symm⟩)))
       go_wp2
       go_ret
       exact ⟨rfl, nn_ HBW.out _⟩
      ·have H := HH.out
       rw [if_neg g5] at H
       obtain ⟨t, ht, H⟩ := Option.bind_eq_some_iff.mp H
       have HT := mk_ ht
       have H3 := mk_ H
       clear ht H
       have b5 : decide ((3 : Int) < (L.length : Int)) = false := decide_eq_false (by omega)
       have b6 : decide (3 < L.length) = false := decide_eq_false g5
       clear g5
       refine wp_region_still_tail 29 (by kernel_rfl) (by kernel_rfl) ?_
       simp only [List.take_succ_cons, List.take_zero, List.drop_succ_cons, List.drop_zero]
       change wpStill _ _ W.drew _ _ _
       still_step
       still_step
       still_call ((impl_PortsOk.num_same N _).mono fun e w' h => ⟨h.1, h.2.symm⟩)
       repeat still_step
       refine wpStill_nil ?_
       change wpList _ _ _ _ _ W.drew
       have HbD := mk_ (bw_ HbW.out)
       have HBD := mk_ (nw_ HBW.out)
       generalize W.drew = w3 at HbD HBD ⊢
       clear k0 k1 HbW HBW iw
       have hq1 : q + 1 ≤ l0.length := hlt
       cases t with
       | true =>
        go_wp2_with (go_at_call 44; (with_reducible refine (impl_PortsOk.contains N gb _ _ L true _ ?side1 ?side2 ?side3 HT.out).mono ?_); (case side1 => exact Kd.C_below HX3.out HBD.out); (case side2 => exact HX2.out); (case side3 => exact (blk_cell HbD.out 0).trans rfl); rintro e w4 ⟨rfl, hb⟩; have HB4 := mk_ (below_step HBD.out hb); clear hb)
        go_ret
        obtain rfl : false = r := Option.some.inj H3.out
        exact ⟨rfl, HB4.out⟩
       | false =>
        have H4 : Aside0 (impl_PortsOk.at_ l0 (l0.length - (q + 1)) (q + 1) = some r) := ⟨by
          have hd := HD.out
          rw [impl_PortsOk.prev hd]
          exact H3.out⟩
        go_wp2_with (go_at_call 44; (with_reducible refine (impl_PortsOk.contains N gb _ _ L false _ ?side1 ?side2 ?side3 HT.out).mono ?_); (case side1 => exact Kd.C_below HX3.out HBD.out); (case side2 => exact HX2.out); (case side3 => exact (blk_cell HbD.out 0).trans rfl); rintro e w4 ⟨rfl, hb⟩; have HB4 := mk_ (below_step HBD.out hb); clear hb)
        go_roundw
        case rel => exact ⟨q + 1, hq1, by go_num, H4, ⟨HB4.out⟩⟩
        case measure => simp [intOf]; omega
     ·have b0 : decide (0 < q) = false := decide_eq_false g4
      have b1 : decide ((0 : Int) < (q : Int)) = false := decide_eq_false (by omega)
      clear g2 g4
      by_cases g5 : 3 < L.length
      ·have H := HH.out
       rw [if_pos g5] at H
       obtain rfl := Option.some.inj H
       clear H
       have b5 : decide ((3 : Int) < (L.length : Int)) = true := decide_eq_true (by omega)
       have b6 : decide (3 < L.length) = true := decide_eq_true g5
       clear g5
       go_quiet ((go_at_call 43; exact Calls.quiet_of_same ((impl_PortsOk.num_same N _).mono fun e w' h => ⟨h.1, h.2.symm⟩)))
       go_wp2
       go_ret
       exact ⟨rfl, nn_ HBW.out _⟩
      ·have H := HH.out
       rw [if_neg g5] at H
       obtain ⟨t, ht, H⟩ := Option.bind_eq_some_iff.mp H
       have HT := mk_ ht
       have H3 := mk_ H
       clear ht H
       have b5 : decide ((3 : Int) < (L.length : Int)) = false := decide_eq_false (by omega)
       have b6 : decide (3 < L.length) = false := decide_eq_false g5
       clear g5
       refine wp_region_still_tail 29 (by kernel_rfl) (by kernel_rfl) ?_
       simp only [List.take_succ_cons, List.take_zero, List.drop_succ_cons, List.drop_zero]
       change wpStill _ _ W.drew _ _ _
       still_step
       still_step
       still_call ((impl_PortsOk.num_same N _).mono fun e w' h => ⟨h.1, h.2.symm⟩)
       iterate 5 still_step
       (try simp only [b0])
       have B0 := mk_ b0
       clear b0
       iterate 9 (rw [impl_PortsOk.skip (by go_simp)]; simp only [Act.put, la_, lz_, ls_])
       repeat still_step
       refine wpStill_nil ?_
       change wpList _ _ _ _ _ W.drew
       have HbD := mk_ (bw_ HbW.out)
       have HBD := mk_ (nw_ HBW.out)
       generalize W.drew = w3 at HbD HBD ⊢
       clear k0 k1 HbW HBW iw
       have hq1 : q + 1 ≤ l0.length := hlt
       cases t with
       | true =>
        go_wp2_with (go_at_call 44; (with_reducible refine (impl_PortsOk.contains N gb _ _ L true _ ?side1 ?side2 ?side3 HT.out).mono ?_); (case side1 => exact Kd.C_below HX3.out HBD.out); (case side2 => exact HX2.out); (case side3 => exact (blk_cell HbD.out 0).trans rfl); rintro e w4 ⟨rfl, hb⟩; have HB4 := mk_ (below_step HBD.out hb); clear hb)
        go_ret
        obtain rfl : false = r := Option.some.inj H3.out
        exact ⟨rfl, HB4.out⟩
       | false =>
        have H4 : Aside0 (impl_PortsOk.at_ l0 (l0.length - (q + 1)) (q + 1) = some r) := ⟨by
          have hd := HD.out
          rw [impl_PortsOk.prev hd]
          exact H3.out⟩
        go_wp2_with (go_at_call 44; (with_reducible refine (impl_PortsOk.contains N gb _ _ L false _ ?side1 ?side2 ?side3 HT.out).mono ?_); (case side1 => exact Kd.C_below HX3.out HBD.out); (case side2 => exact HX2.out); (case side3 => exact (blk_cell HbD.out 0).trans rfl); rintro e w4 ⟨rfl, hb⟩; have HB4 := mk_ (below_step HBD.out hb); clear hb)
        go_roundw
        case rel => exact ⟨q + 1, hq1, by go_num, H4, ⟨HB4.out⟩⟩
        case measure => simp [intOf]; omega
  ·obtain rfl : q = l0.length := by omega
   have H := H2.out
   rw [Nat.sub_self, impl_PortsOk.at_] at H
   obtain rfl := Option.some.inj H
   clear H2 H
   go_wp2
   go_ret
   exact ⟨by first | rfl | (simp; done) | (simp; omega), HB.out⟩

/-! ### spec_l9At: function 51 -/
def spec_l9At.l0 : Nat → List (S47) → Int → Int → Option (Int)
 | 0, _, _, _ => none
 | k + 1, x0, x1, x5 => if x5 < (x0.length : Int) then (if 0 ≤ x5 then (if ((rd_T47 x0 x5).f0) = x1 then (some x5) else (spec_l9At.l0 k x0 x1 (wrap64 (x5 + 1)))) else (none)) else (some (-1))
def spec_l9At.f (k : Nat) (l0 : List (S47)) (a1 : Int) : Option (Int) := spec_l9At.l0 k l0 a1 0
theorem spec_l9At.mono_l : ∀ k, (∀ y0 y1 y2, LeO (spec_l9At.l0 k y0 y1 y2) (spec_l9At.l0 (k + 1) y0 y1 y2))
 | 0 => fun _ _ _ r h => by simp [spec_l9At.l0] at h
 | k + 1 => by
  have ih0 := spec_l9At.mono_l k
  ·intro y0 y1 y2
   unfold spec_l9At.l0
   repeat' first
   | (with_reducible exact ih0 _ _ _)
   | (with_reducible exact LeO.refl _)
   | (with_reducible exact LeO.none _)
   | (with_reducible refine LeO.ite ?_ ?_)
   | (with_reducible refine LeO.bind ?_ (fun _ => ?_))
   | exact ih0 _ _ _
   | exact LeO.none _
   | refine LeO.ite ?_ ?_
   | refine LeO.bind ?_ (fun _ => ?_)
theorem spec_l9At.mono : ∀ a0 a1 k, LeO (spec_l9At.f k a0 a1) (spec_l9At.f (k + 1) a0 a1) := by
 intro a0 a1 k
 have ih0 := spec_l9At.mono_l k
 unfold spec_l9At.f
 repeat' first
   | (with_reducible exact ih0 _ _ _)
   | (with_reducible exact LeO.refl _)
   | (with_reducible exact LeO.none _)
   | (with_reducible refine LeO.ite ?_ ?_)
   | (with_reducible refine LeO.bind ?_ (fun _ => ?_))
   | exact ih0 _ _ _
   | exact LeO.none _
   | refine LeO.ite ?_ ?_
   | refine LeO.bind ?_ (fun _ => ?_)
set_option maxHeartbeats 8000000 in
set_option maxRecDepth 100000 in
theorem spec_l9At.calls (k : Nat) (A0 : Option Addr) (c0 : Nat) (l0 : List (S47)) (a1 : Int) (r : Int) (w : World) (hr0 : Kd.C k47 w A0 l0.length l0) (hc0 : l0.length ≤ c0) (h : spec_l9At.f k l0 a1 = some r) :
  Calls Try.prog 51 #[.slice A0 l0.length c0, .int .i64 a1] w fun e w' => e = .returned (.int .i64 r) ∧ Drawn0 w w' := by
 have HR0 := mk_ hr0
 have HC0 := mk_ hc0
 clear hr0 hc0
 have H : (spec_l9At.l0 k l0 a1 0) = some r := h
 clear h
 have H' := mk_ H
 clear H
 go_enter Try.func51, Try.ntmps51
 go_wp2
 go_loopg [5] k (fun kq v5 w' => ∃ (x5_1 : Int), v5 = .int .i64 x5_1 ∧ Aside0 (spec_l9At.l0 kq l0 a1 x5_1 = some r) ∧ Aside0 (kq ≤ k) ∧ Drawn0 w w')
 case atStart => exact ⟨(0), (by first | rfl | (simp; done) | (simp [*]; done)), H', ⟨Nat.le_refl _⟩, by repeat (first | exact Drawn0.refl _ | apply Drawn0.step)⟩
 case round =>
  clear H'
  try clear p2
  obtain ⟨x5_1, rfl, HA, HK1, ⟨m1, rfl⟩⟩ := hrel
  cases gk with
  | zero => exact absurd HA.out (by simp [spec_l9At.l0])
  | succ k1 =>
   have H := HA.out
   clear HA
   simp only [spec_l9At.l0] at H
   by_cases c3 : x5_1 < (l0.length : Int)
   rotate_left
   ·rw [if_neg c3] at H
    have c3b0 : decide (x5_1 < (l0.length : Int)) = false := decide_eq_false c3
    clear c3
    obtain rfl := Option.some.inj H
    go_wp2
    go_ret
    exact ⟨by first | rfl | (simp; done) | (simp [*]; done), by repeat (first | exact Drawn0.refl _ | apply Drawn0.step)⟩
   rw [if_pos c3] at H
   have c3b0 : decide (x5_1 < (l0.length : Int)) = true := decide_eq_true c3
   clear c3
   by_cases c4 : 0 ≤ x5_1
   rotate_left
   ·rw [if_neg c4] at H
    exact absurd H (by simp)
   rw [if_pos c4] at H
   have c4b0 : decide (0 ≤ x5_1) = true := decide_eq_true c4
   clear c4
   by_cases c5 : ((rd_T47 l0 x5_1).f0) = a1
   ·rw [if_pos c5] at H
    have c5b0 : (((rd_T47 l0 x5_1).f0) == a1) = true := beq_iff_eq.mpr c5
    have c5b1 : (((rd_T47 l0 x5_1).f0) != a1) = false := bne_eq_false_iff_eq.mpr c5
    clear c5
    obtain rfl := Option.some.inj H
    have p124 : 0 ≤ (x5_1 : Int) := of_decide_eq_true (by first | (with_reducible assumption) | assumption)
    have q124 : x5_1 < (l0.length : Int) := of_decide_eq_true (by first | (with_reducible assumption) | assumption)
    obtain ⟨ad124, A124_1, c124_1, e124, hx124_0, hx124_1, hl124_1, hi124_1⟩ := at_T47 HR0.out x5_1 p124 q124
    cases e124
    have HR124_1 := mk_ hi124_1
    have HC124_1 := mk_ hl124_1
    clear hi124_1 hl124_1
    replace p124 := eq_true p124
    replace q124 := eq_true q124
    go_wp2
    go_ret
    exact ⟨by first | rfl | (simp; done) | (simp [*]; done), by repeat (first | exact Drawn0.refl _ | apply Drawn0.step)⟩
   rw [if_neg c5] at H
   have c5b0 : (((rd_T47 l0 x5_1).f0) == a1) = false := beq_eq_false_iff_ne.mpr c5
   have c5b1 : (((rd_T47 l0 x5_1).f0) != a1) = true := bne_iff_ne.mpr c5
   have H' := mk_ H
   clear H
   have p124 : 0 ≤ (x5_1 : Int) := of_decide_eq_true (by first | (with_reducible assumption) | assumption)
   have q124 : x5_1 < (l0.length : Int) := of_decide_eq_true (by first | (with_reducible assumption) | assumption)
   obtain ⟨ad124, A124_1, c124_1, e124, hx124_0, hx124_1, hl124_1, hi124_1⟩ := at_T47 HR0.out x5_1 p124 q124
   cases e124
   have HR124_1 := mk_ hi124_1
   have HC124_1 := mk_ hl124_1
   clear hi124_1 hl124_1
   replace p124 := eq_true p124
   replace q124 := eq_true q124
   go_wp2
   go_roundg k1
   case measure => have := HK1.out; omega
   case rel => exact ⟨(wrap64 (x5_1 + 1)), (by first | rfl | (simp; done) | (simp [*]; done)), H', ⟨by have := HK1.out; omega⟩, by repeat (first | exact Drawn0.refl _ | apply Drawn0.step)⟩

end Go.Proofs.Ytkkibccnpkbbjaa.MFnPortsOk
