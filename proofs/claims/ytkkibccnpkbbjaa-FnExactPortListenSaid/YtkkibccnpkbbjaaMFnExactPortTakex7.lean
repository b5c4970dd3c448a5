/- Functions that the law FnExactPortTake reaches, each with the proof that the machine's call comes to just its answer; no conditions but those that each theorem states. Printed by a program of this session over the kit's print. -/
import Derived.Test.YtkkibccnpkbbjaaMFnExactPortTakex0
import Derived.Test.YtkkibccnpkbbjaaMFnExactPortTakex3
import Derived.Test.YtkkibccnpkbbjaaMFnExactPortTakex6
import Derived.Deep.QuietTactic
import Derived.BigQuiet
import Derived.StillTailTactics
import Derived.IntWalk
namespace Go.Proofs.Ytkkibccnpkbbjaa.MFnExactPortTake
open Go.RowKit Go.Proofs.YtkkibccnpkbbjaaV.PrintWords Go.Proofs.YtkkibccnpkbbjaaV.PrintLast Go.Proofs.YtkkibccnpkbbjaaV.PrintMore
attribute [local go_sem] max2_int min2_int max_two min_two max_three min_three max_four min_four   -- for this text's walks alone
set_option linter.unusedVariables false
set_option linter.unusedSimpArgs false

/-! ### impl_PortsOk: function 14 -/
/-- Is a message none, or one to another port? -/
def impl_PortsOk.bad (N : Int) (x : S40) : Option Bool := (impl_MailOk.f x.f0 x.f1 x.f2 x.f3).bind fun t => some (!t || x.f2 != N)
def impl_PortsOk.row (N : Int) : List S40 → Option Bool
  | [] => some false
  | x :: l => (impl_PortsOk.bad N x).bind fun t => if t = true then some true else impl_PortsOk.row N l
theorem impl_PortsOk.row_step (N : Int) (l : List S40) (q : Nat) (h : q < l.length) : impl_PortsOk.row N (l.drop q) = (impl_PortsOk.bad N (rd_T40 l (q : Int))).bind fun t => if t = true then some true else impl_PortsOk.row N (l.drop (q + 1)) := by
  rw [List.drop_eq_getElem_cons h]
  have e : rd_T40 l (q : Int) = l[q] := by simp [rd_T40, List.getD_eq_getElem?_getD, List.getElem?_eq_getElem h]
  rw [e]
  rfl
set_option maxHeartbeats 1000000 in
set_option maxRecDepth 100000 in
theorem impl_PortsOk.closure (N a f t : Int) (A1 : Option Addr) (c1 B : Nat) (l : List Int) (r : Bool) (w : World) (hr : (Kd.int .u8).C w A1 l.length l) (hc : l.length ≤ c1) (hB : w.cell? ⟨B, 0, none⟩ = some (.int .i64 N)) (h : impl_MailOk.f a f t l = some r) :
    Calls Try.prog 45 #[.agg #[.int .i64 a, .int .i64 f, .int .i64 t, .slice A1 l.length c1], .pointer (some ⟨B, 0, none⟩)] w fun e w' => e = .returned (.bool (!r || t != N)) ∧ Below w.heap.size w w' := by
  have HR := mk_ hr
  have HC := mk_ hc
  have HB0 := mk_ hB
  have HH := mk_ h
  clear hr hc hB h
  cases r
  all_goals
    go_enter Try.func45, Try.ntmps45
    go_wp2_with (first | ((with_reducible refine gate_dst (N := 2) rfl ?_); refine box_event ?hg (N := 2) ?hd (cs := #[.int .i64 a, .int .i64 f, .int .i64 t, .slice A1 l.length c1]) (t := 40) ?hr ?_; (case hd => rfl); (case hg => rfl); (case hr => first | (go_simp; done) | (go_simp; rfl)); intro gb hg w2 hbox hb; have hc0 := (blk_cell hbox 0).trans rfl; have hc1 := (blk_cell hbox 1).trans rfl; have hc2 := (blk_cell hbox 2).trans rfl; have hc3 := (blk_cell hbox 3).trans rfl; have HBX := mk_ hbox; have HBL := mk_ hb; clear hb hbox hg) | (go_at_call 46; (with_reducible refine (impl_MailOk.calls a f t _ _ l _ _ ?side1 ?side2 HH.out).mono ?_); (case side1 => exact Kd.C_below HR.out HBL.out); (case side2 => exact HC.out); rintro e w1 ⟨rfl, hb⟩; have hbx := blk_below HBX.out hb; have k2 := (blk_cell hbx 2).trans rfl; have k3 := ((below_step HBL.out hb).cell (lc_ w _ HB0.out)).trans HB0.out; have HB1 := mk_ (below_step HBL.out hb); clear hb hbx))
    go_ret
    exact ⟨rfl, HB1.out⟩
set_option maxHeartbeats 1000000 in
set_option maxRecDepth 100000 in
theorem impl_PortsOk.index (N : Int) (B : Nat) (A0 : Option Addr) (c0 : Nat) (l0 : List S40) (r : Bool) (w : World) (hr0 : Kd.C k40 w A0 l0.length l0) (hc0 : l0.length ≤ c0) (hB : w.cell? ⟨B, 0, none⟩ = some (.int .i64 N)) (h : impl_PortsOk.row N l0 = some r) :
    Calls Try.prog 77 #[.slice A0 l0.length c0, .func (.func 45) #[] #[.pointer (some ⟨B, 0, none⟩)]] w fun e w' => (∃ v : Int, e = .returned (.int .i64 v) ∧ decide (0 ≤ v) = r) ∧ Below w.heap.size w w' := by
  have hlen : l0.length ≤ 9223372036854775807 := hr0.2.1
  have HR := mk_ hr0
  have HH := mk_ h
  have HBB := mk_ hB
  clear hr0 hc0 h hB
  go_enter Try.func77, Try.ntmps77
  go_wp2
  go_loopw [8] (fun i wr => ∃ q : Nat, q ≤ l0.length ∧ i = .int .i64 q ∧ Aside0 (impl_PortsOk.row N (l0.drop q) = some r) ∧ Aside0 (Below w.heap.size w wr)) (fun i _ => l0.length - (intOf i).toNat)
  case atStart => exact ⟨0, Nat.zero_le _, rfl, HH, ⟨Below.refl _ _⟩⟩
  case round =>
    obtain ⟨q, hq, rfl, H2, HB⟩ := hrel
    by_cases hlt : q < l0.length
    · have H := H2.out
      rw [impl_PortsOk.row_step N l0 q hlt] at H
      obtain ⟨t, ht, H⟩ := Option.bind_eq_some_iff.mp H
      obtain ⟨u, hu, ht⟩ := Option.bind_eq_some_iff.mp ht
      have HT := mk_ (Option.some.inj ht)
      have HU := mk_ hu
      have H3 := mk_ H
      obtain ⟨ad, A3, c3, e, hx0, hx1, hx2, hx3, hx4, hx5⟩ := at_T40 HR.out (q : Int) (by omega) (by omega)
      cases e
      replace hx0 := (HB.out.cell (lc_ w _ hx0)).trans hx0
      replace hx1 := (HB.out.cell (lc_ w _ hx1)).trans hx1
      replace hx2 := (HB.out.cell (lc_ w _ hx2)).trans hx2
      replace hx3 := (HB.out.cell (lc_ w _ hx3)).trans hx3
      have HX4 := mk_ hx4
      have HX5 := mk_ (Kd.C_below hx5 HB.out)
      have HC := mk_ ((HB.out.cell (lc_ w _ HBB.out)).trans HBB.out)
      rw [Int.toNat_natCast] at hx0 hx1 hx2 hx3
      clear ht hu H H2 hx4 hx5
      cases t with
      | true =>
        go_wp2_with (go_at_call 45; (with_reducible refine (impl_PortsOk.closure N _ _ _ _ _ B _ u _ HX5.out HX4.out HC.out HU.out).mono ?_); rw [HT.out]; rintro e w1 ⟨rfl, hb⟩; have HB1 := mk_ hb; clear hb)
        go_ret
        have e1 : true = r := Option.some.inj H3.out
        exact ⟨⟨_, rfl, by rw [← e1]; exact decide_eq_true (by omega)⟩, below_step HB.out HB1.out⟩
      | false =>
        go_wp2_with (go_at_call 45; (with_reducible refine (impl_PortsOk.closure N _ _ _ _ _ B _ u _ HX5.out HX4.out HC.out HU.out).mono ?_); rw [HT.out]; rintro e w1 ⟨rfl, hb⟩; have HB1 := mk_ hb; clear hb)
        go_roundw
        case rel => exact ⟨q + 1, by omega, by go_num, ⟨by simpa using H3.out⟩, ⟨below_step HB.out HB1.out⟩⟩
        case measure => simp [intOf]; omega
    · obtain rfl : q = l0.length := by omega
      have H := H2.out
      rw [List.drop_length] at H
      obtain rfl : false = r := Option.some.inj H
      go_wp2
      go_ret
      exact ⟨⟨_, rfl, rfl⟩, HB.out⟩
set_option maxHeartbeats 400000 in
set_option maxRecDepth 100000 in
theorem impl_PortsOk.contains (N : Int) (B : Nat) (A0 : Option Addr) (c0 : Nat) (l0 : List S40) (r : Bool) (w : World) (hr0 : Kd.C k40 w A0 l0.length l0) (hc0 : l0.length ≤ c0) (hB : w.cell? ⟨B, 0, none⟩ = some (.int .i64 N)) (h : impl_PortsOk.row N l0 = some r) :
    Calls Try.prog 44 #[.slice A0 l0.length c0, .func (.func 45) #[] #[.pointer (some ⟨B, 0, none⟩)]] w fun e w' => e = .returned (.bool r) ∧ Below w.heap.size w w' := by
  have HR := mk_ hr0
  have HC := mk_ hc0
  have HH := mk_ h
  have HBB := mk_ hB
  clear hr0 hc0 h hB
  go_enter Try.func44, Try.ntmps44
  go_wp2_with (go_at_call 77; refine (impl_PortsOk.index N B _ _ l0 _ _ HR.out HC.out HBB.out HH.out).mono ?_; rintro e w1 ⟨⟨v, rfl, hv⟩, hb⟩; have HB1 := mk_ hb; clear hb)
  go_ret
  exact ⟨by subst hv; first | rfl | (simp; done) | (simp; rfl), HB1.out⟩
theorem impl_PortsOk.skip {P : Program} {ops : Array Oper} {w : World} {Q : Act → Prop} {a : Act} {o : Oper} {rest : List Oper} (h : Region.wanted o (yielded ops a.tmps) = false) : wpStill P ops w Q (o :: rest) a = wpStill P ops w Q rest (a.put o.dst undef) := by
  rw [wpStill]
  simp [h]
theorem impl_PortsOk.prev {a b d : Nat} (h : a - b = d + 1) : a - (b + 1) = d := by omega
theorem impl_PortsOk.in_same (a b c : Int) (w : World) : Calls Try.prog 76 #[.int .i64 a, .int .i64 b, .int .i64 c] w fun e w' => e = .returned (.bool (decide (b ≤ a) && decide (a ≤ c))) ∧ w = w' := by
  by_cases h : b ≤ a
  · have h1 : decide (b ≤ a) = true := decide_eq_true h
    rw [h1]
    clear h
    go_enter Try.func76, Try.ntmps76
    go_wp2
    go_ret
    exact ⟨rfl, rfl⟩
  · have h1 : decide (b ≤ a) = false := decide_eq_false h
    rw [h1]
    clear h
    go_enter Try.func76, Try.ntmps76
    go_wp2
    go_ret
    exact ⟨rfl, rfl⟩
def impl_PortsOk.num (a : Int) : Bool := decide (1 ≤ a) && decide (a ≤ 255)
theorem impl_PortsOk.num_same (a : Int) (w : World) : Calls Try.prog 43 #[.int .i64 a] w fun e w' => e = .returned (.bool (impl_PortsOk.num a)) ∧ w = w' := by
  go_enter Try.func43, Try.ntmps43
  go_wp2_with (go_at_call 76; refine (impl_PortsOk.in_same _ _ _ _).mono ?_; rintro e w' ⟨rfl, rfl⟩)
  go_ret
  exact ⟨rfl, rfl⟩
/-- From a place on, so many ports left. -/
def impl_PortsOk.at_ (l : List S47) : Nat → Nat → Option Bool
  | 0, _ => some (decide (l.length ≤ 4))
  | d + 1, i => if impl_PortsOk.num (rd_T47 l (i : Int)).f0 = false then some false else if 0 < i ∧ (rd_T47 l ((i : Int) - 1)).f0 ≥ (rd_T47 l (i : Int)).f0 then some false else if 3 < (rd_T47 l (i : Int)).f1.length then some false else
    (impl_PortsOk.row (rd_T47 l (i : Int)).f0 (rd_T47 l (i : Int)).f1).bind fun t => if t = true then some false else impl_PortsOk.at_ l d (i + 1)
def impl_PortsOk.f (l0 : List S47) : Option Bool := impl_PortsOk.at_ l0 l0.length 0
/-- What a walk over the test knows: what a port's cells say, and that of the one ahead. -/
theorem impl_PortsOk.box (wr w2 : World) (gb : Nat) (N : Int) (A1 : Option Addr) (n c1 : Nat) (w : World) (hB : Below w.heap.size w wr) (hb : Below wr.heap.size wr w2) (hg : gb = wr.heap.size) (hbox : w2.heap[gb]? = some (.cells #[.int .i64 0, .slice none 0 0] 47 (0, 0))) :
    ((w2.setCell ⟨gb, 0, none⟩ (.int .i64 N)).setCell ⟨gb, 1, none⟩ (.slice A1 n c1)).heap[gb]? = some (.cells #[.int .i64 N, .slice A1 n c1] 47 (0, 0)) ∧ Below w.heap.size w ((w2.setCell ⟨gb, 0, none⟩ (.int .i64 N)).setCell ⟨gb, 1, none⟩ (.slice A1 n c1)) := by
  refine ⟨blk_put (cs := #[.int .i64 N, .slice none 0 0]) (blk_put (cs := #[.int .i64 0, .slice none 0 0]) hbox 0 _ rfl) 1 _ rfl, ?_⟩
  have := hB.size
  exact bs_ (bs_ (below_step hB hb) (by omega)) (by omega)
set_option maxHeartbeats 4000000 in
set_option maxRecDepth 100000 in
theorem impl_PortsOk.calls (A0 : Option Addr) (c0 : Nat) (l0 : List S47) (r : Bool) (w : World) (hr0 : Kd.C k47 w A0 l0.length l0) (hc0 : l0.length ≤ c0) (h : impl_PortsOk.f l0 = some r) :
    Calls Try.prog 14 #[.slice A0 l0.length c0] w fun e w' => e = .returned (.bool r) ∧ Below w.heap.size w w' := by
  have hlen : l0.length ≤ 9223372036854775807 := hr0.2.1
  have hmf : ∀ (fn : Fn) (first cap : Array Value) (w : World), (Instr.makeFunc fn first cap).run Try.prog w = .ok (.func fn first cap) w := fun _ _ _ _ => rfl
  have hu := Try.underlying47
  have HR := mk_ hr0
  have HH := mk_ h
  clear hr0 hc0 h
  go_enter Try.func14, Try.ntmps14
  go_wp2
  go_loopw [7] (fun i wr => ∃ q : Nat, q ≤ l0.length ∧ i = .int .i64 q ∧ Aside0 (impl_PortsOk.at_ l0 (l0.length - q) q = some r) ∧ Aside0 (Below w.heap.size w wr)) (fun i _ => l0.length - (intOf i).toNat)
  case atStart => exact ⟨0, Nat.zero_le _, rfl, HH, ⟨Below.refl _ _⟩⟩
  case round =>
    obtain ⟨q, hq, rfl, H2, HB⟩ := hrel
    by_cases hlt : q < l0.length
    · have H := H2.out
      obtain ⟨d, hd⟩ : ∃ d, l0.length - q = d + 1 := ⟨l0.length - q - 1, by omega⟩
      rw [hd, impl_PortsOk.at_] at H
      have HD := mk_ hd
      clear hd H2
      obtain ⟨ad, A1, c1, e, hx0, hx1, hx2, hx3⟩ := at_T47 HR.out (q : Int) (by omega) (by omega)
      cases e
      replace hx0 := (HB.out.cell (lc_ w _ hx0)).trans hx0
      replace hx1 := (HB.out.cell (lc_ w _ hx1)).trans hx1
      rw [Int.toNat_natCast] at hx0 hx1
      have HX2 := mk_ hx2
      have HX3 := mk_ hx3
      clear hx2 hx3
      obtain ⟨N, hN⟩ : ∃ N, (rd_T47 l0 (q : Int)).f0 = N := ⟨_, rfl⟩
      obtain ⟨L, hL⟩ : ∃ L, (rd_T47 l0 (q : Int)).f1 = L := ⟨_, rfl⟩
      rw [hN, hL] at H
      rw [hN] at hx0
      rw [hL] at hx1 HX2 HX3
      have HN := mk_ hN
      have HL := mk_ hL
      have HH := mk_ H
      clear hN hL H
      go_wp2_with (first | ((with_reducible refine gate_dst (N := 4) rfl ?_); refine box_event ?hg (N := 4) ?hd (cs := #[.int .i64 0, .slice none 0 0]) (t := 47) ?hr ?_; (case hd => rfl); (case hg => rfl); (case hr => first | (go_simp; done) | (go_simp; rfl)); intro gb hg w2 hbox hb; obtain ⟨hc0, hc1, hf0, hf1⟩ := cells2_ hbox; have HBX := mk_ hbox; have HBL := mk_ hb; have HG := mk_ hg; clear hb hbox hg))
      have hbx := impl_PortsOk.box wr w2 gb N A1 L.length c1 w HB.out HBL.out HG.out HBX.out
      clear hc0 hc1 hf0 hf1
      generalize ((w2.setCell ⟨gb, 0, none⟩ (.int .i64 N)).setCell ⟨gb, 1, none⟩ (.slice A1 L.length c1)) = W at hbx ⊢
      obtain ⟨hbW, hBW⟩ := hbx
      have k0 := (blk_cell hbW 0).trans rfl
      have k1 := (blk_cell hbW 1).trans rfl
      have HBW := mk_ hBW
      have HbW := mk_ hbW
      clear hx0 hx1 hbW hBW
      obtain ⟨j, hj⟩ : ∃ j : Int, (q : Int) - 1 = j := ⟨_, rfl⟩
      have iw : IntKind.i64.wrap ((q : Int) - 1) = j := (IntWalk.i64_in _ (by omega)).trans hj
      rw [hj] at HH
      have HJ := mk_ hj
      clear hj
      by_cases g1 : impl_PortsOk.num N = false
      · have H := HH.out
        rw [if_pos g1] at H
        obtain rfl := Option.some.inj H
        clear H
        go_quiet ((go_at_call 43; exact Calls.quiet_of_same ((impl_PortsOk.num_same N _).mono fun e w' h => ⟨h.1, h.2.symm⟩)))
        go_wp2
        go_ret
        exact ⟨rfl, nn_ HBW.out _⟩
      · replace g1 : impl_PortsOk.num N = true := by simpa using g1
        have H := HH.out
        rw [if_neg (by simp [g1])] at H
        by_cases g2 : 0 < q ∧ (rd_T47 l0 j).f0 ≥ N
        · rw [if_pos g2] at H
          obtain rfl := Option.some.inj H
          clear H
          obtain ⟨g2, g3⟩ := g2
          obtain ⟨ad', A2, c2, e, hx0, _, _, _⟩ := at_T47 HR.out j (by have := HJ.out; omega) (by have := HJ.out; omega)
          cases e
          replace hx0 := (HBW.out.cell (lc_ w _ hx0)).trans hx0
          have b0 : decide (0 < q) = true := decide_eq_true g2
          have b1 : decide ((0 : Int) < (q : Int)) = true := decide_eq_true (by omega)
          have b2 : (0 : Int) ≤ j := by have := HJ.out; omega
          have b3 : j < (l0.length : Int) := by have := HJ.out; omega
          have b4 : decide (N ≤ (rd_T47 l0 j).f0) = true := decide_eq_true g3
          clear g2 g3
          go_quiet ((go_at_call 43; exact Calls.quiet_of_same ((impl_PortsOk.num_same N _).mono fun e w' h => ⟨h.1, h.2.symm⟩)))
          go_wp2
          go_ret
          exact ⟨rfl, nn_ HBW.out _⟩
        · rw [if_neg g2] at H
          have HH := mk_ H
          clear H
          by_cases g4 : 0 < q
          · have g3 : ¬ (rd_T47 l0 j).f0 ≥ N := fun h => g2 ⟨g4, h⟩
            obtain ⟨ad', A2, c2, e, hx0, _, _, _⟩ := at_T47 HR.out j (by have := HJ.out; omega) (by have := HJ.out; omega)
            cases e
            replace hx0 := (HBW.out.cell (lc_ w _ hx0)).trans hx0
            have b0 : decide (0 < q) = true := decide_eq_true g4
            have b1 : decide ((0 : Int) < (q : Int)) = true := decide_eq_true (by omega)
            have b2 : (0 : Int) ≤ j := by have := HJ.out; omega
            have b3 : j < (l0.length : Int) := by have := HJ.out; omega
            have b4 : decide (N ≤ (rd_T47 l0 j).f0) = false := decide_eq_false g3
            clear g2 g3 g4
            by_cases g5 : 3 < L.length
            · have H := HH.out
              rw [if_pos g5] at H
              obtain rfl := Option.some.inj H
              clear H
              have b5 : decide ((3 : Int) < (L.length : Int)) = true := decide_eq_true (by omega)
              have b6 : decide (3 < L.length) = true := decide_eq_true g5
              clear g5
              go_quiet ((go_at_call 43; exact Calls.quiet_of_same ((impl_PortsOk.num_same N _).mono fun e w' h => ⟨h.1, h.2.symm⟩)))
              go_wp2
              go_ret
              exact ⟨rfl, nn_ HBW.out _⟩
            · have H := HH.out
              rw [if_neg g5] at H
              obtain ⟨t, ht, H⟩ := Option.bind_eq_some_iff.mp H
              have HT := mk_ ht
              have H3 := mk_ H
              clear ht H
              have b5 : decide ((3 : Int) < (L.length : Int)) = false := decide_eq_false (by omega)
              have b6 : decide (3 < L.length) = false := decide_eq_false g5
              clear g5
              refine wp_region_still_tail 29 (by kernel_rfl) (by kernel_rfl) ?_
              simp only [List.take_succ_cons, List.take_zero, List.drop_succ_cons, List.drop_zero]
              change wpStill _ _ W.drew _ _ _
              still_step
              still_step
              still_call ((impl_PortsOk.num_same N _).mono fun e w' h => ⟨h.1, h.2.symm⟩)
              repeat still_step
              refine wpStill_nil ?_
              change wpList _ _ _ _ _ W.drew
              have HbD := mk_ (bw_ HbW.out)
              have HBD := mk_ (nw_ HBW.out)
              generalize W.drew = w3 at HbD HBD ⊢
              clear k0 k1 HbW HBW iw
              have hq1 : q + 1 ≤ l0.length := hlt
              cases t with
              | true =>
                go_wp2_with (go_at_call 44; (with_reducible refine (impl_PortsOk.contains N gb _ _ L true _ ?side1 ?side2 ?side3 HT.out).mono ?_); (case side1 => exact Kd.C_below HX3.out HBD.out); (case side2 => exact HX2.out); (case side3 => exact (blk_cell HbD.out 0).trans rfl); rintro e w4 ⟨rfl, hb⟩; have HB4 := mk_ (below_step HBD.out hb); clear hb)
                go_ret
                obtain rfl : false = r := Option.some.inj H3.out
                exact ⟨rfl, HB4.out⟩
              | false =>
                have H4 : Aside0 (impl_PortsOk.at_ l0 (l0.length - (q + 1)) (q + 1) = some r) := ⟨by
                  have hd := HD.out
                  rw [impl_PortsOk.prev hd]
                  exact H3.out⟩
                go_wp2_with (go_at_call 44; (with_reducible refine (impl_PortsOk.contains N gb _ _ L false _ ?side1 ?side2 ?side3 HT.out).mono ?_); (case side1 => exact Kd.C_below HX3.out HBD.out); (case side2 => exact HX2.out); (case side3 => exact (blk_cell HbD.out 0).trans rfl); rintro e w4 ⟨rfl, hb⟩; have HB4 := mk_ (below_step HBD.out hb); clear hb)
                go_roundw
                case rel => exact ⟨q + 1, hq1, by go_num, H4, ⟨HB4.out⟩⟩
                case measure => simp [intOf]; omega
          · have b0 : decide (0 < q) = false := decide_eq_false g4
            have b1 : decide ((0 : Int) < (q : Int)) = false := decide_eq_false (by omega)
            clear g2 g4
            by_cases g5 : 3 < L.length
            · have H := HH.out
              rw [if_pos g5] at H
              obtain rfl := Option.some.inj H
              clear H
              have b5 : decide ((3 : Int) < (L.length : Int)) = true := decide_eq_true (by omega)
              have b6 : decide (3 < L.length) = true := decide_eq_true g5
              clear g5
              go_quiet ((go_at_call 43; exact Calls.quiet_of_same ((impl_PortsOk.num_same N _).mono fun e w' h => ⟨h.1, h.2.symm⟩)))
              go_wp2
              go_ret
              exact ⟨rfl, nn_ HBW.out _⟩
            · have H := HH.out
              rw [if_neg g5] at H
              obtain ⟨t, ht, H⟩ := Option.bind_eq_some_iff.mp H
              have HT := mk_ ht
              have H3 := mk_ H
              clear ht H
              have b5 : decide ((3 : Int) < (L.length : Int)) = false := decide_eq_false (by omega)
              have b6 : decide (3 < L.length) = false := decide_eq_false g5
              clear g5
              refine wp_region_still_tail 29 (by kernel_rfl) (by kernel_rfl) ?_
              simp only [List.take_succ_cons, List.take_zero, List.drop_succ_cons, List.drop_zero]
              change wpStill _ _ W.drew _ _ _
              still_step
              still_step
              still_call ((impl_PortsOk.num_same N _).mono fun e w' h => ⟨h.1, h.2.symm⟩)
              iterate 5 still_step
              (try simp only [b0])
              have B0 := mk_ b0
              clear b0
              iterate 9 (rw [impl_PortsOk.skip (by go_simp)]; simp only [Act.put, la_, lz_, ls_])
              repeat still_step
              refine wpStill_nil ?_
              change wpList _ _ _ _ _ W.drew
              have HbD := mk_ (bw_ HbW.out)
              have HBD := mk_ (nw_ HBW.out)
              generalize W.drew = w3 at HbD HBD ⊢
              clear k0 k1 HbW HBW iw
              have hq1 : q + 1 ≤ l0.length := hlt
              cases t with
              | true =>
                go_wp2_with (go_at_call 44; (with_reducible refine (impl_PortsOk.contains N gb _ _ L true _ ?side1 ?side2 ?side3 HT.out).mono ?_); (case side1 => exact Kd.C_below HX3.out HBD.out); (case side2 => exact HX2.out); (case side3 => exact (blk_cell HbD.out 0).trans rfl); rintro e w4 ⟨rfl, hb⟩; have HB4 := mk_ (below_step HBD.out hb); clear hb)
                go_ret
                obtain rfl : false = r := Option.some.inj H3.out
                exact ⟨rfl, HB4.out⟩
              | false =>
                have H4 : Aside0 (impl_PortsOk.at_ l0 (l0.length - (q + 1)) (q + 1) = some r) := ⟨by
                  have hd := HD.out
                  rw [impl_PortsOk.prev hd]
                  exact H3.out⟩
                go_wp2_with (go_at_call 44; (with_reducible refine (impl_PortsOk.contains N gb _ _ L false _ ?side1 ?side2 ?side3 HT.out).mono ?_); (case side1 => exact Kd.C_below HX3.out HBD.out); (case side2 => exact HX2.out); (case side3 => exact (blk_cell HbD.out 0).trans rfl); rintro e w4 ⟨rfl, hb⟩; have HB4 := mk_ (below_step HBD.out hb); clear hb)
                go_roundw
                case rel => exact ⟨q + 1, hq1, by go_num, H4, ⟨HB4.out⟩⟩
                case measure => simp [intOf]; omega
    · obtain rfl : q = l0.length := by omega
      have H := H2.out
      rw [Nat.sub_self, impl_PortsOk.at_] at H
      obtain rfl := Option.some.inj H
      clear H2 H
      go_wp2
      go_ret
      exact ⟨by first | rfl | (simp; done) | (simp; omega), HB.out⟩

/-! ### slices_Clip_byte_byte: function 93 -/
set_option maxHeartbeats 400000 in
set_option maxRecDepth 100000 in
theorem slices_Clip_byte_byte.calls (A : Option Addr) (n c : Nat) (w : World) (h : n ≤ c) (hn : n ≤ 9223372036854775807) :
    Calls Try.prog 93 #[.slice A n c] w fun e w' => e = .returned (.slice A n n) ∧ Drawn0 w w' := by
  obtain ⟨i0, hi0, _, hsz, _⟩ := info_parts info5
  have hcut : ∀ w : World, (Instr.slice 29 (.slice A n c) none (some (.int .i64 n)) (some (.int .i64 n))).run Try.prog w = .ok (.slice A n n) w := by
    intro w
    go_simp
  go_enter Try.func93, Try.ntmps93
  go_wp2
  go_ret
  exact ⟨rfl, Drawn0.refl _⟩

/-! ### impl_clone_byte: function 71 -/
def impl_clone_byte.f (l0 : List Int) : Option (List Int) := if l0.length < 140737488355328 then some l0 else none
set_option maxHeartbeats 400000 in
set_option maxRecDepth 100000 in
theorem impl_clone_byte.calls (A0 : Option Addr) (c0 : Nat) (l0 : List Int) (r : List Int) (w : World) (hr0 : Kd.C (Kd.int .u8) w A0 l0.length l0) (hc0 : l0.length ≤ c0) (h : impl_clone_byte.f l0 = some r) :
    Calls Try.prog 71 #[.slice A0 l0.length c0] w fun e w' => ∃ v0_ : Value, e = .returned (v0_) ∧ Kd.R (Kd.int .u8) 5 w' w.heap.size (fun _ => True) v0_ r ∧ Below w.heap.size w w' := by
  have hlim : l0.length < 140737488355328 := by
    unfold impl_clone_byte.f at h
    by_cases hl : l0.length < 140737488355328
    · exact hl
    · rw [if_neg hl] at h; cases h
  obtain rfl : l0 = r := by
    unfold impl_clone_byte.f at h
    rw [if_pos hlim] at h
    exact Option.some.inj h
  clear h
  have HR := Aside0.mk hr0
  have HL := Aside0.mk hlim
  have HI := Aside0.mk info5
  clear hr0 hc0 hlim
  by_cases hz : l0.length = 0
  · have hz1 : ((l0.length : Int) == 0) = true := by simpa using hz
    have HZ := Aside0.mk hz
    clear hz
    go_enter Try.func71, Try.ntmps71
    go_wp2_with fail
    go_ret
    refine ⟨_, rfl, ?_, Below.refl _ _⟩
    rw [List.eq_nil_of_length_eq_zero HZ.out]
    exact Kd.R_nil _ _ _ _ _
  · have hz1 : ((l0.length : Int) == 0) = false := by simpa using hz
    clear hz
    go_enter Try.func71, Try.ntmps71
    go_wp2_with (first | (at_builtin; refine Kd.R_append_rows (Kd.int .u8) (w0 := w) w.heap.size rfl (.const (.slice none 0 0)) (.tmp 6) 29 5 (.int .u8 0) 1 rfl Try.underlying29 HI.out rfl (by decide) (by omega) (.slice none 0 0) ([] : List Int) l0 _ _ _ (fun _ => True) (fun _ => False) rfl rfl ?aO ?aR (fun _ _ h => h) (fun _ h => h.elim) ?aF ?aB ?aS ?aL ?_; (case aO => exact Kd.R_nil _ _ _ _ _); (case aR => exact HR.out); (case aF => exact fun _ _ => trivial); (case aB => exact Below.refl _ _); (case aS => exact Nat.le_refl _); (case aL => have := HL.out; simp; omega); intro v1 w1 ho hb hg hat; rw [List.nil_append] at ho; obtain ⟨A1, c1, hv1, hl1, hc1⟩ := Kd.R_reads ho; subst hv1; have HO := Aside0.mk ho; have HB := Aside0.mk hb; have hn1 := hc1.2.1; clear ho hb hg hat hc1) | (go_at_call 93; (with_reducible refine (slices_Clip_byte_byte.calls _ _ _ _ hl1 hn1).mono ?_); rintro e w' ⟨rfl, ⟨nd, rfl⟩⟩))
    go_ret
    exact ⟨_, rfl, Kd.R_clip (by exact HO.out) rfl, by (first | exact HB.out | exact pw_below_drewN HB.out _)⟩

/-! ### impl_Mail_82: function 82 -/
set_option maxHeartbeats 400000 in
set_option maxRecDepth 100000 in
theorem impl_Mail_82.calls (A : Option Addr) (n c : Nat) (w : World) (h : n ≤ c) (hn : n ≤ 9223372036854775807) :
    Calls Try.prog 82 #[.slice A n c] w fun e w' => e = .returned (.slice A n n) ∧ Drawn0 w w' := by
  obtain ⟨i0, hi0, _, hsz, _⟩ := info_parts info40
  have hcut : ∀ w : World, (Instr.slice 45 (.slice A n c) none (some (.int .i64 n)) (some (.int .i64 n))).run Try.prog w = .ok (.slice A n n) w := by
    intro w
    go_simp
  go_enter Try.func82, Try.ntmps82
  go_wp2
  go_ret
  exact ⟨rfl, Drawn0.refl _⟩

/-! ### impl_Port: function 83 -/
set_option maxHeartbeats 400000 in
set_option maxRecDepth 100000 in
theorem impl_Port.calls (A : Option Addr) (n c : Nat) (w : World) (h : n ≤ c) (hn : n ≤ 9223372036854775807) :
    Calls Try.prog 83 #[.slice A n c] w fun e w' => e = .returned (.slice A n n) ∧ Drawn0 w w' := by
  obtain ⟨i0, hi0, _, hsz, _⟩ := info_parts info47
  have hcut : ∀ w : World, (Instr.slice 25 (.slice A n c) none (some (.int .i64 n)) (some (.int .i64 n))).run Try.prog w = .ok (.slice A n n) w := by
    intro w
    go_simp
  go_enter Try.func83, Try.ntmps83
  go_wp2
  go_ret
  exact ⟨rfl, Drawn0.refl _⟩

-- NOT PRINTED: function 53 (impl_ports)

/-! ### cmp_isNaN_int: function 99 -/
def cmp_isNaN_int.f (a0 : Int) : Option (Bool) := some (a0 != a0)
set_option maxHeartbeats 8000000 in
set_option maxRecDepth 100000 in
theorem cmp_isNaN_int.calls (a0 : Int) (r : Bool) (w : World) (h : cmp_isNaN_int.f a0 = some r) :
  Calls Try.prog 99 #[.int .i64 a0] w fun e w' => e = .returned (.bool r) ∧ Drawn0 w w' := by
 have H : (some (a0 != a0)) = some r := h
 clear h
 obtain rfl := Option.some.inj H
 go_enter Try.func99, Try.ntmps99
 go_wp2
 go_ret
 exact ⟨by first | rfl | (simp; done) | (simp [*]; done), by repeat (first | exact Drawn0.refl _ | apply Drawn0.step)⟩

/-! ### cmp_Compare_int: function 86 -/
def cmp_Compare_int.f (a0 : Int) (a1 : Int) : Option (Int) := (cmp_isNaN_int.f a0).bind fun t235 => ((cmp_isNaN_int.f a1).bind fun t236 => (if t235 = true then (if t236 = true then (some 0) else (some (-1))) else (if t236 = true then (some 1) else (if a0 < a1 then (some (-1)) else (if a0 > a1 then (some 1) else (some 0))))))
set_option maxHeartbeats 8000000 in
set_option maxRecDepth 100000 in
theorem cmp_Compare_int.calls (a0 : Int) (a1 : Int) (r : Int) (w : World) (h : cmp_Compare_int.f a0 a1 = some r) :
  Calls Try.prog 86 #[.int .i64 a0, .int .i64 a1] w fun e w' => e = .returned (.int .i64 r) ∧ Drawn0 w w' := by
 have H : ((cmp_isNaN_int.f a0).bind fun t235 => ((cmp_isNaN_int.f a1).bind fun t236 => (if t235 = true then (if t236 = true then (some 0) else (some (-1))) else (if t236 = true then (some 1) else (if a0 < a1 then (some (-1)) else (if a0 > a1 then (some 1) else (some 0))))))) = some r := h
 clear h
 replace H := Option.bind_eq_some_iff.mp H
 obtain ⟨t235, A30, H⟩ := H
 replace H : ((cmp_isNaN_int.f a1).bind fun t236 => (if t235 = true then (if t236 = true then (some 0) else (some (-1))) else (if t236 = true then (some 1) else (if a0 < a1 then (some (-1)) else (if a0 > a1 then (some 1) else (some 0)))))) = some r := H
 have A3 := mk_ A30
 clear A30
 replace H := Option.bind_eq_some_iff.mp H
 obtain ⟨t236, A40, H⟩ := H
 replace H : (if t235 = true then (if t236 = true then (some 0) else (some (-1))) else (if t236 = true then (some 1) else (if a0 < a1 then (some (-1)) else (if a0 > a1 then (some 1) else (some 0))))) = some r := H
 have A4 := mk_ A40
 clear A40
 by_cases c5 : t235 = true
 ·subst c5
  have H1 : (if t236 = true then (some 0) else (some (-1))) = some r := by rw [if_pos rfl] at H; exact H
  clear H
  have H := H1
  clear H1
  by_cases c6 : t236 = true
  ·subst c6
   have H1 : (some 0) = some r := by rw [if_pos rfl] at H; exact H
   clear H
   have H := H1
   clear H1
   obtain rfl := Option.some.inj H
   go_enter Try.func86, Try.ntmps86
   go_wp2_with (first | ((with_reducible refine gate_callee (f := 99) rfl ?_); have hA_ := A3.out; refine goesL_ (some 8) rfl rfl Try.func99 (by kernel_rfl) rfl #[.int .i64 a0] rfl (by (try simp only [lm_, lo_, ln_]); try rfl) ?_; (with_reducible refine (cmp_isNaN_int.calls a0 true _ A3.out).mono ?_); rintro e w' ⟨rfl, ⟨nd, rfl⟩⟩; refine ⟨_, rfl, ?_⟩; clear hA_ A3) | ((with_reducible refine gate_callee (f := 99) rfl ?_); have hA_ := A4.out; refine goesL_ (some 10) rfl rfl Try.func99 (by kernel_rfl) rfl #[.int .i64 a1] rfl (by (try simp only [lm_, lo_, ln_]); try rfl) ?_; (with_reducible refine (cmp_isNaN_int.calls a1 true _ A4.out).mono ?_); rintro e w' ⟨rfl, ⟨nd, rfl⟩⟩; refine ⟨_, rfl, ?_⟩; clear hA_ A4))
   go_ret
   exact ⟨by first | rfl | (simp; done) | (simp [*]; done), by repeat (first | exact Drawn0.refl _ | apply Drawn0.step)⟩
  replace c6 := Bool.eq_false_iff.mpr c6
  subst c6
  have H1 : (some (-1)) = some r := by rw [if_neg (show ¬ (false = true) by decide)] at H; exact H
  clear H
  have H := H1
  clear H1
  obtain rfl := Option.some.inj H
  go_enter Try.func86, Try.ntmps86
  go_wp2_with (first | ((with_reducible refine gate_callee (f := 99) rfl ?_); have hA_ := A3.out; refine goesL_ (some 8) rfl rfl Try.func99 (by kernel_rfl) rfl #[.int .i64 a0] rfl (by (try simp only [lm_, lo_, ln_]); try rfl) ?_; (with_reducible refine (cmp_isNaN_int.calls a0 true _ A3.out).mono ?_); rintro e w' ⟨rfl, ⟨nd, rfl⟩⟩; refine ⟨_, rfl, ?_⟩; clear hA_ A3) | ((with_reducible refine gate_callee (f := 99) rfl ?_); have hA_ := A4.out; refine goesL_ (some 10) rfl rfl Try.func99 (by kernel_rfl) rfl #[.int .i64 a1] rfl (by (try simp only [lm_, lo_, ln_]); try rfl) ?_; (with_reducible refine (cmp_isNaN_int.calls a1 false _ A4.out).mono ?_); rintro e w' ⟨rfl, ⟨nd, rfl⟩⟩; refine ⟨_, rfl, ?_⟩; clear hA_ A4))
  go_ret
  exact ⟨by first | rfl | (simp; done) | (simp [*]; done), by repeat (first | exact Drawn0.refl _ | apply Drawn0.step)⟩
 replace c5 := Bool.eq_false_iff.mpr c5
 subst c5
 have H1 : (if t236 = true then (some 1) else (if a0 < a1 then (some (-1)) else (if a0 > a1 then (some 1) else (some 0)))) = some r := by rw [if_neg (show ¬ (false = true) by decide)] at H; exact H
 clear H
 have H := H1
 clear H1
 by_cases c7 : t236 = true
 ·subst c7
  have H1 : (some 1) = some r := by rw [if_pos rfl] at H; exact H
  clear H
  have H := H1
  clear H1
  obtain rfl := Option.some.inj H
  go_enter Try.func86, Try.ntmps86
  go_wp2_with (first | ((with_reducible refine gate_callee (f := 99) rfl ?_); have hA_ := A3.out; refine goesL_ (some 8) rfl rfl Try.func99 (by kernel_rfl) rfl #[.int .i64 a0] rfl (by (try simp only [lm_, lo_, ln_]); try rfl) ?_; (with_reducible refine (cmp_isNaN_int.calls a0 false _ A3.out).mono ?_); rintro e w' ⟨rfl, ⟨nd, rfl⟩⟩; refine ⟨_, rfl, ?_⟩; clear hA_ A3) | ((with_reducible refine gate_callee (f := 99) rfl ?_); have hA_ := A4.out; refine goesL_ (some 10) rfl rfl Try.func99 (by kernel_rfl) rfl #[.int .i64 a1] rfl (by (try simp only [lm_, lo_, ln_]); try rfl) ?_; (with_reducible refine (cmp_isNaN_int.calls a1 true _ A4.out).mono ?_); rintro e w' ⟨rfl, ⟨nd, rfl⟩⟩; refine ⟨_, rfl, ?_⟩; clear hA_ A4))
  go_ret
  exact ⟨by first | rfl | (simp; done) | (simp [*]; done), by repeat (first | exact Drawn0.refl _ | apply Drawn0.step)⟩
 replace c7 := Bool.eq_false_iff.mpr c7
 subst c7
 have H1 : (if a0 < a1 then (some (-1)) else (if a0 > a1 then (some 1) else (some 0))) = some r := by rw [if_neg (show ¬ (false = true) by decide)] at H; exact H
 clear H
 have H := H1
 clear H1
 by_cases c8 : a0 < a1
 ·rw [if_pos c8] at H
  have c8b0 : decide (a0 < a1) = true := decide_eq_true c8
  clear c8
  obtain rfl := Option.some.inj H
  go_enter Try.func86, Try.ntmps86
  go_wp2_with (first | ((with_reducible refine gate_callee (f := 99) rfl ?_); have hA_ := A3.out; refine goesL_ (some 8) rfl rfl Try.func99 (by kernel_rfl) rfl #[.int .i64 a0] rfl (by (try simp only [lm_, lo_, ln_]); try rfl) ?_; (with_reducible refine (cmp_isNaN_int.calls a0 false _ A3.out).mono ?_); rintro e w' ⟨rfl, ⟨nd, rfl⟩⟩; refine ⟨_, rfl, ?_⟩; clear hA_ A3) | ((with_reducible refine gate_callee (f := 99) rfl ?_); have hA_ := A4.out; refine goesL_ (some 10) rfl rfl Try.func99 (by kernel_rfl) rfl #[.int .i64 a1] rfl (by (try simp only [lm_, lo_, ln_]); try rfl) ?_; (with_reducible refine (cmp_isNaN_int.calls a1 false _ A4.out).mono ?_); rintro e w' ⟨rfl, ⟨nd, rfl⟩⟩; refine ⟨_, rfl, ?_⟩; clear hA_ A4))
  go_ret
  exact ⟨by first | rfl | (simp; done) | (simp [*]; done), by repeat (first | exact Drawn0.refl _ | apply Drawn0.step)⟩
 rw [if_neg c8] at H
 have c8b0 : decide (a0 < a1) = false := decide_eq_false c8
 clear c8
 by_cases c9 : a0 > a1
 ·rw [if_pos c9] at H
  have c9b0 : decide (a1 < a0) = true := decide_eq_true c9
  clear c9
  obtain rfl := Option.some.inj H
  go_enter Try.func86, Try.ntmps86
  go_wp2_with (first | ((with_reducible refine gate_callee (f := 99) rfl ?_); have hA_ := A3.out; refine goesL_ (some 8) rfl rfl Try.func99 (by kernel_rfl) rfl #[.int .i64 a0] rfl (by (try simp only [lm_, lo_, ln_]); try rfl) ?_; (with_reducible refine (cmp_isNaN_int.calls a0 false _ A3.out).mono ?_); rintro e w' ⟨rfl, ⟨nd, rfl⟩⟩; refine ⟨_, rfl, ?_⟩; clear hA_ A3) | ((with_reducible refine gate_callee (f := 99) rfl ?_); have hA_ := A4.out; refine goesL_ (some 10) rfl rfl Try.func99 (by kernel_rfl) rfl #[.int .i64 a1] rfl (by (try simp only [lm_, lo_, ln_]); try rfl) ?_; (with_reducible refine (cmp_isNaN_int.calls a1 false _ A4.out).mono ?_); rintro e w' ⟨rfl, ⟨nd, rfl⟩⟩; refine ⟨_, rfl, ?_⟩; clear hA_ A4))
  go_ret
  exact ⟨by first | rfl | (simp; done) | (simp [*]; done), by repeat (first | exact Drawn0.refl _ | apply Drawn0.step)⟩
 rw [if_neg c9] at H
 have c9b0 : decide (a1 < a0) = false := decide_eq_false c9
 clear c9
 obtain rfl := Option.some.inj H
 go_enter Try.func86, Try.ntmps86
 go_wp2_with (first | ((with_reducible refine gate_callee (f := 99) rfl ?_); have hA_ := A3.out; refine goesL_ (some 8) rfl rfl Try.func99 (by kernel_rfl) rfl #[.int .i64 a0] rfl (by (try simp only [lm_, lo_, ln_]); try rfl) ?_; (with_reducible refine (cmp_isNaN_int.calls a0 false _ A3.out).mono ?_); rintro e w' ⟨rfl, ⟨nd, rfl⟩⟩; refine ⟨_, rfl, ?_⟩; clear hA_ A3) | ((with_reducible refine gate_callee (f := 99) rfl ?_); have hA_ := A4.out; refine goesL_ (some 10) rfl rfl Try.func99 (by kernel_rfl) rfl #[.int .i64 a1] rfl (by (try simp only [lm_, lo_, ln_]); try rfl) ?_; (with_reducible refine (cmp_isNaN_int.calls a1 false _ A4.out).mono ?_); rintro e w' ⟨rfl, ⟨nd, rfl⟩⟩; refine ⟨_, rfl, ?_⟩; clear hA_ A4))
 go_ret
 exact ⟨by first | rfl | (simp; done) | (simp [*]; done), by repeat (first | exact Drawn0.refl _ | apply Drawn0.step)⟩

/-! ### impl_portAt_1: function 85 -/
def impl_portAt_1.f (a0_0 : Int) (l0_1 : List (S40)) (a1 : Int) : Option (Int) := (cmp_Compare_int.f a0_0 a1).bind fun t238 => (some t238)
set_option maxHeartbeats 8000000 in
set_option maxRecDepth 100000 in
theorem impl_portAt_1.calls (a0_0 : Int) (A0_1 : Option Addr) (c0_1 : Nat) (l0_1 : List (S40)) (a1 : Int) (r : Int) (w : World) (hr0_1 : Kd.C k40 w A0_1 l0_1.length l0_1) (hc0_1 : l0_1.length ≤ c0_1) (h : impl_portAt_1.f a0_0 l0_1 a1 = some r) :
  Calls Try.prog 85 #[.agg #[.int .i64 a0_0, .slice A0_1 l0_1.length c0_1], .int .i64 a1] w fun e w' => e = .returned (.int .i64 r) ∧ Below w.heap.size w w' := by
 have hu47 := Try.underlying47
 have HR0_1 := mk_ hr0_1
 have HC0_1 := mk_ hc0_1
 clear hr0_1 hc0_1
 have HB := mk_ (Below.refl w.heap.size w)
 have H : ((cmp_Compare_int.f a0_0 a1).bind fun t238 => (some t238)) = some r := h
 clear h
 replace H := Option.bind_eq_some_iff.mp H
 obtain ⟨t238, A30, H⟩ := H
 replace H : (some t238) = some r := H
 have A3 := mk_ A30
 clear A30
 obtain rfl := Option.some.inj H
 go_enter Try.func85, Try.ntmps85
 go_wp2_with (first | ((with_reducible refine gate_dst (N := 2) rfl ?_); refine box_event ?hg (N := 2) ?hd (cs := #[.int .i64 a0_0, .slice A0_1 l0_1.length c0_1]) (t := 47) ?hr ?_; (case hd => rfl); (case hg => rfl); (case hr => first | (go_simp; done) | (go_simp; rfl)); intro gb237 hg w4 hbox hb; have n0_ := mk_ (below_step (ub_ HB.out) hb); have BK237 := mk_ (hbox); have GW237 := mk_ ((by rw [hg]; exact (below_size (ub_ HB.out)) : w.heap.size ≤ gb237)); have GE237 := ge_ ((by rw [hg]; exact (below_size (ub_ HB.out)) : w.heap.size ≤ gb237)); replace HB := n0_; clear n0_; clear hb hbox hg; obtain ⟨_, _, _, _⟩ := cells2_ BK237.out) | ((with_reducible refine gate_callee (f := 86) rfl ?_); refine goesL_ (some 8) rfl rfl Try.func86 (by kernel_rfl) rfl #[.int .i64 a0_0, .int .i64 a1] rfl (by (try simp only [lm_, lo_, ln_]); try rfl) ?_; (with_reducible refine (cmp_Compare_int.calls a0_0 a1 t238 _ A3.out).mono ?_); rintro e w' ⟨rfl, ⟨nd, rfl⟩⟩; refine ⟨_, rfl, ?_⟩))
 go_ret
 exact ⟨by first | rfl | (simp [errW_none, errW_some] <;> rfl) | (simp [*, errW_none, errW_some] <;> rfl), us_ HB.out⟩

-- NOT PRINTED: function 84 (impl_Port_int)

-- NOT PRINTED: function 54 (impl_portAt)

-- NOT PRINTED: function 25 (impl_PortTake)

/-! ### laws_markMail: function 27 -/
def laws_markMail.f (k : Nat) (a0_0 : Int) (a0_1 : Int) (a0_2 : Int) (l0_3 : List Int) (a1 : Int) : Option (Int × List Int) := (laws_markByteS.f k l0_3 a1).bind fun bt242 => (some (bt242.1, bt242.2))
theorem laws_markMail.mono : ∀ a0 a1 a2 a3 a4 k, LeO (laws_markMail.f k a0 a1 a2 a3 a4) (laws_markMail.f (k + 1) a0 a1 a2 a3 a4) := by
 intro a0 a1 a2 a3 a4 k
 unfold laws_markMail.f
 repeat' first
   | (with_reducible exact laws_markByteS.mono _ _ _)
   | (with_reducible exact LeO.refl _)
   | (with_reducible exact LeO.none _)
   | (with_reducible refine LeO.ite ?_ ?_)
   | (with_reducible refine LeO.bind ?_ (fun _ => ?_))
   | exact laws_markByteS.mono _ _ _
   | exact LeO.none _
   | refine LeO.ite ?_ ?_
   | refine LeO.bind ?_ (fun _ => ?_)
set_option maxHeartbeats 8000000 in
set_option maxRecDepth 100000 in
theorem laws_markMail.calls (k : Nat) (a0_0 : Int) (a0_1 : Int) (a0_2 : Int) (P0_3_ : Nat → Prop) (u9000_ : Value) (l0_3 : List Int) (a1 : Int) (r1 : Int) (r2 : List Int) (w0 w : World) (hB : Below w0.heap.size w0 w) (ho0_3 : Kd.R (Kd.int .u8) 5 w w0.heap.size P0_3_ u9000_ l0_3) (h : laws_markMail.f k a0_0 a0_1 a0_2 l0_3 a1 = some (r1, r2)) :
  Calls Try.prog 27 #[.agg #[.int .i64 a0_0, .int .i64 a0_1, .int .i64 a0_2, u9000_], .int .i64 a1] w fun e w' => e = .returned (.int .i64 r1) ∧ Kd.R (Kd.int .u8) 5 w' w0.heap.size (fun k_ => (P0_3_ k_ ∨ w.heap.size ≤ k_)) u9000_ r2 ∧ Below w0.heap.size w0 w' ∧ Kept w w' (fun k_ => P0_3_ k_) := by
 have hu40 := Try.underlying40
 have HO0_3 := mk_ (show Kd.R (Kd.int .u8) 5 w w0.heap.size (fun k_ => (P0_3_ k_ ∨ w.heap.size ≤ k_)) u9000_ l0_3 from Kd.R_mono ho0_3 (fun k_ hk => (.inl hk)))
 have HK := mk_ (Kept.refl w (fun k_ => P0_3_ k_))
 have HW0 := mk_ hB.size
 have HB := mk_ hB
 clear hB
 have H : ((laws_markByteS.f k l0_3 a1).bind fun bt242 => (some (bt242.1, bt242.2))) = some (r1, r2) := h
 clear h
 replace H := Option.bind_eq_some_iff.mp H
 obtain ⟨⟨t242, t243⟩, A30, H⟩ := H
 replace H : (some (t242, t243)) = some (r1, r2) := H
 have A3 := mk_ A30
 clear A30
 simp only [Option.some.injEq, Prod.mk.injEq] at H
 obtain ⟨rfl, rfl⟩ := H
 obtain ⟨Ao4, co4, eo4⟩ := Kd.R_slice HO0_3.out
 subst eo4
 go_enter Try.func27, Try.ntmps27
 go_wp2_with (first | ((with_reducible refine gate_dst (N := 2) rfl ?_); refine box_event ?hg (N := 2) ?hd (cs := #[.int .i64 a0_0, .int .i64 a0_1, .int .i64 a0_2, .slice Ao4 l0_3.length co4]) (t := 40) ?hr ?_; (case hd => rfl); (case hg => rfl); (case hr => first | (go_simp; done) | (go_simp; rfl)); intro gb241 hg w5 hbox hb; replace HO0_3 := mk_ (Kd.R_below (Kd.ur_ HO0_3.out) hb); have n1_ := mk_ (Kept.below (S := (fun k_ => P0_3_ k_)) (by repeat (first | (with_reducible first | exact HK.out | apply Kept.alloc | apply Kept.drewN | apply Kept.drew) | exact HK.out)) hb); have n2_ := mk_ (below_step (ub_ HB.out) hb); have BK241 := mk_ (hbox); have GW241 := mk_ ((by rw [hg]; exact (by first | exact HK.out.1 | exact (show Kept w _ (fun k_ => P0_3_ k_) from by repeat (first | (with_reducible first | exact HK.out | apply Kept.alloc | apply Kept.drewN | apply Kept.drew) | exact HK.out)).1) : w.heap.size ≤ gb241)); have GE241 := ge_ ((by rw [hg]; exact (below_size (ub_ HB.out)) : w0.heap.size ≤ gb241)); replace HK := n1_; replace HB := n2_; clear n1_ n2_; clear hb hbox hg; obtain ⟨hcz6_0, hcz6_1, hcz6_2, hcz6_3, hfz6_0, hfz6_1, hfz6_2, hfz6_3⟩ := cells4_ BK241.out) | ((with_reducible refine gate_callee (f := 60) rfl ?_); refine goesL_ (some 8) rfl rfl Try.func60 (by kernel_rfl) rfl #[.slice Ao4 l0_3.length co4, .int .i64 a1] rfl (by (try simp only [lm_, lo_, ln_]); try rfl) ?_; (with_reducible refine (laws_markByteS.calls k (fun k_ => some k_ = (.slice Ao4 l0_3.length co4 : Value).ownBlock) (.slice Ao4 l0_3.length co4) l0_3 a1 t242 t243 w0 _ ?side1 ?side2 A3.out).mono ?_); (case side1 => repeat (first | (with_reducible first | exact HB.out | apply na_ | apply nn_ | apply nw_ | refine bs_ ?_ GE241.out) | exact HB.out)); (case side2 => exact Kd.R_tight rfl HO0_3.out); rintro e w7 ⟨rfl, hy0, hb, hkp⟩; refine ⟨_, rfl, ?_⟩; have n0_ := mk_ (Kd.R_reok rfl hy0 (fun k_ e_ => HO0_3.out.1 k_ e_)); replace BK241 := mk_ (blk_kept (u_ BK241.out) hkp (fun hs_ => (fun e_ => (Kd.R_ne HO0_3.out BK241.out (by decide)) e_) hs_)); replace HK := mk_ (Kept.then_ (S := (fun k_ => P0_3_ k_)) (by repeat (first | (with_reducible first | exact HK.out | apply Kept.alloc | apply Kept.drewN | apply Kept.drew | refine Kept.setCell ?_ (.inr GW241.out) _) | exact HK.out)) hkp (fun k_ hs_ => (fun e_ => (HO0_3.out.1 k_ e_.symm)) hs_)); replace HB := mk_ (hb); replace HO0_3 := n0_; clear n0_; (try clear hkp)))
 go_ret
 exact ⟨by first | rfl | (simp [errW_none, errW_some] <;> rfl) | (simp [*, errW_none, errW_some] <;> rfl), by (with_reducible repeat (first | apply Kd.R_alloc | apply Kd.R_drewN | apply Kd.R_drew)); exact HO0_3.out, by repeat (first | (with_reducible first | exact HB.out | apply na_ | apply nn_ | apply nw_ | refine bs_ ?_ GE241.out) | exact HB.out), by repeat (first | (with_reducible first | exact HK.out | apply Kept.alloc | apply Kept.drewN | apply Kept.drew | refine Kept.setCell ?_ (.inr GW241.out) _) | exact HK.out)⟩

/-! ### laws_heldMail: function 28 -/
def laws_heldMail.f (k : Nat) (a0_0 : Int) (a0_1 : Int) (a0_2 : Int) (l0_3 : List Int) (a1 : Int) : Option (Int) := (laws_heldByteS.f k l0_3 a1).bind fun t245 => (if t245 < 0 then (some (-1)) else (some t245))
theorem laws_heldMail.mono : ∀ a0 a1 a2 a3 a4 k, LeO (laws_heldMail.f k a0 a1 a2 a3 a4) (laws_heldMail.f (k + 1) a0 a1 a2 a3 a4) := by
 intro a0 a1 a2 a3 a4 k
 unfold laws_heldMail.f
 repeat' first
   | (with_reducible exact laws_heldByteS.mono _ _ _)
   | (with_reducible exact LeO.refl _)
   | (with_reducible exact LeO.none _)
   | (with_reducible refine LeO.ite ?_ ?_)
   | (with_reducible refine LeO.bind ?_ (fun _ => ?_))
   | exact laws_heldByteS.mono _ _ _
   | exact LeO.none _
   | refine LeO.ite ?_ ?_
   | refine LeO.bind ?_ (fun _ => ?_)
set_option maxHeartbeats 8000000 in
set_option maxRecDepth 100000 in
theorem laws_heldMail.calls (k : Nat) (a0_0 : Int) (a0_1 : Int) (a0_2 : Int) (A0_3 : Option Addr) (c0_3 : Nat) (l0_3 : List Int) (a1 : Int) (r : Int) (w : World) (hr0_3 : Kd.C (Kd.int .u8) w A0_3 l0_3.length l0_3) (hc0_3 : l0_3.length ≤ c0_3) (h : laws_heldMail.f k a0_0 a0_1 a0_2 l0_3 a1 = some r) :
  Calls Try.prog 28 #[.agg #[.int .i64 a0_0, .int .i64 a0_1, .int .i64 a0_2, .slice A0_3 l0_3.length c0_3], .int .i64 a1] w fun e w' => e = .returned (.int .i64 r) ∧ Below w.heap.size w w' := by
 have hu40 := Try.underlying40
 have HR0_3 := mk_ hr0_3
 have HC0_3 := mk_ hc0_3
 clear hr0_3 hc0_3
 have HB := mk_ (Below.refl w.heap.size w)
 have H : ((laws_heldByteS.f k l0_3 a1).bind fun t245 => (if t245 < 0 then (some (-1)) else (some t245))) = some r := h
 clear h
 replace H := Option.bind_eq_some_iff.mp H
 obtain ⟨t245, A30, H⟩ := H
 replace H : (if t245 < 0 then (some (-1)) else (some t245)) = some r := H
 have A3 := mk_ A30
 clear A30
 by_cases c4 : t245 < 0
 ·rw [if_pos c4] at H
  have c4b0 : decide (t245 < 0) = true := decide_eq_true c4
  clear c4
  obtain rfl := Option.some.inj H
  go_enter Try.func28, Try.ntmps28
  go_wp2_with (first | ((with_reducible refine gate_dst (N := 2) rfl ?_); refine box_event ?hg (N := 2) ?hd (cs := #[.int .i64 a0_0, .int .i64 a0_1, .int .i64 a0_2, .slice A0_3 l0_3.length c0_3]) (t := 40) ?hr ?_; (case hd => rfl); (case hg => rfl); (case hr => first | (go_simp; done) | (go_simp; rfl)); intro gb244 hg w5 hbox hb; have n0_ := mk_ (below_step (ub_ HB.out) hb); have BK244 := mk_ (hbox); have GW244 := mk_ ((by rw [hg]; exact (below_size (ub_ HB.out)) : w.heap.size ≤ gb244)); have GE244 := ge_ ((by rw [hg]; exact (below_size (ub_ HB.out)) : w.heap.size ≤ gb244)); replace HB := n0_; clear n0_; clear hb hbox hg; obtain ⟨hcz6_0, hcz6_1, hcz6_2, hcz6_3, hfz6_0, hfz6_1, hfz6_2, hfz6_3⟩ := cells4_ BK244.out) | ((with_reducible refine gate_callee (f := 61) rfl ?_); refine goesL_ (some 8) rfl rfl Try.func61 (by kernel_rfl) rfl #[.slice A0_3 l0_3.length c0_3, .int .i64 a1] rfl (by (try simp only [lm_, lo_, ln_]); try rfl) ?_; (with_reducible refine (laws_heldByteS.calls k _ _ l0_3 a1 t245 _ ?side1 ?side2 A3.out).mono ?_); (case side1 => repeat (first | exact (Kd.C_below HR0_3.out HB.out) | (with_reducible refine Kd.C_alloc ?_ _) | (with_reducible refine Kd.C_drewN ?_ _) | (with_reducible refine Kd.C_drew ?_))); (case side2 => exact HC0_3.out); rintro e w' ⟨rfl, ⟨nd, rfl⟩⟩; refine ⟨_, rfl, ?_⟩))
  go_ret
  exact ⟨by first | rfl | (simp [errW_none, errW_some] <;> rfl) | (simp [*, errW_none, errW_some] <;> rfl), us_ HB.out⟩
 rw [if_neg c4] at H
 have c4b0 : decide (t245 < 0) = false := decide_eq_false c4
 clear c4
 obtain rfl := Option.some.inj H
 go_enter Try.func28, Try.ntmps28
 go_wp2_with (first | ((with_reducible refine gate_dst (N := 2) rfl ?_); refine box_event ?hg (N := 2) ?hd (cs := #[.int .i64 a0_0, .int .i64 a0_1, .int .i64 a0_2, .slice A0_3 l0_3.length c0_3]) (t := 40) ?hr ?_; (case hd => rfl); (case hg => rfl); (case hr => first | (go_simp; done) | (go_simp; rfl)); intro gb244 hg w7 hbox hb; have n0_ := mk_ (below_step (ub_ HB.out) hb); have BK244 := mk_ (hbox); have GW244 := mk_ ((by rw [hg]; exact (below_size (ub_ HB.out)) : w.heap.size ≤ gb244)); have GE244 := ge_ ((by rw [hg]; exact (below_size (ub_ HB.out)) : w.heap.size ≤ gb244)); replace HB := n0_; clear n0_; clear hb hbox hg; obtain ⟨_, _, _, _, _, _, _, _⟩ := cells4_ BK244.out) | ((with_reducible refine gate_callee (f := 61) rfl ?_); refine goesL_ (some 8) rfl rfl Try.func61 (by kernel_rfl) rfl #[.slice A0_3 l0_3.length c0_3, .int .i64 a1] rfl (by (try simp only [lm_, lo_, ln_]); try rfl) ?_; (with_reducible refine (laws_heldByteS.calls k _ _ l0_3 a1 t245 _ ?side1 ?side2 A3.out).mono ?_); (case side1 => repeat (first | exact (Kd.C_below HR0_3.out HB.out) | (with_reducible refine Kd.C_alloc ?_ _) | (with_reducible refine Kd.C_drewN ?_ _) | (with_reducible refine Kd.C_drew ?_))); (case side2 => exact HC0_3.out); rintro e w' ⟨rfl, ⟨nd, rfl⟩⟩; refine ⟨_, rfl, ?_⟩))
 go_ret
 exact ⟨by first | rfl | (simp [errW_none, errW_some] <;> rfl) | (simp [*, errW_none, errW_some] <;> rfl), us_ HB.out⟩

-- NOT PRINTED: function 7 (laws_FnExactPortTake)

end Go.Proofs.Ytkkibccnpkbbjaa.MFnExactPortTake
