/- Functions that the law FnPortListen reaches, typed by hand (part 4 of 4): what the program's and the reference's ports' functions do, and the walk of the law; no conditions but those that each theorem states. -/
import Derived.Test.YtkkibccnpkbbjaaMFnPortListenx22
import Derived.StillTailTactics
import Derived.IntWalk
import Derived.Deep.RegionHeld3
import Derived.Shelf.Spec.SlicesInsertGrow
import Derived.Deep.QuietTactic
import Derived.BigQuiet
import Derived.Deep.RegionLaw
namespace Go.Proofs.Ytkkibccnpkbbjaa.MFnPortsOk
open Go.RowKit Go.Proofs.YtkkibccnpkbbjaaV.PrintWords Go.Proofs.YtkkibccnpkbbjaaV.PrintLast Go.Proofs.YtkkibccnpkbbjaaV.PrintMore
attribute [local go_sem] max2_int min2_int max_two min_two max_three min_three max_four min_four
set_option linter.unusedVariables false
set_option linter.unusedSimpArgs false
/-! ### drawn ports and a number -/
/-- A code is opened, and its reader answers. -/
def codeOk (l : List Int) (s : List Int) : Prop := spec_l20Open.f l = some (s, 0) ∧ rdOk s
set_option maxHeartbeats 4000000 in
theorem drawPortListen_any (A0 : Option Addr) (c0 : Nat) (l s : List Int) (w : World) (hr0 : Kd.C (Kd.int .u8) w A0 l.length l) (hc0 : l.length ≤ c0) (hs : codeOk l s) (hL : listenAll) (hH : hearAll) :
    Calls Try.prog 22 #[.slice A0 l.length c0] w fun e w' => ∃ (A : Option Addr) (c : Nat) (L : List S47) (a : Int), e = .returned (.tuple #[.slice A L.length c, .int .i64 a]) ∧ few47b L ∧ (0 ≤ a ∧ a < 8) ∧ Kd.R k47 47 w' w.heap.size (fun _ => True) (.slice A L.length c) L ∧ Below w.heap.size w w' := by
  have HR := mk_ hr0
  have HC0 := mk_ hc0
  obtain ⟨hs1, hs2⟩ := hs
  have HS1 := mk_ hs1
  have HS2 := mk_ hs2
  have HLS := mk_ hL
  have HHR := mk_ hH
  clear hr0 hc0 hs1 hs2 hL hH
  go_enter Try.func22, Try.ntmps22
  go_wp2_with (first | (go_at_call 49; (with_reducible refine (spec_l20Open.calls A0 c0 l s 0 w _ ?s1 ?s2 ?s3 HS1.out).mono ?_); (case s1 => exact Below.refl _ _); (case s2 => exact HR.out); (case s3 => exact HC0.out); rintro e w1 ⟨g, rfl, hi, hb0, hb⟩; have HI := mk_ hi; have HB1 := mk_ hb; have HG1 := mk_ (is_lt hi); clear hi hb0 hb) | (go_at_call 48; (with_reducible refine (l20Ports_any g s 0 15 w _ ?s1 ?s2 (by omega) (by omega) (by omega) HS2.out HLS.out HHR.out).mono ?_); (case s1 => exact HI.out); (case s2 => exact HB1.out); rintro e w2 ⟨A, c, L, p', rfl, hf, ho, hi, hp, hp', hb, hk⟩; have HF := mk_ hf; have HO := mk_ ho; have HB2 := mk_ hb; have HI2 := mk_ hi; obtain ⟨k1, a, e1, e2, e3⟩ := HS2.out.1 p' 8 (by omega) (by omega) (by omega); have E1 := mk_ e1; have E2 := mk_ (show 0 ≤ a ∧ a < 8 from ⟨e2, e3⟩); clear hf ho hi hp hp' hb hk e1 e2 e3) | (go_at_call 58; (with_reducible refine (spec_l20Rd_pick.calls k1 g s p' 8 a (p' + 1) w _ ?s1 ?s2 E1.out).mono ?_); (case s1 => exact HI2.out); (case s2 => exact HB2.out); rintro e w3 ⟨rfl, hi, hb, hk⟩; have HO3 := mk_ (R_kb HO.out HG1.out hk); have HB3 := mk_ hb; clear hi hb hk))
  go_ret2
  exact ⟨A, c, L, a, rfl, HF.out, E2.out, Kd.R_lower HO3.out HB1.out.size, HB3.out⟩
/-! ### the walk of FnPortListen -/
theorem ok47_at6 (A : Option Addr) (n c : Nat) (l : List S47) (r : Bool) (w : World) (hn : n = l.length) (hr : Kd.C k47 w A l.length l) (hc : l.length ≤ c) (h : impl_PortsOk.f l = some r) :
    Calls Try.prog 14 #[.slice A n c] w fun e w' => e = .returned (.bool r) ∧ Below w.heap.size w w' := by
  subst hn
  exact impl_PortsOk.calls A c l r w hr hc h
theorem same47_at (k : Nat) (A0 : Option Addr) (n0 c0 : Nat) (l : List S47) (A1 : Option Addr) (n1 c1 : Nat) (w : World) (h0 : n0 = l.length) (h1 : n1 = l.length) (hr0 : Kd.C k47 w A0 l.length l) (hc0 : l.length ≤ c0) (hr1 : Kd.C k47 w A1 l.length l) (hc1 : l.length ≤ c1) (h : laws_samePorts.f k l l = some true) :
    Calls Try.prog 23 #[.slice A0 n0 c0, .slice A1 n1 c1] w fun e w' => e = .returned (.bool true) ∧ Below w.heap.size w w' := by
  subst h0
  subst h1
  exact laws_samePorts.calls k A0 c0 l A1 c1 l true w hr0 hc0 hr1 hc1 h
theorem listen_t (A0 : Option Addr) (c0 : Nat) (l0 : List S47) (a1 : Int) (o : List S47) (d : Bool) (w : World) (hr0 : Kd.C k47 w A0 l0.length l0) (hc0 : l0.length ≤ c0) (hok : impl_PortsOk.f l0 = some true) (hs : small47 l0 ∧ up47 l0 ∧ l0.length ≤ 4) (hl : listenP true l0 a1 = (o, d)) :
    Calls Try.prog 19 #[.slice A0 l0.length c0, .int .i64 a1] w fun e w' => ∃ (A1 : Option Addr) (c1 : Nat), e = .returned (.tuple #[.slice A1 o.length c1, .bool d]) ∧ Kd.S k47S 47 w' w.heap.size (fun _ => True) (.slice A1 o.length c1) o ∧ Below w.heap.size w w' :=
  impl_PortListen.calls A0 l0.length c0 l0 a1 true o d w rfl hr0 hc0 hok (fun _ => hs) hl
/-- What the functions that the law calls answer at these ports and this number. -/
def law6_at (L : List S47) (a : Int) : Prop :=
  ∃ (k : Nat) (v : Int) (o : List S47) (d r : Bool), impl_PortsOk.f L = some r ∧ spec_PortsOk.f k L = some r ∧ (r = true → small47 L ∧ up47 L ∧ L.length ≤ 4) ∧ (r = true → spec_l9At.f k L a = some v) ∧ (0 ≤ v ↔ L.findIdx (fun p => p.f0 == a) < L.length) ∧ listenP r L a = (o, d) ∧ laws_samePorts.f k o o = some true ∧ o.length ≤ 1000 ∧
    (d = false → o.length = 0 ∨ o = L) ∧ (d = true → impl_PortsOk.f o = some true ∧ (small47 o ∧ up47 o ∧ o.length ≤ 4) ∧ o.length = L.length + 1 ∧ listenP true o a = (o, false))
/-- What the law's walk leans on. -/
def laws_FnPortListen.ok (k : Nat) (l : List Int) : Prop :=
  l.length > 1048576 ∨ ∃ s, l.length ≤ 1048576 ∧ codeOk l s ∧ listenAll ∧ hearAll ∧ laws_alive.f k = some true ∧ ∀ L a, few47b L → 0 ≤ a → a < 8 → law6_at L a
set_option maxHeartbeats 1000000 in
theorem law6_walk0 (A0 : Option Addr) (c0 : Nat) (l0 : List Int) (w : World) (h : l0.length > 1048576) :
    Calls Try.prog 6 #[.slice A0 l0.length c0] w fun e w' => e = .returned (.bool true) ∧ Below w.heap.size w w' := by
  have b1 : decide ((1048576 : Int) < (l0.length : Int)) = true := decide_eq_true (by omega)
  have b2 : decide (1048576 < l0.length) = true := decide_eq_true h
  clear h
  go_enter Try.func6, Try.ntmps6
  go_wp2
  go_ret
  exact ⟨rfl, Below.refl _ _⟩
set_option maxHeartbeats 8000000 in
set_option maxRecDepth 100000 in
theorem law6_walk (k : Nat) (A0 : Option Addr) (c0 : Nat) (l0 s : List Int) (w : World) (hr0 : Kd.C (Kd.int .u8) w A0 l0.length l0) (hc0 : l0.length ≤ c0) (h : l0.length ≤ 1048576) (hs : codeOk l0 s) (hL : listenAll) (hH : hearAll) (hal : laws_alive.f k = some true)
    (hlaw : ∀ L a, few47b L → 0 ≤ a → a < 8 → law6_at L a) :
    Calls Try.prog 6 #[.slice A0 l0.length c0] w fun e w' => e = .returned (.bool true) ∧ Below w.heap.size w w' := by
  have b1 : decide ((1048576 : Int) < (l0.length : Int)) = false := decide_eq_false (by omega)
  have b2 : decide (1048576 < l0.length) = false := decide_eq_false (by omega)
  have HR := mk_ hr0
  have HC0 := mk_ hc0
  have HS := mk_ hs
  have HL := mk_ hL
  have HH := mk_ hH
  have HA := mk_ hal
  have HW := mk_ hlaw
  have Z0 := mk_ trivial
  clear hr0 hc0 h hs hL hH hal hlaw
  go_enter Try.func6, Try.ntmps6
  go_wp2_with (first | (go_at_call 22; (with_reducible refine (drawPortListen_any A0 c0 l0 s _ ?s1 HC0.out HS.out HL.out HH.out).mono ?_); (case s1 => exact HR.out); rintro e w1 ⟨A, c, L, a, rfl, hf, ha, ho, hb⟩; obtain ⟨k', v, o, d, r, e1, e2, e3, e4, e5, e6, e7, e8, e9, e10⟩ := HW.out L a hf ha.1 ha.2; have E1 := mk_ e1; have E2 := mk_ e2; have E3 := mk_ e3; have E3' := mk_ (fun h => (⟨(e3 h).1, (e3 h).2.2⟩ : small47 L ∧ L.length ≤ 4)); have E4 := mk_ e4; have E5 := mk_ e5; have E6 := mk_ e6; have E7 := mk_ e7; have E8 := mk_ e8; have E9 := mk_ e9; have E10 := mk_ e10; have HF := mk_ hf.1; have HO1 := mk_ ho; have HB1 := mk_ hb; clear hf ha ho hb e1 e2 e3 e4 e5 e6 e7 e8 e9 e10) | (go_at_call 19; clear Z0; (with_reducible refine (impl_PortListen.calls A L.length c L a r o d _ rfl ?s0 ?s1 E1.out E3.out E6.out).mono ?_); (case s0 => exact (Kd.R_reads' HO1.out).2.2); (case s1 => exact (Kd.R_reads' HO1.out).2.1); rintro e w2 ⟨Ag, cg, rfl, ho, hb⟩; have HG2 := mk_ ho; have HO2 := mk_ (Kd.R_below HO1.out hb); have HB2 := mk_ (below_step HB1.out hb); clear ho hb) | (go_at_call 18; (with_reducible refine (specListen k' A L.length c L a v r o d _ rfl ?s0 ?s1 E2.out E3'.out E4.out E5.out E6.out).mono ?_); (case s0 => exact (Kd.R_reads' HO2.out).2.2); (case s1 => exact (Kd.R_reads' HO2.out).2.1); rintro e w3 ⟨Aw, cw, rfl, ho, hb⟩; have HW3 := mk_ ho; have HG3 := mk_ (Kd.S_below HG2.out hb); have HO3 := mk_ (Kd.R_below HO2.out hb); have HB3 := mk_ (below_step HB2.out hb); have ZS := mk_ trivial; clear ho hb))
  refine (same47_at k' Ag _ cg o Aw _ cw _ rfl rfl ?s0 ?s1 ?s2 ?s3 E7.out).mono ?_
  case s0 => exact k47S_C (Kd.S_reads' HG3.out).2.2
  case s1 => exact (Kd.S_reads' HG3.out).2.1
  case s2 => exact k47S_C (Kd.S_reads' HW3.out).2.2
  case s3 => exact (Kd.S_reads' HW3.out).2.1
  rintro e w4 ⟨rfl, hb⟩
  have HG4 := mk_ (Kd.S_below HG3.out hb)
  have HO4 := mk_ (Kd.R_below HO3.out hb)
  have HB4 := mk_ (below_step HB3.out hb)
  clear hb
  cases d with
  | false =>
    by_cases h0 : o.length = 0
    · have h1 : decide ((o.length : Int) = 0) = true := decide_eq_true (by omega)
      go_wp2_with ((go_at_call 17; (with_reducible refine (laws_alive.calls k true _ HA.out).mono ?_); rintro e w5 ⟨rfl, hb⟩; have HB5 := mk_ (below_step (us_ HB4.out) hb); clear hb))
      go_ret
      exact ⟨rfl, HB5.out⟩
    · have h1 : decide ((o.length : Int) = 0) = false := decide_eq_false (by omega)
      obtain rfl : o = L := (E9.out rfl).resolve_left h0
      go_wp2_with (first | (go_at_call 23; clear ZS; (with_reducible refine (same47_at k' Ag _ cg o A _ c _ rfl rfl ?s0 ?s1 ?s2 ?s3 E7.out).mono ?_); (case s0 => exact k47S_C (Kd.S_reads' HG4.out).2.2); (case s1 => exact (Kd.S_reads' HG4.out).2.1); (case s2 => exact (Kd.R_reads' HO4.out).2.2); (case s3 => exact (Kd.R_reads' HO4.out).2.1); rintro e w5 ⟨rfl, hb⟩; have HB5 := mk_ (below_step HB4.out hb); clear hb) | (go_at_call 17; (with_reducible refine (laws_alive.calls k true _ HA.out).mono ?_); rintro e w6 ⟨rfl, hb⟩; have HB6 := mk_ (below_step (us_ HB5.out) hb); clear hb))
      go_ret
      exact ⟨rfl, HB6.out⟩
  | true =>
    obtain ⟨f1, f2, f3, f4⟩ := E10.out rfl
    have F1 := mk_ f1
    have F2 := mk_ f2
    have F4 := mk_ f4
    have hl6 := HF.out
    have h1 : wrap64 ((L.length : Int) + 1) = (o.length : Int) := by unfold wrap64; omega
    clear f1 f2 f3 f4 hl6
    go_wp2_with (first | (go_at_call 19; clear ZS; (with_reducible refine (listen_t Ag cg o a o false _ ?s0 ?s1 F1.out F2.out F4.out).mono ?_); (case s0 => exact k47S_C (Kd.S_reads' HG4.out).2.2); (case s1 => exact (Kd.S_reads' HG4.out).2.1); rintro e w5 ⟨Ah, ch, rfl, ho, hb⟩; have HH5 := mk_ ho; have HG5 := mk_ (Kd.S_below HG4.out hb); have HB5 := mk_ (below_step HB4.out hb); clear ho hb) | (go_at_call 14; (with_reducible refine (ok47_at6 Ag _ cg o true _ rfl ?s1 ?s2 F1.out).mono ?_); (case s1 => exact k47S_C (Kd.S_reads' HG5.out).2.2); (case s2 => exact (Kd.S_reads' HG5.out).2.1); rintro e w6 ⟨rfl, hb⟩; have HG6 := mk_ (Kd.S_below HG5.out hb); have HH6 := mk_ (Kd.S_below HH5.out hb); have HB6 := mk_ (below_step HB5.out hb); clear hb) | (go_at_call 23; (with_reducible refine (same47_at k' Ah _ ch o Ag _ cg _ rfl rfl ?s0 ?s1 ?s2 ?s3 E7.out).mono ?_); (case s0 => exact k47S_C (Kd.S_reads' (Kd.S_drew HH6.out)).2.2); (case s1 => exact (Kd.S_reads' HH6.out).2.1); (case s2 => exact k47S_C (Kd.S_reads' (Kd.S_drew HG6.out)).2.2); (case s3 => exact (Kd.S_reads' HG6.out).2.1); rintro e w7 ⟨rfl, hb⟩; have HB7 := mk_ (below_step (us_ HB6.out) hb); clear hb))
    go_ret
    exact ⟨rfl, HB7.out⟩
theorem laws_FnPortListen.calls (k : Nat) (A0 : Option Addr) (c0 : Nat) (l0 : List Int) (r : Bool) (w : World) (hr0 : Kd.C (Kd.int .u8) w A0 l0.length l0) (hc0 : l0.length ≤ c0) (h : laws_FnPortListen.ok k l0 ∧ r = true) :
  Calls Try.prog 6 #[.slice A0 l0.length c0] w fun e w' => e = .returned (.bool r) ∧ Below w.heap.size w w' := by
  obtain ⟨h2, rfl⟩ := h
  rcases h2 with h2 | ⟨s, hl, hs, hL, hH, hal, hlaw⟩
  · exact law6_walk0 A0 c0 l0 w h2
  · exact law6_walk k A0 c0 l0 s w hr0 hc0 hl hs hL hH hal hlaw
end Go.Proofs.Ytkkibccnpkbbjaa.MFnPortsOk
