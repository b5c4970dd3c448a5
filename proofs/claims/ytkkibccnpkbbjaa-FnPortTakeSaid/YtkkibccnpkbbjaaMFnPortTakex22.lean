/- Functions that the law FnPortTake reaches, typed by hand (part 3): what the program's and the reference's ports' functions do, and the walk of the law; no conditions but those that each theorem states. -/
import Derived.Test.YtkkibccnpkbbjaaMFnPortTakex21
import Derived.StillTailTactics
import Derived.IntWalk
import Derived.Deep.RegionHeld3
import Derived.Shelf.Spec.SlicesInsertGrow
import Derived.Deep.QuietTactic
import Derived.BigQuiet
import Derived.Deep.RegionLaw
namespace Go.Proofs.Ytkkibccnpkbbjaa.MFnPortsOk
open Go.RowKit Go.Proofs.YtkkibccnpkbbjaaV.PrintWords Go.Proofs.YtkkibccnpkbbjaaV.PrintLast Go.Proofs.YtkkibccnpkbbjaaV.PrintMore
attribute [local go_sem] max2_int min2_int max_two min_two max_three min_three max_four min_four
set_option linter.unusedVariables false
set_option linter.unusedSimpArgs false
/-! ### drawn ports and a number -/
/-- A code is opened, and its reader answers. -/
def codeOk (l : List Int) (s : List Int) : Prop := spec_l20Open.f l = some (s, 0) ∧ rdOk s
theorem w1_ {A : Option Addr} {n c : Nat} {a : Int} (h0 : 0 ≤ a) (h1 : a < 7) : Ending.returned (.tuple #[.slice A n c, .int .i64 (wrap64 (1 + a))]) = .returned (.tuple #[.slice A n c, .int .i64 (1 + a)]) := by
  rw [show wrap64 (1 + a) = 1 + a by unfold wrap64; omega]
set_option maxHeartbeats 4000000 in
theorem drawPortTake_any (A0 : Option Addr) (c0 : Nat) (l s : List Int) (w : World) (hr0 : Kd.C (Kd.int .u8) w A0 l.length l) (hc0 : l.length ≤ c0) (hs : codeOk l s) (hL : listenAll) (hH : hearAll) :
    Calls Try.prog 29 #[.slice A0 l.length c0] w fun e w' => ∃ (A : Option Addr) (c : Nat) (L : List S47) (a : Int), e = .returned (.tuple #[.slice A L.length c, .int .i64 a]) ∧ few47b L ∧ (1 ≤ a ∧ a < 8) ∧ Kd.R k47 47 w' w.heap.size (fun _ => True) (.slice A L.length c) L ∧ Below w.heap.size w w' := by
  have HR := mk_ hr0
  have HC0 := mk_ hc0
  obtain ⟨hs1, hs2⟩ := hs
  have HS1 := mk_ hs1
  have HS2 := mk_ hs2
  have HLS := mk_ hL
  have HHR := mk_ hH
  clear hr0 hc0 hs1 hs2 hL hH
  go_enter Try.func29, Try.ntmps29
  go_wp2_with (first | (go_at_call 49; (with_reducible refine (spec_l20Open.calls A0 c0 l s 0 w _ ?s1 ?s2 ?s3 HS1.out).mono ?_); (case s1 => exact Below.refl _ _); (case s2 => exact HR.out); (case s3 => exact HC0.out); rintro e w1 ⟨g, rfl, hi, hb0, hb⟩; have HI := mk_ hi; have HB1 := mk_ hb; have HG1 := mk_ (is_lt hi); clear hi hb0 hb) | (go_at_call 48; (with_reducible refine (l20Ports_any g s 0 15 w _ ?s1 ?s2 (by omega) (by omega) (by omega) HS2.out HLS.out HHR.out).mono ?_); (case s1 => exact HI.out); (case s2 => exact HB1.out); rintro e w2 ⟨A, c, L, p', rfl, hf, ho, hi, hp, hp', hb, hk⟩; have HF := mk_ hf; have HO := mk_ ho; have HB2 := mk_ hb; have HI2 := mk_ hi; obtain ⟨k1, a0, e1, e2, e3⟩ := HS2.out.1 p' 7 (by omega) (by omega) (by omega); have E1 := mk_ e1; have E2 := mk_ (show 0 ≤ a0 ∧ a0 < 7 from ⟨e2, e3⟩); clear hf ho hi hp hp' hb hk e1 e2 e3) | (go_at_call 58; (with_reducible refine (spec_l20Rd_pick.calls k1 g s p' 7 a0 (p' + 1) w _ ?s1 ?s2 E1.out).mono ?_); (case s1 => exact HI2.out); (case s2 => exact HB2.out); rintro e w3 ⟨rfl, hi, hb, hk⟩; have HO3 := mk_ (R_kb HO.out HG1.out hk); have HB3 := mk_ hb; clear hi hb hk))
  go_ret2
  exact ⟨A, c, L, 1 + a0, w1_ E2.out.1 E2.out.2, HF.out, (by have := E2.out; omega), Kd.R_lower HO3.out HB1.out.size, HB3.out⟩
/-! ### the walk of FnPortTake -/
theorem ok47_c (A : Option Addr) (n c : Nat) (l : List S47) (r : Bool) (w : World) (hn : n = l.length) (hr : Kd.C k47 w A l.length l) (hc : l.length ≤ c) (h : impl_PortsOk.f l = some r) :
    Calls Try.prog 14 #[.slice A n c] w fun e w' => e = .returned (.bool r) ∧ Below w.heap.size w w' := by
  subst hn
  exact impl_PortsOk.calls A c l r w hr hc h
theorem same47_c (k : Nat) (A0 : Option Addr) (n0 c0 : Nat) (l : List S47) (A1 : Option Addr) (n1 c1 : Nat) (w : World) (h0 : n0 = l.length) (h1 : n1 = l.length) (hr0 : Kd.C k47 w A0 l.length l) (hc0 : l.length ≤ c0) (hr1 : Kd.C k47 w A1 l.length l) (hc1 : l.length ≤ c1) (h : laws_samePorts.f k l l = some true) :
    Calls Try.prog 23 #[.slice A0 n0 c0, .slice A1 n1 c1] w fun e w' => e = .returned (.bool true) ∧ Below w.heap.size w w' := by
  subst h0
  subst h1
  exact laws_samePorts.calls k A0 c0 l A1 c1 l true w hr0 hc0 hr1 hc1 h
theorem sameM_refl (x : S40) : laws_sameMail.f x.f0 x.f1 x.f2 x.f3 x.f0 x.f1 x.f2 x.f3 = some true := by
  simp [laws_sameMail.f, laws_sameBytes.f]
theorem same40_c (m0 m1 m2 : Int) (m3 : List Int) (A0 : Option Addr) (n0 c0 : Nat) (A1 : Option Addr) (n1 c1 : Nat) (w : World) (h0 : n0 = m3.length) (h1 : n1 = m3.length) (hr0 : Kd.C (Kd.int .u8) w A0 m3.length m3) (hc0 : m3.length ≤ c0) (hr1 : Kd.C (Kd.int .u8) w A1 m3.length m3) (hc1 : m3.length ≤ c1) :
    Calls Try.prog 30 #[.agg #[.int .i64 m0, .int .i64 m1, .int .i64 m2, .slice A0 n0 c0], .agg #[.int .i64 m0, .int .i64 m1, .int .i64 m2, .slice A1 n1 c1]] w fun e w' => e = .returned (.bool true) ∧ Below w.heap.size w w' := by
  subst h0
  subst h1
  exact laws_sameMail.calls m0 m1 m2 A0 c0 m3 m0 m1 m2 A1 c1 m3 true w hr0 hc0 hr1 hc1 (sameM_refl ⟨m0, m1, m2, m3⟩)
theorem up_m8 {n j : Nat} (h : j < n) (hw : wrap64 ((j : Int) + 1) = ((j + 1 : Nat) : Int)) : n - (intOf (.int .i64 (wrap64 ((j : Int) + 1)))).toNat < n - (intOf (.int .i64 (j : Int))).toNat := by
  rw [hw]
  simp only [intOf]
  omega
theorem take_t (A0 : Option Addr) (c0 : Nat) (l0 : List S47) (a1 : Int) (o : List S47) (x : S40) (b : Bool) (w : World) (hr0 : Kd.C k47 w A0 l0.length l0) (hc0 : l0.length ≤ c0) (hok : impl_PortsOk.f l0 = some true) (hs : small47 l0 ∧ up47 l0) (ht : takeP true l0 a1 = (o, x, b)) :
    Calls Try.prog 25 #[.slice A0 l0.length c0, .int .i64 a1] w fun e w' => ∃ (A1 : Option Addr) (c1 : Nat) (A4 : Option Addr) (c4 : Nat), e = .returned (.tuple #[.slice A1 o.length c1, .agg #[.int .i64 x.f0, .int .i64 x.f1, .int .i64 x.f2, .slice A4 x.f3.length c4], .bool b]) ∧ (Kd.C k47 w' A1 o.length o ∧ o.length ≤ c1) ∧ (Kd.C (Kd.int .u8) w' A4 x.f3.length x.f3 ∧ x.f3.length ≤ c4) ∧ Below w.heap.size w w' := by
  obtain ⟨m0, m1, m2, m3⟩ := x
  refine (take_at A0 l0.length c0 l0 a1 true o m0 m1 m2 m3 b w rfl hr0 hc0 hok (fun _ => hs) ht).mono ?_
  rintro e w' ⟨A1, c1, A4, c4, C, rfl, h0, h4, hb⟩
  exact ⟨A1, c1, A4, c4, rfl, ⟨k47S_C (Kd.S_reads' h0).2.2, (Kd.S_reads' h0).2.1⟩, ⟨(Kd.R_reads' h4).2.2, (Kd.R_reads' h4).2.1⟩, hb⟩
theorem take_t4 (A0 : Option Addr) (c0 : Nat) (l0 : List S47) (a1 : Int) (o : List S47) (m0 m1 m2 : Int) (m3 : List Int) (b : Bool) (w : World) (hr0 : Kd.C k47 w A0 l0.length l0) (hc0 : l0.length ≤ c0) (hok : impl_PortsOk.f l0 = some true) (hs : small47 l0 ∧ up47 l0) (ht : takeP true l0 a1 = (o, ⟨m0, m1, m2, m3⟩, b)) :
    Calls Try.prog 25 #[.slice A0 l0.length c0, .int .i64 a1] w fun e w' => ∃ (A1 : Option Addr) (c1 : Nat) (A4 : Option Addr) (c4 : Nat), e = .returned (.tuple #[.slice A1 o.length c1, .agg #[.int .i64 m0, .int .i64 m1, .int .i64 m2, .slice A4 m3.length c4], .bool b]) ∧ (Kd.C k47 w' A1 o.length o ∧ o.length ≤ c1) ∧ (Kd.C (Kd.int .u8) w' A4 m3.length m3 ∧ m3.length ≤ c4) ∧ Below w.heap.size w w' :=
  take_t A0 c0 l0 a1 o ⟨m0, m1, m2, m3⟩ b w hr0 hc0 hok hs ht
/-- What the functions that the law calls answer at these ports and this number. -/
def law8_at (L : List S47) (a : Int) : Prop :=
  ∃ (k : Nat) (o : List S47) (m0 m1 m2 : Int) (m3 : List Int) (b r : Bool), impl_PortsOk.f L = some r ∧ (r = true → small47 L ∧ up47 L) ∧ takeP r L a = (o, ⟨m0, m1, m2, m3⟩, b) ∧ spec_PortTake.f k L a = some (o, m0, m1, m2, m3, b) ∧ laws_samePorts.f k o o = some true ∧
    (b = true → impl_PortsOk.f o = some true ∧ ∃ (i : Nat) (R : List S40) (F : Nat → List S47), i < L.length ∧ rd_T47 L (i : Int) = ⟨a, R⟩ ∧ R.length ≤ 1000 ∧ (∀ x : Nat, x < L.length → x ≠ i → (rd_T47 L (x : Int)).f0 ≠ a) ∧ F 0 = L ∧
      ∀ j, j ≤ R.length → impl_PortsOk.f (F j) = some true ∧ (small47 (F j) ∧ up47 (F j)) ∧ (j < R.length → takeP true (F j) a = (F (j + 1), rd_T40 R (j : Int), true)) ∧ (j = R.length → takeP true (F j) a = (F j, z40, false)))
/-- What the law's walk leans on. -/
def laws_FnPortTake.ok (k : Nat) (l : List Int) : Prop :=
  l.length > 1048576 ∨ ∃ s, l.length ≤ 1048576 ∧ codeOk l s ∧ listenAll ∧ hearAll ∧ laws_alive.f k = some true ∧ ∀ L a, few47b L → 0 ≤ a → a < 8 → law8_at L a
set_option maxHeartbeats 1000000 in
theorem law8_walk0 (A0 : Option Addr) (c0 : Nat) (l0 : List Int) (w : World) (h : l0.length > 1048576) :
    Calls Try.prog 8 #[.slice A0 l0.length c0] w fun e w' => e = .returned (.bool true) ∧ Below w.heap.size w w' := by
  have b1 : decide ((1048576 : Int) < (l0.length : Int)) = true := decide_eq_true (by omega)
  have b2 : decide (1048576 < l0.length) = true := decide_eq_true h
  clear h
  go_enter Try.func8, Try.ntmps8
  go_wp2
  go_ret
  exact ⟨rfl, Below.refl _ _⟩
set_option maxHeartbeats 8000000 in
set_option maxRecDepth 100000 in
theorem law8_walk (k : Nat) (A0 : Option Addr) (c0 : Nat) (l0 s : List Int) (w : World) (hr0 : Kd.C (Kd.int .u8) w A0 l0.length l0) (hc0 : l0.length ≤ c0) (h : l0.length ≤ 1048576) (hs : codeOk l0 s) (hL : listenAll) (hH : hearAll) (hal : laws_alive.f k = some true)
    (hlaw : ∀ L a, few47b L → 0 ≤ a → a < 8 → law8_at L a) :
    Calls Try.prog 8 #[.slice A0 l0.length c0] w fun e w' => e = .returned (.bool true) ∧ Below w.heap.size w w' := by
  have hu40 := Try.underlying40
  have b1 : decide ((1048576 : Int) < (l0.length : Int)) = false := decide_eq_false (by omega)
  have b2 : decide (1048576 < l0.length) = false := decide_eq_false (by omega)
  have HR := mk_ hr0
  have HC0 := mk_ hc0
  have HS := mk_ hs
  have HL := mk_ hL
  have HH := mk_ hH
  have HA := mk_ hal
  have HW := mk_ hlaw
  have Z0 := mk_ trivial
  clear hr0 hc0 h hs hL hH hal hlaw
  go_enter Try.func8, Try.ntmps8
  go_wp2_with (first | (go_at_call 29; (with_reducible refine (drawPortTake_any A0 c0 l0 s _ ?s1 HC0.out HS.out HL.out HH.out).mono ?_); (case s1 => exact HR.out); rintro e w1 ⟨A, c, L, a, rfl, hf, ha, ho, hb⟩; obtain ⟨k', o, m0, m1, m2, m3, b, r, e1, e2, e3, e4, e5, e6⟩ := HW.out L a hf (by omega) ha.2; have E1 := mk_ e1; have E2 := mk_ e2; have E3 := mk_ e3; have E4 := mk_ e4; have E5 := mk_ e5; have E6 := mk_ e6; have HF := mk_ hf.1; have HLN := mk_ (Kd.R_reads' ho).2.1; have CL1 := mk_ (Kd.R_reads' ho).2.2; have HB1 := mk_ hb; clear hf ha ho hb e1 e2 e3 e4 e5 e6) | (go_at_call 25; clear Z0; (with_reducible refine (take_at A L.length c L a r o m0 m1 m2 m3 b _ rfl ?s0 ?s1 E1.out E2.out E3.out).mono ?_); (case s0 => exact CL1.out); (case s1 => exact HLN.out); rintro e w2 ⟨Ag, cg, A4g, c4g, Cg, rfl, h0, h4, hb⟩; have CO2 := mk_ (k47S_C (Kd.S_reads' h0).2.2); have HON := mk_ (Kd.S_reads' h0).2.1; have CM2 := mk_ (Kd.R_reads' h4).2.2; have HMN := mk_ (Kd.R_reads' h4).2.1; have CL2 := mk_ (Kd.C_below CL1.out hb); have HB2 := mk_ (below_step HB1.out hb); clear h0 h4 hb; have Z1 := mk_ trivial) | ((with_reducible refine gate_dst (N := 6) rfl ?_); refine box_event ?hg (N := 6) ?hd (cs := #[.int .i64 0, .int .i64 0, .int .i64 0, .slice none 0 0]) (t := 40) ?hr ?_; (case hd => rfl); (case hg => rfl); (case hr => first | (go_simp; done) | (go_simp; rfl)); intro g6 hg_ w3 hbox_ hb_; have HX6 := mk_ hbox_; have HB3 := mk_ hb_; have HG6 := mk_ (show w2.heap.size ≤ g6 from Nat.le_of_eq hg_.symm); have ge6 := ge_ HG6.out; obtain ⟨_, _, _, _, _, _, _, _⟩ := cells4_ hbox_; clear hg_ hbox_ hb_) | (go_at_call 24; clear Z1; (with_reducible refine (spt_at k' A L.length c L a o m0 m1 m2 m3 b _ rfl ?s0 ?s1 E4.out).mono ?_); (case s0 => exact Kd.C_below CL2.out (below_box4 HB3.out HG6.out _ _ _ _)); (case s1 => exact HLN.out); rintro e w4 ⟨Aw, cw, A4w, c4w, rfl, hC, hM, hb⟩; have hb5_ : Below w2.heap.size w2 ((((w3.setCell ⟨g6, 0, none⟩ (.int .i64 m0)).setCell ⟨g6, 1, none⟩ (.int .i64 m1)).setCell ⟨g6, 2, none⟩ (.int .i64 m2)).setCell ⟨g6, 3, none⟩ (.slice A4g m3.length c4g)) := below_box4 HB3.out HG6.out _ _ _ _; have hb6_ := below_step hb5_ hb; have HX64 := mk_ (blk_below (inn47_box4 HX6.out (a := m0) (f := m1) (t := m2) (v3 := .slice A4g m3.length c4g)) hb); have CW4 := mk_ hC.1; have HWN := mk_ hC.2; have CN4 := mk_ hM.1; have HNN := mk_ hM.2; have CL4 := mk_ (Kd.C_below CL2.out hb6_); have CO4 := mk_ (Kd.C_below CO2.out hb6_); have CM4 := mk_ (Kd.C_below CM2.out hb6_); have HB4 := mk_ (below_step HB2.out hb6_); clear hC hM hb hb5_ hb6_; have Z2 := mk_ trivial) | ((with_reducible refine gate_dst (N := 9) rfl ?_); refine box_event ?hg (N := 9) ?hd (cs := #[.int .i64 0, .int .i64 0, .int .i64 0, .slice none 0 0]) (t := 40) ?hr ?_; (case hd => rfl); (case hg => rfl); (case hr => first | (go_simp; done) | (go_simp; rfl)); intro g9 hg_ w5 hbox_ hb_; have HX9 := mk_ hbox_; have HB5 := mk_ hb_; have HG9 := mk_ (show w4.heap.size ≤ g9 from Nat.le_of_eq hg_.symm); have ge9 := ge_ HG9.out; have HX65 := mk_ (blk_below HX64.out hb_); have hne69 : g6 ≠ g9 := Nat.ne_of_lt (Nat.lt_of_lt_of_le (blk_lt HX64.out) (Nat.le_of_eq hg_.symm)); have hen69 := Ne.symm hne69; obtain ⟨_, _, _, _, _, _, _, _⟩ := cells4_ hbox_; obtain ⟨_, _, _, _, _, _, _, _⟩ := cells4_ HX65.out; clear hg_ hbox_ hb_) | (go_at_call 30; clear Z2; (with_reducible refine (same40_c m0 m1 m2 m3 A4g _ c4g A4w _ c4w _ rfl rfl ?s0 ?s1 ?s2 ?s3).mono ?_); (case s0 => exact Kd.C_below CM4.out (below_box4 HB5.out HG9.out _ _ _ _)); (case s1 => exact HMN.out); (case s2 => exact Kd.C_below CN4.out (below_box4 HB5.out HG9.out _ _ _ _)); (case s3 => exact HNN.out); rintro e w6 ⟨rfl, hb⟩; have hb5_ := below_step (below_box4 HB5.out HG9.out (.int .i64 m0) (.int .i64 m1) (.int .i64 m2) (.slice A4w m3.length c4w)) hb; have CW6 := mk_ (Kd.C_below CW4.out hb5_); have CL6 := mk_ (Kd.C_below CL4.out hb5_); have CO6 := mk_ (Kd.C_below CO4.out hb5_); have HB6 := mk_ (below_step HB4.out hb5_); clear hb hb5_; have Z3 := mk_ trivial))
  refine (same47_c k' Ag _ cg o Aw _ cw _ rfl rfl ?s0 ?s1 ?s2 ?s3 E5.out).mono ?_
  case s0 => exact CO6.out
  case s1 => exact HON.out
  case s2 => exact CW6.out
  case s3 => exact HWN.out
  rintro e w7 ⟨rfl, hb⟩
  have CL7 := mk_ (Kd.C_below CL6.out hb)
  have CO7 := mk_ (Kd.C_below CO6.out hb)
  have HB7 := mk_ (below_step HB6.out hb)
  clear hb
  clear HX6 HB3 HG6 ge6 HX64 HX9 HB5 HG9 ge9 HX65 hne69 hen69 CW6 CL6 CO6 HB6 CW4 CN4 CL4 CO4 CM4 HB4 CO2 CM2 CL2 HB2 CL1 HB1
  cases b with
  | false =>
    go_wp2_with ((go_at_call 17; (with_reducible refine (laws_alive.calls k true _ HA.out).mono ?_); rintro e w8 ⟨rfl, hb⟩; have HB8 := mk_ (below_step (us_ HB7.out) hb); clear hb))
    go_ret
    exact ⟨rfl, HB8.out⟩
  | true =>
    obtain ⟨f1, i, R, F, hi, hP, hR, hne, hF0, hF⟩ := E6.out rfl
    have F1 := mk_ f1
    have HII := mk_ hi
    have HPP := mk_ hP
    have HRR := mk_ hR
    have HNE := mk_ hne
    have HFF := mk_ hF
    have HF0 := mk_ hF0
    clear f1 hi hP hR hne hF hF0 E6
    go_wp2
    go_loopw [11, 12] (fun v11 v12 wr => ∃ (q jn : Nat) (An : Option Addr) (cn : Nat), q ≤ L.length ∧ v12 = .int .i64 q ∧ v11 = .slice An (F jn).length cn ∧ Aside0 ((q ≤ i → jn = 0) ∧ (i < q → jn = R.length)) ∧ Aside0 (Kd.C k47 wr An (F jn).length (F jn) ∧ (F jn).length ≤ cn) ∧ Aside0 (Kd.C k47 wr A L.length L) ∧ Aside0 (Kd.C k47 wr Ag o.length o) ∧ Aside0 (Below w.heap.size w wr)) (fun _ v12 _ => L.length - (intOf v12).toNat)
    case atStart => exact ⟨0, 0, A, c, Nat.zero_le _, rfl, by rw [HF0.out], ⟨fun _ => rfl, fun h => by omega⟩, ⟨by rw [HF0.out]; exact CL7.out, by rw [HF0.out]; exact HLN.out⟩, CL7, CO7, HB7⟩
    case round =>
      clear CL7 CO7 HB7
      obtain ⟨q, jn, An, cn, hq, rfl, rfl, HJ, HN, CL, CO, HB⟩ := hrel
      have hl6 := HF.out
      by_cases hlt : q < L.length
      · have hw : wrap64 ((q : Int) + 1) = ((q + 1 : Nat) : Int) := by unfold wrap64; omega
        obtain ⟨ad, A1, c1, e, hx0, hx1, hx2, hx3⟩ := at_T47 CL.out (q : Int) (by omega) (by omega)
        cases e
        rw [Int.toNat_natCast] at hx0 hx1
        by_cases hqi : q = i
        · subst hqi
          have hj0 := HJ.out.1 (Nat.le_refl _)
          subst hj0
          rw [HPP.out] at hx0 hx1 hx2 hx3
          dsimp only at hx0 hx1 hx2 hx3
          have HX2 := mk_ hx2
          have HX3 := mk_ hx3
          have HRL := mk_ HRR.out
          clear hx2 hx3 hl6
          go_wp2
          go_loopw [11, 13] (fun v11 v13 wi => ∃ (j : Nat) (An : Option Addr) (cn : Nat), j ≤ R.length ∧ v13 = .int .i64 j ∧ v11 = .slice An (F j).length cn ∧ Aside0 (Kd.C k47 wi An (F j).length (F j) ∧ (F j).length ≤ cn) ∧ Aside0 (Below wr.heap.size wr wi)) (fun _ v13 _ => R.length - (intOf v13).toNat)
          case atStart => exact ⟨0, An, cn, Nat.zero_le _, rfl, rfl, HN, ⟨Below.refl _ _⟩⟩
          case round =>
            obtain ⟨j, Am, cm, hj, rfl, rfl, HM, HBI⟩ := hrel
            have hi0 := (HBI.out.cell (lc_ _ _ hx0)).trans hx0
            have hi1 := (HBI.out.cell (lc_ _ _ hx1)).trans hx1
            by_cases hlt2 : j < R.length
            · have hr1 := HRR.out
              have hw2 : wrap64 ((j : Int) + 1) = ((j + 1 : Nat) : Int) := by unfold wrap64; omega
              obtain ⟨ad3, A3, c3, e, hy0, hy1, hy2, hy3, hy4, hy5⟩ := at_T40 (Kd.C_below HX3.out HBI.out) (j : Int) (by omega) (by omega)
              cases e
              rw [Int.toNat_natCast] at hy0 hy1 hy2 hy3
              obtain ⟨g1, g2, g3, g4⟩ := HFF.out j hj
              have G1 := mk_ g1
              have G2 := mk_ g2
              have g3' := g3 hlt2
              obtain ⟨P, hPj⟩ : ∃ P, rd_T40 R (j : Int) = P := ⟨_, rfl⟩
              obtain ⟨x0, x1, x2, D⟩ := P
              rw [hPj] at hy0 hy1 hy2 hy3 hy4 hy5 g3'
              dsimp only at hy0 hy1 hy2 hy3 hy4 hy5
              have G3 := mk_ g3'
              have HY4 := mk_ hy4
              have HY5 := mk_ hy5
              clear g1 g2 g3 g3' g4 hy4 hy5 hr1 hPj
              go_wp2_with (first | (go_at_call 25; (with_reducible refine (take_t4 Am cm (F j) a (F (j + 1)) x0 x1 x2 D true _ ?s0 ?s1 G1.out G2.out G3.out).mono ?_); (case s0 => exact HM.out.1); (case s1 => exact HM.out.2); rintro e w8 ⟨A1x, c1x, A4, c4, rfl, hC, hM, hb⟩; have HC8 := mk_ hC; have HM8 := mk_ hM; have HB8 := mk_ hb; clear hC hM hb) | ((with_reducible refine gate_dst (N := 15) rfl ?_); refine box_event ?hg (N := 15) ?hd (cs := #[.int .i64 0, .int .i64 0, .int .i64 0, .slice none 0 0]) (t := 40) ?hr ?_; (case hd => rfl); (case hg => rfl); (case hr => first | (go_simp; done) | (go_simp; rfl)); intro g15 hg_ w9 hbox_ hb_; have HX15 := mk_ hbox_; have HB9 := mk_ hb_; have HG15 := mk_ (show w8.heap.size ≤ g15 from Nat.le_of_eq hg_.symm); have ge15 := ge_ HG15.out; obtain ⟨_, _, _, _, _, _, _, _⟩ := cells4_ hbox_; clear hg_ hbox_ hb_))
              have hX := inn47_box4 HX15.out (a := x0) (f := x1) (t := x2) (v3 := .slice A4 D.length c4)
              have hb4 := below_box4 HB9.out HG15.out (.int .i64 x0) (.int .i64 x1) (.int .i64 x2) (.slice A4 D.length c4)
              have hbW := below_step HB8.out hb4
              have hMW := Kd.C_below HM8.out.1 hb4
              have hCW := Kd.C_below HC8.out.1 hb4
              generalize ((((w9.setCell ⟨g15, 0, none⟩ (.int .i64 x0)).setCell ⟨g15, 1, none⟩ (.int .i64 x1)).setCell ⟨g15, 2, none⟩ (.int .i64 x2)).setCell ⟨g15, 3, none⟩ (.slice A4 D.length c4)) = W at hX hb4 hbW hMW hCW ⊢
              obtain ⟨hq0, hq1, hq2, hq3, hqf0, hqf1, hqf2, hqf3⟩ := cells4_ hX
              have hz1 := (hbW.cell (lc_ _ _ hi1)).trans hi1
              have hv0 := (hbW.cell (lc_ _ _ hy0)).trans hy0
              have hv1 := (hbW.cell (lc_ _ _ hy1)).trans hy1
              have hv2 := (hbW.cell (lc_ _ _ hy2)).trans hy2
              have hv3 := (hbW.cell (lc_ _ _ hy3)).trans hy3
              have HXW := mk_ hX
              have HBW := mk_ hbW
              have HMW := mk_ hMW
              have HCW := mk_ hCW
              have HYW := mk_ (Kd.C_below HY5.out hbW)
              clear hX hb4 hbW hMW hCW HX15 HB8 HB9 HG15 ge15 hx0 hx1 hi0 hi1 hy0 hy1 hy2 hy3
              go_region_held3 (fun w' => w'.cell? ⟨g15, 0, none⟩ = some (.int .i64 x0) ∧ w'.cell? ⟨g15, 1, none⟩ = some (.int .i64 x1) ∧ w'.cell? ⟨g15, 2, none⟩ = some (.int .i64 x2) ∧ w'.cell? ⟨g15, 3, none⟩ = some (.slice A4 D.length c4) ∧ w'.cell? ⟨(ad.add (q * 2)).block, (ad.add (q * 2)).off + 1, none⟩ = some (.slice (some ad3) R.length c1) ∧ w'.cell? (ad3.add (j * 4)) = some (.int .i64 x0) ∧ w'.cell? ⟨(ad3.add (j * 4)).block, (ad3.add (j * 4)).off + 1, none⟩ = some (.int .i64 x1) ∧ w'.cell? ⟨(ad3.add (j * 4)).block, (ad3.add (j * 4)).off + 2, none⟩ = some (.int .i64 x2) ∧ w'.cell? ⟨(ad3.add (j * 4)).block, (ad3.add (j * 4)).off + 3, none⟩ = some (.slice A3 D.length c3)) (go_keep) (first | (go_at_call 30; (with_reducible refine (same40_c x0 x1 x2 D A4 _ c4 A3 _ c3 _ rfl rfl ?s0 ?s1 ?s2 ?s3).mono ?_); (case s0 => exact Kd.C_drew HMW.out); (case s1 => exact HM8.out.2); (case s2 => exact Kd.C_drew HYW.out); (case s3 => exact HY4.out); rintro e w10 ⟨rfl, hb⟩; have hq0' := (hb.cell (lc_ W _ hq0)).trans hq0; have hq1' := (hb.cell (lc_ W _ hq1)).trans hq1; have hq2' := (hb.cell (lc_ W _ hq2)).trans hq2; have hq3' := (hb.cell (lc_ W _ hq3)).trans hq3; have hz1' := (hb.cell (lc_ W _ hz1)).trans hz1; have hv0' := (hb.cell (lc_ W _ hv0)).trans hv0; have hv1' := (hb.cell (lc_ W _ hv1)).trans hv1; have hv2' := (hb.cell (lc_ W _ hv2)).trans hv2; have hv3' := (hb.cell (lc_ W _ hv3)).trans hv3; have HC10 := mk_ (Kd.C_below (Kd.C_drew HCW.out) hb); have HB10 := mk_ (below_step (nw_ HBW.out) hb); clear hb))
              go_wp2
              go_roundw
              case rel => exact ⟨j + 1, A1x, c1x, hlt2, by rw [hw2], rfl, ⟨HC10.out, HC8.out.2⟩, ⟨below_step HBI.out HB10.out⟩⟩
              case measure => exact up_m8 hlt2 hw2
            · obtain rfl : j = R.length := by omega
              go_wp2
              go_roundw
              case rel => exact ⟨q + 1, R.length, Am, cm, hlt, by rw [hw], rfl, ⟨fun h => by omega, fun h => rfl⟩, HM, ⟨Kd.C_below CL.out HBI.out⟩, ⟨Kd.C_below CO.out HBI.out⟩, ⟨below_step HB.out HBI.out⟩⟩
              case measure => exact up_m8 hlt hw
        · have hna := HNE.out q hlt hqi
          have hd : ((rd_T47 L (q : Int)).f0 != a) = true := by simpa using hna
          have HX3 := mk_ hx3
          clear hx2 hx3 hl6
          go_wp2
          go_roundw
          case rel => exact ⟨q + 1, jn, An, cn, hlt, by rw [hw], rfl, ⟨fun h => HJ.out.1 (by omega), fun h => HJ.out.2 (by omega)⟩, HN, CL, CO, HB⟩
          case measure => exact up_m8 hlt hw
      · have hjn := HJ.out.2 (by have := HII.out; omega)
        subst hjn
        obtain ⟨g1, g2, g3, g4⟩ := HFF.out R.length (Nat.le_refl _)
        have G1 := mk_ g1
        have G2 := mk_ g2
        have G4 := mk_ (g4 rfl)
        clear g1 g2 g3 g4 hl6
        go_wp2_with (first | (go_at_call 25; (with_reducible refine (take_t An cn (F R.length) a (F R.length) z40 false _ ?s0 ?s1 G1.out G2.out G4.out).mono ?_); (case s0 => exact HN.out.1); (case s1 => exact HN.out.2); rintro e w8 ⟨A1, c1, A4, c4, rfl, hC, hM, hb⟩; have CO8 := mk_ (Kd.C_below CO.out hb); have HB8 := mk_ (below_step HB.out hb); clear hC hM hb) | ((with_reducible refine gate_dst (N := 18) rfl ?_); refine box_event ?hg (N := 18) ?hd (cs := #[.int .i64 0, .int .i64 0, .int .i64 0, .slice none 0 0]) (t := 40) ?hr ?_; (case hd => rfl); (case hg => rfl); (case hr => first | (go_simp; done) | (go_simp; rfl)); intro g18 hg_ w9 hbox_ hb_; have HB9 := mk_ hb_; have HG18 := mk_ (show w8.heap.size ≤ g18 from Nat.le_of_eq hg_.symm); have ge18 := ge_ HG18.out; obtain ⟨_, _, _, _, _, _, _, _⟩ := cells4_ hbox_; clear hg_ hbox_ hb_) | (go_at_call 14; (with_reducible refine (ok47_c Ag _ cg o true _ rfl ?s1 ?s2 F1.out).mono ?_); (case s1 => exact Kd.C_below CO8.out (below_box4 HB9.out HG18.out _ _ _ _)); (case s2 => exact HON.out); rintro e w10 ⟨rfl, hb⟩; have HB10 := mk_ (below_step HB8.out (below_step (below_box4 HB9.out HG18.out _ _ _ _) hb)); clear hb) | (go_at_call 17; (with_reducible refine (laws_alive.calls k true _ HA.out).mono ?_); rintro e w11 ⟨rfl, hb⟩; have HB11 := mk_ (below_step (us_ HB10.out) hb); clear hb))
        go_ret
        exact ⟨rfl, HB11.out⟩
theorem laws_FnPortTake.calls (k : Nat) (A0 : Option Addr) (c0 : Nat) (l0 : List Int) (r : Bool) (w : World) (hr0 : Kd.C (Kd.int .u8) w A0 l0.length l0) (hc0 : l0.length ≤ c0) (h : laws_FnPortTake.ok k l0 ∧ r = true) :
  Calls Try.prog 8 #[.slice A0 l0.length c0] w fun e w' => e = .returned (.bool r) ∧ Below w.heap.size w w' := by
  obtain ⟨h2, rfl⟩ := h
  rcases h2 with h2 | ⟨s, hl, hs, hL, hH, hal, hlaw⟩
  · exact law8_walk0 A0 c0 l0 w h2
  · exact law8_walk k A0 c0 l0 s w hr0 hc0 hl hs hL hH hal hlaw
end Go.Proofs.Ytkkibccnpkbbjaa.MFnPortsOk
