/- Functions that the law FnRouteDrop reaches, typed by hand: the walk of the law; no conditions but those that each theorem states. -/
import Derived.Test.YtkkibccnpkbbjabMFnRouteDropx14
import Derived.StillTailTactics
import Derived.IntWalk
import Derived.Deep.RegionHeld3
import Derived.Deep.RegionLaw
import Derived.Shelf.Spec.SlicesInsertGrow
import Derived.Shelf.Spec.SlicesInsert
import Derived.Deep.QuietTactic
import Derived.BigQuiet
namespace Go.Proofs.Ytkkibccnpkbbjab.MFnRouteDrop
open Go.RowKit Go.Proofs.YtkkibccnpkbbjabV.PrintWords Go.Proofs.YtkkibccnpkbbjabV.PrintLast Go.Proofs.YtkkibccnpkbbjabV.PrintMore
attribute [local go_sem] max2_int min2_int max_two min_two max_three min_three max_four min_four
set_option linter.unusedVariables false
set_option linter.unusedSimpArgs false
/-! ### the walk of FnRouteDrop -/
theorem same29_c (k : Nat) (A0 : Option Addr) (n0 c0 : Nat) (l : List S29) (A1 : Option Addr) (n1 c1 : Nat) (w : World) (h0 : n0 = l.length) (h1 : n1 = l.length) (hr0 : Kd.C k29 w A0 l.length l) (hc0 : l.length ≤ c0) (hr1 : Kd.C k29 w A1 l.length l) (hc1 : l.length ≤ c1) (h : laws_sameRoutes.f k l l = some true) :
    Calls Try.prog 41 #[.slice A0 n0 c0, .slice A1 n1 c1] w fun e w' => e = .returned (.bool true) ∧ Below w.heap.size w w' := by
  subst h0
  subst h1
  exact (laws_sameRoutes.calls k A0 c0 l A1 c1 l true w hr0 hc0 hr1 hc1 h).mono (fun e w' h => ⟨h.1, h.2.below⟩)
theorem drop29_c (k : Nat) (A : Option Addr) (n c : Nat) (l D : List S29) (N B : Int) (r b : Bool) (w : World) (hn : n = l.length) (hr0 : Kd.C k29 w A l.length l) (hc0 : l.length ≤ c) (hok : impl_RoutesOk.f k l = some r) (hs : r = true → l.length ≤ 1000) (hd : dropP r N B l = (D, b)) :
    Calls Try.prog 39 #[.slice A n c, .int .i64 N, .int .i64 B] w fun e w' => ∃ (A' : Option Addr) (c' : Nat), e = .returned (.tuple #[.slice A' D.length c', .bool b]) ∧ (Kd.C k29 w' A' D.length D ∧ D.length ≤ c') ∧ Below w.heap.size w w' := by
  subst hn
  have h := routeDrop39 k A c l N B r w hr0 hc0 hok hs
  rw [hd] at h
  exact h
/-- What the functions that the law calls answer at these routes, this address and these bits. -/
def law9_at (L : List S29) (N B : Int) : Prop :=
  ∃ (k : Nat) (D : List S29) (r b : Bool), impl_RoutesOk.f k L = some r ∧ (r = true → L.length ≤ 1000) ∧ dropP r N B L = (D, b) ∧ spec_RouteDrop.f k L N B = some (D, b) ∧ laws_sameRoutes.f k D D = some true ∧ (b = false → r = true → D = L) ∧
    (b = true → ∃ (i : Nat) (y0 y1 y2 y3 : Int), i < L.length ∧ rd_T29 L (i : Int) = ⟨y0, y1, y2, y3⟩ ∧ hit N B ⟨y0, y1, y2, y3⟩ = true ∧ (∀ x : Nat, x < i → hit N B (rd_T29 L (x : Int)) = false) ∧ impl_RoutesOk.f k D = some true ∧ impl_RouteOk.f y0 y1 y2 y3 = some true ∧ D.length ≤ 7 ∧
      (∀ x : S29, impl_Route_order.f k x.f0 x.f1 x.f2 x.f3 y0 y1 y2 y3 = some (ordI x ⟨y0, y1, y2, y3⟩)) ∧ i ≤ D.length ∧ (∀ x : Nat, x < i → ordI (rd_T29 D (x : Int)) ⟨y0, y1, y2, y3⟩ < 0) ∧ (∀ x : Nat, i ≤ x → x < D.length → 0 < ordI (rd_T29 D (x : Int)) ⟨y0, y1, y2, y3⟩) ∧
      D.take i ++ [⟨y0, y1, y2, y3⟩] ++ D.drop i = L ∧ laws_sameRoutes.f k L L = some true)
/-- What the law's walk leans on. -/
def laws_FnRouteDrop.ok (k : Nat) (l : List Int) : Prop :=
  l.length > 1048576 ∨ (l.length ≤ 1048576 ∧ laws_alive.f k = some true ∧ ∃ L N B, spec_DrawRouteDrop.f k l = some (L, N, B) ∧ law9_at L N B)
set_option maxHeartbeats 1000000 in
theorem law9_walk0 (A0 : Option Addr) (c0 : Nat) (l0 : List Int) (w : World) (h : l0.length > 1048576) :
    Calls Try.prog 9 #[.slice A0 l0.length c0] w fun e w' => e = .returned (.bool true) ∧ Below w.heap.size w w' := by
  have b1 : decide ((1048576 : Int) < (l0.length : Int)) = true := decide_eq_true (by omega)
  have b2 : decide (1048576 < l0.length) = true := decide_eq_true h
  clear h
  go_enter Try.func9, Try.ntmps9
  go_wp2
  go_ret
  exact ⟨rfl, Below.refl _ _⟩
set_option maxHeartbeats 4000000 in
set_option maxRecDepth 100000 in
theorem law9_walk1 (k k1 : Nat) (A0 : Option Addr) (c0 : Nat) (l0 : List Int) (L D : List S29) (N B : Int) (r : Bool) (w : World) (hr0 : Kd.C (Kd.int .u8) w A0 l0.length l0) (hc0 : l0.length ≤ c0) (h : l0.length ≤ 1048576) (hal : laws_alive.f k = some true) (hdr : spec_DrawRouteDrop.f k l0 = some (L, N, B))
    (h1 : impl_RoutesOk.f k1 L = some r) (h2 : r = true → L.length ≤ 1000) (h3 : dropP r N B L = (D, false)) (h4 : spec_RouteDrop.f k1 L N B = some (D, false)) (h5 : laws_sameRoutes.f k1 D D = some true) (h6 : r = true → D = L) :
    Calls Try.prog 9 #[.slice A0 l0.length c0] w fun e w' => e = .returned (.bool true) ∧ Below w.heap.size w w' := by
  have b1 : decide ((1048576 : Int) < (l0.length : Int)) = false := decide_eq_false (by omega)
  have b2 : decide (1048576 < l0.length) = false := decide_eq_false (by omega)
  have HR := mk_ hr0
  have HC0 := mk_ hc0
  have HA := mk_ hal
  have HDR := mk_ hdr
  have H1 := mk_ h1
  have H2 := mk_ h2
  have H3 := mk_ h3
  have H4 := mk_ h4
  have H5 := mk_ h5
  have H6 := mk_ h6
  clear hr0 hc0 hal hdr h1 h2 h3 h4 h5 h6 h
  cases r
  all_goals
    go_enter Try.func9, Try.ntmps9
    go_wp2_with (first
      | (go_at_call 38; (with_reducible refine (spec_DrawRouteDrop.calls k A0 c0 l0 L N B _ ?s0 HC0.out HDR.out).mono ?_); (case s0 => exact Kd.C_below HR.out (Below.refl _ _)); rintro e w1 ⟨v1, rfl, hR, hb⟩; obtain ⟨A1, c1, hv1⟩ := Kd.R_slice hR; subst hv1; have HL1 := mk_ (Kd.R_reads' hR).2; have HB1 := mk_ hb; clear hR hb)
      | (go_at_call 39; (with_reducible refine (drop29_c k1 A1 L.length c1 L D N B _ false _ rfl ?s0 HL1.out.1 H1.out (by intro hh_; first | exact H2.out trivial | exact H2.out hh_ | exact absurd hh_ (by decide)) H3.out).mono ?_); (case s0 => exact Kd.C_below HL1.out.2 (Below.refl _ _)); rintro e w2 ⟨A2, c2, rfl, hD, hb⟩; have HD2 := mk_ hD; have HL2 := mk_ (Kd.C_below HL1.out.2 hb); have HB2 := mk_ (below_step (us_ HB1.out) hb); clear hD hb)
      | (go_at_call 40; (with_reducible refine (spec_RouteDrop.calls k1 A1 c1 L N B D false _ ?s0 HL1.out.1 H4.out).mono ?_); (case s0 => exact HL2.out); rintro e w3 ⟨v3, rfl, hR, hb⟩; obtain ⟨A3, c3, hv3⟩ := Kd.R_slice hR; subst hv3; have HS3 := mk_ (Kd.R_reads' hR).2; have HD3 := mk_ (And.intro (Kd.C_below HD2.out.1 hb) HD2.out.2); have HL3 := mk_ (Kd.C_below HL2.out hb); have HB3 := mk_ (below_step (us_ HB2.out) hb); clear hR hb)
      | (go_at_call 42; (with_reducible refine (impl_RoutesOk.calls k1 A1 c1 L _ _ ?s0 HL1.out.1 H1.out).mono ?_); (case s0 => exact HL4.out); rintro e w5 ⟨rfl, hb⟩; have HD5 := mk_ (And.intro (Kd.C_below HD4.out.1 hb) HD4.out.2); have HL5 := mk_ (Kd.C_below HL4.out hb); have HB5 := mk_ (below_step (us_ HB4.out) hb); clear hb)
      | (go_at_call 13; (with_reducible refine (laws_alive.calls k true _ HA.out).mono ?_); rintro e w7 ⟨rfl, hb⟩; have HB7 := mk_ (by first | exact below_step (us_ HB6.out) hb | exact below_step (us_ HB5.out) hb : Below w.heap.size w w7); clear hb)
      | (go_at_call 41; (with_reducible refine (same29_c k1 A2 D.length c2 D A3 D.length c3 _ rfl rfl ?s0 HD3.out.2 ?s1 HS3.out.1 H5.out).mono ?_); (case s0 => exact HD3.out.1); (case s1 => exact HS3.out.2); rintro e w4 ⟨rfl, hb⟩; have HD4 := mk_ (And.intro (Kd.C_below HD3.out.1 hb) HD3.out.2); have HL4 := mk_ (Kd.C_below HL3.out hb); have HB4 := mk_ (below_step (us_ HB3.out) hb); clear hb)
      | (go_at_call 41; (with_reducible refine (same29_c k1 A2 D.length c2 D A1 L.length c1 _ rfl ?s2 ?s0 HD5.out.2 ?s1 ?s3 H5.out).mono ?_); (case s2 => rw [show D = L from by first | exact H6.out trivial | exact H6.out rfl]); (case s0 => exact HD5.out.1); (case s1 => rw [show D = L from by first | exact H6.out trivial | exact H6.out rfl]; exact HL5.out); (case s3 => rw [show D = L from by first | exact H6.out trivial | exact H6.out rfl]; exact HL1.out.1); rintro e w6 ⟨rfl, hb⟩; have HB6 := mk_ (below_step (us_ HB5.out) hb); clear hb))
    go_ret
    exact ⟨rfl, HB7.out⟩
theorem len9 {D L : List S29} {q : Nat} {y : S29} (h1 : q ≤ D.length) (h2 : D.take q ++ [y] ++ D.drop q = L) : D.length + 1 = L.length := by
  rw [← h2]
  simp only [List.length_append, List.length_take, List.length_drop, List.length_singleton]
  omega
set_option maxHeartbeats 4000000 in
set_option maxRecDepth 100000 in
theorem law9_walk2 (k k1 : Nat) (A0 : Option Addr) (c0 : Nat) (l0 : List Int) (L D : List S29) (N B : Int) (i : Nat) (y0 y1 y2 y3 : Int) (w : World) (hr0 : Kd.C (Kd.int .u8) w A0 l0.length l0) (hc0 : l0.length ≤ c0) (h : l0.length ≤ 1048576) (hal : laws_alive.f k = some true) (hdr : spec_DrawRouteDrop.f k l0 = some (L, N, B))
    (h1 : impl_RoutesOk.f k1 L = some true) (h2 : L.length ≤ 1000) (h3 : dropP true N B L = (D, true)) (h4 : spec_RouteDrop.f k1 L N B = some (D, true)) (h5 : laws_sameRoutes.f k1 D D = some true) (hi : i < L.length) (hri : rd_T29 L (i : Int) = ⟨y0, y1, y2, y3⟩) (hhi : hit N B ⟨y0, y1, y2, y3⟩ = true) (hno : ∀ x : Nat, x < i → hit N B (rd_T29 L (x : Int)) = false) (hd1 : impl_RoutesOk.f k1 D = some true) (hd2 : impl_RouteOk.f y0 y1 y2 y3 = some true) (hd3 : D.length ≤ 7)
    (hd4 : ∀ x : S29, impl_Route_order.f k1 x.f0 x.f1 x.f2 x.f3 y0 y1 y2 y3 = some (ordI x ⟨y0, y1, y2, y3⟩)) (hd5 : i ≤ D.length) (hd6 : ∀ x : Nat, x < i → ordI (rd_T29 D (x : Int)) ⟨y0, y1, y2, y3⟩ < 0) (hd7 : ∀ x : Nat, i ≤ x → x < D.length → 0 < ordI (rd_T29 D (x : Int)) ⟨y0, y1, y2, y3⟩) (hd8 : D.take i ++ [⟨y0, y1, y2, y3⟩] ++ D.drop i = L) (hd9 : laws_sameRoutes.f k1 L L = some true) :
    Calls Try.prog 9 #[.slice A0 l0.length c0] w fun e w' => e = .returned (.bool true) ∧ Below w.heap.size w w' := by
  have b1 : decide ((1048576 : Int) < (l0.length : Int)) = false := decide_eq_false (by omega)
  have b2 : decide (1048576 < l0.length) = false := decide_eq_false (by omega)
  have HR := mk_ hr0
  have HC0 := mk_ hc0
  have HA := mk_ hal
  have HDR := mk_ hdr
  have H1 := mk_ h1
  have H2 := mk_ h2
  have H3 := mk_ h3
  have H4 := mk_ h4
  have H5 := mk_ h5
  have HX := mk_ (And.intro hri (And.intro hhi hno))
  have HD := mk_ (And.intro hd1 (And.intro hd2 (And.intro hd3 (And.intro hd4 (And.intro hd5 (And.intro hd6 (And.intro hd7 (And.intro hd8 hd9))))))))
  clear hr0 hc0 hal hdr h1 h2 h3 h4 h5 h hri hhi hno hd1 hd2 hd3 hd4 hd5 hd6 hd7 hd8 hd9
  go_enter Try.func9, Try.ntmps9
  go_wp2_with (first
      | (go_at_call 38; (with_reducible refine (spec_DrawRouteDrop.calls k A0 c0 l0 L N B _ ?s0 HC0.out HDR.out).mono ?_); (case s0 => exact Kd.C_below HR.out (Below.refl _ _)); rintro e w1 ⟨v1, rfl, hR, hb⟩; obtain ⟨A1, c1, hv1⟩ := Kd.R_slice hR; subst hv1; have HL1 := mk_ (Kd.R_reads' hR).2; have HB1 := mk_ hb; clear hR hb)
      | (go_at_call 39; (with_reducible refine (drop29_c k1 A1 L.length c1 L D N B true true _ rfl ?s0 HL1.out.1 H1.out (fun _ => H2.out) H3.out).mono ?_); (case s0 => exact Kd.C_below HL1.out.2 (Below.refl _ _)); rintro e w2 ⟨A2, c2, rfl, hD, hb⟩; have HD2 := mk_ hD; have HL2 := mk_ (Kd.C_below HL1.out.2 hb); have HB2 := mk_ (below_step (us_ HB1.out) hb); clear hD hb)
      | (go_at_call 40; (with_reducible refine (spec_RouteDrop.calls k1 A1 c1 L N B D true _ ?s0 HL1.out.1 H4.out).mono ?_); (case s0 => exact HL2.out); rintro e w3 ⟨v3, rfl, hR, hb⟩; obtain ⟨A3, c3, hv3⟩ := Kd.R_slice hR; subst hv3; have HS3 := mk_ (Kd.R_reads' hR).2; have HD3 := mk_ (And.intro (Kd.C_below HD2.out.1 hb) HD2.out.2); have HL3 := mk_ (Kd.C_below HL2.out hb); have HB3 := mk_ (below_step (us_ HB2.out) hb); clear hR hb)
      | (go_at_call 41; (with_reducible refine (same29_c k1 A2 D.length c2 D A3 D.length c3 _ rfl rfl ?s0 HD3.out.2 ?s1 HS3.out.1 H5.out).mono ?_); (case s0 => exact HD3.out.1); (case s1 => exact HS3.out.2); rintro e w4 ⟨rfl, hb⟩; have HD4 := mk_ (And.intro (Kd.C_below HD3.out.1 hb) HD3.out.2); have HL4 := mk_ (Kd.C_below HL3.out hb); have HB4 := mk_ (below_step (us_ HB3.out) hb); clear hb))
  go_loopw [10] (fun v10 wr => ∃ q : Nat, q ≤ i ∧ v10 = .int .i64 q ∧ Aside0 (Kd.C k29 wr A2 D.length D ∧ D.length ≤ c2) ∧ Aside0 (Kd.C k29 wr A1 L.length L) ∧ Aside0 (Below w.heap.size w wr)) (fun v10 _ => L.length - (intOf v10).toNat)
  case atStart => exact ⟨0, Nat.zero_le _, rfl, HD4, HL4, HB4⟩
  case round =>
    clear HD4 HL4 HB4
    obtain ⟨q, hq, rfl, HDr, HLr, HBr⟩ := hrel
    obtain ⟨ad, e, hx0, hx1, hx2, hx3⟩ := at_T29 HLr.out (q : Int) (by omega) (by omega)
    cases e
    rw [Int.toNat_natCast] at hx0 hx1 hx2 hx3
    by_cases hlt : q < i
    · have hn := HX.out.2.2 q hlt
      have hwn := next29 q (by have := H2.out; omega)
      obtain ⟨P, hP⟩ : ∃ P, rd_T29 L (q : Int) = P := ⟨_, rfl⟩
      rw [hP] at hx0 hx1 hx2 hx3 hn
      obtain ⟨x0, x1, x2, x3⟩ := P
      dsimp only at hx0 hx1 hx2 hx3
      have hq2 := mk_ (show q + 1 ≤ i by omega)
      have hq3 := mk_ (show q < L.length by omega)
      clear hP hx2 hx3
      have HW := mk_ hwn
      clear hwn
      by_cases hx : x0 = N
      · subst hx
        have hb : ¬ (x1 = B) := fun h => by subst h; simp [hit] at hn
        clear hn
        go_wp2
        go_roundw
        case rel => exact ⟨q + 1, hq2.out, by rw [HW.out], HDr, HLr, HBr⟩
        case measure => exact up_m29 hq3.out HW.out
      · clear hn
        go_wp2
        go_roundw
        case rel => exact ⟨q + 1, hq2.out, by rw [HW.out], HDr, HLr, HBr⟩
        case measure => exact up_m29 hq3.out HW.out
    · obtain rfl : q = i := by omega
      rw [HX.out.1] at hx0 hx1 hx2 hx3
      dsimp only at hx0 hx1 hx2 hx3
      have hyy := HX.out.2.1
      obtain ⟨rfl, rfl⟩ : y0 = N ∧ y1 = B := by simpa [hit] using hyy
      clear hyy
      go_wp2_with (first
        | (go_at_call 43; (with_reducible refine (routePut43 k1 q A2 c2 D y0 y1 y2 y3 _ ?s0 HDr.out.2 HD.out.1 HD.out.2.1 HD.out.2.2.1 HD.out.2.2.2.1 HD.out.2.2.2.2.1 HD.out.2.2.2.2.2.1 HD.out.2.2.2.2.2.2.1).mono ?_); (case s0 => exact HDr.out.1); rintro e w5 ⟨A5, c5, rfl, hC, hb⟩; have HC5 := mk_ (And.intro (show Kd.C k29 w5 A5 (D.length + 1) L from HD.out.2.2.2.2.2.2.2.1 ▸ hC.1) hC.2); have HD5 := mk_ (And.intro (Kd.C_below HDr.out.1 hb) HDr.out.2); have HL5 := mk_ (Kd.C_below HLr.out hb); have HB5 := mk_ (below_step (us_ HBr.out) hb); clear hC hb hx0 hx1 hx2 hx3)
        | (go_at_call 41; (with_reducible refine (same29_c k1 A5 (D.length + 1) c5 L (some ad) L.length c1 _ ?s2 rfl ?s0 ?s3 ?s1 HL1.out.1 HD.out.2.2.2.2.2.2.2.2).mono ?_); (case s2 => exact len9 HD.out.2.2.2.2.1 HD.out.2.2.2.2.2.2.2.1); (case s0 => have := HC5.out.1; rw [len9 HD.out.2.2.2.2.1 HD.out.2.2.2.2.2.2.2.1] at this; exact this); (case s3 => have := HC5.out.2; rw [len9 HD.out.2.2.2.2.1 HD.out.2.2.2.2.2.2.2.1] at this; exact this); (case s1 => exact HL5.out); rintro e w6 ⟨rfl, hb⟩; have HD6 := mk_ (And.intro (Kd.C_below HD5.out.1 hb) HD5.out.2); have HB6 := mk_ (below_step (us_ HB5.out) hb); clear hb)
        | (go_at_call 42; (with_reducible refine (impl_RoutesOk.calls k1 A2 c2 D true _ ?s0 HD6.out.2 HD.out.1).mono ?_); (case s0 => exact HD6.out.1); rintro e w7 ⟨rfl, hb⟩; have HB7 := mk_ (below_step (us_ HB6.out) hb); clear hb))
      go_ret
      exact ⟨rfl, HB7.out⟩
theorem laws_FnRouteDrop.calls (k : Nat) (A0 : Option Addr) (c0 : Nat) (l0 : List Int) (r : Bool) (w : World) (hr0 : Kd.C (Kd.int .u8) w A0 l0.length l0) (hc0 : l0.length ≤ c0) (h : laws_FnRouteDrop.ok k l0 ∧ r = true) :
  Calls Try.prog 9 #[.slice A0 l0.length c0] w fun e w' => e = .returned (.bool r) ∧ Below w.heap.size w w' := by
  obtain ⟨h2, rfl⟩ := h
  rcases h2 with h2 | ⟨hl, hal, L, N, B, hdr, k1, D, r, b, h1, h3, h4, h5, h6, h7, h8⟩
  · exact law9_walk0 A0 c0 l0 w h2
  · cases b with
    | false => exact law9_walk1 k k1 A0 c0 l0 L D N B r w hr0 hc0 hl hal hdr h1 h3 h4 h5 h6 (h7 rfl)
    | true =>
      have hr : r = true := by
        cases r with
        | true => rfl
        | false => simp [dropP] at h4
      subst hr
      obtain ⟨i, y0, y1, y2, y3, g1, g2, g3, g4, g5, g6, g7, g8, g9, g10, g11, g12, g13⟩ := h8 rfl
      exact law9_walk2 k k1 A0 c0 l0 L D N B i y0 y1 y2 y3 w hr0 hc0 hl hal hdr h1 (h3 rfl) h4 h5 h6 g1 g2 g3 g4 g5 g6 g7 g8 g9 g10 g11 g12 g13
end Go.Proofs.Ytkkibccnpkbbjab.MFnRouteDrop
