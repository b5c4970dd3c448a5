/- Functions that the law FnPortsOk reaches, typed by hand: marks in rows that lie apart, and the walk of the law FnPortsOk; no conditions but those that each theorem states. -/
import Derived.Test.YtkkibccnpkbbjaaMFnPortsOkx11
import Derived.StillTailTactics
import Derived.IntWalk
import Derived.Deep.RegionHeld3
import Derived.Deep.RegionLaw
namespace Go.Proofs.Ytkkibccnpkbbjaa.MFnPortsOk
open Go.RowKit Go.Proofs.YtkkibccnpkbbjaaV.PrintWords Go.Proofs.YtkkibccnpkbbjaaV.PrintLast Go.Proofs.YtkkibccnpkbbjaaV.PrintMore
attribute [local go_sem] max2_int min2_int max_two min_two max_three min_three max_four min_four
set_option linter.unusedVariables false
set_option linter.unusedSimpArgs false
/-! ### spec.l20Ports -/
set_option maxHeartbeats 40000000 in
set_option maxRecDepth 100000 in
theorem l20Ports_any (g : Nat) (s : List Int) (p n : Int) (w0 w : World) (hI : IsS93 w0 w g s p) (hB : Below w0.heap.size w0 w) (hp : 0 ≤ p) (hp2 : p ≤ 1000) (hn : 1 ≤ n) (hr : rdOk s) (hL : listenAll) (hH : hearAll) :
    Calls Try.prog 48 #[.pointer (some ⟨g, 0, none⟩), .int .i64 n] w fun e w' => ∃ (A : Option Addr) (c : Nat) (L : List S47) (p' : Int), e = .returned (.slice A L.length c) ∧ few47b L ∧ Kd.R k47 47 w' w.heap.size (fun _ => True) (.slice A L.length c) L ∧ IsS93 w0 w' g s p' ∧ p ≤ p' ∧ p' ≤ p + 2000 ∧ Below w0.heap.size w0 w' ∧ KeepBut w w' g none := by
  have hu47 := Try.underlying47
  have hu40 := Try.underlying40
  have hu52 := Try.underlying52
  have HI := mk_ hI
  have HB := mk_ hB
  have HP := mk_ hp
  have HP2 := mk_ hp2
  have HN := mk_ hn
  have HRD := mk_ hr
  have HLS := mk_ hL
  have HHR := mk_ hH
  have HI47 := mk_ info47
  have HI40 := mk_ info40
  obtain ⟨k1, v1, e1, e2, e3⟩ := hr.1 p 6 hp (by omega) (by omega)
  obtain ⟨j1, rfl⟩ : ∃ j1 : Nat, v1 = j1 := ⟨v1.toNat, by omega⟩
  have E1 := mk_ e1
  have HJ1 := mk_ (show j1 ≤ 5 from by omega)
  clear hI hB hp hp2 hn hr hL hH e1 e2 e3
  go_enter Try.func48, Try.ntmps48
  go_wp2_with (first | ((with_reducible refine gate_dst (N := 9) rfl ?_); refine Kd.S_lit k47S (w0 := w) w.heap.size 47 ?hg (N := 9) ?hd (xs := ([] : List S47)) (inner := []) (ok := fun _ => True) (okp := fun _ => True) ?hr ?hp (fun _ hk => hk) trivial (Below.refl _ _) (Nat.le_refl _) (by simp) ?_; (case hd => rfl); (case hg => rfl); (case hr => first | (go_simp; done) | (go_simp; rfl)); (case hp => exact (Reps.none _ _)); intro v1 w1 ho hb hg_ hnew_; have HIN := mk_ (inL_start HI.out HB.out ho hb); clear ho hb hg_ hnew_) | (go_at_call 58; (with_reducible refine (spec_l20Rd_pick.calls k1 g s (p) 6 ((j1 : Int)) (p + 1) w0 _ ?s1 ?s2 E1.out).mono ?_); (case s1 => exact HIN.out.2.2.1); (case s2 => exact HIN.out.2.2.2.1); rintro e w2 ⟨rfl, hi, hb0, hk⟩; have HIN1 := mk_ (inL_kb HIN.out hi hb0 hk); clear hi hb0 hk))
  go_loopw [5, 6] (fun v5 v6 wr => ∃ (j : Nat) (L : List S47) (q : Int), v6 = .int .i64 j ∧ Aside0 (j ≤ 5 ∧ p ≤ q ∧ q + 2 * j ≤ p + 20) ∧ Aside0 (inL w0 w g s wr q v5 L)) (fun _ v6 _ => (intOf v6).toNat)
  case atStart => exact ⟨j1, [], p + 1, rfl, ⟨HJ1.out, by omega, by have h1_ := HJ1.out; omega⟩, HIN1⟩
  case round =>
    obtain ⟨j, L, q, rfl, HQ, HIN⟩ := hrel
    by_cases hj : 0 < j
    · have HJ := mk_ hj
      have hq := HQ.out
      have hpp := HP.out
      have hpp2 := HP2.out
      obtain ⟨k2, v2, e1, e2, e3⟩ := HRD.out.1 q 6 (by omega) (by omega) (by omega)
      obtain ⟨k3, x, r, o, d, f1, f2, f3, f4, f5, f6⟩ := HLS.out L (1 + v2) HIN.out.2.1
      obtain ⟨A5, c5, hv5⟩ := Kd.S_slice HIN.out.1
      subst hv5
      have E2 := mk_ e1
      have F1 := mk_ f1
      have F2 := mk_ f2
      have F3 := mk_ f3
      have F4 := mk_ f4
      have F5 := mk_ f5
      have F6 := mk_ f6
      clear hq hpp hpp2 e1 f1 f2 f3 f4 f5 f6
      go_wp2_with (first | (go_at_call 58; (with_reducible refine (spec_l20Rd_pick.calls k2 g s (q) 6 (v2) (q + 1) w0 _ ?s1 ?s2 E2.out).mono ?_); (case s1 => exact HIN.out.2.2.1); (case s2 => exact HIN.out.2.2.2.1); rintro e w2 ⟨rfl, hi, hb0, hk⟩; have HIN2 := mk_ (inL_kb HIN.out hi hb0 hk); clear hi hb0 hk) | (go_at_call 18; (with_reducible refine (specListen k3 A5 L.length c5 L (1 + v2) x r o d _ rfl ?s1 ?s2 F1.out F2.out F3.out F4.out F5.out).mono ?_); (case s1 => exact k47S_C (Kd.S_reads' HIN2.out.1).2.2); (case s2 => exact (Kd.S_reads' HIN2.out.1).2.1); rintro e w3 ⟨A7, c7, rfl, ho, hb⟩; have HIN3 := mk_ (inL_new HIN2.out hb ho F6.out); clear ho hb))
      go_roundw
      case rel => exact ⟨j - 1, o, q + 1, dec_j HJ.out (Nat.le_trans HQ.out.1 (by decide)), ⟨by have := HQ.out; omega, by have := HQ.out; omega, by have := HQ.out; omega⟩, HIN3⟩
      case measure => exact dec_m HJ.out (Nat.le_trans HQ.out.1 (by decide))
    · obtain rfl : j = 0 := by omega
      have hq := HQ.out
      have hpp := HP.out
      have hpp2 := HP2.out
      obtain ⟨k4, v4, e1, e2, e3⟩ := HRD.out.1 q 8 (by omega) (by omega) (by omega)
      obtain ⟨j2, rfl⟩ : ∃ j2 : Nat, v4 = j2 := ⟨v4.toNat, by omega⟩
      have E4 := mk_ e1
      have HJ2 := mk_ (show j2 ≤ 7 from by omega)
      have HQ0 := mk_ (show p ≤ q ∧ q ≤ p + 20 from by omega)
      clear hq hpp hpp2 e1 e2 e3 hj HQ E1 HJ1
      go_wp2_with ((go_at_call 58; (with_reducible refine (spec_l20Rd_pick.calls k4 g s (q) 8 ((j2 : Int)) (q + 1) w0 _ ?s1 ?s2 E4.out).mono ?_); (case s1 => exact HIN.out.2.2.1); (case s2 => exact HIN.out.2.2.2.1); rintro e w2 ⟨rfl, hi, hb0, hk⟩; have HIN4 := mk_ (inL_kb HIN.out hi hb0 hk); clear hi hb0 hk))
      go_loopw [5, 7] (fun v5 v7 wr => ∃ (j : Nat) (L : List S47) (q : Int), v7 = .int .i64 j ∧ Aside0 (j ≤ 7 ∧ p ≤ q ∧ q + 100 * j ≤ p + 800) ∧ Aside0 (inL w0 w g s wr q v5 L)) (fun _ v7 _ => (intOf v7).toNat)
      case atStart => exact ⟨j2, L, q + 1, rfl, ⟨HJ2.out, by have := HQ0.out; omega, by have h1_ := HJ2.out; have := HQ0.out; omega⟩, HIN4⟩
      case round =>
        clear HIN4 HIN HQ0 E4 HJ2
        obtain ⟨j, L, q, rfl, HQ, HIN⟩ := hrel
        by_cases hj : 0 < j
        · have HJ := mk_ hj
          have hq := HQ.out
          have hpp := HP.out
          have hpp2 := HP2.out
          obtain ⟨k5, a, f, t, D, q5, e1, e2, e3, e4⟩ := HRD.out.2.2 q 0 (by omega) (by omega)
          obtain ⟨k6, k7, b, o, d, f1, f2, f3⟩ := HHR.out L a f t D HIN.out.2.1 e2
          obtain ⟨A5, c5, hv5⟩ := Kd.S_slice HIN.out.1
          subst hv5
          have E5 := mk_ e1
          have Q5 := mk_ (show q ≤ q5 ∧ q5 ≤ q + 100 from ⟨e3, e4⟩)
          have F1 := mk_ f1
          have F2 := mk_ f2
          have F3 := mk_ f3
          clear hq hpp hpp2 e1 e2 e3 e4 f1 f2 f3
          go_wp2_with (first | (go_at_call 68; (with_reducible refine (spec_l20Mail.calls k5 g s q 0 a f t D q5 w0 _ ?s1 ?s2 E5.out).mono ?_); (case s1 => exact HIN.out.2.2.1); (case s2 => exact HIN.out.2.2.2.1); rintro e w3 ⟨v9, rfl, hR, hi, hb0, hk⟩; obtain ⟨A9, c9, hv9⟩ := Kd.R_slice hR; subst hv9; have HIN3 := mk_ (inL_kb HIN.out hi hb0 hk); have HM := mk_ hR; clear hR hi hb0 hk) | ((with_reducible refine gate_dst (N := 8) rfl ?_); refine box_event ?hg (N := 8) ?hd (cs := #[.int .i64 0, .int .i64 0, .int .i64 0, .slice none 0 0]) (t := 40) ?hr ?_; (case hd => rfl); (case hg => rfl); (case hr => first | (go_simp; done) | (go_simp; rfl)); intro gm hgm w4 hboxm hbm; have HGM := mk_ (show w3.heap.size ≤ gm from Nat.le_of_eq hgm.symm); obtain ⟨b0_, b1_, b2_, b3_, b4_, b5_, b6_, b7_⟩ := cells4_ hboxm; have HMB := mk_ (inn47_box4 hboxm (a := a) (f := f) (t := t) (v3 := .slice A9 D.length c9)); have HB4 := mk_ (below_box4 hbm HGM.out (.int .i64 a) (.int .i64 f) (.int .i64 t) (.slice A9 D.length c9)); have HIN4 := mk_ (inL_below HIN3.out HB4.out); have HV4 := mk_ (Kd.R_below HM.out HB4.out); obtain ⟨x0_, x1_, x2_, x3_, x4_, x5_, x6_, x7_⟩ := cells4_ HMB.out; clear hboxm hbm hgm))
          go_region_held3 (fun w' => w'.cell? ⟨gm, 0, none⟩ = some (.int .i64 a) ∧ w'.cell? ⟨gm, 1, none⟩ = some (.int .i64 f) ∧ w'.cell? ⟨gm, 2, none⟩ = some (.int .i64 t) ∧ w'.cell? ⟨gm, 3, none⟩ = some (.slice A9 D.length c9)) (go_keep) (first | (go_at_call 69; (with_reducible refine (spec_MailBytes.calls k6 a f t A9 c9 D 3 b _ ?s1 ?s2 F1.out).mono ?_); (case s1 => exact Kd.C_drew (Kd.R_reads' HV4.out).2.2); (case s2 => exact (Kd.R_reads' HV4.out).2.1); rintro e w5 ⟨v10, rfl, hR, hb⟩; obtain ⟨A10, c10, hv10⟩ := Kd.R_slice hR; subst hv10; have HIN5 := mk_ (inL_below (inL_drew HIN4.out) hb); have HBB := mk_ (Kd.R_reads' hR).2; have HG5 := mk_ (blk_below (bw_ HMB.out) hb); (try clear x0_ x1_ x2_ x3_ x4_ x5_ x6_ x7_); obtain ⟨x0_, x1_, x2_, x3_, x4_, x5_, x6_, x7_⟩ := cells4_ HG5.out; clear hR hb) | (go_at_call 32; (with_reducible refine (hearS_at k7 A5 L.length c5 L 3 a 3 2 0 0 0 false false A10 b.length c10 b o d _ rfl rfl ?s0 ?s1 ?s2 ?s3 F2.out).mono ?_); (case s0 => exact k47S_C (Kd.S_reads' HIN5.out.1).2.2); (case s1 => exact (Kd.S_reads' HIN5.out.1).2.1); (case s2 => exact HBB.out.2); (case s3 => exact HBB.out.1); rintro e w6 ⟨A11, c11, rfl, ho, hb⟩; have HIN6 := mk_ (inL_new HIN5.out hb ho F3.out); have HG6 := mk_ (blk_below HG5.out hb); (try clear x0_ x1_ x2_ x3_ x4_ x5_ x6_ x7_); obtain ⟨x0_, x1_, x2_, x3_, x4_, x5_, x6_, x7_⟩ := cells4_ HG6.out; clear ho hb))
          go_wp2
          go_roundw
          case rel => exact ⟨j - 1, o, q5, dec_j HJ.out (Nat.le_trans HQ.out.1 (by decide)), ⟨by have := HQ.out; omega, by have := HQ.out; have := Q5.out; omega, by have := HQ.out; have := Q5.out; omega⟩, HIN6⟩
          case measure => exact dec_m HJ.out (Nat.le_trans HQ.out.1 (by decide))
        · obtain rfl : j = 0 := by omega
          have HQ2 := mk_ (show p ≤ q ∧ q ≤ p + 800 from by have := HQ.out; omega)
          clear HQ hj
          obtain ⟨A5, c5, hv5⟩ := Kd.S_slice HIN.out.1
          subst hv5
          by_cases hl : L.length = 0
          · have hl0 : (L.length : Int) = 0 := by omega
            go_wp2
            go_ret
            exact ⟨A5, c5, L, q, rfl, few47_b HIN.out.2.1, k47S_R HIN.out.1, inL_end HIN.out (Below.refl _ _) (by have := HQ2.out; omega)⟩
          · have hl0 : (L.length : Int) > 0 := by omega
            have HL0 := mk_ (show 0 < L.length from by omega)
            have hq := HQ2.out
            have hpp := HP.out
            have hpp2 := HP2.out
            obtain ⟨k8, b8, q8, e1, e2, e3⟩ := HRD.out.2.1 q n (by omega) (by omega) HN.out
            have E8 := mk_ e1
            have HQ8 := mk_ (show p ≤ q8 ∧ q8 ≤ p + 801 from by omega)
            cases b8 with
            | false =>
              clear hq hpp hpp2 e1 e2 e3
              go_wp2_with ((go_at_call 80; (with_reducible refine (spec_l20Rd_odd.calls k8 g s q n false q8 w0 _ ?s1 ?s2 E8.out).mono ?_); (case s1 => exact HIN.out.2.2.1); (case s2 => exact HIN.out.2.2.2.1); rintro e w8 ⟨rfl, hi, hb0, hk⟩; have HIN8 := mk_ (inL_kb HIN.out hi hb0 hk); clear hi hb0 hk))
              go_ret
              exact ⟨A5, c5, L, q8, rfl, few47_b HIN8.out.2.1, k47S_R HIN8.out.1, inL_end HIN8.out (Below.refl _ _) (by have := HQ8.out; omega)⟩
            | true =>
              obtain ⟨k9, x9, f1, f2, f3⟩ := HRD.out.1 q8 3 (by omega) (by omega) (by omega)
              have E9 := mk_ f1
              obtain ⟨gv, c5', hv5, _⟩ := Kd.S_form HIN.out.1 HL0.out
              injection hv5 with hv6 hv7 hv8
              subst hv6
              have HGV := mk_ (show w.heap.size ≤ gv from ((Kd.S_R (Kd.S_fresh HIN.out.1)).1 gv rfl).2)
              have hx : x9 = 0 ∨ x9 = 1 ∨ x9 = 2 := by omega
              obtain ⟨P, hP⟩ : ∃ P, rd_T47 L ((0 : Nat) : Int) = P := ⟨_, rfl⟩
              obtain ⟨N, R⟩ := P
              have HPP := mk_ hP
              clear hq hpp hpp2 e1 e2 e3 f1 f2 f3 hv7 hv8 hP
              rcases hx with rfl | rfl | rfl
              · go_wp2_with (first | (go_at_call 80; (with_reducible refine (spec_l20Rd_odd.calls k8 g s q n true q8 w0 _ ?s1 ?s2 E8.out).mono ?_); (case s1 => exact HIN.out.2.2.1); (case s2 => exact HIN.out.2.2.2.1); rintro e w8 ⟨rfl, hi, hb0, hk⟩; have HIN8 := mk_ (inL_kb HIN.out hi hb0 hk); clear hi hb0 hk) | (go_at_call 58; (with_reducible refine (spec_l20Rd_pick.calls k9 g s (q8) 3 (0) (q8 + 1) w0 _ ?s1 ?s2 E9.out).mono ?_); (case s1 => exact HIN8.out.2.2.1); (case s2 => exact HIN8.out.2.2.2.1); rintro e w9 ⟨rfl, hi, hb0, hk⟩; have HIN9 := mk_ (inL_kb HIN8.out hi hb0 hk); clear hi hb0 hk; obtain ⟨A1, c1, hk0, hk1, hM⟩ := old_elem (k47S_R HIN9.out.1) 0 HL0.out; rw [HPP.out] at hk0 hk1 hM; dsimp only at hk0 hk1 hM; have HM := mk_ hM; clear hM) | ((with_reducible refine gate_builtin (b := .append) (xs := #[.tmp 60, .tmp 64]) rfl ?_); at_builtin; refine Kd.R_append k47 (w0 := w9) w.heap.size rfl (.tmp 60) (.tmp 64) 25 47 (.agg #[(.int .i64 0), (.slice none 0 0)]) 32 rfl Try.underlying25 HI47.out rfl (by decide) (by omega) (.slice (some ⟨gv, 0, none⟩) L.length c5) L (⟨N, R⟩ : S47) [.int .i64 N, .slice A1 R.length c1] (fun _ => True) (fun kk => True ∧ kk ≠ gv) rfl rfl HM.out (fun kk hk => ⟨trivial, fun e_ => hk.2 (by simpa [Value.ownBlock] using e_)⟩) (fun _ _ => trivial) (k47S_R HIN9.out.1) (Below.refl _ _) HIN9.out.2.2.2.2.2.2.2 (by have h1_ := HIN9.out.2.1.1; omega) ?_; intro v10 w10 ho hb hg hat; obtain ⟨A10, c10, hv10⟩ := Kd.R_slice ho; subst hv10; have HO10 := mk_ ho; have HB10 := mk_ hb; clear ho hb hg hat))
                go_ret
                have h5_ : rd_T47 L 0 = ⟨N, R⟩ := HPP.out
                exact ⟨A10, c10, L ++ [⟨N, R⟩], q8 + 1, (by simp), by rw [← h5_]; exact few47b_two HIN9.out.2.1 HL0.out, HO10.out, inL_end HIN9.out HB10.out (by have := HQ8.out; omega)⟩
              · have hq := HQ8.out
                have hpp := HP.out
                have hpp2 := HP2.out
                obtain ⟨k10, a, f, t, D, q11, e1, e2, e3, e4⟩ := HRD.out.2.2 (q8 + 1) 2 (by omega) (by omega)
                have E10 := mk_ e1
                have HD41 := mk_ e2.2.1
                have HQ11 := mk_ (show p ≤ q11 ∧ q11 ≤ p + 1000 from by omega)
                clear hq hpp hpp2 e1 e2 e3 e4
                go_wp2_with (first | (go_at_call 80; (with_reducible refine (spec_l20Rd_odd.calls k8 g s q n true q8 w0 _ ?s1 ?s2 E8.out).mono ?_); (case s1 => exact HIN.out.2.2.1); (case s2 => exact HIN.out.2.2.2.1); rintro e w8 ⟨rfl, hi, hb0, hk⟩; have HIN8 := mk_ (inL_kb HIN.out hi hb0 hk); clear hi hb0 hk) | (go_at_call 58; (with_reducible refine (spec_l20Rd_pick.calls k9 g s (q8) 3 (1) (q8 + 1) w0 _ ?s1 ?s2 E9.out).mono ?_); (case s1 => exact HIN8.out.2.2.1); (case s2 => exact HIN8.out.2.2.2.1); rintro e w9 ⟨rfl, hi, hb0, hk⟩; have HIN9 := mk_ (inL_kb HIN8.out hi hb0 hk); clear hi hb0 hk; have HO9 := mk_ (Kd.S_mono (Kd.S_elder HIN9.out.1) (fun k hk => (hk.2 : k < w9.heap.size))); obtain ⟨Ar, cr, ok9, hl_, hk0, hk1, hkf0, hkf1, _, _, _, _⟩ := hear_row HO9.out 0 HL0.out; rw [HPP.out] at hl_ hk0 hk1; dsimp only at hl_ hk0 hk1; rw [Nat.zero_mul, Nat.zero_add] at hk1 hkf1; rw [Nat.zero_mul] at hk0 hkf0))
                go_region_law (first | (refine Kd.S_append_step (W := w10) k40 (w0 := w10) w.heap.size rfl (.tmp 72) (.tmp 75) 45 40 (.agg #[(.int .i64 0), (.int .i64 0), (.int .i64 0), (.slice none 0 0)]) 48 rfl Try.underlying45 HI40.out rfl (by decide) (by omega) (.slice Ar R.length cr) R (⟨a, f, t, D⟩ : S40) [.int .i64 a, .int .i64 f, .int .i64 t, .slice A10 D.length c10] okX (fun k => w9.heap.size ≤ k) rfl rfl (k40_mkM _ _ _ ⟨a, f, t, D⟩ (Kd.R_lower (Kd.R_mono HM10.out (fun k hk => hk.2)) HIN9.out.2.2.2.2.2.2.2)) (fun k hk => ⟨HOX.out k hk, fun e => absurd hk (Nat.not_le.2 (HRG.out k e.symm).1)⟩) (fun k hk => HOX.out k (Nat.le_trans H910.out hk)) HRW.out (Below.refl _ _) HIN10.out.2.2.2.2.2.2.2 (by have h1_ := (HIN9.out.2.1.2 _ (rd47_mem L 0 HL0.out)).1; rw [HPP.out] at h1_; dsimp only at h1_; omega) ?_; intro v11 w11 ho hb hg hat; obtain ⟨A11, n11, c11, hv11⟩ := slice_any ho; subst hv11; have hngv : some gv ≠ (Value.slice Ar R.length cr).ownBlock := (fun e => (HRG.out gv e.symm).2 rfl); have hkf9 := (hg.frozen_far ⟨gv, 1, none⟩ (lc_ _ _ hj1) hngv).trans hjf1; have hk9 := hg.cell hj1 hngv; have HPT := mk_ (HPU.out w10 w11 (.slice A11 n11 c11) _ (Below.refl _ _) hg ho); have HB11 := mk_ hb; clear ho hb hg hat hngv) | (go_simp; (go_at_call 68; (with_reducible refine (spec_l20Mail.calls k10 g s (q8 + 1) 2 a f t D q11 w0 _ ?s1 ?s2 E10.out).mono ?_); (case s1 => exact IsS93.drew HIN9.out.2.2.1); (case s2 => exact nw_ HIN9.out.2.2.2.1); rintro e w10 ⟨v10, rfl, hR, hi, hb0, hk⟩; obtain ⟨A10, c10, hv10⟩ := Kd.R_slice hR; subst hv10; have HIN10 := mk_ (inL_kb (inL_drew HIN9.out) hi hb0 hk); have HM10 := mk_ (Kd.R_fresh hR); have HO10 := mk_ (Kd.S_mono (Kd.S_keep (Kd.S_fresh (Kd.S_drew HO9.out)) hk (fun k hk => by have h1_ := hk.2; have h2_ := HIN9.out.2.2.2.2.2.1; omega)) (fun k hk => (hk.1 : k < w9.heap.size))); have hkk := (World.cell?_of_block (w := w9.drew) (a := ⟨gv, 1, none⟩) (hk.2 gv (lc_ _ _ hk1) (by have h1_ := HGV.out; have h2_ := HIN9.out.2.2.2.2.2.1; omega) (by simp))).trans hk1; obtain ⟨Ar2, cr2, okX, hl2_, hj0, hj1, hjf0, hjf1, hokX, hrow, hrg, hput⟩ := hear_row HO10.out 0 HL0.out; rw [HPP.out] at hl2_ hj0 hj1 hrow hput hrg; dsimp only at hl2_ hj0 hj1 hrow hput hrg; rw [Nat.zero_mul, Nat.zero_add] at hj1 hjf1; obtain ⟨rfl, rfl⟩ := slice_inj (Option.some.inj (hkk.symm.trans hj1)); have ha1 : ∀ o, (w10.alloc o).cell? ⟨gv, 1, none⟩ = some (.slice Ar R.length cr) := (fun o => (World.cell?_alloc_past (w := w10) o gv _ (lc_ _ _ hj1)).trans hj1); have HRW := mk_ hrow; have HPU := mk_ hput; have HOX := mk_ hokX; have HRG := mk_ hrg; have H910 := mk_ (hk.1 : w9.heap.size ≤ w10.heap.size); clear hR hi hb0 hk hkk hrow hput hokX hrg hj0 hjf0)))
                all_goals
                  have hB := Below.setCell HB11.out (p := ⟨gv, 1, none⟩) HGV.out (.slice A11 n11 c11)
                  go_wp2
                  go_ret
                  have h5_ : rd_T47 L 0 = ⟨N, R⟩ := HPP.out
                  exact ⟨some ⟨gv, 0, none⟩, c5, L.set 0 ⟨N, R ++ [⟨a, f, t, D⟩]⟩, q11, (by rw [List.length_set] <;> rfl), (by have h6_ := few47b_row HIN9.out.2.1 HL0.out (⟨a, f, t, D⟩ : S40) HD41.out; rw [h5_] at h6_; exact h6_), (by rw [List.length_set]; exact k47S_R HPT.out.1), inL_end HIN10.out hB (by have := HQ11.out; omega)⟩
              · have hq := HQ8.out
                have hpp := HP.out
                have hpp2 := HP2.out
                obtain ⟨k10, y, e1, e2, e3⟩ := HRD.out.1 (q8 + 1) 2 (by omega) (by omega) (by omega)
                have E10 := mk_ e1
                have hy : y = 0 ∨ y = 1 := by omega
                clear hq hpp hpp2 e1 e2 e3
                rcases hy with rfl | rfl
                all_goals
                  go_wp2_with (first | (go_at_call 80; (with_reducible refine (spec_l20Rd_odd.calls k8 g s q n true q8 w0 _ ?s1 ?s2 E8.out).mono ?_); (case s1 => exact HIN.out.2.2.1); (case s2 => exact HIN.out.2.2.2.1); rintro e w8 ⟨rfl, hi, hb0, hk⟩; have HIN8 := mk_ (inL_kb HIN.out hi hb0 hk); clear hi hb0 hk) | (go_at_call 58; (with_reducible refine (spec_l20Rd_pick.calls k9 g s (q8) 3 (2) (q8 + 1) w0 _ ?s1 ?s2 E9.out).mono ?_); (case s1 => exact HIN8.out.2.2.1); (case s2 => exact HIN8.out.2.2.2.1); rintro e w9 ⟨rfl, hi, hb0, hk⟩; have HIN9 := mk_ (inL_kb HIN8.out hi hb0 hk); clear hi hb0 hk) | (go_at_call 58; (with_reducible refine (spec_l20Rd_pick.calls k10 g s (q8 + 1) 2 _ _ w0 _ ?s1 ?s2 E10.out).mono ?_); (case s1 => exact HIN9.out.2.2.1); (case s2 => exact HIN9.out.2.2.2.1); rintro e w10 ⟨rfl, hi, hb0, hk⟩; have HIN10 := mk_ (inL_kb HIN9.out hi hb0 hk); obtain ⟨hf0, hk0, _⟩ := num_set HIN10.out.1 0 HL0.out 0; rw [Nat.zero_mul] at hf0 hk0; have HST := mk_ (fun N => (num_set HIN10.out.1 0 HL0.out N).2.2); clear hi hb0 hk))
                  go_ret
                  have hB := fun u => Below.setCell (Below.refl w.heap.size w10) (p := ⟨gv, 0, none⟩) HGV.out u
                  exact ⟨some ⟨gv, 0, none⟩, c5, L.set 0 ⟨_, (rd_T47 L 0).f1⟩, q8 + 1 + 1, (by rw [List.length_set] <;> rfl), few47b_num HIN10.out.2.1 HL0.out _, (by rw [List.length_set]; exact HST.out _), inL_end HIN10.out (hB _) (by have := HQ8.out; omega)⟩
end Go.Proofs.Ytkkibccnpkbbjaa.MFnPortsOk
