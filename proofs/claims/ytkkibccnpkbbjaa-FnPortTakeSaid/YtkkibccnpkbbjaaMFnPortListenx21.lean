/- Functions that the law FnPortListen reaches, typed by hand (part 2 of 4): what the program's and the reference's ports' functions do, and the walk of the law; no conditions but those that each theorem states. -/
import Derived.Test.YtkkibccnpkbbjaaMFnPortListenx20
import Derived.StillTailTactics
import Derived.IntWalk
import Derived.Deep.RegionHeld3
import Derived.Shelf.Spec.SlicesInsertGrow
import Derived.Deep.QuietTactic
import Derived.BigQuiet
import Derived.Deep.RegionLaw
namespace Go.Proofs.Ytkkibccnpkbbjaa.MFnPortsOk
open Go.RowKit Go.Proofs.YtkkibccnpkbbjaaV.PrintWords Go.Proofs.YtkkibccnpkbbjaaV.PrintLast Go.Proofs.YtkkibccnpkbbjaaV.PrintMore
attribute [local go_sem] max2_int min2_int max_two min_two max_three min_three max_four min_four
set_option linter.unusedVariables false
set_option linter.unusedSimpArgs false
theorem clone1000 {D : List Int} (h : D.length ≤ 1000) : impl_clone_byte.f D = some D := by
  unfold impl_clone_byte.f
  rw [if_pos (by omega)]
theorem inn47_box {w5 w6 : World} {g8 : Nat} {a f t : Int} {A3 : Option Addr} {n3 c3 : Nat} (h : w5.heap[g8]? = some (.cells #[.int .i64 0, .int .i64 0, .int .i64 0, .slice none 0 0] 40 (0, 0))) (hb : Below ((((w5.setCell ⟨g8, 0, none⟩ (.int .i64 a)).setCell ⟨g8, 1, none⟩ (.int .i64 f)).setCell ⟨g8, 2, none⟩ (.int .i64 t)).setCell ⟨g8, 3, none⟩ (.slice A3 n3 c3)).heap.size ((((w5.setCell ⟨g8, 0, none⟩ (.int .i64 a)).setCell ⟨g8, 1, none⟩ (.int .i64 f)).setCell ⟨g8, 2, none⟩ (.int .i64 t)).setCell ⟨g8, 3, none⟩ (.slice A3 n3 c3)) w6) : w6.heap[g8]? = some (.cells #[.int .i64 a, .int .i64 f, .int .i64 t, .slice A3 n3 c3] 40 (0, 0)) :=
  blk_below (blk_put (cs := #[.int .i64 a, .int .i64 f, .int .i64 t, .slice none 0 0]) (blk_put (cs := #[.int .i64 a, .int .i64 f, .int .i64 0, .slice none 0 0]) (blk_put (cs := #[.int .i64 a, .int .i64 0, .int .i64 0, .slice none 0 0]) (blk_put (cs := #[.int .i64 0, .int .i64 0, .int .i64 0, .slice none 0 0]) h 0 (.int .i64 a) rfl) 1 (.int .i64 f) rfl) 2 (.int .i64 t) rfl) 3 (.slice A3 n3 c3) rfl) hb
set_option maxHeartbeats 2000000 in
set_option maxRecDepth 100000 in
theorem impl_ports.clipped (A0 : Option Addr) (c0 : Nat) (l0 : List S47) (w : World) (hr0 : Kd.C k47 w A0 l0.length l0) (hc0 : l0.length ≤ c0) (hs : small47 l0) :
    Calls Try.prog 53 #[.slice A0 l0.length c0] w fun e w' => ∃ A1 : Option Addr, e = .returned (.slice A1 l0.length l0.length) ∧ Kd.S k47S 47 w' w.heap.size (fun _ => True) (.slice A1 l0.length l0.length) l0 ∧ Below w.heap.size w w' := by
  have hu47 := Try.underlying47
  have hu40 := Try.underlying40
  have HR := mk_ hr0
  have HS := mk_ hs
  have HI47 := mk_ info47
  have HI40 := mk_ info40
  clear hr0 hc0 hs
  go_enter Try.func53, Try.ntmps53
  go_wp2
  go_loopw [3, 11] (fun v i wr => ∃ q : Nat, q ≤ l0.length ∧ i = .int .i64 q ∧ Aside0 (Kd.S k47S 47 wr w.heap.size (fun _ => True) v (l0.take q)) ∧ Aside0 (Below w.heap.size w wr)) (fun _ i _ => l0.length - (intOf i).toNat)
  case atStart => exact ⟨0, Nat.zero_le _, rfl, ⟨Kd.S_nil _ _ _ _ _⟩, ⟨Below.refl _ _⟩⟩
  case round =>
    obtain ⟨q, hq, rfl, HO, HB⟩ := hrel
    by_cases hlt : q < l0.length
    · obtain ⟨ad, A1, c1, e, hx0, hx1, hx2, hx3⟩ := at_T47 HR.out (q : Int) (by omega) (by omega)
      cases e
      replace hx0 := (HB.out.cell (lc_ w _ hx0)).trans hx0
      replace hx1 := (HB.out.cell (lc_ w _ hx1)).trans hx1
      rw [Int.toNat_natCast] at hx0 hx1
      have hsp := HS.out.2 _ (rd47_mem l0 q hlt)
      have ht := take47 l0 q hlt
      obtain ⟨P, hP⟩ : ∃ P, rd_T47 l0 (q : Int) = P := ⟨_, rfl⟩
      obtain ⟨N, L⟩ := P
      rw [hP] at hx0 hx1 hx2 hx3 hsp ht
      dsimp only at hx0 hx1 hx2 hx3 hsp
      have HX2 := mk_ hx2
      have HX3 := mk_ hx3
      have HSP := mk_ hsp
      have HT := mk_ ht
      clear hx2 hx3 hsp ht hP
      obtain ⟨B, hB⟩ : ∃ B, wr.heap.size = B := ⟨_, rfl⟩
      have HBB := mk_ hB
      clear hB
      go_wp2_with (first | ((with_reducible refine gate_dst (N := 5) rfl ?_); refine box_event ?hg (N := 5) ?hd (cs := #[.int .i64 0, .slice none 0 0]) (t := 47) ?hr ?_; (case hd => rfl); (case hg => rfl); (case hr => first | (go_simp; done) | (go_simp; rfl)); intro gb hg w2 hbox hb; obtain ⟨hc0, hc1, hf0, hf1⟩ := cells2_ hbox; have HG := mk_ (show wr.heap.size ≤ gb from Nat.le_of_eq hg.symm); have HBX := mk_ hbox; have HBL := mk_ hb; have ge1 := ge_ HG.out; clear hb hbox hg) | ((with_reducible refine gate_dst (N := 6) rfl ?_); refine box_event ?hg (N := 6) ?hd (cs := #[.int .i64 0, .slice none 0 0]) (t := 47) ?hr ?_; (case hd => rfl); (case hg => rfl); (case hr => first | (go_simp; done) | (go_simp; rfl)); intro gq hgq w3 hboxq hbq; have hbx1 := blk_below (blk_put (cs := #[.int .i64 N, .slice none 0 0]) (blk_put (cs := #[.int .i64 0, .slice none 0 0]) HBX.out 0 (.int .i64 N) rfl) 1 (.slice A1 L.length c1) rfl) hbq; have hne : gb ≠ gq := (by rw [hgq]; exact Nat.ne_of_lt (blk_lt (blk_put (cs := #[.int .i64 N, .slice none 0 0]) (blk_put (cs := #[.int .i64 0, .slice none 0 0]) HBX.out 0 (.int .i64 N) rfl) 1 (.slice A1 L.length c1) rfl))); have hen := Ne.symm hne; have HQ := mk_ (show wr.heap.size ≤ gq from (by rw [hgq]; exact (us_ HBL.out : Below wr.heap.size wr _).size)); have HBR := mk_ (below_step (us_ HBL.out) hbq); have ge2 := ge_ HQ.out; have HBQ := mk_ hboxq; obtain ⟨_, _, _, _⟩ := cells2_ hboxq; obtain ⟨hd0, hd1, _, _⟩ := cells2_ hbx1; clear hbq hboxq hbx1 hgq hc0 hc1 hf0 hf1))
      have HIN := mk_ (inn47_start (gq := gq) (N := N) HO.out HB.out (us_ HBR.out) (blk_put (cs := #[.int .i64 N, .slice none 0 0]) (blk_put (cs := #[.int .i64 0, .slice none 0 0]) HBQ.out 0 (.int .i64 N) rfl) 1 (.slice none 0 0) rfl) HQ.out)
      rw [HBB.out] at HIN
      clear HG HBX HBL HBR HQ HBQ hx0 hx1
      go_loopw [21] (fun i wi => ∃ (j : Nat) (v : Value), j ≤ L.length ∧ i = .int .i64 j ∧ Aside0 (inn47 w B gq N u3 (l0.take q) wi v (L.take j))) (fun i _ => L.length - (intOf i).toNat)
      case atStart => exact ⟨0, _, Nat.zero_le _, rfl, HIN⟩
      case round =>
        obtain ⟨j, v, hj, rfl, HIN⟩ := hrel
        clear hd0 hd1
        by_cases hlt2 : j < L.length
        · obtain ⟨ad3, A3, c3, e, hy0, hy1, hy2, hy3, hy4, hy5⟩ := at_T40 HX3.out (j : Int) (by omega) (by omega)
          cases e
          have HBW := HIN.out.2.2.2.1
          replace hy0 := (HBW.cell (lc_ w _ hy0)).trans hy0
          replace hy1 := (HBW.cell (lc_ w _ hy1)).trans hy1
          replace hy2 := (HBW.cell (lc_ w _ hy2)).trans hy2
          replace hy3 := (HBW.cell (lc_ w _ hy3)).trans hy3
          rw [Int.toNat_natCast] at hy0 hy1 hy2 hy3
          have hsd := HSP.out.2 _ (rd40_mem L j hlt2)
          have ht := take40 L j hlt2
          obtain ⟨P, hP⟩ : ∃ P, rd_T40 L (j : Int) = P := ⟨_, rfl⟩
          obtain ⟨a, f, t, D⟩ := P
          rw [hP] at hy0 hy1 hy2 hy3 hy4 hy5 hsd ht
          dsimp only at hy0 hy1 hy2 hy3 hy4 hy5 hsd
          obtain ⟨Y, hY⟩ : ∃ Y, L.take j = Y := ⟨_, rfl⟩
          have hyl : Y.length ≤ L.length := by rw [← hY]; exact List.length_take_le' j L
          rw [hY] at HIN ht
          have HYL := mk_ hyl
          obtain ⟨Y1, hY1⟩ : ∃ Y1, Y ++ [(⟨a, f, t, D⟩ : S40)] = Y1 := ⟨_, rfl⟩
          rw [hY1] at ht
          have NY := mk_ hY1
          have HJ1 := mk_ (show j + 1 ≤ L.length from hlt2)
          clear hY hyl hY1
          obtain ⟨Av, cv, hv⟩ := Kd.S_slice HIN.out.2.1
          subst hv
          obtain ⟨hq0, hq1, hqf0, hqf1⟩ := inn47_cells HIN.out
          have HY4 := mk_ hy4
          have HY5 := mk_ (Kd.C_below hy5 HBW)
          have HSD := mk_ hsd
          have HT2 := mk_ ht
          have HJ := mk_ hj
          clear hy4 hy5 hsd ht hP HBW
          go_wp2_with (first | ((with_reducible refine gate_dst (N := 8) rfl ?_); refine box_event ?hg (N := 8) ?hd (cs := #[.int .i64 0, .int .i64 0, .int .i64 0, .slice none 0 0]) (t := 40) ?hr ?_; (case hd => rfl); (case hg => rfl); (case hr => first | (go_simp; done) | (go_simp; rfl)); intro g8 hg8 w5 hbox8 hb8; have HG8 := mk_ (show wr.heap.size ≤ g8 from Nat.le_of_eq hg8.symm); have HB5 := mk_ hb8; have HBX8 := mk_ hbox8; have ge8 := ge_ HG8.out; obtain ⟨_, _, _, _, _, _, _, _⟩ := cells4_ hbox8; clear hg8 hbox8 hb8) | (go_at_call 71; (with_reducible refine (impl_clone_byte.calls A3 c3 D D _ ?s1 ?s2 ?s3).mono ?_); (case s1 => exact Kd.C_below HY5.out (us_ HB5.out)); (case s2 => exact HY4.out); (case s3 => exact clone1000 HSD.out); rintro e w6 ⟨v6, rfl, hr6, hb6⟩; obtain ⟨A6, c6, hv6⟩ := Kd.R_slice hr6; subst hv6; have HX8 := mk_ (inn47_box HBX8.out hb6); have h5 := mk_ (us_ HB5.out : Below wr.heap.size wr ((((w5.setCell ⟨g8, 0, none⟩ (.int .i64 a)).setCell ⟨g8, 1, none⟩ (.int .i64 f)).setCell ⟨g8, 2, none⟩ (.int .i64 t)).setCell ⟨g8, 3, none⟩ (.slice A3 D.length c3))); have HB6 := mk_ (below_step h5.out hb6); have HR6 := mk_ hr6; replace hq1 := (HB6.out.cell (lc_ _ _ hq1)).trans hq1; have hn8 : gq ≠ g8 := (Nat.ne_of_lt (Nat.lt_of_lt_of_le (blk_lt HIN.out.1) HG8.out)); have hn9 := Ne.symm hn8; obtain ⟨_, _, _, _, _, _, _, _⟩ := cells4_ HX8.out; clear hq0 hqf0 hqf1 hr6 hb6) | ((with_reducible refine gate_builtin (b := .append) (xs := #[.tmp 30, .tmp 32]) rfl ?_); at_builtin; have HW := mk_ (inn47_old HIN.out (us_ HB6.out : Below wr.heap.size wr (w6.setCell ⟨g8, 3, none⟩ (.slice A6 D.length c6)))); have HIW := mk_ (inn47_below HIN.out (us_ HB6.out : Below wr.heap.size wr (w6.setCell ⟨g8, 3, none⟩ (.slice A6 D.length c6)))); refine Kd.S_append k40 (w0 := w) w.heap.size rfl (.tmp 30) (.tmp 32) 45 40 (.agg #[(.int .i64 0), (.int .i64 0), (.int .i64 0), (.slice none 0 0)]) 48 rfl Try.underlying45 HI40.out rfl (by decide) (by omega) (.slice Av Y.length cv) Y (⟨a, f, t, D⟩ : S40) [.int .i64 a, .int .i64 f, .int .i64 t, .slice A6 D.length c6] (fun k => B ≤ k) (fun k => wr.heap.size ≤ k) rfl (slice_at (setCell_size _ _ _).symm) (inn47_mail HR6.out h5.out HIN.out.2.2.2.1.size HX8.out) HW.out.2.1 HW.out.2.2 HW.out.1 HIW.out.2.2.2.1 HIW.out.2.2.2.1.size (by have h1_ := HSP.out.1; have h2_ := HYL.out; omega) ?_; intro v1 w7 ho hb hg hat; rw [NY.out] at ho; obtain ⟨A7, c7, hv7⟩ := Kd.S_slice ho; subst hv7; obtain ⟨_, _, _, _⟩ := cells2_ (inn47_new HIW.out hg); have HIN7 := mk_ (inn47_put HIW.out ho hb hg); clear ho hb hg hat))
          go_roundw
          case rel => exact ⟨j + 1, _, HJ1.out, by rw [wrap_next j (by have h1_ := HSP.out.1; have h2_ := HJ1.out; omega)], ⟨by rw [HT2.out]; exact HIN7.out⟩⟩
          case measure => have h1_ := HSP.out.1; have h2_ := HJ1.out; rw [wrap_next j (by omega)]; simp only [intOf, Int.toNat_natCast]; omega
        · obtain rfl : j = L.length := by omega
          have HI := HIN.out
          rw [List.take_length] at HI
          obtain ⟨Av, cv, hv⟩ := Kd.S_slice HI.2.1
          subst hv
          obtain ⟨hq0, hq1, hqf0, hqf1⟩ := inn47_cells HI
          obtain ⟨_, hlv, hcv⟩ := Kd.S_reads' HI.2.1
          have hmv := hcv.2.1
          have HIQ := mk_ HI
          have HQL := mk_ hq
          have HQ1 := mk_ (show q + 1 ≤ l0.length from hlt)
          clear hcv HI HIN
          go_wp2_with (first | (go_at_call 82; (with_reducible refine (clip40.calls _ _ _ _ hlv hmv).mono ?_); rintro e w' ⟨rfl, ⟨nd, rfl⟩⟩; have HP := mk_ (inn47_port (nd := nd) HIQ.out)) | ((with_reducible refine gate_builtin (b := .append) (xs := #[.tmp 40, .tmp 42]) rfl ?_); at_builtin; refine Kd.S_append k47S (w0 := w) w.heap.size rfl (.tmp 40) (.tmp 42) 25 47 (.agg #[(.int .i64 0), (.slice none 0 0)]) 32 rfl Try.underlying25 HI47.out rfl (by decide) (by omega) _ (l0.take q) (⟨N, L⟩ : S47) [.int .i64 N, .slice Av L.length L.length] (fun _ => True) (fun k => B ≤ k) rfl (slice_at (setCell_size _ _ _).symm) HP.out.1 HP.out.2.1 (fun _ _ => trivial) HP.out.2.2.1 HP.out.2.2.2 HP.out.2.2.2.size (by have h1_ := HS.out.1; have h2_ := HQL.out; rw [List.length_take]; omega) ?_; intro v1 w7 ho hb hg hat; have HO9 := mk_ ho; have HB9 := mk_ hb; clear ho hb hg hat))
          go_roundw
          case rel => exact ⟨q + 1, HQ1.out, by rw [wrap_next q (by have h1_ := HS.out.1; have h2_ := HQ1.out; omega)], ⟨by rw [HT.out]; exact HO9.out⟩, HB9⟩
          case measure => have h1_ := HS.out.1; have h2_ := HQ1.out; rw [wrap_next q (by omega)]; simp only [intOf, Int.toNat_natCast]; omega
    · obtain rfl : q = l0.length := by omega
      have HO2 := HO.out
      rw [List.take_length] at HO2
      obtain ⟨A2, c2, hv2, hl2, hr2⟩ := Kd.S_reads HO2
      subst hv2
      have HO3 := mk_ HO2
      have hmax := hr2.2.1
      clear HO2 hr2 HO
      go_wp2_with (go_at_call 83; (with_reducible refine (clip47.calls _ _ _ _ hl2 hmax).mono ?_); rintro e w' ⟨rfl, ⟨nd, rfl⟩⟩)
      go_ret
      exact ⟨_, rfl, Kd.S_clip (by exact Kd.S_drewN HO3.out _) rfl, pw_below_drewN HB.out _⟩
theorem impl_ports.calls (A0 : Option Addr) (c0 : Nat) (l0 : List S47) (w : World) (hr0 : Kd.C k47 w A0 l0.length l0) (hc0 : l0.length ≤ c0) (hs : small47 l0) :
    Calls Try.prog 53 #[.slice A0 l0.length c0] w fun e w' => ∃ v0_ : Value, e = .returned (v0_) ∧ Kd.S k47S 47 w' w.heap.size (fun _ => True) v0_ l0 ∧ Below w.heap.size w w' := by
  refine (impl_ports.clipped A0 c0 l0 w hr0 hc0 hs).mono ?_
  rintro e w' ⟨A1, rfl, h, hb⟩
  exact ⟨_, rfl, h, hb⟩
def cmpI (N t : Int) : Int := if N < t then -1 else if N > t then 1 else 0
theorem portAt_1_at (N : Int) (L : List S40) (t : Int) : impl_portAt_1.f N L t = some (cmpI N t) := by
  unfold impl_portAt_1.f cmp_Compare_int.f cmp_isNaN_int.f cmpI
  by_cases h1 : N < t
  · simp [h1]
  · by_cases h2 : N > t
    · simp [h1, h2]
    · simp [h1, h2]
theorem cmpI_neg (N t : Int) : decide (cmpI N t < 0) = decide (N < t) := by
  unfold cmpI
  by_cases h1 : N < t
  · simp [h1]
  · by_cases h2 : N > t
    · simp [h1, h2]
    · simp [h1, h2]
theorem cmpI_zero (N t : Int) : (cmpI N t == 0) = decide (N = t) := by
  unfold cmpI
  by_cases h1 : N < t
  · have : ¬ N = t := by omega
    simp [h1, this]
  · by_cases h2 : N > t
    · have : ¬ N = t := by omega
      simp [h1, h2, this]
    · have : N = t := by omega
      simp [this]
def up47 (l : List S47) : Prop := ∀ i j : Nat, i < j → j < l.length → (rd_T47 l (i : Int)).f0 < (rd_T47 l (j : Int)).f0
theorem half_at (p q : Nat) (hp : p ≤ q) (hq : q ≤ 1000) : wrap64 (IntKind.u64.wrap (wrap64 ((p : Int) + (q : Int))) / 2) = (((p + q) / 2 : Nat) : Int) := by
  rw [show wrap64 ((p : Int) + (q : Int)) = (p : Int) + (q : Int) by unfold wrap64; omega, show IntKind.u64.wrap ((p : Int) + (q : Int)) = (p : Int) + (q : Int) by
    show ((p : Int) + (q : Int)) % 18446744073709551616 = _
    omega]
  unfold wrap64
  omega
set_option maxHeartbeats 2000000 in
set_option maxRecDepth 100000 in
theorem bsearch.calls (A0 : Option Addr) (c0 : Nat) (l0 : List S47) (t : Int) (w : World) (hr0 : Kd.C k47 w A0 l0.length l0) (hs : l0.length ≤ 1000) (hu : up47 l0) :
    Calls Try.prog 84 #[.slice A0 l0.length c0, .int .i64 t, .func (.func 85) #[] #[]] w fun e w' => (∃ (p : Nat) (b : Bool), p ≤ l0.length ∧ (∀ x : Nat, x < p → (rd_T47 l0 (x : Int)).f0 < t) ∧ (∀ x : Nat, p ≤ x → x < l0.length → t ≤ (rd_T47 l0 (x : Int)).f0) ∧ (b = true ↔ p < l0.length ∧ (rd_T47 l0 (p : Int)).f0 = t) ∧ e = .returned (.tuple #[.int .i64 p, .bool b])) ∧ Below w.heap.size w w' := by
  have hu47 := Try.underlying47
  have HR := mk_ hr0
  have HS := mk_ hs
  have HU := mk_ hu
  clear hr0 hs hu
  go_enter Try.func84, Try.ntmps84
  go_wp2
  go_loopw [9, 10] (fun i j wr => ∃ p q : Nat, p ≤ q ∧ q ≤ l0.length ∧ i = .int .i64 p ∧ j = .int .i64 q ∧ Aside0 (∀ x : Nat, x < p → (rd_T47 l0 (x : Int)).f0 < t) ∧ Aside0 (∀ x : Nat, q ≤ x → x < l0.length → t ≤ (rd_T47 l0 (x : Int)).f0) ∧ Aside0 (Below w.heap.size w wr)) (fun i j _ => (intOf j).toNat - (intOf i).toNat)
  case atStart => exact ⟨0, l0.length, Nat.zero_le _, Nat.le_refl _, rfl, rfl, ⟨fun x hx => absurd hx (Nat.not_lt_zero x)⟩, ⟨fun x h1 h2 => by omega⟩, ⟨Below.refl _ _⟩⟩
  case round =>
    obtain ⟨p, q, hpq, hq, rfl, rfl, HL, HG, HB⟩ := hrel
    by_cases hlt : p < q
    · have hh := half_at p q hpq (by have := HS.out; omega)
      obtain ⟨h, hd⟩ : ∃ h, (p + q) / 2 = h := ⟨_, rfl⟩
      rw [hd] at hh
      have hph : p ≤ h := by omega
      have hhq : h < q := by omega
      have hhl : h < l0.length := by omega
      obtain ⟨ad, A1, c1, e, hx0, hx1, hx2, hx3⟩ := at_T47 HR.out (h : Int) (by omega) (by omega)
      cases e
      replace hx0 := (HB.out.cell (lc_ w _ hx0)).trans hx0
      replace hx1 := (HB.out.cell (lc_ w _ hx1)).trans hx1
      rw [Int.toNat_natCast] at hx0 hx1
      have HX2 := mk_ hx2
      have HX3 := mk_ (Kd.C_below hx3 HB.out)
      have HF := mk_ (And.intro hph (And.intro hhq (And.intro hpq hq)))
      clear hx2 hx3 hd
      by_cases hc : (rd_T47 l0 (h : Int)).f0 < t
      · have hneg : decide (cmpI (rd_T47 l0 (h : Int)).f0 t < 0) = true := (cmpI_neg _ _).trans (decide_eq_true hc)
        have HC := mk_ hc
        have hwn := wrap_next h (by have := HS.out; omega)
        clear hc
        go_wp2_with (go_at_call 85; (with_reducible refine (impl_portAt_1.calls (rd_T47 l0 (h : Int)).f0 _ _ (rd_T47 l0 (h : Int)).f1 t _ _ ?s1 ?s2 (portAt_1_at _ _ _)).mono ?_); (case s1 => exact HX3.out); (case s2 => exact HX2.out); rintro e w1 ⟨rfl, hb⟩; have HB1 := mk_ (below_step HB.out hb); clear hb)
        go_roundw
        case rel => exact ⟨h + 1, q, by have := HF.out; omega, HF.out.2.2.2, by rw [wrap_next h (by have := HS.out; have := HF.out; omega)], rfl, ⟨fun x hx => by
          rcases Nat.lt_or_eq_of_le (Nat.lt_succ_iff.mp hx) with h1 | h1
          · have := HU.out x h h1 (by have := HF.out; omega)
            have := HC.out
            omega
          · rw [h1]; exact HC.out⟩, HG, HB1⟩
        case measure => have h1_ := HF.out; rw [wrap_next h (by have := HS.out; omega)]; simp only [intOf, Int.toNat_natCast]; omega
      · have hneg : decide (cmpI (rd_T47 l0 (h : Int)).f0 t < 0) = false := (cmpI_neg _ _).trans (decide_eq_false hc)
        have HC := mk_ hc
        clear hc
        go_wp2_with (go_at_call 85; (with_reducible refine (impl_portAt_1.calls (rd_T47 l0 (h : Int)).f0 _ _ (rd_T47 l0 (h : Int)).f1 t _ _ ?s1 ?s2 (portAt_1_at _ _ _)).mono ?_); (case s1 => exact HX3.out); (case s2 => exact HX2.out); rintro e w1 ⟨rfl, hb⟩; have HB1 := mk_ (below_step HB.out hb); clear hb)
        go_roundw
        case rel => exact ⟨p, h, HF.out.1, by have := HF.out; omega, rfl, rfl, HL, ⟨fun x hx hx2 => by
          rcases Nat.eq_or_lt_of_le hx with h1 | h1
          · rw [← h1]; have := HC.out; omega
          · have := HU.out h x h1 hx2
            have := HC.out
            omega⟩, HB1⟩
        case measure => have h1_ := HF.out; simp only [intOf, Int.toNat_natCast]; omega
    · obtain rfl : p = q := by omega
      by_cases hend : p < l0.length
      · obtain ⟨ad, A1, c1, e, hx0, hx1, hx2, hx3⟩ := at_T47 HR.out (p : Int) (by omega) (by omega)
        cases e
        replace hx0 := (HB.out.cell (lc_ w _ hx0)).trans hx0
        replace hx1 := (HB.out.cell (lc_ w _ hx1)).trans hx1
        rw [Int.toNat_natCast] at hx0 hx1
        have HX2 := mk_ hx2
        have HX3 := mk_ (Kd.C_below hx3 HB.out)
        have b0 : decide (p < l0.length) = true := decide_eq_true hend
        have BE := mk_ (show (cmpI (rd_T47 l0 (p : Int)).f0 t == 0) = true ↔ p < l0.length ∧ (rd_T47 l0 (p : Int)).f0 = t from by rw [cmpI_zero]; simp [hend])
        have b1 : decide ((p : Int) < (l0.length : Int)) = true := decide_eq_true (by omega)
        clear hx2 hx3
        go_wp2_with (go_at_call 85; (with_reducible refine (impl_portAt_1.calls (rd_T47 l0 (p : Int)).f0 _ _ (rd_T47 l0 (p : Int)).f1 t _ _ ?s1 ?s2 (portAt_1_at _ _ _)).mono ?_); (case s1 => exact HX3.out); (case s2 => exact HX2.out); rintro e w1 ⟨rfl, hb⟩; have HB1 := mk_ (below_step HB.out hb); clear hb)
        refine bodyPost_ret (results_list (rs := [.tmp 6, .tmp 7]) rfl (by simp) (.tmp (.tmp .nil))) rfl ?_
        exact ⟨⟨p, _, hq, HL.out, HG.out, BE.out, rfl⟩, HB1.out⟩
      · have b0 : decide (p < l0.length) = false := decide_eq_false hend
        have b1 : decide ((p : Int) < (l0.length : Int)) = false := decide_eq_false (by omega)
        have BE := mk_ (show false = true ↔ p < l0.length ∧ (rd_T47 l0 (p : Int)).f0 = t from by simp [hend])
        go_wp2
        refine bodyPost_ret (results_list (rs := [.tmp 6, .tmp 7]) rfl (by simp) (.tmp (.tmp .nil))) rfl ?_
        exact ⟨⟨p, _, hq, HL.out, HG.out, BE.out, rfl⟩, HB.out⟩
/-- The place of a port: the first whose number is not less. -/
theorem impl_portAt.calls (A0 : Option Addr) (c0 : Nat) (l0 : List S47) (t : Int) (w : World) (hr0 : Kd.C k47 w A0 l0.length l0) (hs : l0.length ≤ 1000) (hu : up47 l0) :
    Calls Try.prog 54 #[.slice A0 l0.length c0, .int .i64 t] w fun e w' => (∃ (p : Nat) (b : Bool), p ≤ l0.length ∧ (∀ x : Nat, x < p → (rd_T47 l0 (x : Int)).f0 < t) ∧ (∀ x : Nat, p ≤ x → x < l0.length → t ≤ (rd_T47 l0 (x : Int)).f0) ∧ (b = true ↔ p < l0.length ∧ (rd_T47 l0 (p : Int)).f0 = t) ∧ e = .returned (.tuple #[.int .i64 p, .bool b])) ∧ Below w.heap.size w w' := by
  have HR := mk_ hr0
  have HS := mk_ hs
  have HU := mk_ hu
  clear hr0 hs hu
  go_enter Try.func54, Try.ntmps54
  go_wp2_with (go_at_call 84; (with_reducible refine (bsearch.calls A0 c0 l0 t _ ?s1 ?s2 ?s3).mono ?_); (case s1 => exact HR.out); (case s2 => exact HS.out); (case s3 => exact HU.out); rintro e w1 ⟨⟨p, b, hp, hl, hg, hbb, rfl⟩, hb⟩; have HP := mk_ (And.intro hp (And.intro hl (And.intro hg hbb))); have HB1 := mk_ hb; clear hp hl hg hbb hb)
  refine bodyPost_ret (results_list (rs := [.tmp 4, .tmp 5]) rfl (by simp) (.tmp (.tmp .nil))) rfl ?_
  exact ⟨⟨p, b, HP.out.1, HP.out.2.1, HP.out.2.2.1, HP.out.2.2.2, rfl⟩, HB1.out⟩
theorem find_at (l : List S47) (a : Int) (p : Nat) (hp : p < l.length) (hl : ∀ x : Nat, x < p → (rd_T47 l (x : Int)).f0 < a) (h : (rd_T47 l (p : Int)).f0 = a) : l.findIdx (fun p => p.f0 == a) = p := by
  rw [List.findIdx_eq hp]
  have e : ∀ x : Nat, (hx : x < l.length) → rd_T47 l (x : Int) = l[x] := fun x hx => by
    unfold rd_T47
    rw [Int.toNat_natCast, List.getD_eq_getElem?_getD, List.getElem?_eq_getElem hx]
    rfl
  refine ⟨by rw [← e p hp, h]; simp, fun j hj => ?_⟩
  have := hl j hj
  rw [e j (by omega)] at this
  simp
  omega
theorem find_none (l : List S47) (a : Int) (p : Nat) (hl : ∀ x : Nat, x < p → (rd_T47 l (x : Int)).f0 < a) (hg : ∀ x : Nat, p ≤ x → x < l.length → a ≤ (rd_T47 l (x : Int)).f0) (hu : up47 l) (h : ¬ (p < l.length ∧ (rd_T47 l (p : Int)).f0 = a)) : ¬ l.findIdx (fun p => p.f0 == a) < l.length := by
  intro hlt
  have h1 := List.findIdx_getElem (w := hlt)
  have e : ∀ x : Nat, (hx : x < l.length) → rd_T47 l (x : Int) = l[x] := fun x hx => by
    unfold rd_T47
    rw [Int.toNat_natCast, List.getD_eq_getElem?_getD, List.getElem?_eq_getElem hx]
    rfl
  rw [← e _ hlt] at h1
  have h2 : (rd_T47 l ((l.findIdx (fun p => p.f0 == a) : Nat) : Int)).f0 = a := by simpa using h1
  generalize l.findIdx (fun p => p.f0 == a) = i at *
  rcases Nat.lt_or_ge i p with h3 | h3
  · have := hl i h3; omega
  · rcases Nat.eq_or_lt_of_le h3 with h4 | h4
    · subst h4; exact h ⟨hlt, h2⟩
    · have h5 := hu p i h4 hlt
      have := hg p (Nat.le_refl _) (by omega)
      omega
def place47 (l : List S47) (t : Int) (p : Nat) (b : Bool) : Prop := p ≤ l.length ∧ (∀ x : Nat, x < p → (rd_T47 l (x : Int)).f0 < t) ∧ (∀ x : Nat, p ≤ x → x < l.length → t ≤ (rd_T47 l (x : Int)).f0) ∧ (b = true ↔ p < l.length ∧ (rd_T47 l (p : Int)).f0 = t)
theorem place47_one {l : List S47} {t : Int} {p q : Nat} {b c : Bool} (h : place47 l t p b) (k : place47 l t q c) : p = q ∧ b = c := by
  obtain ⟨h1, h2, h3, h4⟩ := h
  obtain ⟨k1, k2, k3, k4⟩ := k
  have e : p = q := by
    rcases Nat.lt_trichotomy p q with h | h | h
    · have := k2 p h; have := h3 p (Nat.le_refl _) (by omega); omega
    · exact h
    · have := h2 q h; have := k3 q (Nat.le_refl _) (by omega); omega
  subst e
  refine ⟨rfl, ?_⟩
  cases b <;> cases c <;> simp_all
theorem place47_is (l : List S47) (t : Int) (hu : up47 l) : ∃ p b, place47 l t p b := by
  have key : ∀ n : Nat, n ≤ l.length → ∃ p : Nat, p ≤ n ∧ (∀ x : Nat, x < p → (rd_T47 l (x : Int)).f0 < t) ∧ (∀ x : Nat, p ≤ x → x < n → t ≤ (rd_T47 l (x : Int)).f0) := by
    intro n
    induction n with
    | zero => exact fun _ => ⟨0, Nat.le_refl _, fun x hx => by omega, fun x _ hx => by omega⟩
    | succ n ih =>
      intro hn
      obtain ⟨p, hp, h1, h2⟩ := ih (by omega)
      by_cases hpn : p = n
      · by_cases hlt : (rd_T47 l (n : Int)).f0 < t
        · refine ⟨n + 1, Nat.le_refl _, fun x hx => ?_, fun x h3 h4 => by omega⟩
          rcases Nat.lt_or_eq_of_le (Nat.lt_succ_iff.mp hx) with h5 | h5
          · exact h1 x (by omega)
          · rw [h5]; exact hlt
        · refine ⟨n, by omega, fun x hx => h1 x (by omega), fun x h3 h4 => ?_⟩
          have : x = n := by omega
          subst this
          omega
      · refine ⟨p, by omega, h1, fun x h3 h4 => ?_⟩
        rcases Nat.lt_or_eq_of_le (Nat.lt_succ_iff.mp h4) with h5 | h5
        · exact h2 x h3 h5
        · subst h5
          have := hu p x (by omega) (by omega)
          have := h2 p (Nat.le_refl _) (by omega)
          omega
  obtain ⟨p, hp, h1, h2⟩ := key l.length (Nat.le_refl _)
  exact ⟨p, decide (p < l.length ∧ (rd_T47 l (p : Int)).f0 = t), hp, h1, h2, by simp⟩
theorem impl_portAt.at_ (A0 : Option Addr) (c0 : Nat) (l0 : List S47) (t : Int) (p : Nat) (b : Bool) (w : World) (hr0 : Kd.C k47 w A0 l0.length l0) (hs : l0.length ≤ 1000) (hu : up47 l0) (hp : place47 l0 t p b) :
    Calls Try.prog 54 #[.slice A0 l0.length c0, .int .i64 t] w fun e w' => e = .returned (.tuple #[.int .i64 p, .bool b]) ∧ Below w.heap.size w w' := by
  refine (impl_portAt.calls A0 c0 l0 t w hr0 hs hu).mono ?_
  rintro e w' ⟨⟨q, c, h1, h2, h3, h4, rfl⟩, hb⟩
  obtain ⟨rfl, rfl⟩ := place47_one hp ⟨h1, h2, h3, h4⟩
  exact ⟨rfl, hb⟩
theorem place47_find {l : List S47} {t : Int} {p : Nat} (h : place47 l t p true) : l.findIdx (fun p => p.f0 == t) = p ∧ p < l.length ∧ (rd_T47 l (p : Int)).f0 = t := by
  obtain ⟨h1, h2, h3, h4⟩ := h
  obtain ⟨h5, h6⟩ := h4.mp rfl
  exact ⟨find_at l t p h5 h2 h6, h5, h6⟩
theorem place47_none {l : List S47} {t : Int} {p : Nat} (h : place47 l t p false) (hu : up47 l) : ¬ l.findIdx (fun p => p.f0 == t) < l.length := by
  obtain ⟨h1, h2, h3, h4⟩ := h
  exact find_none l t p h2 h3 hu (fun hk => by simpa using h4.mpr hk)
end Go.Proofs.Ytkkibccnpkbbjaa.MFnPortsOk
