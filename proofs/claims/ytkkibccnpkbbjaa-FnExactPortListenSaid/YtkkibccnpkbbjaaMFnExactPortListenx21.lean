/- Functions that the law FnExactPortListen reaches, typed by hand (part 2 of 2): what the program's and the reference's ports' functions do, and the walk of the law; no conditions but those that each theorem states. -/
import Derived.Test.YtkkibccnpkbbjaaMFnExactPortListenx20
import Derived.StillTailTactics
import Derived.IntWalk
import Derived.Deep.RegionHeld3
import Derived.Shelf.Spec.SlicesInsertGrow
namespace Go.Proofs.Ytkkibccnpkbbjaa.MFnExactPortTake
open Go.RowKit Go.Proofs.YtkkibccnpkbbjaaV.PrintWords Go.Proofs.YtkkibccnpkbbjaaV.PrintLast Go.Proofs.YtkkibccnpkbbjaaV.PrintMore
attribute [local go_sem] max2_int min2_int max_two min_two max_three min_three max_four min_four
set_option linter.unusedVariables false
set_option linter.unusedSimpArgs false
/-! ### spec.PortListen -/
theorem num_in (a : Int) : spec_l1In.f a 1 255 = some (impl_PortsOk.num a) := by
  unfold spec_l1In.f impl_PortsOk.num
  by_cases h : a ≥ 1
  · rw [if_pos h, show decide (1 ≤ a) = true from decide_eq_true h, Bool.true_and]
  · rw [if_neg h, show decide (1 ≤ a) = false from decide_eq_false h, Bool.false_and]
/-- The ports with one put in. -/
def putP (l : List S47) (a : Int) (i : Nat) : List S47 := l.take i ++ [⟨a, []⟩] ++ l.drop i
theorem putP_length (l : List S47) (a : Int) (i : Nat) (hi : i ≤ l.length) : (putP l a i).length = l.length + 1 := put_length hi a
theorem putP_take (l : List S47) (a : Int) (i q : Nat) (hq : q ≤ i) (hi : i ≤ l.length) : (putP l a i).take q = l.take q := by
  unfold putP
  rw [List.append_assoc, List.take_append_of_le_length (by rw [List.length_take]; omega), List.take_take, Nat.min_eq_left hq]
theorem putP_at (l : List S47) (a : Int) (i : Nat) (hi : i ≤ l.length) : (putP l a i).take (i + 1) = l.take i ++ [⟨a, []⟩] := by
  unfold putP
  rw [List.take_append_of_le_length (by simp only [List.length_append, List.length_take, List.length_singleton]; omega), List.take_of_length_le (by simp only [List.length_append, List.length_take, List.length_singleton]; omega)]
theorem putP_next (l : List S47) (a : Int) (i q : Nat) (hq : i ≤ q) (h : q < l.length) : (putP l a i).take (q + 2) = (putP l a i).take (q + 1) ++ [rd_T47 l (q : Int)] := by
  have hlen := putP_length l a i (by omega)
  have hg : (putP l a i)[q + 1]? = some (rd_T47 l (q : Int)) := by
    unfold putP
    rw [List.getElem?_append_right (by simp only [List.length_append, List.length_take, List.length_singleton]; omega)]
    simp only [List.length_append, List.length_take, List.length_singleton, List.getElem?_drop]
    rw [show i + (q + 1 - (min i l.length + 1)) = q by omega, List.getElem?_eq_getElem h]
    unfold rd_T47
    rw [Int.toNat_natCast, List.getD_eq_getElem?_getD, List.getElem?_eq_getElem h]
    rfl
  rw [List.take_add_one, hg]
  rfl
theorem findIdx_le_of {l : List S47} {p : S47 → Bool} {q : Nat} (h : q < l.length) (hp : p (rd_T47 l (q : Int)) = true) : l.findIdx p ≤ q := by
  have e : rd_T47 l (q : Int) = l[q] := by
    unfold rd_T47
    rw [Int.toNat_natCast, List.getD_eq_getElem?_getD, List.getElem?_eq_getElem h]
    rfl
  rw [e] at hp
  rcases Nat.lt_or_ge q (l.findIdx p) with hlt | hge
  · have := List.not_of_lt_findIdx hlt
    rw [hp] at this
    cases this
  · exact hge
theorem findIdx_gt_of {l : List S47} {p : S47 → Bool} {q : Nat} (h : q < l.length) (hq : q ≤ l.findIdx p) (hp : p (rd_T47 l (q : Int)) = false) : q + 1 ≤ l.findIdx p := by
  have e : rd_T47 l (q : Int) = l[q] := by
    unfold rd_T47
    rw [Int.toNat_natCast, List.getD_eq_getElem?_getD, List.getElem?_eq_getElem h]
    rfl
  rcases Nat.eq_or_lt_of_le hq with h1 | h1
  · exfalso
    have h2 : l.findIdx p < l.length := by omega
    have h3 := List.findIdx_getElem (w := h2)
    rw [e] at hp
    have h4 : p l[q] = true := by
      have : l[q] = l[l.findIdx p] := by congr 1
      rw [this]
      exact h3
    rw [hp] at h4
    cases h4
  · exact h1
/-! ### spec.l9Copy: rows that lie apart -/
theorem inn47_mail2 {wi w6 : World} {base g8 : Nat} {a f t : Int} {v6 : Value} {D : List Int} {cs : Array Value} (hr : (Kd.int .u8).R 5 w6 wi.heap.size (fun k => wi.heap.size ≤ k) v6 D) (hb : base ≤ wi.heap.size) (hbox : w6.heap[g8]? = some (.cells cs 40 (0, 0))) : k40.M (w6.setCell ⟨g8, 3, none⟩ v6) base (fun k => wi.heap.size ≤ k) (⟨a, f, t, D⟩ : S40) [.int .i64 a, .int .i64 f, .int .i64 t, v6] :=
  k40_mkM _ _ _ ⟨a, f, t, D⟩ (Kd.R_lower (Kd.R_set hr hbox (by decide) 3 v6) hb)
theorem copy_port {w : World} {B gb : Nat} {N : Int} {u : Value} {xs : List S47} {wi : World} {v : Value} {L : List S40} (h : inn47 w B gb N u xs wi v L) :
    k47S.M wi w.heap.size (fun k => B ≤ k) (⟨N, L⟩ : S47) [.int .i64 N, v] ∧ (∀ k, B ≤ k → True ∧ some k ≠ u.ownBlock) ∧ Kd.S k47S 47 wi w.heap.size (fun k => True ∧ ¬ B ≤ k) u xs ∧ Below w.heap.size w wi := by
  obtain ⟨h1, h2, h3, h4, h5, h6, h7⟩ := h
  refine ⟨k47S_mkM _ _ _ ⟨N, L⟩ h2, fun k hk => ⟨trivial, fun e => ?_⟩, Kd.S_mono h3 (fun k hk => ⟨trivial, by omega⟩), h4⟩
  have := (Kd.S_R h3).1 k e.symm
  omega
set_option maxHeartbeats 2000000 in
set_option maxRecDepth 100000 in
theorem l9Copy_apart (A0 : Option Addr) (c0 : Nat) (l0 : List S47) (w : World) (hr0 : Kd.C k47 w A0 l0.length l0) (hs : small47 l0) :
    Calls Try.prog 52 #[.slice A0 l0.length c0] w fun e w' => ∃ (A1 : Option Addr) (c1 : Nat), e = .returned (.slice A1 l0.length c1) ∧ Kd.S k47S 47 w' w.heap.size (fun _ => True) (.slice A1 l0.length c1) l0 ∧ Below w.heap.size w w' := by
  have hu47 := Try.underlying47
  have hu40 := Try.underlying40
  have HR := mk_ hr0
  have HS := mk_ hs
  have HI47 := mk_ info47
  have HI40 := mk_ info40
  have HI5 := mk_ info5
  clear hr0 hs
  go_enter Try.func52, Try.ntmps52
  go_wp2_with (first | ((with_reducible refine gate_dst (N := 8) rfl ?_); refine Kd.S_lit k47S (w0 := w) w.heap.size 47 ?hg (N := 8) ?hd (xs := ([] : List S47)) (inner := []) (ok := fun _ => True) (okp := fun _ => True) ?hr ?hp (fun _ hk => hk) trivial (Below.refl _ _) (Nat.le_refl _) (by simp) ?_; (case hd => rfl); (case hg => rfl); (case hr => first | (go_simp; done) | (go_simp; rfl)); (case hp => exact (Reps.none _ _)); intro v1 w1 ho hb hg_ hnew_; have HO := mk_ ho; have HB := mk_ hb; clear ho hb hg_ hnew_))
  go_loopw [3, 4] (fun v i wr => ∃ q : Nat, q ≤ l0.length ∧ i = .int .i64 q ∧ Aside0 (Kd.S k47S 47 wr w.heap.size (fun _ => True) v (l0.take q)) ∧ Aside0 (Below w.heap.size w wr)) (fun _ i _ => l0.length - (intOf i).toNat)
  case atStart => exact ⟨0, Nat.zero_le _, rfl, HO, HB⟩
  case round =>
    obtain ⟨q, hq, rfl, HO, HB⟩ := hrel
    by_cases hlt : q < l0.length
    · obtain ⟨ad, A1, c1, e, hx0, hx1, hx2, hx3⟩ := at_T47 HR.out (q : Int) (by omega) (by omega)
      cases e
      rw [Int.toNat_natCast] at hx0 hx1
      have HXW := mk_ hx1
      replace hx0 := (HB.out.cell (lc_ w _ hx0)).trans hx0
      replace hx1 := (HB.out.cell (lc_ w _ hx1)).trans hx1
      have hsp := HS.out.2 _ (rd47_mem l0 q hlt)
      have ht := take47 l0 q hlt
      obtain ⟨P, hP⟩ : ∃ P, rd_T47 l0 (q : Int) = P := ⟨_, rfl⟩
      obtain ⟨N, L⟩ := P
      rw [hP] at hx0 hx1 hx2 hx3 hsp ht HXW
      dsimp only at hx0 hx1 hx2 hx3 hsp HXW
      have HX2 := mk_ hx2
      have HX3 := mk_ hx3
      have HSP := mk_ hsp
      have HT := mk_ ht
      have HQL := mk_ hlt
      clear hx2 hx3 hsp ht hP
      obtain ⟨B, hB⟩ : ∃ B, wr.heap.size = B := ⟨_, rfl⟩
      have HBB := mk_ hB
      clear hB
      go_wp2_with (first | ((with_reducible refine gate_dst (N := 5) rfl ?_); refine box_event ?hg (N := 5) ?hd (cs := #[.int .i64 0, .slice none 0 0]) (t := 47) ?hr ?_; (case hd => rfl); (case hg => rfl); (case hr => first | (go_simp; done) | (go_simp; rfl)); intro gq hgq w3 hboxq hbq; have HQ := mk_ (show wr.heap.size ≤ gq from Nat.le_of_eq hgq.symm); have HBR := mk_ hbq; have ge2 := ge_ HQ.out; have HBQ := mk_ hboxq; obtain ⟨_, _, _, _⟩ := cells2_ hboxq; clear hbq hboxq hgq))
      have HIN := mk_ (inn47_start (gq := gq) (N := N) HO.out HB.out (us_ HBR.out) (blk_put (cs := #[.int .i64 N, .slice none 0 0]) (blk_put (cs := #[.int .i64 0, .slice none 0 0]) HBQ.out 0 (.int .i64 N) rfl) 1 (.slice none 0 0) rfl) HQ.out)
      rw [HBB.out] at HIN
      clear HBR HQ HBQ hx0 hx1
      go_loopw [6] (fun i wi => ∃ (j : Nat) (v : Value), j ≤ L.length ∧ i = .int .i64 j ∧ Aside0 (inn47 w B gq N u3 (l0.take q) wi v (L.take j))) (fun i _ => L.length - (intOf i).toNat)
      case atStart => exact ⟨0, _, Nat.zero_le _, rfl, HIN⟩
      case round =>
        obtain ⟨j, v, hj, rfl, HIN⟩ := hrel
        have hx1 := (HIN.out.2.2.2.1.cell (lc_ w _ HXW.out)).trans HXW.out
        by_cases hlt2 : j < L.length
        · obtain ⟨ad3, A3, c3, e, hy0, hy1, hy2, hy3, hy4, hy5⟩ := at_T40 HX3.out (j : Int) (by omega) (by omega)
          cases e
          have HBW := HIN.out.2.2.2.1
          replace hy0 := (HBW.cell (lc_ w _ hy0)).trans hy0
          replace hy1 := (HBW.cell (lc_ w _ hy1)).trans hy1
          replace hy2 := (HBW.cell (lc_ w _ hy2)).trans hy2
          replace hy3 := (HBW.cell (lc_ w _ hy3)).trans hy3
          rw [Int.toNat_natCast] at hy0 hy1 hy2 hy3
          have hsd := HSP.out.2 _ (rd40_mem L j hlt2)
          have ht := take40 L j hlt2
          obtain ⟨P, hP⟩ : ∃ P, rd_T40 L (j : Int) = P := ⟨_, rfl⟩
          obtain ⟨a, f, t, D⟩ := P
          rw [hP] at hy0 hy1 hy2 hy3 hy4 hy5 hsd ht
          dsimp only at hy0 hy1 hy2 hy3 hy4 hy5 hsd
          obtain ⟨Y, hY⟩ : ∃ Y, L.take j = Y := ⟨_, rfl⟩
          have hyl : Y.length ≤ L.length := by rw [← hY]; exact List.length_take_le' j L
          rw [hY] at HIN ht
          have HYL := mk_ hyl
          obtain ⟨Y1, hY1⟩ : ∃ Y1, Y ++ [(⟨a, f, t, D⟩ : S40)] = Y1 := ⟨_, rfl⟩
          rw [hY1] at ht
          have NY := mk_ hY1
          have HJ1 := mk_ (show j + 1 ≤ L.length from hlt2)
          clear hY hyl hY1
          obtain ⟨Av, cv, hv⟩ := Kd.S_slice HIN.out.2.1
          subst hv
          obtain ⟨hq0, hq1, hqf0, hqf1⟩ := inn47_cells HIN.out
          have HY4 := mk_ hy4
          have HY5 := mk_ (Kd.C_below hy5 HBW)
          have HSD := mk_ hsd
          have HT2 := mk_ ht
          have HJ := mk_ hj
          clear hy4 hy5 hsd ht hP HBW
          go_wp2_with (first | ((with_reducible refine gate_dst (N := 7) rfl ?_); refine box_event ?hg (N := 7) ?hd (cs := #[.int .i64 0, .int .i64 0, .int .i64 0, .slice none 0 0]) (t := 40) ?hr ?_; (case hd => rfl); (case hg => rfl); (case hr => first | (go_simp; done) | (go_simp; rfl)); intro g8 hg8 w5 hbox8 hb8; have HG8 := mk_ (show wr.heap.size ≤ g8 from Nat.le_of_eq hg8.symm); have HB5 := mk_ hb8; have HBX8 := mk_ hbox8; have ge8 := ge_ HG8.out; obtain ⟨_, _, _, _, _, _, _, _⟩ := cells4_ hbox8; clear hg8 hbox8 hb8) | ((with_reducible refine gate_dst (N := 39) rfl ?_); refine Kd.R_lit (Kd.int .u8) (w0 := wr) wr.heap.size 5 ?hg (N := 39) ?hd (xs := ([] : List Int)) (inner := []) (ok := fun k => wr.heap.size ≤ k) (okp := fun k => wr.heap.size ≤ k) ?hr ?hp (fun _ hk => hk) ?hf ?hb ?hz (by simp) ?_; (case hd => rfl); (case hg => rfl); (case hr => first | (go_simp; done) | (go_simp; rfl)); (case hp => exact (Reps.none _ _)); (case hb => exact us_ HB5.out); (case hz => exact (below_box4 HB5.out HG8.out _ _ _ _).size); (case hf => exact (below_box4 HB5.out HG8.out _ _ _ _).size); intro vl wl ho hb hg_ hnew_; have HXL := mk_ (blk_grown (inn47_box4 HBX8.out (a := a) (f := f) (t := t) (v3 := .slice A3 D.length c3)) hg_ (by simp)); have HOL := mk_ ho; have HBL := mk_ hb; obtain ⟨_, _, _, _, _, _, _, _⟩ := cells4_ HXL.out; clear ho hb hg_ hnew_) | ((with_reducible refine gate_builtin (b := .append) (xs := #[.tmp 39, .tmp 41]) rfl ?_); at_builtin; refine Kd.R_append_rows (Kd.int .u8) (w0 := wr) wr.heap.size rfl (.tmp 39) (.tmp 41) 29 5 (.int .u8 0) 1 rfl Try.underlying29 HI5.out rfl (by decide) (by omega) vl ([] : List Int) D A3 D.length c3 (fun k => wr.heap.size ≤ k) (fun _ => False) rfl rfl HOL.out (Kd.C_below HY5.out HBL.out) (fun _ _ h => h) (fun _ h => h.elim) (fun k hk => Nat.le_trans HBL.out.size hk) HBL.out HBL.out.size (by have := HSD.out; simp only [List.length_nil]; omega) ?_; intro v6 w6 ho hb hg hat; rw [List.nil_append] at ho; obtain ⟨A6, c6, hv6⟩ := Kd.R_slice ho; subst hv6; have HX8 := mk_ (blk_grown HXL.out hg (Kd.R_ne HOL.out HXL.out (by decide))); have HB6 := mk_ hb; have HR6 := mk_ ho; replace hq1 := (HB6.out.cell (lc_ _ _ hq1)).trans hq1; have hn8 : gq ≠ g8 := (Nat.ne_of_lt (Nat.lt_of_lt_of_le (blk_lt HIN.out.1) HG8.out)); have hn9 := Ne.symm hn8; obtain ⟨_, _, _, _, _, _, _, _⟩ := cells4_ HX8.out; clear hq0 hqf0 hqf1 ho hb hg hat) | ((with_reducible refine gate_builtin (b := .append) (xs := #[.tmp 45, .tmp 47]) rfl ?_); at_builtin; have HW := mk_ (inn47_old HIN.out (us_ HB6.out : Below wr.heap.size wr (w6.setCell ⟨g8, 3, none⟩ (.slice A6 D.length c6)))); have HIW := mk_ (inn47_below HIN.out (us_ HB6.out : Below wr.heap.size wr (w6.setCell ⟨g8, 3, none⟩ (.slice A6 D.length c6)))); refine Kd.S_append k40 (w0 := w) w.heap.size rfl (.tmp 45) (.tmp 47) 45 40 (.agg #[(.int .i64 0), (.int .i64 0), (.int .i64 0), (.slice none 0 0)]) 48 rfl Try.underlying45 HI40.out rfl (by decide) (by omega) (.slice Av Y.length cv) Y (⟨a, f, t, D⟩ : S40) [.int .i64 a, .int .i64 f, .int .i64 t, .slice A6 D.length c6] (fun k => B ≤ k) (fun k => wr.heap.size ≤ k) rfl (slice_at (setCell_size _ _ _).symm) (inn47_mail2 HR6.out HIN.out.2.2.2.1.size HX8.out) HW.out.2.1 HW.out.2.2 HW.out.1 HIW.out.2.2.2.1 HIW.out.2.2.2.1.size (by have h1_ := HSP.out.1; have h2_ := HYL.out; omega) ?_; intro v1 w7 ho hb hg hat; rw [NY.out] at ho; obtain ⟨A7, c7, hv7⟩ := Kd.S_slice ho; subst hv7; obtain ⟨_, _, _, _⟩ := cells2_ (inn47_new HIW.out hg); have HIN7 := mk_ (inn47_put HIW.out ho hb hg); clear ho hb hg hat))
          go_roundw
          case rel => exact ⟨j + 1, _, HJ1.out, by rw [wrap_next j (by have h1_ := HSP.out.1; have h2_ := HJ1.out; omega)], ⟨by rw [HT2.out]; exact HIN7.out⟩⟩
          case measure => have h1_ := HSP.out.1; have h2_ := HJ1.out; rw [wrap_next j (by omega)]; simp only [intOf, Int.toNat_natCast]; omega
        · obtain rfl : j = L.length := by omega
          have HI := HIN.out
          rw [List.take_length] at HI
          obtain ⟨Av, cv, hv⟩ := Kd.S_slice HI.2.1
          subst hv
          obtain ⟨hq0, hq1, hqf0, hqf1⟩ := inn47_cells HI
          have HIQ := mk_ HI
          have HP := mk_ (copy_port HI)
          have HQ1 := mk_ (show q + 1 ≤ l0.length from hlt)
          clear HI HIN
          go_wp2_with ((with_reducible refine gate_builtin (b := .append) (xs := #[.tmp 50, .tmp 52]) rfl ?_); at_builtin; refine Kd.S_append k47S (w0 := w) w.heap.size rfl (.tmp 50) (.tmp 52) 25 47 (.agg #[(.int .i64 0), (.slice none 0 0)]) 32 rfl Try.underlying25 HI47.out rfl (by decide) (by omega) _ (l0.take q) (⟨N, L⟩ : S47) [.int .i64 N, .slice Av L.length cv] (fun _ => True) (fun k => B ≤ k) rfl rfl HP.out.1 HP.out.2.1 (fun _ _ => trivial) HP.out.2.2.1 HP.out.2.2.2 HP.out.2.2.2.size (by have h1_ := HS.out.1; have h2_ := HQL.out; rw [List.length_take]; omega) ?_; intro v1 w7 ho hb hg hat; have HO9 := mk_ ho; have HB9 := mk_ hb; clear ho hb hg hat)
          go_roundw
          case rel => exact ⟨q + 1, HQ1.out, by rw [wrap_next q (by have h1_ := HS.out.1; have h2_ := HQ1.out; omega)], ⟨by rw [HT.out]; exact HO9.out⟩, HB9⟩
          case measure => have h1_ := HS.out.1; have h2_ := HQ1.out; rw [wrap_next q (by omega)]; simp only [intOf, Int.toNat_natCast]; omega
    · obtain rfl : q = l0.length := by omega
      have HO2 := HO.out
      rw [List.take_length] at HO2
      obtain ⟨A2, c2, hv2⟩ := Kd.S_slice HO2
      subst hv2
      have HO3 := mk_ HO2
      clear HO2 HO
      go_wp2
      go_ret
      exact ⟨_, _, rfl, HO3.out, HB.out⟩
theorem old_elem {W : World} {base g n c : Nat} {ok : Nat → Prop} {l : List S47} (h : Kd.R k47 47 W base ok (.slice (some ⟨g, 0, none⟩) n c) l) (q : Nat) (hq : q < n) :
    ∃ A1 c1, W.cell? ⟨g, q * 2, none⟩ = some (.int .i64 (rd_T47 l (q : Int)).f0) ∧ W.cell? ⟨g, q * 2 + 1, none⟩ = some (.slice A1 (rd_T47 l (q : Int)).f1.length c1) ∧ k47.M W base (fun k => ok k ∧ k ≠ g) (rd_T47 l (q : Int)) [.int .i64 (rd_T47 l (q : Int)).f0, .slice A1 (rd_T47 l (q : Int)).f1.length c1] := by
  obtain ⟨cs, hcl, hM, hcc, hfr⟩ := Kd.R_elem h z47 (q : Int) (by omega) (by omega)
  have hM' : k47.M W base (fun k => ok k ∧ k ≠ g) (rd_T47 l (q : Int)) cs := hM
  obtain ⟨v1, rfl, g1⟩ := k47_openM hM'
  obtain ⟨A1, c1, hv1⟩ := Kd.R_slice g1
  subst hv1
  rw [Int.toNat_natCast] at hcc
  exact ⟨A1, c1, hcc 0 _ rfl, hcc 1 _ rfl, hM'⟩
set_option maxHeartbeats 4000000 in
set_option maxRecDepth 100000 in
theorem specListen (k : Nat) (A0 : Option Addr) (n c0 : Nat) (l0 : List S47) (a1 v : Int) (r : Bool) (o : List S47) (d : Bool) (w : World) (hn : n = l0.length) (hr0 : Kd.C k47 w A0 l0.length l0) (hc0 : l0.length ≤ c0) (hpo : spec_PortsOk.f k l0 = some r) (hs : r = true → small47 l0 ∧ l0.length ≤ 4) (hat : r = true → spec_l9At.f k l0 a1 = some v) (hv : 0 ≤ v ↔ l0.findIdx (fun p => p.f0 == a1) < l0.length) (hl : listenP r l0 a1 = (o, d)) :
    Calls Try.prog 18 #[.slice A0 n c0, .int .i64 a1] w fun e w' => ∃ (A1 : Option Addr) (c1 : Nat), e = .returned (.tuple #[.slice A1 o.length c1, .bool d]) ∧ Kd.R k47 47 w' w.heap.size (fun _ => True) (.slice A1 o.length c1) o ∧ Below w.heap.size w w' := by
  subst hn
  have hu47 := Try.underlying47
  have HI47 := mk_ info47
  have HR := mk_ hr0
  have HC0 := mk_ hc0
  have HPO := mk_ hpo
  have HS := mk_ hs
  have HL := mk_ hl
  clear hr0 hc0 hpo hs hl
  cases r with
  | false =>
    have h1 : listenP false l0 a1 = ([], false) := by unfold listenP; rw [if_pos (.inl rfl)]
    have h2 := HL.out
    rw [h1] at h2
    injection h2 with h2 h3
    subst h2
    subst h3
    clear h1 hv hat
    go_enter Try.func18, Try.ntmps18
    go_wp2_with (first | (go_at_call 12; (with_reducible refine (spec_PortsOk.calls k A0 c0 l0 false _ ?s1 ?s2 HPO.out).mono ?_); (case s1 => exact HR.out); (case s2 => exact HC0.out); rintro e w3 ⟨rfl, hb⟩; have HB3 := mk_ hb; clear hb) | ((with_reducible refine gate_dst (N := 18) rfl ?_); refine Kd.R_lit k47 (w0 := w) w.heap.size 47 ?hg (N := 18) ?hd (xs := ([] : List S47)) (inner := []) (ok := fun _ => True) (okp := fun _ => True) ?hr ?hp (fun _ hk => hk) trivial HB3.out HB3.out.size (by simp) ?_; (case hd => rfl); (case hg => rfl); (case hr => first | (go_simp; done) | (go_simp; rfl)); (case hp => exact (Reps.none _ _)); intro v1 w1 ho hb hg_ hnew_; obtain ⟨A5, c5, hv5⟩ := Kd.R_slice ho; subst hv5; have HO := mk_ ho; have HB := mk_ hb; clear ho hb hg_ hnew_))
    refine bodyPost_ret (results_list (rs := [.tmp 4, .tmp 5]) rfl (by simp) (.tmp (.tmp .nil))) rfl ?_
    exact ⟨_, _, rfl, HO.out, HB.out⟩
  | true =>
    obtain ⟨hsm, hl4⟩ := HS.out rfl
    have HSM := mk_ hsm
    have HL4 := mk_ hl4
    have HAT := mk_ (hat rfl)
    clear hsm HS hat
    by_cases hnum : impl_PortsOk.num a1 = false
    · have h1 : listenP true l0 a1 = ([], false) := by unfold listenP; rw [if_pos (.inr hnum)]
      have h2 := HL.out
      rw [h1] at h2
      injection h2 with h2 h3
      subst h2
      subst h3
      have hnu := num_in a1
      rw [hnum] at hnu
      have HNUM := mk_ hnu
      clear h1 hv hnum hnu
      go_enter Try.func18, Try.ntmps18
      go_wp2_with (first | (go_at_call 12; (with_reducible refine (spec_PortsOk.calls k A0 c0 l0 true _ ?s1 ?s2 HPO.out).mono ?_); (case s1 => exact HR.out); (case s2 => exact HC0.out); rintro e w3 ⟨rfl, hb⟩; have HB3 := mk_ hb; clear hb) | (go_at_call 40; (with_reducible refine (spec_l1In.calls a1 1 255 false _ HNUM.out).mono ?_); rintro e w' ⟨rfl, hd⟩; have HB3 := mk_ (below_step HB3.out hd.below); clear hd) | ((with_reducible refine gate_dst (N := 18) rfl ?_); refine Kd.R_lit k47 (w0 := w) w.heap.size 47 ?hg (N := 18) ?hd (xs := ([] : List S47)) (inner := []) (ok := fun _ => True) (okp := fun _ => True) ?hr ?hp (fun _ hk => hk) trivial HB3.out HB3.out.size (by simp) ?_; (case hd => rfl); (case hg => rfl); (case hr => first | (go_simp; done) | (go_simp; rfl)); (case hp => exact (Reps.none _ _)); intro v1 w1 ho hb hg_ hnew_; obtain ⟨A5, c5, hv5⟩ := Kd.R_slice ho; subst hv5; have HO := mk_ ho; have HB := mk_ hb; clear ho hb hg_ hnew_))
      refine bodyPost_ret (results_list (rs := [.tmp 4, .tmp 5]) rfl (by simp) (.tmp (.tmp .nil))) rfl ?_
      exact ⟨_, _, rfl, HO.out, HB.out⟩
    · replace hnum : impl_PortsOk.num a1 = true := by simpa using hnum
      have hnu := num_in a1
      rw [hnum] at hnu
      have HNUM := mk_ hnu
      by_cases hout : 0 ≤ v ∨ l0.length = 4
      · have h1 : listenP true l0 a1 = (l0, false) := by
          unfold listenP
          rw [if_neg (by simp [hnum]), if_pos]
          rcases hout with h | h
          · exact .inl (hv.mp h)
          · exact .inr (by omega)
        have h2 := HL.out
        rw [h1] at h2
        injection h2 with h2 h3
        subst h2
        subst h3
        have hb30 : decide (v ≥ 0) = true ∨ (decide (v ≥ 0) = false ∧ ((l0.length : Int) == 4) = true) := by
          by_cases h : 0 ≤ v
          · exact .inl (decide_eq_true h)
          · exact .inr ⟨decide_eq_false (by omega), by
              rcases hout with h4 | h4
              · exact absurd h4 h
              · exact beq_iff_eq.mpr (by omega)⟩
        clear hout h1 hv hnum hnu hl4
        rcases hb30 with hb30 | ⟨hb30, hb31⟩
        all_goals
          go_enter Try.func18, Try.ntmps18
          go_wp2_with (first | (go_at_call 12; (with_reducible refine (spec_PortsOk.calls k A0 c0 l0 true _ ?s1 ?s2 HPO.out).mono ?_); (case s1 => exact HR.out); (case s2 => exact HC0.out); rintro e w3 ⟨rfl, hb⟩; have HB3 := mk_ hb; clear hb) | (go_at_call 40; (with_reducible refine (spec_l1In.calls a1 1 255 true _ HNUM.out).mono ?_); rintro e w' ⟨rfl, hd⟩; have HB3 := mk_ (below_step HB3.out hd.below); clear hd) | (go_at_call 51; (with_reducible refine (spec_l9At.calls k A0 c0 l0 a1 v _ ?s1 ?s2 HAT.out).mono ?_); (case s1 => exact Kd.C_below HR.out HB3.out); (case s2 => exact HC0.out); rintro e w' ⟨rfl, hd⟩; have HB3 := mk_ (below_step HB3.out hd.below); clear hd) | (go_at_call 52; (with_reducible refine (l9Copy_apart A0 c0 l0 _ ?s1 ?s2).mono ?_); (case s1 => exact Kd.C_below HR.out HB3.out); (case s2 => exact HSM.out); rintro e w6 ⟨Ao, co, rfl, ho, hb⟩; have HB6 := mk_ (below_step HB3.out hb); have HO := mk_ (Kd.R_lower (k47S_R ho) HB3.out.size); clear ho hb))
          refine bodyPost_ret (results_list (rs := [.tmp 4, .tmp 5]) rfl (by simp) (.tmp (.tmp .nil))) rfl ?_
          exact ⟨_, _, rfl, HO.out, HB6.out⟩
      · have hv0 : ¬ 0 ≤ v := fun h => hout (.inl h)
        have hn4 : l0.length < 4 := by
          have : ¬ l0.length = 4 := fun h => hout (.inr h)
          omega
        have h1 : listenP true l0 a1 = (putP l0 a1 (l0.findIdx (fun p => decide (a1 < p.f0))), true) := by
          unfold listenP
          rw [if_neg (by simp [hnum]), if_neg (fun h => h.elim (fun h => hv0 (hv.mpr h)) (by omega))]
          rfl
        have h2 := HL.out
        rw [h1] at h2
        injection h2 with h2 h3
        subst h3
        have hb30 : decide (v ≥ 0) = false := decide_eq_false (by omega)
        have hb31 : ((l0.length : Int) == 4) = false := by
          cases h : ((l0.length : Int) == 4)
          · rfl
          · have := beq_iff_eq.mp h; omega
        obtain ⟨i, hi⟩ : ∃ i, l0.findIdx (fun p => decide (a1 < p.f0)) = i := ⟨_, rfl⟩
        rw [hi] at h2
        have hil : i ≤ l0.length := by rw [← hi]; exact List.findIdx_le_length
        have HI := mk_ hi
        have HIL := mk_ hil
        have HOO := mk_ h2
        have HLN := mk_ (show l0.length ≤ 1000 from HSM.out.1)
        clear h1 h2 hout hv hnum hnu hl4 hv0 hi hil hn4
        go_enter Try.func18, Try.ntmps18
        go_wp2_with (first | (go_at_call 12; (with_reducible refine (spec_PortsOk.calls k A0 c0 l0 true _ ?s1 ?s2 HPO.out).mono ?_); (case s1 => exact HR.out); (case s2 => exact HC0.out); rintro e w3 ⟨rfl, hb⟩; have HB3 := mk_ hb; clear hb) | (go_at_call 40; (with_reducible refine (spec_l1In.calls a1 1 255 true _ HNUM.out).mono ?_); rintro e w' ⟨rfl, hd⟩; have HB3 := mk_ (below_step HB3.out hd.below); clear hd) | (go_at_call 51; (with_reducible refine (spec_l9At.calls k A0 c0 l0 a1 v _ ?s1 ?s2 HAT.out).mono ?_); (case s1 => exact Kd.C_below HR.out HB3.out); (case s2 => exact HC0.out); rintro e w' ⟨rfl, hd⟩; have HB3 := mk_ (below_step HB3.out hd.below); clear hd) | ((with_reducible refine gate_dst (N := 30) rfl ?_); refine Kd.R_lit k47 (w0 := w) w.heap.size 47 ?hg (N := 30) ?hd (xs := ([] : List S47)) (inner := []) (ok := fun _ => True) (okp := fun _ => True) ?hr ?hp (fun _ hk => hk) trivial HB3.out HB3.out.size (by simp) ?_; (case hd => rfl); (case hg => rfl); (case hr => first | (go_simp; done) | (go_simp; rfl)); (case hp => exact (Reps.none _ _)); intro v1 w1 ho hb hg_ hnew_; obtain ⟨A5, c5, hv5⟩ := Kd.R_slice ho; subst hv5; have HO := mk_ ho; have HB := mk_ hb; clear ho hb hg_ hnew_) | (go_at_call 52; (with_reducible refine (l9Copy_apart A0 c0 l0 _ ?s1 ?s2).mono ?_); (case s1 => exact Kd.C_below HR.out HB.out); (case s2 => exact HSM.out); rintro e w6 ⟨Ao, co, rfl, ho, hb⟩; have HB6 := mk_ (below_step HB.out hb); have hlt_ := Kd.R_lt HO.out; have HOLD := mk_ (Kd.R_mono (Kd.R_lower (Kd.R_fresh (k47S_R ho)) HB.out.size) (fun kk hk => (⟨trivial, fun e_ => by have h1_ := hlt_ kk e_.symm; have h2_ := hk.2; omega⟩ : True ∧ some kk ≠ (Value.slice A5 ([] : List S47).length c5).ownBlock))); have HOU := mk_ (Kd.R_below HO.out hb); clear ho hb))
        have hgo := HOLD.out
        go_loopw [6, 7, 9] (fun v6 v7 v9 wr => ∃ (q : Nat) (dn : Bool) (X : List S47), q ≤ l0.length ∧ v7 = .bool dn ∧ v9 = .int .i64 q ∧ Aside0 ((dn = true → i < q ∧ X = o.take (q + 1)) ∧ (dn = false → q ≤ i ∧ X = o.take q)) ∧ Aside0 (Kd.R k47 47 wr w.heap.size (fun _ => True) v6 X) ∧ Aside0 (Kd.R k47 47 wr w.heap.size (fun kk => True ∧ some kk ≠ v6.ownBlock) (.slice Ao l0.length co) l0) ∧ Aside0 (Below w.heap.size w wr)) (fun _ _ v9 _ => l0.length - (intOf v9).toNat)
        case atStart => exact ⟨0, false, [], Nat.zero_le _, rfl, rfl, ⟨(fun h => by cases h), fun _ => ⟨Nat.zero_le _, by simp⟩⟩, HOU, HOLD, HB6⟩
        case round =>
          obtain ⟨q, dn, X, hq, rfl, rfl, HF, HX, HD, HB⟩ := hrel
          have hilo := HIL.out
          have hol : o.length = l0.length + 1 := by rw [← HOO.out]; exact putP_length l0 a1 i hilo
          have hxl : X.length ≤ 2000 := by
            have h1 := HLN.out
            cases dn with
            | true => rw [(HF.out.1 rfl).2, List.length_take]; omega
            | false => rw [(HF.out.2 rfl).2, List.length_take]; omega
          have HXL := mk_ hxl
          have HOLN := mk_ hol
          clear hxl hol hilo
          by_cases hlt : q < l0.length
          · obtain ⟨g, cap, hvv, _⟩ := Kd.R_form HD.out (by omega)
            injection hvv with hv1 hv2 hv3
            subst hv1
            have HQ1 := mk_ (show q + 1 ≤ l0.length from hlt)
            have HLT := mk_ hlt
            obtain ⟨P, hP⟩ : ∃ P, rd_T47 l0 (q : Int) = P := ⟨_, rfl⟩
            obtain ⟨N, L⟩ := P
            have HP := mk_ hP
            clear hv2 hv3 hgo hP
            cases dn with
            | true =>
              obtain ⟨A1, c1, hk0, hk1, hM⟩ := old_elem HD.out q hlt
              rw [HP.out] at hk0 hk1 hM
              dsimp only at hk0 hk1 hM
              have HM := mk_ hM
              clear hM
              go_wp2_with (((with_reducible refine gate_builtin (b := .append) (xs := #[.tmp 55, .tmp 60]) rfl ?_); at_builtin; refine Kd.R_append k47 (w0 := w) w.heap.size rfl (.tmp 55) (.tmp 60) 25 47 (.agg #[(.int .i64 0), (.slice none 0 0)]) 32 rfl Try.underlying25 HI47.out rfl (by decide) (by omega) u6 (X) (⟨N, L⟩ : S47) [.int .i64 N, .slice A1 L.length c1] (fun _ => True) (fun kk => (True ∧ some kk ≠ (u6 : Value).ownBlock) ∧ kk ≠ g) rfl rfl HM.out (fun kk hk => ⟨trivial, hk.1.2⟩) (fun _ _ => trivial) HX.out HB.out HB.out.size (by have h1_ := HXL.out; (try simp only [List.length_append, List.length_singleton]); omega) ?_; intro v_HX1 w_HX1 ho hb hg hat; have HX1 := mk_ ho; have HD1 := mk_ (Kd.R_after HD.out hg hat); have HB1 := mk_ hb; clear ho hb hg hat))
              go_roundw
              case rel => exact ⟨q + 1, true, X ++ [⟨N, L⟩], HQ1.out, rfl, by rw [wrap_next q (by have := HLN.out; have := HQ1.out; omega)], ⟨fun _ => ⟨by have := (HF.out.1 rfl).1; omega, by
                rw [(HF.out.1 rfl).2, ← HOO.out, ← HP.out]
                exact (putP_next l0 a1 i q (by have := (HF.out.1 rfl).1; omega) HLT.out).symm⟩, fun h => by cases h⟩, HX1, HD1, HB1⟩
              case measure => have h1_ := HLN.out; have h2_ := HQ1.out; rw [wrap_next q (by omega)]; simp only [intOf, Int.toNat_natCast]; omega
            | false =>
              obtain ⟨hqi, hX⟩ := HF.out.2 rfl
              have HXX := mk_ hX
              have HQI := mk_ hqi
              by_cases hc : a1 < N
              · have hqe : i = q := by
                  have := findIdx_le_of (p := fun p => decide (a1 < p.f0)) hlt (by rw [HP.out]; exact decide_eq_true hc)
                  rw [HI.out] at this
                  omega
                have HQE := mk_ hqe
                have hcb : decide (a1 < N) = true := decide_eq_true hc
                obtain ⟨A1, c1, hk0, hk1, hM⟩ := old_elem HD.out q hlt
                rw [HP.out] at hk0 hk1 hM
                dsimp only at hk0 hk1 hM
                clear hc hqe hqi hX hM
                go_wp2_with (first | ((with_reducible refine gate_builtin (b := .append) (xs := #[.tmp 50, .tmp 53]) rfl ?_); at_builtin; refine Kd.R_append k47 (w0 := w) w.heap.size rfl (.tmp 50) (.tmp 53) 25 47 (.agg #[(.int .i64 0), (.slice none 0 0)]) 32 rfl Try.underlying25 HI47.out rfl (by decide) (by omega) u6 (X) (⟨a1, []⟩ : S47) [.int .i64 a1, .slice none 0 0] (fun _ => True) (fun _ => False) rfl rfl (k47_mkM _ _ _ ⟨a1, []⟩ (Kd.R_nil _ _ _ _ _)) (fun _ hk => hk.elim) (fun _ _ => trivial) HX.out HB.out HB.out.size (by have h1_ := HXL.out; (try simp only [List.length_append, List.length_singleton]); omega) ?_; intro v_HX1 w_HX1 ho hb hg hat; have HX1 := mk_ ho; have HD1 := mk_ (Kd.R_after HD.out hg hat); have HB1 := mk_ hb; obtain ⟨A2, c2, hk0', hk1', hM'⟩ := old_elem HD1.out q HLT.out; rw [HP.out] at hk0' hk1' hM'; dsimp only at hk0' hk1' hM'; have HM := mk_ hM'; clear hM'; clear ho hb hg hat) | ((with_reducible refine gate_builtin (b := .append) (xs := #[.tmp 55, .tmp 60]) rfl ?_); at_builtin; refine Kd.R_append k47 (w0 := w) w.heap.size rfl (.tmp 55) (.tmp 60) 25 47 (.agg #[(.int .i64 0), (.slice none 0 0)]) 32 rfl Try.underlying25 HI47.out rfl (by decide) (by omega) v_HX1 (X ++ [⟨a1, []⟩]) (⟨N, L⟩ : S47) [.int .i64 N, .slice A2 L.length c2] (fun _ => True) (fun kk => (True ∧ some kk ≠ (v_HX1 : Value).ownBlock) ∧ kk ≠ g) rfl rfl HM.out (fun kk hk => ⟨trivial, hk.1.2⟩) (fun _ _ => trivial) HX1.out HB1.out HB1.out.size (by have h1_ := HXL.out; (try simp only [List.length_append, List.length_singleton]); omega) ?_; intro v_HX2 w_HX2 ho hb hg hat; have HX2 := mk_ ho; have HD2 := mk_ (Kd.R_after HD1.out hg hat); have HB2 := mk_ hb; clear ho hb hg hat))
                go_roundw
                case rel => exact ⟨q + 1, true, X ++ [⟨a1, []⟩] ++ [⟨N, L⟩], HQ1.out, rfl, by rw [wrap_next q (by have := HLN.out; have := HQ1.out; omega)], ⟨fun _ => ⟨by have := HQE.out; omega, by
                  rw [HXX.out, ← HOO.out, ← HP.out, putP_next l0 a1 i q (by have := HQE.out; omega) HLT.out]
                  have h1_ := HQE.out
                  have h2_ := putP_at l0 a1 i HIL.out
                  rw [← h1_, h2_, putP_take l0 a1 i i (Nat.le_refl _) HIL.out]⟩, fun h => by cases h⟩, HX2, HD2, HB2⟩
                case measure => have h1_ := HLN.out; have h2_ := HQ1.out; rw [wrap_next q (by omega)]; simp only [intOf, Int.toNat_natCast]; omega
              · have hcb : decide (a1 < N) = false := decide_eq_false hc
                have hqi2 : q + 1 ≤ i := by
                  have := findIdx_gt_of (p := fun p => decide (a1 < p.f0)) hlt (by rw [HI.out]; exact hqi) (by rw [HP.out]; exact hcb)
                  rw [HI.out] at this
                  exact this
                have HQ2 := mk_ hqi2
                obtain ⟨A1, c1, hk0, hk1, hM⟩ := old_elem HD.out q hlt
                rw [HP.out] at hk0 hk1 hM
                dsimp only at hk0 hk1 hM
                have HM := mk_ hM
                clear hc hqi hqi2 hX hM
                go_wp2_with (((with_reducible refine gate_builtin (b := .append) (xs := #[.tmp 55, .tmp 60]) rfl ?_); at_builtin; refine Kd.R_append k47 (w0 := w) w.heap.size rfl (.tmp 55) (.tmp 60) 25 47 (.agg #[(.int .i64 0), (.slice none 0 0)]) 32 rfl Try.underlying25 HI47.out rfl (by decide) (by omega) u6 (X) (⟨N, L⟩ : S47) [.int .i64 N, .slice A1 L.length c1] (fun _ => True) (fun kk => (True ∧ some kk ≠ (u6 : Value).ownBlock) ∧ kk ≠ g) rfl rfl HM.out (fun kk hk => ⟨trivial, hk.1.2⟩) (fun _ _ => trivial) HX.out HB.out HB.out.size (by have h1_ := HXL.out; (try simp only [List.length_append, List.length_singleton]); omega) ?_; intro v_HX1 w_HX1 ho hb hg hat; have HX1 := mk_ ho; have HD1 := mk_ (Kd.R_after HD.out hg hat); have HB1 := mk_ hb; clear ho hb hg hat))
                go_roundw
                case rel => exact ⟨q + 1, false, X ++ [⟨N, L⟩], HQ1.out, rfl, by rw [wrap_next q (by have := HLN.out; have := HQ1.out; omega)], ⟨(fun h => by cases h), fun _ => ⟨HQ2.out, by
                  have h1_ := HQ2.out
                  rw [HXX.out, ← HOO.out, ← HP.out, putP_take l0 a1 i q (by omega) HIL.out, putP_take l0 a1 i (q + 1) h1_ HIL.out]
                  exact (take47 l0 q HLT.out).symm⟩⟩, HX1, HD1, HB1⟩
                case measure => have h1_ := HLN.out; have h2_ := HQ1.out; rw [wrap_next q (by omega)]; simp only [intOf, Int.toNat_natCast]; omega
          · obtain rfl : q = l0.length := by omega
            cases dn with
            | true =>
              have hXo : X = o := by rw [(HF.out.1 rfl).2]; exact List.take_of_length_le (by have := HOLN.out; omega)
              subst hXo
              obtain ⟨A9, c9, hv9⟩ := Kd.R_slice HX.out
              subst hv9
              go_wp2
              refine bodyPost_ret (results_list (rs := [.tmp 4, .tmp 5]) rfl (by simp) (.tmp (.tmp .nil))) rfl ?_
              exact ⟨_, _, rfl, HX.out, HB.out⟩
            | false =>
              obtain ⟨hqi, hX⟩ := HF.out.2 rfl
              have hie : i = l0.length := by have := HIL.out; omega
              have hXo : X ++ [⟨a1, []⟩] = o := by
                have h2_ := putP_at l0 a1 i HIL.out
                rw [hX, ← HOO.out, putP_take l0 a1 i _ (by omega) HIL.out, ← hie, ← h2_]
                exact List.take_of_length_le (by rw [putP_length l0 a1 i HIL.out]; omega)
              have HXO := mk_ hXo
              clear hqi hX hie hXo
              go_wp2_with (((with_reducible refine gate_builtin (b := .append) (xs := #[.tmp 64, .tmp 67]) rfl ?_); at_builtin; refine Kd.R_append k47 (w0 := w) w.heap.size rfl (.tmp 64) (.tmp 67) 25 47 (.agg #[(.int .i64 0), (.slice none 0 0)]) 32 rfl Try.underlying25 HI47.out rfl (by decide) (by omega) u6 (X) (⟨a1, []⟩ : S47) [.int .i64 a1, .slice none 0 0] (fun _ => True) (fun _ => False) rfl rfl (k47_mkM _ _ _ ⟨a1, []⟩ (Kd.R_nil _ _ _ _ _)) (fun _ hk => hk.elim) (fun _ _ => trivial) HX.out HB.out HB.out.size (by have h1_ := HXL.out; (try simp only [List.length_append, List.length_singleton]); omega) ?_; intro v_HX1 w_HX1 ho hb hg hat; have HX1 := mk_ ho; have HD1 := mk_ (Kd.R_after HD.out hg hat); have HB1 := mk_ hb; rw [HXO.out] at HX1; obtain ⟨A9, c9, hv9⟩ := Kd.R_slice HX1.out; subst hv9; clear ho hb hg hat))
              refine bodyPost_ret (results_list (rs := [.tmp 4, .tmp 5]) rfl (by simp) (.tmp (.tmp .nil))) rfl ?_
              exact ⟨_, _, rfl, HX1.out, HB1.out⟩
set_option maxHeartbeats 8000000 in
set_option maxRecDepth 100000 in
theorem law5_walk (k : Nat) (A0 : Option Addr) (c0 : Nat) (l0 : List S64) (a1 s v : Int) (L o : List S47) (d r : Bool) (T1 T2 : Int) (w : World) (hr0 : Kd.C k64 w A0 l0.length l0) (hc0 : l0.length ≤ c0)
    (hsz : laws_szPortS.f k l0 1048576 = some s) (hs0 : 0 ≤ s) (hl : l0.length ≤ 1048576) (hk : ∀ x ∈ l0, laws_toPort.f k x.f0 x.f1 = some (x.f0, x.f1.map convM_)) (hL : l0.map convP_ = L)
    (hok : impl_PortsOk.f L = some r) (hpo : spec_PortsOk.f k L = some r) (hsm : r = true → small47 L ∧ up47 L ∧ L.length ≤ 4) (hat : r = true → spec_l9At.f k L a1 = some v) (hv : 0 ≤ v ↔ L.findIdx (fun p => p.f0 == a1) < L.length) (hlp : listenP r L a1 = (o, d))
    (heo : laws_eqPortS.f k o o = some true) (hel : laws_eqPortS.f k L L = some true)
    (ht1 : 1 + (totP L : Int) = T1 ∧ T1 ≤ 1000000000) (ht2 : 1 + (totP o : Int) = T2 ∧ T2 ≤ 1000000000)
    (hmb : ∀ (D : List Int) (m : Int), D.length ≤ totP L → 0 ≤ m → m + D.length ≤ 1000000000 → ∃ r, laws_markByteS.f k D m = some (m + D.length, r) ∧ r.length = D.length ∧ heldB m r)
    (hmo : ∀ (D : List Int) (m : Int), D.length ≤ totP o → 0 ≤ m → m + D.length ≤ 1000000000 → ∃ r, laws_markByteS.f k D m = some (m + D.length, r) ∧ r.length = D.length ∧ heldB m r)
    (hhp : ∀ l', heldP 1 l' T2 → laws_heldPortS.f k l' 1 = some T2) :
    Calls Try.prog 5 #[.slice A0 l0.length c0, .int .i64 a1] w fun e w' => e = .returned (.bool true) ∧ Below w.heap.size w w' := by
  have b1 : decide (s < 0) = false := decide_eq_false (by omega)
  have b2 : decide (T1 < 0) = false := decide_eq_false (by have := ht1.1; omega)
  have b3 : decide (T2 < 0) = false := decide_eq_false (by have := ht2.1; omega)
  have HR := mk_ hr0
  have HC0 := mk_ hc0
  have HSZ := mk_ hsz
  have HLN := mk_ hl
  have HK := mk_ hk
  have HLL := mk_ hL
  have HOK := mk_ hok
  have HPO := mk_ hpo
  have HSM := mk_ hsm
  have HSM4 := mk_ (fun h => (⟨(hsm h).1, (hsm h).2.2⟩ : small47 L ∧ L.length ≤ 4))
  have HAT := mk_ hat
  have HV := mk_ hv
  have HLP := mk_ hlp
  have HEO := mk_ heo
  have HEL := mk_ hel
  have HT1 := mk_ ht1
  have HT2 := mk_ ht2
  have HMB := mk_ hmb
  have HMO := mk_ hmo
  have HHP := mk_ hhp
  have Z0 := mk_ trivial
  clear hr0 hc0 hsz hs0 hl hk hL hok hpo hsm hat hv hlp heo hel ht1 ht2 hmb hmo hhp
  go_enter Try.func5, Try.ntmps5
  go_wp2_with (first | (go_at_call 11; clear Z0; (with_reducible refine (laws_szPortS.calls k A0 c0 l0 1048576 s _ ?s0 ?s1 HSZ.out).mono ?_); (case s0 => exact HR.out); (case s1 => exact HC0.out); rintro e w1 ⟨rfl, hb⟩; have HB1 := mk_ hb; clear hb; have Z1 := mk_ trivial) | (go_at_call 13; clear Z1; (with_reducible refine (topS_at k A0 c0 l0 L _ ?s0 ?s1 ?s2 HLL.out).mono ?_); (case s0 => exact Kd.C_below HR.out HB1.out); (case s1 => exact HLN.out); (case s2 => exact HK.out); rintro e w2 ⟨At, ct, rfl, ho, hb⟩; have HT := mk_ (Kd.S_reads' ho).2; have HB2 := mk_ (below_step HB1.out hb); clear ho hb; have Z2 := mk_ trivial) | (go_at_call 18; clear Z2; (with_reducible refine (specListen k At L.length ct L a1 v r o d _ rfl ?s0 ?s1 HPO.out HSM4.out HAT.out HV.out HLP.out).mono ?_); (case s0 => exact k47S_C HT.out.2); (case s1 => exact HT.out.1); rintro e w3 ⟨Aw, cw, rfl, hR, hb⟩; have HCW := mk_ (Kd.R_reads' hR).2; have HB3 := mk_ (below_step HB2.out hb); clear hR hb; have Z3 := mk_ trivial) | (go_at_call 13; clear Z3; (with_reducible refine (topS_at k A0 c0 l0 L _ ?s0 ?s1 ?s2 HLL.out).mono ?_); (case s0 => exact Kd.C_below HR.out HB3.out); (case s1 => exact HLN.out); (case s2 => exact HK.out); rintro e w6 ⟨Ax, cx, rfl, ho, hb⟩; have HXS := mk_ (Kd.S_mono (Kd.S_elder (Kd.S_fresh ho)) (fun kk hk => (⟨hk.1.2, hk.2⟩ : w3.heap.size ≤ kk ∧ kk < w6.heap.size))); have HXL := mk_ (Kd.S_reads' ho).2; have HB6 := mk_ hb; clear ho hb; have Z4 := mk_ trivial) | (go_at_call 19; clear Z4; (with_reducible refine (impl_PortListen.calls Ax L.length cx L a1 r o d _ rfl ?s0 ?s1 HOK.out HSM.out HLP.out).mono ?_); (case s0 => exact k47S_C HXL.out.2); (case s1 => exact HXL.out.1); rintro e w8 ⟨Ag, cg, rfl, h0, hb⟩; have HG0 := mk_ (Kd.S_mono (Kd.S_elder (Kd.S_fresh h0)) (fun kk hk => (⟨hk.1.2, hk.2⟩ : w6.heap.size ≤ kk ∧ kk < w8.heap.size))); have HB8 := mk_ hb; clear h0 hb; have Z5 := mk_ trivial) | (go_at_call 15; clear Z5; (with_reducible refine (eq47_at k Ag o.length cg o Aw o.length cw _ rfl rfl ?s0 ?s1 ?s2 ?s3 HEO.out).mono ?_); (case s0 => exact (k47S_C (Kd.S_reads' HG0.out).2.2)); (case s1 => exact (Kd.S_reads' HG0.out).2.1); (case s2 => exact Kd.C_below HCW.out.2 (below_step HB6.out HB8.out)); (case s3 => exact HCW.out.1); rintro e w11 ⟨rfl, hb⟩; have HBA := mk_ hb; clear hb; have Z6 := mk_ trivial) | (go_at_call 13; clear Z6; (with_reducible refine (topS_at k A0 c0 l0 L _ ?s0 ?s1 ?s2 HLL.out).mono ?_); (case s0 => exact Kd.C_below HR.out (below_step (below_step HB3.out (below_step HB6.out HB8.out)) HBA.out)); (case s1 => exact HLN.out); (case s2 => exact HK.out); rintro e w13 ⟨Ay, cy, rfl, ho, hb⟩; have HYT := mk_ (Kd.S_reads' ho).2; have HBD := mk_ (below_step HBA.out hb); clear ho hb; have Z7 := mk_ trivial) | (go_at_call 15; clear Z7; (with_reducible refine (eq47_at k Ax L.length cx L Ay L.length cy _ rfl rfl ?s0 ?s1 ?s2 ?s3 HEL.out).mono ?_); (case s0 => exact Kd.C_below (k47S_C HXL.out.2) (below_step HB8.out HBD.out)); (case s1 => exact HXL.out.1); (case s2 => exact k47S_C HYT.out.2); (case s3 => exact HYT.out.1); rintro e w14 ⟨rfl, hb⟩; have HBE := mk_ (below_step HBD.out hb); clear hb; have Z8 := mk_ trivial) | (go_at_call 20; clear Z8; (with_reducible refine (mark47_at k Ax L.length cx L T1 (fun kk => w3.heap.size ≤ kk ∧ kk < w6.heap.size) w3 _ ?s0 rfl ?s1 HT1.out.1 HT1.out.2 HMB.out).mono ?_); (case s0 => exact below_step (below_step HB6.out HB8.out) HBE.out); (case s1 => exact Kd.S_below (Kd.S_below HXS.out HB8.out) HBE.out); rintro e w15 ⟨rfl, ⟨lx, hlx, hhx, hsx⟩, hb, hk⟩; have HBF := mk_ hb; have HG0F := mk_ (Kd.S_kept (Kd.S_below HG0.out HBE.out) hk (fun kk h1_ h2_ => by have h3_ := h1_.1; have h4_ := h2_.2; omega)); clear hb hk hlx hhx hsx; have Z9 := mk_ trivial) | (go_at_call 15; clear Z9; (with_reducible refine (eq47_at k Ag o.length cg o Aw o.length cw _ rfl rfl ?s0 ?s1 ?s2 ?s3 HEO.out).mono ?_); (case s0 => exact k47S_C (Kd.S_reads' HG0F.out).2.2); (case s1 => exact (Kd.S_reads' HG0F.out).2.1); (case s2 => exact Kd.C_below HCW.out.2 HBF.out); (case s3 => exact HCW.out.1); rintro e w16 ⟨rfl, hb⟩; have HBG := mk_ hb; clear hb; have Z10 := mk_ trivial) | (go_at_call 20; clear Z10; (with_reducible refine (mark47_at k Ag o.length cg o T2 (fun kk => w6.heap.size ≤ kk ∧ kk < w8.heap.size) w3 _ ?s0 rfl ?s1 HT2.out.1 HT2.out.2 HMO.out).mono ?_); (case s0 => exact below_step HBF.out HBG.out); (case s1 => exact Kd.S_lower (Kd.S_below HG0F.out HBG.out) HB6.out.size); rintro e w18 ⟨rfl, ⟨lg, hlg, hhg, hsg⟩, hb, hk⟩; have HBI := mk_ hb; have HSG := mk_ hsg; have HLG := mk_ hlg; have HHG := mk_ (HHP.out lg hhg); clear hb hk hlg hhg hsg; have Z11 := mk_ trivial) | (go_at_call 21; clear Z11; (with_reducible refine (held47_at k Ag o.length cg lg T2 _ ?s0 ?s1 ?s2 HHG.out).mono ?_); (case s0 => exact HLG.out.symm); (case s1 => exact k47S_C (Kd.S_reads' HSG.out).2.2); (case s2 => have h1_ := (Kd.S_reads' HSG.out).2.1; have h2_ := HLG.out; omega); rintro e w20 ⟨rfl, hb⟩; have HBK := mk_ hb; clear hb; have Z12 := mk_ trivial) | (go_at_call 13; clear Z12; (with_reducible refine (topS_at k A0 c0 l0 L _ ?s0 ?s1 ?s2 HLL.out).mono ?_); (case s0 => exact Kd.C_below HR.out (below_step (below_step HB3.out HBI.out) HBK.out)); (case s1 => exact HLN.out); (case s2 => exact HK.out); rintro e w22 ⟨Az, cz, rfl, ho, hb⟩; have HZL := mk_ (Kd.S_reads' ho).2; have HBM := mk_ (below_step HBK.out hb); clear ho hb; have Z13 := mk_ trivial) | (go_at_call 19; clear Z13; (with_reducible refine (impl_PortListen.calls Az L.length cz L a1 r o d _ rfl ?s0 ?s1 HOK.out HSM.out HLP.out).mono ?_); (case s0 => exact k47S_C HZL.out.2); (case s1 => exact HZL.out.1); rintro e w23 ⟨Ah, ch, rfl, h0, hb⟩; have HH0 := mk_ (Kd.S_reads' h0).2; have HBN := mk_ (below_step HBM.out hb); clear h0 hb; have Z14 := mk_ trivial) | (go_at_call 15; clear Z14; (with_reducible refine (eq47_at k Ah o.length ch o Aw o.length cw _ rfl rfl ?s0 ?s1 ?s2 ?s3 HEO.out).mono ?_); (case s0 => exact k47S_C HH0.out.2); (case s1 => exact HH0.out.1); (case s2 => exact Kd.C_below HCW.out.2 (below_step HBI.out HBN.out)); (case s3 => exact HCW.out.1); rintro e w26 ⟨rfl, hb⟩; have HBP := mk_ (below_step HBN.out hb); clear hb; have Z15 := mk_ trivial) | (go_at_call 21; clear Z15; (with_reducible refine (held47_at k Ag o.length cg lg T2 _ ?s0 ?s1 ?s2 HHG.out).mono ?_); (case s0 => exact HLG.out.symm); (case s1 => exact k47S_C (Kd.S_reads' (Kd.S_below HSG.out HBP.out)).2.2); (case s2 => have h1_ := (Kd.S_reads' HSG.out).2.1; have h2_ := HLG.out; omega); rintro e w28 ⟨rfl, hb⟩; have HBR := mk_ (below_step HBP.out hb); clear hb; have Z16 := mk_ trivial))
  go_ret
  exact ⟨rfl, below_step (below_step HB3.out HBI.out) HBR.out⟩
set_option maxHeartbeats 2000000 in
theorem law5_walk0 (k : Nat) (A0 : Option Addr) (c0 : Nat) (l0 : List S64) (a1 s : Int) (w : World) (hr0 : Kd.C k64 w A0 l0.length l0) (hc0 : l0.length ≤ c0) (hsz : laws_szPortS.f k l0 1048576 = some s) (hs0 : s < 0) :
    Calls Try.prog 5 #[.slice A0 l0.length c0, .int .i64 a1] w fun e w' => e = .returned (.bool true) ∧ Below w.heap.size w w' := by
  have b1 : decide (s < 0) = true := decide_eq_true hs0
  have HR := mk_ hr0
  have HC0 := mk_ hc0
  have HSZ := mk_ hsz
  clear hr0 hc0 hsz hs0
  go_enter Try.func5, Try.ntmps5
  go_wp2_with (go_at_call 11; (with_reducible refine (laws_szPortS.calls k A0 c0 l0 1048576 s _ ?s0 ?s1 HSZ.out).mono ?_); (case s0 => exact HR.out); (case s1 => exact HC0.out); rintro e w1 ⟨rfl, hb⟩; have HB1 := mk_ hb; clear hb)
  go_ret
  exact ⟨rfl, HB1.out⟩
/-- What the law's walk leans on: what the functions that it calls answer at these ports. -/
def laws_FnExactPortListen.ok (k : Nat) (l0 : List S64) (a1 : Int) : Prop :=
  ∃ s, laws_szPortS.f k l0 1048576 = some s ∧ (s < 0 ∨ ∃ (v : Int) (L o : List S47) (d r : Bool) (T1 T2 : Int),
    (0 ≤ s) ∧ (l0.length ≤ 1048576) ∧ (∀ x ∈ l0, laws_toPort.f k x.f0 x.f1 = some (x.f0, x.f1.map convM_)) ∧ (l0.map convP_ = L) ∧ (impl_PortsOk.f L = some r) ∧ (spec_PortsOk.f k L = some r) ∧ (r = true → small47 L ∧ up47 L ∧ L.length ≤ 4) ∧ (r = true → spec_l9At.f k L a1 = some v) ∧ (0 ≤ v ↔ L.findIdx (fun p => p.f0 == a1) < L.length) ∧ (listenP r L a1 = (o, d)) ∧ (laws_eqPortS.f k o o = some true) ∧ (laws_eqPortS.f k L L = some true) ∧ (1 + (totP L : Int) = T1 ∧ T1 ≤ 1000000000) ∧ (1 + (totP o : Int) = T2 ∧ T2 ≤ 1000000000) ∧ (∀ (D : List Int) (m : Int), D.length ≤ totP L → 0 ≤ m → m + D.length ≤ 1000000000 → ∃ r, laws_markByteS.f k D m = some (m + D.length, r) ∧ r.length = D.length ∧ heldB m r) ∧ (∀ (D : List Int) (m : Int), D.length ≤ totP o → 0 ≤ m → m + D.length ≤ 1000000000 → ∃ r, laws_markByteS.f k D m = some (m + D.length, r) ∧ r.length = D.length ∧ heldB m r) ∧ (∀ l', heldP 1 l' T2 → laws_heldPortS.f k l' 1 = some T2))
theorem laws_FnExactPortListen.calls (k : Nat) (A0 : Option Addr) (c0 : Nat) (l0 : List (S64)) (a1 : Int) (r : Bool) (w : World) (hr0 : Kd.C k64 w A0 l0.length l0) (hc0 : l0.length ≤ c0) (h : laws_FnExactPortListen.ok k l0 a1 ∧ r = true) :
  Calls Try.prog 5 #[.slice A0 l0.length c0, .int .i64 a1] w fun e w' => e = .returned (.bool r) ∧ Below w.heap.size w w' := by
  obtain ⟨⟨s, hsz, h2⟩, rfl⟩ := h
  rcases h2 with h2 | ⟨v, L, o, d, r, T1, T2, hs0, hl, hk, hL, hok, hpo, hsm, hat, hv, hlp, heo, hel, ht1, ht2, hmb, hmo, hhp⟩
  · exact law5_walk0 k A0 c0 l0 a1 s w hr0 hc0 hsz h2
  · exact law5_walk k A0 c0 l0 a1 s v L o d r T1 T2 w hr0 hc0 hsz hs0 hl hk hL hok hpo hsm hat hv hlp heo hel ht1 ht2 hmb hmo hhp
end Go.Proofs.Ytkkibccnpkbbjaa.MFnExactPortTake
