/- Functions that the law FnPortsOk reaches, typed by hand: marks in rows that lie apart, and the walk of the law FnPortsOk; no conditions but those that each theorem states. -/
import Derived.Test.YtkkibccnpkbbjaaMFnPortsOkx9
import Derived.StillTailTactics
import Derived.IntWalk
import Derived.Deep.RegionHeld3
import Derived.Deep.RegionLaw
namespace Go.Proofs.Ytkkibccnpkbbjaa.MFnPortsOk
open Go.RowKit Go.Proofs.YtkkibccnpkbbjaaV.PrintWords Go.Proofs.YtkkibccnpkbbjaaV.PrintLast Go.Proofs.YtkkibccnpkbbjaaV.PrintMore
attribute [local go_sem] max2_int min2_int max_two min_two max_three min_three max_four min_four
set_option linter.unusedVariables false
set_option linter.unusedSimpArgs false
/-- What PortListen answers. -/
def listenP (r : Bool) (l : List S47) (a : Int) : List S47 × Bool :=
  if r = false ∨ impl_PortsOk.num a = false then ([], false)
  else if l.findIdx (fun p => p.f0 == a) < l.length ∨ 4 ≤ l.length then (l, false)
  else (l.take (l.findIdx (fun p => decide (a < p.f0))) ++ [⟨a, []⟩] ++ l.drop (l.findIdx (fun p => decide (a < p.f0))), true)
theorem put_length {l : List S47} {p : Nat} (hp : p ≤ l.length) (a : Int) : (l.take p ++ [(⟨a, []⟩ : S47)] ++ l.drop p).length = l.length + 1 := by
  simp only [List.length_append, List.length_take, List.length_drop, List.length_singleton]
  omega
/-! ### spec.PortListen -/
theorem num_in (a : Int) : spec_l1In.f a 1 255 = some (impl_PortsOk.num a) := by
  unfold spec_l1In.f impl_PortsOk.num
  by_cases h : a ≥ 1
  · rw [if_pos h, show decide (1 ≤ a) = true from decide_eq_true h, Bool.true_and]
  · rw [if_neg h, show decide (1 ≤ a) = false from decide_eq_false h, Bool.false_and]
/-- The ports with one put in. -/
def putP (l : List S47) (a : Int) (i : Nat) : List S47 := l.take i ++ [⟨a, []⟩] ++ l.drop i
theorem putP_length (l : List S47) (a : Int) (i : Nat) (hi : i ≤ l.length) : (putP l a i).length = l.length + 1 := put_length hi a
theorem putP_take (l : List S47) (a : Int) (i q : Nat) (hq : q ≤ i) (hi : i ≤ l.length) : (putP l a i).take q = l.take q := by
  unfold putP
  rw [List.append_assoc, List.take_append_of_le_length (by rw [List.length_take]; omega), List.take_take, Nat.min_eq_left hq]
theorem putP_at (l : List S47) (a : Int) (i : Nat) (hi : i ≤ l.length) : (putP l a i).take (i + 1) = l.take i ++ [⟨a, []⟩] := by
  unfold putP
  rw [List.take_append_of_le_length (by simp only [List.length_append, List.length_take, List.length_singleton]; omega), List.take_of_length_le (by simp only [List.length_append, List.length_take, List.length_singleton]; omega)]
theorem putP_next (l : List S47) (a : Int) (i q : Nat) (hq : i ≤ q) (h : q < l.length) : (putP l a i).take (q + 2) = (putP l a i).take (q + 1) ++ [rd_T47 l (q : Int)] := by
  have hlen := putP_length l a i (by omega)
  have hg : (putP l a i)[q + 1]? = some (rd_T47 l (q : Int)) := by
    unfold putP
    rw [List.getElem?_append_right (by simp only [List.length_append, List.length_take, List.length_singleton]; omega)]
    simp only [List.length_append, List.length_take, List.length_singleton, List.getElem?_drop]
    rw [show i + (q + 1 - (min i l.length + 1)) = q by omega, List.getElem?_eq_getElem h]
    unfold rd_T47
    rw [Int.toNat_natCast, List.getD_eq_getElem?_getD, List.getElem?_eq_getElem h]
    rfl
  rw [List.take_add_one, hg]
  rfl
theorem findIdx_le_of {l : List S47} {p : S47 → Bool} {q : Nat} (h : q < l.length) (hp : p (rd_T47 l (q : Int)) = true) : l.findIdx p ≤ q := by
  have e : rd_T47 l (q : Int) = l[q] := by
    unfold rd_T47
    rw [Int.toNat_natCast, List.getD_eq_getElem?_getD, List.getElem?_eq_getElem h]
    rfl
  rw [e] at hp
  rcases Nat.lt_or_ge q (l.findIdx p) with hlt | hge
  · have := List.not_of_lt_findIdx hlt
    rw [hp] at this
    cases this
  · exact hge
theorem findIdx_gt_of {l : List S47} {p : S47 → Bool} {q : Nat} (h : q < l.length) (hq : q ≤ l.findIdx p) (hp : p (rd_T47 l (q : Int)) = false) : q + 1 ≤ l.findIdx p := by
  have e : rd_T47 l (q : Int) = l[q] := by
    unfold rd_T47
    rw [Int.toNat_natCast, List.getD_eq_getElem?_getD, List.getElem?_eq_getElem h]
    rfl
  rcases Nat.eq_or_lt_of_le hq with h1 | h1
  · exfalso
    have h2 : l.findIdx p < l.length := by omega
    have h3 := List.findIdx_getElem (w := h2)
    rw [e] at hp
    have h4 : p l[q] = true := by
      have : l[q] = l[l.findIdx p] := by congr 1
      rw [this]
      exact h3
    rw [hp] at h4
    cases h4
  · exact h1
/-! ### ports copied one by one: what is still to come lies apart from what is there -/
def okq (f : Nat → Nat) (B C q k : Nat) : Prop := ¬ ((B ≤ k ∧ k < C) ∧ q ≤ f k)
theorem okq_new {f : Nat → Nat} {B C q k : Nat} (h : C ≤ k) : okq f B C q k := fun h2 => by omega
theorem okq_el {f : Nat → Nat} {B C q k : Nat} (h : f k = q) : okq f B C (q + 1) k := fun h2 => by omega
theorem okq_up {f : Nat → Nat} {B C q k : Nat} (h : okq f B C q k) : okq f B C (q + 1) k := fun h2 => h ⟨h2.1, by omega⟩
theorem outq_start {w1 w6 : World} {base : Nat} {v : Value} {xs : List S47} (f : Nat → Nat) (q : Nat) (h : Kd.S k47S 47 w1 base (fun k => True ∧ k < w1.heap.size) v xs) (hb : Below w1.heap.size w1 w6) : Kd.S k47S 47 w6 base (okq f w1.heap.size w6.heap.size q) v xs := Kd.S_mono (Kd.S_below h hb) (fun k hk h2 => by have := hk.2; omega)
theorem old_elemS {W : World} {base g n c : Nat} {ok : Nat → Prop} {l : List S47} {f : Nat → Nat} (h : Kd.R (Kd.tag f k47S) 47 W base ok (.slice (some ⟨g, 0, none⟩) n c) l.zipIdx) (q : Nat) (hq : q < n) :
    ∃ A1 c1, W.cell? ⟨g, q * 2, none⟩ = some (.int .i64 (rd_T47 l (q : Int)).f0) ∧ W.cell? ⟨g, q * 2 + 1, none⟩ = some (.slice A1 (rd_T47 l (q : Int)).f1.length c1) ∧ k47S.M W base (fun k => (ok k ∧ k ≠ g) ∧ f k = q) (rd_T47 l (q : Int)) [.int .i64 (rd_T47 l (q : Int)).f0, .slice A1 (rd_T47 l (q : Int)).f1.length c1] := by
  have hn := (Kd.R_reads' h).1
  have hn2 := (Kd.R_reads' h).2
  obtain ⟨cs, hcl, hM, hcc, hfr⟩ := Kd.R_elem h (z47, 0) (q : Int) (by omega) (by omega)
  have hl : q < l.length := by
    rw [List.length_zipIdx] at hn
    omega
  have e : (l.zipIdx).getD ((q : Int).toNat) (z47, 0) = (rd_T47 l (q : Int), q) := by
    unfold rd_T47
    rw [Int.toNat_natCast, List.getD_eq_getElem?_getD, List.getD_eq_getElem?_getD, List.getElem?_zipIdx, List.getElem?_eq_getElem hl, Nat.zero_add]
    rfl
  rw [e] at hM
  have hM' : k47S.M W base (fun k => (ok k ∧ k ≠ g) ∧ f k = q) (rd_T47 l (q : Int)) cs := hM
  obtain ⟨v1, rfl, g1⟩ := k47S_openM hM'
  obtain ⟨A1, c1, hv1⟩ := Kd.S_slice g1
  subst hv1
  rw [Int.toNat_natCast] at hcc
  exact ⟨A1, c1, hcc 0 _ rfl, hcc 1 _ rfl, hM'⟩
set_option maxHeartbeats 4000000 in
set_option maxRecDepth 100000 in
theorem specListen (k : Nat) (A0 : Option Addr) (n c0 : Nat) (l0 : List S47) (a1 v : Int) (r : Bool) (o : List S47) (d : Bool) (w : World) (hn : n = l0.length) (hr0 : Kd.C k47 w A0 l0.length l0) (hc0 : l0.length ≤ c0) (hpo : spec_PortsOk.f k l0 = some r) (hs : r = true → small47 l0 ∧ l0.length ≤ 4) (hat : r = true → spec_l9At.f k l0 a1 = some v) (hv : 0 ≤ v ↔ l0.findIdx (fun p => p.f0 == a1) < l0.length) (hl : listenP r l0 a1 = (o, d)) :
    Calls Try.prog 18 #[.slice A0 n c0, .int .i64 a1] w fun e w' => ∃ (A1 : Option Addr) (c1 : Nat), e = .returned (.tuple #[.slice A1 o.length c1, .bool d]) ∧ Kd.S k47S 47 w' w.heap.size (fun _ => True) (.slice A1 o.length c1) o ∧ Below w.heap.size w w' := by
  subst hn
  have hu47 := Try.underlying47
  have HI47 := mk_ info47
  have HR := mk_ hr0
  have HC0 := mk_ hc0
  have HPO := mk_ hpo
  have HS := mk_ hs
  have HL := mk_ hl
  clear hr0 hc0 hpo hs hl
  cases r with
  | false =>
    have h1 : listenP false l0 a1 = ([], false) := by unfold listenP; rw [if_pos (.inl rfl)]
    have h2 := HL.out
    rw [h1] at h2
    injection h2 with h2 h3
    subst h2
    subst h3
    clear h1 hv hat
    go_enter Try.func18, Try.ntmps18
    go_wp2_with (first | (go_at_call 12; (with_reducible refine (spec_PortsOk.calls k A0 c0 l0 false _ ?s1 ?s2 HPO.out).mono ?_); (case s1 => exact HR.out); (case s2 => exact HC0.out); rintro e w3 ⟨rfl, hb⟩; have HB3 := mk_ hb; clear hb) | ((with_reducible refine gate_dst (N := 18) rfl ?_); refine Kd.S_lit k47S (w0 := w) w.heap.size 47 ?hg (N := 18) ?hd (xs := ([] : List S47)) (inner := []) (ok := fun _ => True) (okp := fun _ => True) ?hr ?hp (fun _ hk => hk) trivial HB3.out HB3.out.size (by simp) ?_; (case hd => rfl); (case hg => rfl); (case hr => first | (go_simp; done) | (go_simp; rfl)); (case hp => exact (Reps.none _ _)); intro v1 w1 ho hb hg_ hnew_; obtain ⟨A5, c5, hv5⟩ := Kd.S_slice ho; subst hv5; have HO := mk_ ho; have HB := mk_ hb; clear ho hb hg_ hnew_))
    refine bodyPost_ret (results_list (rs := [.tmp 4, .tmp 5]) rfl (by simp) (.tmp (.tmp .nil))) rfl ?_
    exact ⟨_, _, rfl, HO.out, HB.out⟩
  | true =>
    obtain ⟨hsm, hl4⟩ := HS.out rfl
    have HSM := mk_ hsm
    have HL4 := mk_ hl4
    have HAT := mk_ (hat rfl)
    clear hsm HS hat
    by_cases hnum : impl_PortsOk.num a1 = false
    · have h1 : listenP true l0 a1 = ([], false) := by unfold listenP; rw [if_pos (.inr hnum)]
      have h2 := HL.out
      rw [h1] at h2
      injection h2 with h2 h3
      subst h2
      subst h3
      have hnu := num_in a1
      rw [hnum] at hnu
      have HNUM := mk_ hnu
      clear h1 hv hnum hnu
      go_enter Try.func18, Try.ntmps18
      go_wp2_with (first | (go_at_call 12; (with_reducible refine (spec_PortsOk.calls k A0 c0 l0 true _ ?s1 ?s2 HPO.out).mono ?_); (case s1 => exact HR.out); (case s2 => exact HC0.out); rintro e w3 ⟨rfl, hb⟩; have HB3 := mk_ hb; clear hb) | (go_at_call 40; (with_reducible refine (spec_l1In.calls a1 1 255 false _ HNUM.out).mono ?_); rintro e w' ⟨rfl, hd⟩; have HB3 := mk_ (below_step HB3.out hd.below); clear hd) | ((with_reducible refine gate_dst (N := 18) rfl ?_); refine Kd.S_lit k47S (w0 := w) w.heap.size 47 ?hg (N := 18) ?hd (xs := ([] : List S47)) (inner := []) (ok := fun _ => True) (okp := fun _ => True) ?hr ?hp (fun _ hk => hk) trivial HB3.out HB3.out.size (by simp) ?_; (case hd => rfl); (case hg => rfl); (case hr => first | (go_simp; done) | (go_simp; rfl)); (case hp => exact (Reps.none _ _)); intro v1 w1 ho hb hg_ hnew_; obtain ⟨A5, c5, hv5⟩ := Kd.S_slice ho; subst hv5; have HO := mk_ ho; have HB := mk_ hb; clear ho hb hg_ hnew_))
      refine bodyPost_ret (results_list (rs := [.tmp 4, .tmp 5]) rfl (by simp) (.tmp (.tmp .nil))) rfl ?_
      exact ⟨_, _, rfl, HO.out, HB.out⟩
    · replace hnum : impl_PortsOk.num a1 = true := by simpa using hnum
      have hnu := num_in a1
      rw [hnum] at hnu
      have HNUM := mk_ hnu
      by_cases hout : 0 ≤ v ∨ l0.length = 4
      · have h1 : listenP true l0 a1 = (l0, false) := by
          unfold listenP
          rw [if_neg (by simp [hnum]), if_pos]
          rcases hout with h | h
          · exact .inl (hv.mp h)
          · exact .inr (by omega)
        have h2 := HL.out
        rw [h1] at h2
        injection h2 with h2 h3
        subst h2
        subst h3
        have hb30 : decide (v ≥ 0) = true ∨ (decide (v ≥ 0) = false ∧ ((l0.length : Int) == 4) = true) := by
          by_cases h : 0 ≤ v
          · exact .inl (decide_eq_true h)
          · exact .inr ⟨decide_eq_false (by omega), by
              rcases hout with h4 | h4
              · exact absurd h4 h
              · exact beq_iff_eq.mpr (by omega)⟩
        clear hout h1 hv hnum hnu hl4
        rcases hb30 with hb30 | ⟨hb30, hb31⟩
        all_goals
          go_enter Try.func18, Try.ntmps18
          go_wp2_with (first | (go_at_call 12; (with_reducible refine (spec_PortsOk.calls k A0 c0 l0 true _ ?s1 ?s2 HPO.out).mono ?_); (case s1 => exact HR.out); (case s2 => exact HC0.out); rintro e w3 ⟨rfl, hb⟩; have HB3 := mk_ hb; clear hb) | (go_at_call 40; (with_reducible refine (spec_l1In.calls a1 1 255 true _ HNUM.out).mono ?_); rintro e w' ⟨rfl, hd⟩; have HB3 := mk_ (below_step HB3.out hd.below); clear hd) | (go_at_call 51; (with_reducible refine (spec_l9At.calls k A0 c0 l0 a1 v _ ?s1 ?s2 HAT.out).mono ?_); (case s1 => exact Kd.C_below HR.out HB3.out); (case s2 => exact HC0.out); rintro e w' ⟨rfl, hd⟩; have HB3 := mk_ (below_step HB3.out hd.below); clear hd) | (go_at_call 52; (with_reducible refine (l9Copy_apart A0 c0 l0 _ ?s1 ?s2).mono ?_); (case s1 => exact Kd.C_below HR.out HB3.out); (case s2 => exact HSM.out); rintro e w6 ⟨Ao, co, rfl, ho, hb⟩; have HB6 := mk_ (below_step HB3.out hb); have HO := mk_ (Kd.S_lower ho HB3.out.size); clear ho hb))
          refine bodyPost_ret (results_list (rs := [.tmp 4, .tmp 5]) rfl (by simp) (.tmp (.tmp .nil))) rfl ?_
          exact ⟨_, _, rfl, HO.out, HB6.out⟩
      · have hv0 : ¬ 0 ≤ v := fun h => hout (.inl h)
        have hn4 : l0.length < 4 := by
          have : ¬ l0.length = 4 := fun h => hout (.inr h)
          omega
        have h1 : listenP true l0 a1 = (putP l0 a1 (l0.findIdx (fun p => decide (a1 < p.f0))), true) := by
          unfold listenP
          rw [if_neg (by simp [hnum]), if_neg (fun h => h.elim (fun h => hv0 (hv.mpr h)) (by omega))]
          rfl
        have h2 := HL.out
        rw [h1] at h2
        injection h2 with h2 h3
        subst h3
        have hb30 : decide (v ≥ 0) = false := decide_eq_false (by omega)
        have hb31 : ((l0.length : Int) == 4) = false := by
          cases h : ((l0.length : Int) == 4)
          · rfl
          · have := beq_iff_eq.mp h; omega
        obtain ⟨i, hi⟩ : ∃ i, l0.findIdx (fun p => decide (a1 < p.f0)) = i := ⟨_, rfl⟩
        rw [hi] at h2
        have hil : i ≤ l0.length := by rw [← hi]; exact List.findIdx_le_length
        have HI := mk_ hi
        have HIL := mk_ hil
        have HOO := mk_ h2
        have HLN := mk_ (show l0.length ≤ 1000 from HSM.out.1)
        clear h1 h2 hout hv hnum hnu hl4 hv0 hi hil hn4
        go_enter Try.func18, Try.ntmps18
        go_wp2_with (first | (go_at_call 12; (with_reducible refine (spec_PortsOk.calls k A0 c0 l0 true _ ?s1 ?s2 HPO.out).mono ?_); (case s1 => exact HR.out); (case s2 => exact HC0.out); rintro e w3 ⟨rfl, hb⟩; have HB3 := mk_ hb; clear hb) | (go_at_call 40; (with_reducible refine (spec_l1In.calls a1 1 255 true _ HNUM.out).mono ?_); rintro e w' ⟨rfl, hd⟩; have HB3 := mk_ (below_step HB3.out hd.below); clear hd) | (go_at_call 51; (with_reducible refine (spec_l9At.calls k A0 c0 l0 a1 v _ ?s1 ?s2 HAT.out).mono ?_); (case s1 => exact Kd.C_below HR.out HB3.out); (case s2 => exact HC0.out); rintro e w' ⟨rfl, hd⟩; have HB3 := mk_ (below_step HB3.out hd.below); clear hd) | ((with_reducible refine gate_dst (N := 30) rfl ?_); refine Kd.S_lit k47S (w0 := w) w.heap.size 47 ?hg (N := 30) ?hd (xs := ([] : List S47)) (inner := []) (ok := fun _ => True) (okp := fun _ => True) ?hr ?hp (fun _ hk => hk) trivial HB3.out HB3.out.size (by simp) ?_; (case hd => rfl); (case hg => rfl); (case hr => first | (go_simp; done) | (go_simp; rfl)); (case hp => exact (Reps.none _ _)); intro v1 w1 ho hb hg_ hnew_; obtain ⟨A5, c5, hv5⟩ := Kd.S_slice ho; subst hv5; have HO := mk_ ho; have HB := mk_ hb; clear ho hb hg_ hnew_) | (go_at_call 52; (with_reducible refine (l9Copy_apart A0 c0 l0 _ ?s1 ?s2).mono ?_); (case s1 => exact Kd.C_below HR.out HB.out); (case s2 => exact HSM.out); rintro e w6 ⟨Ao, co, rfl, ho, hb⟩; have HB6 := mk_ (below_step HB.out hb); have hlt_ := Kd.R_lt (Kd.S_R HO.out); obtain ⟨f, hof⟩ := Kd.S_fresh ho; have HOLD := mk_ (Kd.R_mono (Kd.R_lower (Kd.R_elder0 hof) HB.out.size) (fun kk hk => (⟨⟨hk.1.2, hk.2⟩, fun e_ => by have h1_ := hlt_ kk e_.symm; have h2_ := hk.1.2; omega⟩ : (w1.heap.size ≤ kk ∧ kk < w6.heap.size) ∧ some kk ≠ (Value.slice A5 ([] : List S47).length c5).ownBlock))); have H66 := mk_ (Nat.le_refl w6.heap.size); clear hof; have HOU := mk_ (outq_start f 0 (Kd.S_elder HO.out) hb); clear ho hb))
        have hgo := HOLD.out
        go_loopw [6, 7, 9] (fun v6 v7 v9 wr => ∃ (q : Nat) (dn : Bool) (X : List S47), q ≤ l0.length ∧ v7 = .bool dn ∧ v9 = .int .i64 q ∧ Aside0 ((dn = true → i < q ∧ X = o.take (q + 1)) ∧ (dn = false → q ≤ i ∧ X = o.take q)) ∧ Aside0 (Kd.S k47S 47 wr w.heap.size (okq f w1.heap.size w6.heap.size q) v6 X) ∧ Aside0 (Kd.R (Kd.tag f k47S) 47 wr w.heap.size (fun kk => (w1.heap.size ≤ kk ∧ kk < w6.heap.size) ∧ some kk ≠ v6.ownBlock) (.slice Ao l0.length co) l0.zipIdx) ∧ Aside0 (w6.heap.size ≤ wr.heap.size) ∧ Aside0 (Below w.heap.size w wr)) (fun _ _ v9 _ => l0.length - (intOf v9).toNat)
        case atStart => exact ⟨0, false, [], Nat.zero_le _, rfl, rfl, ⟨(fun h => by cases h), fun _ => ⟨Nat.zero_le _, by simp⟩⟩, HOU, HOLD, H66, HB6⟩
        case round =>
          obtain ⟨q, dn, X, hq, rfl, rfl, HF, HX, HD, H6, HB⟩ := hrel
          have hilo := HIL.out
          have hol : o.length = l0.length + 1 := by rw [← HOO.out]; exact putP_length l0 a1 i hilo
          have hxl : X.length ≤ 2000 := by
            have h1 := HLN.out
            cases dn with
            | true => rw [(HF.out.1 rfl).2, List.length_take]; omega
            | false => rw [(HF.out.2 rfl).2, List.length_take]; omega
          have HXL := mk_ hxl
          have HOLN := mk_ hol
          clear hxl hol hilo
          by_cases hlt : q < l0.length
          · obtain ⟨g, cap, hvv, _⟩ := Kd.R_form HD.out (by rw [List.length_zipIdx]; omega)
            injection hvv with hv1 hv2 hv3
            subst hv1
            have HQ1 := mk_ (show q + 1 ≤ l0.length from hlt)
            have HLT := mk_ hlt
            obtain ⟨P, hP⟩ : ∃ P, rd_T47 l0 (q : Int) = P := ⟨_, rfl⟩
            obtain ⟨N, L⟩ := P
            have HP := mk_ hP
            clear hv2 hv3 hgo hP
            cases dn with
            | true =>
              obtain ⟨A1, c1, hk0, hk1, hM⟩ := old_elemS HD.out q hlt
              rw [HP.out] at hk0 hk1 hM
              dsimp only at hk0 hk1 hM
              have HM := mk_ hM
              clear hM
              go_wp2_with (((with_reducible refine gate_builtin (b := .append) (xs := #[.tmp 55, .tmp 60]) rfl ?_); at_builtin; refine Kd.S_append k47S (w0 := w) w.heap.size rfl (.tmp 55) (.tmp 60) 25 47 (.agg #[(.int .i64 0), (.slice none 0 0)]) 32 rfl Try.underlying25 HI47.out rfl (by decide) (by omega) u6 (X) (⟨N, L⟩ : S47) [.int .i64 N, .slice A1 L.length c1] (okq f w1.heap.size w6.heap.size (q + 1)) (fun kk => (((w1.heap.size ≤ kk ∧ kk < w6.heap.size) ∧ some kk ≠ (u6 : Value).ownBlock) ∧ kk ≠ g) ∧ f kk = q) rfl rfl HM.out (fun kk hk => ⟨okq_el hk.2, hk.1.1.2⟩) (fun kk hk => okq_new (Nat.le_trans H6.out hk)) (Kd.S_mono HX.out (fun kk hk => ⟨okq_up hk, fun h_ => hk ⟨h_.1.1.1, Nat.le_of_eq h_.2.symm⟩⟩)) HB.out HB.out.size (by have h1_ := HXL.out; (try simp only [List.length_append, List.length_singleton]); omega) ?_; intro v_HX1 w_HX1 ho hb hg hat; have HX1 := mk_ ho; have HD1 := mk_ (Kd.R_after HD.out hg hat); have HB1 := mk_ hb; have H61 := mk_ (Nat.le_trans H6.out hg.size); clear ho hb hg hat))
              go_roundw
              case rel => exact ⟨q + 1, true, X ++ [⟨N, L⟩], HQ1.out, rfl, by rw [wrap_next q (by have := HLN.out; have := HQ1.out; omega)], ⟨fun _ => ⟨by have := (HF.out.1 rfl).1; omega, by
                rw [(HF.out.1 rfl).2, ← HOO.out, ← HP.out]
                exact (putP_next l0 a1 i q (by have := (HF.out.1 rfl).1; omega) HLT.out).symm⟩, fun h => by cases h⟩, HX1, HD1, H61, HB1⟩
              case measure => have h1_ := HLN.out; have h2_ := HQ1.out; rw [wrap_next q (by omega)]; simp only [intOf, Int.toNat_natCast]; omega
            | false =>
              obtain ⟨hqi, hX⟩ := HF.out.2 rfl
              have HXX := mk_ hX
              have HQI := mk_ hqi
              by_cases hc : a1 < N
              · have hqe : i = q := by
                  have := findIdx_le_of (p := fun p => decide (a1 < p.f0)) hlt (by rw [HP.out]; exact decide_eq_true hc)
                  rw [HI.out] at this
                  omega
                have HQE := mk_ hqe
                have hcb : decide (a1 < N) = true := decide_eq_true hc
                obtain ⟨A1, c1, hk0, hk1, hM⟩ := old_elemS HD.out q hlt
                rw [HP.out] at hk0 hk1 hM
                dsimp only at hk0 hk1 hM
                clear hc hqe hqi hX hM
                go_wp2_with (first | ((with_reducible refine gate_builtin (b := .append) (xs := #[.tmp 50, .tmp 53]) rfl ?_); at_builtin; refine Kd.S_append k47S (w0 := w) w.heap.size rfl (.tmp 50) (.tmp 53) 25 47 (.agg #[(.int .i64 0), (.slice none 0 0)]) 32 rfl Try.underlying25 HI47.out rfl (by decide) (by omega) u6 (X) (⟨a1, []⟩ : S47) [.int .i64 a1, .slice none 0 0] (okq f w1.heap.size w6.heap.size (q)) (fun _ => False) rfl rfl (k47S_mkM _ _ _ ⟨a1, []⟩ (Kd.S_nil _ _ _ _ _)) (fun _ hk => hk.elim) (fun kk hk => okq_new (Nat.le_trans H6.out hk)) (Kd.S_mono HX.out (fun kk hk => ⟨hk, fun h_ => h_⟩)) HB.out HB.out.size (by have h1_ := HXL.out; (try simp only [List.length_append, List.length_singleton]); omega) ?_; intro v_HX1 w_HX1 ho hb hg hat; have HX1 := mk_ ho; have HD1 := mk_ (Kd.R_after HD.out hg hat); have HB1 := mk_ hb; have H61 := mk_ (Nat.le_trans H6.out hg.size); obtain ⟨A2, c2, hk0', hk1', hM'⟩ := old_elemS HD1.out q HLT.out; rw [HP.out] at hk0' hk1' hM'; dsimp only at hk0' hk1' hM'; have HM := mk_ hM'; clear hM'; clear ho hb hg hat) | ((with_reducible refine gate_builtin (b := .append) (xs := #[.tmp 55, .tmp 60]) rfl ?_); at_builtin; refine Kd.S_append k47S (w0 := w) w.heap.size rfl (.tmp 55) (.tmp 60) 25 47 (.agg #[(.int .i64 0), (.slice none 0 0)]) 32 rfl Try.underlying25 HI47.out rfl (by decide) (by omega) v_HX1 (X ++ [⟨a1, []⟩]) (⟨N, L⟩ : S47) [.int .i64 N, .slice A2 L.length c2] (okq f w1.heap.size w6.heap.size (q + 1)) (fun kk => (((w1.heap.size ≤ kk ∧ kk < w6.heap.size) ∧ some kk ≠ (v_HX1 : Value).ownBlock) ∧ kk ≠ g) ∧ f kk = q) rfl rfl HM.out (fun kk hk => ⟨okq_el hk.2, hk.1.1.2⟩) (fun kk hk => okq_new (Nat.le_trans H61.out hk)) (Kd.S_mono HX1.out (fun kk hk => ⟨okq_up hk, fun h_ => hk ⟨h_.1.1.1, Nat.le_of_eq h_.2.symm⟩⟩)) HB1.out HB1.out.size (by have h1_ := HXL.out; (try simp only [List.length_append, List.length_singleton]); omega) ?_; intro v_HX2 w_HX2 ho hb hg hat; have HX2 := mk_ ho; have HD2 := mk_ (Kd.R_after HD1.out hg hat); have HB2 := mk_ hb; have H62 := mk_ (Nat.le_trans H61.out hg.size); clear ho hb hg hat))
                go_roundw
                case rel => exact ⟨q + 1, true, X ++ [⟨a1, []⟩] ++ [⟨N, L⟩], HQ1.out, rfl, by rw [wrap_next q (by have := HLN.out; have := HQ1.out; omega)], ⟨fun _ => ⟨by have := HQE.out; omega, by
                  rw [HXX.out, ← HOO.out, ← HP.out, putP_next l0 a1 i q (by have := HQE.out; omega) HLT.out]
                  have h1_ := HQE.out
                  have h2_ := putP_at l0 a1 i HIL.out
                  rw [← h1_, h2_, putP_take l0 a1 i i (Nat.le_refl _) HIL.out]⟩, fun h => by cases h⟩, HX2, HD2, H62, HB2⟩
                case measure => have h1_ := HLN.out; have h2_ := HQ1.out; rw [wrap_next q (by omega)]; simp only [intOf, Int.toNat_natCast]; omega
              · have hcb : decide (a1 < N) = false := decide_eq_false hc
                have hqi2 : q + 1 ≤ i := by
                  have := findIdx_gt_of (p := fun p => decide (a1 < p.f0)) hlt (by rw [HI.out]; exact hqi) (by rw [HP.out]; exact hcb)
                  rw [HI.out] at this
                  exact this
                have HQ2 := mk_ hqi2
                obtain ⟨A1, c1, hk0, hk1, hM⟩ := old_elemS HD.out q hlt
                rw [HP.out] at hk0 hk1 hM
                dsimp only at hk0 hk1 hM
                have HM := mk_ hM
                clear hc hqi hqi2 hX hM
                go_wp2_with (((with_reducible refine gate_builtin (b := .append) (xs := #[.tmp 55, .tmp 60]) rfl ?_); at_builtin; refine Kd.S_append k47S (w0 := w) w.heap.size rfl (.tmp 55) (.tmp 60) 25 47 (.agg #[(.int .i64 0), (.slice none 0 0)]) 32 rfl Try.underlying25 HI47.out rfl (by decide) (by omega) u6 (X) (⟨N, L⟩ : S47) [.int .i64 N, .slice A1 L.length c1] (okq f w1.heap.size w6.heap.size (q + 1)) (fun kk => (((w1.heap.size ≤ kk ∧ kk < w6.heap.size) ∧ some kk ≠ (u6 : Value).ownBlock) ∧ kk ≠ g) ∧ f kk = q) rfl rfl HM.out (fun kk hk => ⟨okq_el hk.2, hk.1.1.2⟩) (fun kk hk => okq_new (Nat.le_trans H6.out hk)) (Kd.S_mono HX.out (fun kk hk => ⟨okq_up hk, fun h_ => hk ⟨h_.1.1.1, Nat.le_of_eq h_.2.symm⟩⟩)) HB.out HB.out.size (by have h1_ := HXL.out; (try simp only [List.length_append, List.length_singleton]); omega) ?_; intro v_HX1 w_HX1 ho hb hg hat; have HX1 := mk_ ho; have HD1 := mk_ (Kd.R_after HD.out hg hat); have HB1 := mk_ hb; have H61 := mk_ (Nat.le_trans H6.out hg.size); clear ho hb hg hat))
                go_roundw
                case rel => exact ⟨q + 1, false, X ++ [⟨N, L⟩], HQ1.out, rfl, by rw [wrap_next q (by have := HLN.out; have := HQ1.out; omega)], ⟨(fun h => by cases h), fun _ => ⟨HQ2.out, by
                  have h1_ := HQ2.out
                  rw [HXX.out, ← HOO.out, ← HP.out, putP_take l0 a1 i q (by omega) HIL.out, putP_take l0 a1 i (q + 1) h1_ HIL.out]
                  exact (take47 l0 q HLT.out).symm⟩⟩, HX1, HD1, H61, HB1⟩
                case measure => have h1_ := HLN.out; have h2_ := HQ1.out; rw [wrap_next q (by omega)]; simp only [intOf, Int.toNat_natCast]; omega
          · obtain rfl : q = l0.length := by omega
            cases dn with
            | true =>
              have hXo : X = o := by rw [(HF.out.1 rfl).2]; exact List.take_of_length_le (by have := HOLN.out; omega)
              subst hXo
              obtain ⟨A9, c9, hv9⟩ := Kd.S_slice HX.out
              subst hv9
              go_wp2
              refine bodyPost_ret (results_list (rs := [.tmp 4, .tmp 5]) rfl (by simp) (.tmp (.tmp .nil))) rfl ?_
              exact ⟨_, _, rfl, Kd.S_mono HX.out (fun _ _ => trivial), HB.out⟩
            | false =>
              obtain ⟨hqi, hX⟩ := HF.out.2 rfl
              have hie : i = l0.length := by have := HIL.out; omega
              have hXo : X ++ [⟨a1, []⟩] = o := by
                have h2_ := putP_at l0 a1 i HIL.out
                rw [hX, ← HOO.out, putP_take l0 a1 i _ (by omega) HIL.out, ← hie, ← h2_]
                exact List.take_of_length_le (by rw [putP_length l0 a1 i HIL.out]; omega)
              have HXO := mk_ hXo
              clear hqi hX hie hXo
              go_wp2_with (((with_reducible refine gate_builtin (b := .append) (xs := #[.tmp 64, .tmp 67]) rfl ?_); at_builtin; refine Kd.S_append k47S (w0 := w) w.heap.size rfl (.tmp 64) (.tmp 67) 25 47 (.agg #[(.int .i64 0), (.slice none 0 0)]) 32 rfl Try.underlying25 HI47.out rfl (by decide) (by omega) u6 (X) (⟨a1, []⟩ : S47) [.int .i64 a1, .slice none 0 0] (okq f w1.heap.size w6.heap.size (l0.length)) (fun _ => False) rfl rfl (k47S_mkM _ _ _ ⟨a1, []⟩ (Kd.S_nil _ _ _ _ _)) (fun _ hk => hk.elim) (fun kk hk => okq_new (Nat.le_trans H6.out hk)) (Kd.S_mono HX.out (fun kk hk => ⟨hk, fun h_ => h_⟩)) HB.out HB.out.size (by have h1_ := HXL.out; (try simp only [List.length_append, List.length_singleton]); omega) ?_; intro v_HX1 w_HX1 ho hb hg hat; have HX1 := mk_ ho; have HD1 := mk_ (Kd.R_after HD.out hg hat); have HB1 := mk_ hb; have H61 := mk_ (Nat.le_trans H6.out hg.size); rw [HXO.out] at HX1; obtain ⟨A9, c9, hv9⟩ := Kd.S_slice HX1.out; subst hv9; clear ho hb hg hat))
              refine bodyPost_ret (results_list (rs := [.tmp 4, .tmp 5]) rfl (by simp) (.tmp (.tmp .nil))) rfl ?_
              exact ⟨_, _, rfl, Kd.S_mono HX1.out (fun _ _ => trivial), HB1.out⟩
end Go.Proofs.Ytkkibccnpkbbjaa.MFnPortsOk
