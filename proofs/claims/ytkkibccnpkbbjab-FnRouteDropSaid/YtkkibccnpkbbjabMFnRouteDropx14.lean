/- Functions that the law FnRouteDrop reaches, typed by hand: the program's RoutePut at a route that is not there yet; no conditions but those that each theorem states. -/
import Derived.Test.YtkkibccnpkbbjabMFnRouteDropx13
import Derived.StillTailTactics
import Derived.IntWalk
import Derived.Deep.RegionHeld3
import Derived.Deep.RegionLaw
import Derived.Shelf.Spec.SlicesInsertGrow
import Derived.Shelf.Spec.SlicesInsert
import Derived.Deep.QuietTactic
import Derived.BigQuiet
namespace Go.Proofs.Ytkkibccnpkbbjab.MFnRouteDrop
open Go.RowKit Go.Proofs.YtkkibccnpkbbjabV.PrintWords Go.Proofs.YtkkibccnpkbbjabV.PrintLast Go.Proofs.YtkkibccnpkbbjabV.PrintMore
attribute [local go_sem] max2_int min2_int max_two min_two max_three min_three max_four min_four
set_option linter.unusedVariables false
set_option linter.unusedSimpArgs false
/-! ### slices.Insert at routes, joined -/
/-- An own row's block holds room for its whole capacity. -/
theorem own_room {w : World} {base n c : Nat} {ok : Nat → Prop} {A : Option Addr} {l : List S29} (h : Kd.R k29 29 w base ok (.slice A n c) l) (hn : 0 < n) : ∃ b cur, A = some ⟨b, 0, none⟩ ∧ base ≤ b ∧ w.heap[b]? = some (.cells cur 29 (0, 0)) ∧ c ≤ 9223372036854775807 ∧ c * 4 ≤ cur.size := by
  obtain ⟨inner, ho⟩ := Kd.R_own h
  rcases ho.2 with ⟨he, h0⟩ | ⟨g, cap, cur, he, hb, hg, h1, h2, h3, h4⟩
  · injection he with _ h5 _
    omega
  · injection he with h5 h6 h7
    subst h7
    exact ⟨g, cur, h5, hb, hg, Nat.le_trans h2 (by decide), h3⟩
set_option maxHeartbeats 2000000 in
set_option maxRecDepth 100000 in
theorem insert29_in (b n c i vb base : Nat) (l : List S29) (x0 x1 x2 x3 : Int) (ok : Nat → Prop) (w : World) (vcur : Array Value) (hi : i < n) (hn : n ≤ 1000) (hroom : n + 1 ≤ c) (hR : Kd.R k29 29 w base ok (.slice (some ⟨b, 0, none⟩) n c) l) (hvb : vb ≠ b) (hv : w.heap[vb]? = some (.cells vcur 29 (0, 0)))
    (hv0 : w.cell? ⟨vb, 0, none⟩ = some (.int .i64 x0)) (hv1 : w.cell? ⟨vb, 1, none⟩ = some (.int .i64 x1)) (hv2 : w.cell? ⟨vb, 2, none⟩ = some (.int .i64 x2)) (hv3 : w.cell? ⟨vb, 3, none⟩ = some (.int .i64 x3)) :
    Calls Try.prog 88 #[.slice (some ⟨b, 0, none⟩) n c, .int .i64 i, .slice (some ⟨vb, 0, none⟩) 1 1] w fun e w' =>
      ∃ (A : Option Addr) (c' : Nat), e = .returned (.slice A (n + 1) c') ∧ n + 1 ≤ c' ∧ Kd.C k29 w' A (n + 1) (l.take i ++ [⟨x0, x1, x2, x3⟩] ++ l.drop i) ∧ Below base w w' := by
  obtain ⟨b', cur, hA, hbb, hg, hc63, hsize⟩ := own_room hR (by omega)
  injection hA with hA
  injection hA with hA _ _
  subst hA
  obtain ⟨hnl, _, hC⟩ := Kd.R_reads' hR
  obtain ⟨cs, hrep, hcell⟩ := ReadsRow.inner_ hC
  have hcell' : ∀ j v, cs[j]? = some v → w.cell? ⟨b, j, none⟩ = some v := fun j v h => by
    have := hcell j v h
    rwa [add_plain] at this
  have hone : ∀ v ∈ cs, v.oneCell' = true := Kd.reps_one hrep (by decide) (fun p c hp => k29.K_one hp)
  have hvone : ∀ v ∈ [Value.int .i64 x0, .int .i64 x1, .int .i64 x2, .int .i64 x3], v.oneCell' = true := fun v hv => by
    simp only [List.mem_cons, List.not_mem_nil, or_false] at hv
    rcases hv with rfl | rfl | rfl | rfl <;> rfl
  have hcl : cs.length = l.length * 4 := hrep.1
  refine (insert29_shift b n c i vb cs [.int .i64 x0, .int .i64 x1, .int .i64 x2, .int .i64 x3] cur vcur w hi hn hroom hc63 hvb (by rw [hcl, hnl]) rfl hg hsize hv hcell' (fun j v hj => by
    match j with
    | 0 => have : Value.int .i64 x0 = v := Option.some.inj hj; rw [← this]; exact hv0
    | 1 => have : Value.int .i64 x1 = v := Option.some.inj hj; rw [← this]; exact hv1
    | 2 => have : Value.int .i64 x2 = v := Option.some.inj hj; rw [← this]; exact hv2
    | 3 => have : Value.int .i64 x3 = v := Option.some.inj hj; rw [← this]; exact hv3
    | j + 4 => cases hj) hone hvone).mono ?_
  rintro e w' ⟨he, hw'⟩
  have hB : Below base w w' := by
    rw [hw']
    exact setCells_below _ _ (setCells_below _ _ (nw_ (Below.refl _ _)) hbb) hbb
  have hdl : (cs.drop (i * 4)).length = (n - i) * 4 := by rw [List.length_drop, hcl]; omega
  have htl : (cs.take (i * 4)).length = i * 4 := by rw [List.length_take]; omega
  have hsome : ∀ j, j < (n + 1) * 4 → (w.drew.cell? ⟨b, j, none⟩).isSome = true := fun j hj => by
    show (w.cell? ⟨b, j, none⟩).isSome = true
    rw [blk_cell hg, Array.getElem?_eq_getElem (by omega)]; rfl
  have hT : ∀ j u, (cs.take (i * 4) ++ [Value.int .i64 x0, .int .i64 x1, .int .i64 x2, .int .i64 x3] ++ cs.drop (i * 4))[j]? = some u → w'.cell? ⟨b, j, none⟩ = some u := by
    rw [hw']
    exact ins_cells2 (cs.take (i * 4)) [Value.int .i64 x0, .int .i64 x1, .int .i64 x2, .int .i64 x3] (cs.drop (i * 4)) htl rfl hdl (Nat.le_of_lt hi) (fun j u hu => hcell' j u (by
      have hj := (List.getElem?_eq_some_iff.1 hu).1
      rw [htl] at hj
      rwa [List.getElem?_take_of_lt hj] at hu)) hsome
  refine ⟨_, _, he, hroom, ?_, hB⟩
  have hlen : (l.take i ++ [(⟨x0, x1, x2, x3⟩ : S29)] ++ l.drop i).length = n + 1 := by
    simp only [List.length_append, List.length_take, List.length_drop, List.length_singleton]
    omega
  have hreps : Reps (k29.K w) 4 (l.take i ++ [(⟨x0, x1, x2, x3⟩ : S29)] ++ l.drop i) (cs.take (i * 4) ++ [Value.int .i64 x0, .int .i64 x1, .int .i64 x2, .int .i64 x3] ++ cs.drop (i * 4)) := by
    refine Kd.reps_append (Reps.snoc (Kd.reps_take (m := i) hrep (by omega)) (k29_mk w ⟨x0, x1, x2, x3⟩) rfl) (Kd.reps_drop hrep)
  have := C_of_reps (d := k29) (w := w') (ad := ⟨b, 0, none⟩) (hreps.imp_ (fun p c hp => hp)) (fun j u hu => by rw [add_plain]; exact hT j u hu) (by rw [hlen]; omega)
  rw [hlen] at this
  exact this
theorem insert29 (A : Option Addr) (n c i vb base : Nat) (l : List S29) (x : S29) (ok : Nat → Prop) (w : World) (vcur : Array Value) (hi : i ≤ n) (hn : n ≤ 1000) (hR : Kd.R k29 29 w base ok (.slice A n c) l) (hok : ∀ k, w.heap.size ≤ k → ok k) (hb : base ≤ w.heap.size) (hvb : ∀ k, (Value.slice A n c).ownBlock = some k → vb ≠ k) (hv : w.heap[vb]? = some (.cells vcur 29 (0, 0)))
    (hv0 : w.cell? ⟨vb, 0, none⟩ = some (.int .i64 x.f0)) (hv1 : w.cell? ⟨vb, 1, none⟩ = some (.int .i64 x.f1)) (hv2 : w.cell? ⟨vb, 2, none⟩ = some (.int .i64 x.f2)) (hv3 : w.cell? ⟨vb, 3, none⟩ = some (.int .i64 x.f3)) :
    Calls Try.prog 88 #[.slice A n c, .int .i64 i, .slice (some ⟨vb, 0, none⟩) 1 1] w fun e w' =>
      ∃ (A' : Option Addr) (c' : Nat), e = .returned (.slice A' (n + 1) c') ∧ n + 1 ≤ c' ∧ Kd.C k29 w' A' (n + 1) (l.take i ++ [x] ++ l.drop i) ∧ Below base w w' := by
  obtain ⟨x0, x1, x2, x3⟩ := x
  obtain ⟨hnl, hnc, hC⟩ := Kd.R_reads' hR
  rcases Nat.lt_or_ge i n with h | h
  · obtain ⟨b, cur, rfl, hbb, hg, hc63, hsize⟩ := own_room hR (by omega)
    rcases Nat.lt_or_ge n c with h1 | h1
    · exact insert29_in b n c i vb base l x0 x1 x2 x3 ok w vcur h hn h1 hR (hvb b rfl) hv hv0 hv1 hv2 hv3
    · obtain rfl : c = n := by omega
      refine (insert29_at b c i vb c l x0 x1 x2 x3 base ok w h hn hR hv0 hv1 hv2 hv3).mono ?_
      rintro e w' ⟨A', c', h1, h2, h3, h4⟩
      exact ⟨A', c', h1, h2, h3, h4.mono hb⟩
  · obtain rfl : i = n := by omega
    refine (insert29_end A i c vb l x0 x1 x2 x3 base ok w hn hR hok hb hv0 hv1 hv2 hv3).mono ?_
    rintro e w' ⟨A', c', h1, h2, h3, h4⟩
    refine ⟨A', c', h1, h2, ?_, h4⟩
    rw [List.take_of_length_le (by omega), List.drop_of_length_le (by omega), List.append_nil]
    exact h3
/-! ### impl.RoutePut, at a route that is not there yet -/
theorem srch_at {l : List S29} {y : S29} {p p' : Nat} {b : Bool} (hp : p ≤ l.length) (hlo : ∀ x : Nat, x < p → ordI (rd_T29 l (x : Int)) y < 0) (hhi : ∀ x : Nat, p ≤ x → x < l.length → 0 < ordI (rd_T29 l (x : Int)) y) (h : srchP l y p' b) : p' = p ∧ b = false := by
  obtain ⟨h1, h2, h3, h4⟩ := h
  have hpp : p' = p := by
    rcases Nat.lt_trichotomy p p' with h5 | h5 | h5
    · have h6 := h2 p h5
      have h7 := hhi p (Nat.le_refl _) (by omega)
      omega
    · exact h5.symm
    · have h6 := hlo p' h5
      have h7 := h3 p' (Nat.le_refl _) (by omega)
      omega
  refine ⟨hpp, ?_⟩
  subst hpp
  cases b with
  | false => rfl
  | true =>
    have h5 := h4.1 rfl
    have h6 := hhi p' (Nat.le_refl _) h5.1
    omega
theorem own_cells4 {w : World} {base c : Nat} {ok : Nat → Prop} {A : Option Addr} {y0 y1 y2 y3 : Int} (h : Kd.R k29 29 w base ok (.slice A 1 c) [⟨y0, y1, y2, y3⟩]) : ∃ b cur, A = some ⟨b, 0, none⟩ ∧ base ≤ b ∧ w.heap[b]? = some (.cells cur 29 (0, 0)) ∧ w.cell? ⟨b, 0, none⟩ = some (.int .i64 y0) ∧ w.cell? ⟨b, 1, none⟩ = some (.int .i64 y1) ∧ w.cell? ⟨b, 2, none⟩ = some (.int .i64 y2) ∧ w.cell? ⟨b, 3, none⟩ = some (.int .i64 y3) := by
  obtain ⟨b, cur, rfl, h1, h2, _, _⟩ := own_room h (by omega)
  obtain ⟨⟨h3, h4, h5, h6⟩, _⟩ := el29 h 0 (by omega)
  exact ⟨b, cur, rfl, h1, h2, h3, h4, h5, h6⟩
theorem new29 (w : World) (cs : Array Value) : (w.alloc (.cells cs 29)).heap[w.heap.size]? = some (.cells cs 29 (0, 0)) := by
  show (w.heap.push (.cells cs 29 (0, 0)))[w.heap.size]? = _
  exact Array.getElem?_push_size
theorem call83 (A : Option Addr) (c n : Nat) (l : List S29) (w : World) (hn : l.length = n) (hs : n ≤ 1000) (hr : Kd.C k29 w A n l) (hc : n ≤ c) :
    Calls Try.prog 83 #[.slice A n c] w fun e w' => ∃ (A' : Option Addr) (c' : Nat), e = .returned (.slice A' n c') ∧ n ≤ c' ∧ Kd.C k29 w' A' n l ∧ Below w.heap.size w w' := by
  subst hn
  refine (impl_Route_83.calls A c l l w hr hc (clone29 hs)).mono ?_
  rintro e w6 ⟨v6, rfl, hR, hb⟩
  obtain ⟨A6, c6, hv6⟩ := Kd.R_slice hR
  subst hv6
  obtain ⟨_, h1, h2⟩ := Kd.R_reads' hR
  exact ⟨A6, c6, rfl, h1, h2, hb⟩
set_option maxHeartbeats 2000000 in
set_option maxRecDepth 100000 in
theorem routePut43 (k p : Nat) (A : Option Addr) (c : Nat) (l : List S29) (y0 y1 y2 y3 : Int) (w : World) (hr0 : Kd.C k29 w A l.length l) (hc0 : l.length ≤ c) (hok : impl_RoutesOk.f k l = some true) (hyk : impl_RouteOk.f y0 y1 y2 y3 = some true) (hs : l.length ≤ 7)
    (ho : ∀ x : S29, impl_Route_order.f k x.f0 x.f1 x.f2 x.f3 y0 y1 y2 y3 = some (ordI x ⟨y0, y1, y2, y3⟩)) (hp : p ≤ l.length) (hlo : ∀ x : Nat, x < p → ordI (rd_T29 l (x : Int)) ⟨y0, y1, y2, y3⟩ < 0) (hhi : ∀ x : Nat, p ≤ x → x < l.length → 0 < ordI (rd_T29 l (x : Int)) ⟨y0, y1, y2, y3⟩) :
    Calls Try.prog 43 #[.slice A l.length c, .agg #[.int .i64 y0, .int .i64 y1, .int .i64 y2, .int .i64 y3]] w fun e w' => ∃ (A' : Option Addr) (c' : Nat), e = .returned (.tuple #[.slice A' (l.length + 1) c', .bool true]) ∧ (Kd.C k29 w' A' (l.length + 1) (l.take p ++ [⟨y0, y1, y2, y3⟩] ++ l.drop p) ∧ l.length + 1 ≤ c') ∧ Below w.heap.size w w' := by
  have hln : (l.take p ++ [(⟨y0, y1, y2, y3⟩ : S29)] ++ l.drop p).length = l.length + 1 := by
    simp only [List.length_append, List.length_take, List.length_drop, List.length_singleton]
    omega
  have hgt : ¬ ((l.length : Int) + 1 > 8) := by omega
  have HR := mk_ hr0
  have HC := mk_ hc0
  have HOK := mk_ hok
  have HYK := mk_ hyk
  have HS := mk_ (show l.length ≤ 1000 by omega)
  have HO := mk_ ho
  have HLO := mk_ hlo
  have HHI := mk_ hhi
  have HP := mk_ hp
  have HU := mk_ (show ∀ i j : Nat, i < j → j < l.length → ordI (rd_T29 l (j : Int)) ⟨y0, y1, y2, y3⟩ < 0 → ordI (rd_T29 l (i : Int)) ⟨y0, y1, y2, y3⟩ < 0 from fun i j hij hj h => hlo i (by
    rcases Nat.lt_or_ge j p with h1 | h1
    · omega
    · have := hhi j h1 hj
      omega))
  have HLN := mk_ hln
  clear hr0 hc0 hok hyk ho hlo hhi hp hln
  go_enter Try.func43, Try.ntmps43
  go_wp2_with (first
    | ((with_reducible refine gate_dst (N := 3) rfl ?_); refine box_event ?hg (N := 3) ?hd (cs := #[.int .i64 y0, .int .i64 y1, .int .i64 y2, .int .i64 y3]) (t := 29) ?hr ?_; (case hd => rfl); (case hg => rfl); (case hr => first | (go_simp; done) | (go_simp; rfl)); intro b1 hg_ w1 hbox_ hb_; have HX1 := mk_ hbox_; have HB1 := mk_ hb_; clear hg_ hbox_ hb_)
    | (go_at_call 42; (with_reducible refine (impl_RoutesOk.calls k A c l true _ ?s0 ?s1 HOK.out).mono ?_); (case s0 => exact Kd.C_below HR.out (us_ HB1.out)); (case s1 => exact HC.out); rintro e w3 ⟨rfl, hb⟩; have HX3 := mk_ (blk_below (u_ HX1.out) hb); have HB3 := mk_ (below_step (us_ HB1.out) hb); clear hb; obtain ⟨ha0, ha1, ha2, ha3, _, _, _, _⟩ := cells4_ HX3.out)
    | (go_at_call 85; (with_reducible refine (impl_RouteOk.calls y0 y1 y2 y3 true _ HYK.out).mono ?_); rintro e w4 ⟨rfl, hb⟩; have HX4 := mk_ (blk_below (u_ HX3.out) hb); have HB4 := mk_ (below_step (us_ HB3.out) hb); clear hb ha0 ha1 ha2 ha3)
    | (go_at_call 81; (with_reducible refine (clone81 A c l _ ?s0 ?s1 ?s2).mono ?_); (case s0 => exact Kd.C_below HR.out (us_ HB4.out)); (case s1 => exact HC.out); (case s2 => exact HS.out); rintro e w5 ⟨A5, c5, rfl, hO5, hb⟩; have HO5 := mk_ (Kd.R_lower hO5 (below_size (us_ HB4.out))); have HX5 := mk_ (blk_below (u_ HX4.out) hb); have HB5 := mk_ (below_step (us_ HB4.out) hb); clear hb hO5; obtain ⟨hc0, hc1, hc2, hc3, _, _, _, _⟩ := cells4_ HX5.out)
    | (go_at_call 87; (with_reducible refine (search87 k A5 c5 l y0 y1 y2 y3 _ ?s0 HS.out HO.out HU.out).mono ?_); (case s0 => exact (Kd.R_reads' (Kd.R_below (Kd.ur_ HO5.out) (Below.refl _ _))).2.2); rintro e w6 ⟨⟨p', b', hsr, rfl⟩, hb⟩; obtain ⟨hp', hb'⟩ := srch_at HP.out HLO.out HHI.out hsr; subst hp'; subst hb'; have HO6 := mk_ (Kd.R_below (Kd.ur_ HO5.out) hb); have HX6 := mk_ (blk_below (u_ HX5.out) hb); have HB6 := mk_ (below_step (us_ HB5.out) hb); clear hb hsr hc0 hc1 hc2 hc3; obtain ⟨hd0, hd1, hd2, hd3, _, _, _, _⟩ := cells4_ HX6.out)
    | (go_at_call 88; (with_reducible refine (insert29 A5 l.length c5 p' w6.heap.size w.heap.size l ⟨y0, y1, y2, y3⟩ (fun _ => True) _ #[.int .i64 y0, .int .i64 y1, .int .i64 y2, .int .i64 y3] HP.out HS.out ?s0 (fun _ _ => trivial) ?s1 ?s2 ?s3 ?s4 ?s5 ?s6 ?s7).mono ?_); (case s0 => exact Kd.R_below (Kd.ur_ HO6.out) (below_alloc (Below.refl _ _) _)); (case s1 => exact below_size (na_ (us_ HB6.out) _)); (case s2 => intro q hq; exact Nat.ne_of_gt (Kd.R_lt (Kd.ur_ HO6.out) q hq)); (case s3 => exact new29 _ _); (case s4 => exact (cells4_ (new29 _ _)).1); (case s5 => exact (cells4_ (new29 _ _)).2.1); (case s6 => exact (cells4_ (new29 _ _)).2.2.1); (case s7 => exact (cells4_ (new29 _ _)).2.2.2.1); rintro e w8 ⟨A8, c8, rfl, hc8, hC8, hb⟩; have HR8 := mk_ hC8; have HC8 := mk_ hc8; have HB8 := mk_ ((na_ (us_ HB6.out) _).trans hb); clear hb hc8 hC8 hd0 hd1 hd2 hd3)
    | (go_at_call 83; (with_reducible refine (call83 A8 c8 (l.length + 1) _ _ HLN.out (by omega) ?s0 HC8.out).mono ?_); (case s0 => exact Kd.C_below HR8.out (Below.refl _ _)); rintro e w9 ⟨A9, c9, rfl, hc9, hR9, hb⟩; have HR9 := mk_ (And.intro hR9 hc9); have HB9 := mk_ (below_step (us_ HB8.out) hb); clear hb hc9 hR9))
  go_ret2
  exact ⟨A9, c9, rfl, HR9.out, HB9.out⟩
end Go.Proofs.Ytkkibccnpkbbjab.MFnRouteDrop
