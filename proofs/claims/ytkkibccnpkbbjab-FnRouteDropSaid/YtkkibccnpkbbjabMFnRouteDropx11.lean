/- Functions that the law FnRouteDrop reaches, typed by hand: the program's RouteDrop; no conditions but those that each theorem states. -/
import Derived.Test.YtkkibccnpkbbjabMFnRouteDropx10
import Derived.StillTailTactics
import Derived.IntWalk
import Derived.Deep.RegionHeld3
import Derived.Deep.RegionLaw
import Derived.Shelf.Spec.SlicesInsertGrow
import Derived.Shelf.Spec.SlicesInsert
import Derived.Deep.QuietTactic
import Derived.BigQuiet
namespace Go.Proofs.Ytkkibccnpkbbjab.MFnRouteDrop
open Go.RowKit Go.Proofs.YtkkibccnpkbbjabV.PrintWords Go.Proofs.YtkkibccnpkbbjabV.PrintLast Go.Proofs.YtkkibccnpkbbjabV.PrintMore
attribute [local go_sem] max2_int min2_int max_two min_two max_three min_three max_four min_four
set_option linter.unusedVariables false
set_option linter.unusedSimpArgs false
/-! ### impl.RouteDrop -/
/-- What RouteDrop answers. -/
def dropP (r : Bool) (N B : Int) (l : List S29) : List S29 × Bool := if r = false then ([], false) else (keepR N B l, decide ((keepR N B l).length < l.length))
theorem keep_le (N B : Int) (l : List S29) : (keepR N B l).length ≤ l.length := List.length_filter_le _ _
theorem clone29 {l : List S29} (h : l.length ≤ 1000) : impl_Route_83.f l = some l := by
  unfold impl_Route_83.f
  rw [if_pos (by omega)]
theorem own_boxes {w w3 : World} {A : Option Addr} {n c b1 b2 : Nat} {l : List S29} (h : Kd.R k29 29 w3 w.heap.size (fun _ => True) (.slice A n c) l) (h1 : b1 < w.heap.size) (h2 : b2 < w.heap.size) (k : Nat) (hk : (Value.slice A n c).ownBlock = some k) : k ≠ b1 ∧ k ≠ b2 := by
  have h3 := (Kd.R_bound h).1 k hk
  have h4 := h3.2.1
  omega
set_option maxHeartbeats 2000000 in
set_option maxRecDepth 100000 in
theorem routeDrop39 (k : Nat) (A : Option Addr) (c : Nat) (l : List S29) (N B : Int) (r : Bool) (w : World) (hr0 : Kd.C k29 w A l.length l) (hc0 : l.length ≤ c) (hok : impl_RoutesOk.f k l = some r) (hs : r = true → l.length ≤ 1000) :
    Calls Try.prog 39 #[.slice A l.length c, .int .i64 N, .int .i64 B] w fun e w' => ∃ (A' : Option Addr) (c' : Nat), e = .returned (.tuple #[.slice A' (dropP r N B l).1.length c', .bool (dropP r N B l).2]) ∧ (Kd.C k29 w' A' (dropP r N B l).1.length (dropP r N B l).1 ∧ (dropP r N B l).1.length ≤ c') ∧ Below w.heap.size w w' := by
  have hmf : ∀ (fn : Fn) (first cap : Array Value) (w : World), (Instr.makeFunc fn first cap).run Try.prog w = .ok (.func fn first cap) w := fun _ _ _ _ => rfl
  have HR := mk_ hr0
  have HC := mk_ hc0
  have HOK := mk_ hok
  have HS := mk_ hs
  clear hr0 hc0 hok hs
  cases r with
  | false =>
    go_enter Try.func39, Try.ntmps39
    go_wp2_with (first | ((with_reducible refine gate_dst (N := 4) rfl ?_); refine box_event ?hg (N := 4) ?hd (cs := #[.int .i64 N]) (t := 3) ?hr ?_; (case hd => rfl); (case hg => rfl); (case hr => first | (go_simp; done) | (go_simp; rfl)); intro b1 hg_ w1 hbox_ hb_; have HB1 := mk_ hb_; clear hg_ hbox_ hb_) | ((with_reducible refine gate_dst (N := 5) rfl ?_); refine box_event ?hg (N := 5) ?hd (cs := #[.int .i64 B]) (t := 3) ?hr ?_; (case hd => rfl); (case hg => rfl); (case hr => first | (go_simp; done) | (go_simp; rfl)); intro b2 hg_ w2 hbox_ hb_; have HB2 := mk_ (below_step HB1.out hb_); clear hg_ hbox_ hb_) | (go_at_call 42; (with_reducible refine (impl_RoutesOk.calls k A c l false _ ?s0 ?s1 HOK.out).mono ?_); (case s0 => exact Kd.C_below HR.out HB2.out); (case s1 => exact HC.out); rintro e w3 ⟨rfl, hb⟩; have HB3 := mk_ (below_step HB2.out hb); clear hb))
    go_ret2
    exact ⟨none, 0, rfl, ⟨Kd.C_nil _ _, Nat.zero_le _⟩, HB3.out⟩
  | true =>
    have HS1 := mk_ (HS.out rfl)
    clear HS
    go_enter Try.func39, Try.ntmps39
    go_wp2_with (first | ((with_reducible refine gate_dst (N := 4) rfl ?_); refine box_event ?hg (N := 4) ?hd (cs := #[.int .i64 N]) (t := 3) ?hr ?_; (case hd => rfl); (case hg => rfl); (case hr => first | (go_simp; done) | (go_simp; rfl)); intro b1 hg_ w1 hbox_ hb_; have HX1 := mk_ hbox_; have HB1 := mk_ hb_; clear hg_ hbox_ hb_) | ((with_reducible refine gate_dst (N := 5) rfl ?_); refine box_event ?hg (N := 5) ?hd (cs := #[.int .i64 B]) (t := 3) ?hr ?_; (case hd => rfl); (case hg => rfl); (case hr => first | (go_simp; done) | (go_simp; rfl)); intro b2 hg_ w2 hbox_ hb_; have HX12 := mk_ (blk_below HX1.out hb_); have HX2 := mk_ hbox_; have HB2 := mk_ (below_step HB1.out hb_); clear hg_ hbox_ hb_) | (go_at_call 42; (with_reducible refine (impl_RoutesOk.calls k A c l true _ ?s0 ?s1 HOK.out).mono ?_); (case s0 => exact Kd.C_below HR.out HB2.out); (case s1 => exact HC.out); rintro e w3 ⟨rfl, hb⟩; have HX13 := mk_ (blk_below HX12.out hb); have HX23 := mk_ (blk_below HX2.out hb); have HB3 := mk_ (below_step HB2.out hb); clear hb) | (go_at_call 81; (with_reducible refine (clone81 A c l _ ?s0 ?s1 ?s2).mono ?_); (case s0 => exact Kd.C_below HR.out (us_ HB3.out)); (case s1 => exact HC.out); (case s2 => exact HS1.out); rintro e w4 ⟨A4, c4, rfl, ho, hb⟩; have HO4 := mk_ ho; have HX14 := mk_ (blk_below (u_ HX13.out) hb); have HX24 := mk_ (blk_below (u_ HX23.out) hb); have HB4 := mk_ hb; have HLT := mk_ (show b1 < w3.heap.size ∧ b2 < w3.heap.size from ⟨blk_lt HX13.out, blk_lt HX23.out⟩); have HBB := mk_ (below_step (us_ HB3.out) hb); clear ho hb) | (go_at_call 80; (with_reducible refine (delete80 N B b1 b2 A4 c4 l (fun _ => True) w3 _ ?s0 ?s1 ?s2 ?s3 ?s4 ?s5).mono ?_); (case s0 => exact HO4.out); (case s1 => exact HB4.out); (case s2 => exact HS1.out); (case s3 => exact (blk_cell HX14.out 0).trans rfl); (case s4 => exact (blk_cell HX24.out 0).trans rfl); (case s5 => exact own_boxes HO4.out HLT.out.1 HLT.out.2); rintro e w5 ⟨A5, c5, rfl, hC, hb⟩; have HC5 := mk_ hC; have HB5 := mk_ (below_step HB3.out hb); clear hC hb) | (go_at_call 83; (with_reducible refine (impl_Route_83.calls A5 c5 (keepR N B l) (keepR N B l) _ ?s0 ?s1 (clone29 (Nat.le_trans (keep_le N B l) HS1.out))).mono ?_); (case s0 => exact HC5.out.1); (case s1 => exact HC5.out.2); rintro e w6 ⟨v6, rfl, hR, hb⟩; obtain ⟨A6, c6, hv6⟩ := Kd.R_slice hR; subst hv6; have HR6 := mk_ (Kd.R_reads' hR).2; have HB6 := mk_ (below_step (us_ HB5.out) hb); clear hR hb))
    go_ret2
    exact ⟨A6, c6, rfl, ⟨HR6.out.2, HR6.out.1⟩, HB6.out⟩
end Go.Proofs.Ytkkibccnpkbbjab.MFnRouteDrop
