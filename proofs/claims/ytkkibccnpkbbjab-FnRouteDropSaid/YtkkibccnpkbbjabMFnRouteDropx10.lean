/- Functions that the law FnRouteDrop reaches, typed by hand: slices.DeleteFunc at routes, whole; no conditions but those that each theorem states. -/
import Derived.Test.YtkkibccnpkbbjabMFnRouteDropx9
import Derived.Test.YtkkibccnpkbbjabMFnRouteDropx8
import Derived.StillTailTactics
import Derived.IntWalk
import Derived.Deep.RegionHeld3
import Derived.Deep.RegionLaw
import Derived.Shelf.Spec.SlicesInsertGrow
import Derived.Shelf.Spec.SlicesInsert
import Derived.Deep.QuietTactic
import Derived.BigQuiet
namespace Go.Proofs.Ytkkibccnpkbbjab.MFnRouteDrop
open Go.RowKit Go.Proofs.YtkkibccnpkbbjabV.PrintWords Go.Proofs.YtkkibccnpkbbjabV.PrintLast Go.Proofs.YtkkibccnpkbbjabV.PrintMore
attribute [local go_sem] max2_int min2_int max_two min_two max_three min_three max_four min_four
set_option linter.unusedVariables false
set_option linter.unusedSimpArgs false
theorem below_box4 {w w5 : World} {g8 : Nat} (h : Below w.heap.size w w5) (hg : w.heap.size ≤ g8) (v0 v1 v2 v3 : Value) : Below w.heap.size w ((((w5.setCell ⟨g8, 0, none⟩ v0).setCell ⟨g8, 1, none⟩ v1).setCell ⟨g8, 2, none⟩ v2).setCell ⟨g8, 3, none⟩ v3) := bs_ (bs_ (bs_ (bs_ h hg) hg) hg) hg
theorem box4_29 {w5 : World} {g8 : Nat} {u0 u1 u2 u3 : Value} (h : w5.heap[g8]? = some (.cells #[u0, u1, u2, u3] 29 (0, 0))) (v0 v1 v2 v3 : Value) : ((((w5.setCell ⟨g8, 0, none⟩ v0).setCell ⟨g8, 1, none⟩ v1).setCell ⟨g8, 2, none⟩ v2).setCell ⟨g8, 3, none⟩ v3).heap[g8]? = some (.cells #[v0, v1, v2, v3] 29 (0, 0)) :=
  blk_put (cs := #[v0, v1, v2, u3]) (blk_put (cs := #[v0, v1, u2, u3]) (blk_put (cs := #[v0, u1, u2, u3]) (blk_put (cs := #[u0, u1, u2, u3]) h 0 v0 rfl) 1 v1 rfl) 2 v2 rfl) 3 v3 rfl
theorem all29 {W : World} {base g n cap : Nat} {ok : Nat → Prop} {xs : List S29} (h : Kd.R k29 29 W base ok (.slice (some ⟨g, 0, none⟩) n cap) xs) (k : Nat) (hk : k < n * 4) : (W.cell? ⟨g, k, none⟩).isSome = true ∧ W.frozen? ⟨g, k, none⟩ = false := by
  obtain ⟨⟨c0, c1, c2, c3⟩, f0, f1, f2, f3⟩ := el29 h (k / 4) (by omega)
  have h4 : k = k / 4 * 4 ∨ k = k / 4 * 4 + 1 ∨ k = k / 4 * 4 + 2 ∨ k = k / 4 * 4 + 3 := by omega
  generalize k / 4 = q at *
  rcases h4 with h4 | h4 | h4 | h4 <;> rw [h4]
  · exact ⟨by rw [c0]; rfl, f0⟩
  · exact ⟨by rw [c1]; rfl, f1⟩
  · exact ⟨by rw [c2]; rfl, f2⟩
  · exact ⟨by rw [c3]; rfl, f3⟩
theorem below_cells {n g : Nat} {w : World} (hg : n ≤ g) : ∀ (vs : List Value) (o : Nat) (W : World), Below n w W → Below n w (W.setCells g o vs)
  | [], _, _, h => h
  | v :: r, o, W, h => below_cells hg r (o + 1) _ (Below.setCell h (p := ⟨g, o, none⟩) hg v)
theorem hitAt_cases (N B : Int) (l : List S29) : hitAt N B l = -1 ∨ ∃ q : Nat, hitAt N B l = (q : Int) := by
  unfold hitAt
  split
  · exact .inr ⟨_, rfl⟩
  · exact .inl rfl
theorem keep_all {N B : Int} {l : List S29} (h : hitAt N B l = -1) : keepR N B l = l := by
  unfold hitAt at h
  split at h
  · omega
  · rename_i h1
    unfold keepR
    rw [List.filter_eq_self]
    intro x hx
    have := List.findIdx_eq_length.1 (Nat.le_antisymm List.findIdx_le_length (Nat.le_of_not_lt h1)) x hx
    simpa using this
set_option maxHeartbeats 4000000 in
set_option maxRecDepth 100000 in
theorem delete80 (N B : Int) (b1 b2 : Nat) (A : Option Addr) (c : Nat) (l : List S29) (ok : Nat → Prop) (w0 w : World) (hR : Kd.R k29 29 w w0.heap.size ok (.slice A l.length c) l) (hB : Below w0.heap.size w0 w) (hs : l.length ≤ 1000) (h1 : w.cell? ⟨b1, 0, none⟩ = some (.int .i64 N)) (h2 : w.cell? ⟨b2, 0, none⟩ = some (.int .i64 B)) (hne : ∀ k, (Value.slice A l.length c).ownBlock = some k → k ≠ b1 ∧ k ≠ b2) :
    Calls Try.prog 80 #[.slice A l.length c, .func (.func 82) #[] #[.pointer (some ⟨b1, 0, none⟩), .pointer (some ⟨b2, 0, none⟩)]] w fun e w' => ∃ (A' : Option Addr) (c' : Nat), e = .returned (.slice A' (keepR N B l).length c') ∧ (Kd.C k29 w' A' (keepR N B l).length (keepR N B l) ∧ (keepR N B l).length ≤ c') ∧ Below w0.heap.size w0 w' := by
  have hu32 := Try.underlying32
  have HR := mk_ hR
  have HB := mk_ hB
  have HS := mk_ hs
  have H1 := mk_ h1
  have H2 := mk_ h2
  have HNE := mk_ hne
  clear hR hB hs h1 h2 hne
  rcases hitAt_cases N B l with hh | ⟨q, hh⟩
  · have HE := mk_ hh
    have HK := mk_ (keep_all hh)
    clear hh
    go_enter Try.func80, Try.ntmps80
    go_wp2_with (go_at_call 115; (with_reducible refine (index115 N B b1 b2 A c l _ ?s0 ?s1 ?s2 ?s3).mono ?_); (case s0 => exact (Kd.R_reads' HR.out).2.2); (case s1 => exact HS.out); (case s2 => exact H1.out); (case s3 => exact H2.out); rw [HE.out]; rintro e w1 ⟨rfl, hb⟩; have HR1 := mk_ (Kd.R_below HR.out hb); have HB1 := mk_ (below_step HB.out hb); clear hb)
    go_ret
    rw [HK.out]
    exact ⟨A, c, rfl, ⟨(Kd.R_reads' HR1.out).2.2, (Kd.R_reads' HR1.out).2.1⟩, HB1.out⟩
  · have HE := mk_ hh
    obtain ⟨hq, hd⟩ := delI_start hh
    have HD := mk_ hd
    obtain ⟨g, c1, hv, hg0, hg1, _⟩ := Kd.R_form HR.out (Nat.lt_of_le_of_lt (Nat.zero_le _) hq)
    injection hv with hv1 _ hv2
    subst hv1
    subst hv2
    have hgb := HNE.out g rfl
    have HG0 := mk_ hg0
    have hs1 := HS.out
    have hw0 : wrap64 ((q : Int) + 1) = ((q + 1 : Nat) : Int) := by unfold wrap64; omega
    have hgb1 := hgb.1
    have hgb2 := hgb.2
    have hm1 : ((q : Int) == -1) = false := by simp
    have hm2 : ¬ ((q : Int) = -1) := by omega
    clear hh hd hgb hg0 hg1 hs1 HNE
    go_enter Try.func80, Try.ntmps80
    go_wp2_with (go_at_call 115; (with_reducible refine (index115 N B b1 b2 (some ⟨g, 0, none⟩) c l _ ?s0 ?s1 ?s2 ?s3).mono ?_); (case s0 => exact (Kd.R_reads' HR.out).2.2); (case s1 => exact HS.out); (case s2 => exact H1.out); (case s3 => exact H2.out); rw [HE.out]; rintro e w1 ⟨rfl, hb⟩; have HR1 := mk_ (Kd.R_below HR.out hb); have HB1 := mk_ (below_step HB.out hb); have H11 := mk_ ((hb.cell (lc_ w _ H1.out)).trans H1.out); have H21 := mk_ ((hb.cell (lc_ w _ H2.out)).trans H2.out); clear hb)
    go_loopw [5, 6] (fun v5 v6 wr => ∃ (i j : Nat) (M : List S29), v5 = .int .i64 i ∧ v6 = .int .i64 j ∧ Aside0 (delI N B l M i j) ∧ Aside0 (Kd.R k29 29 wr w0.heap.size ok (.slice (some ⟨g, 0, none⟩) l.length c) M) ∧ Aside0 (Below w0.heap.size w0 wr) ∧ Aside0 (wr.cell? ⟨b1, 0, none⟩ = some (.int .i64 N)) ∧ Aside0 (wr.cell? ⟨b2, 0, none⟩ = some (.int .i64 B))) (fun _ v6 _ => l.length - (intOf v6).toNat)
    case atStart => exact ⟨q, q + 1, l, rfl, by rw [hw0], HD, HR1, HB1, H11, H21⟩
    case round =>
      clear HR1 HB1 H11 H21 HD hw0
      obtain ⟨i, j, M, rfl, rfl, HD, HR, HB, H1, H2⟩ := hrel
      by_cases hlt : j < l.length
      · have hs1 := HS.out
        have hij := HD.out.2.1
        have hil : i < l.length := by omega
        have hw : wrap64 ((j : Int) + 1) = ((j + 1 : Nat) : Int) := by unfold wrap64; omega
        have hwi : wrap64 ((i : Int) + 1) = ((i + 1 : Nat) : Int) := by unfold wrap64; omega
        obtain ⟨⟨hx0, hx1, hx2, hx3⟩, _⟩ := el29 HR.out j hlt
        have hrd := delI_read HD.out hlt
        obtain ⟨P, hP⟩ : ∃ P, rd_T29 l (j : Int) = P := ⟨_, rfl⟩
        rw [hrd, hP] at hx0 hx1 hx2 hx3
        obtain ⟨x0, x1, x2, x3⟩ := P
        dsimp only at hx0 hx1 hx2 hx3
        have BOX := mk_ trivial
        cases hh : hit N B ⟨x0, x1, x2, x3⟩ with
        | true =>
          have HT := mk_ hh
          have HD' := mk_ (delI_hit HD.out hlt (by rw [hP]; exact hh))
          clear hh hP hs1 hrd hij
          go_wp2_with (first | ((with_reducible refine gate_dst (N := 7) rfl ?_); refine box_event ?hg (N := 7) ?hd (cs := #[.int .i64 0, .int .i64 0, .int .i64 0, .int .i64 0]) (t := 29) ?hr ?_; (case hd => rfl); (case hg => rfl); (case hr => first | (go_simp; done) | (go_simp; rfl)); intro g7 hg_ w2 hbox_ hb_; have HX7 := mk_ hbox_; have HB2 := mk_ hb_; have HG7 := mk_ (show wr.heap.size ≤ g7 from Nat.le_of_eq hg_.symm); have ge7 := ge_ HG7.out; obtain ⟨_, _, _, _, _, _, _, _⟩ := cells4_ hbox_; clear hg_ hbox_ hb_) | (go_at_call 82; (with_reducible refine (drop82 N B x0 x1 x2 x3 b1 b2 _ ?s1 ?s2).mono ?_); (case s1 => exact ((below_box4 HB2.out HG7.out _ _ _ _).cell (lc_ wr _ H1.out)).trans H1.out); (case s2 => exact ((below_box4 HB2.out HG7.out _ _ _ _).cell (lc_ wr _ H2.out)).trans H2.out); rw [HT.out]; rintro e w3 ⟨rfl, hb⟩; have hb3 := below_step (below_box4 HB2.out HG7.out (.int .i64 x0) (.int .i64 x1) (.int .i64 x2) (.int .i64 x3)) hb; have HR3 := mk_ (Kd.R_below HR.out hb3); have HB3 := mk_ (below_step HB.out hb3); have H13 := mk_ ((hb3.cell (lc_ wr _ H1.out)).trans H1.out); have H23 := mk_ ((hb3.cell (lc_ wr _ H2.out)).trans H2.out); clear hb hb3))
          go_roundw
          case rel => exact ⟨i, j + 1, M, rfl, by rw [hw], HD', HR3, HB3, H13, H23⟩
          case measure => exact up_m29 hlt hw
        | false =>
          have HT := mk_ hh
          have HD' := mk_ (delI_keep HD.out hlt (by rw [hP]; exact hh))
          rw [hP] at HD'
          clear hh hP hs1 hrd hij
          go_wp2_with (first | ((with_reducible refine gate_dst (N := 7) rfl ?_); refine box_event ?hg (N := 7) ?hd (cs := #[.int .i64 0, .int .i64 0, .int .i64 0, .int .i64 0]) (t := 29) ?hr ?_; (case hd => rfl); (case hg => rfl); (case hr => first | (go_simp; done) | (go_simp; rfl)); intro g7 hg_ w2 hbox_ hb_; have HX7 := mk_ hbox_; have HB2 := mk_ hb_; have HG7 := mk_ (show wr.heap.size ≤ g7 from Nat.le_of_eq hg_.symm); have ge7 := ge_ HG7.out; obtain ⟨_, _, _, _, _, _, _, _⟩ := cells4_ hbox_; clear hg_ hbox_ hb_) | (go_at_call 82; (with_reducible refine (drop82 N B x0 x1 x2 x3 b1 b2 _ ?s1 ?s2).mono ?_); (case s1 => exact ((below_box4 HB2.out HG7.out _ _ _ _).cell (lc_ wr _ H1.out)).trans H1.out); (case s2 => exact ((below_box4 HB2.out HG7.out _ _ _ _).cell (lc_ wr _ H2.out)).trans H2.out); rw [HT.out]; rintro e w3 ⟨rfl, hb⟩; obtain ⟨_, _, _, _, _, _, _, _⟩ := cells4_ (blk_below (box4_29 HX7.out (.int .i64 x0) (.int .i64 x1) (.int .i64 x2) (.int .i64 x3)) hb); have hb3 := below_step (below_box4 HB2.out HG7.out (.int .i64 x0) (.int .i64 x1) (.int .i64 x2) (.int .i64 x3)) hb; have HR3 := mk_ (Kd.R_below HR.out hb3); obtain ⟨⟨_, _, _, _⟩, ⟨_, _, _, _⟩⟩ := el29 (Kd.R_below HR.out hb3) i hil; have HB3 := mk_ (below_step HB.out hb3); have H13 := mk_ ((hb3.cell (lc_ wr _ H1.out)).trans H1.out); have H23 := mk_ ((hb3.cell (lc_ wr _ H2.out)).trans H2.out); clear hb hb3))
          have hput := put29 HR3.out i hil x0 x1 x2 x3
          go_roundw
          case rel => exact ⟨i + 1, j + 1, _, by rw [hwi], by rw [hw], HD', ⟨hput.1⟩, ⟨bs_ (bs_ (bs_ (bs_ HB3.out HG0.out) HG0.out) HG0.out) HG0.out⟩, ⟨hput.2.cell H13.out (fun e => hgb1 (Option.some.inj e).symm)⟩, ⟨hput.2.cell H23.out (fun e => hgb2 (Option.some.inj e).symm)⟩⟩
          case measure => exact up_m29 hlt hw
      · have hj : j = l.length := by have := HD.out.2.2.1; omega
        subst hj
        obtain ⟨d1, d2, _, d4, _, d6⟩ := HD.out
        rw [List.take_length] at d4 d6
        have hs1 := HS.out
        have hcn := (Kd.R_reads' HR.out).2.1
        have hn := (Kd.R_reads' HR.out).1
        obtain ⟨vs, hvs⟩ : ∃ vs, vs = (Builtin.zeroCells (Value.agg #[.int .i64 0, .int .i64 0, .int .i64 0, .int .i64 0]).cells (l.length - i)).toList := ⟨_, rfl⟩
        have hz := zeros29 (l.length - i)
        rw [← hvs] at hz
        have hcl : ∀ ty, (Builtin.clear_ #[32] ty #[.slice (some ⟨g, i * 4, none⟩) (l.length - i) (c - i)]).run Try.prog wr = .ok (.tuple #[]) (wr.setCells g (i * 4) vs) := fun ty =>
          run_clear_rows wr 32 29 ty _ hu32 zero29 g (i * 4) _ _ (by omega) vs hvs (fun k hk => (all29 HR.out (i * 4 + k) (by omega)).1) (fun k hk => (all29 HR.out (i * 4 + k) (by omega)).2) hz.2
        have HC := mk_ (take29 (W' := wr.setCells g (i * 4) vs) HR.out i (by omega) hs1 (fun k hk => World.cell?_setCells_out _ _ _ _ _ (fun _ _ => .inl hk)))
        rw [d4] at HC
        have HBC := mk_ (below_cells HG0.out vs (i * 4) wr HB.out)
        have hil : i ≤ l.length := by omega
        have hic : i ≤ c := by omega
        have hci : ¬ (c = i) := by omega
        have h64 : (i : Int) ≤ (c : Int) := by omega
        have hil64 : (i : Int) ≤ (l.length : Int) := by omega
        have HI := mk_ d6
        have HCN := mk_ hic
        clear d1 d2 d4 d6 hs1 hn hvs hz
        go_wp2
        go_ret
        refine ⟨some ⟨g, 0, none⟩, c, ?_, ⟨HC.out.1, ?_⟩, HBC.out⟩
        · rw [HI.out]
          rfl
        · rw [HI.out]
          exact HCN.out
end Go.Proofs.Ytkkibccnpkbbjab.MFnRouteDrop
