/- Functions that the law FnRouteDrop reaches, typed by hand: slices.BinarySearchFunc at routes; no conditions but those that each theorem states. -/
import Derived.Test.YtkkibccnpkbbjabMFnRouteDropx11
import Derived.StillTailTactics
import Derived.IntWalk
import Derived.Deep.RegionHeld3
import Derived.Deep.RegionLaw
import Derived.Shelf.Spec.SlicesInsertGrow
import Derived.Shelf.Spec.SlicesInsert
import Derived.Deep.QuietTactic
import Derived.BigQuiet
namespace Go.Proofs.Ytkkibccnpkbbjab.MFnRouteDrop
open Go.RowKit Go.Proofs.YtkkibccnpkbbjabV.PrintWords Go.Proofs.YtkkibccnpkbbjabV.PrintLast Go.Proofs.YtkkibccnpkbbjabV.PrintMore
attribute [local go_sem] max2_int min2_int max_two min_two max_three min_three max_four min_four
set_option linter.unusedVariables false
set_option linter.unusedSimpArgs false
/-! ### slices.BinarySearchFunc at routes -/
/-- How two routes stand: by their bits, then by their address. -/
def ordI (x y : S29) : Int := if x.f1 < y.f1 then -1 else if y.f1 < x.f1 then 1 else if x.f0 < y.f0 then -1 else if y.f0 < x.f0 then 1 else 0
theorem half29 (p q : Nat) (hp : p ≤ q) (hq : q ≤ 1000) : wrap64 (IntKind.u64.wrap (wrap64 ((p : Int) + (q : Int))) / 2) = (((p + q) / 2 : Nat) : Int) := by
  rw [show wrap64 ((p : Int) + (q : Int)) = (p : Int) + (q : Int) by unfold wrap64; omega, show IntKind.u64.wrap ((p : Int) + (q : Int)) = (p : Int) + (q : Int) by
    show ((p : Int) + (q : Int)) % 18446744073709551616 = _
    omega]
  unfold wrap64
  omega
theorem next29 (j : Nat) (h : j ≤ 1000000) : wrap64 ((j : Int) + 1) = ((j + 1 : Nat) : Int) := by
  unfold wrap64
  omega
/-- Where a route stands, or would stand. -/
def srchP (l : List S29) (y : S29) (p : Nat) (b : Bool) : Prop := p ≤ l.length ∧ (∀ x : Nat, x < p → ordI (rd_T29 l (x : Int)) y < 0) ∧ (∀ x : Nat, p ≤ x → x < l.length → 0 ≤ ordI (rd_T29 l (x : Int)) y) ∧ (b = true ↔ p < l.length ∧ ordI (rd_T29 l (p : Int)) y = 0)
def srchE (l : List S29) (y : S29) (e : Ending) : Prop := ∃ (p : Nat) (b : Bool), srchP l y p b ∧ e = .returned (.tuple #[.int .i64 p, .bool b])
theorem srch_up {p q h : Nat} (h1 : p ≤ h) (h2 : h < q) (hw : wrap64 ((h : Int) + 1) = ((h + 1 : Nat) : Int)) : (intOf (.int .i64 (q : Int))).toNat - (intOf (.int .i64 (wrap64 ((h : Int) + 1)))).toNat < (intOf (.int .i64 (q : Int))).toNat - (intOf (.int .i64 (p : Int))).toNat := by
  rw [hw]
  simp only [intOf]
  omega
theorem srch_down {p q h : Nat} (h1 : h < q) (h2 : p ≤ h) : (intOf (.int .i64 (h : Int))).toNat - (intOf (.int .i64 (p : Int))).toNat < (intOf (.int .i64 (q : Int))).toNat - (intOf (.int .i64 (p : Int))).toNat := by
  simp only [intOf]
  omega
set_option maxHeartbeats 4000000 in
set_option maxRecDepth 100000 in
theorem search87 (k : Nat) (A0 : Option Addr) (c0 : Nat) (l0 : List S29) (y0 y1 y2 y3 : Int) (w : World) (hr0 : Kd.C k29 w A0 l0.length l0) (hs : l0.length ≤ 1000) (ho : ∀ x : S29, impl_Route_order.f k x.f0 x.f1 x.f2 x.f3 y0 y1 y2 y3 = some (ordI x ⟨y0, y1, y2, y3⟩)) (hu : ∀ i j : Nat, i < j → j < l0.length → ordI (rd_T29 l0 (j : Int)) ⟨y0, y1, y2, y3⟩ < 0 → ordI (rd_T29 l0 (i : Int)) ⟨y0, y1, y2, y3⟩ < 0) :
    Calls Try.prog 87 #[.slice A0 l0.length c0, .agg #[.int .i64 y0, .int .i64 y1, .int .i64 y2, .int .i64 y3], .func (.func 86) #[] #[]] w fun e w' => srchE l0 ⟨y0, y1, y2, y3⟩ e ∧ Below w.heap.size w w' := by
  have HR := mk_ hr0
  have HS := mk_ hs
  have HO := mk_ ho
  have HU := mk_ hu
  clear hr0 hs ho hu
  go_enter Try.func87, Try.ntmps87
  go_wp2_with ((with_reducible refine gate_dst (N := 4) rfl ?_); refine box_event ?hg (N := 4) ?hd (cs := #[.int .i64 y0, .int .i64 y1, .int .i64 y2, .int .i64 y3]) (t := 29) ?hr ?_; (case hd => rfl); (case hg => rfl); (case hr => first | (go_simp; done) | (go_simp; rfl)); intro g4 hg_ w1 hbox_ hb_; have HX4 := mk_ hbox_; have HB1 := mk_ hb_; clear hg_ hbox_ hb_)
  go_loopw [9, 10] (fun i j wr => ∃ p q : Nat, p ≤ q ∧ q ≤ l0.length ∧ i = .int .i64 p ∧ j = .int .i64 q ∧ Aside0 (∀ x : Nat, x < p → ordI (rd_T29 l0 (x : Int)) ⟨y0, y1, y2, y3⟩ < 0) ∧ Aside0 (∀ x : Nat, q ≤ x → x < l0.length → 0 ≤ ordI (rd_T29 l0 (x : Int)) ⟨y0, y1, y2, y3⟩) ∧ Aside0 (wr.heap[g4]? = some (.cells #[.int .i64 y0, .int .i64 y1, .int .i64 y2, .int .i64 y3] 29 (0, 0))) ∧ Aside0 (Below w.heap.size w wr)) (fun i j _ => (intOf j).toNat - (intOf i).toNat)
  case atStart => exact ⟨0, l0.length, Nat.zero_le _, Nat.le_refl _, rfl, rfl, ⟨fun x hx => absurd hx (Nat.not_lt_zero x)⟩, ⟨fun x h1 h2 => absurd h2 (Nat.not_lt.2 h1)⟩, HX4, HB1⟩
  case round =>
    clear HX4 HB1
    obtain ⟨p, q, hpq, hq, rfl, rfl, HL, HG, HX, HB⟩ := hrel
    obtain ⟨hb0, hb1, hb2, hb3, _, _, _, _⟩ := cells4_ HX.out
    by_cases hlt : p < q
    · have hh := half29 p q hpq (by have := HS.out; omega)
      obtain ⟨h, hd⟩ : ∃ h, (p + q) / 2 = h := ⟨_, rfl⟩
      rw [hd] at hh
      have hph : p ≤ h := by omega
      have hhq : h < q := by omega
      have hhl : h < l0.length := by omega
      have hwn := next29 h (by have := HS.out; omega)
      obtain ⟨ad, e, hx0, hx1, hx2, hx3⟩ := at_T29 (Kd.C_below HR.out HB.out) (h : Int) (by omega) (by omega)
      cases e
      rw [Int.toNat_natCast] at hx0 hx1 hx2 hx3
      have ho1 := HO.out (rd_T29 l0 (h : Int))
      have hll := HL.out
      have hgg := HG.out
      have huu : ∀ i : Nat, i < h → ordI (rd_T29 l0 (h : Int)) ⟨y0, y1, y2, y3⟩ < 0 → ordI (rd_T29 l0 (i : Int)) ⟨y0, y1, y2, y3⟩ < 0 := fun i hi => HU.out i h hi hhl
      have huv : ∀ j : Nat, h < j → j < l0.length → ordI (rd_T29 l0 (j : Int)) ⟨y0, y1, y2, y3⟩ < 0 → ordI (rd_T29 l0 (h : Int)) ⟨y0, y1, y2, y3⟩ < 0 := fun j hj hl => HU.out h j hj hl
      obtain ⟨P, hP⟩ : ∃ P, rd_T29 l0 (h : Int) = P := ⟨_, rfl⟩
      rw [hP] at hx0 hx1 hx2 hx3 ho1 huu huv
      obtain ⟨x0, x1, x2, x3⟩ := P
      dsimp only at hx0 hx1 hx2 hx3 ho1
      obtain ⟨O, hO⟩ : ∃ O, ordI ⟨x0, x1, x2, x3⟩ ⟨y0, y1, y2, y3⟩ = O := ⟨_, rfl⟩
      rw [hO] at ho1 huu huv
      have hPO : ordI (rd_T29 l0 (h : Int)) ⟨y0, y1, y2, y3⟩ = O := by rw [hP]; exact hO
      have HO1 := mk_ ho1
      have HF := mk_ (And.intro hph (And.intro hhq (And.intro hpq hq)))
      have HPO := mk_ hPO
      have HUU := mk_ huu
      have HUV := mk_ huv
      clear hd ho1 hP hO hPO huu huv hll hgg
      by_cases hc : O < 0
      · have hneg : decide (O < 0) = true := decide_eq_true hc
        have HL' := mk_ (show ∀ x : Nat, x < h + 1 → ordI (rd_T29 l0 (x : Int)) ⟨y0, y1, y2, y3⟩ < 0 from fun x hx => by
          by_cases hxh : x = h
          · subst hxh
            rw [HPO.out]
            exact hc
          · exact HUU.out x (by omega) hc)
        go_wp2
        go_region_held3 (fun w' => w'.cell? (ad.add (h * 4)) = some (.int .i64 x0) ∧ w'.cell? ⟨(ad.add (h * 4)).block, (ad.add (h * 4)).off + 1, none⟩ = some (.int .i64 x1) ∧ w'.cell? ⟨(ad.add (h * 4)).block, (ad.add (h * 4)).off + 2, none⟩ = some (.int .i64 x2) ∧ w'.cell? ⟨(ad.add (h * 4)).block, (ad.add (h * 4)).off + 3, none⟩ = some (.int .i64 x3) ∧ w'.cell? ⟨g4, 0, none⟩ = some (.int .i64 y0) ∧ w'.cell? ⟨g4, 1, none⟩ = some (.int .i64 y1) ∧ w'.cell? ⟨g4, 2, none⟩ = some (.int .i64 y2) ∧ w'.cell? ⟨g4, 3, none⟩ = some (.int .i64 y3)) (go_keep) (first | (go_at_call 86; (with_reducible refine (impl_Route_order.calls k x0 x1 x2 x3 y0 y1 y2 y3 O _ HO1.out).mono ?_); rintro e w3 ⟨rfl, hb⟩; have hx0' := (hb.cell (lc_ wr _ hx0)).trans hx0; have hx1' := (hb.cell (lc_ wr _ hx1)).trans hx1; have hx2' := (hb.cell (lc_ wr _ hx2)).trans hx2; have hx3' := (hb.cell (lc_ wr _ hx3)).trans hx3; have hb0' := (hb.cell (lc_ wr _ hb0)).trans hb0; have hb1' := (hb.cell (lc_ wr _ hb1)).trans hb1; have hb2' := (hb.cell (lc_ wr _ hb2)).trans hb2; have hb3' := (hb.cell (lc_ wr _ hb3)).trans hb3; have HX3 := mk_ (blk_below (bw_ HX.out) hb); have HB3 := mk_ (below_step (nw_ HB.out) hb); clear hb))
        go_wp2
        go_roundw
        case rel => exact ⟨h + 1, q, HF.out.2.1, hq, by rw [hwn], rfl, HL', HG, HX3, HB3⟩
        case measure => exact srch_up HF.out.1 HF.out.2.1 hwn
      · have hneg : decide (O < 0) = false := decide_eq_false hc
        have HG' := mk_ (show ∀ x : Nat, h ≤ x → x < l0.length → 0 ≤ ordI (rd_T29 l0 (x : Int)) ⟨y0, y1, y2, y3⟩ from fun x hx hx2 => by
          by_cases hxh : x = h
          · subst hxh
            rw [HPO.out]
            omega
          · exact Int.not_lt.1 (fun h3 => hc (HUV.out x (by omega) hx2 h3)))
        go_wp2
        go_region_held3 (fun w' => w'.cell? (ad.add (h * 4)) = some (.int .i64 x0) ∧ w'.cell? ⟨(ad.add (h * 4)).block, (ad.add (h * 4)).off + 1, none⟩ = some (.int .i64 x1) ∧ w'.cell? ⟨(ad.add (h * 4)).block, (ad.add (h * 4)).off + 2, none⟩ = some (.int .i64 x2) ∧ w'.cell? ⟨(ad.add (h * 4)).block, (ad.add (h * 4)).off + 3, none⟩ = some (.int .i64 x3) ∧ w'.cell? ⟨g4, 0, none⟩ = some (.int .i64 y0) ∧ w'.cell? ⟨g4, 1, none⟩ = some (.int .i64 y1) ∧ w'.cell? ⟨g4, 2, none⟩ = some (.int .i64 y2) ∧ w'.cell? ⟨g4, 3, none⟩ = some (.int .i64 y3)) (go_keep) (first | (go_at_call 86; (with_reducible refine (impl_Route_order.calls k x0 x1 x2 x3 y0 y1 y2 y3 O _ HO1.out).mono ?_); rintro e w3 ⟨rfl, hb⟩; have hx0' := (hb.cell (lc_ wr _ hx0)).trans hx0; have hx1' := (hb.cell (lc_ wr _ hx1)).trans hx1; have hx2' := (hb.cell (lc_ wr _ hx2)).trans hx2; have hx3' := (hb.cell (lc_ wr _ hx3)).trans hx3; have hb0' := (hb.cell (lc_ wr _ hb0)).trans hb0; have hb1' := (hb.cell (lc_ wr _ hb1)).trans hb1; have hb2' := (hb.cell (lc_ wr _ hb2)).trans hb2; have hb3' := (hb.cell (lc_ wr _ hb3)).trans hb3; have HX3 := mk_ (blk_below (bw_ HX.out) hb); have HB3 := mk_ (below_step (nw_ HB.out) hb); clear hb))
        go_wp2
        go_roundw
        case rel => exact ⟨p, h, HF.out.1, Nat.le_of_lt hhl, rfl, rfl, HL, HG', HX3, HB3⟩
        case measure => exact srch_down HF.out.2.1 HF.out.1
    · obtain rfl : p = q := by omega
      by_cases hend : p < l0.length
      · obtain ⟨ad, e, hx0, hx1, hx2, hx3⟩ := at_T29 (Kd.C_below HR.out HB.out) (p : Int) (by omega) (by omega)
        cases e
        rw [Int.toNat_natCast] at hx0 hx1 hx2 hx3
        have ho1 := HO.out (rd_T29 l0 (p : Int))
        obtain ⟨P, hP⟩ : ∃ P, rd_T29 l0 (p : Int) = P := ⟨_, rfl⟩
        rw [hP] at hx0 hx1 hx2 hx3 ho1
        obtain ⟨x0, x1, x2, x3⟩ := P
        dsimp only at hx0 hx1 hx2 hx3 ho1
        obtain ⟨O, hO⟩ : ∃ O, ordI ⟨x0, x1, x2, x3⟩ ⟨y0, y1, y2, y3⟩ = O := ⟨_, rfl⟩
        rw [hO] at ho1
        have HO1 := mk_ ho1
        have HPO := mk_ (show ordI (rd_T29 l0 (p : Int)) ⟨y0, y1, y2, y3⟩ = O by rw [hP]; exact hO)
        clear ho1 hP hO
        go_wp2
        go_region_held3 (fun w' => w'.cell? (ad.add (p * 4)) = some (.int .i64 x0) ∧ w'.cell? ⟨(ad.add (p * 4)).block, (ad.add (p * 4)).off + 1, none⟩ = some (.int .i64 x1) ∧ w'.cell? ⟨(ad.add (p * 4)).block, (ad.add (p * 4)).off + 2, none⟩ = some (.int .i64 x2) ∧ w'.cell? ⟨(ad.add (p * 4)).block, (ad.add (p * 4)).off + 3, none⟩ = some (.int .i64 x3) ∧ w'.cell? ⟨g4, 0, none⟩ = some (.int .i64 y0) ∧ w'.cell? ⟨g4, 1, none⟩ = some (.int .i64 y1) ∧ w'.cell? ⟨g4, 2, none⟩ = some (.int .i64 y2) ∧ w'.cell? ⟨g4, 3, none⟩ = some (.int .i64 y3)) (go_keep) (first | (go_at_call 86; (with_reducible refine (impl_Route_order.calls k x0 x1 x2 x3 y0 y1 y2 y3 O _ HO1.out).mono ?_); rintro e w3 ⟨rfl, hb⟩; have hx0' := (hb.cell (lc_ wr _ hx0)).trans hx0; have hx1' := (hb.cell (lc_ wr _ hx1)).trans hx1; have hx2' := (hb.cell (lc_ wr _ hx2)).trans hx2; have hx3' := (hb.cell (lc_ wr _ hx3)).trans hx3; have hb0' := (hb.cell (lc_ wr _ hb0)).trans hb0; have hb1' := (hb.cell (lc_ wr _ hb1)).trans hb1; have hb2' := (hb.cell (lc_ wr _ hb2)).trans hb2; have hb3' := (hb.cell (lc_ wr _ hb3)).trans hb3; have HX3 := mk_ (blk_below (bw_ HX.out) hb); have HB3 := mk_ (below_step (nw_ HB.out) hb); clear hb))
        go_wp2
        refine bodyPost_ret (results_list (rs := [.tmp 6, .tmp 7]) rfl (by simp) (.tmp (.tmp .nil))) rfl ?_
        exact ⟨⟨p, O == 0, ⟨hq, HL.out, HG.out, by rw [HPO.out]; simp [hend]⟩, rfl⟩, HB3.out⟩
      · have hpe : p = l0.length := by omega
        subst hpe
        clear hend
        go_wp2
        go_quiet (fail)
        go_wp2
        refine bodyPost_ret (results_list (rs := [.tmp 6, .tmp 7]) rfl (by simp) (.tmp (.tmp .nil))) rfl ?_
        exact ⟨⟨l0.length, false, ⟨hq, HL.out, HG.out, by simp⟩, rfl⟩, nn_ HB.out _⟩
end Go.Proofs.Ytkkibccnpkbbjab.MFnRouteDrop
