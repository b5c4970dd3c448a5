/- Functions that the law FnPortTake reaches, typed by hand (part 2 of 2): what the program's and the reference's ports' functions do, and the walk of the law; no conditions but those that each theorem states. -/
import Derived.Test.YtkkibccnpkbbjaaMFnPortTakex20
import Derived.StillTailTactics
import Derived.IntWalk
import Derived.Deep.RegionHeld3
import Derived.Shelf.Spec.SlicesInsertGrow
import Derived.Deep.QuietTactic
import Derived.BigQuiet
import Derived.Deep.RegionLaw
namespace Go.Proofs.Ytkkibccnpkbbjaa.MFnPortsOk
open Go.RowKit Go.Proofs.YtkkibccnpkbbjaaV.PrintWords Go.Proofs.YtkkibccnpkbbjaaV.PrintLast Go.Proofs.YtkkibccnpkbbjaaV.PrintMore
attribute [local go_sem] max2_int min2_int max_two min_two max_three min_three max_four min_four
set_option linter.unusedVariables false
set_option linter.unusedSimpArgs false
/-- What PortTake answers. -/
def takeP (r : Bool) (l : List S47) (a : Int) : List S47 × S40 × Bool :=
  if r = false then ([], z40, false)
  else if l.findIdx (fun p => p.f0 == a) < l.length ∧ 0 < (rd_T47 l (l.findIdx (fun p => p.f0 == a) : Nat)).f1.length then
    (l.set (l.findIdx (fun p => p.f0 == a)) ⟨(rd_T47 l (l.findIdx (fun p => p.f0 == a) : Nat)).f0, (rd_T47 l (l.findIdx (fun p => p.f0 == a) : Nat)).f1.drop 1⟩, rd_T40 (rd_T47 l (l.findIdx (fun p => p.f0 == a) : Nat)).f1 0, true)
  else (l, z40, false)
theorem cut_at {W : World} {base g n cap : Nat} {ok : Nat → Prop} {l : List S47} {i c : Nat} {N : Int} {A A' : Option Addr} {m : S40} {L : List S40} (h : Kd.S k47S 47 W base ok (.slice (some ⟨g, 0, none⟩) n cap) l) (hi : i < n) (hp : rd_T47 l (i : Int) = ⟨N, m :: L⟩) (hx : W.cell? ⟨g, i * 2 + 1, none⟩ = some (.slice A (L.length + 1) c)) (hA : (if c = 1 then A else A.map (·.add (1 * 4))) = A') :
    Kd.R k47Q 47 (W.setCell ⟨g, i * 2 + 1, none⟩ (.slice A' L.length (c - 1))) base ok (.slice (some ⟨g, 0, none⟩) n cap) (l.set i ⟨N, L⟩) ∧ W.grownBy (W.setCell ⟨g, i * 2 + 1, none⟩ (.slice A' L.length (c - 1))) (some g) := by
  obtain ⟨A2, c2, _, _, h1, _, _, _, h2⟩ := take_cut h i hi
  rw [hp] at h1 h2
  have e := Option.some.inj (hx.symm.trans h1)
  injection e with e1 e2 e3
  subst e1
  subst e3
  have := h2 1 (by simp)
  rw [hA] at this
  exact this
theorem impl_ports.calls_n (A0 : Option Addr) (n c0 : Nat) (l0 : List S47) (w : World) (hn : n = l0.length) (hr0 : Kd.C k47 w A0 l0.length l0) (hc0 : l0.length ≤ c0) (hs : small47 l0) :
    Calls Try.prog 53 #[.slice A0 n c0] w fun e w' => ∃ v0_ : Value, e = .returned (v0_) ∧ Kd.S k47S 47 w' w.heap.size (fun _ => True) v0_ l0 ∧ Below w.heap.size w w' := by
  subst hn
  exact impl_ports.calls A0 c0 l0 w hr0 hc0 hs
theorem small47_set {l : List S47} (h : small47 l) {p : Nat} {N : Int} {m : S40} {L : List S40} (hp : p < l.length) (e : rd_T47 l (p : Int) = ⟨N, m :: L⟩) : small47 (l.set p ⟨N, L⟩) := by
  obtain ⟨h1, h2⟩ := h
  refine ⟨by rw [List.length_set]; exact h1, fun q hq => ?_⟩
  rcases List.mem_or_eq_of_mem_set hq with h3 | h3
  · exact h2 q h3
  · have h4 := h2 _ (rd47_mem l p hp)
    rw [e] at h4
    subst h3
    exact ⟨by have := h4.1; simp only [List.length_cons] at this; show L.length ≤ 1000; omega, fun x hx => h4.2 x (List.mem_cons_of_mem _ hx)⟩
theorem take_mail {W : World} {base cr : Nat} {ok : Nat → Prop} {Ar : Option Addr} {m : S40} {L : List S40} (h : Kd.S k40 40 W base ok (.slice Ar (m :: L).length cr) (m :: L)) :
    ∃ gr A4 c4, Ar = some ⟨gr, 0, none⟩ ∧ W.cell? ⟨gr, 0, none⟩ = some (.int .i64 m.f0) ∧ W.cell? ⟨gr, 1, none⟩ = some (.int .i64 m.f1) ∧ W.cell? ⟨gr, 2, none⟩ = some (.int .i64 m.f2) ∧ W.cell? ⟨gr, 3, none⟩ = some (.slice A4 m.f3.length c4) ∧ (Kd.int .u8).R 5 W base ok (.slice A4 m.f3.length c4) m.f3 ∧ (m :: L).length ≤ cr := by
  obtain ⟨gr, cap, hv, _⟩ := Kd.S_form h (by simp)
  injection hv with h1 h2 h3
  subst h1
  obtain ⟨oki, c, hcl, hM, hcc, hfr, hoki, _⟩ := Kd.S_elem h z40 0 (by omega) (by simp only [List.length_cons]; omega)
  have hM' : k40.M W base oki m c := hM
  obtain ⟨v3, rfl, g3⟩ := k40_openM hM'
  obtain ⟨A4, c4, hv4⟩ := Kd.R_slice g3
  subst hv4
  have e : (0 : Int).toNat * k40.sz = 0 := rfl
  have hc : ∀ (j : Nat) (u : Value), [Value.int IntKind.i64 m.f0, Value.int IntKind.i64 m.f1, Value.int IntKind.i64 m.f2, Value.slice A4 m.f3.length c4][j]? = some u → W.cell? ⟨gr, j, none⟩ = some u := fun j u hu => by
    have := hcc j u hu
    rw [e, Nat.zero_add] at this
    exact this
  exact ⟨gr, A4, c4, rfl, hc 0 _ rfl, hc 1 _ rfl, hc 2 _ rfl, hc 3 _ rfl, Kd.R_mono g3 (fun k hk => (hoki k hk).1), (Kd.S_reads' h).2.1⟩
set_option maxHeartbeats 4000000 in
set_option maxRecDepth 100000 in
theorem impl_PortTake.calls (A0 : Option Addr) (c0 : Nat) (l0 : List S47) (a1 : Int) (r : Bool) (w : World) (hr0 : Kd.C k47 w A0 l0.length l0) (hc0 : l0.length ≤ c0) (hok : impl_PortsOk.f l0 = some r) (hs : r = true → small47 l0 ∧ up47 l0) :
    Calls Try.prog 25 #[.slice A0 l0.length c0, .int .i64 a1] w fun e w' => ∃ (v0 v4 : Value) (C : Nat), e = .returned (.tuple #[v0, .agg #[.int .i64 (takeP r l0 a1).2.1.f0, .int .i64 (takeP r l0 a1).2.1.f1, .int .i64 (takeP r l0 a1).2.1.f2, v4], .bool (takeP r l0 a1).2.2]) ∧ Kd.S k47S 47 w' w.heap.size (fun k => C ≤ k) v0 (takeP r l0 a1).1 ∧ (Kd.int .u8).R 5 w' w.heap.size (fun k => k < C) v4 (takeP r l0 a1).2.1.f3 ∧ Below w.heap.size w w' := by
  have hu47 := Try.underlying47
  have hu40 := Try.underlying40
  have HR := mk_ hr0
  have HC0 := mk_ hc0
  have HOK := mk_ hok
  have HS := mk_ hs
  clear hr0 hc0 hok hs
  cases r with
  | false =>
    go_enter Try.func25, Try.ntmps25
    go_wp2_with (first | ((with_reducible refine gate_dst (N := 5) rfl ?_); refine box_event ?hg (N := 5) ?hd (cs := #[.int .i64 0, .int .i64 0, .int .i64 0, .slice none 0 0]) (t := 40) ?hr ?_; (case hd => rfl); (case hg => rfl); (case hr => first | (go_simp; done) | (go_simp; rfl)); intro gb hg w2 hbox hb; have HG := mk_ (show w.heap.size ≤ gb from Nat.le_of_eq hg.symm); have HBX := mk_ hbox; have HBL := mk_ hb; have ge1 := ge_ HG.out; obtain ⟨_, _, _, _, _, _, _, _⟩ := cells4_ hbox; clear hb hbox hg) | (go_at_call 14; (with_reducible refine (impl_PortsOk.calls A0 c0 l0 false _ ?s1 ?s2 HOK.out).mono ?_); (case s1 => exact Kd.C_below HR.out (us_ HBL.out)); (case s2 => exact HC0.out); rintro e w3 ⟨rfl, hb⟩; have HX3 := mk_ (blk_below (u_ HBX.out) hb); have HB3 := mk_ (below_step (us_ HBL.out) hb); obtain ⟨_, _, _, _, _, _, _, _⟩ := cells4_ HX3.out; clear hb))
    refine bodyPost_ret (results_list (rs := [.tmp 4, .cell 5 40, .tmp 6]) rfl (by simp) (.tmp (.cell gb 40 #[.int .i64 0, .int .i64 0, .int .i64 0, .slice none 0 0] (0, 0) _ rfl (inn47_box4 HX3.out) Try.underlying40 rfl (by kernel_rfl) (.tmp .nil)))) rfl ?_
    exact ⟨_, _, w.heap.size, rfl, Kd.S_nil _ _ _ _ _, Kd.R_nil _ _ _ _ _, us_ HB3.out⟩
  | true =>
    obtain ⟨hsm, hup⟩ := HS.out rfl
    have HSM := mk_ hsm
    have HUP := mk_ hup
    clear hsm hup HS
    obtain ⟨p, b, hpb⟩ := place47_is l0 a1 HUP.out
    have HPB := mk_ hpb
    clear hpb
    cases b with
    | false =>
      have hnf := place47_none HPB.out HUP.out
      have ht : takeP true l0 a1 = (l0, z40, false) := by
        unfold takeP
        rw [if_neg (by simp), if_neg (fun h => hnf h.1)]
      rw [ht]
      clear ht hnf
      go_enter Try.func25, Try.ntmps25
      go_wp2_with (first | ((with_reducible refine gate_dst (N := 5) rfl ?_); refine box_event ?hg (N := 5) ?hd (cs := #[.int .i64 0, .int .i64 0, .int .i64 0, .slice none 0 0]) (t := 40) ?hr ?_; (case hd => rfl); (case hg => rfl); (case hr => first | (go_simp; done) | (go_simp; rfl)); intro gb hg w2 hbox hb; have HG := mk_ (show w.heap.size ≤ gb from Nat.le_of_eq hg.symm); have HBX := mk_ hbox; have HBL := mk_ hb; have ge1 := ge_ HG.out; obtain ⟨_, _, _, _, _, _, _, _⟩ := cells4_ hbox; clear hb hbox hg) | (go_at_call 14; (with_reducible refine (impl_PortsOk.calls A0 c0 l0 true _ ?s1 ?s2 HOK.out).mono ?_); (case s1 => exact Kd.C_below HR.out (us_ HBL.out)); (case s2 => exact HC0.out); rintro e w3 ⟨rfl, hb⟩; have HX3 := mk_ (blk_below (u_ HBX.out) hb); have HB3 := mk_ (below_step (us_ HBL.out) hb); clear hb) | (go_at_call 53; (with_reducible refine (impl_ports.calls A0 c0 l0 _ ?s1 ?s2 ?s3).mono ?_); (case s1 => exact Kd.C_below HR.out HB3.out); (case s2 => exact HC0.out); (case s3 => exact HSM.out); rintro e w4 ⟨v7, rfl, ho, hb⟩; obtain ⟨A7, c7, hv7⟩ := Kd.S_slice ho; subst hv7; have HX4 := mk_ (blk_below HX3.out hb); have HL3 := mk_ (blk_lt HX3.out); have HO4 := mk_ (Kd.S_fresh ho); have HB4 := mk_ (below_step HB3.out hb); have HB34 := mk_ hb; clear ho hb) | (go_at_call 54; (with_reducible refine (impl_portAt.at_ A7 c7 l0 a1 p false _ ?s1 ?s2 ?s3 HPB.out).mono ?_); (case s1 => exact (k47S_C (Kd.S_reads' HO4.out).2.2)); (case s2 => exact HSM.out.1); (case s3 => exact HUP.out); rintro e w5 ⟨rfl, hb⟩; have HX5 := mk_ (blk_below HX4.out hb); have HO5 := mk_ (Kd.S_below HO4.out hb); have HB5 := mk_ (below_step HB4.out hb); obtain ⟨_, _, _, _, _, _, _, _⟩ := cells4_ HX5.out; clear hb))
      refine bodyPost_ret (results_list (rs := [.tmp 4, .cell 5 40, .tmp 6]) rfl (by simp) (.tmp (.cell gb 40 #[.int .i64 0, .int .i64 0, .int .i64 0, .slice none 0 0] (0, 0) _ rfl (inn47_box4 HX5.out) Try.underlying40 rfl (by kernel_rfl) (.tmp .nil)))) rfl ?_
      exact ⟨_, _, w.heap.size, rfl, Kd.S_mono (Kd.S_lower (S_box4 (Kd.S_mono HO5.out (fun k hk => hk.2)) (fun k hk => (by have := HL3.out; omega)) _ _ _ _) HB3.out.size) (fun k hk => Nat.le_trans HB3.out.size hk), Kd.R_nil _ _ _ _ _, us_ HB5.out⟩
    | true =>
      obtain ⟨hfi, hplt, hpa⟩ := place47_find HPB.out
      have HPLT := mk_ hplt
      have HPL := mk_ (show 0 < l0.length from by omega)
      obtain ⟨P, hP⟩ : ∃ P, rd_T47 l0 (p : Int) = P := ⟨_, rfl⟩
      obtain ⟨N, L⟩ := P
      have HPP := mk_ hP
      cases L with
      | nil =>
        have ht : takeP true l0 a1 = (l0, z40, false) := by
          unfold takeP
          rw [if_neg (by simp), if_neg (fun h => by rw [hfi, hP] at h; exact absurd h.2 (by simp))]
        rw [ht]
        clear ht hfi hpa hP
        go_enter Try.func25, Try.ntmps25
        go_wp2_with (first | ((with_reducible refine gate_dst (N := 5) rfl ?_); refine box_event ?hg (N := 5) ?hd (cs := #[.int .i64 0, .int .i64 0, .int .i64 0, .slice none 0 0]) (t := 40) ?hr ?_; (case hd => rfl); (case hg => rfl); (case hr => first | (go_simp; done) | (go_simp; rfl)); intro gb hg w2 hbox hb; have HG := mk_ (show w.heap.size ≤ gb from Nat.le_of_eq hg.symm); have HBX := mk_ hbox; have HBL := mk_ hb; have ge1 := ge_ HG.out; obtain ⟨_, _, _, _, _, _, _, _⟩ := cells4_ hbox; clear hb hbox hg) | (go_at_call 14; (with_reducible refine (impl_PortsOk.calls A0 c0 l0 true _ ?s1 ?s2 HOK.out).mono ?_); (case s1 => exact Kd.C_below HR.out (us_ HBL.out)); (case s2 => exact HC0.out); rintro e w3 ⟨rfl, hb⟩; have HX3 := mk_ (blk_below (u_ HBX.out) hb); have HB3 := mk_ (below_step (us_ HBL.out) hb); clear hb) | (go_at_call 53; (with_reducible refine (impl_ports.calls A0 c0 l0 _ ?s1 ?s2 ?s3).mono ?_); (case s1 => exact Kd.C_below HR.out HB3.out); (case s2 => exact HC0.out); (case s3 => exact HSM.out); rintro e w4 ⟨v7, rfl, ho, hb⟩; obtain ⟨gv, c7, hv7, _, _, _⟩ := Kd.S_form ho HPL.out; subst hv7; have HX4 := mk_ (blk_below HX3.out hb); have HL3 := mk_ (blk_lt HX3.out); have HO4 := mk_ (Kd.S_fresh ho); have HB4 := mk_ (below_step HB3.out hb); have HB34 := mk_ hb; clear ho hb) | (go_at_call 54; (with_reducible refine (impl_portAt.at_ (some ⟨gv, 0, none⟩) c7 l0 a1 p true _ ?s1 ?s2 ?s3 HPB.out).mono ?_); (case s1 => exact (k47S_C (Kd.S_reads' HO4.out).2.2)); (case s2 => exact HSM.out.1); (case s3 => exact HUP.out); rintro e w5 ⟨rfl, hb⟩; have HX5 := mk_ (blk_below HX4.out hb); have HO5 := mk_ (Kd.S_below HO4.out hb); have HB5 := mk_ (below_step HB4.out hb); obtain ⟨_, _, _, _, _, _, _, _⟩ := cells4_ HX5.out; obtain ⟨Ar, cr, hl_, hk0, hk1, hkf0, hkf1, hrow, hcut⟩ := take_cut HO5.out p HPLT.out; rw [HPP.out] at hl_ hk0 hk1 hrow hcut; dsimp only at hl_ hk0 hk1 hrow hcut; have HRW := mk_ hrow; have HCU := mk_ hcut; clear hrow hcut; clear hb))
        refine bodyPost_ret (results_list (rs := [.tmp 4, .cell 5 40, .tmp 6]) rfl (by simp) (.tmp (.cell gb 40 #[.int .i64 0, .int .i64 0, .int .i64 0, .slice none 0 0] (0, 0) _ rfl (inn47_box4 HX5.out) Try.underlying40 rfl (by kernel_rfl) (.tmp .nil)))) rfl ?_
        exact ⟨_, _, w.heap.size, rfl, Kd.S_mono (Kd.S_lower (S_box4 (Kd.S_mono HO5.out (fun k hk => hk.2)) (fun k hk => (by have := HL3.out; omega)) _ _ _ _) HB3.out.size) (fun k hk => Nat.le_trans HB3.out.size hk), Kd.R_nil _ _ _ _ _, us_ HB5.out⟩
      | cons m L =>
        have ht : takeP true l0 a1 = (l0.set p ⟨N, L⟩, m, true) := by
          unfold takeP
          rw [if_neg (by simp), hfi, hP, if_pos ⟨hplt, by simp⟩]
          rfl
        rw [ht]
        clear ht hfi hpa hP
        obtain ⟨i40, hi40, _, hsz40, _⟩ := info_parts info40
        go_enter Try.func25, Try.ntmps25
        go_wp2_with (first | ((with_reducible refine gate_dst (N := 5) rfl ?_); refine box_event ?hg (N := 5) ?hd (cs := #[.int .i64 0, .int .i64 0, .int .i64 0, .slice none 0 0]) (t := 40) ?hr ?_; (case hd => rfl); (case hg => rfl); (case hr => first | (go_simp; done) | (go_simp; rfl)); intro gb hg w2 hbox hb; have HG := mk_ (show w.heap.size ≤ gb from Nat.le_of_eq hg.symm); have HBX := mk_ hbox; have HBL := mk_ hb; have ge1 := ge_ HG.out; obtain ⟨_, _, _, _, _, _, _, _⟩ := cells4_ hbox; clear hb hbox hg) | (go_at_call 14; (with_reducible refine (impl_PortsOk.calls A0 c0 l0 true _ ?s1 ?s2 HOK.out).mono ?_); (case s1 => exact Kd.C_below HR.out (us_ HBL.out)); (case s2 => exact HC0.out); rintro e w3 ⟨rfl, hb⟩; have HX3 := mk_ (blk_below (u_ HBX.out) hb); have HB3 := mk_ (below_step (us_ HBL.out) hb); clear hb) | (go_at_call 53; (with_reducible refine (impl_ports.calls A0 c0 l0 _ ?s1 ?s2 ?s3).mono ?_); (case s1 => exact Kd.C_below HR.out HB3.out); (case s2 => exact HC0.out); (case s3 => exact HSM.out); rintro e w4 ⟨v7, rfl, ho, hb⟩; obtain ⟨gv, c7, hv7, _, _, _⟩ := Kd.S_form ho HPL.out; subst hv7; have HX4 := mk_ (blk_below HX3.out hb); have HL3 := mk_ (blk_lt HX3.out); have HO4 := mk_ (Kd.S_fresh ho); have HB4 := mk_ (below_step HB3.out hb); have HB34 := mk_ hb; clear ho hb) | (go_at_call 54; (with_reducible refine (impl_portAt.at_ (some ⟨gv, 0, none⟩) c7 l0 a1 p true _ ?s1 ?s2 ?s3 HPB.out).mono ?_); (case s1 => exact (k47S_C (Kd.S_reads' HO4.out).2.2)); (case s2 => exact HSM.out.1); (case s3 => exact HUP.out); rintro e w5 ⟨rfl, hb⟩; have HX5 := mk_ (blk_below HX4.out hb); have HO5 := mk_ (Kd.S_below HO4.out hb); have HB5 := mk_ (below_step HB4.out hb); obtain ⟨_, _, _, _, _, _, _, _⟩ := cells4_ HX5.out; obtain ⟨Ar, cr, hl_, hk0, hk1, hkf0, hkf1, hrow, hcut⟩ := take_cut HO5.out p HPLT.out; rw [HPP.out] at hl_ hk0 hk1 hrow hcut; dsimp only at hl_ hk0 hk1 hrow hcut; have HRW := mk_ hrow; clear hrow; obtain ⟨gr, A4, c4, hAr, hm0, hm1, hm2, hm3, hmR, hmL⟩ := take_mail HRW.out; subst hAr; have HMR := mk_ hmR; obtain ⟨A5, hA5⟩ : ∃ A5, (if cr = 1 then some (⟨gr, 0, none⟩ : Addr) else (some (⟨gr, 0, none⟩ : Addr)).map (·.add (1 * 4))) = A5 := ⟨_, rfl⟩; have hcutI : ∀ W : World, (Instr.slice 45 (.slice (some ⟨gr, 0, none⟩) (L.length + 1) cr) (some (.int .i64 1)) none none).run Try.prog W = .ok (.slice A5 L.length (cr - 1)) W := (by rw [← hA5]; exact cut_from (P := Try.prog) 45 40 .i64 Try.underlying45 hi40 4 hsz40 (some ⟨gr, 0, none⟩) (L.length + 1) cr 1 (by decide) (by omega)); have HA5 := mk_ hA5; have hgv5 := lc_ _ _ hk1; have HGV5 := mk_ hgv5; clear hmR hA5 hgv5 hcut; clear hb) | ((with_reducible refine gate_dst (N := 10) rfl ?_); refine box_event ?hg (N := 10) ?hd (cs := #[.int .i64 0, .int .i64 0, .int .i64 0, .slice none 0 0]) (t := 40) ?hr ?_; (case hd => rfl); (case hg => rfl); (case hr => first | (go_simp; done) | (go_simp; rfl)); intro gm hgm w6 hboxm hbm; have HGM := mk_ (show w5.heap.size ≤ gm from Nat.le_of_eq hgm.symm); have HBM := mk_ hbm; have HXM := mk_ hboxm; have gem := ge_ HGM.out; obtain ⟨_, _, _, _, _, _, _, _⟩ := cells4_ hboxm; have hgm1 : gv ≠ gm := Nat.ne_of_lt (Nat.lt_of_lt_of_le HGV5.out HGM.out); have hgm2 := Ne.symm hgm1; obtain ⟨cs_, hcs_⟩ := Kd.S_typed (Kd.S_below HO5.out hbm) gv rfl; have hf6 := blk_frozen hcs_ (p * 2 + 1); clear hcs_; have HO6 := mk_ (S_box4 (Kd.S_mono (Kd.S_below (Kd.S_elder HO5.out) hbm) (fun k hk => (⟨hk.1.2, hk.2⟩ : w3.heap.size ≤ k ∧ k < w5.heap.size))) (fun k hk => (by have := HGM.out; omega : k ≠ gm)) (.int .i64 m.f0) (.int .i64 m.f1) (.int .i64 m.f2) (.slice A4 m.f3.length c4)); replace hk0 := (hbm.cell (lc_ _ _ hk0)).trans hk0; replace hk1 := (hbm.cell (lc_ _ _ hk1)).trans hk1; clear hm0 hm1 hm2 hm3 hgm hboxm hbm))
        have hk2 : ((((w6.setCell ⟨gm, 0, none⟩ (.int .i64 m.f0)).setCell ⟨gm, 1, none⟩ (.int .i64 m.f1)).setCell ⟨gm, 2, none⟩ (.int .i64 m.f2)).setCell ⟨gm, 3, none⟩ (.slice A4 m.f3.length c4)).cell? ⟨gv, p * 2 + 1, none⟩ = some (.slice (some ⟨gr, 0, none⟩) (L.length + 1) cr) := by go_simp
        obtain ⟨hcut, hgc⟩ := cut_at HO6.out hplt HPP.out hk2 HA5.out
        have hgb : gb ≠ gm := Nat.ne_of_lt (Nat.lt_of_lt_of_le (blk_lt HX5.out) HGM.out)
        have hgv3 : w3.heap.size ≤ gv := (Kd.S_R HO5.out).1 gv rfl |>.2
        have hgbv : gb ≠ gv := by have := HL3.out; omega
        have hB7 : Below w.heap.size w (World.setCell _ ⟨gv, p * 2 + 1, none⟩ (.slice A5 L.length (cr - 1))) := bs_ (below_box4 (below_step HB5.out HBM.out) (Nat.le_trans HB5.out.size HGM.out) (.int .i64 m.f0) (.int .i64 m.f1) (.int .i64 m.f2) (.slice A4 m.f3.length c4)) (Nat.le_trans HB3.out.size hgv3)
        have hX7 := blk_far (box_far4 (blk_below HX5.out HBM.out) hgb (.int .i64 m.f0) (.int .i64 m.f1) (.int .i64 m.f2) (.slice A4 m.f3.length c4)) (p := ⟨gv, p * 2 + 1, none⟩) hgbv (.slice A5 L.length (cr - 1))
        have hM7 := blk_far (inn47_box4 HXM.out (a := m.f0) (f := m.f1) (t := m.f2) (v3 := .slice A4 m.f3.length c4)) (p := ⟨gv, p * 2 + 1, none⟩) hgm2 (.slice A5 L.length (cr - 1))
        have hR7 := Kd.R_far (p := ⟨gv, p * 2 + 1, none⟩) (R_box4 (Kd.R_mono (Kd.R_below (Kd.R_elder0 HMR.out) HBM.out) (fun k hk => (⟨⟨hk.2, hk.1.2⟩, hk.1.1.2⟩ : (k < w5.heap.size ∧ k ≠ gv) ∧ w3.heap.size ≤ k))) (fun k hk => (by have := HGM.out; have := hk.1.1; omega : k ≠ gm)) (.int .i64 m.f0) (.int .i64 m.f1) (.int .i64 m.f2) (.slice A4 m.f3.length c4)) (fun k hk => hk.1.2) (.slice A5 L.length (cr - 1))
        have h57 : w5.heap.size ≤ (World.setCell ((((w6.setCell ⟨gm, 0, none⟩ (.int .i64 m.f0)).setCell ⟨gm, 1, none⟩ (.int .i64 m.f1)).setCell ⟨gm, 2, none⟩ (.int .i64 m.f2)).setCell ⟨gm, 3, none⟩ (.slice A4 m.f3.length c4)) ⟨gv, p * 2 + 1, none⟩ (.slice A5 L.length (cr - 1))).heap.size := by
          rw [setCell_size, setCell_size, setCell_size, setCell_size, setCell_size]
          exact HBM.out.size
        have hC7 := (Kd.R_reads' hcut).2
        generalize (World.setCell ((((w6.setCell ⟨gm, 0, none⟩ (.int .i64 m.f0)).setCell ⟨gm, 1, none⟩ (.int .i64 m.f1)).setCell ⟨gm, 2, none⟩ (.int .i64 m.f2)).setCell ⟨gm, 3, none⟩ (.slice A4 m.f3.length c4)) ⟨gv, p * 2 + 1, none⟩ (.slice A5 L.length (cr - 1))) = W at hB7 hX7 hM7 hR7 hC7 h57 ⊢
        obtain ⟨hq0, hq1, hq2, hq3, hqf0, hqf1, hqf2, hqf3⟩ := cells4_ hM7
        obtain ⟨hz0, hz1, hz2, hz3, hzf0, hzf1, hzf2, hzf3⟩ := cells4_ hX7
        have HB7 := mk_ hB7
        have HX7 := mk_ hX7
        have HR7 := mk_ hR7
        have HC7 := mk_ hC7
        have H57 := mk_ h57
        have HSS := mk_ (small47_set HSM.out hplt HPP.out)
        clear hB7 hX7 hM7 hR7 hC7 h57 hcut hgc hk0 hk1 hk2 hf6 hcutI hkf0 hkf1
        go_region_held3 (fun w' => w'.cell? ⟨gm, 0, none⟩ = some (.int .i64 m.f0) ∧ w'.cell? ⟨gm, 1, none⟩ = some (.int .i64 m.f1) ∧ w'.cell? ⟨gm, 2, none⟩ = some (.int .i64 m.f2) ∧ w'.cell? ⟨gm, 3, none⟩ = some (.slice A4 m.f3.length c4)) (go_keep) (first | (go_at_call 53; (with_reducible refine (impl_ports.calls_n (some ⟨gv, 0, none⟩) l0.length c7 (l0.set p ⟨N, L⟩) _ ?s0 ?s1 ?s2 ?s3).mono ?_); (case s0 => rw [List.length_set]); (case s1 => exact Kd.C_drew HC7.out.2); (case s2 => rw [List.length_set]; exact HC7.out.1); (case s3 => exact HSS.out); rintro e w9 ⟨v9, rfl, ho, hb⟩; have hq0' := (hb.cell (lc_ W _ hq0)).trans hq0; have hq1' := (hb.cell (lc_ W _ hq1)).trans hq1; have hq2' := (hb.cell (lc_ W _ hq2)).trans hq2; have hq3' := (hb.cell (lc_ W _ hq3)).trans hq3; have HX9 := mk_ (blk_below (bw_ HX7.out) hb); have HO9 := mk_ (Kd.S_fresh ho); have HR9 := mk_ (Kd.R_below (Kd.R_drew HR7.out) hb); have HB9 := mk_ (below_step (nw_ HB7.out) hb); obtain ⟨_, _, _, _, _, _, _, _⟩ := cells4_ HX9.out; clear ho hb))
        go_wp2
        refine bodyPost_ret (results_list (rs := [.tmp 4, .cell 5 40, .tmp 6]) rfl (by simp) (.tmp (.cell gb 40 #[.int .i64 m.f0, .int .i64 m.f1, .int .i64 m.f2, .slice A4 m.f3.length c4] (0, 0) _ rfl (inn47_box4 HX9.out) Try.underlying40 rfl (by kernel_rfl) (.tmp .nil)))) rfl ?_
        have h57 := H57.out
        have hgl := HL3.out
        have hgW := blk_lt HX7.out
        exact ⟨_, _, w5.heap.size, rfl, Kd.S_mono (Kd.S_lower (S_box4 (Kd.S_mono HO9.out (fun k hk => hk.2)) (fun k hk => (by have h1_ : W.heap.size ≤ k := hk; omega)) _ _ _ _) HB7.out.size) (fun k hk => Nat.le_trans h57 hk), Kd.R_mono (R_box4 (Kd.R_lower HR9.out HB3.out.size) (fun k hk => (by have h1_ := hk.2; omega)) _ _ _ _) (fun k hk => hk.1.1), below_box4 HB9.out HG.out _ _ _ _⟩
/-! ### wrappers of the calls that take -/
theorem take_at (A0 : Option Addr) (n c0 : Nat) (l0 : List S47) (a1 : Int) (r : Bool) (o : List S47) (m0 m1 m2 : Int) (m3 : List Int) (b : Bool) (w : World) (hn : n = l0.length) (hr0 : Kd.C k47 w A0 l0.length l0) (hc0 : l0.length ≤ c0) (hok : impl_PortsOk.f l0 = some r) (hs : r = true → small47 l0 ∧ up47 l0) (ht : takeP r l0 a1 = (o, ⟨m0, m1, m2, m3⟩, b)) :
    Calls Try.prog 25 #[.slice A0 n c0, .int .i64 a1] w fun e w' => ∃ (A1 : Option Addr) (c1 : Nat) (A4 : Option Addr) (c4 C : Nat), e = .returned (.tuple #[.slice A1 o.length c1, .agg #[.int .i64 m0, .int .i64 m1, .int .i64 m2, .slice A4 m3.length c4], .bool b]) ∧ Kd.S k47S 47 w' w.heap.size (fun k => C ≤ k) (.slice A1 o.length c1) o ∧ (Kd.int .u8).R 5 w' w.heap.size (fun k => k < C) (.slice A4 m3.length c4) m3 ∧ Below w.heap.size w w' := by
  subst hn
  refine (impl_PortTake.calls A0 c0 l0 a1 r w hr0 hc0 hok hs).mono ?_
  rw [ht]
  rintro e w' ⟨v0, v4, C, rfl, h0, h4, hb⟩
  obtain ⟨A1, c1, rfl⟩ := Kd.S_slice h0
  obtain ⟨A4, c4, rfl⟩ := Kd.R_slice h4
  exact ⟨A1, c1, A4, c4, C, rfl, h0, h4, hb⟩
theorem spt_at (k : Nat) (A0 : Option Addr) (n c0 : Nat) (l0 : List S47) (a1 : Int) (o : List S47) (m0 m1 m2 : Int) (m3 : List Int) (b : Bool) (w : World) (hn : n = l0.length) (hr0 : Kd.C k47 w A0 l0.length l0) (hc0 : l0.length ≤ c0) (h : spec_PortTake.f k l0 a1 = some (o, m0, m1, m2, m3, b)) :
    Calls Try.prog 24 #[.slice A0 n c0, .int .i64 a1] w fun e w' => ∃ (A1 : Option Addr) (c1 : Nat) (A4 : Option Addr) (c4 : Nat), e = .returned (.tuple #[.slice A1 o.length c1, .agg #[.int .i64 m0, .int .i64 m1, .int .i64 m2, .slice A4 m3.length c4], .bool b]) ∧ (Kd.C k47 w' A1 o.length o ∧ o.length ≤ c1) ∧ (Kd.C (Kd.int .u8) w' A4 m3.length m3 ∧ m3.length ≤ c4) ∧ Below w.heap.size w w' := by
  subst hn
  refine (spec_PortTake.calls k A0 c0 l0 a1 o m0 m1 m2 m3 b w hr0 hc0 h).mono ?_
  rintro e w' ⟨v0, v4, rfl, hN, ⟨A4, c4, rfl, h4, hF⟩, hb⟩
  obtain ⟨A1, c1, rfl, h1, hC⟩ := Kd.N_reads hN
  exact ⟨A1, c1, A4, c4, rfl, ⟨hC, h1⟩, ⟨Kd.F_now hF, h4⟩, hb⟩
end Go.Proofs.Ytkkibccnpkbbjaa.MFnPortsOk
