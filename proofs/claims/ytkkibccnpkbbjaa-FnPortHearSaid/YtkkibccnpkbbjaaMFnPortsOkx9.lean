/- Functions that the law FnPortsOk reaches, typed by hand: the program's ports are copied with rows that lie apart, and a port is found by its number; no conditions but those that each theorem states. -/
import Derived.Test.YtkkibccnpkbbjaaMFnPortsOkx8
import Derived.Test.YtkkibccnpkbbjaaVPorts
import Derived.Test.YtkkibccnpkbbjaaMFnPortsOkx0
import Derived.Test.YtkkibccnpkbbjaaMFnPortsOkx1
import Derived.Test.YtkkibccnpkbbjaaMFnPortsOkx2
import Derived.Test.YtkkibccnpkbbjaaMFnPortsOkx3
import Derived.Test.YtkkibccnpkbbjaaMFnPortsOkx4
import Derived.Test.YtkkibccnpkbbjaaMFnPortsOkx5
import Derived.Test.YtkkibccnpkbbjaaMFnPortsOkx6
import Derived.Test.YtkkibccnpkbbjaaMFnPortsOkx7
import Derived.StillTailTactics
import Derived.IntWalk
import Derived.Deep.RegionHeld3
import Derived.Deep.RegionLaw
namespace Go.Proofs.Ytkkibccnpkbbjaa.MFnPortsOk
open Go.RowKit Go.Proofs.YtkkibccnpkbbjaaV.PrintWords Go.Proofs.YtkkibccnpkbbjaaV.PrintLast Go.Proofs.YtkkibccnpkbbjaaV.PrintMore
attribute [local go_sem] max2_int min2_int max_two min_two max_three min_three max_four min_four
set_option linter.unusedVariables false
set_option linter.unusedSimpArgs false
/-- Ports whose rows and whose messages' bytes lie apart. -/
def k47S : Kd S47 := Kd.iso (Kd.pair (Kd.int .i64) (Kd.sliceS 40 k40)) (fun x : S47 => (x.f0, x.f1))
theorem k47S_openM {w : World} {base : Nat} {ok : Nat → Prop} {x : S47} {cs : List Value} (h : k47S.M w base ok x cs) : ∃ v1, cs = [.int .i64 x.f0, v1] ∧ Kd.S k40 40 w base ok v1 x.f1 := by
  obtain ⟨_, _, rfl, rfl, ⟨v1, rfl, g1⟩⟩ := h
  exact ⟨v1, rfl, g1⟩
theorem k47S_mkM (w : World) (base : Nat) (ok : Nat → Prop) (x : S47) {v1 : Value} (g1 : Kd.S k40 40 w base ok v1 x.f1) : k47S.M w base ok x [.int .i64 x.f0, v1] := ⟨[.int .i64 x.f0], [v1], rfl, rfl, ⟨v1, rfl, g1⟩⟩
theorem k47S_weak {w : World} {base : Nat} {ok : Nat → Prop} {x : S47} {cs : List Value} (h : k47S.M w base ok x cs) : k47.M w base ok x cs := by
  obtain ⟨v1, rfl, g1⟩ := k47S_openM h
  exact k47_mkM _ _ _ x (Kd.S_R g1)
theorem k47S_S {w : World} {base : Nat} {ok : Nat → Prop} {v : Value} {xs : List S47} (h : Kd.S k47S 47 w base ok v xs) : Kd.S k47 47 w base ok v xs := Kd.S_less h rfl (fun hp => k47S_weak hp)
theorem k47S_R {w : World} {base : Nat} {ok : Nat → Prop} {v : Value} {xs : List S47} (h : Kd.S k47S 47 w base ok v xs) : Kd.R k47 47 w base ok v xs := Kd.S_R (k47S_S h)
/-- Few ports, with few messages of few bytes. -/
def small47 (l : List S47) : Prop := l.length ≤ 1000 ∧ ∀ p ∈ l, p.f1.length ≤ 1000 ∧ ∀ m ∈ p.f1, m.f3.length ≤ 1000
theorem rd47_mem (l : List S47) (q : Nat) (h : q < l.length) : rd_T47 l (q : Int) ∈ l := by
  unfold rd_T47
  rw [Int.toNat_natCast, List.getD_eq_getElem?_getD, List.getElem?_eq_getElem h]
  exact List.getElem_mem h
theorem rd40_mem (l : List S40) (q : Nat) (h : q < l.length) : rd_T40 l (q : Int) ∈ l := by
  unfold rd_T40
  rw [Int.toNat_natCast, List.getD_eq_getElem?_getD, List.getElem?_eq_getElem h]
  exact List.getElem_mem h
theorem take47 (l : List S47) (q : Nat) (h : q < l.length) : l.take (q + 1) = l.take q ++ [rd_T47 l (q : Int)] := by
  unfold rd_T47
  rw [Int.toNat_natCast, List.getD_eq_getElem?_getD, List.getElem?_eq_getElem h, List.take_succ_eq_append_getElem h]
  rfl
theorem take40 (l : List S40) (q : Nat) (h : q < l.length) : l.take (q + 1) = l.take q ++ [rd_T40 l (q : Int)] := by
  unfold rd_T40
  rw [Int.toNat_natCast, List.getD_eq_getElem?_getD, List.getElem?_eq_getElem h, List.take_succ_eq_append_getElem h]
  rfl
theorem clip40.calls (A : Option Addr) (n c : Nat) (w : World) (h : n ≤ c) (hn : n ≤ 9223372036854775807) :
    Calls Try.prog 82 #[.slice A n c] w fun e w' => e = .returned (.slice A n n) ∧ Drawn0 w w' := by
  obtain ⟨i0, hi0, _, hsz, _⟩ := info_parts info40
  have hcut : ∀ w : World, (Instr.slice 45 (.slice A n c) none (some (.int .i64 n)) (some (.int .i64 n))).run Try.prog w = .ok (.slice A n n) w := by
    intro w
    go_simp
  go_enter Try.func82, Try.ntmps82
  go_wp2
  go_ret
  exact ⟨rfl, Drawn0.refl _⟩
theorem clip47.calls (A : Option Addr) (n c : Nat) (w : World) (h : n ≤ c) (hn : n ≤ 9223372036854775807) :
    Calls Try.prog 83 #[.slice A n c] w fun e w' => e = .returned (.slice A n n) ∧ Drawn0 w w' := by
  obtain ⟨i0, hi0, _, hsz, _⟩ := info_parts info47
  have hcut : ∀ w : World, (Instr.slice 25 (.slice A n c) none (some (.int .i64 n)) (some (.int .i64 n))).run Try.prog w = .ok (.slice A n n) w := by
    intro w
    go_simp
  go_enter Try.func83, Try.ntmps83
  go_wp2
  go_ret
  exact ⟨rfl, Drawn0.refl _⟩
theorem wrap_next (j : Nat) (h : j ≤ 1000000000) : wrap64 ((j : Int) + 1) = ((j + 1 : Nat) : Int) := by
  unfold wrap64
  omega
/-- In the inner round: what is known of the ports so far (u), of the port that is made (its box gb, its row v). -/
def inn47 (w : World) (B gb : Nat) (N : Int) (u : Value) (xs : List S47) (wi : World) (v : Value) (L : List S40) : Prop :=
  wi.heap[gb]? = some (.cells #[.int .i64 N, v] 47 (0, 0)) ∧ Kd.S k40 40 wi w.heap.size (fun k => B ≤ k) v L ∧ Kd.S k47S 47 wi w.heap.size (fun k => k < B) u xs ∧ Below w.heap.size w wi ∧ B ≤ gb ∧ w.heap.size ≤ B ∧ B ≤ wi.heap.size
theorem inn47_below {w : World} {B gb : Nat} {N : Int} {u : Value} {xs : List S47} {wi w1 : World} {v : Value} {L : List S40} (h : inn47 w B gb N u xs wi v L) (hb : Below wi.heap.size wi w1) : inn47 w B gb N u xs w1 v L := by
  obtain ⟨h1, h2, h3, h4, h5, h6, h7⟩ := h
  exact ⟨blk_below h1 hb, Kd.S_below h2 hb, Kd.S_below h3 hb, below_step h4 hb, h5, h6, Nat.le_trans h7 hb.size⟩
theorem inn47_cells {w : World} {B gb : Nat} {N : Int} {u : Value} {xs : List S47} {wi : World} {v : Value} {L : List S40} (h : inn47 w B gb N u xs wi v L) : wi.cell? ⟨gb, 0, none⟩ = some (.int .i64 N) ∧ wi.cell? ⟨gb, 1, none⟩ = some v ∧ wi.frozen? ⟨gb, 0, none⟩ = false ∧ wi.frozen? ⟨gb, 1, none⟩ = false := cells2_ h.1
/-- The message is appended and the row put into the box. -/
theorem inn47_put {w : World} {B gb : Nat} {N : Int} {u : Value} {xs : List S47} {wi w1 : World} {v v1 : Value} {L L1 : List S40} (h : inn47 w B gb N u xs wi v L) (hr : Kd.S k40 40 w1 w.heap.size (fun k => B ≤ k) v1 L1) (hb : Below w.heap.size w w1) (hg : wi.grownBy w1 v.ownBlock) : inn47 w B gb N u xs (w1.setCell ⟨gb, 1, none⟩ v1) v1 L1 := by
  obtain ⟨h1, h2, h3, h4, h5, h6, h7⟩ := h
  have hv : ∀ k, v.ownBlock = some k → B ≤ k := fun k hk => (Kd.S_R h2).1 k hk
  have hb1 := blk_grown h1 hg (Kd.S_ne h2 h1 (by decide))
  have hu := Kd.S_grown h3 hg (fun k hk e => by have := hv k e.symm; omega)
  refine ⟨blk_put (cs := #[.int .i64 N, v]) hb1 1 _ rfl, Kd.S_set hr hb1 (by decide) 1 v1, Kd.S_far hu (fun k hk => by show k ≠ gb; omega) v1, bs_ hb (Nat.le_trans h6 h5), h5, h6, ?_⟩
  have h8 : wi.heap.size ≤ w1.heap.size := hg.size
  have h9 : (w1.setCell ⟨gb, 1, none⟩ v1).heap.size = w1.heap.size := by simp [World.setCell]
  omega
theorem inn47_start {w wr W : World} {gq : Nat} {N : Int} {u : Value} {xs : List S47} (HO : Kd.S k47S 47 wr w.heap.size (fun _ => True) u xs) (HB : Below w.heap.size w wr) (hb : Below wr.heap.size wr W) (hbox : W.heap[gq]? = some (.cells #[.int .i64 N, .slice none 0 0] 47 (0, 0))) (hq : wr.heap.size ≤ gq) : inn47 w wr.heap.size gq N u xs W (.slice none 0 0) [] :=
  ⟨hbox, Kd.S_nil _ _ _ _ _, Kd.S_mono (Kd.S_below (Kd.S_elder HO) hb) (fun _ hk => hk.2), below_step HB hb, hq, HB.size, hb.size⟩

theorem slice_at {n m : Nat} (h : n = m) : Value.slice (some ⟨n, 0, none⟩) 1 1 = Value.slice (some ⟨m, 0, none⟩) 1 1 := by rw [h]
theorem setCell_size (w : World) (p : Addr) (v : Value) : (w.setCell p v).heap.size = w.heap.size := by simp [World.setCell]
theorem inn47_mail {wi W5 w6 : World} {base g8 : Nat} {a f t : Int} {v6 : Value} {D : List Int} {cs : Array Value} (hr : (Kd.int .u8).R 5 w6 W5.heap.size (fun _ => True) v6 D) (h5 : Below wi.heap.size wi W5) (hb : base ≤ wi.heap.size) (hbox : w6.heap[g8]? = some (.cells cs 40 (0, 0))) : k40.M (w6.setCell ⟨g8, 3, none⟩ v6) base (fun k => wi.heap.size ≤ k) (⟨a, f, t, D⟩ : S40) [.int .i64 a, .int .i64 f, .int .i64 t, v6] :=
  k40_mkM _ _ _ ⟨a, f, t, D⟩ (Kd.R_lower (Kd.R_set (Kd.R_mono (Kd.R_fresh hr) (fun k hk => Nat.le_trans h5.size hk.2)) hbox (by decide) 3 v6) (Nat.le_trans hb h5.size))
theorem inn47_old {w : World} {B gb : Nat} {N : Int} {u : Value} {xs : List S47} {wi W : World} {v : Value} {L : List S40} (h : inn47 w B gb N u xs wi v L) (hb : Below wi.heap.size wi W) : Kd.S k40 40 W w.heap.size (fun k => B ≤ k ∧ ¬ wi.heap.size ≤ k) v L ∧ (∀ k, wi.heap.size ≤ k → B ≤ k ∧ some k ≠ v.ownBlock) ∧ (∀ k, W.heap.size ≤ k → B ≤ k) := by
  obtain ⟨h1, h2, h3, h4, h5, h6, h7⟩ := h
  refine ⟨Kd.S_mono (Kd.S_below (Kd.S_elder h2) hb) (fun k hk => ⟨hk.1, by omega⟩), fun k hk => ⟨by omega, fun e => ?_⟩, fun k hk => by have := hb.size; omega⟩
  have := Kd.S_lt h2 k e.symm
  omega
theorem inn47_new {w : World} {B gb : Nat} {N : Int} {u : Value} {xs : List S47} {wi w1 : World} {v : Value} {L : List S40} (h : inn47 w B gb N u xs wi v L) (hg : wi.grownBy w1 v.ownBlock) : w1.heap[gb]? = some (.cells #[.int .i64 N, v] 47 (0, 0)) := blk_grown h.1 hg (Kd.S_ne h.2.1 h.1 (by decide))
/-- The row is clipped: the port as it is appended to the ports. -/
theorem inn47_port {w : World} {B gb : Nat} {N : Int} {u : Value} {xs : List S47} {wi : World} {A : Option Addr} {c nd : Nat} {L : List S40} (h : inn47 w B gb N u xs wi (.slice A L.length c) L) :
    k47S.M ((wi.drewN nd).setCell ⟨gb, 1, none⟩ (.slice A L.length L.length)) w.heap.size (fun k => B ≤ k) (⟨N, L⟩ : S47) [.int .i64 N, .slice A L.length L.length] ∧
    (∀ k, B ≤ k → True ∧ some k ≠ u.ownBlock) ∧ Kd.S k47S 47 ((wi.drewN nd).setCell ⟨gb, 1, none⟩ (.slice A L.length L.length)) w.heap.size (fun k => True ∧ ¬ B ≤ k) u xs ∧
    Below w.heap.size w ((wi.drewN nd).setCell ⟨gb, 1, none⟩ (.slice A L.length L.length)) := by
  obtain ⟨h1, h2, h3, h4, h5, h6, h7⟩ := h
  refine ⟨k47S_mkM _ _ _ ⟨N, L⟩ (Kd.S_set (Kd.S_drewN (Kd.S_clip h2 rfl) nd) (bn_ h1 nd) (by decide) 1 _), fun k hk => ⟨trivial, fun e => ?_⟩, Kd.S_mono (Kd.S_far (Kd.S_drewN h3 nd) (fun k hk => by show k ≠ gb; omega) _) (fun k hk => ⟨trivial, by omega⟩), bs_ (nn_ h4 nd) (Nat.le_trans h6 h5)⟩
  have := (Kd.S_R h3).1 k e.symm
  omega
/-- A slice that may begin inside its block. -/
def Kd.sliceQ {α : Type} (e : Nat) (d : Kd α) : Kd (List α) where
  sz := 1
  E := e :: d.E
  K := fun w xs cs => ∃ A c, cs = [.slice A xs.length c] ∧ xs.length ≤ c ∧ d.C w A xs.length xs
  M := fun w base ok xs cs => ∃ v, cs = [v] ∧ d.Q e w base ok v xs
  K_len := by
    rintro w x cs ⟨A, c, rfl, _⟩
    rfl
  K_one := by
    rintro w x cs ⟨A, c, rfl, _⟩ u hu
    rw [List.mem_singleton.1 hu]
    rfl
  K_below := by
    rintro w w1 x cs hb ⟨A, c, rfl, hl, hr⟩
    exact ⟨A, c, rfl, hl, Kd.C_below hr hb⟩
  K_of_M := by
    rintro w base ok x cs ⟨v, rfl, h⟩
    obtain ⟨A, c, rfl, hl, hr⟩ := Kd.Q_reads h
    exact ⟨A, c, rfl, hl, hr⟩
  M_mono := by
    rintro w base ok ok' x cs hok ⟨v, rfl, h⟩
    exact ⟨v, rfl, Kd.Q_mono h hok⟩
  M_bound := by
    rintro w base ok x cs ⟨v, rfl, h⟩
    exact ⟨v, rfl, Kd.Q_bound h⟩
  M_move := by
    rintro w w1 base ok x cs hm ⟨v, rfl, h⟩
    exact ⟨v, rfl, Kd.Q_move h hm⟩
  M_lower := by
    rintro w base base' ok x cs hb ⟨v, rfl, h⟩
    exact ⟨v, rfl, Kd.Q_lower h hb⟩
def k47Q : Kd S47 := Kd.iso (Kd.pair (Kd.int .i64) (Kd.sliceQ 40 k40)) (fun x : S47 => (x.f0, x.f1))
theorem k47Q_mkM (w : World) (base : Nat) (ok : Nat → Prop) (x : S47) {v1 : Value} (g1 : Kd.Q k40 40 w base ok v1 x.f1) : k47Q.M w base ok x [.int .i64 x.f0, v1] := ⟨[.int .i64 x.f0], [v1], rfl, rfl, ⟨v1, rfl, g1⟩⟩
theorem k47S_Q {w : World} {base : Nat} {ok : Nat → Prop} {x : S47} {cs : List Value} (h : k47S.M w base ok x cs) : k47Q.M w base ok x cs := by
  obtain ⟨v1, rfl, g1⟩ := k47S_openM h
  exact k47Q_mkM _ _ _ x (Kd.Q_of_R (Kd.S_R g1))
theorem k47Q_C {w : World} {A : Option Addr} {n : Nat} {l : List S47} (h : Kd.C k47Q w A n l) : Kd.C k47 w A n l := h
theorem k47S_C {w : World} {A : Option Addr} {n : Nat} {l : List S47} (h : Kd.C k47S w A n l) : Kd.C k47 w A n l := h
/-- A port's cells; and the ports with its row cut. -/
theorem take_cut {W : World} {base g n cap : Nat} {ok : Nat → Prop} {l : List S47} (h : Kd.S k47S 47 W base ok (.slice (some ⟨g, 0, none⟩) n cap) l) (i : Nat) (hi : i < n) :
    ∃ A c, (rd_T47 l (i : Int)).f1.length ≤ c ∧ W.cell? ⟨g, i * 2, none⟩ = some (.int .i64 (rd_T47 l (i : Int)).f0) ∧ W.cell? ⟨g, i * 2 + 1, none⟩ = some (.slice A (rd_T47 l (i : Int)).f1.length c) ∧ W.frozen? ⟨g, i * 2, none⟩ = false ∧ W.frozen? ⟨g, i * 2 + 1, none⟩ = false ∧
      Kd.S k40 40 W base (fun k => ok k ∧ k ≠ g) (.slice A (rd_T47 l (i : Int)).f1.length c) (rd_T47 l (i : Int)).f1 ∧
      ∀ j, j ≤ (rd_T47 l (i : Int)).f1.length → Kd.R k47Q 47 (W.setCell ⟨g, i * 2 + 1, none⟩ (.slice (if c = j then A else A.map (·.add (j * 4))) ((rd_T47 l (i : Int)).f1.length - j) (c - j))) base ok (.slice (some ⟨g, 0, none⟩) n cap) (l.set i ⟨(rd_T47 l (i : Int)).f0, (rd_T47 l (i : Int)).f1.drop j⟩) ∧ W.grownBy (W.setCell ⟨g, i * 2 + 1, none⟩ (.slice (if c = j then A else A.map (·.add (j * 4))) ((rd_T47 l (i : Int)).f1.length - j) (c - j))) (some g) := by
  obtain ⟨oki, c, hcl, hM, hcc, hfr, hoki, _⟩ := Kd.S_elem h z47 (i : Int) (by omega) (by omega)
  have hM' : k47S.M W base oki (rd_T47 l (i : Int)) c := hM
  obtain ⟨v1, rfl, g1⟩ := k47S_openM hM'
  obtain ⟨A, c1, hv, hl, hr⟩ := Kd.S_reads g1
  subst hv
  rw [Int.toNat_natCast] at hcc hfr
  have g2 : Kd.S k40 40 W base (fun k => ok k ∧ k ≠ g) (.slice A (rd_T47 l (i : Int)).f1.length c1) (rd_T47 l (i : Int)).f1 := Kd.S_mono g1 hoki
  refine ⟨A, c1, hl, hcc 0 _ rfl, hcc 1 _ rfl, hfr 0, hfr 1, g2, fun j hj => ?_⟩
  have hR : Kd.R k47Q 47 W base ok (.slice (some ⟨g, 0, none⟩) n cap) l := Kd.R_less (Kd.S_R h) rfl (fun hp => k47S_Q hp)
  have hq := Kd.Q_drop (Kd.Q_of_R (Kd.S_R g2)) hj
  have := Kd.R_seg hR (i : Int) (by omega) (by omega) (c := [.int .i64 (rd_T47 l (i : Int)).f0, .slice A (rd_T47 l (i : Int)).f1.length c1]) (seg := [.slice (if c1 = j then A else A.map (·.add (j * 4))) ((rd_T47 l (i : Int)).f1.length - j) (c1 - j)]) (j := 1) rfl (by rw [Int.toNat_natCast]; exact hcc) (Nat.le_refl 2) (x' := ⟨(rd_T47 l (i : Int)).f0, (rd_T47 l (i : Int)).f1.drop j⟩) (okp := fun k => ok k ∧ k ≠ g) (k47Q_mkM _ _ _ ⟨(rd_T47 l (i : Int)).f0, (rd_T47 l (i : Int)).f1.drop j⟩ hq) (fun k hk => hk)
  rw [Int.toNat_natCast] at this
  exact this
theorem box_far4 {w5 : World} {g g8 : Nat} {cs : Array Value} {t : TypeId} (h : w5.heap[g]? = some (.cells cs t (0, 0))) (hne : g ≠ g8) (v0 v1 v2 v3 : Value) : ((((w5.setCell ⟨g8, 0, none⟩ v0).setCell ⟨g8, 1, none⟩ v1).setCell ⟨g8, 2, none⟩ v2).setCell ⟨g8, 3, none⟩ v3).heap[g]? = some (.cells cs t (0, 0)) :=
  blk_far (blk_far (blk_far (blk_far h hne v0) hne v1) hne v2) hne v3
theorem R_box4 {α : Type} {d : Kd α} {e : Nat} {w5 : World} {base g8 : Nat} {ok : Nat → Prop} {v : Value} {xs : List α} (h : d.R e w5 base ok v xs) (hok : ∀ k, ok k → k ≠ g8) (v0 v1 v2 v3 : Value) : d.R e ((((w5.setCell ⟨g8, 0, none⟩ v0).setCell ⟨g8, 1, none⟩ v1).setCell ⟨g8, 2, none⟩ v2).setCell ⟨g8, 3, none⟩ v3) base ok v xs :=
  Kd.R_far (p := ⟨g8, 3, none⟩) (Kd.R_far (p := ⟨g8, 2, none⟩) (Kd.R_far (p := ⟨g8, 1, none⟩) (Kd.R_far (p := ⟨g8, 0, none⟩) h hok v0) hok v1) hok v2) hok v3
theorem below_box4 {w w5 : World} {g8 : Nat} (h : Below w.heap.size w w5) (hg : w.heap.size ≤ g8) (v0 v1 v2 v3 : Value) : Below w.heap.size w ((((w5.setCell ⟨g8, 0, none⟩ v0).setCell ⟨g8, 1, none⟩ v1).setCell ⟨g8, 2, none⟩ v2).setCell ⟨g8, 3, none⟩ v3) := bs_ (bs_ (bs_ (bs_ h hg) hg) hg) hg
theorem S_box4 {α : Type} {d : Kd α} {e : Nat} {w5 : World} {base g8 : Nat} {ok : Nat → Prop} {v : Value} {xs : List α} (h : Kd.S d e w5 base ok v xs) (hok : ∀ k, ok k → k ≠ g8) (v0 v1 v2 v3 : Value) : Kd.S d e ((((w5.setCell ⟨g8, 0, none⟩ v0).setCell ⟨g8, 1, none⟩ v1).setCell ⟨g8, 2, none⟩ v2).setCell ⟨g8, 3, none⟩ v3) base ok v xs :=
  Kd.S_far (p := ⟨g8, 3, none⟩) (Kd.S_far (p := ⟨g8, 2, none⟩) (Kd.S_far (p := ⟨g8, 1, none⟩) (Kd.S_far (p := ⟨g8, 0, none⟩) h hok v0) hok v1) hok v2) hok v3
theorem inn47_box4 {w5 : World} {g8 : Nat} {a f t : Int} {v3 : Value} (h : w5.heap[g8]? = some (.cells #[.int .i64 0, .int .i64 0, .int .i64 0, .slice none 0 0] 40 (0, 0))) : ((((w5.setCell ⟨g8, 0, none⟩ (.int .i64 a)).setCell ⟨g8, 1, none⟩ (.int .i64 f)).setCell ⟨g8, 2, none⟩ (.int .i64 t)).setCell ⟨g8, 3, none⟩ v3).heap[g8]? = some (.cells #[.int .i64 a, .int .i64 f, .int .i64 t, v3] 40 (0, 0)) :=
  blk_put (cs := #[.int .i64 a, .int .i64 f, .int .i64 t, .slice none 0 0]) (blk_put (cs := #[.int .i64 a, .int .i64 f, .int .i64 0, .slice none 0 0]) (blk_put (cs := #[.int .i64 a, .int .i64 0, .int .i64 0, .slice none 0 0]) (blk_put (cs := #[.int .i64 0, .int .i64 0, .int .i64 0, .slice none 0 0]) h 0 (.int .i64 a) rfl) 1 (.int .i64 f) rfl) 2 (.int .i64 t) rfl) 3 v3 rfl
/-! ### spec.l9Copy: rows that lie apart -/
theorem inn47_mail2 {wi w6 : World} {base g8 : Nat} {a f t : Int} {v6 : Value} {D : List Int} {cs : Array Value} (hr : (Kd.int .u8).R 5 w6 wi.heap.size (fun k => wi.heap.size ≤ k) v6 D) (hb : base ≤ wi.heap.size) (hbox : w6.heap[g8]? = some (.cells cs 40 (0, 0))) : k40.M (w6.setCell ⟨g8, 3, none⟩ v6) base (fun k => wi.heap.size ≤ k) (⟨a, f, t, D⟩ : S40) [.int .i64 a, .int .i64 f, .int .i64 t, v6] :=
  k40_mkM _ _ _ ⟨a, f, t, D⟩ (Kd.R_lower (Kd.R_set hr hbox (by decide) 3 v6) hb)
theorem copy_port {w : World} {B gb : Nat} {N : Int} {u : Value} {xs : List S47} {wi : World} {v : Value} {L : List S40} (h : inn47 w B gb N u xs wi v L) :
    k47S.M wi w.heap.size (fun k => B ≤ k) (⟨N, L⟩ : S47) [.int .i64 N, v] ∧ (∀ k, B ≤ k → True ∧ some k ≠ u.ownBlock) ∧ Kd.S k47S 47 wi w.heap.size (fun k => True ∧ ¬ B ≤ k) u xs ∧ Below w.heap.size w wi := by
  obtain ⟨h1, h2, h3, h4, h5, h6, h7⟩ := h
  refine ⟨k47S_mkM _ _ _ ⟨N, L⟩ h2, fun k hk => ⟨trivial, fun e => ?_⟩, Kd.S_mono h3 (fun k hk => ⟨trivial, by omega⟩), h4⟩
  have := (Kd.S_R h3).1 k e.symm
  omega
set_option maxHeartbeats 2000000 in
set_option maxRecDepth 100000 in
theorem l9Copy_apart (A0 : Option Addr) (c0 : Nat) (l0 : List S47) (w : World) (hr0 : Kd.C k47 w A0 l0.length l0) (hs : small47 l0) :
    Calls Try.prog 52 #[.slice A0 l0.length c0] w fun e w' => ∃ (A1 : Option Addr) (c1 : Nat), e = .returned (.slice A1 l0.length c1) ∧ Kd.S k47S 47 w' w.heap.size (fun _ => True) (.slice A1 l0.length c1) l0 ∧ Below w.heap.size w w' := by
  have hu47 := Try.underlying47
  have hu40 := Try.underlying40
  have HR := mk_ hr0
  have HS := mk_ hs
  have HI47 := mk_ info47
  have HI40 := mk_ info40
  have HI5 := mk_ info5
  clear hr0 hs
  go_enter Try.func52, Try.ntmps52
  go_wp2_with (first | ((with_reducible refine gate_dst (N := 8) rfl ?_); refine Kd.S_lit k47S (w0 := w) w.heap.size 47 ?hg (N := 8) ?hd (xs := ([] : List S47)) (inner := []) (ok := fun _ => True) (okp := fun _ => True) ?hr ?hp (fun _ hk => hk) trivial (Below.refl _ _) (Nat.le_refl _) (by simp) ?_; (case hd => rfl); (case hg => rfl); (case hr => first | (go_simp; done) | (go_simp; rfl)); (case hp => exact (Reps.none _ _)); intro v1 w1 ho hb hg_ hnew_; have HO := mk_ ho; have HB := mk_ hb; clear ho hb hg_ hnew_))
  go_loopw [3, 4] (fun v i wr => ∃ q : Nat, q ≤ l0.length ∧ i = .int .i64 q ∧ Aside0 (Kd.S k47S 47 wr w.heap.size (fun _ => True) v (l0.take q)) ∧ Aside0 (Below w.heap.size w wr)) (fun _ i _ => l0.length - (intOf i).toNat)
  case atStart => exact ⟨0, Nat.zero_le _, rfl, HO, HB⟩
  case round =>
    obtain ⟨q, hq, rfl, HO, HB⟩ := hrel
    by_cases hlt : q < l0.length
    · obtain ⟨ad, A1, c1, e, hx0, hx1, hx2, hx3⟩ := at_T47 HR.out (q : Int) (by omega) (by omega)
      cases e
      rw [Int.toNat_natCast] at hx0 hx1
      have HXW := mk_ hx1
      replace hx0 := (HB.out.cell (lc_ w _ hx0)).trans hx0
      replace hx1 := (HB.out.cell (lc_ w _ hx1)).trans hx1
      have hsp := HS.out.2 _ (rd47_mem l0 q hlt)
      have ht := take47 l0 q hlt
      obtain ⟨P, hP⟩ : ∃ P, rd_T47 l0 (q : Int) = P := ⟨_, rfl⟩
      obtain ⟨N, L⟩ := P
      rw [hP] at hx0 hx1 hx2 hx3 hsp ht HXW
      dsimp only at hx0 hx1 hx2 hx3 hsp HXW
      have HX2 := mk_ hx2
      have HX3 := mk_ hx3
      have HSP := mk_ hsp
      have HT := mk_ ht
      have HQL := mk_ hlt
      clear hx2 hx3 hsp ht hP
      obtain ⟨B, hB⟩ : ∃ B, wr.heap.size = B := ⟨_, rfl⟩
      have HBB := mk_ hB
      clear hB
      go_wp2_with (first | ((with_reducible refine gate_dst (N := 5) rfl ?_); refine box_event ?hg (N := 5) ?hd (cs := #[.int .i64 0, .slice none 0 0]) (t := 47) ?hr ?_; (case hd => rfl); (case hg => rfl); (case hr => first | (go_simp; done) | (go_simp; rfl)); intro gq hgq w3 hboxq hbq; have HQ := mk_ (show wr.heap.size ≤ gq from Nat.le_of_eq hgq.symm); have HBR := mk_ hbq; have ge2 := ge_ HQ.out; have HBQ := mk_ hboxq; obtain ⟨_, _, _, _⟩ := cells2_ hboxq; clear hbq hboxq hgq))
      have HIN := mk_ (inn47_start (gq := gq) (N := N) HO.out HB.out (us_ HBR.out) (blk_put (cs := #[.int .i64 N, .slice none 0 0]) (blk_put (cs := #[.int .i64 0, .slice none 0 0]) HBQ.out 0 (.int .i64 N) rfl) 1 (.slice none 0 0) rfl) HQ.out)
      rw [HBB.out] at HIN
      clear HBR HQ HBQ hx0 hx1
      go_loopw [6] (fun i wi => ∃ (j : Nat) (v : Value), j ≤ L.length ∧ i = .int .i64 j ∧ Aside0 (inn47 w B gq N u3 (l0.take q) wi v (L.take j))) (fun i _ => L.length - (intOf i).toNat)
      case atStart => exact ⟨0, _, Nat.zero_le _, rfl, HIN⟩
      case round =>
        obtain ⟨j, v, hj, rfl, HIN⟩ := hrel
        have hx1 := (HIN.out.2.2.2.1.cell (lc_ w _ HXW.out)).trans HXW.out
        by_cases hlt2 : j < L.length
        · obtain ⟨ad3, A3, c3, e, hy0, hy1, hy2, hy3, hy4, hy5⟩ := at_T40 HX3.out (j : Int) (by omega) (by omega)
          cases e
          have HBW := HIN.out.2.2.2.1
          replace hy0 := (HBW.cell (lc_ w _ hy0)).trans hy0
          replace hy1 := (HBW.cell (lc_ w _ hy1)).trans hy1
          replace hy2 := (HBW.cell (lc_ w _ hy2)).trans hy2
          replace hy3 := (HBW.cell (lc_ w _ hy3)).trans hy3
          rw [Int.toNat_natCast] at hy0 hy1 hy2 hy3
          have hsd := HSP.out.2 _ (rd40_mem L j hlt2)
          have ht := take40 L j hlt2
          obtain ⟨P, hP⟩ : ∃ P, rd_T40 L (j : Int) = P := ⟨_, rfl⟩
          obtain ⟨a, f, t, D⟩ := P
          rw [hP] at hy0 hy1 hy2 hy3 hy4 hy5 hsd ht
          dsimp only at hy0 hy1 hy2 hy3 hy4 hy5 hsd
          obtain ⟨Y, hY⟩ : ∃ Y, L.take j = Y := ⟨_, rfl⟩
          have hyl : Y.length ≤ L.length := by rw [← hY]; exact List.length_take_le' j L
          rw [hY] at HIN ht
          have HYL := mk_ hyl
          obtain ⟨Y1, hY1⟩ : ∃ Y1, Y ++ [(⟨a, f, t, D⟩ : S40)] = Y1 := ⟨_, rfl⟩
          rw [hY1] at ht
          have NY := mk_ hY1
          have HJ1 := mk_ (show j + 1 ≤ L.length from hlt2)
          clear hY hyl hY1
          obtain ⟨Av, cv, hv⟩ := Kd.S_slice HIN.out.2.1
          subst hv
          obtain ⟨hq0, hq1, hqf0, hqf1⟩ := inn47_cells HIN.out
          have HY4 := mk_ hy4
          have HY5 := mk_ (Kd.C_below hy5 HBW)
          have HSD := mk_ hsd
          have HT2 := mk_ ht
          have HJ := mk_ hj
          clear hy4 hy5 hsd ht hP HBW
          go_wp2_with (first | ((with_reducible refine gate_dst (N := 7) rfl ?_); refine box_event ?hg (N := 7) ?hd (cs := #[.int .i64 0, .int .i64 0, .int .i64 0, .slice none 0 0]) (t := 40) ?hr ?_; (case hd => rfl); (case hg => rfl); (case hr => first | (go_simp; done) | (go_simp; rfl)); intro g8 hg8 w5 hbox8 hb8; have HG8 := mk_ (show wr.heap.size ≤ g8 from Nat.le_of_eq hg8.symm); have HB5 := mk_ hb8; have HBX8 := mk_ hbox8; have ge8 := ge_ HG8.out; obtain ⟨_, _, _, _, _, _, _, _⟩ := cells4_ hbox8; clear hg8 hbox8 hb8) | ((with_reducible refine gate_dst (N := 39) rfl ?_); refine Kd.R_lit (Kd.int .u8) (w0 := wr) wr.heap.size 5 ?hg (N := 39) ?hd (xs := ([] : List Int)) (inner := []) (ok := fun k => wr.heap.size ≤ k) (okp := fun k => wr.heap.size ≤ k) ?hr ?hp (fun _ hk => hk) ?hf ?hb ?hz (by simp) ?_; (case hd => rfl); (case hg => rfl); (case hr => first | (go_simp; done) | (go_simp; rfl)); (case hp => exact (Reps.none _ _)); (case hb => exact us_ HB5.out); (case hz => exact (below_box4 HB5.out HG8.out _ _ _ _).size); (case hf => exact (below_box4 HB5.out HG8.out _ _ _ _).size); intro vl wl ho hb hg_ hnew_; have HXL := mk_ (blk_grown (inn47_box4 HBX8.out (a := a) (f := f) (t := t) (v3 := .slice A3 D.length c3)) hg_ (by simp)); have HOL := mk_ ho; have HBL := mk_ hb; obtain ⟨_, _, _, _, _, _, _, _⟩ := cells4_ HXL.out; clear ho hb hg_ hnew_) | ((with_reducible refine gate_builtin (b := .append) (xs := #[.tmp 39, .tmp 41]) rfl ?_); at_builtin; refine Kd.R_append_rows (Kd.int .u8) (w0 := wr) wr.heap.size rfl (.tmp 39) (.tmp 41) 29 5 (.int .u8 0) 1 rfl Try.underlying29 HI5.out rfl (by decide) (by omega) vl ([] : List Int) D A3 D.length c3 (fun k => wr.heap.size ≤ k) (fun _ => False) rfl rfl HOL.out (Kd.C_below HY5.out HBL.out) (fun _ _ h => h) (fun _ h => h.elim) (fun k hk => Nat.le_trans HBL.out.size hk) HBL.out HBL.out.size (by have := HSD.out; simp only [List.length_nil]; omega) ?_; intro v6 w6 ho hb hg hat; rw [List.nil_append] at ho; obtain ⟨A6, c6, hv6⟩ := Kd.R_slice ho; subst hv6; have HX8 := mk_ (blk_grown HXL.out hg (Kd.R_ne HOL.out HXL.out (by decide))); have HB6 := mk_ hb; have HR6 := mk_ ho; replace hq1 := (HB6.out.cell (lc_ _ _ hq1)).trans hq1; have hn8 : gq ≠ g8 := (Nat.ne_of_lt (Nat.lt_of_lt_of_le (blk_lt HIN.out.1) HG8.out)); have hn9 := Ne.symm hn8; obtain ⟨_, _, _, _, _, _, _, _⟩ := cells4_ HX8.out; clear hq0 hqf0 hqf1 ho hb hg hat) | ((with_reducible refine gate_builtin (b := .append) (xs := #[.tmp 45, .tmp 47]) rfl ?_); at_builtin; have HW := mk_ (inn47_old HIN.out (us_ HB6.out : Below wr.heap.size wr (w6.setCell ⟨g8, 3, none⟩ (.slice A6 D.length c6)))); have HIW := mk_ (inn47_below HIN.out (us_ HB6.out : Below wr.heap.size wr (w6.setCell ⟨g8, 3, none⟩ (.slice A6 D.length c6)))); refine Kd.S_append k40 (w0 := w) w.heap.size rfl (.tmp 45) (.tmp 47) 45 40 (.agg #[(.int .i64 0), (.int .i64 0), (.int .i64 0), (.slice none 0 0)]) 48 rfl Try.underlying45 HI40.out rfl (by decide) (by omega) (.slice Av Y.length cv) Y (⟨a, f, t, D⟩ : S40) [.int .i64 a, .int .i64 f, .int .i64 t, .slice A6 D.length c6] (fun k => B ≤ k) (fun k => wr.heap.size ≤ k) rfl (slice_at (setCell_size _ _ _).symm) (inn47_mail2 HR6.out HIN.out.2.2.2.1.size HX8.out) HW.out.2.1 HW.out.2.2 HW.out.1 HIW.out.2.2.2.1 HIW.out.2.2.2.1.size (by have h1_ := HSP.out.1; have h2_ := HYL.out; omega) ?_; intro v1 w7 ho hb hg hat; rw [NY.out] at ho; obtain ⟨A7, c7, hv7⟩ := Kd.S_slice ho; subst hv7; obtain ⟨_, _, _, _⟩ := cells2_ (inn47_new HIW.out hg); have HIN7 := mk_ (inn47_put HIW.out ho hb hg); clear ho hb hg hat))
          go_roundw
          case rel => exact ⟨j + 1, _, HJ1.out, by rw [wrap_next j (by have h1_ := HSP.out.1; have h2_ := HJ1.out; omega)], ⟨by rw [HT2.out]; exact HIN7.out⟩⟩
          case measure => have h1_ := HSP.out.1; have h2_ := HJ1.out; rw [wrap_next j (by omega)]; simp only [intOf, Int.toNat_natCast]; omega
        · obtain rfl : j = L.length := by omega
          have HI := HIN.out
          rw [List.take_length] at HI
          obtain ⟨Av, cv, hv⟩ := Kd.S_slice HI.2.1
          subst hv
          obtain ⟨hq0, hq1, hqf0, hqf1⟩ := inn47_cells HI
          have HIQ := mk_ HI
          have HP := mk_ (copy_port HI)
          have HQ1 := mk_ (show q + 1 ≤ l0.length from hlt)
          clear HI HIN
          go_wp2_with ((with_reducible refine gate_builtin (b := .append) (xs := #[.tmp 50, .tmp 52]) rfl ?_); at_builtin; refine Kd.S_append k47S (w0 := w) w.heap.size rfl (.tmp 50) (.tmp 52) 25 47 (.agg #[(.int .i64 0), (.slice none 0 0)]) 32 rfl Try.underlying25 HI47.out rfl (by decide) (by omega) _ (l0.take q) (⟨N, L⟩ : S47) [.int .i64 N, .slice Av L.length cv] (fun _ => True) (fun k => B ≤ k) rfl rfl HP.out.1 HP.out.2.1 (fun _ _ => trivial) HP.out.2.2.1 HP.out.2.2.2 HP.out.2.2.2.size (by have h1_ := HS.out.1; have h2_ := HQL.out; rw [List.length_take]; omega) ?_; intro v1 w7 ho hb hg hat; have HO9 := mk_ ho; have HB9 := mk_ hb; clear ho hb hg hat)
          go_roundw
          case rel => exact ⟨q + 1, HQ1.out, by rw [wrap_next q (by have h1_ := HS.out.1; have h2_ := HQ1.out; omega)], ⟨by rw [HT.out]; exact HO9.out⟩, HB9⟩
          case measure => have h1_ := HS.out.1; have h2_ := HQ1.out; rw [wrap_next q (by omega)]; simp only [intOf, Int.toNat_natCast]; omega
    · obtain rfl : q = l0.length := by omega
      have HO2 := HO.out
      rw [List.take_length] at HO2
      obtain ⟨A2, c2, hv2⟩ := Kd.S_slice HO2
      subst hv2
      have HO3 := mk_ HO2
      clear HO2 HO
      go_wp2
      go_ret
      exact ⟨_, _, rfl, HO3.out, HB.out⟩
/-! ### a message laid into a port's row -/
theorem hear_row {W : World} {base D g n cap : Nat} {l : List S47} (h : Kd.S k47S 47 W base (fun k => k < D) (.slice (some ⟨g, 0, none⟩) n cap) l) (i : Nat) (hi : i < n) :
    ∃ (A : Option Addr) (c : Nat) (okX : Nat → Prop), (rd_T47 l (i : Int)).f1.length ≤ c ∧ W.cell? ⟨g, i * 2, none⟩ = some (.int .i64 (rd_T47 l (i : Int)).f0) ∧ W.cell? ⟨g, i * 2 + 1, none⟩ = some (.slice A (rd_T47 l (i : Int)).f1.length c) ∧ W.frozen? ⟨g, i * 2, none⟩ = false ∧ W.frozen? ⟨g, i * 2 + 1, none⟩ = false ∧
      (∀ k, D ≤ k → okX k) ∧ Kd.S k40 40 W base (fun k => okX k ∧ ¬ D ≤ k) (.slice A (rd_T47 l (i : Int)).f1.length c) (rd_T47 l (i : Int)).f1 ∧ (∀ k, (Value.slice A (rd_T47 l (i : Int)).f1.length c).ownBlock = some k → k < D ∧ k ≠ g) ∧
      ∀ (W0 W1 : World) (v1 : Value) (L : List S40), Below W.heap.size W W0 → W0.grownBy W1 (Value.slice A (rd_T47 l (i : Int)).f1.length c).ownBlock → Kd.S k40 40 W1 base okX v1 L →
        Kd.S k47S 47 (W1.setCell ⟨g, i * 2 + 1, none⟩ v1) base (fun _ => True) (.slice (some ⟨g, 0, none⟩) n cap) (l.set i ⟨(rd_T47 l (i : Int)).f0, L⟩) ∧ W1.grownBy (W1.setCell ⟨g, i * 2 + 1, none⟩ v1) (some g) := by
  obtain ⟨oki, c, hcl, hM, hcc, hfr, hoki, hH⟩ := Kd.S_elem h z47 (i : Int) (by omega) (by omega)
  have hgD : g < D := by
    obtain ⟨_, f, hR⟩ := hH
    exact (hR.1 g (by simp [Value.ownBlock])).1
  have hM' : k47S.M W base oki (rd_T47 l (i : Int)) c := hM
  obtain ⟨v1, rfl, g1⟩ := k47S_openM hM'
  obtain ⟨A, c1, hv, hl, hr⟩ := Kd.S_reads g1
  subst hv
  rw [Int.toNat_natCast] at hcc hfr
  refine ⟨A, c1, fun k => oki k ∨ D ≤ k, hl, hcc 0 _ rfl, hcc 1 _ rfl, hfr 0, hfr 1, fun k hk => .inr hk, Kd.S_mono g1 (fun k hk => ⟨.inl hk, Nat.not_le.2 (hoki k hk).1⟩), fun k hk => hoki k ((Kd.S_R g1).1 k hk), fun W0 W1 v1 L hb hg hS => ?_⟩
  have hH1 := Kd.H_mono (Kd.H_grown (Kd.H_below hH hb) hg (fun k hk => (Kd.S_R g1).1 k hk)) (ok' := fun k => True ∧ ¬ D ≤ k) (fun k hk => ⟨trivial, Nat.not_le.2 hk⟩)
  have := Kd.S_seg hH1 (by omega) (by omega) (seg := [v1]) (j := 1) (Nat.le_refl 2) (x' := ⟨(rd_T47 l (i : Int)).f0, L⟩) (okp := fun k => oki k ∨ D ≤ k) (k47S_mkM _ _ _ ⟨(rd_T47 l (i : Int)).f0, L⟩ hS) (fun k hk => hk) (fun k hk => ⟨trivial, by omega⟩)
  rw [Int.toNat_natCast] at this
  exact this
/-! ### what PortHear answers -/
/-- What PortHear answers. -/
def hearP (r good : Bool) (l : List S47) (m : S40) : List S47 × Int :=
  if r = false then ([], 0)
  else if good = false then (l, 0)
  else if ¬ (l.findIdx (fun p => p.f0 == m.f2) < l.length) then (l, 3)
  else if 3 ≤ (rd_T47 l (l.findIdx (fun p => p.f0 == m.f2) : Nat)).f1.length then (l, 0)
  else (l.set (l.findIdx (fun p => p.f0 == m.f2)) ⟨(rd_T47 l (l.findIdx (fun p => p.f0 == m.f2) : Nat)).f0, (rd_T47 l (l.findIdx (fun p => p.f0 == m.f2) : Nat)).f1 ++ [m]⟩, 1)
theorem hearP_no (good : Bool) (l : List S47) (m : S40) : hearP false good l m = ([], 0) := by
  unfold hearP
  rw [if_pos rfl]
theorem hearP_bad (l : List S47) (m : S40) : hearP true false l m = (l, 0) := by
  unfold hearP
  rw [if_neg (by simp), if_pos rfl]
theorem hearP_none (l : List S47) (m : S40) (h : ¬ (l.findIdx (fun p => p.f0 == m.f2) < l.length)) : hearP true true l m = (l, 3) := by
  unfold hearP
  rw [if_neg (by simp), if_neg (by simp), if_pos h]
theorem hearP_full (l : List S47) (m : S40) {p : Nat} (h : l.findIdx (fun p => p.f0 == m.f2) = p) (hp : p < l.length) (h3 : 3 ≤ (rd_T47 l (p : Int)).f1.length) : hearP true true l m = (l, 0) := by
  unfold hearP
  rw [if_neg (by simp), if_neg (by simp), h, if_neg (by omega), if_pos h3]
theorem hearP_put (l : List S47) (m : S40) {p : Nat} {N : Int} {L : List S40} (h : l.findIdx (fun p => p.f0 == m.f2) = p) (hp : p < l.length) (e : rd_T47 l (p : Int) = ⟨N, L⟩) (h3 : ¬ 3 ≤ L.length) : hearP true true l m = (l.set p ⟨N, L ++ [m]⟩, 1) := by
  unfold hearP
  rw [if_neg (by simp), if_neg (by simp), h, e, if_neg (by omega), if_neg h3]
theorem small47_hear {l : List S47} (h : small47 l) {p : Nat} {N : Int} {m : S40} {L : List S40} (hp : p < l.length) (e : rd_T47 l (p : Int) = ⟨N, L⟩) (hL : L.length ≤ 999) (hm : m.f3.length ≤ 1000) : small47 (l.set p ⟨N, L ++ [m]⟩) := by
  obtain ⟨h1, h2⟩ := h
  refine ⟨by rw [List.length_set]; exact h1, fun q hq => ?_⟩
  rcases List.mem_or_eq_of_mem_set hq with h3 | h3
  · exact h2 q h3
  · have h4 := h2 _ (rd47_mem l p hp)
    rw [e] at h4
    subst h3
    refine ⟨by show (L ++ [m]).length ≤ 1000; rw [List.length_append, List.length_singleton]; omega, fun x hx => ?_⟩
    rcases List.mem_append.1 hx with hx | hx
    · exact h4.2 x hx
    · rw [List.mem_singleton.1 hx]
      exact hm
theorem slice_any {α : Type} {d : Kd α} {e : Nat} {w : World} {base : Nat} {ok : Nat → Prop} {v : Value} {xs : List α} (h : Kd.S d e w base ok v xs) : ∃ A n c, v = .slice A n c := by
  obtain ⟨A, c, h⟩ := Kd.S_slice h
  exact ⟨A, _, c, h⟩
theorem row_of {v : Value} {A A' : Option Addr} {n n' c c' : Nat} (h : Value.slice A n c = Value.slice A' n' c') : A = A' ∧ c = c' := by
  injection h with h1 h2 h3
  exact ⟨h1, h3⟩
/-! ### spec.PortHear -/
set_option maxHeartbeats 40000000 in
set_option maxRecDepth 100000 in
theorem specHear (kf : Nat) (A0 : Option Addr) (c0 : Nat) (l0 : List S47) (a1 p0 p1 p2 p3 p4 p5 : Int) (p6 p7 : Bool) (Ad : Option Addr) (cd : Nat) (D : List Int) (r pk mok good : Bool) (mf mg mt : Int) (md : List Int) (w : World) (hr0 : Kd.C k47 w A0 l0.length l0) (hc0 : l0.length ≤ c0) (hrD : Kd.C (Kd.int .u8) w Ad D.length D) (hcD : D.length ≤ cd) (hok : spec_PortsOk.f kf l0 = some r) (hs : r = true → small47 l0 ∧ ∀ p ∈ l0, p.f1.length ≤ 3) (hpk : spec_PacketOk.f p0 p1 p2 p3 p4 p5 p6 p7 D = some pk) (hp5 : pk = true → 0 ≤ p5) (hmf : spec_MailFrom.f kf p0 p1 D = some (mf, mg, mt, md, mok)) (hmd : md.length ≤ 1000) (hgood : good = true ↔ pk = true ∧ p2 = 2 ∧ p5 = 0 ∧ p6 = false ∧ p1 = a1 ∧ mok = true) (hat : r = true → spec_l9At.f kf l0 mt = some (if l0.findIdx (fun p => p.f0 == mt) < l0.length then (l0.findIdx (fun p => p.f0 == mt) : Int) else -1)) :
    Calls Try.prog 32 #[.slice A0 l0.length c0, .int .i64 a1, .agg #[.int .i64 p0, .int .i64 p1, .int .i64 p2, .int .i64 p3, .int .i64 p4, .int .i64 p5, .bool p6, .bool p7, .slice Ad D.length cd]] w fun e w' => ∃ (v0 : Value), e = .returned (.tuple #[v0, .int .i64 (hearP r good l0 ⟨mf, mg, mt, md⟩).2]) ∧ Kd.S k47S 47 w' w.heap.size (fun _ => True) v0 (hearP r good l0 ⟨mf, mg, mt, md⟩).1 ∧ Below w.heap.size w w' := by
  have hu47 := Try.underlying47
  have hu40 := Try.underlying40
  have hu52 := Try.underlying52
  have HR := mk_ hr0
  have HC0 := mk_ hc0
  have HRD := mk_ hrD
  have HCD := mk_ hcD
  have HI40 := mk_ info40
  have HOK := mk_ hok
  have HS := mk_ hs
  have HPK := mk_ hpk
  have HMF := mk_ hmf
  have HMD := mk_ hmd
  have HGD := mk_ hgood
  clear hr0 hc0 hrD hcD hok hs hpk hmf hmd hgood
  have HP5 := mk_ hp5
  have HAT := mk_ hat
  clear hp5 hat
  cases r with
  | false =>
    rw [hearP_no]
    go_enter Try.func32, Try.ntmps32
    go_wp2_with (first | ((with_reducible refine gate_dst (N := 5) rfl ?_); refine box_event ?hg (N := 5) ?hd (cs := #[.int .i64 p0, .int .i64 p1, .int .i64 p2, .int .i64 p3, .int .i64 p4, .int .i64 p5, .bool p6, .bool p7, .slice Ad D.length cd]) (t := 52) ?hr ?_; (case hd => rfl); (case hg => rfl); (case hr => first | (go_simp; done) | (go_simp; rfl)); intro gb hg w2 hbox hb; have HG := mk_ (show w.heap.size ≤ gb from Nat.le_of_eq hg.symm); have HX2 := mk_ hbox; have HB2 := mk_ hb; have ge1 := ge_ HG.out; clear hb hbox hg) | (go_at_call 12; (with_reducible refine (spec_PortsOk.calls kf A0 c0 l0 false _ ?s1 ?s2 HOK.out).mono ?_); (case s1 => exact Kd.C_below HR.out (us_ HB2.out)); (case s2 => exact HC0.out); rintro e w3 ⟨rfl, hb⟩; have HX3 := mk_ (blk_below (u_ HX2.out) hb); have HB3 := mk_ (below_step (us_ HB2.out) hb); clear hb) | ((with_reducible refine gate_dst (N := 15) rfl ?_); refine Kd.S_lit k47S (w0 := w) w.heap.size 47 ?hg (N := 15) ?hd (xs := ([] : List S47)) (inner := []) (ok := fun _ => True) (okp := fun _ => True) ?hr ?hp (fun _ hk => hk) trivial HB3.out HB3.out.size (by simp) ?_; (case hd => rfl); (case hg => rfl); (case hr => first | (go_simp; done) | (go_simp; rfl)); (case hp => exact (Reps.none _ _)); intro v1 w1 ho hb hg_ hnew_; have HO := mk_ ho; have HB := mk_ hb; clear ho hb hg_ hnew_))
    go_wp2
    go_ret2
    exact ⟨_, rfl, HO.out, us_ HB.out⟩
  | true =>
    obtain ⟨hsm, hrow3⟩ := HS.out rfl
    have HSM := mk_ hsm
    have HR3 := mk_ hrow3
    have HAT1 := mk_ (HAT.out rfl)
    clear hsm hrow3 HS HAT
    have hways : (pk = false ∨ (pk = true ∧ p2 ≠ 2) ∨ (pk = true ∧ p2 = 2 ∧ p1 ≠ a1) ∨ (pk = true ∧ p2 = 2 ∧ p1 = a1 ∧ p5 ≠ 0) ∨ (pk = true ∧ p2 = 2 ∧ p1 = a1 ∧ p5 = 0 ∧ p6 = true) ∨ (pk = true ∧ p2 = 2 ∧ p1 = a1 ∧ p5 = 0 ∧ p6 = false ∧ mok = false)) ∨ (pk = true ∧ p2 = 2 ∧ p1 = a1 ∧ p5 = 0 ∧ p6 = false ∧ mok = true) := by
      clear HR HC0 HRD HCD HOK HPK HMF HMD HGD HSM HR3 HAT1 HP5
      cases pk <;> cases p6 <;> cases mok <;> by_cases h2 : p2 = 2 <;> by_cases h5 : p5 = 0 <;> by_cases h1 : p1 = a1 <;> simp [h2, h5, h1]
    rcases hways with hbad | ⟨rfl, rfl, rfl, rfl, rfl, rfl⟩
    · have hg : good = false := by
        clear HR HC0 HRD HCD HOK HPK HMF HMD HSM HR3 HAT1 HP5
        have := HGD.out
        cases good with
        | false => rfl
        | true =>
          obtain ⟨h1, h2, h5, h6, h7, h8⟩ := this.1 rfl
          rcases hbad with h | h | h | h | h | h
          · rw [h1] at h; cases h
          · exact absurd h2 h.2
          · exact absurd h7 h.2.2
          · exact absurd h5 h.2.2.2
          · rw [h6] at h; cases h.2.2.2.2
          · rw [h8] at h; cases h.2.2.2.2.2
      subst hg
      rw [hearP_bad]
      clear HGD
      rcases hbad with rfl | ⟨rfl, h2⟩ | ⟨rfl, rfl, h1⟩ | ⟨rfl, rfl, rfl, h5⟩ | ⟨rfl, rfl, rfl, rfl, rfl⟩ | ⟨rfl, rfl, rfl, rfl, rfl, rfl⟩
      · go_enter Try.func32, Try.ntmps32
        go_wp2_with (first | ((with_reducible refine gate_dst (N := 5) rfl ?_); refine box_event ?hg (N := 5) ?hd (cs := #[.int .i64 p0, .int .i64 p1, .int .i64 p2, .int .i64 p3, .int .i64 p4, .int .i64 p5, .bool p6, .bool p7, .slice Ad D.length cd]) (t := 52) ?hr ?_; (case hd => rfl); (case hg => rfl); (case hr => first | (go_simp; done) | (go_simp; rfl)); intro gb hg w2 hbox hb; have HG := mk_ (show w.heap.size ≤ gb from Nat.le_of_eq hg.symm); have HX2 := mk_ hbox; have HB2 := mk_ hb; have ge1 := ge_ HG.out; clear hb hbox hg) | (go_at_call 12; (with_reducible refine (spec_PortsOk.calls kf A0 c0 l0 true _ ?s1 ?s2 HOK.out).mono ?_); (case s1 => exact Kd.C_below HR.out (us_ HB2.out)); (case s2 => exact HC0.out); rintro e w3 ⟨rfl, hb⟩; have HX3 := mk_ (blk_below (u_ HX2.out) hb); have HB3 := mk_ (below_step (us_ HB2.out) hb); clear hb) | (go_at_call 52; (with_reducible refine (l9Copy_apart A0 c0 l0 _ ?s1 ?s2).mono ?_); (case s1 => exact Kd.C_below HR.out HB3.out); (case s2 => exact HSM.out); rintro e w4 ⟨A7, c7, rfl, ho, hb⟩; have HX4 := mk_ (blk_below HX3.out hb); have HL3 := mk_ (blk_lt HX3.out); have HO4 := mk_ (Kd.S_lower (Kd.S_mono (Kd.S_elder ho) (fun k hk => (hk.2 : k < w4.heap.size))) HB3.out.size); have HB4 := mk_ (below_step HB3.out hb); have H34 := mk_ hb.size; obtain ⟨y0_, y1_, y2_, y3_, y4_, y5_, y6_, y7_, y8_, y9_, y10_, y11_, y12_, y13_, y14_, y15_, y16_, y17_⟩ := cells9_ HX4.out; clear ho hb) | (go_at_call 64; (with_reducible refine (spec_MailFrom.calls kf p0 p1 Ad cd D mf mg mt md mok _ ?s1 ?s2 HMF.out).mono ?_); (case s1 => exact Kd.C_below HRD.out HB4.out); (case s2 => exact HCD.out); rintro e w5 ⟨v9, rfl, hmr, hb⟩; obtain ⟨A9, c9, hv9⟩ := Kd.R_slice hmr; subst hv9; have HV5 := mk_ (Kd.R_mono (Kd.R_elder0 (Kd.R_fresh hmr)) (fun k hk => (⟨hk.1.2, hk.2⟩ : w4.heap.size ≤ k ∧ k < w5.heap.size))); clear hmr; have HX5 := mk_ (blk_below HX4.out hb); have HO5 := mk_ (Kd.S_below HO4.out hb); have HB5 := mk_ (below_step HB4.out hb); have H45 := mk_ hb.size; (try clear y0_ y1_ y2_ y3_ y4_ y5_ y6_ y7_ y8_ y9_ y10_ y11_ y12_ y13_ y14_ y15_ y16_ y17_); obtain ⟨y0_, y1_, y2_, y3_, y4_, y5_, y6_, y7_, y8_, y9_, y10_, y11_, y12_, y13_, y14_, y15_, y16_, y17_⟩ := cells9_ HX5.out; clear hb) | ((with_reducible refine gate_dst (N := 9) rfl ?_); refine box_event ?hg (N := 9) ?hd (cs := #[.int .i64 0, .int .i64 0, .int .i64 0, .slice none 0 0]) (t := 40) ?hr ?_; (case hd => rfl); (case hg => rfl); (case hr => first | (go_simp; done) | (go_simp; rfl)); intro gm hgm w6 hboxm hbm; have HGM := mk_ (show w5.heap.size ≤ gm from Nat.le_of_eq hgm.symm); have hgw6 : gb ≠ gm := Nat.ne_of_lt (Nat.lt_of_lt_of_le (blk_lt HX5.out) HGM.out); have gem := ge_ HGM.out; obtain ⟨b0_, b1_, b2_, b3_, b4_, b5_, b6_, b7_⟩ := cells4_ hboxm; have HX6 := mk_ (box_far4 (blk_below HX5.out hbm) hgw6 (.int .i64 mf) (.int .i64 mg) (.int .i64 mt) (.slice A9 md.length c9)); have HM6 := mk_ (inn47_box4 hboxm (a := mf) (f := mg) (t := mt) (v3 := .slice A9 md.length c9)); have HO6 := mk_ (S_box4 (Kd.S_below HO5.out hbm) (fun k hk => (by have h1_ := HGM.out; have h2_ := H45.out; have h3_ : k < w4.heap.size := hk; omega : k ≠ gm)) (.int .i64 mf) (.int .i64 mg) (.int .i64 mt) (.slice A9 md.length c9)); have HV6 := mk_ (R_box4 (Kd.R_below HV5.out hbm) (fun k hk => (by have h1_ := HGM.out; have h2_ := hk.2; omega : k ≠ gm)) (.int .i64 mf) (.int .i64 mg) (.int .i64 mt) (.slice A9 md.length c9)); have HB6 := mk_ (below_box4 (below_step HB5.out hbm) (Nat.le_trans HB5.out.size HGM.out) (.int .i64 mf) (.int .i64 mg) (.int .i64 mt) (.slice A9 md.length c9)); have H56 := mk_ (by rw [setCell_size, setCell_size, setCell_size, setCell_size]; exact hbm.size : w5.heap.size ≤ ((((w6.setCell ⟨gm, 0, none⟩ (.int .i64 mf)).setCell ⟨gm, 1, none⟩ (.int .i64 mg)).setCell ⟨gm, 2, none⟩ (.int .i64 mt)).setCell ⟨gm, 3, none⟩ (.slice A9 md.length c9)).heap.size); (try clear y0_ y1_ y2_ y3_ y4_ y5_ y6_ y7_ y8_ y9_ y10_ y11_ y12_ y13_ y14_ y15_ y16_ y17_); obtain ⟨x0_, x1_, x2_, x3_, x4_, x5_, x6_, x7_⟩ := cells4_ HM6.out; obtain ⟨y0_, y1_, y2_, y3_, y4_, y5_, y6_, y7_, y8_, y9_, y10_, y11_, y12_, y13_, y14_, y15_, y16_, y17_⟩ := cells9_ HX6.out; clear hboxm hbm hgm) | (go_at_call 65; (with_reducible refine (spec_PacketOk.calls p0 p1 p2 p3 p4 p5 p6 p7 Ad cd D false _ ?s1 ?s2 HPK.out).mono ?_); (case s1 => exact Kd.C_below HRD.out HB6.out); (case s2 => exact HCD.out); rintro e w7 ⟨rfl, hb⟩; have HM7 := mk_ (blk_below HM6.out hb); have HV7 := mk_ (Kd.R_below HV6.out hb); (try clear x0_ x1_ x2_ x3_ x4_ x5_ x6_ x7_); (try clear b0_ b1_ b2_ b3_ b4_ b5_ b6_ b7_); have HX7 := mk_ (blk_below HX6.out hb); have HO7 := mk_ (Kd.S_below HO6.out hb); have HB7 := mk_ (below_step HB6.out hb); have H67 := mk_ hb.size; (try clear y0_ y1_ y2_ y3_ y4_ y5_ y6_ y7_ y8_ y9_ y10_ y11_ y12_ y13_ y14_ y15_ y16_ y17_); obtain ⟨y0_, y1_, y2_, y3_, y4_, y5_, y6_, y7_, y8_, y9_, y10_, y11_, y12_, y13_, y14_, y15_, y16_, y17_⟩ := cells9_ HX7.out; obtain ⟨x0_, x1_, x2_, x3_, x4_, x5_, x6_, x7_⟩ := cells4_ HM7.out; clear hb))
        go_wp2
        go_ret2
        exact ⟨_, rfl, Kd.S_mono HO7.out (fun _ _ => trivial), us_ HB7.out⟩
      · go_enter Try.func32, Try.ntmps32
        go_wp2_with (first | ((with_reducible refine gate_dst (N := 5) rfl ?_); refine box_event ?hg (N := 5) ?hd (cs := #[.int .i64 p0, .int .i64 p1, .int .i64 p2, .int .i64 p3, .int .i64 p4, .int .i64 p5, .bool p6, .bool p7, .slice Ad D.length cd]) (t := 52) ?hr ?_; (case hd => rfl); (case hg => rfl); (case hr => first | (go_simp; done) | (go_simp; rfl)); intro gb hg w2 hbox hb; have HG := mk_ (show w.heap.size ≤ gb from Nat.le_of_eq hg.symm); have HX2 := mk_ hbox; have HB2 := mk_ hb; have ge1 := ge_ HG.out; clear hb hbox hg) | (go_at_call 12; (with_reducible refine (spec_PortsOk.calls kf A0 c0 l0 true _ ?s1 ?s2 HOK.out).mono ?_); (case s1 => exact Kd.C_below HR.out (us_ HB2.out)); (case s2 => exact HC0.out); rintro e w3 ⟨rfl, hb⟩; have HX3 := mk_ (blk_below (u_ HX2.out) hb); have HB3 := mk_ (below_step (us_ HB2.out) hb); clear hb) | (go_at_call 52; (with_reducible refine (l9Copy_apart A0 c0 l0 _ ?s1 ?s2).mono ?_); (case s1 => exact Kd.C_below HR.out HB3.out); (case s2 => exact HSM.out); rintro e w4 ⟨A7, c7, rfl, ho, hb⟩; have HX4 := mk_ (blk_below HX3.out hb); have HL3 := mk_ (blk_lt HX3.out); have HO4 := mk_ (Kd.S_lower (Kd.S_mono (Kd.S_elder ho) (fun k hk => (hk.2 : k < w4.heap.size))) HB3.out.size); have HB4 := mk_ (below_step HB3.out hb); have H34 := mk_ hb.size; obtain ⟨y0_, y1_, y2_, y3_, y4_, y5_, y6_, y7_, y8_, y9_, y10_, y11_, y12_, y13_, y14_, y15_, y16_, y17_⟩ := cells9_ HX4.out; clear ho hb) | (go_at_call 64; (with_reducible refine (spec_MailFrom.calls kf p0 p1 Ad cd D mf mg mt md mok _ ?s1 ?s2 HMF.out).mono ?_); (case s1 => exact Kd.C_below HRD.out HB4.out); (case s2 => exact HCD.out); rintro e w5 ⟨v9, rfl, hmr, hb⟩; obtain ⟨A9, c9, hv9⟩ := Kd.R_slice hmr; subst hv9; have HV5 := mk_ (Kd.R_mono (Kd.R_elder0 (Kd.R_fresh hmr)) (fun k hk => (⟨hk.1.2, hk.2⟩ : w4.heap.size ≤ k ∧ k < w5.heap.size))); clear hmr; have HX5 := mk_ (blk_below HX4.out hb); have HO5 := mk_ (Kd.S_below HO4.out hb); have HB5 := mk_ (below_step HB4.out hb); have H45 := mk_ hb.size; (try clear y0_ y1_ y2_ y3_ y4_ y5_ y6_ y7_ y8_ y9_ y10_ y11_ y12_ y13_ y14_ y15_ y16_ y17_); obtain ⟨y0_, y1_, y2_, y3_, y4_, y5_, y6_, y7_, y8_, y9_, y10_, y11_, y12_, y13_, y14_, y15_, y16_, y17_⟩ := cells9_ HX5.out; clear hb) | ((with_reducible refine gate_dst (N := 9) rfl ?_); refine box_event ?hg (N := 9) ?hd (cs := #[.int .i64 0, .int .i64 0, .int .i64 0, .slice none 0 0]) (t := 40) ?hr ?_; (case hd => rfl); (case hg => rfl); (case hr => first | (go_simp; done) | (go_simp; rfl)); intro gm hgm w6 hboxm hbm; have HGM := mk_ (show w5.heap.size ≤ gm from Nat.le_of_eq hgm.symm); have hgw6 : gb ≠ gm := Nat.ne_of_lt (Nat.lt_of_lt_of_le (blk_lt HX5.out) HGM.out); have gem := ge_ HGM.out; obtain ⟨b0_, b1_, b2_, b3_, b4_, b5_, b6_, b7_⟩ := cells4_ hboxm; have HX6 := mk_ (box_far4 (blk_below HX5.out hbm) hgw6 (.int .i64 mf) (.int .i64 mg) (.int .i64 mt) (.slice A9 md.length c9)); have HM6 := mk_ (inn47_box4 hboxm (a := mf) (f := mg) (t := mt) (v3 := .slice A9 md.length c9)); have HO6 := mk_ (S_box4 (Kd.S_below HO5.out hbm) (fun k hk => (by have h1_ := HGM.out; have h2_ := H45.out; have h3_ : k < w4.heap.size := hk; omega : k ≠ gm)) (.int .i64 mf) (.int .i64 mg) (.int .i64 mt) (.slice A9 md.length c9)); have HV6 := mk_ (R_box4 (Kd.R_below HV5.out hbm) (fun k hk => (by have h1_ := HGM.out; have h2_ := hk.2; omega : k ≠ gm)) (.int .i64 mf) (.int .i64 mg) (.int .i64 mt) (.slice A9 md.length c9)); have HB6 := mk_ (below_box4 (below_step HB5.out hbm) (Nat.le_trans HB5.out.size HGM.out) (.int .i64 mf) (.int .i64 mg) (.int .i64 mt) (.slice A9 md.length c9)); have H56 := mk_ (by rw [setCell_size, setCell_size, setCell_size, setCell_size]; exact hbm.size : w5.heap.size ≤ ((((w6.setCell ⟨gm, 0, none⟩ (.int .i64 mf)).setCell ⟨gm, 1, none⟩ (.int .i64 mg)).setCell ⟨gm, 2, none⟩ (.int .i64 mt)).setCell ⟨gm, 3, none⟩ (.slice A9 md.length c9)).heap.size); (try clear y0_ y1_ y2_ y3_ y4_ y5_ y6_ y7_ y8_ y9_ y10_ y11_ y12_ y13_ y14_ y15_ y16_ y17_); obtain ⟨x0_, x1_, x2_, x3_, x4_, x5_, x6_, x7_⟩ := cells4_ HM6.out; obtain ⟨y0_, y1_, y2_, y3_, y4_, y5_, y6_, y7_, y8_, y9_, y10_, y11_, y12_, y13_, y14_, y15_, y16_, y17_⟩ := cells9_ HX6.out; clear hboxm hbm hgm) | (go_at_call 65; (with_reducible refine (spec_PacketOk.calls p0 p1 p2 p3 p4 p5 p6 p7 Ad cd D true _ ?s1 ?s2 HPK.out).mono ?_); (case s1 => exact Kd.C_below HRD.out HB6.out); (case s2 => exact HCD.out); rintro e w7 ⟨rfl, hb⟩; have HM7 := mk_ (blk_below HM6.out hb); have HV7 := mk_ (Kd.R_below HV6.out hb); (try clear x0_ x1_ x2_ x3_ x4_ x5_ x6_ x7_); (try clear b0_ b1_ b2_ b3_ b4_ b5_ b6_ b7_); have HX7 := mk_ (blk_below HX6.out hb); have HO7 := mk_ (Kd.S_below HO6.out hb); have HB7 := mk_ (below_step HB6.out hb); have H67 := mk_ hb.size; (try clear y0_ y1_ y2_ y3_ y4_ y5_ y6_ y7_ y8_ y9_ y10_ y11_ y12_ y13_ y14_ y15_ y16_ y17_); obtain ⟨y0_, y1_, y2_, y3_, y4_, y5_, y6_, y7_, y8_, y9_, y10_, y11_, y12_, y13_, y14_, y15_, y16_, y17_⟩ := cells9_ HX7.out; obtain ⟨x0_, x1_, x2_, x3_, x4_, x5_, x6_, x7_⟩ := cells4_ HM7.out; clear hb))
        go_wp2
        go_ret2
        exact ⟨_, rfl, Kd.S_mono HO7.out (fun _ _ => trivial), us_ HB7.out⟩
      · go_enter Try.func32, Try.ntmps32
        go_wp2_with (first | ((with_reducible refine gate_dst (N := 5) rfl ?_); refine box_event ?hg (N := 5) ?hd (cs := #[.int .i64 p0, .int .i64 p1, .int .i64 2, .int .i64 p3, .int .i64 p4, .int .i64 p5, .bool p6, .bool p7, .slice Ad D.length cd]) (t := 52) ?hr ?_; (case hd => rfl); (case hg => rfl); (case hr => first | (go_simp; done) | (go_simp; rfl)); intro gb hg w2 hbox hb; have HG := mk_ (show w.heap.size ≤ gb from Nat.le_of_eq hg.symm); have HX2 := mk_ hbox; have HB2 := mk_ hb; have ge1 := ge_ HG.out; clear hb hbox hg) | (go_at_call 12; (with_reducible refine (spec_PortsOk.calls kf A0 c0 l0 true _ ?s1 ?s2 HOK.out).mono ?_); (case s1 => exact Kd.C_below HR.out (us_ HB2.out)); (case s2 => exact HC0.out); rintro e w3 ⟨rfl, hb⟩; have HX3 := mk_ (blk_below (u_ HX2.out) hb); have HB3 := mk_ (below_step (us_ HB2.out) hb); clear hb) | (go_at_call 52; (with_reducible refine (l9Copy_apart A0 c0 l0 _ ?s1 ?s2).mono ?_); (case s1 => exact Kd.C_below HR.out HB3.out); (case s2 => exact HSM.out); rintro e w4 ⟨A7, c7, rfl, ho, hb⟩; have HX4 := mk_ (blk_below HX3.out hb); have HL3 := mk_ (blk_lt HX3.out); have HO4 := mk_ (Kd.S_lower (Kd.S_mono (Kd.S_elder ho) (fun k hk => (hk.2 : k < w4.heap.size))) HB3.out.size); have HB4 := mk_ (below_step HB3.out hb); have H34 := mk_ hb.size; obtain ⟨y0_, y1_, y2_, y3_, y4_, y5_, y6_, y7_, y8_, y9_, y10_, y11_, y12_, y13_, y14_, y15_, y16_, y17_⟩ := cells9_ HX4.out; clear ho hb) | (go_at_call 64; (with_reducible refine (spec_MailFrom.calls kf p0 p1 Ad cd D mf mg mt md mok _ ?s1 ?s2 HMF.out).mono ?_); (case s1 => exact Kd.C_below HRD.out HB4.out); (case s2 => exact HCD.out); rintro e w5 ⟨v9, rfl, hmr, hb⟩; obtain ⟨A9, c9, hv9⟩ := Kd.R_slice hmr; subst hv9; have HV5 := mk_ (Kd.R_mono (Kd.R_elder0 (Kd.R_fresh hmr)) (fun k hk => (⟨hk.1.2, hk.2⟩ : w4.heap.size ≤ k ∧ k < w5.heap.size))); clear hmr; have HX5 := mk_ (blk_below HX4.out hb); have HO5 := mk_ (Kd.S_below HO4.out hb); have HB5 := mk_ (below_step HB4.out hb); have H45 := mk_ hb.size; (try clear y0_ y1_ y2_ y3_ y4_ y5_ y6_ y7_ y8_ y9_ y10_ y11_ y12_ y13_ y14_ y15_ y16_ y17_); obtain ⟨y0_, y1_, y2_, y3_, y4_, y5_, y6_, y7_, y8_, y9_, y10_, y11_, y12_, y13_, y14_, y15_, y16_, y17_⟩ := cells9_ HX5.out; clear hb) | ((with_reducible refine gate_dst (N := 9) rfl ?_); refine box_event ?hg (N := 9) ?hd (cs := #[.int .i64 0, .int .i64 0, .int .i64 0, .slice none 0 0]) (t := 40) ?hr ?_; (case hd => rfl); (case hg => rfl); (case hr => first | (go_simp; done) | (go_simp; rfl)); intro gm hgm w6 hboxm hbm; have HGM := mk_ (show w5.heap.size ≤ gm from Nat.le_of_eq hgm.symm); have hgw6 : gb ≠ gm := Nat.ne_of_lt (Nat.lt_of_lt_of_le (blk_lt HX5.out) HGM.out); have gem := ge_ HGM.out; obtain ⟨b0_, b1_, b2_, b3_, b4_, b5_, b6_, b7_⟩ := cells4_ hboxm; have HX6 := mk_ (box_far4 (blk_below HX5.out hbm) hgw6 (.int .i64 mf) (.int .i64 mg) (.int .i64 mt) (.slice A9 md.length c9)); have HM6 := mk_ (inn47_box4 hboxm (a := mf) (f := mg) (t := mt) (v3 := .slice A9 md.length c9)); have HO6 := mk_ (S_box4 (Kd.S_below HO5.out hbm) (fun k hk => (by have h1_ := HGM.out; have h2_ := H45.out; have h3_ : k < w4.heap.size := hk; omega : k ≠ gm)) (.int .i64 mf) (.int .i64 mg) (.int .i64 mt) (.slice A9 md.length c9)); have HV6 := mk_ (R_box4 (Kd.R_below HV5.out hbm) (fun k hk => (by have h1_ := HGM.out; have h2_ := hk.2; omega : k ≠ gm)) (.int .i64 mf) (.int .i64 mg) (.int .i64 mt) (.slice A9 md.length c9)); have HB6 := mk_ (below_box4 (below_step HB5.out hbm) (Nat.le_trans HB5.out.size HGM.out) (.int .i64 mf) (.int .i64 mg) (.int .i64 mt) (.slice A9 md.length c9)); have H56 := mk_ (by rw [setCell_size, setCell_size, setCell_size, setCell_size]; exact hbm.size : w5.heap.size ≤ ((((w6.setCell ⟨gm, 0, none⟩ (.int .i64 mf)).setCell ⟨gm, 1, none⟩ (.int .i64 mg)).setCell ⟨gm, 2, none⟩ (.int .i64 mt)).setCell ⟨gm, 3, none⟩ (.slice A9 md.length c9)).heap.size); (try clear y0_ y1_ y2_ y3_ y4_ y5_ y6_ y7_ y8_ y9_ y10_ y11_ y12_ y13_ y14_ y15_ y16_ y17_); obtain ⟨x0_, x1_, x2_, x3_, x4_, x5_, x6_, x7_⟩ := cells4_ HM6.out; obtain ⟨y0_, y1_, y2_, y3_, y4_, y5_, y6_, y7_, y8_, y9_, y10_, y11_, y12_, y13_, y14_, y15_, y16_, y17_⟩ := cells9_ HX6.out; clear hboxm hbm hgm) | (go_at_call 65; (with_reducible refine (spec_PacketOk.calls p0 p1 2 p3 p4 p5 p6 p7 Ad cd D true _ ?s1 ?s2 HPK.out).mono ?_); (case s1 => exact Kd.C_below HRD.out HB6.out); (case s2 => exact HCD.out); rintro e w7 ⟨rfl, hb⟩; have HM7 := mk_ (blk_below HM6.out hb); have HV7 := mk_ (Kd.R_below HV6.out hb); (try clear x0_ x1_ x2_ x3_ x4_ x5_ x6_ x7_); (try clear b0_ b1_ b2_ b3_ b4_ b5_ b6_ b7_); have HX7 := mk_ (blk_below HX6.out hb); have HO7 := mk_ (Kd.S_below HO6.out hb); have HB7 := mk_ (below_step HB6.out hb); have H67 := mk_ hb.size; (try clear y0_ y1_ y2_ y3_ y4_ y5_ y6_ y7_ y8_ y9_ y10_ y11_ y12_ y13_ y14_ y15_ y16_ y17_); obtain ⟨y0_, y1_, y2_, y3_, y4_, y5_, y6_, y7_, y8_, y9_, y10_, y11_, y12_, y13_, y14_, y15_, y16_, y17_⟩ := cells9_ HX7.out; obtain ⟨x0_, x1_, x2_, x3_, x4_, x5_, x6_, x7_⟩ := cells4_ HM7.out; clear hb))
        go_wp2
        go_ret2
        exact ⟨_, rfl, Kd.S_mono HO7.out (fun _ _ => trivial), us_ HB7.out⟩
      · have h5' : p5 > 0 := by have h1_ := HP5.out rfl; omega
        go_enter Try.func32, Try.ntmps32
        go_wp2_with (first | ((with_reducible refine gate_dst (N := 5) rfl ?_); refine box_event ?hg (N := 5) ?hd (cs := #[.int .i64 p0, .int .i64 p1, .int .i64 2, .int .i64 p3, .int .i64 p4, .int .i64 p5, .bool p6, .bool p7, .slice Ad D.length cd]) (t := 52) ?hr ?_; (case hd => rfl); (case hg => rfl); (case hr => first | (go_simp; done) | (go_simp; rfl)); intro gb hg w2 hbox hb; have HG := mk_ (show w.heap.size ≤ gb from Nat.le_of_eq hg.symm); have HX2 := mk_ hbox; have HB2 := mk_ hb; have ge1 := ge_ HG.out; clear hb hbox hg) | (go_at_call 12; (with_reducible refine (spec_PortsOk.calls kf A0 c0 l0 true _ ?s1 ?s2 HOK.out).mono ?_); (case s1 => exact Kd.C_below HR.out (us_ HB2.out)); (case s2 => exact HC0.out); rintro e w3 ⟨rfl, hb⟩; have HX3 := mk_ (blk_below (u_ HX2.out) hb); have HB3 := mk_ (below_step (us_ HB2.out) hb); clear hb) | (go_at_call 52; (with_reducible refine (l9Copy_apart A0 c0 l0 _ ?s1 ?s2).mono ?_); (case s1 => exact Kd.C_below HR.out HB3.out); (case s2 => exact HSM.out); rintro e w4 ⟨A7, c7, rfl, ho, hb⟩; have HX4 := mk_ (blk_below HX3.out hb); have HL3 := mk_ (blk_lt HX3.out); have HO4 := mk_ (Kd.S_lower (Kd.S_mono (Kd.S_elder ho) (fun k hk => (hk.2 : k < w4.heap.size))) HB3.out.size); have HB4 := mk_ (below_step HB3.out hb); have H34 := mk_ hb.size; obtain ⟨y0_, y1_, y2_, y3_, y4_, y5_, y6_, y7_, y8_, y9_, y10_, y11_, y12_, y13_, y14_, y15_, y16_, y17_⟩ := cells9_ HX4.out; clear ho hb) | (go_at_call 64; (with_reducible refine (spec_MailFrom.calls kf p0 p1 Ad cd D mf mg mt md mok _ ?s1 ?s2 HMF.out).mono ?_); (case s1 => exact Kd.C_below HRD.out HB4.out); (case s2 => exact HCD.out); rintro e w5 ⟨v9, rfl, hmr, hb⟩; obtain ⟨A9, c9, hv9⟩ := Kd.R_slice hmr; subst hv9; have HV5 := mk_ (Kd.R_mono (Kd.R_elder0 (Kd.R_fresh hmr)) (fun k hk => (⟨hk.1.2, hk.2⟩ : w4.heap.size ≤ k ∧ k < w5.heap.size))); clear hmr; have HX5 := mk_ (blk_below HX4.out hb); have HO5 := mk_ (Kd.S_below HO4.out hb); have HB5 := mk_ (below_step HB4.out hb); have H45 := mk_ hb.size; (try clear y0_ y1_ y2_ y3_ y4_ y5_ y6_ y7_ y8_ y9_ y10_ y11_ y12_ y13_ y14_ y15_ y16_ y17_); obtain ⟨y0_, y1_, y2_, y3_, y4_, y5_, y6_, y7_, y8_, y9_, y10_, y11_, y12_, y13_, y14_, y15_, y16_, y17_⟩ := cells9_ HX5.out; clear hb) | ((with_reducible refine gate_dst (N := 9) rfl ?_); refine box_event ?hg (N := 9) ?hd (cs := #[.int .i64 0, .int .i64 0, .int .i64 0, .slice none 0 0]) (t := 40) ?hr ?_; (case hd => rfl); (case hg => rfl); (case hr => first | (go_simp; done) | (go_simp; rfl)); intro gm hgm w6 hboxm hbm; have HGM := mk_ (show w5.heap.size ≤ gm from Nat.le_of_eq hgm.symm); have hgw6 : gb ≠ gm := Nat.ne_of_lt (Nat.lt_of_lt_of_le (blk_lt HX5.out) HGM.out); have gem := ge_ HGM.out; obtain ⟨b0_, b1_, b2_, b3_, b4_, b5_, b6_, b7_⟩ := cells4_ hboxm; have HX6 := mk_ (box_far4 (blk_below HX5.out hbm) hgw6 (.int .i64 mf) (.int .i64 mg) (.int .i64 mt) (.slice A9 md.length c9)); have HM6 := mk_ (inn47_box4 hboxm (a := mf) (f := mg) (t := mt) (v3 := .slice A9 md.length c9)); have HO6 := mk_ (S_box4 (Kd.S_below HO5.out hbm) (fun k hk => (by have h1_ := HGM.out; have h2_ := H45.out; have h3_ : k < w4.heap.size := hk; omega : k ≠ gm)) (.int .i64 mf) (.int .i64 mg) (.int .i64 mt) (.slice A9 md.length c9)); have HV6 := mk_ (R_box4 (Kd.R_below HV5.out hbm) (fun k hk => (by have h1_ := HGM.out; have h2_ := hk.2; omega : k ≠ gm)) (.int .i64 mf) (.int .i64 mg) (.int .i64 mt) (.slice A9 md.length c9)); have HB6 := mk_ (below_box4 (below_step HB5.out hbm) (Nat.le_trans HB5.out.size HGM.out) (.int .i64 mf) (.int .i64 mg) (.int .i64 mt) (.slice A9 md.length c9)); have H56 := mk_ (by rw [setCell_size, setCell_size, setCell_size, setCell_size]; exact hbm.size : w5.heap.size ≤ ((((w6.setCell ⟨gm, 0, none⟩ (.int .i64 mf)).setCell ⟨gm, 1, none⟩ (.int .i64 mg)).setCell ⟨gm, 2, none⟩ (.int .i64 mt)).setCell ⟨gm, 3, none⟩ (.slice A9 md.length c9)).heap.size); (try clear y0_ y1_ y2_ y3_ y4_ y5_ y6_ y7_ y8_ y9_ y10_ y11_ y12_ y13_ y14_ y15_ y16_ y17_); obtain ⟨x0_, x1_, x2_, x3_, x4_, x5_, x6_, x7_⟩ := cells4_ HM6.out; obtain ⟨y0_, y1_, y2_, y3_, y4_, y5_, y6_, y7_, y8_, y9_, y10_, y11_, y12_, y13_, y14_, y15_, y16_, y17_⟩ := cells9_ HX6.out; clear hboxm hbm hgm) | (go_at_call 65; (with_reducible refine (spec_PacketOk.calls p0 p1 2 p3 p4 p5 p6 p7 Ad cd D true _ ?s1 ?s2 HPK.out).mono ?_); (case s1 => exact Kd.C_below HRD.out HB6.out); (case s2 => exact HCD.out); rintro e w7 ⟨rfl, hb⟩; have HM7 := mk_ (blk_below HM6.out hb); have HV7 := mk_ (Kd.R_below HV6.out hb); (try clear x0_ x1_ x2_ x3_ x4_ x5_ x6_ x7_); (try clear b0_ b1_ b2_ b3_ b4_ b5_ b6_ b7_); have HX7 := mk_ (blk_below HX6.out hb); have HO7 := mk_ (Kd.S_below HO6.out hb); have HB7 := mk_ (below_step HB6.out hb); have H67 := mk_ hb.size; (try clear y0_ y1_ y2_ y3_ y4_ y5_ y6_ y7_ y8_ y9_ y10_ y11_ y12_ y13_ y14_ y15_ y16_ y17_); obtain ⟨y0_, y1_, y2_, y3_, y4_, y5_, y6_, y7_, y8_, y9_, y10_, y11_, y12_, y13_, y14_, y15_, y16_, y17_⟩ := cells9_ HX7.out; obtain ⟨x0_, x1_, x2_, x3_, x4_, x5_, x6_, x7_⟩ := cells4_ HM7.out; clear hb))
        go_wp2
        go_ret2
        exact ⟨_, rfl, Kd.S_mono HO7.out (fun _ _ => trivial), us_ HB7.out⟩
      · go_enter Try.func32, Try.ntmps32
        go_wp2_with (first | ((with_reducible refine gate_dst (N := 5) rfl ?_); refine box_event ?hg (N := 5) ?hd (cs := #[.int .i64 p0, .int .i64 p1, .int .i64 2, .int .i64 p3, .int .i64 p4, .int .i64 0, .bool true, .bool p7, .slice Ad D.length cd]) (t := 52) ?hr ?_; (case hd => rfl); (case hg => rfl); (case hr => first | (go_simp; done) | (go_simp; rfl)); intro gb hg w2 hbox hb; have HG := mk_ (show w.heap.size ≤ gb from Nat.le_of_eq hg.symm); have HX2 := mk_ hbox; have HB2 := mk_ hb; have ge1 := ge_ HG.out; clear hb hbox hg) | (go_at_call 12; (with_reducible refine (spec_PortsOk.calls kf A0 c0 l0 true _ ?s1 ?s2 HOK.out).mono ?_); (case s1 => exact Kd.C_below HR.out (us_ HB2.out)); (case s2 => exact HC0.out); rintro e w3 ⟨rfl, hb⟩; have HX3 := mk_ (blk_below (u_ HX2.out) hb); have HB3 := mk_ (below_step (us_ HB2.out) hb); clear hb) | (go_at_call 52; (with_reducible refine (l9Copy_apart A0 c0 l0 _ ?s1 ?s2).mono ?_); (case s1 => exact Kd.C_below HR.out HB3.out); (case s2 => exact HSM.out); rintro e w4 ⟨A7, c7, rfl, ho, hb⟩; have HX4 := mk_ (blk_below HX3.out hb); have HL3 := mk_ (blk_lt HX3.out); have HO4 := mk_ (Kd.S_lower (Kd.S_mono (Kd.S_elder ho) (fun k hk => (hk.2 : k < w4.heap.size))) HB3.out.size); have HB4 := mk_ (below_step HB3.out hb); have H34 := mk_ hb.size; obtain ⟨y0_, y1_, y2_, y3_, y4_, y5_, y6_, y7_, y8_, y9_, y10_, y11_, y12_, y13_, y14_, y15_, y16_, y17_⟩ := cells9_ HX4.out; clear ho hb) | (go_at_call 64; (with_reducible refine (spec_MailFrom.calls kf p0 p1 Ad cd D mf mg mt md mok _ ?s1 ?s2 HMF.out).mono ?_); (case s1 => exact Kd.C_below HRD.out HB4.out); (case s2 => exact HCD.out); rintro e w5 ⟨v9, rfl, hmr, hb⟩; obtain ⟨A9, c9, hv9⟩ := Kd.R_slice hmr; subst hv9; have HV5 := mk_ (Kd.R_mono (Kd.R_elder0 (Kd.R_fresh hmr)) (fun k hk => (⟨hk.1.2, hk.2⟩ : w4.heap.size ≤ k ∧ k < w5.heap.size))); clear hmr; have HX5 := mk_ (blk_below HX4.out hb); have HO5 := mk_ (Kd.S_below HO4.out hb); have HB5 := mk_ (below_step HB4.out hb); have H45 := mk_ hb.size; (try clear y0_ y1_ y2_ y3_ y4_ y5_ y6_ y7_ y8_ y9_ y10_ y11_ y12_ y13_ y14_ y15_ y16_ y17_); obtain ⟨y0_, y1_, y2_, y3_, y4_, y5_, y6_, y7_, y8_, y9_, y10_, y11_, y12_, y13_, y14_, y15_, y16_, y17_⟩ := cells9_ HX5.out; clear hb) | ((with_reducible refine gate_dst (N := 9) rfl ?_); refine box_event ?hg (N := 9) ?hd (cs := #[.int .i64 0, .int .i64 0, .int .i64 0, .slice none 0 0]) (t := 40) ?hr ?_; (case hd => rfl); (case hg => rfl); (case hr => first | (go_simp; done) | (go_simp; rfl)); intro gm hgm w6 hboxm hbm; have HGM := mk_ (show w5.heap.size ≤ gm from Nat.le_of_eq hgm.symm); have hgw6 : gb ≠ gm := Nat.ne_of_lt (Nat.lt_of_lt_of_le (blk_lt HX5.out) HGM.out); have gem := ge_ HGM.out; obtain ⟨b0_, b1_, b2_, b3_, b4_, b5_, b6_, b7_⟩ := cells4_ hboxm; have HX6 := mk_ (box_far4 (blk_below HX5.out hbm) hgw6 (.int .i64 mf) (.int .i64 mg) (.int .i64 mt) (.slice A9 md.length c9)); have HM6 := mk_ (inn47_box4 hboxm (a := mf) (f := mg) (t := mt) (v3 := .slice A9 md.length c9)); have HO6 := mk_ (S_box4 (Kd.S_below HO5.out hbm) (fun k hk => (by have h1_ := HGM.out; have h2_ := H45.out; have h3_ : k < w4.heap.size := hk; omega : k ≠ gm)) (.int .i64 mf) (.int .i64 mg) (.int .i64 mt) (.slice A9 md.length c9)); have HV6 := mk_ (R_box4 (Kd.R_below HV5.out hbm) (fun k hk => (by have h1_ := HGM.out; have h2_ := hk.2; omega : k ≠ gm)) (.int .i64 mf) (.int .i64 mg) (.int .i64 mt) (.slice A9 md.length c9)); have HB6 := mk_ (below_box4 (below_step HB5.out hbm) (Nat.le_trans HB5.out.size HGM.out) (.int .i64 mf) (.int .i64 mg) (.int .i64 mt) (.slice A9 md.length c9)); have H56 := mk_ (by rw [setCell_size, setCell_size, setCell_size, setCell_size]; exact hbm.size : w5.heap.size ≤ ((((w6.setCell ⟨gm, 0, none⟩ (.int .i64 mf)).setCell ⟨gm, 1, none⟩ (.int .i64 mg)).setCell ⟨gm, 2, none⟩ (.int .i64 mt)).setCell ⟨gm, 3, none⟩ (.slice A9 md.length c9)).heap.size); (try clear y0_ y1_ y2_ y3_ y4_ y5_ y6_ y7_ y8_ y9_ y10_ y11_ y12_ y13_ y14_ y15_ y16_ y17_); obtain ⟨x0_, x1_, x2_, x3_, x4_, x5_, x6_, x7_⟩ := cells4_ HM6.out; obtain ⟨y0_, y1_, y2_, y3_, y4_, y5_, y6_, y7_, y8_, y9_, y10_, y11_, y12_, y13_, y14_, y15_, y16_, y17_⟩ := cells9_ HX6.out; clear hboxm hbm hgm) | (go_at_call 65; (with_reducible refine (spec_PacketOk.calls p0 p1 2 p3 p4 0 true p7 Ad cd D true _ ?s1 ?s2 HPK.out).mono ?_); (case s1 => exact Kd.C_below HRD.out HB6.out); (case s2 => exact HCD.out); rintro e w7 ⟨rfl, hb⟩; have HM7 := mk_ (blk_below HM6.out hb); have HV7 := mk_ (Kd.R_below HV6.out hb); (try clear x0_ x1_ x2_ x3_ x4_ x5_ x6_ x7_); (try clear b0_ b1_ b2_ b3_ b4_ b5_ b6_ b7_); have HX7 := mk_ (blk_below HX6.out hb); have HO7 := mk_ (Kd.S_below HO6.out hb); have HB7 := mk_ (below_step HB6.out hb); have H67 := mk_ hb.size; (try clear y0_ y1_ y2_ y3_ y4_ y5_ y6_ y7_ y8_ y9_ y10_ y11_ y12_ y13_ y14_ y15_ y16_ y17_); obtain ⟨y0_, y1_, y2_, y3_, y4_, y5_, y6_, y7_, y8_, y9_, y10_, y11_, y12_, y13_, y14_, y15_, y16_, y17_⟩ := cells9_ HX7.out; obtain ⟨x0_, x1_, x2_, x3_, x4_, x5_, x6_, x7_⟩ := cells4_ HM7.out; clear hb))
        go_wp2
        go_ret2
        exact ⟨_, rfl, Kd.S_mono HO7.out (fun _ _ => trivial), us_ HB7.out⟩
      · go_enter Try.func32, Try.ntmps32
        go_wp2_with (first | ((with_reducible refine gate_dst (N := 5) rfl ?_); refine box_event ?hg (N := 5) ?hd (cs := #[.int .i64 p0, .int .i64 p1, .int .i64 2, .int .i64 p3, .int .i64 p4, .int .i64 0, .bool false, .bool p7, .slice Ad D.length cd]) (t := 52) ?hr ?_; (case hd => rfl); (case hg => rfl); (case hr => first | (go_simp; done) | (go_simp; rfl)); intro gb hg w2 hbox hb; have HG := mk_ (show w.heap.size ≤ gb from Nat.le_of_eq hg.symm); have HX2 := mk_ hbox; have HB2 := mk_ hb; have ge1 := ge_ HG.out; clear hb hbox hg) | (go_at_call 12; (with_reducible refine (spec_PortsOk.calls kf A0 c0 l0 true _ ?s1 ?s2 HOK.out).mono ?_); (case s1 => exact Kd.C_below HR.out (us_ HB2.out)); (case s2 => exact HC0.out); rintro e w3 ⟨rfl, hb⟩; have HX3 := mk_ (blk_below (u_ HX2.out) hb); have HB3 := mk_ (below_step (us_ HB2.out) hb); clear hb) | (go_at_call 52; (with_reducible refine (l9Copy_apart A0 c0 l0 _ ?s1 ?s2).mono ?_); (case s1 => exact Kd.C_below HR.out HB3.out); (case s2 => exact HSM.out); rintro e w4 ⟨A7, c7, rfl, ho, hb⟩; have HX4 := mk_ (blk_below HX3.out hb); have HL3 := mk_ (blk_lt HX3.out); have HO4 := mk_ (Kd.S_lower (Kd.S_mono (Kd.S_elder ho) (fun k hk => (hk.2 : k < w4.heap.size))) HB3.out.size); have HB4 := mk_ (below_step HB3.out hb); have H34 := mk_ hb.size; obtain ⟨y0_, y1_, y2_, y3_, y4_, y5_, y6_, y7_, y8_, y9_, y10_, y11_, y12_, y13_, y14_, y15_, y16_, y17_⟩ := cells9_ HX4.out; clear ho hb) | (go_at_call 64; (with_reducible refine (spec_MailFrom.calls kf p0 p1 Ad cd D mf mg mt md false _ ?s1 ?s2 HMF.out).mono ?_); (case s1 => exact Kd.C_below HRD.out HB4.out); (case s2 => exact HCD.out); rintro e w5 ⟨v9, rfl, hmr, hb⟩; obtain ⟨A9, c9, hv9⟩ := Kd.R_slice hmr; subst hv9; have HV5 := mk_ (Kd.R_mono (Kd.R_elder0 (Kd.R_fresh hmr)) (fun k hk => (⟨hk.1.2, hk.2⟩ : w4.heap.size ≤ k ∧ k < w5.heap.size))); clear hmr; have HX5 := mk_ (blk_below HX4.out hb); have HO5 := mk_ (Kd.S_below HO4.out hb); have HB5 := mk_ (below_step HB4.out hb); have H45 := mk_ hb.size; (try clear y0_ y1_ y2_ y3_ y4_ y5_ y6_ y7_ y8_ y9_ y10_ y11_ y12_ y13_ y14_ y15_ y16_ y17_); obtain ⟨y0_, y1_, y2_, y3_, y4_, y5_, y6_, y7_, y8_, y9_, y10_, y11_, y12_, y13_, y14_, y15_, y16_, y17_⟩ := cells9_ HX5.out; clear hb) | ((with_reducible refine gate_dst (N := 9) rfl ?_); refine box_event ?hg (N := 9) ?hd (cs := #[.int .i64 0, .int .i64 0, .int .i64 0, .slice none 0 0]) (t := 40) ?hr ?_; (case hd => rfl); (case hg => rfl); (case hr => first | (go_simp; done) | (go_simp; rfl)); intro gm hgm w6 hboxm hbm; have HGM := mk_ (show w5.heap.size ≤ gm from Nat.le_of_eq hgm.symm); have hgw6 : gb ≠ gm := Nat.ne_of_lt (Nat.lt_of_lt_of_le (blk_lt HX5.out) HGM.out); have gem := ge_ HGM.out; obtain ⟨b0_, b1_, b2_, b3_, b4_, b5_, b6_, b7_⟩ := cells4_ hboxm; have HX6 := mk_ (box_far4 (blk_below HX5.out hbm) hgw6 (.int .i64 mf) (.int .i64 mg) (.int .i64 mt) (.slice A9 md.length c9)); have HM6 := mk_ (inn47_box4 hboxm (a := mf) (f := mg) (t := mt) (v3 := .slice A9 md.length c9)); have HO6 := mk_ (S_box4 (Kd.S_below HO5.out hbm) (fun k hk => (by have h1_ := HGM.out; have h2_ := H45.out; have h3_ : k < w4.heap.size := hk; omega : k ≠ gm)) (.int .i64 mf) (.int .i64 mg) (.int .i64 mt) (.slice A9 md.length c9)); have HV6 := mk_ (R_box4 (Kd.R_below HV5.out hbm) (fun k hk => (by have h1_ := HGM.out; have h2_ := hk.2; omega : k ≠ gm)) (.int .i64 mf) (.int .i64 mg) (.int .i64 mt) (.slice A9 md.length c9)); have HB6 := mk_ (below_box4 (below_step HB5.out hbm) (Nat.le_trans HB5.out.size HGM.out) (.int .i64 mf) (.int .i64 mg) (.int .i64 mt) (.slice A9 md.length c9)); have H56 := mk_ (by rw [setCell_size, setCell_size, setCell_size, setCell_size]; exact hbm.size : w5.heap.size ≤ ((((w6.setCell ⟨gm, 0, none⟩ (.int .i64 mf)).setCell ⟨gm, 1, none⟩ (.int .i64 mg)).setCell ⟨gm, 2, none⟩ (.int .i64 mt)).setCell ⟨gm, 3, none⟩ (.slice A9 md.length c9)).heap.size); (try clear y0_ y1_ y2_ y3_ y4_ y5_ y6_ y7_ y8_ y9_ y10_ y11_ y12_ y13_ y14_ y15_ y16_ y17_); obtain ⟨x0_, x1_, x2_, x3_, x4_, x5_, x6_, x7_⟩ := cells4_ HM6.out; obtain ⟨y0_, y1_, y2_, y3_, y4_, y5_, y6_, y7_, y8_, y9_, y10_, y11_, y12_, y13_, y14_, y15_, y16_, y17_⟩ := cells9_ HX6.out; clear hboxm hbm hgm) | (go_at_call 65; (with_reducible refine (spec_PacketOk.calls p0 p1 2 p3 p4 0 false p7 Ad cd D true _ ?s1 ?s2 HPK.out).mono ?_); (case s1 => exact Kd.C_below HRD.out HB6.out); (case s2 => exact HCD.out); rintro e w7 ⟨rfl, hb⟩; have HM7 := mk_ (blk_below HM6.out hb); have HV7 := mk_ (Kd.R_below HV6.out hb); (try clear x0_ x1_ x2_ x3_ x4_ x5_ x6_ x7_); (try clear b0_ b1_ b2_ b3_ b4_ b5_ b6_ b7_); have HX7 := mk_ (blk_below HX6.out hb); have HO7 := mk_ (Kd.S_below HO6.out hb); have HB7 := mk_ (below_step HB6.out hb); have H67 := mk_ hb.size; (try clear y0_ y1_ y2_ y3_ y4_ y5_ y6_ y7_ y8_ y9_ y10_ y11_ y12_ y13_ y14_ y15_ y16_ y17_); obtain ⟨y0_, y1_, y2_, y3_, y4_, y5_, y6_, y7_, y8_, y9_, y10_, y11_, y12_, y13_, y14_, y15_, y16_, y17_⟩ := cells9_ HX7.out; obtain ⟨x0_, x1_, x2_, x3_, x4_, x5_, x6_, x7_⟩ := cells4_ HM7.out; clear hb))
        go_wp2
        go_ret2
        exact ⟨_, rfl, Kd.S_mono HO7.out (fun _ _ => trivial), us_ HB7.out⟩
    · have hg : good = true := HGD.out.2 ⟨rfl, rfl, rfl, rfl, rfl, rfl⟩
      subst hg
      clear HGD
      by_cases hfl : l0.findIdx (fun p => p.f0 == mt) < l0.length
      · have HAT0 := HAT1.out
        rw [if_pos hfl] at HAT0
        clear HAT1
        obtain ⟨p, hfi⟩ : ∃ p, l0.findIdx (fun p => p.f0 == mt) = p := ⟨_, rfl⟩
        rw [hfi] at hfl HAT0
        have HAT1 := mk_ HAT0
        clear HAT0
        have hplt : p < l0.length := hfl
        clear hfl
        have HPLT := mk_ hplt
        have HPL := mk_ (show 0 < l0.length from by omega)
        have hp0 : ¬ (p : Int) < 0 := by omega
        obtain ⟨P, hP⟩ : ∃ P, rd_T47 l0 (p : Int) = P := ⟨_, rfl⟩
        obtain ⟨N, L⟩ := P
        have HPP := mk_ hP
        have hL3 : L.length ≤ 3 := by
          have := HR3.out _ (rd47_mem l0 p hplt)
          rw [hP] at this
          exact this
        by_cases h3 : 3 ≤ L.length
        · rw [hearP_full l0 ⟨mf, mg, mt, md⟩ hfi hplt (by rw [hP]; exact h3)]
          have h3' : (L.length : Int) = 3 := by omega
          clear hfi hP h3 hL3
          go_enter Try.func32, Try.ntmps32
          go_wp2_with (first | ((with_reducible refine gate_dst (N := 5) rfl ?_); refine box_event ?hg (N := 5) ?hd (cs := #[.int .i64 p0, .int .i64 p1, .int .i64 2, .int .i64 p3, .int .i64 p4, .int .i64 0, .bool false, .bool p7, .slice Ad D.length cd]) (t := 52) ?hr ?_; (case hd => rfl); (case hg => rfl); (case hr => first | (go_simp; done) | (go_simp; rfl)); intro gb hg w2 hbox hb; have HG := mk_ (show w.heap.size ≤ gb from Nat.le_of_eq hg.symm); have HX2 := mk_ hbox; have HB2 := mk_ hb; have ge1 := ge_ HG.out; clear hb hbox hg) | (go_at_call 12; (with_reducible refine (spec_PortsOk.calls kf A0 c0 l0 true _ ?s1 ?s2 HOK.out).mono ?_); (case s1 => exact Kd.C_below HR.out (us_ HB2.out)); (case s2 => exact HC0.out); rintro e w3 ⟨rfl, hb⟩; have HX3 := mk_ (blk_below (u_ HX2.out) hb); have HB3 := mk_ (below_step (us_ HB2.out) hb); clear hb) | (go_at_call 52; (with_reducible refine (l9Copy_apart A0 c0 l0 _ ?s1 ?s2).mono ?_); (case s1 => exact Kd.C_below HR.out HB3.out); (case s2 => exact HSM.out); rintro e w4 ⟨A7_, c7_, rfl, ho, hb⟩; obtain ⟨gv, c7, hv7, z1_, z2_, z3_⟩ := Kd.S_form ho HPL.out; clear z1_ z2_ z3_; injection hv7 with e1_ e2_ e3_; subst e1_; subst e3_; clear e2_; have HX4 := mk_ (blk_below HX3.out hb); have HL3 := mk_ (blk_lt HX3.out); have HO4 := mk_ (Kd.S_lower (Kd.S_mono (Kd.S_elder ho) (fun k hk => (hk.2 : k < w4.heap.size))) HB3.out.size); have HB4 := mk_ (below_step HB3.out hb); have H34 := mk_ hb.size; obtain ⟨y0_, y1_, y2_, y3_, y4_, y5_, y6_, y7_, y8_, y9_, y10_, y11_, y12_, y13_, y14_, y15_, y16_, y17_⟩ := cells9_ HX4.out; clear ho hb) | (go_at_call 64; (with_reducible refine (spec_MailFrom.calls kf p0 p1 Ad cd D mf mg mt md true _ ?s1 ?s2 HMF.out).mono ?_); (case s1 => exact Kd.C_below HRD.out HB4.out); (case s2 => exact HCD.out); rintro e w5 ⟨v9, rfl, hmr, hb⟩; obtain ⟨A9, c9, hv9⟩ := Kd.R_slice hmr; subst hv9; have HV5 := mk_ (Kd.R_mono (Kd.R_elder0 (Kd.R_fresh hmr)) (fun k hk => (⟨hk.1.2, hk.2⟩ : w4.heap.size ≤ k ∧ k < w5.heap.size))); clear hmr; have HX5 := mk_ (blk_below HX4.out hb); have HO5 := mk_ (Kd.S_below HO4.out hb); have HB5 := mk_ (below_step HB4.out hb); have H45 := mk_ hb.size; (try clear y0_ y1_ y2_ y3_ y4_ y5_ y6_ y7_ y8_ y9_ y10_ y11_ y12_ y13_ y14_ y15_ y16_ y17_); obtain ⟨y0_, y1_, y2_, y3_, y4_, y5_, y6_, y7_, y8_, y9_, y10_, y11_, y12_, y13_, y14_, y15_, y16_, y17_⟩ := cells9_ HX5.out; clear hb) | ((with_reducible refine gate_dst (N := 9) rfl ?_); refine box_event ?hg (N := 9) ?hd (cs := #[.int .i64 0, .int .i64 0, .int .i64 0, .slice none 0 0]) (t := 40) ?hr ?_; (case hd => rfl); (case hg => rfl); (case hr => first | (go_simp; done) | (go_simp; rfl)); intro gm hgm w6 hboxm hbm; have HGM := mk_ (show w5.heap.size ≤ gm from Nat.le_of_eq hgm.symm); have hgw6 : gb ≠ gm := Nat.ne_of_lt (Nat.lt_of_lt_of_le (blk_lt HX5.out) HGM.out); have gem := ge_ HGM.out; obtain ⟨b0_, b1_, b2_, b3_, b4_, b5_, b6_, b7_⟩ := cells4_ hboxm; have HX6 := mk_ (box_far4 (blk_below HX5.out hbm) hgw6 (.int .i64 mf) (.int .i64 mg) (.int .i64 mt) (.slice A9 md.length c9)); have HM6 := mk_ (inn47_box4 hboxm (a := mf) (f := mg) (t := mt) (v3 := .slice A9 md.length c9)); have HO6 := mk_ (S_box4 (Kd.S_below HO5.out hbm) (fun k hk => (by have h1_ := HGM.out; have h2_ := H45.out; have h3_ : k < w4.heap.size := hk; omega : k ≠ gm)) (.int .i64 mf) (.int .i64 mg) (.int .i64 mt) (.slice A9 md.length c9)); have HV6 := mk_ (R_box4 (Kd.R_below HV5.out hbm) (fun k hk => (by have h1_ := HGM.out; have h2_ := hk.2; omega : k ≠ gm)) (.int .i64 mf) (.int .i64 mg) (.int .i64 mt) (.slice A9 md.length c9)); have HB6 := mk_ (below_box4 (below_step HB5.out hbm) (Nat.le_trans HB5.out.size HGM.out) (.int .i64 mf) (.int .i64 mg) (.int .i64 mt) (.slice A9 md.length c9)); have H56 := mk_ (by rw [setCell_size, setCell_size, setCell_size, setCell_size]; exact hbm.size : w5.heap.size ≤ ((((w6.setCell ⟨gm, 0, none⟩ (.int .i64 mf)).setCell ⟨gm, 1, none⟩ (.int .i64 mg)).setCell ⟨gm, 2, none⟩ (.int .i64 mt)).setCell ⟨gm, 3, none⟩ (.slice A9 md.length c9)).heap.size); (try clear y0_ y1_ y2_ y3_ y4_ y5_ y6_ y7_ y8_ y9_ y10_ y11_ y12_ y13_ y14_ y15_ y16_ y17_); obtain ⟨x0_, x1_, x2_, x3_, x4_, x5_, x6_, x7_⟩ := cells4_ HM6.out; obtain ⟨y0_, y1_, y2_, y3_, y4_, y5_, y6_, y7_, y8_, y9_, y10_, y11_, y12_, y13_, y14_, y15_, y16_, y17_⟩ := cells9_ HX6.out; clear hboxm hbm hgm) | (go_at_call 65; (with_reducible refine (spec_PacketOk.calls p0 p1 2 p3 p4 0 false p7 Ad cd D true _ ?s1 ?s2 HPK.out).mono ?_); (case s1 => exact Kd.C_below HRD.out HB6.out); (case s2 => exact HCD.out); rintro e w7 ⟨rfl, hb⟩; have HM7 := mk_ (blk_below HM6.out hb); have HV7 := mk_ (Kd.R_below HV6.out hb); (try clear x0_ x1_ x2_ x3_ x4_ x5_ x6_ x7_); (try clear b0_ b1_ b2_ b3_ b4_ b5_ b6_ b7_); have HX7 := mk_ (blk_below HX6.out hb); have HO7 := mk_ (Kd.S_below HO6.out hb); have HB7 := mk_ (below_step HB6.out hb); have H67 := mk_ hb.size; (try clear y0_ y1_ y2_ y3_ y4_ y5_ y6_ y7_ y8_ y9_ y10_ y11_ y12_ y13_ y14_ y15_ y16_ y17_); obtain ⟨y0_, y1_, y2_, y3_, y4_, y5_, y6_, y7_, y8_, y9_, y10_, y11_, y12_, y13_, y14_, y15_, y16_, y17_⟩ := cells9_ HX7.out; obtain ⟨x0_, x1_, x2_, x3_, x4_, x5_, x6_, x7_⟩ := cells4_ HM7.out; clear hb) | (go_at_call 51; (with_reducible refine (spec_l9At.calls kf A0 c0 l0 mt (p : Int) _ ?s1 ?s2 HAT1.out).mono ?_); (case s1 => exact Kd.C_below HR.out HB7.out); (case s2 => exact HC0.out); rintro e w8 ⟨rfl, hd⟩; have hb := hd.below; clear hd; (try clear b0_ b1_ b2_ b3_ b4_ b5_ b6_ b7_); have H48 := mk_ (Nat.le_trans (Nat.le_trans (Nat.le_trans H45.out H56.out) H67.out) hb.size); have HX8 := mk_ (blk_below HX7.out hb); have HM8 := mk_ (blk_below HM7.out hb); have HO8 := mk_ (Kd.S_below HO7.out hb); have HV8 := mk_ (Kd.R_below HV7.out hb); have HB8 := mk_ (below_step HB7.out hb); (try clear x0_ x1_ x2_ x3_ x4_ x5_ x6_ x7_); obtain ⟨x0_, x1_, x2_, x3_, x4_, x5_, x6_, x7_⟩ := cells4_ HM8.out; obtain ⟨Ar, cr, okX, hl_, hk0, hk1, hkf0, hkf1, hokX, hrow, hrg, hput⟩ := hear_row HO8.out p HPLT.out; rw [HPP.out] at hl_ hk0 hk1 hrow hput hrg; dsimp only at hl_ hk0 hk1 hrow hput hrg; have HRW := mk_ hrow; have HPU := mk_ hput; have HOX := mk_ hokX; have HRG := mk_ hrg; clear hrow hput hokX hrg; clear hb))
          go_wp2
          go_ret2
          exact ⟨_, rfl, Kd.S_mono HO8.out (fun _ _ => trivial), us_ HB8.out⟩
        · rw [hearP_put l0 ⟨mf, mg, mt, md⟩ hfi hplt hP h3]
          have h3' : ¬ (L.length : Int) = 3 := by omega
          have HL3' := mk_ h3
          clear hfi hP h3 hL3
          go_enter Try.func32, Try.ntmps32
          go_wp2_with (first | ((with_reducible refine gate_dst (N := 5) rfl ?_); refine box_event ?hg (N := 5) ?hd (cs := #[.int .i64 p0, .int .i64 p1, .int .i64 2, .int .i64 p3, .int .i64 p4, .int .i64 0, .bool false, .bool p7, .slice Ad D.length cd]) (t := 52) ?hr ?_; (case hd => rfl); (case hg => rfl); (case hr => first | (go_simp; done) | (go_simp; rfl)); intro gb hg w2 hbox hb; have HG := mk_ (show w.heap.size ≤ gb from Nat.le_of_eq hg.symm); have HX2 := mk_ hbox; have HB2 := mk_ hb; have ge1 := ge_ HG.out; clear hb hbox hg) | (go_at_call 12; (with_reducible refine (spec_PortsOk.calls kf A0 c0 l0 true _ ?s1 ?s2 HOK.out).mono ?_); (case s1 => exact Kd.C_below HR.out (us_ HB2.out)); (case s2 => exact HC0.out); rintro e w3 ⟨rfl, hb⟩; have HX3 := mk_ (blk_below (u_ HX2.out) hb); have HB3 := mk_ (below_step (us_ HB2.out) hb); clear hb) | (go_at_call 52; (with_reducible refine (l9Copy_apart A0 c0 l0 _ ?s1 ?s2).mono ?_); (case s1 => exact Kd.C_below HR.out HB3.out); (case s2 => exact HSM.out); rintro e w4 ⟨A7_, c7_, rfl, ho, hb⟩; obtain ⟨gv, c7, hv7, z1_, z2_, z3_⟩ := Kd.S_form ho HPL.out; clear z1_ z2_ z3_; injection hv7 with e1_ e2_ e3_; subst e1_; subst e3_; clear e2_; have HX4 := mk_ (blk_below HX3.out hb); have HL3 := mk_ (blk_lt HX3.out); have HO4 := mk_ (Kd.S_lower (Kd.S_mono (Kd.S_elder ho) (fun k hk => (hk.2 : k < w4.heap.size))) HB3.out.size); have HB4 := mk_ (below_step HB3.out hb); have H34 := mk_ hb.size; obtain ⟨y0_, y1_, y2_, y3_, y4_, y5_, y6_, y7_, y8_, y9_, y10_, y11_, y12_, y13_, y14_, y15_, y16_, y17_⟩ := cells9_ HX4.out; clear ho hb) | (go_at_call 64; (with_reducible refine (spec_MailFrom.calls kf p0 p1 Ad cd D mf mg mt md true _ ?s1 ?s2 HMF.out).mono ?_); (case s1 => exact Kd.C_below HRD.out HB4.out); (case s2 => exact HCD.out); rintro e w5 ⟨v9, rfl, hmr, hb⟩; obtain ⟨A9, c9, hv9⟩ := Kd.R_slice hmr; subst hv9; have HV5 := mk_ (Kd.R_mono (Kd.R_elder0 (Kd.R_fresh hmr)) (fun k hk => (⟨hk.1.2, hk.2⟩ : w4.heap.size ≤ k ∧ k < w5.heap.size))); clear hmr; have HX5 := mk_ (blk_below HX4.out hb); have HO5 := mk_ (Kd.S_below HO4.out hb); have HB5 := mk_ (below_step HB4.out hb); have H45 := mk_ hb.size; (try clear y0_ y1_ y2_ y3_ y4_ y5_ y6_ y7_ y8_ y9_ y10_ y11_ y12_ y13_ y14_ y15_ y16_ y17_); obtain ⟨y0_, y1_, y2_, y3_, y4_, y5_, y6_, y7_, y8_, y9_, y10_, y11_, y12_, y13_, y14_, y15_, y16_, y17_⟩ := cells9_ HX5.out; clear hb) | ((with_reducible refine gate_dst (N := 9) rfl ?_); refine box_event ?hg (N := 9) ?hd (cs := #[.int .i64 0, .int .i64 0, .int .i64 0, .slice none 0 0]) (t := 40) ?hr ?_; (case hd => rfl); (case hg => rfl); (case hr => first | (go_simp; done) | (go_simp; rfl)); intro gm hgm w6 hboxm hbm; have HGM := mk_ (show w5.heap.size ≤ gm from Nat.le_of_eq hgm.symm); have hgw6 : gb ≠ gm := Nat.ne_of_lt (Nat.lt_of_lt_of_le (blk_lt HX5.out) HGM.out); have gem := ge_ HGM.out; obtain ⟨b0_, b1_, b2_, b3_, b4_, b5_, b6_, b7_⟩ := cells4_ hboxm; have HX6 := mk_ (box_far4 (blk_below HX5.out hbm) hgw6 (.int .i64 mf) (.int .i64 mg) (.int .i64 mt) (.slice A9 md.length c9)); have HM6 := mk_ (inn47_box4 hboxm (a := mf) (f := mg) (t := mt) (v3 := .slice A9 md.length c9)); have HO6 := mk_ (S_box4 (Kd.S_below HO5.out hbm) (fun k hk => (by have h1_ := HGM.out; have h2_ := H45.out; have h3_ : k < w4.heap.size := hk; omega : k ≠ gm)) (.int .i64 mf) (.int .i64 mg) (.int .i64 mt) (.slice A9 md.length c9)); have HV6 := mk_ (R_box4 (Kd.R_below HV5.out hbm) (fun k hk => (by have h1_ := HGM.out; have h2_ := hk.2; omega : k ≠ gm)) (.int .i64 mf) (.int .i64 mg) (.int .i64 mt) (.slice A9 md.length c9)); have HB6 := mk_ (below_box4 (below_step HB5.out hbm) (Nat.le_trans HB5.out.size HGM.out) (.int .i64 mf) (.int .i64 mg) (.int .i64 mt) (.slice A9 md.length c9)); have H56 := mk_ (by rw [setCell_size, setCell_size, setCell_size, setCell_size]; exact hbm.size : w5.heap.size ≤ ((((w6.setCell ⟨gm, 0, none⟩ (.int .i64 mf)).setCell ⟨gm, 1, none⟩ (.int .i64 mg)).setCell ⟨gm, 2, none⟩ (.int .i64 mt)).setCell ⟨gm, 3, none⟩ (.slice A9 md.length c9)).heap.size); (try clear y0_ y1_ y2_ y3_ y4_ y5_ y6_ y7_ y8_ y9_ y10_ y11_ y12_ y13_ y14_ y15_ y16_ y17_); obtain ⟨x0_, x1_, x2_, x3_, x4_, x5_, x6_, x7_⟩ := cells4_ HM6.out; obtain ⟨y0_, y1_, y2_, y3_, y4_, y5_, y6_, y7_, y8_, y9_, y10_, y11_, y12_, y13_, y14_, y15_, y16_, y17_⟩ := cells9_ HX6.out; clear hboxm hbm hgm) | (go_at_call 65; (with_reducible refine (spec_PacketOk.calls p0 p1 2 p3 p4 0 false p7 Ad cd D true _ ?s1 ?s2 HPK.out).mono ?_); (case s1 => exact Kd.C_below HRD.out HB6.out); (case s2 => exact HCD.out); rintro e w7 ⟨rfl, hb⟩; have HM7 := mk_ (blk_below HM6.out hb); have HV7 := mk_ (Kd.R_below HV6.out hb); (try clear x0_ x1_ x2_ x3_ x4_ x5_ x6_ x7_); (try clear b0_ b1_ b2_ b3_ b4_ b5_ b6_ b7_); have HX7 := mk_ (blk_below HX6.out hb); have HO7 := mk_ (Kd.S_below HO6.out hb); have HB7 := mk_ (below_step HB6.out hb); have H67 := mk_ hb.size; (try clear y0_ y1_ y2_ y3_ y4_ y5_ y6_ y7_ y8_ y9_ y10_ y11_ y12_ y13_ y14_ y15_ y16_ y17_); obtain ⟨y0_, y1_, y2_, y3_, y4_, y5_, y6_, y7_, y8_, y9_, y10_, y11_, y12_, y13_, y14_, y15_, y16_, y17_⟩ := cells9_ HX7.out; obtain ⟨x0_, x1_, x2_, x3_, x4_, x5_, x6_, x7_⟩ := cells4_ HM7.out; clear hb) | (go_at_call 51; (with_reducible refine (spec_l9At.calls kf A0 c0 l0 mt (p : Int) _ ?s1 ?s2 HAT1.out).mono ?_); (case s1 => exact Kd.C_below HR.out HB7.out); (case s2 => exact HC0.out); rintro e w8 ⟨rfl, hd⟩; have hb := hd.below; clear hd; (try clear b0_ b1_ b2_ b3_ b4_ b5_ b6_ b7_); have H48 := mk_ (Nat.le_trans (Nat.le_trans (Nat.le_trans H45.out H56.out) H67.out) hb.size); have HX8 := mk_ (blk_below HX7.out hb); have HM8 := mk_ (blk_below HM7.out hb); have HO8 := mk_ (Kd.S_below HO7.out hb); have HV8 := mk_ (Kd.R_below HV7.out hb); have HB8 := mk_ (below_step HB7.out hb); (try clear x0_ x1_ x2_ x3_ x4_ x5_ x6_ x7_); obtain ⟨x0_, x1_, x2_, x3_, x4_, x5_, x6_, x7_⟩ := cells4_ HM8.out; obtain ⟨Ar, cr, okX, hl_, hk0, hk1, hkf0, hkf1, hokX, hrow, hrg, hput⟩ := hear_row HO8.out p HPLT.out; rw [HPP.out] at hl_ hk0 hk1 hrow hput hrg; dsimp only at hl_ hk0 hk1 hrow hput hrg; have HRW := mk_ hrow; have HPU := mk_ hput; have HOX := mk_ hokX; have HRG := mk_ hrg; clear hrow hput hokX hrg; clear hb))
          have hgvl : gv < w8.heap.size := lc_ _ _ hk1
          have hgml : gm < w8.heap.size := lc_ _ _ x0_
          have ha0 : ∀ o, (w8.alloc o).cell? ⟨gv, p * 2 + 1, none⟩ = some (.slice Ar L.length cr) := fun o => (World.cell?_alloc_past (w := w8) o gv _ hgvl).trans hk1
          have ha1 : ∀ o, (w8.alloc o).cell? ⟨gm, 0, none⟩ = some (.int .i64 mf) := fun o => (World.cell?_alloc_past (w := w8) o gm _ hgml).trans x0_
          have ha2 : ∀ o, (w8.alloc o).cell? ⟨gm, 1, none⟩ = some (.int .i64 mg) := fun o => (World.cell?_alloc_past (w := w8) o gm _ hgml).trans x1_
          have ha3 : ∀ o, (w8.alloc o).cell? ⟨gm, 2, none⟩ = some (.int .i64 mt) := fun o => (World.cell?_alloc_past (w := w8) o gm _ hgml).trans x2_
          have ha4 : ∀ o, (w8.alloc o).cell? ⟨gm, 3, none⟩ = some (.slice A9 md.length c9) := fun o => (World.cell?_alloc_past (w := w8) o gm _ hgml).trans x3_
          clear hgvl hgml
          go_region_law (first | (refine Kd.S_append_step (W := w8.drew) k40 (w0 := w) w.heap.size rfl (.tmp 77) (.tmp 79) 45 40 (.agg #[(.int .i64 0), (.int .i64 0), (.int .i64 0), (.slice none 0 0)]) 48 rfl Try.underlying45 HI40.out rfl (by decide) (by omega) (.slice Ar L.length cr) L (⟨mf, mg, mt, md⟩ : S40) [.int .i64 mf, .int .i64 mg, .int .i64 mt, .slice A9 md.length c9] okX (fun k => w4.heap.size ≤ k) rfl rfl (k40_mkM _ _ _ ⟨mf, mg, mt, md⟩ (Kd.R_lower (Kd.R_mono (Kd.R_drew HV8.out) (fun k hk => hk.1)) (below_size HB4.out))) (fun k hk => ⟨HOX.out k hk, fun e => absurd hk (Nat.not_le.2 (HRG.out k e.symm).1)⟩) (fun k hk => HOX.out k (Nat.le_trans H48.out hk)) (Kd.S_drew HRW.out) (nw_ HB8.out) HB8.out.size (by have h1_ := HL3'.out; omega) ?_; intro v1 w9 ho hb hg hat; obtain ⟨A1, n1, c1, hv1⟩ := slice_any ho; subst hv1; have hngm : some gm ≠ (Value.slice Ar L.length cr).ownBlock := (fun e => by have h1_ := (HRG.out gm e.symm).1; have h2_ := HGM.out; have h3_ := H45.out; have h4_ := H56.out; omega); have hngv : some gv ≠ (Value.slice Ar L.length cr).ownBlock := (fun e => (HRG.out gv e.symm).2 rfl); have hm0 := hg.cell x0_ hngm; have hm1 := hg.cell x1_ hngm; have hm2 := hg.cell x2_ hngm; have hm3 := hg.cell x3_ hngm; have hkf9 := (hg.frozen_far ⟨gv, p * 2 + 1, none⟩ (lc_ _ _ hk1) hngv).trans hkf1; have hk9 := hg.cell hk1 hngv; have HPT := mk_ (HPU.out w8.drew w9 (.slice A1 n1 c1) _ (below_drew (Below.refl _ _)) hg ho); have HB9 := mk_ hb; have H49 := mk_ (Nat.le_trans H48.out hg.size); clear ho hb hg hat hngm hngv))
          all_goals
            have hgv0 : w.heap.size ≤ gv := ((Kd.S_R (Kd.S_fresh HO8.out)).1 gv rfl).2
            have hB9 := bs_ (j := p * 2 + 1) (v := .slice A1 n1 c1) HB9.out hgv0
            obtain ⟨hS, _⟩ := HPT.out
            have HSW := mk_ hS
            have HBW := mk_ hB9
            clear hB9 hS HPT hm0 hm1 hm2 hm3 hkf9 hk9 ha0 ha1 ha2 ha3 ha4 HPU HRW HOX HRG hk0 hk1 hkf0 hkf1 x0_ x1_ x2_ x3_ x4_ x5_ x6_ x7_
            go_wp2
            go_ret2
            exact ⟨_, rfl, HSW.out, HBW.out⟩
      · have HAT0 := HAT1.out
        rw [if_neg hfl] at HAT0
        have HAT2 := mk_ HAT0
        clear HAT1 HAT0
        rw [hearP_none l0 ⟨mf, mg, mt, md⟩ hfl]
        clear hfl
        go_enter Try.func32, Try.ntmps32
        go_wp2_with (first | ((with_reducible refine gate_dst (N := 5) rfl ?_); refine box_event ?hg (N := 5) ?hd (cs := #[.int .i64 p0, .int .i64 p1, .int .i64 2, .int .i64 p3, .int .i64 p4, .int .i64 0, .bool false, .bool p7, .slice Ad D.length cd]) (t := 52) ?hr ?_; (case hd => rfl); (case hg => rfl); (case hr => first | (go_simp; done) | (go_simp; rfl)); intro gb hg w2 hbox hb; have HG := mk_ (show w.heap.size ≤ gb from Nat.le_of_eq hg.symm); have HX2 := mk_ hbox; have HB2 := mk_ hb; have ge1 := ge_ HG.out; clear hb hbox hg) | (go_at_call 12; (with_reducible refine (spec_PortsOk.calls kf A0 c0 l0 true _ ?s1 ?s2 HOK.out).mono ?_); (case s1 => exact Kd.C_below HR.out (us_ HB2.out)); (case s2 => exact HC0.out); rintro e w3 ⟨rfl, hb⟩; have HX3 := mk_ (blk_below (u_ HX2.out) hb); have HB3 := mk_ (below_step (us_ HB2.out) hb); clear hb) | (go_at_call 52; (with_reducible refine (l9Copy_apart A0 c0 l0 _ ?s1 ?s2).mono ?_); (case s1 => exact Kd.C_below HR.out HB3.out); (case s2 => exact HSM.out); rintro e w4 ⟨A7, c7, rfl, ho, hb⟩; have HX4 := mk_ (blk_below HX3.out hb); have HL3 := mk_ (blk_lt HX3.out); have HO4 := mk_ (Kd.S_lower (Kd.S_mono (Kd.S_elder ho) (fun k hk => (hk.2 : k < w4.heap.size))) HB3.out.size); have HB4 := mk_ (below_step HB3.out hb); have H34 := mk_ hb.size; obtain ⟨y0_, y1_, y2_, y3_, y4_, y5_, y6_, y7_, y8_, y9_, y10_, y11_, y12_, y13_, y14_, y15_, y16_, y17_⟩ := cells9_ HX4.out; clear ho hb) | (go_at_call 64; (with_reducible refine (spec_MailFrom.calls kf p0 p1 Ad cd D mf mg mt md true _ ?s1 ?s2 HMF.out).mono ?_); (case s1 => exact Kd.C_below HRD.out HB4.out); (case s2 => exact HCD.out); rintro e w5 ⟨v9, rfl, hmr, hb⟩; obtain ⟨A9, c9, hv9⟩ := Kd.R_slice hmr; subst hv9; have HV5 := mk_ (Kd.R_mono (Kd.R_elder0 (Kd.R_fresh hmr)) (fun k hk => (⟨hk.1.2, hk.2⟩ : w4.heap.size ≤ k ∧ k < w5.heap.size))); clear hmr; have HX5 := mk_ (blk_below HX4.out hb); have HO5 := mk_ (Kd.S_below HO4.out hb); have HB5 := mk_ (below_step HB4.out hb); have H45 := mk_ hb.size; (try clear y0_ y1_ y2_ y3_ y4_ y5_ y6_ y7_ y8_ y9_ y10_ y11_ y12_ y13_ y14_ y15_ y16_ y17_); obtain ⟨y0_, y1_, y2_, y3_, y4_, y5_, y6_, y7_, y8_, y9_, y10_, y11_, y12_, y13_, y14_, y15_, y16_, y17_⟩ := cells9_ HX5.out; clear hb) | ((with_reducible refine gate_dst (N := 9) rfl ?_); refine box_event ?hg (N := 9) ?hd (cs := #[.int .i64 0, .int .i64 0, .int .i64 0, .slice none 0 0]) (t := 40) ?hr ?_; (case hd => rfl); (case hg => rfl); (case hr => first | (go_simp; done) | (go_simp; rfl)); intro gm hgm w6 hboxm hbm; have HGM := mk_ (show w5.heap.size ≤ gm from Nat.le_of_eq hgm.symm); have hgw6 : gb ≠ gm := Nat.ne_of_lt (Nat.lt_of_lt_of_le (blk_lt HX5.out) HGM.out); have gem := ge_ HGM.out; obtain ⟨b0_, b1_, b2_, b3_, b4_, b5_, b6_, b7_⟩ := cells4_ hboxm; have HX6 := mk_ (box_far4 (blk_below HX5.out hbm) hgw6 (.int .i64 mf) (.int .i64 mg) (.int .i64 mt) (.slice A9 md.length c9)); have HM6 := mk_ (inn47_box4 hboxm (a := mf) (f := mg) (t := mt) (v3 := .slice A9 md.length c9)); have HO6 := mk_ (S_box4 (Kd.S_below HO5.out hbm) (fun k hk => (by have h1_ := HGM.out; have h2_ := H45.out; have h3_ : k < w4.heap.size := hk; omega : k ≠ gm)) (.int .i64 mf) (.int .i64 mg) (.int .i64 mt) (.slice A9 md.length c9)); have HV6 := mk_ (R_box4 (Kd.R_below HV5.out hbm) (fun k hk => (by have h1_ := HGM.out; have h2_ := hk.2; omega : k ≠ gm)) (.int .i64 mf) (.int .i64 mg) (.int .i64 mt) (.slice A9 md.length c9)); have HB6 := mk_ (below_box4 (below_step HB5.out hbm) (Nat.le_trans HB5.out.size HGM.out) (.int .i64 mf) (.int .i64 mg) (.int .i64 mt) (.slice A9 md.length c9)); have H56 := mk_ (by rw [setCell_size, setCell_size, setCell_size, setCell_size]; exact hbm.size : w5.heap.size ≤ ((((w6.setCell ⟨gm, 0, none⟩ (.int .i64 mf)).setCell ⟨gm, 1, none⟩ (.int .i64 mg)).setCell ⟨gm, 2, none⟩ (.int .i64 mt)).setCell ⟨gm, 3, none⟩ (.slice A9 md.length c9)).heap.size); (try clear y0_ y1_ y2_ y3_ y4_ y5_ y6_ y7_ y8_ y9_ y10_ y11_ y12_ y13_ y14_ y15_ y16_ y17_); obtain ⟨x0_, x1_, x2_, x3_, x4_, x5_, x6_, x7_⟩ := cells4_ HM6.out; obtain ⟨y0_, y1_, y2_, y3_, y4_, y5_, y6_, y7_, y8_, y9_, y10_, y11_, y12_, y13_, y14_, y15_, y16_, y17_⟩ := cells9_ HX6.out; clear hboxm hbm hgm) | (go_at_call 65; (with_reducible refine (spec_PacketOk.calls p0 p1 2 p3 p4 0 false p7 Ad cd D true _ ?s1 ?s2 HPK.out).mono ?_); (case s1 => exact Kd.C_below HRD.out HB6.out); (case s2 => exact HCD.out); rintro e w7 ⟨rfl, hb⟩; have HM7 := mk_ (blk_below HM6.out hb); have HV7 := mk_ (Kd.R_below HV6.out hb); (try clear x0_ x1_ x2_ x3_ x4_ x5_ x6_ x7_); (try clear b0_ b1_ b2_ b3_ b4_ b5_ b6_ b7_); have HX7 := mk_ (blk_below HX6.out hb); have HO7 := mk_ (Kd.S_below HO6.out hb); have HB7 := mk_ (below_step HB6.out hb); have H67 := mk_ hb.size; (try clear y0_ y1_ y2_ y3_ y4_ y5_ y6_ y7_ y8_ y9_ y10_ y11_ y12_ y13_ y14_ y15_ y16_ y17_); obtain ⟨y0_, y1_, y2_, y3_, y4_, y5_, y6_, y7_, y8_, y9_, y10_, y11_, y12_, y13_, y14_, y15_, y16_, y17_⟩ := cells9_ HX7.out; obtain ⟨x0_, x1_, x2_, x3_, x4_, x5_, x6_, x7_⟩ := cells4_ HM7.out; clear hb) | (go_at_call 51; (with_reducible refine (spec_l9At.calls kf A0 c0 l0 mt (-1) _ ?s1 ?s2 HAT2.out).mono ?_); (case s1 => exact Kd.C_below HR.out HB7.out); (case s2 => exact HC0.out); rintro e w8 ⟨rfl, hd⟩; have hb := hd.below; clear hd; (try clear b0_ b1_ b2_ b3_ b4_ b5_ b6_ b7_); have H48 := mk_ (Nat.le_trans (Nat.le_trans (Nat.le_trans H45.out H56.out) H67.out) hb.size); have HX8 := mk_ (blk_below HX7.out hb); have HM8 := mk_ (blk_below HM7.out hb); have HO8 := mk_ (Kd.S_below HO7.out hb); have HV8 := mk_ (Kd.R_below HV7.out hb); have HB8 := mk_ (below_step HB7.out hb); (try clear x0_ x1_ x2_ x3_ x4_ x5_ x6_ x7_); obtain ⟨x0_, x1_, x2_, x3_, x4_, x5_, x6_, x7_⟩ := cells4_ HM8.out; clear hb))
        go_wp2
        go_ret2
        exact ⟨_, rfl, Kd.S_mono HO8.out (fun _ _ => trivial), us_ HB8.out⟩
/-! ### spec.PortHear at what it answers -/
def hearS (k : Nat) (l : List S47) (a1 p0 p1 p2 p3 p4 p5 : Int) (p6 p7 : Bool) (D : List Int) (o : List S47) (d : Int) : Prop :=
  ∃ (r pk mok good : Bool) (mf mg mt : Int) (md : List Int), spec_PortsOk.f k l = some r ∧ (r = true → small47 l ∧ ∀ p ∈ l, p.f1.length ≤ 3) ∧ spec_PacketOk.f p0 p1 p2 p3 p4 p5 p6 p7 D = some pk ∧ (pk = true → 0 ≤ p5) ∧ spec_MailFrom.f k p0 p1 D = some (mf, mg, mt, md, mok) ∧ md.length ≤ 1000 ∧ (good = true ↔ pk = true ∧ p2 = 2 ∧ p5 = 0 ∧ p6 = false ∧ p1 = a1 ∧ mok = true) ∧ (r = true → spec_l9At.f k l mt = some (if l.findIdx (fun p => p.f0 == mt) < l.length then (l.findIdx (fun p => p.f0 == mt) : Int) else -1)) ∧ hearP r good l ⟨mf, mg, mt, md⟩ = (o, d)
theorem hearS_at (k : Nat) (A0 : Option Addr) (n c0 : Nat) (l : List S47) (a1 p0 p1 p2 p3 p4 p5 : Int) (p6 p7 : Bool) (Ad : Option Addr) (nd cd : Nat) (D : List Int) (o : List S47) (d : Int) (w : World) (hn : n = l.length) (hnd : nd = D.length) (hr0 : Kd.C k47 w A0 l.length l) (hc0 : l.length ≤ c0) (hrD : Kd.C (Kd.int .u8) w Ad D.length D) (hcD : D.length ≤ cd) (h : hearS k l a1 p0 p1 p2 p3 p4 p5 p6 p7 D o d) :
    Calls Try.prog 32 #[.slice A0 n c0, .int .i64 a1, .agg #[.int .i64 p0, .int .i64 p1, .int .i64 p2, .int .i64 p3, .int .i64 p4, .int .i64 p5, .bool p6, .bool p7, .slice Ad nd cd]] w fun e w' => ∃ (A : Option Addr) (c : Nat), e = .returned (.tuple #[.slice A o.length c, .int .i64 d]) ∧ Kd.S k47S 47 w' w.heap.size (fun _ => True) (.slice A o.length c) o ∧ Below w.heap.size w w' := by
  subst hn
  subst hnd
  obtain ⟨r, pk, mok, good, mf, mg, mt, md, h1, h2, h3, h3', h4, h5, h6, h8, h7⟩ := h
  refine (specHear k A0 c0 l a1 p0 p1 p2 p3 p4 p5 p6 p7 Ad cd D r pk mok good mf mg mt md w hr0 hc0 hrD hcD h1 h2 h3 h3' h4 h5 h6 h8).mono ?_
  rintro e w' ⟨v0, he, hS, hb⟩
  rw [h7] at he hS
  obtain ⟨A, c, rfl⟩ := Kd.S_slice hS
  exact ⟨A, c, he, hS, hb⟩
end Go.Proofs.Ytkkibccnpkbbjaa.MFnPortsOk
