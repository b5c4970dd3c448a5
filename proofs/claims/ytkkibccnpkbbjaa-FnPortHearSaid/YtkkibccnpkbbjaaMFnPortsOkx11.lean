/- Functions that the law FnPortsOk reaches, typed by hand: marks in rows that lie apart, and the walk of the law FnPortsOk; no conditions but those that each theorem states. -/
import Derived.Test.YtkkibccnpkbbjaaMFnPortsOkx10
import Derived.StillTailTactics
import Derived.IntWalk
import Derived.Deep.RegionHeld3
import Derived.Deep.RegionLaw
namespace Go.Proofs.Ytkkibccnpkbbjaa.MFnPortsOk
open Go.RowKit Go.Proofs.YtkkibccnpkbbjaaV.PrintWords Go.Proofs.YtkkibccnpkbbjaaV.PrintLast Go.Proofs.YtkkibccnpkbbjaaV.PrintMore
attribute [local go_sem] max2_int min2_int max_two min_two max_three min_three max_four min_four
set_option linter.unusedVariables false
set_option linter.unusedSimpArgs false
theorem old_elem {W : World} {base g n c : Nat} {ok : Nat → Prop} {l : List S47} (h : Kd.R k47 47 W base ok (.slice (some ⟨g, 0, none⟩) n c) l) (q : Nat) (hq : q < n) :
    ∃ A1 c1, W.cell? ⟨g, q * 2, none⟩ = some (.int .i64 (rd_T47 l (q : Int)).f0) ∧ W.cell? ⟨g, q * 2 + 1, none⟩ = some (.slice A1 (rd_T47 l (q : Int)).f1.length c1) ∧ k47.M W base (fun k => ok k ∧ k ≠ g) (rd_T47 l (q : Int)) [.int .i64 (rd_T47 l (q : Int)).f0, .slice A1 (rd_T47 l (q : Int)).f1.length c1] := by
  obtain ⟨cs, hcl, hM, hcc, hfr⟩ := Kd.R_elem h z47 (q : Int) (by omega) (by omega)
  have hM' : k47.M W base (fun k => ok k ∧ k ≠ g) (rd_T47 l (q : Int)) cs := hM
  obtain ⟨v1, rfl, g1⟩ := k47_openM hM'
  obtain ⟨A1, c1, hv1⟩ := Kd.R_slice g1
  subst hv1
  rw [Int.toNat_natCast] at hcc
  exact ⟨A1, c1, hcc 0 _ rfl, hcc 1 _ rfl, hM'⟩
/-! ### spec.l20Ports: what is held while ports are drawn -/
def few47 (l : List S47) : Prop := l.length ≤ 5 ∧ ∀ p ∈ l, p.f1.length ≤ 4 ∧ ∀ m ∈ p.f1, m.f3.length ≤ 40
def few47b (l : List S47) : Prop := l.length ≤ 6 ∧ ∀ p ∈ l, p.f1.length ≤ 5 ∧ ∀ m ∈ p.f1, m.f3.length ≤ 41
def mailIn (a f t : Int) (D : List Int) (n : Int) : Prop := (0 ≤ a ∧ a ≤ 4) ∧ D.length ≤ 41 ∧ (∀ x ∈ D, 0 ≤ x ∧ x ≤ 255) ∧ (n ≤ 0 → (1 ≤ f ∧ f ≤ 255) ∧ (1 ≤ t ∧ t ≤ 255) ∧ D.length ≤ 40)
/-- The reader answers: numbers, odds and messages. -/
def rdOk (s : List Int) : Prop :=
  (∀ p n : Int, 0 ≤ p → p ≤ 100000 → 1 ≤ n → ∃ (k : Nat) (v : Int), spec_l20Rd_pick.f k s p n = some (v, p + 1) ∧ 0 ≤ v ∧ v < n) ∧
  (∀ p n : Int, 0 ≤ p → p ≤ 100000 → 1 ≤ n → ∃ (k : Nat) (b : Bool) (p' : Int), spec_l20Rd_odd.f k s p n = some (b, p') ∧ p ≤ p' ∧ p' ≤ p + 1) ∧
  (∀ p n : Int, 0 ≤ p → p ≤ 100000 → ∃ (k : Nat) (a f t : Int) (D : List Int) (p' : Int), spec_l20Mail.f k s p n = some (a, f, t, D, p') ∧ mailIn a f t D n ∧ p ≤ p' ∧ p' ≤ p + 100)
/-- Few ports stay few when one listens, and what is asked on the way is answered. -/
def listenAll : Prop := ∀ (L : List S47) (a : Int), few47 L → ∃ (k : Nat) (v : Int) (r : Bool) (o : List S47) (d : Bool), spec_PortsOk.f k L = some r ∧ (r = true → small47 L ∧ L.length ≤ 4) ∧ (r = true → spec_l9At.f k L a = some v) ∧ (0 ≤ v ↔ L.findIdx (fun p => p.f0 == a) < L.length) ∧ listenP r L a = (o, d) ∧ few47 o
/-- Few ports stay few when one hears a drawn message. -/
def hearAll : Prop := ∀ (L : List S47) (a f t : Int) (D : List Int), few47 L → mailIn a f t D 0 → ∃ (k k1 : Nat) (b : List Int) (o : List S47) (d : Int), spec_MailBytes.f k a f t D 3 = some b ∧ hearS k1 L 3 a 3 2 0 0 0 false false b o d ∧ few47 o
section
variable {α : Type} {d : Kd α} {e : Nat} {w W W1 : World} {base g : Nat} {v : Value} {xs : List α}
theorem S_kb (h : Kd.S d e W base (fun _ => True) v xs) (hg : g < base) (hk : KeepBut W W1 g none) : Kd.S d e W1 base (fun _ => True) v xs := Kd.S_mono (Kd.S_keep (Kd.S_fresh h) hk (fun k hk => by have := hk.2; omega)) (fun _ _ => trivial)
theorem R_kb (h : d.R e W base (fun _ => True) v xs) (hg : g < base) (hk : KeepBut W W1 g none) : d.R e W1 base (fun _ => True) v xs := Kd.R_mono (Kd.R_keep (Kd.R_fresh h) hk (fun k hk => by have := hk.2; omega)) (fun _ _ => trivial)
theorem kb_below (h : KeepBut w W g none) (hb : Below w.heap.size W W1) : KeepBut w W1 g none := ⟨Nat.le_trans h.1 hb.size, fun i hi hg hr => (hb.block i hi).trans (h.2 i hi hg hr)⟩
end
/-- What is held: the ports, the reader, and all else as it was. -/
def inL (w0 w : World) (g : Nat) (s : List Int) (W : World) (q : Int) (v : Value) (L : List S47) : Prop :=
  Kd.S k47S 47 W w.heap.size (fun _ => True) v L ∧ few47 L ∧ IsS93 w0 W g s q ∧ Below w0.heap.size w0 W ∧ KeepBut w W g none ∧ g < w.heap.size ∧ w0.heap.size ≤ w.heap.size ∧ w.heap.size ≤ W.heap.size
theorem is_belowb {w0 W W1 : World} {g n : Nat} {s : List Int} {q : Int} (h : IsS93 w0 W g s q) (hg : g < n) (hb : Below n W W1) : IsS93 w0 W1 g s q := by
  obtain ⟨A0, c0, h1, h2, h3⟩ := h
  exact ⟨A0, c0, (hb.block g hg).trans h1, h2, h3⟩
theorem is_lt {w0 W : World} {g : Nat} {s : List Int} {q : Int} (h : IsS93 w0 W g s q) : g < W.heap.size := by
  obtain ⟨A0, c0, h1, h2, h3⟩ := h
  exact blk_lt h1
theorem inL_start {w0 w w1 : World} {g : Nat} {s : List Int} {q : Int} {v : Value} (hI : IsS93 w0 w g s q) (hB : Below w0.heap.size w0 w) (ho : Kd.S k47S 47 w1 w.heap.size (fun _ => True) v []) (hb : Below w.heap.size w w1) : inL w0 w g s w1 q v [] :=
  ⟨ho, ⟨by simp, fun p hp => by cases hp⟩, is_belowb hI (is_lt hI) hb, hB.trans (hb.mono hB.size), kb_below (KeepBut.refl w g none) hb, is_lt hI, hB.size, hb.size⟩
theorem inL_kb {w0 w W W1 : World} {g : Nat} {s : List Int} {q q1 : Int} {v : Value} {L : List S47} (h : inL w0 w g s W q v L) (hi : IsS93 w0 W1 g s q1) (hb : Below w0.heap.size w0 W1) (hk : KeepBut W W1 g none) : inL w0 w g s W1 q1 v L :=
  ⟨S_kb h.1 h.2.2.2.2.2.1 hk, h.2.1, hi, hb, KeepBut.trans h.2.2.2.2.1 hk (.inl rfl), h.2.2.2.2.2.1, h.2.2.2.2.2.2.1, Nat.le_trans h.2.2.2.2.2.2.2 hk.1⟩
theorem inL_next {w0 w W W1 : World} {g : Nat} {s : List Int} {q : Int} {v v1 : Value} {L L1 : List S47} (h : inL w0 w g s W q v L) (hb : Below w.heap.size W W1) (ho : Kd.S k47S 47 W1 w.heap.size (fun _ => True) v1 L1) (hf : few47 L1) : inL w0 w g s W1 q v1 L1 :=
  ⟨ho, hf, is_belowb h.2.2.1 h.2.2.2.2.2.1 hb, h.2.2.2.1.trans (hb.mono h.2.2.2.2.2.2.1), kb_below h.2.2.2.2.1 hb, h.2.2.2.2.2.1, h.2.2.2.2.2.2.1, Nat.le_trans h.2.2.2.2.2.2.2 hb.size⟩
theorem inL_new {w0 w W W1 : World} {g : Nat} {s : List Int} {q : Int} {v v1 : Value} {L L1 : List S47} (h : inL w0 w g s W q v L) (hb : Below W.heap.size W W1) (ho : Kd.S k47S 47 W1 W.heap.size (fun _ => True) v1 L1) (hf : few47 L1) : inL w0 w g s W1 q v1 L1 := inL_next h (hb.mono h.2.2.2.2.2.2.2) (Kd.S_lower ho h.2.2.2.2.2.2.2) hf
theorem inL_below {w0 w W W1 : World} {g : Nat} {s : List Int} {q : Int} {v : Value} {L : List S47} (h : inL w0 w g s W q v L) (hb : Below W.heap.size W W1) : inL w0 w g s W1 q v L := inL_next h (hb.mono h.2.2.2.2.2.2.2) (Kd.S_below h.1 hb) h.2.1
theorem inL_drew {w0 w W : World} {g : Nat} {s : List Int} {q : Int} {v : Value} {L : List S47} (h : inL w0 w g s W q v L) : inL w0 w g s W.drew q v L := inL_below h (below_drew (Below.refl _ _))
theorem few47_b {L : List S47} (h : few47 L) : few47b L := ⟨by have := h.1; omega, fun p hp => ⟨by have := (h.2 p hp).1; omega, fun m hm => by have := (h.2 p hp).2 m hm; omega⟩⟩
/-! ### spec.l20Ports: the first port spoilt -/
theorem num_set {W : World} {base g n cap : Nat} {ok : Nat → Prop} {l : List S47} (h : Kd.S k47S 47 W base ok (.slice (some ⟨g, 0, none⟩) n cap) l) (i : Nat) (hi : i < n) (N : Int) :
    W.frozen? ⟨g, i * 2, none⟩ = false ∧ W.cell? ⟨g, i * 2, none⟩ = some (.int .i64 (rd_T47 l (i : Int)).f0) ∧ Kd.R k47 47 (W.setCell ⟨g, i * 2, none⟩ (.int .i64 N)) base ok (.slice (some ⟨g, 0, none⟩) n cap) (l.set i ⟨N, (rd_T47 l (i : Int)).f1⟩) := by
  obtain ⟨oki, c, hcl, hM, hcc, hfr, hoki, _⟩ := Kd.S_elem h z47 (i : Int) (by omega) (by omega)
  have hM' : k47S.M W base oki (rd_T47 l (i : Int)) c := hM
  obtain ⟨v1, rfl, g1⟩ := k47S_openM hM'
  rw [Int.toNat_natCast] at hcc hfr
  have := Kd.R_seg (k47S_R h) (i : Int) (by omega) (by omega) (c := [.int .i64 (rd_T47 l (i : Int)).f0, v1]) (seg := [.int .i64 N]) (j := 0) rfl (by rw [Int.toNat_natCast]; exact hcc) (by show 0 + 1 ≤ 2; omega) (x' := ⟨N, (rd_T47 l (i : Int)).f1⟩) (okp := fun k => ok k ∧ k ≠ g) (k47_mkM _ _ _ ⟨N, (rd_T47 l (i : Int)).f1⟩ (Kd.R_mono (Kd.S_R g1) hoki)) (fun k hk => hk)
  rw [Int.toNat_natCast] at this
  exact ⟨hfr 0, hcc 0 _ rfl, this.1⟩
theorem few47b_num {L : List S47} (h : few47 L) (hl : 0 < L.length) (N : Int) : few47b (L.set 0 ⟨N, (rd_T47 L 0).f1⟩) := by
  refine ⟨by rw [List.length_set]; have := h.1; omega, fun p hp => ?_⟩
  rcases List.mem_or_eq_of_mem_set hp with h3 | h3
  · exact (few47_b h).2 p h3
  · have h4 := (few47_b h).2 _ (rd47_mem L 0 hl)
    subst h3
    exact h4
theorem few47b_two {L : List S47} (h : few47 L) (hl : 0 < L.length) : few47b (L ++ [rd_T47 L 0]) := by
  refine ⟨by rw [List.length_append, List.length_singleton]; have := h.1; omega, fun p hp => ?_⟩
  rcases List.mem_append.1 hp with hp | hp
  · exact (few47_b h).2 p hp
  · rw [List.mem_singleton.1 hp]
    exact (few47_b h).2 _ (rd47_mem L 0 hl)
theorem few47b_row {L : List S47} (h : few47 L) (hl : 0 < L.length) (m : S40) (hm : m.f3.length ≤ 41) : few47b (L.set 0 ⟨(rd_T47 L 0).f0, (rd_T47 L 0).f1 ++ [m]⟩) := by
  refine ⟨by rw [List.length_set]; have := h.1; omega, fun p hp => ?_⟩
  rcases List.mem_or_eq_of_mem_set hp with h3 | h3
  · exact (few47_b h).2 p h3
  · have h4 := h.2 _ (rd47_mem L 0 hl)
    subst h3
    refine ⟨by show ((rd_T47 L 0).f1 ++ [m]).length ≤ 5; rw [List.length_append, List.length_singleton]; have := h4.1; simp only [Int.ofNat_zero] at this; omega, fun y hy => ?_⟩
    rcases List.mem_append.1 hy with hy | hy
    · have := h4.2 y hy; omega
    · rw [List.mem_singleton.1 hy]
      exact hm
/-- What is held behind a step that leaves ports as they may be read. -/
theorem inL_end {w0 w W W1 : World} {g : Nat} {s : List Int} {p q : Int} {v : Value} {L : List S47} (h : inL w0 w g s W q v L) (hb : Below w.heap.size W W1) (hq : p ≤ q ∧ q ≤ p + 2000) : IsS93 w0 W1 g s q ∧ p ≤ q ∧ q ≤ p + 2000 ∧ Below w0.heap.size w0 W1 ∧ KeepBut w W1 g none :=
  ⟨is_belowb h.2.2.1 h.2.2.2.2.2.1 hb, hq.1, hq.2, h.2.2.2.1.trans (hb.mono h.2.2.2.2.2.2.1), kb_below h.2.2.2.2.1 hb⟩
theorem dec_j {j : Nat} (h : 0 < j) (h1 : j ≤ 1000) : Value.int .i64 (wrap64 ((j : Int) - 1)) = Value.int .i64 ((j - 1 : Nat) : Int) := by
  congr 1
  unfold wrap64
  omega
theorem dec_m {j : Nat} (h : 0 < j) (h1 : j ≤ 1000) : (intOf (Value.int .i64 (wrap64 ((j : Int) - 1)))).toNat < (intOf (Value.int .i64 (j : Int))).toNat := by
  simp only [intOf]
  unfold wrap64
  omega
theorem slice_inj {A A' : Option Addr} {n n' c c' : Nat} (h : Value.slice A n c = Value.slice A' n' c') : A = A' ∧ c = c' := by
  injection h with h1 h2 h3
  exact ⟨h1, h3⟩
end Go.Proofs.Ytkkibccnpkbbjaa.MFnPortsOk
