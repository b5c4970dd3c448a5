/- Functions that the law FnPortHear reaches, typed by hand (part 4): what the program's and the reference's ports' functions do, and the walk of the law; no conditions but those that each theorem states. -/
import Derived.Test.YtkkibccnpkbbjaaMFnPortHearx22
import Derived.StillTailTactics
import Derived.IntWalk
import Derived.Deep.RegionHeld3
import Derived.Shelf.Spec.SlicesInsertGrow
import Derived.Deep.QuietTactic
import Derived.BigQuiet
import Derived.Deep.RegionLaw
namespace Go.Proofs.Ytkkibccnpkbbjaa.MFnPortsOk
open Go.RowKit Go.Proofs.YtkkibccnpkbbjaaV.PrintWords Go.Proofs.YtkkibccnpkbbjaaV.PrintLast Go.Proofs.YtkkibccnpkbbjaaV.PrintMore
attribute [local go_sem] max2_int min2_int max_two min_two max_three min_three max_four min_four
set_option linter.unusedVariables false
set_option linter.unusedSimpArgs false
/-! ### a packet in a box, drawn ports beside it -/
theorem inn_box9 {w5 : World} {g : Nat} {t : TypeId} {u0 u1 u2 u3 u4 u5 u6 u7 u8 : Value} (h : w5.heap[g]? = some (.cells #[u0, u1, u2, u3, u4, u5, u6, u7, u8] t (0, 0))) (v0 v1 v2 v3 v4 v5 v6 v7 v8 : Value) : (((((((((w5.setCell ⟨g, 0, none⟩ v0).setCell ⟨g, 1, none⟩ v1).setCell ⟨g, 2, none⟩ v2).setCell ⟨g, 3, none⟩ v3).setCell ⟨g, 4, none⟩ v4).setCell ⟨g, 5, none⟩ v5).setCell ⟨g, 6, none⟩ v6).setCell ⟨g, 7, none⟩ v7).setCell ⟨g, 8, none⟩ v8).heap[g]? = some (.cells #[v0, v1, v2, v3, v4, v5, v6, v7, v8] t (0, 0)) :=
  blk_put (cs := #[v0, v1, v2, v3, v4, v5, v6, v7, u8]) (blk_put (cs := #[v0, v1, v2, v3, v4, v5, v6, u7, u8]) (blk_put (cs := #[v0, v1, v2, v3, v4, v5, u6, u7, u8]) (blk_put (cs := #[v0, v1, v2, v3, v4, u5, u6, u7, u8]) (blk_put (cs := #[v0, v1, v2, v3, u4, u5, u6, u7, u8]) (blk_put (cs := #[v0, v1, v2, u3, u4, u5, u6, u7, u8]) (blk_put (cs := #[v0, v1, u2, u3, u4, u5, u6, u7, u8]) (blk_put (cs := #[v0, u1, u2, u3, u4, u5, u6, u7, u8]) (blk_put (cs := #[u0, u1, u2, u3, u4, u5, u6, u7, u8]) h 0 v0 rfl) 1 v1 rfl) 2 v2 rfl) 3 v3 rfl) 4 v4 rfl) 5 v5 rfl) 6 v6 rfl) 7 v7 rfl) 8 v8 rfl
theorem below_n9 {n : Nat} {w w5 : World} {g : Nat} (hb : Below n w w5) (hg : n ≤ g) (v0 v1 v2 v3 v4 v5 v6 v7 v8 : Value) : Below n w (((((((((w5.setCell ⟨g, 0, none⟩ v0).setCell ⟨g, 1, none⟩ v1).setCell ⟨g, 2, none⟩ v2).setCell ⟨g, 3, none⟩ v3).setCell ⟨g, 4, none⟩ v4).setCell ⟨g, 5, none⟩ v5).setCell ⟨g, 6, none⟩ v6).setCell ⟨g, 7, none⟩ v7).setCell ⟨g, 8, none⟩ v8) :=
  (Below.setCell (Below.setCell (Below.setCell (Below.setCell (Below.setCell (Below.setCell (Below.setCell (Below.setCell (Below.setCell hb (p := ⟨g, 0, none⟩) hg v0) (p := ⟨g, 1, none⟩) hg v1) (p := ⟨g, 2, none⟩) hg v2) (p := ⟨g, 3, none⟩) hg v3) (p := ⟨g, 4, none⟩) hg v4) (p := ⟨g, 5, none⟩) hg v5) (p := ⟨g, 6, none⟩) hg v6) (p := ⟨g, 7, none⟩) hg v7) (p := ⟨g, 8, none⟩) hg v8)
theorem R_box9 {α : Type} {d : Kd α} {e : Nat} {w5 : World} {base g : Nat} {ok : Nat → Prop} {v : Value} {xs : List α} (h : d.R e w5 base ok v xs) (hok : ∀ k, ok k → k ≠ g) (v0 v1 v2 v3 v4 v5 v6 v7 v8 : Value) : d.R e (((((((((w5.setCell ⟨g, 0, none⟩ v0).setCell ⟨g, 1, none⟩ v1).setCell ⟨g, 2, none⟩ v2).setCell ⟨g, 3, none⟩ v3).setCell ⟨g, 4, none⟩ v4).setCell ⟨g, 5, none⟩ v5).setCell ⟨g, 6, none⟩ v6).setCell ⟨g, 7, none⟩ v7).setCell ⟨g, 8, none⟩ v8) base ok v xs :=
  (Kd.R_far (Kd.R_far (Kd.R_far (Kd.R_far (Kd.R_far (Kd.R_far (Kd.R_far (Kd.R_far (Kd.R_far h hok _) hok _) hok _) hok _) hok _) hok _) hok _) hok _) hok _)
theorem R_kb2 {α : Type} {d : Kd α} {e : Nat} {W W1 : World} {base g : Nat} {ok : Nat → Prop} {v : Value} {xs : List α} (h : d.R e W base ok v xs) (hg : g < base) (hk : KeepBut W W1 g none) : d.R e W1 base ok v xs := Kd.R_mono (Kd.R_keep (Kd.R_fresh h) hk (fun k hk => by have := hk.2; omega)) (fun _ h => h.1)
/-- The cells of a packet. -/
def pkCells (p0 p1 p2 p3 p4 p5 : Int) (p6 p7 : Bool) (v : Value) : Obj := .cells #[.int .i64 p0, .int .i64 p1, .int .i64 p2, .int .i64 p3, .int .i64 p4, .int .i64 p5, .bool p6, .bool p7, v] 52 (0, 0)
/-- What is known while the packet is turned: its box g8, the box g4 of what goes back, the reader g, the ports and the packet's bytes. -/
def pkS (w0 : World) (n g g4 g8 : Nat) (s : List Int) (W : World) (q : Int) (vl : Value) (L : List S47) (p0 p1 p2 p3 p4 p5 : Int) (p6 p7 : Bool) (vd : Value) (D : List Int) : Prop :=
  W.heap[g8]? = some (pkCells p0 p1 p2 p3 p4 p5 p6 p7 vd) ∧ W.heap[g4]? = some (pkCells 0 0 0 0 0 0 false false (.slice none 0 0)) ∧ IsS93 w0 W g s q ∧ Kd.R k47 47 W n (fun k => k ≠ g8) vl L ∧ (Kd.int .u8).R 5 W n (fun k => k ≠ g8) vd D ∧ Below w0.heap.size w0 W ∧ (g < n ∧ g4 < n ∧ n ≤ g8 ∧ w0.heap.size ≤ n ∧ w0.heap.size ≤ g4 ∧ g4 ≠ g)
section
variable {w0 : World} {n g g4 g8 : Nat} {s : List Int} {W W1 : World} {q q1 : Int} {vl : Value} {L : List S47} {p0 p1 p2 p3 p4 p5 : Int} {p6 p7 : Bool} {vd : Value} {D : List Int}
theorem pkS_kb (h : pkS w0 n g g4 g8 s W q vl L p0 p1 p2 p3 p4 p5 p6 p7 vd D) (hi : IsS93 w0 W1 g s q1) (hb : Below w0.heap.size w0 W1) (hk : KeepBut W W1 g none) : pkS w0 n g g4 g8 s W1 q1 vl L p0 p1 p2 p3 p4 p5 p6 p7 vd D := by
  obtain ⟨h1, h2, h3, h4, h5, h6, n1, n2, n3, n4, n5, n6⟩ := h
  exact ⟨KeepBut.blk hk h1 (by omega) (by simp), KeepBut.blk hk h2 n6 (by simp), hi, R_kb2 h4 n1 hk, R_kb2 h5 n1 hk, hb, n1, n2, n3, n4, n5, n6⟩
theorem pkS_n (h : pkS w0 n g g4 g8 s W q vl L p0 p1 p2 p3 p4 p5 p6 p7 vd D) (hb : Below n W W1) : W1.heap[g4]? = some (pkCells 0 0 0 0 0 0 false false (.slice none 0 0)) ∧ IsS93 w0 W1 g s q ∧ Below w0.heap.size w0 W1 := by
  obtain ⟨h1, h2, h3, h4, h5, h6, n1, n2, n3, n4, n5, n6⟩ := h
  exact ⟨(hb.block g4 n2).trans h2, is_belowb h3 n1 hb, h6.trans (hb.mono n4)⟩
theorem pkS_set2 (h : pkS w0 n g g4 g8 s W q vl L p0 p1 p2 p3 p4 p5 p6 p7 vd D) (x : Int) : pkS w0 n g g4 g8 s (W.setCell ⟨g8, 2, none⟩ (.int .i64 x)) q vl L p0 p1 x p3 p4 p5 p6 p7 vd D := by
  have hb := Below.setCell (Below.refl n W) (p := ⟨g8, 2, none⟩) h.2.2.2.2.2.2.2.2.1 (.int .i64 x)
  obtain ⟨k1, k2, k3⟩ := pkS_n h hb
  obtain ⟨h1, h2, h3, h4, h5, h6, n1⟩ := h
  exact ⟨blk_put (cs := #[.int .i64 p0, .int .i64 p1, .int .i64 p2, .int .i64 p3, .int .i64 p4, .int .i64 p5, .bool p6, .bool p7, vd]) h1 2 _ rfl, k1, k2, Kd.R_far h4 (fun _ h => h) _, Kd.R_far h5 (fun _ h => h) _, k3, n1⟩
theorem pkS_set0 (h : pkS w0 n g g4 g8 s W q vl L p0 p1 p2 p3 p4 p5 p6 p7 vd D) (x : Int) : pkS w0 n g g4 g8 s (W.setCell ⟨g8, 0, none⟩ (.int .i64 x)) q vl L x p1 p2 p3 p4 p5 p6 p7 vd D := by
  have hb := Below.setCell (Below.refl n W) (p := ⟨g8, 0, none⟩) h.2.2.2.2.2.2.2.2.1 (.int .i64 x)
  obtain ⟨k1, k2, k3⟩ := pkS_n h hb
  obtain ⟨h1, h2, h3, h4, h5, h6, n1⟩ := h
  exact ⟨blk_put (cs := #[.int .i64 p0, .int .i64 p1, .int .i64 p2, .int .i64 p3, .int .i64 p4, .int .i64 p5, .bool p6, .bool p7, vd]) h1 0 _ rfl, k1, k2, Kd.R_far h4 (fun _ h => h) _, Kd.R_far h5 (fun _ h => h) _, k3, n1⟩
theorem pkS_put (h : pkS w0 n g g4 g8 s W q vl L p0 p1 p2 p3 p4 p5 p6 p7 vd D) (x0 x1 x2 x3 x4 x5 : Int) (x6 x7 : Bool) (ve : Value) (E : List Int) (hE : (Kd.int .u8).R 5 W n (fun k => k ≠ g8) ve E) : pkS w0 n g g4 g8 s (((((((((W.setCell ⟨g8, 0, none⟩ (.int .i64 x0)).setCell ⟨g8, 1, none⟩ (.int .i64 x1)).setCell ⟨g8, 2, none⟩ (.int .i64 x2)).setCell ⟨g8, 3, none⟩ (.int .i64 x3)).setCell ⟨g8, 4, none⟩ (.int .i64 x4)).setCell ⟨g8, 5, none⟩ (.int .i64 x5)).setCell ⟨g8, 6, none⟩ (.bool x6)).setCell ⟨g8, 7, none⟩ (.bool x7)).setCell ⟨g8, 8, none⟩ ve) q vl L x0 x1 x2 x3 x4 x5 x6 x7 ve E := by
  have hb := below_n9 (Below.refl n W) h.2.2.2.2.2.2.2.2.1 (.int .i64 x0) (.int .i64 x1) (.int .i64 x2) (.int .i64 x3) (.int .i64 x4) (.int .i64 x5) (.bool x6) (.bool x7) ve
  obtain ⟨k1, k2, k3⟩ := pkS_n h hb
  obtain ⟨h1, h2, h3, h4, h5, h6, n1⟩ := h
  exact ⟨inn_box9 h1 _ _ _ _ _ _ _ _ _, k1, k2, R_box9 h4 (fun _ h => h) _ _ _ _ _ _ _ _ _, R_box9 hE (fun _ h => h) _ _ _ _ _ _ _ _ _, k3, n1⟩
theorem pkS_startA {n0 : Nat} {w6 : World} (hO : Kd.R k47 47 W n (fun _ => True) vl L) (hI : IsS93 w0 W g s q) (hX : W.heap[g4]? = some (pkCells 0 0 0 0 0 0 false false (.slice none 0 0))) (hB : Below w0.heap.size w0 W) (hn : g < n ∧ g4 < n ∧ n ≤ W.heap.size ∧ w0.heap.size ≤ n ∧ w0.heap.size ≤ g4 ∧ g4 ≠ g) (hb : Below W.heap.size W w6) (hx : w6.heap[W.heap.size]? = some (pkCells 0 0 0 0 0 0 false false (.slice none 0 0))) :
    pkS w0 n g g4 W.heap.size s w6 q vl L 0 0 0 0 0 0 false false (.slice none 0 0) [] := by
  obtain ⟨n1, n2, n3, n4, n5, n6⟩ := hn
  exact ⟨hx, blk_below hX hb, is_belowb hI (is_lt hI) hb, Kd.R_mono (Kd.R_below (Kd.R_elder0 hO) hb) (fun k hk => by have := hk.2; omega), Kd.R_nil _ _ _ _ _, below_step hB hb, n1, n2, n3, n4, n5, n6⟩
theorem pkS_startB {m : Nat} {w6 : World} (hO : Kd.R k47 47 W n (fun _ => True) vl L) (hI : IsS93 w0 W g s q) (hX : W.heap[g4]? = some (pkCells 0 0 0 0 0 0 false false (.slice none 0 0))) (hB : Below w0.heap.size w0 W) (hn : g < n ∧ g4 < n ∧ n ≤ W.heap.size ∧ w0.heap.size ≤ n ∧ w0.heap.size ≤ g4 ∧ g4 ≠ g) (hb : Below W.heap.size W w6) (hD : (Kd.int .u8).R 5 w6 m (fun _ => True) vd D) (hm : n ≤ m) (x0 x1 x2 x3 x4 x5 : Int) (x6 x7 : Bool) :
    pkS w0 n g g4 w6.heap.size s (w6.alloc (pkCells x0 x1 x2 x3 x4 x5 x6 x7 vd)) q vl L x0 x1 x2 x3 x4 x5 x6 x7 vd D := by
  obtain ⟨n1, n2, n3, n4, n5, n6⟩ := hn
  have ha : Below w6.heap.size w6 (w6.alloc (pkCells x0 x1 x2 x3 x4 x5 x6 x7 vd)) := below_alloc (Below.refl _ _) _
  have hb2 := below_step hb ha
  exact ⟨blk_new w6 _, blk_below hX hb2, is_belowb hI (is_lt hI) hb2, Kd.R_mono (Kd.R_below (Kd.R_elder0 (Kd.R_below hO hb)) ha) (fun k hk => by have := hk.2; omega), Kd.R_mono (Kd.R_below (Kd.R_elder0 (Kd.R_lower hD hm)) ha) (fun k hk => by have := hk.2; omega), below_step hB hb2, n1, n2, Nat.le_trans n3 hb.size, n4, n5, n6⟩
theorem D_new {w6 : World} {o : Obj} (h : (Kd.int .u8).R 5 w6 (W.alloc o).drew.heap.size (fun _ => True) vd D) (hn : n ≤ W.heap.size) : (Kd.int .u8).R 5 w6 n (fun k => k ≠ W.heap.size) vd D := by
  have e : (W.alloc o).drew.heap.size = W.heap.size + 1 := Array.size_push ..
  rw [e] at h
  exact Kd.R_mono (Kd.R_lower (Kd.R_fresh h) (by omega)) (fun k hk => by have := hk.2; omega)
theorem D_fresh {w8 w9 : World} {E : List Int} {ve : Value} (h : pkS w0 n g g4 g8 s w8 q vl L p0 p1 p2 p3 p4 p5 p6 p7 vd D) (hE : (Kd.int .u8).R 5 w9 w8.heap.size (fun _ => True) ve E) : (Kd.int .u8).R 5 w9 n (fun k => k ≠ g8) ve E := by
  have h1 := blk_lt h.1
  have h2 := h.2.2.2.2.2.2.2.2.1
  exact Kd.R_mono (Kd.R_lower (Kd.R_fresh hE) (by omega)) (fun k hk => by have := hk.2; omega)
/-- The packet goes into the box g4: what is read of the ports and of its bytes. -/
theorem pkS_out (h : pkS w0 n g g4 g8 s W q vl L p0 p1 p2 p3 p4 p5 p6 p7 vd D) (v0 v1 v2 v3 v4 v5 v6 v7 v8 : Value) :
    Kd.R k47 47 (((((((((W.setCell ⟨g4, 0, none⟩ v0).setCell ⟨g4, 1, none⟩ v1).setCell ⟨g4, 2, none⟩ v2).setCell ⟨g4, 3, none⟩ v3).setCell ⟨g4, 4, none⟩ v4).setCell ⟨g4, 5, none⟩ v5).setCell ⟨g4, 6, none⟩ v6).setCell ⟨g4, 7, none⟩ v7).setCell ⟨g4, 8, none⟩ v8) n (fun k => k ≠ g8 ∧ n ≤ k) vl L ∧ (Kd.int .u8).R 5 (((((((((W.setCell ⟨g4, 0, none⟩ v0).setCell ⟨g4, 1, none⟩ v1).setCell ⟨g4, 2, none⟩ v2).setCell ⟨g4, 3, none⟩ v3).setCell ⟨g4, 4, none⟩ v4).setCell ⟨g4, 5, none⟩ v5).setCell ⟨g4, 6, none⟩ v6).setCell ⟨g4, 7, none⟩ v7).setCell ⟨g4, 8, none⟩ v8) n (fun k => k ≠ g8 ∧ n ≤ k) vd D ∧ Below w0.heap.size w0 (((((((((W.setCell ⟨g4, 0, none⟩ v0).setCell ⟨g4, 1, none⟩ v1).setCell ⟨g4, 2, none⟩ v2).setCell ⟨g4, 3, none⟩ v3).setCell ⟨g4, 4, none⟩ v4).setCell ⟨g4, 5, none⟩ v5).setCell ⟨g4, 6, none⟩ v6).setCell ⟨g4, 7, none⟩ v7).setCell ⟨g4, 8, none⟩ v8) ∧ (((((((((W.setCell ⟨g4, 0, none⟩ v0).setCell ⟨g4, 1, none⟩ v1).setCell ⟨g4, 2, none⟩ v2).setCell ⟨g4, 3, none⟩ v3).setCell ⟨g4, 4, none⟩ v4).setCell ⟨g4, 5, none⟩ v5).setCell ⟨g4, 6, none⟩ v6).setCell ⟨g4, 7, none⟩ v7).setCell ⟨g4, 8, none⟩ v8).heap[g4]? = some (.cells #[v0, v1, v2, v3, v4, v5, v6, v7, v8] 52 (0, 0)) := by
  obtain ⟨h1, h2, h3, h4, h5, h6, n1, n2, n3, n4, n5, n6⟩ := h
  exact ⟨R_box9 (Kd.R_fresh h4) (fun k hk => by have := hk.2; omega) _ _ _ _ _ _ _ _ _, R_box9 (Kd.R_fresh h5) (fun k hk => by have := hk.2; omega) _ _ _ _ _ _ _ _ _, below_n9 h6 n5 _ _ _ _ _ _ _ _ _, inn_box9 h2 _ _ _ _ _ _ _ _ _⟩
theorem pkS_ne (h : pkS w0 n g g4 g8 s W q vl L p0 p1 p2 p3 p4 p5 p6 p7 vd D) : g4 ≠ g8 := by
  obtain ⟨h1, h2, h3, h4, h5, h6, n1, n2, n3, n4, n5, n6⟩ := h
  omega
end
/-! ### drawn ports and a packet -/
/-- A code is opened, and its reader answers. -/
def codeOk (l : List Int) (s : List Int) : Prop := spec_l20Open.f l = some (s, 0) ∧ rdOk s
/-- The reader draws packets, and drawn messages have bytes. -/
def rdPk (s : List Int) : Prop :=
  (∀ p : Int, 0 ≤ p → p ≤ 100000 → ∃ (k : Nat) (p0 p1 p2 p3 p4 p5 : Int) (p6 p7 : Bool) (D : List Int) (p' : Int), spec_l20Packet.f k s p 2 = some (p0, p1, p2, p3, p4, p5, p6, p7, D, p') ∧ D.length ≤ 1000 ∧ ∀ x ∈ D, 0 ≤ x ∧ x ≤ 255) ∧
  (∀ (a f t : Int) (D : List Int), mailIn a f t D 0 → ∃ (k : Nat) (b : List Int), spec_MailBytes.f k a f t D 3 = some b ∧ b.length ≤ 1000 ∧ ∀ x ∈ b, 0 ≤ x ∧ x ≤ 255)
theorem ne_93 {w0 W : World} {g g4 : Nat} {s : List Int} {q : Int} {cs : Array Value} (h : W.heap[g4]? = some (.cells cs 52 (0, 0))) (hi : IsS93 w0 W g s q) : g4 ≠ g := by
  rintro rfl
  obtain ⟨A0, c0, h1, _⟩ := hi
  rw [h] at h1
  simp at h1
set_option maxHeartbeats 8000000 in
set_option maxRecDepth 100000 in
theorem drawPortHear_any (A0 : Option Addr) (c0 : Nat) (l s : List Int) (w : World) (hr0 : Kd.C (Kd.int .u8) w A0 l.length l) (hc0 : l.length ≤ c0) (hs : codeOk l s) (hP : rdPk s) (hL : listenAll) (hH : hearAll) :
    Calls Try.prog 37 #[.slice A0 l.length c0] w fun e w' => ∃ (A : Option Addr) (c : Nat) (L : List S47) (p0 p1 p2 p3 p4 p5 : Int) (p6 p7 : Bool) (Ad : Option Addr) (cd : Nat) (D : List Int), e = .returned (.tuple #[.slice A L.length c, .int .i64 3, .agg #[.int .i64 p0, .int .i64 p1, .int .i64 p2, .int .i64 p3, .int .i64 p4, .int .i64 p5, .bool p6, .bool p7, .slice Ad D.length cd]]) ∧ few47b L ∧ (D.length ≤ 1000 ∧ ∀ x ∈ D, 0 ≤ x ∧ x ≤ 255) ∧ (Kd.C k47 w' A L.length L ∧ L.length ≤ c) ∧ (Kd.C (Kd.int .u8) w' Ad D.length D ∧ D.length ≤ cd) ∧ Below w.heap.size w w' := by
  have hu40 := Try.underlying40
  have hu52 := Try.underlying52
  have HR := mk_ hr0
  have HC0 := mk_ hc0
  obtain ⟨hs1, hs2⟩ := hs
  have HS1 := mk_ hs1
  have HS2 := mk_ hs2
  have HPK := mk_ hP
  have HLS := mk_ hL
  have HHR := mk_ hH
  clear hr0 hc0 hs1 hs2 hL hH hP
  go_enter Try.func37, Try.ntmps37
  go_wp2_with (first | ((with_reducible refine gate_dst (N := 4) rfl ?_); refine box_event ?hg (N := 4) ?hd (cs := #[.int .i64 0, .int .i64 0, .int .i64 0, .int .i64 0, .int .i64 0, .int .i64 0, .bool false, .bool false, .slice none 0 0]) (t := 52) ?hr ?_; (case hd => rfl); (case hg => rfl); (case hr => first | (go_simp; done) | (go_simp; rfl)); intro g4 hg_ w1 hbox_ hb_; have HX4 := mk_ hbox_; have HB1 := mk_ hb_; have HG4 := mk_ (show w.heap.size ≤ g4 from Nat.le_of_eq hg_.symm); have ge4 := ge_ HG4.out; clear hg_ hbox_ hb_) | (go_at_call 49; (with_reducible refine (spec_l20Open.calls A0 c0 l s 0 w _ ?s1 ?s2 ?s3 HS1.out).mono ?_); (case s1 => exact us_ HB1.out); (case s2 => exact HR.out); (case s3 => exact HC0.out); rintro e w2 ⟨g, rfl, hi, hb0, hb⟩; have HI := mk_ hi; have HB2 := mk_ hb0; have HX42 := mk_ (blk_below (u_ HX4.out) hb); have HN4 := mk_ (blk_lt (blk_below (u_ HX4.out) hb)); have HZ2 := mk_ hb0.size; have HG1 := mk_ (is_lt hi); have HNG := mk_ (ne_93 (blk_below (u_ HX4.out) hb) hi); clear hi hb0 hb) | (go_at_call 48; (with_reducible refine (l20Ports_any g s 0 15 w _ ?s1 ?s2 (by omega) (by omega) (by omega) HS2.out HLS.out HHR.out).mono ?_); (case s1 => exact HI.out); (case s2 => exact HB2.out); rintro e w3 ⟨A, c, L, p', rfl, hf, ho, hi, hp, hp', hb, hk⟩; have HF := mk_ hf; have HO := mk_ ho; have HB3 := mk_ hb; have HI3 := mk_ hi; have HQ3 := mk_ (show 0 ≤ p' ∧ p' ≤ 2000 from ⟨hp, by omega⟩); have HZ3 := mk_ hk.1; have HX43 := mk_ (KeepBut.blk hk HX42.out HNG.out (by simp)); obtain ⟨k2, a, f, t, D, q2, e1, e2, e3, e4⟩ := HS2.out.2.2 p' 0 (by omega) (by omega); obtain ⟨k3, b, m1, m2, m3⟩ := HPK.out.2 a f t D e2; have M1 := mk_ e1; have M2 := mk_ m1; have M3 := mk_ (show b.length ≤ 1000 ∧ ∀ x ∈ b, 0 ≤ x ∧ x ≤ 255 from ⟨m2, m3⟩); have HQ4 := mk_ (show 0 ≤ q2 ∧ q2 ≤ 2100 from ⟨by omega, by omega⟩); clear hf ho hi hp hp' hb hk e1 e2 e3 e4 m1 m2 m3) | (go_at_call 68; (with_reducible refine (spec_l20Mail.calls k2 g s p' 0 a f t D q2 w _ ?s1 ?s2 M1.out).mono ?_); (case s1 => exact HI3.out); (case s2 => exact HB3.out); rintro e w4 ⟨v9, rfl, hR, hi, hb0, hk⟩; obtain ⟨A9, c9, hv9⟩ := Kd.R_slice hR; subst hv9; have HO4 := mk_ (R_kb HO.out HG1.out hk); have HI4 := mk_ hi; have HG4' := mk_ (is_lt hi); have HZ4 := mk_ hk.1; have HB4 := mk_ hb0; have HM4 := mk_ (Kd.R_reads' hR).2; have HX44 := mk_ (KeepBut.blk hk HX43.out HNG.out (by simp)); clear hR hi hb0 hk) | ((with_reducible refine gate_dst (N := 7) rfl ?_); refine box_event ?hg (N := 7) ?hd (cs := #[.int .i64 0, .int .i64 0, .int .i64 0, .slice none 0 0]) (t := 40) ?hr ?_; (case hd => rfl); (case hg => rfl); (case hr => first | (go_simp; done) | (go_simp; rfl)); intro g7 hg_ w5 hbox_ hb_; have HX7 := mk_ hbox_; have HB5 := mk_ hb_; have HG7 := mk_ (show w4.heap.size ≤ g7 from Nat.le_of_eq hg_.symm); have ge7 := ge_ HG7.out; obtain ⟨_, _, _, _, _, _, _, _⟩ := cells4_ hbox_; clear hg_ hbox_ hb_))
  go_cut [8] (fun v8 wc => ∃ (g8 : Nat) (Ad : Option Addr) (cd : Nat), v8 = .pointer (some ⟨g8, 0, none⟩) ∧ Aside0 (pkS w w2.heap.size g g4 g8 s wc q2 (.slice A L.length c) L a 3 2 3 0 0 false false (.slice Ad b.length cd) b))
  case rest =>
    clear HX7 HB5 HG7 ge7 HX44 HX43 HX42 HX4 HB1 HB2 HB3 HB4 HO4 HO HI HI3 HI4 HM4 M1 M2
    obtain ⟨g8, Ad, cd, rfl, HPS⟩ := hcut
    obtain ⟨k4, v4, e1, e2, e3⟩ := HS2.out.1 q2 9 (by have := HQ4.out; omega) (by have := HQ4.out; omega) (by omega)
    have E4 := mk_ e1
    clear e1
    have Z0 := mk_ trivial
    rcases (show v4 = 0 ∨ v4 = 1 ∨ v4 = 2 ∨ (v4 ≠ 0 ∧ v4 ≠ 1 ∧ v4 ≠ 2) from by omega) with rfl | rfl | rfl | ⟨hn0, hn1, hn2⟩
    · obtain ⟨k5, x0, x1, x2, x3, x4, x5, x6, x7, E, q5, d1, d2, d3⟩ := HPK.out.1 (q2 + 1) (by have := HQ4.out; omega) (by have := HQ4.out; omega)
      have E5 := mk_ d1
      have HE := mk_ (show E.length ≤ 1000 ∧ ∀ x ∈ E, 0 ≤ x ∧ x ≤ 255 from ⟨d2, d3⟩)
      clear d1 d2 d3 e2 e3
      go_upto_region 12 with (first | (go_at_call 58; clear Z0; (with_reducible refine (spec_l20Rd_pick.calls k4 g s q2 9 0 (q2 + 1) w _ ?s1 ?s2 E4.out).mono ?_); (case s1 => exact HPS.out.2.2.1); (case s2 => exact HPS.out.2.2.2.2.2.1); rintro e w8 ⟨rfl, hi, hb0, hk⟩; have HP8 := mk_ (pkS_kb HPS.out hi hb0 hk); clear hi hb0 hk) | (go_at_call 70; (with_reducible refine (spec_l20Packet.calls k5 g s (q2 + 1) 2 x0 x1 x2 x3 x4 x5 x6 x7 E q5 w _ ?s1 ?s2 E5.out).mono ?_); (case s1 => exact HP8.out.2.2.1); (case s2 => exact HP8.out.2.2.2.2.2.1); rintro e w9 ⟨v9, rfl, hR, hi, hb0, hk⟩; obtain ⟨Ae, ce, hv9⟩ := Kd.R_slice hR; subst hv9; have HP9 := mk_ (pkS_kb HP8.out hi hb0 hk); have HE9 := mk_ (D_fresh HP8.out hR); obtain ⟨_, _, _, _, _, _, _, _, _, _, _, _, _, _, _, _, _, _⟩ := cells9_ HP9.out.1; clear hR hi hb0 hk))
      have HPE := mk_ (pkS_put HP9.out x0 x1 x2 x3 x4 x5 x6 x7 (.slice Ae E.length ce) E HE9.out)
      generalize (((((((((w9.setCell ⟨g8, 0, none⟩ (.int .i64 x0)).setCell ⟨g8, 1, none⟩ (.int .i64 x1)).setCell ⟨g8, 2, none⟩ (.int .i64 x2)).setCell ⟨g8, 3, none⟩ (.int .i64 x3)).setCell ⟨g8, 4, none⟩ (.int .i64 x4)).setCell ⟨g8, 5, none⟩ (.int .i64 x5)).setCell ⟨g8, 6, none⟩ (.bool x6)).setCell ⟨g8, 7, none⟩ (.bool x7)).setCell ⟨g8, 8, none⟩ (.slice Ae E.length ce)) = W at HPE ⊢
      obtain ⟨_, _, _, _, _, _, _, _, _, _, _, _, _, _, _, _, _, _⟩ := cells9_ HPE.out.1
      obtain ⟨_, _, _, _, _, _, _, _, _, _, _, _, _, _, _, _, _, _⟩ := cells9_ HPE.out.2.1
      have hne48 : g4 ≠ g8 := pkS_ne HPE.out
      have hne84 := Ne.symm hne48
      go_region_held3 (fun w' => w'.cell? ⟨g8, 0, none⟩ = some (.int .i64 x0) ∧ w'.cell? ⟨g8, 1, none⟩ = some (.int .i64 x1) ∧ w'.cell? ⟨g8, 2, none⟩ = some (.int .i64 x2) ∧ w'.cell? ⟨g8, 3, none⟩ = some (.int .i64 x3) ∧ w'.cell? ⟨g8, 4, none⟩ = some (.int .i64 x4) ∧ w'.cell? ⟨g8, 5, none⟩ = some (.int .i64 x5) ∧ w'.cell? ⟨g8, 6, none⟩ = some (.bool x6) ∧ w'.cell? ⟨g8, 7, none⟩ = some (.bool x7) ∧ w'.cell? ⟨g8, 8, none⟩ = some (.slice Ae E.length ce)) (go_keep) (fail)
      go_wp2
      have hout := pkS_out HPE.out (.int .i64 x0) (.int .i64 x1) (.int .i64 x2) (.int .i64 x3) (.int .i64 x4) (.int .i64 x5) (.bool x6) (.bool x7) (.slice Ae E.length ce)
      generalize (((((((((W.setCell ⟨g4, 0, none⟩ (.int .i64 x0)).setCell ⟨g4, 1, none⟩ (.int .i64 x1)).setCell ⟨g4, 2, none⟩ (.int .i64 x2)).setCell ⟨g4, 3, none⟩ (.int .i64 x3)).setCell ⟨g4, 4, none⟩ (.int .i64 x4)).setCell ⟨g4, 5, none⟩ (.int .i64 x5)).setCell ⟨g4, 6, none⟩ (.bool x6)).setCell ⟨g4, 7, none⟩ (.bool x7)).setCell ⟨g4, 8, none⟩ (.slice Ae E.length ce)) = W2 at hout ⊢
      have hW2 := bw_ hout.2.2.2
      refine bodyPost_ret (results_list (rs := [.tmp 2, .tmp 3, .cell 4 52]) rfl (by simp) (.tmp (.tmp (.cell g4 52 #[(.int .i64 x0), (.int .i64 x1), (.int .i64 x2), (.int .i64 x3), (.int .i64 x4), (.int .i64 x5), (.bool x6), (.bool x7), (.slice Ae E.length ce)] (0, 0) _ rfl hW2 hu52 rfl (by kernel_rfl) .nil)))) rfl ?_
      exact ⟨A, c, L, x0, x1, x2, x3, x4, x5, x6, x7, Ae, ce, E, rfl, HF.out, HE.out, ⟨Kd.C_drew (Kd.R_reads' hout.1).2.2, (Kd.R_reads' hout.1).2.1⟩, ⟨Kd.C_drew (Kd.R_reads' hout.2.1).2.2, (Kd.R_reads' hout.2.1).2.1⟩, nw_ hout.2.2.1⟩
    · obtain ⟨k5, x, d1, d2, d3⟩ := HS2.out.1 (q2 + 1) 4 (by have := HQ4.out; omega) (by have := HQ4.out; omega) (by omega)
      have E5 := mk_ d1
      clear d1 d2 d3 e2 e3
      go_upto_region 12 with (first | (go_at_call 58; clear Z0; (with_reducible refine (spec_l20Rd_pick.calls k4 g s q2 9 1 (q2 + 1) w _ ?s1 ?s2 E4.out).mono ?_); (case s1 => exact HPS.out.2.2.1); (case s2 => exact HPS.out.2.2.2.2.2.1); rintro e w8 ⟨rfl, hi, hb0, hk⟩; have HP8 := mk_ (pkS_kb HPS.out hi hb0 hk); clear hi hb0 hk; have Z1 := mk_ trivial) | (go_at_call 58; (with_reducible refine (spec_l20Rd_pick.calls k5 g s (q2 + 1) 4 x (q2 + 1 + 1) w _ ?s1 ?s2 E5.out).mono ?_); (case s1 => exact HP8.out.2.2.1); (case s2 => exact HP8.out.2.2.2.2.2.1); rintro e w9 ⟨rfl, hi, hb0, hk⟩; have HP9 := mk_ (pkS_kb HP8.out hi hb0 hk); obtain ⟨_, _, _, _, _, _, _, _, _, _, _, _, _, _, _, _, _, _⟩ := cells9_ HP9.out.1; clear hi hb0 hk))
      have HPE := mk_ (pkS_set2 HP9.out x)
      generalize (w9.setCell ⟨g8, 2, none⟩ (.int .i64 x)) = W at HPE ⊢
      obtain ⟨_, _, _, _, _, _, _, _, _, _, _, _, _, _, _, _, _, _⟩ := cells9_ HPE.out.1
      obtain ⟨_, _, _, _, _, _, _, _, _, _, _, _, _, _, _, _, _, _⟩ := cells9_ HPE.out.2.1
      have hne48 : g4 ≠ g8 := pkS_ne HPE.out
      have hne84 := Ne.symm hne48
      go_region_held3 (fun w' => w'.cell? ⟨g8, 0, none⟩ = some (.int .i64 a) ∧ w'.cell? ⟨g8, 1, none⟩ = some (.int .i64 3) ∧ w'.cell? ⟨g8, 2, none⟩ = some (.int .i64 x) ∧ w'.cell? ⟨g8, 3, none⟩ = some (.int .i64 3) ∧ w'.cell? ⟨g8, 4, none⟩ = some (.int .i64 0) ∧ w'.cell? ⟨g8, 5, none⟩ = some (.int .i64 0) ∧ w'.cell? ⟨g8, 6, none⟩ = some (.bool false) ∧ w'.cell? ⟨g8, 7, none⟩ = some (.bool false) ∧ w'.cell? ⟨g8, 8, none⟩ = some (.slice Ad b.length cd)) (go_keep) (fail)
      go_wp2
      have hout := pkS_out HPE.out (.int .i64 a) (.int .i64 3) (.int .i64 x) (.int .i64 3) (.int .i64 0) (.int .i64 0) (.bool false) (.bool false) (.slice Ad b.length cd)
      generalize (((((((((W.setCell ⟨g4, 0, none⟩ (.int .i64 a)).setCell ⟨g4, 1, none⟩ (.int .i64 3)).setCell ⟨g4, 2, none⟩ (.int .i64 x)).setCell ⟨g4, 3, none⟩ (.int .i64 3)).setCell ⟨g4, 4, none⟩ (.int .i64 0)).setCell ⟨g4, 5, none⟩ (.int .i64 0)).setCell ⟨g4, 6, none⟩ (.bool false)).setCell ⟨g4, 7, none⟩ (.bool false)).setCell ⟨g4, 8, none⟩ (.slice Ad b.length cd)) = W2 at hout ⊢
      have hW2 := bw_ hout.2.2.2
      refine bodyPost_ret (results_list (rs := [.tmp 2, .tmp 3, .cell 4 52]) rfl (by simp) (.tmp (.tmp (.cell g4 52 #[(.int .i64 a), (.int .i64 3), (.int .i64 x), (.int .i64 3), (.int .i64 0), (.int .i64 0), (.bool false), (.bool false), (.slice Ad b.length cd)] (0, 0) _ rfl hW2 hu52 rfl (by kernel_rfl) .nil)))) rfl ?_
      exact ⟨A, c, L, a, 3, x, 3, 0, 0, false, false, Ad, cd, b, rfl, HF.out, M3.out, ⟨Kd.C_drew (Kd.R_reads' hout.1).2.2, (Kd.R_reads' hout.1).2.1⟩, ⟨Kd.C_drew (Kd.R_reads' hout.2.1).2.2, (Kd.R_reads' hout.2.1).2.1⟩, nw_ hout.2.2.1⟩
    · obtain ⟨k5, x, d1, d2, d3⟩ := HS2.out.1 (q2 + 1) 5 (by have := HQ4.out; omega) (by have := HQ4.out; omega) (by omega)
      have E5 := mk_ d1
      clear d1 d2 d3 e2 e3
      go_upto_region 12 with (first | (go_at_call 58; clear Z0; (with_reducible refine (spec_l20Rd_pick.calls k4 g s q2 9 2 (q2 + 1) w _ ?s1 ?s2 E4.out).mono ?_); (case s1 => exact HPS.out.2.2.1); (case s2 => exact HPS.out.2.2.2.2.2.1); rintro e w8 ⟨rfl, hi, hb0, hk⟩; have HP8 := mk_ (pkS_kb HPS.out hi hb0 hk); clear hi hb0 hk; have Z1 := mk_ trivial) | (go_at_call 58; (with_reducible refine (spec_l20Rd_pick.calls k5 g s (q2 + 1) 5 x (q2 + 1 + 1) w _ ?s1 ?s2 E5.out).mono ?_); (case s1 => exact HP8.out.2.2.1); (case s2 => exact HP8.out.2.2.2.2.2.1); rintro e w9 ⟨rfl, hi, hb0, hk⟩; have HP9 := mk_ (pkS_kb HP8.out hi hb0 hk); obtain ⟨_, _, _, _, _, _, _, _, _, _, _, _, _, _, _, _, _, _⟩ := cells9_ HP9.out.1; clear hi hb0 hk))
      have HPE := mk_ (pkS_set0 HP9.out x)
      generalize (w9.setCell ⟨g8, 0, none⟩ (.int .i64 x)) = W at HPE ⊢
      obtain ⟨_, _, _, _, _, _, _, _, _, _, _, _, _, _, _, _, _, _⟩ := cells9_ HPE.out.1
      obtain ⟨_, _, _, _, _, _, _, _, _, _, _, _, _, _, _, _, _, _⟩ := cells9_ HPE.out.2.1
      have hne48 : g4 ≠ g8 := pkS_ne HPE.out
      have hne84 := Ne.symm hne48
      go_region_held3 (fun w' => w'.cell? ⟨g8, 0, none⟩ = some (.int .i64 x) ∧ w'.cell? ⟨g8, 1, none⟩ = some (.int .i64 3) ∧ w'.cell? ⟨g8, 2, none⟩ = some (.int .i64 2) ∧ w'.cell? ⟨g8, 3, none⟩ = some (.int .i64 3) ∧ w'.cell? ⟨g8, 4, none⟩ = some (.int .i64 0) ∧ w'.cell? ⟨g8, 5, none⟩ = some (.int .i64 0) ∧ w'.cell? ⟨g8, 6, none⟩ = some (.bool false) ∧ w'.cell? ⟨g8, 7, none⟩ = some (.bool false) ∧ w'.cell? ⟨g8, 8, none⟩ = some (.slice Ad b.length cd)) (go_keep) (fail)
      go_wp2
      have hout := pkS_out HPE.out (.int .i64 x) (.int .i64 3) (.int .i64 2) (.int .i64 3) (.int .i64 0) (.int .i64 0) (.bool false) (.bool false) (.slice Ad b.length cd)
      generalize (((((((((W.setCell ⟨g4, 0, none⟩ (.int .i64 x)).setCell ⟨g4, 1, none⟩ (.int .i64 3)).setCell ⟨g4, 2, none⟩ (.int .i64 2)).setCell ⟨g4, 3, none⟩ (.int .i64 3)).setCell ⟨g4, 4, none⟩ (.int .i64 0)).setCell ⟨g4, 5, none⟩ (.int .i64 0)).setCell ⟨g4, 6, none⟩ (.bool false)).setCell ⟨g4, 7, none⟩ (.bool false)).setCell ⟨g4, 8, none⟩ (.slice Ad b.length cd)) = W2 at hout ⊢
      have hW2 := bw_ hout.2.2.2
      refine bodyPost_ret (results_list (rs := [.tmp 2, .tmp 3, .cell 4 52]) rfl (by simp) (.tmp (.tmp (.cell g4 52 #[(.int .i64 x), (.int .i64 3), (.int .i64 2), (.int .i64 3), (.int .i64 0), (.int .i64 0), (.bool false), (.bool false), (.slice Ad b.length cd)] (0, 0) _ rfl hW2 hu52 rfl (by kernel_rfl) .nil)))) rfl ?_
      exact ⟨A, c, L, x, 3, 2, 3, 0, 0, false, false, Ad, cd, b, rfl, HF.out, M3.out, ⟨Kd.C_drew (Kd.R_reads' hout.1).2.2, (Kd.R_reads' hout.1).2.1⟩, ⟨Kd.C_drew (Kd.R_reads' hout.2.1).2.2, (Kd.R_reads' hout.2.1).2.1⟩, nw_ hout.2.2.1⟩
    · clear e2 e3
      go_upto_region 12 with (first | (go_at_call 58; clear Z0; (with_reducible refine (spec_l20Rd_pick.calls k4 g s q2 9 v4 (q2 + 1) w _ ?s1 ?s2 E4.out).mono ?_); (case s1 => exact HPS.out.2.2.1); (case s2 => exact HPS.out.2.2.2.2.2.1); rintro e w8 ⟨rfl, hi, hb0, hk⟩; have HP8 := mk_ (pkS_kb HPS.out hi hb0 hk); clear hi hb0 hk))
      have HPE := HP8
      obtain ⟨_, _, _, _, _, _, _, _, _, _, _, _, _, _, _, _, _, _⟩ := cells9_ HPE.out.1
      obtain ⟨_, _, _, _, _, _, _, _, _, _, _, _, _, _, _, _, _, _⟩ := cells9_ HPE.out.2.1
      have hne48 : g4 ≠ g8 := pkS_ne HPE.out
      have hne84 := Ne.symm hne48
      go_region_held3 (fun w' => w'.cell? ⟨g8, 0, none⟩ = some (.int .i64 a) ∧ w'.cell? ⟨g8, 1, none⟩ = some (.int .i64 3) ∧ w'.cell? ⟨g8, 2, none⟩ = some (.int .i64 2) ∧ w'.cell? ⟨g8, 3, none⟩ = some (.int .i64 3) ∧ w'.cell? ⟨g8, 4, none⟩ = some (.int .i64 0) ∧ w'.cell? ⟨g8, 5, none⟩ = some (.int .i64 0) ∧ w'.cell? ⟨g8, 6, none⟩ = some (.bool false) ∧ w'.cell? ⟨g8, 7, none⟩ = some (.bool false) ∧ w'.cell? ⟨g8, 8, none⟩ = some (.slice Ad b.length cd)) (go_keep) (fail)
      go_wp2
      have hout := pkS_out HPE.out (.int .i64 a) (.int .i64 3) (.int .i64 2) (.int .i64 3) (.int .i64 0) (.int .i64 0) (.bool false) (.bool false) (.slice Ad b.length cd)
      generalize (((((((((w8.setCell ⟨g4, 0, none⟩ (.int .i64 a)).setCell ⟨g4, 1, none⟩ (.int .i64 3)).setCell ⟨g4, 2, none⟩ (.int .i64 2)).setCell ⟨g4, 3, none⟩ (.int .i64 3)).setCell ⟨g4, 4, none⟩ (.int .i64 0)).setCell ⟨g4, 5, none⟩ (.int .i64 0)).setCell ⟨g4, 6, none⟩ (.bool false)).setCell ⟨g4, 7, none⟩ (.bool false)).setCell ⟨g4, 8, none⟩ (.slice Ad b.length cd)) = W2 at hout ⊢
      have hW2 := bw_ hout.2.2.2
      refine bodyPost_ret (results_list (rs := [.tmp 2, .tmp 3, .cell 4 52]) rfl (by simp) (.tmp (.tmp (.cell g4 52 #[(.int .i64 a), (.int .i64 3), (.int .i64 2), (.int .i64 3), (.int .i64 0), (.int .i64 0), (.bool false), (.bool false), (.slice Ad b.length cd)] (0, 0) _ rfl hW2 hu52 rfl (by kernel_rfl) .nil)))) rfl ?_
      exact ⟨A, c, L, a, 3, 2, 3, 0, 0, false, false, Ad, cd, b, rfl, HF.out, M3.out, ⟨Kd.C_drew (Kd.R_reads' hout.1).2.2, (Kd.R_reads' hout.1).2.1⟩, ⟨Kd.C_drew (Kd.R_reads' hout.2.1).2.2, (Kd.R_reads' hout.2.1).2.1⟩, nw_ hout.2.2.1⟩
  case first =>
    have hX := inn47_box4 HX7.out (a := a) (f := f) (t := t) (v3 := .slice A9 D.length c9)
    have hb4 := below_box4 HB5.out HG7.out (.int .i64 a) (.int .i64 f) (.int .i64 t) (.slice A9 D.length c9)
    have hbW := below_step HB4.out hb4
    have hMW := Kd.C_below HM4.out.2 hb4
    have hOW := Kd.R_below HO4.out hb4
    have hIW := is_belowb HI4.out HG4'.out hb4
    have hX4 := blk_below HX44.out hb4
    generalize ((((w5.setCell ⟨g7, 0, none⟩ (.int .i64 a)).setCell ⟨g7, 1, none⟩ (.int .i64 f)).setCell ⟨g7, 2, none⟩ (.int .i64 t)).setCell ⟨g7, 3, none⟩ (.slice A9 D.length c9)) = W at hX hb4 hbW hMW hOW hIW hX4 ⊢
    obtain ⟨hq0, hq1, hq2, hq3, hqf0, hqf1, hqf2, hqf3⟩ := cells4_ hX
    have HNN := mk_ (show g < w2.heap.size ∧ g4 < w2.heap.size ∧ w2.heap.size ≤ W.heap.size ∧ w.heap.size ≤ w2.heap.size ∧ w.heap.size ≤ g4 ∧ g4 ≠ g from ⟨HG1.out, HN4.out, Nat.le_trans HZ3.out (Nat.le_trans HZ4.out hb4.size), HZ2.out, HG4.out, HNG.out⟩)
    have HBW := mk_ hbW
    have HMW := mk_ hMW
    have HOW := mk_ hOW
    have HIW := mk_ hIW
    have HX4W := mk_ hX4
    clear hX hb4 hbW hMW hOW hIW hX4 HX7 HB5 HG7 ge7 HX44 HX43 HX42 HX4 HB1 HB2 HB3 HB4 HO4 HO HI HI3 HI4
    have hA : ∀ o, Below W.heap.size W (W.alloc o).drew := fun o => below_drew (below_alloc (Below.refl _ _) o)
    have hNB : ∀ o, (W.alloc o).drew.heap[W.heap.size]? = some o := fun o => blk_new W o
    have hn78 : g7 ≠ W.heap.size := Nat.ne_of_lt (lc_ W _ hq0)
    have hn87 : W.heap.size ≠ g7 := Ne.symm hn78
    have HAA := mk_ hA
    have HNB := mk_ hNB
    clear hA hNB
    go_region_held3 (fun w' => w'.cell? ⟨g7, 0, none⟩ = some (.int .i64 a) ∧ w'.cell? ⟨g7, 1, none⟩ = some (.int .i64 f) ∧ w'.cell? ⟨g7, 2, none⟩ = some (.int .i64 t) ∧ w'.cell? ⟨g7, 3, none⟩ = some (.slice A9 D.length c9)) (go_keep) (first | (go_at_call 69; (with_reducible refine (spec_MailBytes.calls k3 a f t A9 c9 D 3 b _ ?s1 ?s2 M2.out).mono ?_); (case s1 => exact Kd.C_below HMW.out (HAA.out (.cells #[.int .i64 0, .int .i64 0, .int .i64 0, .int .i64 0, .int .i64 0, .int .i64 0, .bool false, .bool false, .slice none 0 0] 52))); (case s2 => exact HM4.out.1); rintro e w6 ⟨v10, rfl, hR, hb⟩; obtain ⟨A10, c10, hv10⟩ := Kd.R_slice hR; subst hv10; have hb' : Below W.heap.size W w6 := below_step (HAA.out (.cells #[.int .i64 0, .int .i64 0, .int .i64 0, .int .i64 0, .int .i64 0, .int .i64 0, .bool false, .bool false, .slice none 0 0] 52)) hb; have hq0' := (hb'.cell (lc_ W _ hq0)).trans hq0; have hq1' := (hb'.cell (lc_ W _ hq1)).trans hq1; have hq2' := (hb'.cell (lc_ W _ hq2)).trans hq2; have hq3' := (hb'.cell (lc_ W _ hq3)).trans hq3; have HB6 := mk_ hb'; have HX86 := mk_ (blk_below (HNB.out (.cells #[.int .i64 0, .int .i64 0, .int .i64 0, .int .i64 0, .int .i64 0, .int .i64 0, .bool false, .bool false, .slice none 0 0] 52)) hb); have HD6 := mk_ hR; obtain ⟨_, _, _, _, _, _, _, _, _, _, _, _, _, _, _, _, _, _⟩ := cells9_ HX86.out; clear hb' hR hb) | (go_at_call 69; (with_reducible refine (spec_MailBytes.calls k3 a f t A9 c9 D 3 b _ ?s1 ?s2 M2.out).mono ?_); (case s1 => exact Kd.C_below HMW.out (below_drew (Below.refl _ _))); (case s2 => exact HM4.out.1); rintro e w6 ⟨v10, rfl, hR, hb⟩; obtain ⟨A10, c10, hv10⟩ := Kd.R_slice hR; subst hv10; have hb' : Below W.heap.size W w6 := below_step (below_drew (Below.refl _ _)) hb; have hq0' := (hb'.cell (lc_ W _ hq0)).trans hq0; have hq1' := (hb'.cell (lc_ W _ hq1)).trans hq1; have hq2' := (hb'.cell (lc_ W _ hq2)).trans hq2; have hq3' := (hb'.cell (lc_ W _ hq3)).trans hq3; have HB6 := mk_ hb'; have HD6 := mk_ hR; clear hb' hR hb))
    all_goals
      go_wp2
      go_meet
      case rel =>
        first
          | exact ⟨_, A10, c10, rfl, ⟨pkS_put (pkS_startA (n0 := 0) HOW.out HIW.out HX4W.out HBW.out HNN.out HB6.out HX86.out) a 3 2 3 0 0 false false _ b (D_new HD6.out HNN.out.2.2.1)⟩⟩
          | exact ⟨_, A10, c10, rfl, ⟨pkS_startB HOW.out HIW.out HX4W.out HBW.out HNN.out HB6.out HD6.out HNN.out.2.2.1 a 3 2 3 0 0 false false⟩⟩
/-! ### the walk of FnPortHear -/
theorem ok47_d (A : Option Addr) (n c : Nat) (l : List S47) (r : Bool) (w : World) (hn : n = l.length) (hr : Kd.C k47 w A l.length l) (hc : l.length ≤ c) (h : impl_PortsOk.f l = some r) :
    Calls Try.prog 14 #[.slice A n c] w fun e w' => e = .returned (.bool r) ∧ Below w.heap.size w w' := by
  subst hn
  exact impl_PortsOk.calls A c l r w hr hc h
theorem same47_d (k : Nat) (A0 : Option Addr) (n0 c0 : Nat) (l : List S47) (A1 : Option Addr) (n1 c1 : Nat) (w : World) (h0 : n0 = l.length) (h1 : n1 = l.length) (hr0 : Kd.C k47 w A0 l.length l) (hc0 : l.length ≤ c0) (hr1 : Kd.C k47 w A1 l.length l) (hc1 : l.length ≤ c1) (h : fewRows l) :
    Calls Try.prog 23 #[.slice A0 n0 c0, .slice A1 n1 c1] w fun e w' => e = .returned (.bool true) ∧ Below w.heap.size w w' := samePorts_self A0 n0 c0 l A1 n1 c1 w h0 h1 hr0 hc0 hr1 hc1 h
theorem le2000 {n m : Nat} (h : n = m + 1) (hm : m ≤ 1000) : n ≤ 2000 := by omega
theorem lt_succ10 {n m : Nat} (h : n = m + 1) : m < n := by omega
theorem wr_nat {n : Nat} (h : n ≤ 2000) : wrap64 (n : Int) = (n : Int) := by
  unfold wrap64
  omega
theorem wr_zero {n : Nat} (h : n ≤ 2000) : wrap64 ((0 : Int) + (n : Int)) = (n : Int) := by
  rw [Int.zero_add]
  exact wr_nat h
theorem wr_sub {n m : Nat} (h : n = m + 1) : wrap64 ((n : Int) - (m : Int)) = 1 := by
  rw [show (n : Int) - (m : Int) = ((1 : Nat) : Int) by omega]
  exact wr_nat (by omega)
theorem wr_pred {n m : Nat} (h : n = m + 1) (hm : m ≤ 1000) : wrap64 ((n : Int) - 1) = (m : Int) := by
  rw [show (n : Int) - 1 = (m : Int) by omega]
  exact wr_nat (by omega)
/-- What the functions that the law calls answer at these ports and this packet. -/
def law10_at (L : List S47) (p0 p1 p2 p3 p4 p5 : Int) (p6 p7 : Bool) (D : List Int) : Prop :=
  ∃ (k : Nat) (o : List S47) (d : Int) (r : Bool), impl_PortsOk.f L = some r ∧ hearI k L 3 p0 p1 p2 p3 p4 p5 p6 p7 D o d ∧ hearS k L 3 p0 p1 p2 p3 p4 p5 p6 p7 D o d ∧ fewRows o ∧ (r = false → d = 0) ∧ (r = true → d ≠ 1 → o = L) ∧
    (r = true → d = 1 → ∃ (mf mg mt : Int) (md : List Int) (i : Nat) (R Q : List S40), impl_MailFrom.f k p0 p1 D = some (mf, mg, mt, md, true) ∧ impl_PortsOk.f o = some true ∧ o.length = L.length ∧ i < L.length ∧ rd_T47 L (i : Int) = ⟨mt, R⟩ ∧ rd_T47 o (i : Int) = ⟨mt, Q⟩ ∧ Q.length = R.length + 1 ∧ R.length ≤ 1000 ∧ rd_T40 Q (R.length : Int) = ⟨mf, mg, mt, md⟩ ∧ ∀ x : Nat, x < L.length → x ≠ i → (rd_T47 o (x : Int)).f1.length = (rd_T47 L (x : Int)).f1.length)
/-- What the law's walk leans on. -/
def laws_FnPortHear.ok (k : Nat) (l : List Int) : Prop :=
  l.length > 1048576 ∨ ∃ s, l.length ≤ 1048576 ∧ codeOk l s ∧ rdPk s ∧ listenAll ∧ hearAll ∧ laws_alive.f k = some true ∧ ∀ L p0 p1 p2 p3 p4 p5 p6 p7 D, few47b L → D.length ≤ 1000 → (∀ x ∈ D, 0 ≤ x ∧ x ≤ 255) → law10_at L p0 p1 p2 p3 p4 p5 p6 p7 D
set_option maxHeartbeats 1000000 in
theorem law10_walk0 (A0 : Option Addr) (c0 : Nat) (l0 : List Int) (w : World) (h : l0.length > 1048576) :
    Calls Try.prog 10 #[.slice A0 l0.length c0] w fun e w' => e = .returned (.bool true) ∧ Below w.heap.size w w' := by
  have b1 : decide ((1048576 : Int) < (l0.length : Int)) = true := decide_eq_true (by omega)
  have b2 : decide (1048576 < l0.length) = true := decide_eq_true h
  clear h
  go_enter Try.func10, Try.ntmps10
  go_wp2
  go_ret
  exact ⟨rfl, Below.refl _ _⟩
set_option maxHeartbeats 8000000 in
set_option maxRecDepth 100000 in
theorem law10_walk (k : Nat) (A0 : Option Addr) (c0 : Nat) (l0 s : List Int) (w : World) (hr0 : Kd.C (Kd.int .u8) w A0 l0.length l0) (hc0 : l0.length ≤ c0) (h : l0.length ≤ 1048576) (hs : codeOk l0 s) (hP : rdPk s) (hL : listenAll) (hH : hearAll) (hal : laws_alive.f k = some true)
    (hlaw : ∀ L p0 p1 p2 p3 p4 p5 p6 p7 D, few47b L → D.length ≤ 1000 → (∀ x ∈ D, 0 ≤ x ∧ x ≤ 255) → law10_at L p0 p1 p2 p3 p4 p5 p6 p7 D) :
    Calls Try.prog 10 #[.slice A0 l0.length c0] w fun e w' => e = .returned (.bool true) ∧ Below w.heap.size w w' := by
  have hu40 := Try.underlying40
  have hu52 := Try.underlying52
  have b1 : decide ((1048576 : Int) < (l0.length : Int)) = false := decide_eq_false (by omega)
  have b2 : decide (1048576 < l0.length) = false := decide_eq_false (by omega)
  have HR := mk_ hr0
  have HC0 := mk_ hc0
  have HS := mk_ hs
  have HPK := mk_ hP
  have HL := mk_ hL
  have HH := mk_ hH
  have HA := mk_ hal
  have HW := mk_ hlaw
  have Z0 := mk_ trivial
  clear hr0 hc0 h hs hP hL hH hal hlaw
  go_enter Try.func10, Try.ntmps10
  go_wp2_with (first | (go_at_call 37; (with_reducible refine (drawPortHear_any A0 c0 l0 s _ ?s1 HC0.out HS.out HPK.out HL.out HH.out).mono ?_); (case s1 => exact HR.out); rintro e w1 ⟨A, c, L, p0, p1, p2, p3, p4, p5, p6, p7, Ad, cd, D, rfl, hf, hD, hCL, hCD, hb⟩; obtain ⟨k', o, d, r, e1, e2, e3, e4, e5, e6, e7⟩ := HW.out L p0 p1 p2 p3 p4 p5 p6 p7 D hf hD.1 hD.2; have E1 := mk_ e1; have E2 := mk_ e2; have E3 := mk_ e3; have E4 := mk_ e4; have E5 := mk_ e5; have E6 := mk_ e6; have E7 := mk_ e7; have HF := mk_ hf.1; have HLN := mk_ hCL.2; have CL1 := mk_ hCL.1; have HDN := mk_ hCD.2; have CD1 := mk_ hCD.1; have HB1 := mk_ hb; clear hf hD hCL hCD hb e1 e2 e3 e4 e5 e6 e7) | ((with_reducible refine gate_dst (N := 5) rfl ?_); refine box_event ?hg (N := 5) ?hd (cs := #[.int .i64 0, .int .i64 0, .int .i64 0, .int .i64 0, .int .i64 0, .int .i64 0, .bool false, .bool false, .slice none 0 0]) (t := 52) ?hr ?_; (case hd => rfl); (case hg => rfl); (case hr => first | (go_simp; done) | (go_simp; rfl)); intro g5 hg_ w2 hbox_ hb_; have HX5 := mk_ hbox_; have HBX5 := mk_ hb_; have HGX5 := mk_ (show w1.heap.size ≤ g5 from Nat.le_of_eq hg_.symm); have ge5 := ge_ HGX5.out; obtain ⟨_, _, _, _, _, _, _, _, _, _, _, _, _, _, _, _, _, _⟩ := cells9_ hbox_; clear hg_ hbox_ hb_) | (go_at_call 34; clear Z0; (with_reducible refine (hearI_at k' A L.length c L 3 p0 p1 p2 p3 p4 p5 p6 p7 Ad D.length cd D o d _ rfl rfl ?s0 ?s1 ?s2 ?s3 E2.out).mono ?_); (case s0 => exact Kd.C_below CL1.out (below_n9 HBX5.out HGX5.out (.int .i64 p0) (.int .i64 p1) (.int .i64 p2) (.int .i64 p3) (.int .i64 p4) (.int .i64 p5) (.bool p6) (.bool p7) (.slice Ad D.length cd))); (case s1 => exact HLN.out); (case s2 => exact Kd.C_below CD1.out (below_n9 HBX5.out HGX5.out (.int .i64 p0) (.int .i64 p1) (.int .i64 p2) (.int .i64 p3) (.int .i64 p4) (.int .i64 p5) (.bool p6) (.bool p7) (.slice Ad D.length cd))); (case s3 => exact HDN.out); rintro e w3 ⟨Ag, cg, rfl, ho, hb⟩; have hb5_ := below_step (below_n9 HBX5.out HGX5.out (.int .i64 p0) (.int .i64 p1) (.int .i64 p2) (.int .i64 p3) (.int .i64 p4) (.int .i64 p5) (.bool p6) (.bool p7) (.slice Ad D.length cd)) hb; have HX53 := mk_ (blk_below (inn_box9 HX5.out (.int .i64 p0) (.int .i64 p1) (.int .i64 p2) (.int .i64 p3) (.int .i64 p4) (.int .i64 p5) (.bool p6) (.bool p7) (.slice Ad D.length cd)) hb); have CO3 := mk_ (k47S_C (Kd.S_reads' ho).2.2); have HON := mk_ (Kd.S_reads' ho).2.1; have CL3 := mk_ (Kd.C_below CL1.out hb5_); have CD3 := mk_ (Kd.C_below CD1.out hb5_); have HB3 := mk_ (below_step HB1.out hb5_); obtain ⟨_, _, _, _, _, _, _, _, _, _, _, _, _, _, _, _, _, _⟩ := cells9_ HX53.out; clear ho hb hb5_; have Z1 := mk_ trivial) | (go_at_call 32; clear Z1; (with_reducible refine (hearS_at k' A L.length c L 3 p0 p1 p2 p3 p4 p5 p6 p7 Ad D.length cd D o d _ rfl rfl ?s0 ?s1 ?s2 ?s3 E3.out).mono ?_); (case s0 => exact CL3.out); (case s1 => exact HLN.out); (case s2 => exact CD3.out); (case s3 => exact HDN.out); rintro e w4 ⟨Aw, cw, rfl, ho, hb⟩; have HX54 := mk_ (blk_below HX53.out hb); have CO4 := mk_ (Kd.C_below CO3.out hb); have CW4 := mk_ (k47S_C (Kd.S_reads' ho).2.2); have HWN := mk_ (Kd.S_reads' ho).2.1; have CL4 := mk_ (Kd.C_below CL3.out hb); have CD4 := mk_ (Kd.C_below CD3.out hb); have HB4 := mk_ (below_step HB3.out hb); clear ho hb; have Z2 := mk_ trivial))
  refine (same47_d k' Ag _ cg o Aw _ cw _ rfl rfl ?s0 ?s1 ?s2 ?s3 E4.out).mono ?_
  case s0 => exact CO4.out
  case s1 => exact HON.out
  case s2 => exact CW4.out
  case s3 => exact HWN.out
  rintro e w5 ⟨rfl, hb⟩
  have CL5 := mk_ (Kd.C_below CL4.out hb)
  have CO5 := mk_ (Kd.C_below CO4.out hb)
  have CD5 := mk_ (Kd.C_below CD4.out hb)
  have HX55 := mk_ (blk_below HX54.out hb)
  have HB5 := mk_ (below_step HB4.out hb)
  clear hb HX5 HBX5 HGX5 ge5 HX53 HX54 CL1 CD1 HB1 CO3 CL3 CD3 HB3 CO4 CW4 CL4 CD4 HB4 HWN
  cases r with
  | false =>
    obtain rfl := E5.out rfl
    go_wp2_with (first | (go_at_call 14; (with_reducible refine (ok47_d A _ c L false _ rfl ?s1 ?s2 E1.out).mono ?_); (case s1 => exact CL5.out); (case s2 => exact HLN.out); rintro e w6 ⟨rfl, hb⟩; have CL6 := mk_ (Kd.C_below CL5.out hb); have CO6 := mk_ (Kd.C_below CO5.out hb); have CD6 := mk_ (Kd.C_below CD5.out hb); have HX56 := mk_ (blk_below HX55.out hb); have HB6 := mk_ (below_step HB5.out hb); obtain ⟨_, _, _, _, _, _, _, _, _, _, _, _, _, _, _, _, _, _⟩ := cells9_ HX56.out; clear hb) | (go_at_call 17; (with_reducible refine (laws_alive.calls k true _ HA.out).mono ?_); rintro e w8 ⟨rfl, hb⟩; have HB8 := mk_ (below_step (us_ HB6.out) hb); clear hb))
    go_ret
    exact ⟨rfl, HB8.out⟩
  | true =>
    by_cases hd : d = 1
    · subst hd
      obtain ⟨mf, mg, mt, md, i, R, Q, f1, f2, f3, f4, f5, f6, f7, f8, f9, f10⟩ := E7.out rfl rfl
      have G1 := mk_ f1
      have G2 := mk_ f2
      have G3 := mk_ f3
      have G4 := mk_ f4
      have G5 := mk_ f5
      have G6 := mk_ f6
      have G7 := mk_ f7
      have G8 := mk_ f8
      have G9 := mk_ f9
      have G10 := mk_ f10
      clear f1 f2 f3 f4 f5 f6 f7 f8 f9 f10 E5 E6 E7
      go_wp2_with (first | (go_at_call 14; (with_reducible refine (ok47_d A _ c L true _ rfl ?s1 ?s2 E1.out).mono ?_); (case s1 => exact CL5.out); (case s2 => exact HLN.out); rintro e w6 ⟨rfl, hb⟩; have CL6 := mk_ (Kd.C_below CL5.out hb); have CO6 := mk_ (Kd.C_below CO5.out hb); have CD6 := mk_ (Kd.C_below CD5.out hb); have HX56 := mk_ (blk_below HX55.out hb); have HB6 := mk_ (below_step HB5.out hb); obtain ⟨_, _, _, _, _, _, _, _, _, _, _, _, _, _, _, _, _, _⟩ := cells9_ HX56.out; clear hb) | (go_at_call 38; (with_reducible refine (impl_MailFrom.calls k' p0 p1 Ad cd D mf mg mt md true _ ?s0 ?s1 G1.out).mono ?_); (case s0 => exact CD6.out); (case s1 => exact HDN.out); rintro e w7 ⟨v3, rfl, hR, hb⟩; obtain ⟨Am, cm, hv3⟩ := Kd.R_slice hR; subst hv3; have CM7 := mk_ (Kd.R_reads' hR).2.2; have HMN := mk_ (Kd.R_reads' hR).2.1; have CL7 := mk_ (Kd.C_below CL6.out hb); have CO7 := mk_ (Kd.C_below CO6.out hb); have HB7 := mk_ (below_step HB6.out hb); clear hR hb) | ((with_reducible refine gate_dst (N := 10) rfl ?_); refine box_event ?hg (N := 10) ?hd (cs := #[.int .i64 0, .int .i64 0, .int .i64 0, .slice none 0 0]) (t := 40) ?hr ?_; (case hd => rfl); (case hg => rfl); (case hr => first | (go_simp; done) | (go_simp; rfl)); intro g10 hg_ w8 hbox_ hb_; have HX10 := mk_ hbox_; have HBX10 := mk_ hb_; have HGX10 := mk_ (show w7.heap.size ≤ g10 from Nat.le_of_eq hg_.symm); have ge10 := ge_ HGX10.out; obtain ⟨_, _, _, _, _, _, _, _⟩ := cells4_ hbox_; clear hg_ hbox_ hb_))
      have hX := inn47_box4 HX10.out (a := mf) (f := mg) (t := mt) (v3 := .slice Am md.length cm)
      have hb4 := below_box4 HBX10.out HGX10.out (.int .i64 mf) (.int .i64 mg) (.int .i64 mt) (.slice Am md.length cm)
      have hCL := Kd.C_below CL7.out hb4
      have hCO := Kd.C_below CO7.out hb4
      have hCM := Kd.C_below CM7.out hb4
      have hB := below_step HB7.out hb4
      generalize ((((w8.setCell ⟨g10, 0, none⟩ (.int .i64 mf)).setCell ⟨g10, 1, none⟩ (.int .i64 mg)).setCell ⟨g10, 2, none⟩ (.int .i64 mt)).setCell ⟨g10, 3, none⟩ (.slice Am md.length cm)) = W at hX hb4 hCL hCO hCM hB ⊢
      have HX := mk_ hX
      have HCL := mk_ hCL
      have HCO := mk_ hCO
      have HCM := mk_ hCM
      have HBW := mk_ hB
      clear hX hb4 hCL hCO hCM hB
      go_loopw [12, 13] (fun v12 v13 wr => ∃ (q : Nat) (z : Int), q ≤ L.length ∧ v13 = .int .i64 q ∧ v12 = .int .i64 z ∧ Aside0 ((q ≤ i → z = 0) ∧ (i < q → z = 1)) ∧ Aside0 (Kd.C k47 wr A L.length L) ∧ Aside0 (Kd.C k47 wr Ag o.length o) ∧ Aside0 (wr.heap[g10]? = some (.cells #[.int .i64 mf, .int .i64 mg, .int .i64 mt, .slice Am md.length cm] 40 (0, 0))) ∧ Aside0 (Kd.C (Kd.int .u8) wr Am md.length md) ∧ Aside0 (Below w.heap.size w wr)) (fun _ v13 _ => L.length - (intOf v13).toNat)
      case atStart => exact ⟨0, 0, Nat.zero_le _, rfl, rfl, ⟨fun _ => rfl, fun h => by omega⟩, HCL, HCO, HX, HCM, HBW⟩
      case round =>
        clear HX HCL HCO HCM HBW
        obtain ⟨q, z, hq, rfl, rfl, HZ, CL, CO, HX, CM, HB⟩ := hrel
        by_cases hlt : q < L.length
        · have hw : wrap64 ((q : Int) + 1) = ((q + 1 : Nat) : Int) := by have := HF.out; unfold wrap64; omega
          have hlo : q < o.length := by have := G3.out; omega
          obtain ⟨ad, A1, c1, e, hx0, hx1, hx2, hx3⟩ := at_T47 CL.out (q : Int) (by omega) (by omega)
          cases e
          obtain ⟨ad2, A2, c2, e, hy0, hy1, hy2, hy3⟩ := at_T47 CO.out (q : Int) (by omega) (by omega)
          cases e
          rw [Int.toNat_natCast] at hx0 hx1 hy0 hy1
          by_cases hqi : q = i
          · subst hqi
            rw [G5.out] at hx0 hx1 hx2 hx3
            rw [G6.out] at hy0 hy1 hy2 hy3
            dsimp only at hx0 hx1 hx2 hx3 hy0 hy1 hy2 hy3
            have hz := HZ.out.1 (Nat.le_refl _)
            subst hz
            have h7 := G7.out
            have h8 := G8.out
            obtain ⟨ad4, A3, c3, e, hv0, hv1, hv2, hv3, hv4, hv5⟩ := at_T40 hy3 (R.length : Int) (by omega) (by omega)
            cases e
            rw [G9.out] at hv0 hv1 hv2 hv3 hv4 hv5
            rw [Int.toNat_natCast] at hv0 hv1 hv2 hv3
            dsimp only at hv0 hv1 hv2 hv3 hv4 hv5
            obtain ⟨hq0, hq1, hq2, hq3, hqf0, hqf1, hqf2, hqf3⟩ := cells4_ HX.out
            have hgt : R.length < Q.length := lt_succ10 h7
            have hg1 : decide ((R.length : Int) < (Q.length : Int)) = true := decide_eq_true (Int.ofNat_lt.2 hgt)
            have hI0 : (0 : Int) ≤ (R.length : Int) := Int.natCast_nonneg _
            have hI1 : (R.length : Int) < (Q.length : Int) := Int.ofNat_lt.2 hgt
            have e98 : wrap64 ((0 : Int) + (Q.length : Int)) = (Q.length : Int) := wr_zero (le2000 h7 h8)
            have e98' : wrap64 (Q.length : Int) = (Q.length : Int) := wr_nat (le2000 h7 h8)
            have e101 : wrap64 ((Q.length : Int) - (R.length : Int)) = 1 := wr_sub h7
            have e105 : wrap64 ((Q.length : Int) - 1) = (R.length : Int) := wr_pred h7 h8
            have e105' : IntKind.i64.wrap ((Q.length : Int) - 1) = (R.length : Int) := (i64_w _).trans (wr_pred h7 h8)
            have HV4 := mk_ hv4
            have HV5 := mk_ hv5
            clear h7 h8 hv4 hv5 hx0 hx2 hx3 hy2 hy3
            go_wp2
            go_region_held3 (fun w' => w'.cell? (ad4.add (R.length * 4)) = some (.int .i64 mf) ∧ w'.cell? ⟨(ad4.add (R.length * 4)).block, (ad4.add (R.length * 4)).off + 1, none⟩ = some (.int .i64 mg) ∧ w'.cell? ⟨(ad4.add (R.length * 4)).block, (ad4.add (R.length * 4)).off + 2, none⟩ = some (.int .i64 mt) ∧ w'.cell? ⟨(ad4.add (R.length * 4)).block, (ad4.add (R.length * 4)).off + 3, none⟩ = some (.slice A3 md.length c3) ∧ w'.cell? ⟨g10, 0, none⟩ = some (.int .i64 mf) ∧ w'.cell? ⟨g10, 1, none⟩ = some (.int .i64 mg) ∧ w'.cell? ⟨g10, 2, none⟩ = some (.int .i64 mt) ∧ w'.cell? ⟨g10, 3, none⟩ = some (.slice Am md.length cm) ∧ w'.cell? (ad2.add (q * 2)) = some (.int .i64 mt)) (go_keep) (first | (go_at_call 30; (with_reducible refine (same40_h mf mg mt md A3 _ c3 Am _ cm _ rfl rfl ?s0 ?s1 ?s2 ?s3).mono ?_); (case s0 => exact Kd.C_drew HV5.out); (case s1 => exact HV4.out); (case s2 => exact Kd.C_drew CM.out); (case s3 => exact HMN.out); rintro e w10 ⟨rfl, hb⟩; have hv0' := (hb.cell (lc_ wr _ hv0)).trans hv0; have hv1' := (hb.cell (lc_ wr _ hv1)).trans hv1; have hv2' := (hb.cell (lc_ wr _ hv2)).trans hv2; have hv3' := (hb.cell (lc_ wr _ hv3)).trans hv3; have hq0' := (hb.cell (lc_ wr _ hq0)).trans hq0; have hq1' := (hb.cell (lc_ wr _ hq1)).trans hq1; have hq2' := (hb.cell (lc_ wr _ hq2)).trans hq2; have hq3' := (hb.cell (lc_ wr _ hq3)).trans hq3; have hy0' := (hb.cell (lc_ wr _ hy0)).trans hy0; have CL10 := mk_ (Kd.C_below (Kd.C_drew CL.out) hb); have CO10 := mk_ (Kd.C_below (Kd.C_drew CO.out) hb); have CM10 := mk_ (Kd.C_below (Kd.C_drew CM.out) hb); have HX10' := mk_ (blk_below (bw_ HX.out) hb); have HB10 := mk_ (below_step (nw_ HB.out) hb); clear hb))
            go_wp2
            go_roundw
            case rel => exact ⟨q + 1, 1, hlt, by rw [hw], rfl, ⟨fun h => by omega, fun _ => rfl⟩, CL10, CO10, HX10', CM10, HB10⟩
            case measure => exact up_mh hlt hw
          · have hn := G10.out q hlt hqi
            rw [hn] at hy1
            obtain ⟨N1, hN1⟩ : ∃ N, (rd_T47 L (q : Int)).f1.length = N := ⟨_, rfl⟩
            rw [hN1] at hx1 hy1
            clear hx2 hx3 hy2 hy3 hx0 hy0 hn hN1
            go_wp2
            go_roundw
            case rel => exact ⟨q + 1, z, hlt, by rw [hw], rfl, ⟨fun h => HZ.out.1 (by omega), fun h => HZ.out.2 (by omega)⟩, CL, CO, HX, CM, HB⟩
            case measure => exact up_mh hlt hw
        · have hz := HZ.out.2 (by have := G4.out; omega)
          subst hz
          go_wp2_with (first | (go_at_call 14; (with_reducible refine (ok47_d Ag _ cg o true _ rfl ?s1 ?s2 G2.out).mono ?_); (case s1 => exact CO.out); (case s2 => exact HON.out); rintro e w10 ⟨rfl, hb⟩; have HB10 := mk_ (below_step HB.out hb); clear hb))
          go_ret
          exact ⟨rfl, HB10.out⟩
    · obtain rfl := E6.out rfl hd
      have hd1 : (d == 1) = false := by simpa using hd
      have hd2 : (d != 1) = true := by simpa using hd
      have hd3 : decide (d = 1) = false := decide_eq_false hd
      go_wp2_with (first | (go_at_call 14; (with_reducible refine (ok47_d A _ c o true _ rfl ?s1 ?s2 E1.out).mono ?_); (case s1 => exact CL5.out); (case s2 => exact HLN.out); rintro e w6 ⟨rfl, hb⟩; have CL6 := mk_ (Kd.C_below CL5.out hb); have CO6 := mk_ (Kd.C_below CO5.out hb); have CD6 := mk_ (Kd.C_below CD5.out hb); have HX56 := mk_ (blk_below HX55.out hb); have HB6 := mk_ (below_step HB5.out hb); obtain ⟨_, _, _, _, _, _, _, _, _, _, _, _, _, _, _, _, _, _⟩ := cells9_ HX56.out; clear hb) | (go_at_call 23; (with_reducible refine (same47_d k' Ag _ cg o A _ c _ rfl rfl ?s0 ?s1 ?s2 ?s3 E4.out).mono ?_); (case s0 => exact CO6.out); (case s1 => exact HON.out); (case s2 => exact CL6.out); (case s3 => exact HLN.out); rintro e w7 ⟨rfl, hb⟩; have HB7 := mk_ (below_step HB6.out hb); clear hb) | (go_at_call 17; (with_reducible refine (laws_alive.calls k true _ HA.out).mono ?_); rintro e w8 ⟨rfl, hb⟩; have HB8 := mk_ (below_step (us_ HB7.out) hb); clear hb))
      go_ret
      exact ⟨rfl, HB8.out⟩
theorem laws_FnPortHear.calls (k : Nat) (A0 : Option Addr) (c0 : Nat) (l0 : List Int) (r : Bool) (w : World) (hr0 : Kd.C (Kd.int .u8) w A0 l0.length l0) (hc0 : l0.length ≤ c0) (h : laws_FnPortHear.ok k l0 ∧ r = true) :
  Calls Try.prog 10 #[.slice A0 l0.length c0] w fun e w' => e = .returned (.bool r) ∧ Below w.heap.size w w' := by
  obtain ⟨h2, rfl⟩ := h
  rcases h2 with h2 | ⟨s, hl, hs, hP, hL, hH, hal, hlaw⟩
  · exact law10_walk0 A0 c0 l0 w h2
  · exact law10_walk k A0 c0 l0 s w hr0 hc0 hl hs hP hL hH hal hlaw
end Go.Proofs.Ytkkibccnpkbbjaa.MFnPortsOk
