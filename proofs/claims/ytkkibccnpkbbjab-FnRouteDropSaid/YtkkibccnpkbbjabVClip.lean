/- A row of the call's own that was cut at its length (slices.Clip) is a row of the call's own. No conditions but those that each theorem states. -/
import Derived.Test.YtkkibccnpkbbjabVMore
import Derived.Test.YtkkibccnpkbbjabVN
namespace Go.Proofs.YtkkibccnpkbbjabV.PrintWords
open Go.RowKit
/-! short names for what stands in every step -/
theorem la_ {α : Type} (l : List α) (i : Nat) (a : α) : l.toArray.setIfInBounds i a = (l.set i a).toArray := List.setIfInBounds_toArray l i a
theorem lz_ {α : Type} {x : α} {xs : List α} {a : α} : (x :: xs).set 0 a = a :: xs := rfl
theorem ls_ {α : Type} {x : α} {xs : List α} {i : Nat} {a : α} : (x :: xs).set (i + 1) a = x :: xs.set i a := rfl
theorem lm_ {α β : Type} {f : α → β} {l : List α} : Array.map f l.toArray = (List.map f l).toArray := List.map_toArray
theorem lo_ {α β : Type} {f : α → β} {a : α} {l : List α} : List.map f (a :: l) = f a :: List.map f l := rfl
theorem ln_ {α β : Type} {f : α → β} : List.map f [] = [] := rfl
theorem mk_ {p : Prop} (h : p) : Aside0 p := ⟨h⟩
theorem bn_ {w : World} {g : Nat} {o : Obj} (h : w.heap[g]? = some o) (n : Nat) : (w.drewN n).heap[g]? = some o := h
theorem bw_ {w : World} {g : Nat} {o : Obj} (h : w.heap[g]? = some o) : w.drew.heap[g]? = some o := h
theorem ba_ {w : World} {g : Nat} {o : Obj} (h : w.heap[g]? = some o) (o' : Obj) : (w.alloc o').heap[g]? = some o := blk_alloc h o'
theorem na_ {w W : World} (h : Below w.heap.size w W) (o : Obj) : Below w.heap.size w (W.alloc o) := below_alloc h o
theorem nn_ {B : Nat} {w W : World} (h : Below B w W) (n : Nat) : Below B w (W.drewN n) := pw_below_drewN h n
theorem nw_ {base : Nat} {w W : World} (h : Below base w W) : Below base w W.drew := h.drew
theorem lc_ (w : World) (a : Addr) {u : Value} (h : w.cell? a = some u) : a.block < w.heap.size := World.block_lt_of_cell? w a h
theorem bs_ {w W : World} {g j : Nat} {v : Value} (h : Below w.heap.size w W) (hg : w.heap.size ≤ g) : Below w.heap.size w (W.setCell ⟨g, j, none⟩ v) := h.setCell hg _
theorem ne1_ {a b c : Nat} (h : a < b) (h' : b ≤ c) : a ≠ c := Nat.ne_of_lt (Nat.lt_of_lt_of_le h h')
abbrev T_ : Bool := true
abbrev F_ : Bool := false
namespace Kd
section
variable {α : Type} {d : Kd α} {e : Nat} {w : World} {base : Nat} {ok : Nat → Prop} {A : Option Addr} {n c : Nat} {xs : List α}
theorem clip_block (A : Option Addr) (n c c' : Nat) : (Value.slice A n c).ownBlock = (Value.slice A n c').ownBlock := by cases A <;> rfl
theorem R_clip (h : d.R e w base ok (.slice A n c) xs) (hn : n = xs.length) : d.R e w base ok (.slice A n n) xs := by
  obtain ⟨h0, inner, ho, hr⟩ := h
  rw [clip_block A n c n] at h0 hr
  subst hn
  exact ⟨h0, inner, ho.clip, hr⟩
theorem S_clip (h : Kd.S d e w base ok (.slice A n c) xs) (hn : n = xs.length) : Kd.S d e w base ok (.slice A n n) xs := by
  obtain ⟨f, h⟩ := h
  exact ⟨f, R_clip h (by rw [hn, List.length_zipIdx])⟩
theorem N_clip (h : Kd.N d e w base ok (.slice A n c) xs) (hn : n = xs.length) : Kd.N d e w base ok (.slice A n n) xs := by
  obtain ⟨h0, rows, hl, hR, hf⟩ := h
  have hR' := R_clip hR (by rw [hn, hl])
  rw [clip_block A n c n] at h0 hR' hf
  exact ⟨h0, rows, hl, hR', hf⟩
end
end Kd
end Go.Proofs.YtkkibccnpkbbjabV.PrintWords
