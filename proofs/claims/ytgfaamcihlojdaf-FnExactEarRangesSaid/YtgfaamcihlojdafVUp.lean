/- What an object, a row and a frame say still holds behind steps that store nothing. No conditions but those that each theorem states. -/
import Derived.Test.YtgfaamcihlojdafVClip
namespace Go.Proofs.YtgfaamcihlojdafV.PrintWords
open Go.RowKit
/-- From w to W only steps that store nothing. -/
class Up (w W : World) : Prop where
  out : Below w.heap.size w W
instance up_refl (w : World) : Up w w := ⟨Below.refl _ _⟩
instance up_drewN (w W : World) (n : Nat) [h : Up w W] : Up w (W.drewN n) := ⟨pw_below_drewN h.out n⟩
instance up_drew (w W : World) [h : Up w W] : Up w W.drew := ⟨h.out.drew⟩
instance up_alloc (w W : World) (o : Obj) [h : Up w W] : Up w (W.alloc o) := ⟨below_alloc h.out o⟩
theorem u_ {w W : World} {g : Nat} {o : Obj} (h : w.heap[g]? = some o) [k : Up w W] : W.heap[g]? = some o := blk_below h k.out
theorem ub_ {w w1 W : World} (h : Below w.heap.size w w1) [k : Up w1 W] : Below w.heap.size w W := below_step h k.out
/-- A block of the call's own: it lies behind what the world held at first. -/
class Ge (w : World) (g : Nat) : Prop where
  out : w.heap.size ≤ g
theorem ge_ {w : World} {g : Nat} (h : w.heap.size ≤ g) : Ge w g := ⟨h⟩
/-- Two blocks are not the same. -/
class Nq (g h : Nat) : Prop where
  out : g ≠ h
theorem nq_ {g h : Nat} (k : g ≠ h) : Nq g h := ⟨k⟩
/-- From w1 to W only steps that store at most into blocks of the call's own. -/
class UpS (w w1 W : World) : Prop where
  out : Below w.heap.size w w1 → Below w.heap.size w W
instance ups_refl (w w1 : World) : UpS w w1 w1 := ⟨id⟩
instance ups_drewN (w w1 W : World) (n : Nat) [h : UpS w w1 W] : UpS w w1 (W.drewN n) := ⟨fun k => pw_below_drewN (h.out k) n⟩
instance ups_drew (w w1 W : World) [h : UpS w w1 W] : UpS w w1 W.drew := ⟨fun k => (h.out k).drew⟩
instance ups_alloc (w w1 W : World) (o : Obj) [h : UpS w w1 W] : UpS w w1 (W.alloc o) := ⟨fun k => below_alloc (h.out k) o⟩
instance ups_set (w w1 W : World) (g j : Nat) (v : Value) [h : UpS w w1 W] [k : Ge w g] : UpS w w1 (W.setCell ⟨g, j, none⟩ v) := ⟨fun x => bs_ (h.out x) k.out⟩
theorem us_ {w w1 W : World} (h : Below w.heap.size w w1) [k : UpS w w1 W] : Below w.heap.size w W := k.out h
/-- From w to W no step stores into block g. -/
class UpB (g : Nat) (w W : World) : Prop where
  out : ∀ {t : TypeId} {cs : Array Value}, w.heap[g]? = some (.cells cs t (0, 0)) → W.heap[g]? = some (.cells cs t (0, 0))
instance upb_refl (g : Nat) (w : World) : UpB g w w := ⟨id⟩
instance upb_drewN (g : Nat) (w W : World) (n : Nat) [h : UpB g w W] : UpB g w (W.drewN n) := ⟨fun k => bn_ (h.out k) n⟩
instance upb_drew (g : Nat) (w W : World) [h : UpB g w W] : UpB g w W.drew := ⟨fun k => bw_ (h.out k)⟩
instance upb_alloc (g : Nat) (w W : World) (o : Obj) [h : UpB g w W] : UpB g w (W.alloc o) := ⟨fun k => ba_ (h.out k) o⟩
instance upb_set (g : Nat) (w W : World) (g' j : Nat) (v : Value) [h : UpB g w W] [k : Nq g g'] : UpB g w (W.setCell ⟨g', j, none⟩ v) := ⟨fun x => blk_far (h.out x) k.out v⟩
theorem uf_ {w W : World} {g : Nat} {t : TypeId} {cs : Array Value} (h : w.heap[g]? = some (.cells cs t (0, 0))) [k : UpB g w W] : W.heap[g]? = some (.cells cs t (0, 0)) := k.out h
namespace Kd
theorem ur_ {α : Type} {d : Kd α} {e : Nat} {w W : World} {base : Nat} {ok : Nat → Prop} {v : Value} {xs : List α} (h : d.R e w base ok v xs) [k : Up w W] : d.R e W base ok v xs := R_below h k.out
end Kd
end Go.Proofs.YtgfaamcihlojdafV.PrintWords
