/- Rows whose elements' inner rows lie apart, at two levels: kinds, and what an element lent out and put back says. No conditions but those that each theorem states. -/
import Derived.Test.YtkkibccnpkbbjaaVUp
import Derived.Test.YtkkibccnpkbbjaaVApart
import Derived.Test.YtkkibccnpkbbjaaVMore
namespace Go.Proofs.YtkkibccnpkbbjaaV.PrintWords
open Go.RowKit
namespace Kd
/-- A slice whose elements' inner rows lie apart. -/
def sliceS {α : Type} (e : Nat) (d : Kd α) : Kd (List α) where
  sz := 1
  E := e :: d.E
  K := fun w xs cs => ∃ A c, cs = [.slice A xs.length c] ∧ xs.length ≤ c ∧ d.C w A xs.length xs
  M := fun w base ok xs cs => ∃ v, cs = [v] ∧ S d e w base ok v xs
  K_len := by
    rintro w x cs ⟨A, c, rfl, _⟩
    rfl
  K_one := by
    rintro w x cs ⟨A, c, rfl, _⟩ u hu
    rw [List.mem_singleton.1 hu]
    rfl
  K_below := by
    rintro w w1 x cs hb ⟨A, c, rfl, hl, hr⟩
    exact ⟨A, c, rfl, hl, C_below hr hb⟩
  K_of_M := by
    rintro w base ok x cs ⟨v, rfl, h⟩
    obtain ⟨A, c, rfl, hl, hr⟩ := S_reads h
    exact ⟨A, c, rfl, hl, hr⟩
  M_mono := by
    rintro w base ok ok' x cs hok ⟨v, rfl, h⟩
    exact ⟨v, rfl, S_mono h hok⟩
  M_bound := by
    rintro w base ok x cs ⟨v, rfl, h⟩
    exact ⟨v, rfl, S_bound h⟩
  M_move := by
    rintro w w1 base ok x cs hm ⟨v, rfl, h⟩
    exact ⟨v, rfl, S_move h hm⟩
  M_lower := by
    rintro w base base' ok x cs hb ⟨v, rfl, h⟩
    exact ⟨v, rfl, S_lower h hb⟩
section
variable {α : Type} {d d' : Kd α} {e : Nat} {w w1 W : World} {base : Nat} {ok okp : Nat → Prop} {v : Value} {xs : List α}
/-- A kind that says less of each element. -/
theorem R_less (h : d'.R e w base ok v xs) (hs : d.sz = d'.sz) (hM : ∀ {ok : Nat → Prop} {x : α} {cs : List Value}, d'.M w base ok x cs → d.M w base ok x cs) : d.R e w base ok v xs := by
  obtain ⟨h0, inner, ho, hr⟩ := h
  refine ⟨h0, inner, by rw [hs]; exact ho, by rw [hs]; exact hr.imp_ (fun _ _ hp => hM hp)⟩
theorem S_less (h : S d' e w base ok v xs) (hs : d.sz = d'.sz) (hM : ∀ {ok : Nat → Prop} {x : α} {cs : List Value}, d'.M w base ok x cs → d.M w base ok x cs) : S d e w base ok v xs := by
  obtain ⟨f, h⟩ := h
  exact ⟨f, R_less (d := tag f d) (d' := tag f d') h hs (fun hp => hM hp)⟩
/-- Behind a step that only makes, a row's blocks are elder than what is made after it. -/
theorem S_elder (h : S d e w base ok v xs) : S d e w base (fun k => ok k ∧ k < w.heap.size) v xs := S_mono (S_bound h) (fun _ hk => ⟨hk.1, hk.2.2.1⟩)
theorem R_elder0 (h : d.R e w base ok v xs) : d.R e w base (fun k => ok k ∧ k < w.heap.size) v xs := R_mono (R_bound h) (fun _ hk => ⟨hk.1, hk.2.2.1⟩)
theorem S_fresh (h : S d e w base ok v xs) : S d e w base (fun k => ok k ∧ base ≤ k) v xs := S_mono (S_bound h) (fun _ hk => ⟨hk.1, hk.2.1⟩)
theorem R_fresh (h : d.R e w base ok v xs) : d.R e w base (fun k => ok k ∧ base ≤ k) v xs := R_mono (R_bound h) (fun _ hk => ⟨hk.1, hk.2.1⟩)
theorem us_S (h : S d e w base ok v xs) [k : Up w W] : S d e W base ok v xs := S_below h k.out
end
end Kd
end Go.Proofs.YtkkibccnpkbbjaaV.PrintWords
