/- What comes in reads, type by type, as a value of the print's kinds: whole numbers in their kind's range, bools, slices of at most maxLen elements, structs field by field. Conditions: the program's own table of types, handed to each theorem. -/
import Derived.Test.YtkkibccnpkbbjabVWords
import Derived.Deep.Slices
import Derived.ChangeArms
import Derived.DataReads
import Derived.WideShapes
namespace Go.Proofs.YtkkibccnpkbbjabVO
open Go Go.RowKit Go.Deep Go.ChangeShapes Go.WideShapes Go.Proofs.YtkkibccnpkbbjabV.PrintWords
set_option linter.unusedVariables false

/-- Whatever cells read as data of type t are a value of this kind, and it is good. -/
structure Opens (P : Program) (t : TypeId) {α : Type} (d : Kd α) (good : α → Prop) : Prop where
  cells : P.cellsOf t = d.sz
  out : ∀ {H : Type} {enc : TypeId × Value → H} {w : World} {fuel : Nat} {cs : List Value} {x : DataW H × List MemPlace}, DataW.trod enc P w 0 (fun _ => true) true fuel t cs = some x → ∃ a, d.K w a cs ∧ good a

section
variable {P : Program} {t e : TypeId}

theorem opens_int {k : IntKind} (ht : P.underlying t = some (.int k)) (hc : P.cellsOf t = 1) : Opens P t (Kd.int k) (fun n => (Lit.int k n).wf = true) where
  cells := hc
  out := by
    intro H enc w fuel cs x h
    obtain ⟨n, rfl, _, hw⟩ := DataW.trod_int ht h
    exact ⟨n, rfl, hw⟩
theorem opens_bool (ht : P.underlying t = some .bool) (hc : P.cellsOf t = 1) : Opens P t Kd.bool (fun _ => True) where
  cells := hc
  out := by
    intro H enc w fuel cs x h
    obtain ⟨n, rfl, _⟩ := DataW.trod_bool ht h
    exact ⟨n, rfl, trivial⟩

theorem list_of {α : Type} {p : Nat → α → Prop} : ∀ n : Nat, (∀ i, i < n → ∃ x, p i x) → ∃ xs : List α, xs.length = n ∧ ∀ i x, xs[i]? = some x → p i x
  | 0, _ => ⟨[], rfl, fun i x h => by simp at h⟩
  | n + 1, h => by
    obtain ⟨xs, hl, hp⟩ := list_of n (fun i hi => h i (by omega))
    obtain ⟨y, hy⟩ := h n (by omega)
    refine ⟨xs ++ [y], by simp [hl], fun i x hx => ?_⟩
    by_cases hi : i < n
    · rw [List.getElem?_append_left (by omega)] at hx
      exact hp i x hx
    · rw [List.getElem?_append_right (by omega)] at hx
      by_cases h0 : i - xs.length = 0
      · rw [h0] at hx
        obtain rfl : y = x := by simpa using hx
        obtain rfl : i = n := by omega
        exact hy
      · rw [List.getElem?_eq_none (by simp; omega)] at hx
        cases hx

theorem opens_slice {α : Type} {d : Kd α} {good : α → Prop} (q : Nat) (ht : P.underlying t = some (.slice e)) (hc : P.cellsOf t = 1) (he : Opens P e d good) :
    Opens P t (Kd.slice q d) (fun xs => xs.length ≤ maxLen ∧ ∀ x ∈ xs, good x) where
  cells := hc
  out := by
    intro H enc w fuel cs x h
    rcases open_slice ht h with ⟨rfl, _⟩ | ⟨a, len, cap, m, n, D, Pl, rfl, hb, hl, hm, hmm, _, hx⟩
    · exact ⟨[], ⟨none, 0, rfl, Nat.le_refl _, rfl, by simp, fun h => absurd h (by simp)⟩, by simp, fun x hx => by cases hx⟩
    · obtain ⟨xs, hxl, hxs⟩ := list_of (α := α) (p := fun i y => ∃ cs', w.cells? 0 (a.add (i * P.cellsOf e)) (P.cellsOf e) = some cs' ∧ d.K w y cs' ∧ good y) len (fun i hi => by
        obtain ⟨cs', h1, h2⟩ := hx i (by rw [hmm]; split <;> omega)
        obtain ⟨y, hy, hg⟩ := he.out h2
        exact ⟨y, cs', h1, hy, hg⟩)
      subst hxl
      refine ⟨xs, ⟨some a, cap, rfl, hl, rfl, ?_, fun _ => ⟨a, rfl, fun j p hj => ?_⟩⟩, by omega, fun y hy => ?_⟩
      · have : maxLen ≤ 9223372036854775807 := by unfold maxLen; omega
        omega
      · obtain ⟨cs', h1, h2, _⟩ := hxs j p hj
        refine ⟨cs', d.K_len h2, h2, fun i u hu => ?_⟩
        obtain ⟨_, hlen, hcell⟩ := World.cells?_some h1
        have hlt : i < cs'.length := (List.getElem?_eq_some_iff.1 hu).1
        rw [he.cells] at hcell
        have := hcell i (by rw [d.K_len h2] at hlt; exact hlt)
        rw [Go.Deep.add_add] at this
        rw [this, hu]
      · obtain ⟨i, hi⟩ := List.getElem?_of_mem hy
        obtain ⟨_, _, _, hg⟩ := hxs i y hi
        exact hg

/-- A struct's fields, from one on: the rest of the cells are a value of this kind. -/
structure Fields (P : Program) (fs : List Field) (off : Nat) {α : Type} (d : Kd α) (good : α → Prop) : Prop where
  out : ∀ {H : Type} {enc : TypeId × Value → H} {w : World} {n : Nat} {cs : List Value}, cs.length = off + d.sz →
    (∀ f ∈ fs, ∃ x, DataW.trod enc P w 0 (fun _ => true) true n f.type ((cs.drop f.offset).take (P.cellsOf f.type)) = some x) → ∃ a, d.K w a (cs.drop off) ∧ good a

theorem fields_one {f : Field} {α : Type} {d : Kd α} {good : α → Prop} {off : Nat} (ho : f.offset = off) (he : Opens P f.type d good) : Fields P [f] off d good := by
  refine ⟨?_⟩
  intro H enc w n cs hl h
  obtain ⟨x, hx⟩ := h f (by simp)
  rw [he.cells, ho, List.take_of_length_le (by rw [List.length_drop]; omega)] at hx
  exact he.out hx
theorem fields_more {f : Field} {fs : List Field} {α β : Type} {d : Kd α} {d' : Kd β} {good : α → Prop} {good' : β → Prop} {off : Nat} (ho : f.offset = off) (he : Opens P f.type d good) (hr : Fields P fs (off + d.sz) d' good') :
    Fields P (f :: fs) off (Kd.pair d d') (fun x => good x.1 ∧ good' x.2) := by
  refine ⟨?_⟩
  intro H enc w n cs hl h
  have hs : (Kd.pair d d').sz = d.sz + d'.sz := rfl
  obtain ⟨x, hx⟩ := h f (by simp)
  rw [he.cells, ho] at hx
  obtain ⟨a, ha, hg⟩ := he.out hx
  obtain ⟨b, hb, hg'⟩ := hr.out (cs := cs) (by omega) (fun f' hf' => h f' (List.mem_cons_of_mem _ hf'))
  refine ⟨(a, b), ⟨_, _, ?_, ha, hb⟩, hg, hg'⟩
  rw [← List.drop_drop, List.take_append_drop]
theorem opens_struct {fs : Array Field} {α : Type} {d : Kd α} {good : α → Prop} (ht : P.underlying t = some (.struct fs)) (hc : P.cellsOf t = d.sz) (hf : Fields P fs.toList 0 d good) : Opens P t d good where
  cells := hc
  out := by
    intro H enc w fuel cs x h
    obtain ⟨xs, n, rfl, _, hlen, hxl, hx⟩ := DataW.trod_struct ht h
    have := hf.out (enc := enc) (w := w) (n := n) (cs := cs) (by omega) (fun f hf' => by
      obtain ⟨i, hi⟩ := List.getElem?_of_mem hf'
      have hi' : fs[i]? = some f := by simpa using hi
      rw [hx i f hi']
      have hlt : i < fs.size := (Array.getElem?_eq_some_iff.1 hi').1
      exact ⟨xs[i], List.getElem?_eq_getElem (by omega)⟩)
    simpa using this
theorem opens_iso {α β : Type} {d : Kd α} {good : α → Prop} {good' : β → Prop} (f : β → α) (g : α → β) (hfg : ∀ x, f (g x) = x) (hg : ∀ x, good x → good' (g x)) (h : Opens P t d good) : Opens P t (Kd.iso d f) good' where
  cells := h.cells
  out := by
    intro H enc w fuel cs x hx
    obtain ⟨a, ha, hga⟩ := h.out hx
    exact ⟨g a, by show d.K w (f (g a)) cs; rw [hfg]; exact ha, hg a hga⟩
end
end Go.Proofs.YtkkibccnpkbbjabVO
