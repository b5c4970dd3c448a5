/- The pure law of FnNoteOk: whatever the code, the drawn note is ok for the program just if it is for the reference; without its bytes it stays ok, and with the kind 0 it is none. No conditions. -/
import Derived.Test.YtgfaamcihlojdabQFnNoteOkx2
namespace Go.Proofs.Ytgfaamcihlojdab.Pure
open Go Go.RowKit Go.Proofs.Ytgfaamcihlojdab.PFnNoteOk Go.Proofs.YtgfaamcihlojdabW.PrintWords Go.Proofs.YtgfaamcihlojdabW.PrintLast
set_option linter.unusedVariables false
set_option linter.unusedSimpArgs false
namespace FnNoteOk_
/-! ### a draw: a number in 0..n-1, and the place one further -/
theorem xor_nat (a b : Nat) (ha : a < 9223372036854775808) (hb : b < 9223372036854775808) : Go.bits .xor .i64 (a : Int) (b : Int) = ((a ^^^ b : Nat) : Int) := by
  have hx : a ^^^ b < 2 ^ 63 := Nat.xor_lt_two_pow (by omega) (by omega)
  have ha' : a % 2 ^ 64 = a := Nat.mod_eq_of_lt (by omega)
  have hb' : b % 2 ^ 64 = b := Nat.mod_eq_of_lt (by omega)
  have e : IntKind.i64.bits = 64 := rfl
  simp only [Go.bits, BitVec.ofInt_natCast, BitVec.toNat_xor, BitVec.toNat_ofNat, e, ha', hb']
  rw [IntKind.wrap_i64]
  omega
theorem wrap_in {n : Int} (h : -9223372036854775808 ≤ n) (h' : n ≤ 9223372036854775807) : wrap64 n = n := by
  unfold wrap64; omega
theorem u8_bounds {x : Int} (h : (Lit.int .u8 x).wf = true) : 0 ≤ x ∧ x ≤ 255 := by
  simpa [Lit.wf, IntKind.min, IntKind.max, IntKind.signed, IntKind.bits] using h
/-- The bytes of a code. -/
def Code (s : List Int) : Prop := (∀ x ∈ s, 0 ≤ x ∧ x ≤ 255) ∧ s.length ≤ 2000
theorem Code.at {s : List Int} (h : Code s) (i : Int) : 0 ≤ rd s i ∧ rd s i ≤ 255 := by
  unfold rd
  rw [List.getD_eq_getElem?_getD]
  rcases hc : s[i.toNat]? with _ | x
  · simp
  · have := h.1 x (List.mem_of_getElem? hc)
    simpa using this
theorem pick_some (k : Nat) (s : List Int) (p n : Int) (hs : Code s) (h0 : 0 ≤ p) (h1 : p ≤ 1000000000) (hn : 1 ≤ n) :
    ∃ v, spec_l20Rd_pick.f (k + 1) s p n = some (v, p + 1) ∧ 0 ≤ v ∧ v < n := by
  have hl := hs.2
  unfold spec_l20Rd_pick.f
  rw [if_neg (by omega)]
  by_cases hz : s.length = 0
  · refine ⟨0, ?_, by omega, by omega⟩
    simp only [spec_l20Rd_pick.j0]
    rw [if_pos (by simp [hz]), wrap_in (by omega) (by omega)]
  · have hz' : ((s.length : Int) == 0) = false := by simpa using hz
    rw [hz']
    simp only [spec_l20Rd_pick.j0]
    rw [if_neg (by decide), wrap_in (n := p + 1) (by omega) (by omega), show p + 1 - 1 = p by omega, wrap_in (n := p) (by omega) (by omega)]
    by_cases hp : p < (s.length : Int)
    · have hb := hs.at p
      rw [if_pos hp, if_pos h0, if_neg (by omega), wrap_in (by omega) (by omega), Int.tmod_eq_emod_of_nonneg hb.1]
      exact ⟨_, rfl, Int.emod_nonneg _ (by omega), Int.emod_lt_of_pos _ (by omega)⟩
    · rw [if_neg hp, if_neg (by omega)]
      have hL : (0 : Int) < (s.length : Int) := by omega
      rw [wrap_in (n := p * 7) (by omega) (by omega), wrap_in (n := p * 7 + 3) (by omega) (by omega)]
      rw [Int.tmod_eq_emod_of_nonneg h0, Int.tmod_eq_emod_of_nonneg (a := p * 7 + 3) (by omega)]
      have ha0 := Int.emod_nonneg p (b := (s.length : Int)) (by omega)
      have ha1 := Int.emod_lt_of_pos p (b := (s.length : Int)) (by omega)
      have hb0 := Int.emod_nonneg (p * 7 + 3) (b := (s.length : Int)) (by omega)
      have hb1 := Int.emod_lt_of_pos (p * 7 + 3) (b := (s.length : Int)) (by omega)
      rw [if_pos ha0, if_pos ha1, if_pos hb0, if_pos hb1, if_neg (by omega)]
      have hx := hs.at (p % (s.length : Int))
      have hy := hs.at ((p * 7 + 3) % (s.length : Int))
      generalize rd s (p % (s.length : Int)) = x at hx
      generalize rd s ((p * 7 + 3) % (s.length : Int)) = y at hy
      have hd0 : 0 ≤ p / (s.length : Int) := Int.ediv_nonneg h0 (by omega)
      have hd1 : p / (s.length : Int) ≤ p := Int.ediv_le_self _ h0
      rw [Int.tdiv_eq_ediv_of_nonneg h0]
      generalize p / (s.length : Int) = q at hd0 hd1
      rw [wrap_in (n := x) (by omega) (by omega), wrap_in (n := y) (by omega) (by omega), wrap_in (n := x * 131) (by omega) (by omega), wrap_in (n := y * 1117) (by omega) (by omega), wrap_in (n := x * 131 + y * 1117) (by omega) (by omega), wrap_in (n := p * 29) (by omega) (by omega), wrap_in (n := x * 131 + y * 1117 + p * 29) (by omega) (by omega), wrap_in (n := q) (by omega) (by omega), wrap_in (n := q * 53) (by omega) (by omega), wrap_in (n := x * 131 + y * 1117 + p * 29 + q * 53) (by omega) (by omega)]
      obtain ⟨z, hz⟩ : ∃ z : Nat, x * 131 + y * 1117 + p * 29 + q * 53 = (z : Int) := ⟨(x * 131 + y * 1117 + p * 29 + q * 53).toNat, by omega⟩
      rw [hz]
      have hzb : z < 1000000000000 := by omega
      rw [Int.tdiv_eq_ediv_of_nonneg (by omega), wrap_in (n := (z : Int) / 64) (by omega) (by omega)]
      rw [show ((z : Int) / 64) = ((z / 64 : Nat) : Int) by omega, xor_nat _ _ (by omega) (by omega), Int.tmod_eq_emod_of_nonneg (by omega)]
      exact ⟨_, rfl, Int.emod_nonneg _ (by omega), Int.emod_lt_of_pos _ (by omega)⟩
theorem open_some (l : List Int) (hw : ∀ x ∈ l, (Lit.int .u8 x).wf = true) : ∃ s, spec_l20Open.f l = some (s, 0) ∧ Code s := by
  unfold spec_l20Open.f
  have hb : ∀ x ∈ l, 0 ≤ x ∧ x ≤ 255 := fun x hx => u8_bounds (hw x hx)
  by_cases h : (l.length : Int) > 2000
  · rw [if_pos h, if_pos (by omega)]
    exact ⟨_, rfl, fun x hx => hb x (List.mem_of_mem_take hx), by rw [List.length_take]; omega⟩
  · rw [if_neg h]
    exact ⟨_, rfl, hb, by omega⟩
/-! ### what comes to an answer -/
def Tot {β : Type} (Q : β → Prop) (o : Option β) : Prop := ∃ b, o = some b ∧ Q b
theorem tot_some {β : Type} {Q : β → Prop} {b : β} (h : Q b) : Tot Q (some b) := ⟨b, rfl, h⟩
theorem tot_bind {α β : Type} {P : α → Prop} {Q : β → Prop} {o : Option α} {f : α → Option β} (h : Tot P o) (hf : ∀ a, P a → Tot Q (f a)) : Tot Q (o.bind f) := by
  obtain ⟨a, rfl, ha⟩ := h
  exact hf a ha
theorem tot_ite {β : Type} {Q : β → Prop} {c : Prop} [Decidable c] {x y : Option β} (h1 : c → Tot Q x) (h2 : ¬ c → Tot Q y) : Tot Q (if c then x else y) := by
  by_cases h : c
  · rw [if_pos h]; exact h1 h
  · rw [if_neg h]; exact h2 h
theorem tot_mono {β : Type} {P Q : β → Prop} {o : Option β} (h : Tot P o) (hq : ∀ b, P b → Q b) : Tot Q o := by
  obtain ⟨b, hb, hp⟩ := h
  exact ⟨b, hb, hq b hp⟩
theorem tot_none {β : Type} {Q : β → Prop} (h : False) : Tot Q none := h.elim
theorem tot_pick {β : Type} {Q : β → Prop} {F : Int × Int → Option β} {k : Nat} {s : List Int} {p n : Int} (hs : Code s) (hk : 1 ≤ k) (h0 : 0 ≤ p) (h1 : p ≤ 1000000000) (hn : 1 ≤ n)
    (h : ∀ v, 0 ≤ v → v < n → Tot Q (F (v, p + 1))) : Tot Q ((spec_l20Rd_pick.f k s p n).bind F) := by
  obtain ⟨k, rfl⟩ : ∃ m, k = m + 1 := ⟨k - 1, by omega⟩
  obtain ⟨v, hv, v0, v1⟩ := pick_some k s p n hs h0 h1 hn
  rw [hv]
  exact h v v0 v1
theorem tot_odd {β : Type} {Q : β → Prop} {F : Bool × Int → Option β} {k : Nat} {s : List Int} {p n : Int} (hs : Code s) (hk : 1 ≤ k) (h0 : 0 ≤ p) (h1 : p ≤ 1000000000)
    (h : ∀ b p', p ≤ p' → p' ≤ p + 1 → Tot Q (F (b, p'))) : Tot Q ((spec_l20Rd_odd.f k s p n).bind F) := by
  refine tot_bind (P := fun r => p ≤ r.2 ∧ r.2 ≤ p + 1) ?_ (fun a ha => h a.1 a.2 ha.1 ha.2)
  unfold spec_l20Rd_odd.f
  refine tot_ite (fun hn => ?_) (fun hn => ?_)
  · refine tot_pick hs hk h0 h1 (by omega) ?_
    intro v _ _
    exact tot_some (by dsimp only; omega)
  · exact tot_some (by dsimp only; omega)
theorem tot_word {β : Type} {Q : β → Prop} {F : Int × Int → Option β} {k : Nat} {s : List Int} {p : Int} (hs : Code s) (hk : 1 ≤ k) (h0 : 0 ≤ p) (h1 : p ≤ 900000000)
    (h : ∀ v p', 0 ≤ v → v ≤ 65535 → p ≤ p' → p' ≤ p + 3 → Tot Q (F (v, p'))) : Tot Q ((spec_l20Rd_word.f k s p).bind F) := by
  refine tot_bind (P := fun r => 0 ≤ r.1 ∧ r.1 ≤ 65535 ∧ p ≤ r.2 ∧ r.2 ≤ p + 3) ?_ (fun a ha => h a.1 a.2 ha.1 ha.2.1 ha.2.2.1 ha.2.2.2)
  unfold spec_l20Rd_word.f
  refine tot_pick hs hk h0 (by omega) (by omega) ?_
  intro v _ _
  refine tot_ite (fun _ => ?_) (fun _ => tot_ite (fun _ => ?_) (fun _ => ?_))
  · refine tot_pick hs hk (by dsimp only; omega) (by dsimp only; omega) (by omega) ?_
    intro v _ _
    exact tot_some (by dsimp only; omega)
  · refine tot_pick hs hk (by dsimp only; omega) (by dsimp only; omega) (by omega) ?_
    intro v _ _
    exact tot_some (by dsimp only; unfold wrap64; omega)
  · refine tot_pick hs hk (by dsimp only; omega) (by dsimp only; omega) (by omega) ?_
    intro v _ _
    refine tot_pick hs hk (by dsimp only; omega) (by dsimp only; omega) (by omega) ?_
    intro v' _ _
    exact tot_some (by dsimp only; unfold wrap64; omega)
theorem bytes_loop (s : List Int) (hs : Code s) : ∀ (d : Nat) (k : Nat) (n : Int) (acc : List Int) (p : Int), n = (d : Int) → d < k → d ≤ 1000000 → acc.length + d ≤ 1000000 → 0 ≤ p → p + 2 * n ≤ 900000000 → (∀ x ∈ acc, 0 ≤ x ∧ x ≤ 255) →
    Tot (fun r => r.1.length = acc.length + d ∧ (∀ x ∈ r.1, 0 ≤ x ∧ x ≤ 255) ∧ p ≤ r.2 ∧ r.2 ≤ p + 2 * n) (spec_l20Rd_bytes.l0 k n acc s p) := by
  intro d
  induction d with
  | zero =>
    intro k n acc p hn hk hd hl h0 h1 ha
    obtain ⟨k, rfl⟩ : ∃ m, k = m + 1 := ⟨k - 1, by omega⟩
    simp only [spec_l20Rd_bytes.l0]
    rw [if_neg (by omega)]
    exact tot_some ⟨by simp, ha, by omega, by omega⟩
  | succ d ih =>
    intro k n acc p hn hk hd hl h0 h1 ha
    obtain ⟨k, rfl⟩ : ∃ m, k = m + 1 := ⟨k - 1, by omega⟩
    simp only [spec_l20Rd_bytes.l0]
    rw [if_pos (by omega)]
    have key : ∀ (x p' : Int), 0 ≤ x → x ≤ 255 → p ≤ p' → p' ≤ p + 2 → Tot (fun r : List Int × Int => r.1.length = acc.length + (d + 1) ∧ (∀ x ∈ r.1, 0 ≤ x ∧ x ≤ 255) ∧ p ≤ r.2 ∧ r.2 ≤ p + 2 * n) (if acc.length < 140737488355328 then spec_l20Rd_bytes.l0 k (wrap64 (n - 1)) (acc ++ [x]) s p' else none) := by
      intro x p' x0 x1 hp hp'
      rw [if_pos (by omega), show wrap64 (n - 1) = n - 1 by unfold wrap64; omega]
      refine tot_mono (ih k (n - 1) (acc ++ [x]) p' (by omega) (by omega) (by omega) (by simp; omega) (by omega) (by omega) (fun y hy => ?_)) (fun r hr => ?_)
      · rcases List.mem_append.1 hy with hy | hy
        · exact ha y hy
        · obtain rfl := List.mem_singleton.1 hy
          exact ⟨x0, x1⟩
      · obtain ⟨h1, h2, h3, h4⟩ := hr
        refine ⟨?_, h2, by omega, by omega⟩
        rw [h1, List.length_append, List.length_singleton]
        omega
    refine tot_pick hs (by omega) h0 (by omega) (by omega) ?_
    intro v v0 v1
    dsimp only
    refine tot_ite (fun _ => ?_) (fun _ => ?_)
    · refine tot_pick hs (by omega) (by omega) (by omega) (by omega) ?_
      intro u u0 u1
      dsimp only
      refine key _ _ ?_ ?_ (by omega) (by omega) <;> first | omega | (simp only [IntKind.wrap_u8, wrap64]; omega)
    · refine tot_pick hs (by omega) (by omega) (by omega) (by omega) ?_
      intro u u0 u1
      dsimp only
      refine key _ _ ?_ ?_ (by omega) (by omega) <;> first | omega | (simp only [IntKind.wrap_u8, wrap64]; omega)
theorem tot_bytes {β : Type} {Q : β → Prop} {F : List Int × Int → Option β} {k : Nat} {s : List Int} {p n : Int} (hs : Code s) (hk : 1000 ≤ k) (h0 : 0 ≤ p) (h1 : p ≤ 800000000) (n0 : 0 ≤ n) (n1 : n < 1000)
    (h : ∀ l p', l.length = n.toNat → (∀ x ∈ l, 0 ≤ x ∧ x ≤ 255) → p ≤ p' → p' ≤ p + 2 * n → Tot Q (F (l, p'))) : Tot Q ((spec_l20Rd_bytes.f k s p n).bind F) := by
  unfold spec_l20Rd_bytes.f
  refine tot_bind (bytes_loop s hs n.toNat k n [] p (by omega) (by omega) (by omega) (by simp; omega) h0 (by omega) (fun x hx => by cases hx)) (fun a ha => ?_)
  obtain ⟨h1, h2, h3, h4⟩ := ha
  exact h a.1 a.2 (by simpa using h1) h2 h3 h4
theorem inAll (x y z : Int) : spec_l1In.f x y z = some (decide (y ≤ x ∧ x ≤ z)) := by
  unfold spec_l1In.f
  by_cases h : x ≥ y
  · rw [if_pos h]; congr 1; simp only [decide_eq_decide]; omega
  · rw [if_neg h]; congr 1; symm; simp only [decide_eq_false_iff_not]; omega
theorem inAll' (x y z : Int) : impl_in.f x y z = some (decide (y ≤ x ∧ x ≤ z)) := inAll x y z
theorem alive_true (k : Nat) : laws_alive.f (k + 3) = some true := by
  simp [laws_alive.f, impl_BytesOf.f, impl_in.f, impl_bytesOf.f, impl_bytesOf.l0, wrap64, shl, IntKind.wrap, IntKind.bits, IntKind.signed]
theorem draw_tot (l : List Int) (hw : ∀ x ∈ l, (Lit.int .u8 x).wf = true) : ∃ t, spec_DrawNoteOk.f 2000 l = some t := by
  obtain ⟨s, hs, hc⟩ := open_some l hw
  have : Tot (fun _ => True) (spec_DrawNoteOk.f 2000 l) := by
    unfold spec_DrawNoteOk.f
    rw [hs, Option.bind_some]
    refine tot_bind (P := fun _ => True) ?_ (fun a _ => tot_some trivial)
    unfold spec_l20Note.f
    refine tot_pick hc (by omega) (by omega) (by omega) (by omega) ?_; intro a a0 a1; dsimp only
    refine tot_word hc (by omega) (by omega) (by omega) ?_; intro b p1 b0 b1 q1 q2; dsimp only
    refine tot_pick hc (by omega) (by omega) (by omega) (by omega) ?_; intro c c0 c1; dsimp only
    refine tot_bytes hc (by omega) (by omega) (by omega) (by omega) (by omega) ?_; intro d p2 d0 d1 q3 q4; dsimp only
    refine tot_odd hc (by omega) (by omega) (by omega) ?_; intro e p3 q5 q6; dsimp only
    refine tot_ite (fun _ => ?_) (fun _ => tot_some trivial)
    refine tot_pick hc (by omega) (by omega) (by omega) (by omega) ?_; intro f f0 f1; dsimp only
    refine tot_ite (fun _ => ?_) (fun _ => tot_ite (fun _ => ?_) (fun _ => tot_ite (fun _ => tot_some trivial) (fun h => absurd h (by omega))))
    · refine tot_pick hc (by omega) (by omega) (by omega) (by omega) ?_; intro g g0 g1; exact tot_some trivial
    · refine tot_pick hc (by omega) (by omega) (by omega) (by omega) ?_; intro g g0 g1; exact tot_some trivial
  obtain ⟨t, ht, _⟩ := this
  exact ⟨t, ht⟩
theorem noteOk_impl (a b : Int) (l : List Int) : impl_NoteOk.f a b l = some (decide ((1 ≤ a ∧ a ≤ 6) ∧ (0 ≤ b ∧ b ≤ 65535) ∧ (l.length : Int) ≤ 20)) := by
  simp only [impl_NoteOk.f, impl_word.f, inAll', Option.bind_some]
  by_cases h1 : 1 ≤ a ∧ a ≤ 6 <;> by_cases h2 : 0 ≤ b ∧ b ≤ 65535 <;> simp [h1, h2]
theorem noteOk_spec (a b : Int) (l : List Int) : spec_NoteOk.f a b l = some (decide ((1 ≤ a ∧ a ≤ 6) ∧ (0 ≤ b ∧ b ≤ 65535) ∧ (l.length : Int) ≤ 20)) := by
  simp only [spec_NoteOk.f, inAll, Option.bind_some]
  by_cases h1 : 1 ≤ a ∧ a ≤ 6 <;> by_cases h2 : 0 ≤ b ∧ b ≤ 65535 <;> simp [h1, h2]
theorem main : laws_FnNoteOk.Pure := by
  intro l _ _ hw
  refine ⟨2000, ?_⟩
  unfold laws_FnNoteOk.f
  by_cases hl : (l.length : Int) > 1048576
  · rw [if_pos hl]
  · rw [if_neg hl]
    obtain ⟨⟨a, b, m⟩, ht⟩ := draw_tot l hw
    simp only [ht, Option.bind_some, noteOk_impl, noteOk_spec, alive_true 1997]
    by_cases h1 : 1 ≤ a ∧ a ≤ 6 <;> by_cases h2 : 0 ≤ b ∧ b ≤ 65535 <;> by_cases h3 : (m.length : Int) ≤ 20 <;> simp [h1, h2, h3]
end FnNoteOk_
theorem FnNoteOk : laws_FnNoteOk.Pure := FnNoteOk_.main
end Go.Proofs.Ytgfaamcihlojdab.Pure
