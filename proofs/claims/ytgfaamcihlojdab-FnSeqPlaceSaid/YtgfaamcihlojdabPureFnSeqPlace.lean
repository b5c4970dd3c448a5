/- The pure law of FnSeqPlace: whatever the code, the drawn number stands for one place near the drawn place, at most half a round away, and places less than half a round away are found from their numbers. No conditions. -/
import Derived.Test.YtgfaamcihlojdabQFnSeqPlacex2
namespace Go.Proofs.Ytgfaamcihlojdab.Pure
open Go Go.RowKit Go.Proofs.Ytgfaamcihlojdab.PFnSeqPlace Go.Proofs.YtgfaamcihlojdabW.PrintWords Go.Proofs.YtgfaamcihlojdabW.PrintLast
set_option linter.unusedVariables false
set_option linter.unusedSimpArgs false
namespace FnSeqPlace_
/-! ### a draw: a number in 0..n-1, and the place one further -/
theorem xor_nat (a b : Nat) (ha : a < 9223372036854775808) (hb : b < 9223372036854775808) : Go.bits .xor .i64 (a : Int) (b : Int) = ((a ^^^ b : Nat) : Int) := by
  have hx : a ^^^ b < 2 ^ 63 := Nat.xor_lt_two_pow (by omega) (by omega)
  have ha' : a % 2 ^ 64 = a := Nat.mod_eq_of_lt (by omega)
  have hb' : b % 2 ^ 64 = b := Nat.mod_eq_of_lt (by omega)
  have e : IntKind.i64.bits = 64 := rfl
  simp only [Go.bits, BitVec.ofInt_natCast, BitVec.toNat_xor, BitVec.toNat_ofNat, e, ha', hb']
  rw [IntKind.wrap_i64]
  omega
theorem wrap_in {n : Int} (h : -9223372036854775808 ≤ n) (h' : n ≤ 9223372036854775807) : wrap64 n = n := by
  unfold wrap64; omega
theorem u8_bounds {x : Int} (h : (Lit.int .u8 x).wf = true) : 0 ≤ x ∧ x ≤ 255 := by
  simpa [Lit.wf, IntKind.min, IntKind.max, IntKind.signed, IntKind.bits] using h
/-- The bytes of a code. -/
def Code (s : List Int) : Prop := (∀ x ∈ s, 0 ≤ x ∧ x ≤ 255) ∧ s.length ≤ 2000
theorem Code.at {s : List Int} (h : Code s) (i : Int) : 0 ≤ rd s i ∧ rd s i ≤ 255 := by
  unfold rd
  rw [List.getD_eq_getElem?_getD]
  rcases hc : s[i.toNat]? with _ | x
  · simp
  · have := h.1 x (List.mem_of_getElem? hc)
    simpa using this
theorem pick_some (k : Nat) (s : List Int) (p n : Int) (hs : Code s) (h0 : 0 ≤ p) (h1 : p ≤ 1000000000) (hn : 1 ≤ n) :
    ∃ v, spec_l20Rd_pick.f (k + 1) s p n = some (v, p + 1) ∧ 0 ≤ v ∧ v < n := by
  have hl := hs.2
  unfold spec_l20Rd_pick.f
  rw [if_neg (by omega)]
  by_cases hz : s.length = 0
  · refine ⟨0, ?_, by omega, by omega⟩
    simp only [spec_l20Rd_pick.j0]
    rw [if_pos (by simp [hz]), wrap_in (by omega) (by omega)]
  · have hz' : ((s.length : Int) == 0) = false := by simpa using hz
    rw [hz']
    simp only [spec_l20Rd_pick.j0]
    rw [if_neg (by decide), wrap_in (n := p + 1) (by omega) (by omega), show p + 1 - 1 = p by omega, wrap_in (n := p) (by omega) (by omega)]
    by_cases hp : p < (s.length : Int)
    · have hb := hs.at p
      rw [if_pos hp, if_pos h0, if_neg (by omega), wrap_in (by omega) (by omega), Int.tmod_eq_emod_of_nonneg hb.1]
      exact ⟨_, rfl, Int.emod_nonneg _ (by omega), Int.emod_lt_of_pos _ (by omega)⟩
    · rw [if_neg hp, if_neg (by omega)]
      have hL : (0 : Int) < (s.length : Int) := by omega
      rw [wrap_in (n := p * 7) (by omega) (by omega), wrap_in (n := p * 7 + 3) (by omega) (by omega)]
      rw [Int.tmod_eq_emod_of_nonneg h0, Int.tmod_eq_emod_of_nonneg (a := p * 7 + 3) (by omega)]
      have ha0 := Int.emod_nonneg p (b := (s.length : Int)) (by omega)
      have ha1 := Int.emod_lt_of_pos p (b := (s.length : Int)) (by omega)
      have hb0 := Int.emod_nonneg (p * 7 + 3) (b := (s.length : Int)) (by omega)
      have hb1 := Int.emod_lt_of_pos (p * 7 + 3) (b := (s.length : Int)) (by omega)
      rw [if_pos ha0, if_pos ha1, if_pos hb0, if_pos hb1, if_neg (by omega)]
      have hx := hs.at (p % (s.length : Int))
      have hy := hs.at ((p * 7 + 3) % (s.length : Int))
      generalize rd s (p % (s.length : Int)) = x at hx
      generalize rd s ((p * 7 + 3) % (s.length : Int)) = y at hy
      have hd0 : 0 ≤ p / (s.length : Int) := Int.ediv_nonneg h0 (by omega)
      have hd1 : p / (s.length : Int) ≤ p := Int.ediv_le_self _ h0
      rw [Int.tdiv_eq_ediv_of_nonneg h0]
      generalize p / (s.length : Int) = q at hd0 hd1
      rw [wrap_in (n := x) (by omega) (by omega), wrap_in (n := y) (by omega) (by omega), wrap_in (n := x * 131) (by omega) (by omega), wrap_in (n := y * 1117) (by omega) (by omega), wrap_in (n := x * 131 + y * 1117) (by omega) (by omega), wrap_in (n := p * 29) (by omega) (by omega), wrap_in (n := x * 131 + y * 1117 + p * 29) (by omega) (by omega), wrap_in (n := q) (by omega) (by omega), wrap_in (n := q * 53) (by omega) (by omega), wrap_in (n := x * 131 + y * 1117 + p * 29 + q * 53) (by omega) (by omega)]
      obtain ⟨z, hz⟩ : ∃ z : Nat, x * 131 + y * 1117 + p * 29 + q * 53 = (z : Int) := ⟨(x * 131 + y * 1117 + p * 29 + q * 53).toNat, by omega⟩
      rw [hz]
      have hzb : z < 1000000000000 := by omega
      rw [Int.tdiv_eq_ediv_of_nonneg (by omega), wrap_in (n := (z : Int) / 64) (by omega) (by omega)]
      rw [show ((z : Int) / 64) = ((z / 64 : Nat) : Int) by omega, xor_nat _ _ (by omega) (by omega), Int.tmod_eq_emod_of_nonneg (by omega)]
      exact ⟨_, rfl, Int.emod_nonneg _ (by omega), Int.emod_lt_of_pos _ (by omega)⟩
theorem open_some (l : List Int) (hw : ∀ x ∈ l, (Lit.int .u8 x).wf = true) : ∃ s, spec_l20Open.f l = some (s, 0) ∧ Code s := by
  unfold spec_l20Open.f
  have hb : ∀ x ∈ l, 0 ≤ x ∧ x ≤ 255 := fun x hx => u8_bounds (hw x hx)
  by_cases h : (l.length : Int) > 2000
  · rw [if_pos h, if_pos (by omega)]
    exact ⟨_, rfl, fun x hx => hb x (List.mem_of_mem_take hx), by rw [List.length_take]; omega⟩
  · rw [if_neg h]
    exact ⟨_, rfl, hb, by omega⟩
/-! ### the number of a place -/
theorem seqOf_spec (a : Int) : spec_SeqOf.f a = some (a % 65536) := by
  simp only [spec_SeqOf.f, wrap64]
  have h := Int.tmod_add_mul_tdiv a 65536
  have h1 := Int.lt_tmod_of_pos a (b := 65536) (by omega)
  have h2 := Int.tmod_lt_of_pos a (b := 65536) (by omega)
  split <;> congr 1 <;> omega
theorem seqOf_impl (a : Int) : impl_SeqOf.f a = some (a % 65536) := by
  simp only [impl_SeqOf.f, wrap64]
  have h := Int.tmod_add_mul_tdiv a 65536
  have h1 := Int.lt_tmod_of_pos a (b := 65536) (by omega)
  have h2 := Int.tmod_lt_of_pos a (b := 65536) (by omega)
  have h3 := Int.tmod_eq_emod_of_nonneg (a := (((a.tmod 65536 + 65536) + 9223372036854775808) % 18446744073709551616 - 9223372036854775808)) (b := 65536) (by omega)
  congr 1
  omega
/-! ### what comes to an answer -/
def Tot {β : Type} (Q : β → Prop) (o : Option β) : Prop := ∃ b, o = some b ∧ Q b
theorem tot_some {β : Type} {Q : β → Prop} {b : β} (h : Q b) : Tot Q (some b) := ⟨b, rfl, h⟩
theorem tot_bind {α β : Type} {P : α → Prop} {Q : β → Prop} {o : Option α} {f : α → Option β} (h : Tot P o) (hf : ∀ a, P a → Tot Q (f a)) : Tot Q (o.bind f) := by
  obtain ⟨a, rfl, ha⟩ := h
  exact hf a ha
theorem tot_ite {β : Type} {Q : β → Prop} {c : Prop} [Decidable c] {x y : Option β} (h1 : c → Tot Q x) (h2 : ¬ c → Tot Q y) : Tot Q (if c then x else y) := by
  by_cases h : c
  · rw [if_pos h]; exact h1 h
  · rw [if_neg h]; exact h2 h
theorem tot_mono {β : Type} {P Q : β → Prop} {o : Option β} (h : Tot P o) (hq : ∀ b, P b → Q b) : Tot Q o := by
  obtain ⟨b, hb, hp⟩ := h
  exact ⟨b, hb, hq b hp⟩
theorem tot_none {β : Type} {Q : β → Prop} (h : False) : Tot Q none := h.elim
theorem tot_pick {β : Type} {Q : β → Prop} {F : Int × Int → Option β} {k : Nat} {s : List Int} {p n : Int} (hs : Code s) (hk : 1 ≤ k) (h0 : 0 ≤ p) (h1 : p ≤ 1000000000) (hn : 1 ≤ n)
    (h : ∀ v, 0 ≤ v → v < n → Tot Q (F (v, p + 1))) : Tot Q ((spec_l20Rd_pick.f k s p n).bind F) := by
  obtain ⟨k, rfl⟩ : ∃ m, k = m + 1 := ⟨k - 1, by omega⟩
  obtain ⟨v, hv, v0, v1⟩ := pick_some k s p n hs h0 h1 hn
  rw [hv]
  exact h v v0 v1
theorem tot_seq {β : Type} {Q : β → Prop} {F : Int × Int → Option β} {k : Nat} {s : List Int} {p : Int} (hs : Code s) (hk : 1 ≤ k) (h0 : 0 ≤ p) (h1 : p ≤ 900000000)
    (h : ∀ v p', 0 ≤ v → v ≤ 65535 → p ≤ p' → p' ≤ p + 6 → Tot Q (F (v, p'))) : Tot Q ((spec_l20Rd_seq.f k s p).bind F) := by
  refine tot_bind (P := fun r => 0 ≤ r.1 ∧ r.1 ≤ 65535 ∧ p ≤ r.2 ∧ r.2 ≤ p + 6) ?_ (fun a ha => h a.1 a.2 ha.1 ha.2.1 ha.2.2.1 ha.2.2.2)
  unfold spec_l20Rd_seq.f
  refine tot_pick hs hk (by omega) (by omega) (by omega) ?_; intro a a0 a1; dsimp only
  refine tot_pick hs hk (by omega) (by omega) (by omega) ?_; intro b b0 b1; dsimp only
  refine tot_pick hs hk (by omega) (by omega) (by omega) ?_; intro c c0 c1; dsimp only
  refine tot_pick hs hk (by omega) (by omega) (by omega) ?_; intro d d0 d1; dsimp only
  refine tot_pick hs hk (by omega) (by omega) (by omega) ?_; intro e e0 e1; dsimp only
  rw [Option.bind_some]
  refine tot_pick hs hk (by omega) (by omega) (by omega) ?_; intro f f0 f1; dsimp only
  rw [if_pos f0, if_pos (by simpa using f1)]
  refine tot_some ⟨?_, ?_, by omega, by omega⟩
  all_goals
    have hf : f = 0 ∨ f = 1 ∨ f = 2 ∨ f = 3 := by omega
    rcases hf with rfl | rfl | rfl | rfl <;> simp [rd, wrap64] <;> omega
theorem inAll (x y z : Int) : spec_l1In.f x y z = some (decide (y ≤ x ∧ x ≤ z)) := by
  unfold spec_l1In.f
  by_cases h : x ≥ y
  · rw [if_pos h]; congr 1; simp only [decide_eq_decide]; omega
  · rw [if_neg h]; congr 1; symm; simp only [decide_eq_false_iff_not]; omega
theorem inAll' (x y z : Int) : impl_in.f x y z = some (decide (y ≤ x ∧ x ≤ z)) := inAll x y z
theorem alive_true (k : Nat) : laws_alive.f (k + 3) = some true := by
  simp [laws_alive.f, impl_BytesOf.f, impl_in.f, impl_bytesOf.f, impl_bytesOf.l0, wrap64, shl, IntKind.wrap, IntKind.bits, IntKind.signed]
theorem draw_tot (l : List Int) (hw : ∀ x ∈ l, (Lit.int .u8 x).wf = true) : ∃ a b, spec_DrawSeqPlace.f 2000 l = some (a, b) ∧ (0 ≤ a ∧ a ≤ 10000000) ∧ -100000 ≤ b ∧ b ≤ 100000 := by
  obtain ⟨s, hs, hc⟩ := open_some l hw
  have : Tot (fun r => (0 ≤ r.1 ∧ r.1 ≤ 10000000) ∧ -100000 ≤ r.2 ∧ r.2 ≤ 100000) (spec_DrawSeqPlace.f 2000 l) := by
    unfold spec_DrawSeqPlace.f
    rw [hs, Option.bind_some]
    refine tot_seq hc (by omega) (by omega) (by omega) ?_; intro a p1 a0 a1 q1 q2; dsimp only
    refine tot_pick hc (by omega) (by omega) (by omega) (by omega) ?_; intro b b0 b1; dsimp only
    refine tot_seq hc (by omega) (by omega) (by omega) ?_; intro c p2 c0 c1 q3 q4; dsimp only
    refine tot_pick hc (by omega) (by omega) (by omega) (by omega) ?_; intro d d0 d1; dsimp only
    have e1 : wrap64 (b * 65536) = b * 65536 := by unfold wrap64; omega
    have e2 : Int.tdiv d 19 = d / 19 := Int.tdiv_eq_ediv_of_nonneg d0
    have e3 : wrap64 (d / 19) = d / 19 := by unfold wrap64; omega
    have e4 : wrap64 (d / 19 * 70000) = d / 19 * 70000 := by unfold wrap64; omega
    have e5 : wrap64 (a + b * 65536) = a + b * 65536 := by unfold wrap64; omega
    have e6 : wrap64 (c - d / 19 * 70000) = c - d / 19 * 70000 := by unfold wrap64; omega
    exact tot_some (by dsimp only; rw [e1, e2, e3, e4, e5, e6]; omega)
  obtain ⟨⟨a, b⟩, ht, h⟩ := this
  exact ⟨a, b, ht, h.1, h.2⟩
def place (a b : Int) : Int := if a ≤ 1000000 ∧ 0 ≤ b ∧ b ≤ 65535 then a - 32768 + (b - a + 32768) % 65536 else a
theorem place_impl (a b : Int) (h0 : 0 ≤ a) (h1 : a ≤ 10000000) (hb : -100000 ≤ b) (hb' : b ≤ 100000) : impl_SeqPlace.f a b = some (place a b) := by
  unfold place
  simp only [impl_SeqPlace.f, impl_seqPlace.f, inAll', seqOf_impl, Option.bind_some]
  by_cases g1 : a ≤ 1000000
  · by_cases g2 : 0 ≤ b ∧ b ≤ 65535
    · simp only [h0, g1, g2, decide_true, if_true, and_self, wrap64]
      congr 1
      omega
    · simp [h0, g1, g2]
  · simp [g1]
theorem place_spec (a b : Int) (h0 : 0 ≤ a) (h1 : a ≤ 10000000) (hb : -100000 ≤ b) (hb' : b ≤ 100000) : spec_SeqPlace.f 2000 a b = some (place a b) := by
  unfold place
  simp only [spec_SeqPlace.f, spec_SeqPlace.j0, inAll, seqOf_spec, Option.bind_some]
  by_cases g1 : a ≤ 1000000
  · by_cases g2 : 0 ≤ b ∧ b ≤ 65535
    · simp only [h0, g1, g2, decide_true, if_true, and_self, wrap64, Bool.not_true, Bool.false_eq_true, if_false]
      split <;> congr 1 <;> omega
    · simp [h0, g1, g2]
  · simp [g1]
theorem step (a b n : Int) (k : Nat) (i : Int) (h0 : 0 ≤ a) (h1 : a ≤ 1000000) (hi : 0 ≤ i) (hi' : i < 6) :
    laws_FnSeqPlace.l0 (k + 1) a b n [(-32767), (-5), 0, 1, 300, 32767] 6 i = laws_FnSeqPlace.l0 k a b n [(-32767), (-5), 0, 1, 300, 32767] 6 (i + 1) := by
  have hr : -32767 ≤ rd [(-32767), (-5), 0, 1, 300, 32767] i ∧ rd [(-32767), (-5), 0, 1, 300, 32767] i ≤ 32767 := by
    have hf : i = 0 ∨ i = 1 ∨ i = 2 ∨ i = 3 ∨ i = 4 ∨ i = 5 := by omega
    rcases hf with rfl | rfl | rfl | rfl | rfl | rfl <;> simp [rd]
  have e : wrap64 (i + 1) = i + 1 := by unfold wrap64; omega
  rw [laws_FnSeqPlace.l0]
  simp only [List.length_cons, List.length_nil, e]
  generalize rd [(-32767), (-5), 0, 1, 300, 32767] i = d at hr
  have e2 : wrap64 (a + d) = a + d := by unfold wrap64; omega
  rw [if_pos hi', if_pos hi, if_pos (by omega), e2, seqOf_impl, Option.bind_some, place_impl a _ h0 (by omega) (by omega) (by omega), Option.bind_some, if_pos]
  unfold place
  rw [if_pos (by omega)]
  omega
theorem main : laws_FnSeqPlace.Pure := by
  intro l _ _ hw
  refine ⟨2000, ?_⟩
  unfold laws_FnSeqPlace.f
  by_cases hl : (l.length : Int) > 1048576
  · rw [if_pos hl]
  · rw [if_neg hl]
    obtain ⟨a, b, ht, ha, hb⟩ := draw_tot l hw
    simp only [ht, Option.bind_some, place_impl a b ha.1 ha.2 hb.1 hb.2, place_spec a b ha.1 ha.2 hb.1 hb.2, if_true]
    have out : ¬ (a ≤ 1000000 ∧ 0 ≤ b ∧ b ≤ 65535) → laws_FnSeqPlace.j0 2000 a b (place a b) true = some true := by
      intro hn
      rw [laws_FnSeqPlace.j0, if_pos rfl, if_pos (by unfold place; rw [if_neg hn]), alive_true 1996]
      rfl
    by_cases g1 : a > 1000000
    · rw [if_pos g1, out (by omega)]
    · rw [if_neg g1]
      by_cases g2 : b < 0
      · rw [if_pos g2, out (by omega)]
      · rw [if_neg g2]
        by_cases g3 : b ≥ 65536
        · rw [decide_eq_true g3, out (by omega)]
        · rw [decide_eq_false g3, laws_FnSeqPlace.j0, if_neg (by decide), Option.bind_some]
          show laws_FnSeqPlace.l0 1999 a b (place a b) [(-32767), (-5), 0, 1, 300, 32767] 6 0 = some true
          rw [step a b _ 1998 0 ha.1 (by omega) (by omega) (by omega), step a b _ 1997 (0 + 1) ha.1 (by omega) (by omega) (by omega), step a b _ 1996 (0 + 1 + 1) ha.1 (by omega) (by omega) (by omega), step a b _ 1995 (0 + 1 + 1 + 1) ha.1 (by omega) (by omega) (by omega), step a b _ 1994 (0 + 1 + 1 + 1 + 1) ha.1 (by omega) (by omega) (by omega), step a b _ 1993 (0 + 1 + 1 + 1 + 1 + 1) ha.1 (by omega) (by omega) (by omega), laws_FnSeqPlace.l0, if_neg (by omega)]
          have hp : place a b = a - 32768 + (b - a + 32768) % 65536 := by unfold place; rw [if_pos (by omega)]
          rw [hp, seqOf_impl, Option.bind_some, if_pos (by omega), if_pos (by unfold wrap64; omega), if_pos (by unfold wrap64; omega), alive_true 1989]
          rfl
end FnSeqPlace_
theorem FnSeqPlace : laws_FnSeqPlace.Pure := FnSeqPlace_.main
end Go.Proofs.Ytgfaamcihlojdab.Pure
