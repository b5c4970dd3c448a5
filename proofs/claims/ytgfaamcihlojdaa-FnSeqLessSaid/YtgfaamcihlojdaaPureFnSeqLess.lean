/- The pure law of FnSeqLess: whatever the code, of two numbers not both come ahead, one does unless they are the same or half a round apart, and moved on by as much both stay so. No conditions. -/
import Derived.Test.YtgfaamcihlojdaaQFnSeqLessx2
namespace Go.Proofs.Ytgfaamcihlojdaa.Pure
open Go.RowKit Go.Proofs.Ytgfaamcihlojdaa.PFnSeqLess Go.Proofs.YtgfaamcihlojdaaW.PrintWords Go.Proofs.YtgfaamcihlojdaaW.PrintLast
set_option linter.unusedVariables false
set_option linter.unusedSimpArgs false
namespace FnSeqLess_
/-! ### a draw: a number in 0..n-1, and the place one further -/
theorem xor_nat (a b : Nat) (ha : a < 9223372036854775808) (hb : b < 9223372036854775808) : Go.bits .xor .i64 (a : Int) (b : Int) = ((a ^^^ b : Nat) : Int) := by
  have hx : a ^^^ b < 2 ^ 63 := Nat.xor_lt_two_pow (by omega) (by omega)
  have ha' : a % 2 ^ 64 = a := Nat.mod_eq_of_lt (by omega)
  have hb' : b % 2 ^ 64 = b := Nat.mod_eq_of_lt (by omega)
  have e : IntKind.i64.bits = 64 := rfl
  simp only [Go.bits, BitVec.ofInt_natCast, BitVec.toNat_xor, BitVec.toNat_ofNat, e, ha', hb']
  rw [IntKind.wrap_i64]
  omega
theorem wrap_in {n : Int} (h : -9223372036854775808 ≤ n) (h' : n ≤ 9223372036854775807) : wrap64 n = n := by
  unfold wrap64; omega
theorem u8_bounds {x : Int} (h : (Lit.int .u8 x).wf = true) : 0 ≤ x ∧ x ≤ 255 := by
  simpa [Lit.wf, IntKind.min, IntKind.max, IntKind.signed, IntKind.bits] using h
/-- The bytes of a code. -/
def Code (s : List Int) : Prop := (∀ x ∈ s, 0 ≤ x ∧ x ≤ 255) ∧ s.length ≤ 2000
theorem Code.at {s : List Int} (h : Code s) (i : Int) : 0 ≤ rd s i ∧ rd s i ≤ 255 := by
  unfold rd
  rw [List.getD_eq_getElem?_getD]
  rcases hc : s[i.toNat]? with _ | x
  · simp
  · have := h.1 x (List.mem_of_getElem? hc)
    simpa using this
theorem pick_some (k : Nat) (s : List Int) (p n : Int) (hs : Code s) (h0 : 0 ≤ p) (h1 : p ≤ 1000000000) (hn : 1 ≤ n) :
    ∃ v, spec_l20Rd_pick.f (k + 1) s p n = some (v, p + 1) ∧ 0 ≤ v ∧ v < n := by
  have hl := hs.2
  unfold spec_l20Rd_pick.f
  rw [if_neg (by omega)]
  by_cases hz : s.length = 0
  · refine ⟨0, ?_, by omega, by omega⟩
    simp only [spec_l20Rd_pick.j0]
    rw [if_pos (by simp [hz]), wrap_in (by omega) (by omega)]
  · have hz' : ((s.length : Int) == 0) = false := by simpa using hz
    rw [hz']
    simp only [spec_l20Rd_pick.j0]
    rw [if_neg (by decide), wrap_in (n := p + 1) (by omega) (by omega), show p + 1 - 1 = p by omega, wrap_in (n := p) (by omega) (by omega)]
    by_cases hp : p < (s.length : Int)
    · have hb := hs.at p
      rw [if_pos hp, if_pos h0, if_neg (by omega), wrap_in (by omega) (by omega), Int.tmod_eq_emod_of_nonneg hb.1]
      exact ⟨_, rfl, Int.emod_nonneg _ (by omega), Int.emod_lt_of_pos _ (by omega)⟩
    · rw [if_neg hp, if_neg (by omega)]
      have hL : (0 : Int) < (s.length : Int) := by omega
      rw [wrap_in (n := p * 7) (by omega) (by omega), wrap_in (n := p * 7 + 3) (by omega) (by omega)]
      rw [Int.tmod_eq_emod_of_nonneg h0, Int.tmod_eq_emod_of_nonneg (a := p * 7 + 3) (by omega)]
      have ha0 := Int.emod_nonneg p (b := (s.length : Int)) (by omega)
      have ha1 := Int.emod_lt_of_pos p (b := (s.length : Int)) (by omega)
      have hb0 := Int.emod_nonneg (p * 7 + 3) (b := (s.length : Int)) (by omega)
      have hb1 := Int.emod_lt_of_pos (p * 7 + 3) (b := (s.length : Int)) (by omega)
      rw [if_pos ha0, if_pos ha1, if_pos hb0, if_pos hb1, if_neg (by omega)]
      have hx := hs.at (p % (s.length : Int))
      have hy := hs.at ((p * 7 + 3) % (s.length : Int))
      generalize rd s (p % (s.length : Int)) = x at hx
      generalize rd s ((p * 7 + 3) % (s.length : Int)) = y at hy
      have hd0 : 0 ≤ p / (s.length : Int) := Int.ediv_nonneg h0 (by omega)
      have hd1 : p / (s.length : Int) ≤ p := Int.ediv_le_self _ h0
      rw [Int.tdiv_eq_ediv_of_nonneg h0]
      generalize p / (s.length : Int) = q at hd0 hd1
      rw [wrap_in (n := x) (by omega) (by omega), wrap_in (n := y) (by omega) (by omega), wrap_in (n := x * 131) (by omega) (by omega), wrap_in (n := y * 1117) (by omega) (by omega), wrap_in (n := x * 131 + y * 1117) (by omega) (by omega), wrap_in (n := p * 29) (by omega) (by omega), wrap_in (n := x * 131 + y * 1117 + p * 29) (by omega) (by omega), wrap_in (n := q) (by omega) (by omega), wrap_in (n := q * 53) (by omega) (by omega), wrap_in (n := x * 131 + y * 1117 + p * 29 + q * 53) (by omega) (by omega)]
      obtain ⟨z, hz⟩ : ∃ z : Nat, x * 131 + y * 1117 + p * 29 + q * 53 = (z : Int) := ⟨(x * 131 + y * 1117 + p * 29 + q * 53).toNat, by omega⟩
      rw [hz]
      have hzb : z < 1000000000000 := by omega
      rw [Int.tdiv_eq_ediv_of_nonneg (by omega), wrap_in (n := (z : Int) / 64) (by omega) (by omega)]
      rw [show ((z : Int) / 64) = ((z / 64 : Nat) : Int) by omega, xor_nat _ _ (by omega) (by omega), Int.tmod_eq_emod_of_nonneg (by omega)]
      exact ⟨_, rfl, Int.emod_nonneg _ (by omega), Int.emod_lt_of_pos _ (by omega)⟩
theorem open_some (l : List Int) (hw : ∀ x ∈ l, (Lit.int .u8 x).wf = true) : ∃ s, spec_l20Open.f l = some (s, 0) ∧ Code s := by
  unfold spec_l20Open.f
  have hb : ∀ x ∈ l, 0 ≤ x ∧ x ≤ 255 := fun x hx => u8_bounds (hw x hx)
  by_cases h : (l.length : Int) > 2000
  · rw [if_pos h, if_pos (by omega)]
    exact ⟨_, rfl, fun x hx => hb x (List.mem_of_mem_take hx), by rw [List.length_take]; omega⟩
  · rw [if_neg h]
    exact ⟨_, rfl, hb, by omega⟩
/-! ### the number of a place -/
theorem seqOf_spec (a : Int) : spec_SeqOf.f a = some (a % 65536) := by
  simp only [spec_SeqOf.f, wrap64]
  have h := Int.tmod_add_mul_tdiv a 65536
  have h1 := Int.lt_tmod_of_pos a (b := 65536) (by omega)
  have h2 := Int.tmod_lt_of_pos a (b := 65536) (by omega)
  split <;> congr 1 <;> omega
theorem seqOf_impl (a : Int) : impl_SeqOf.f a = some (a % 65536) := by
  simp only [impl_SeqOf.f, wrap64]
  have h := Int.tmod_add_mul_tdiv a 65536
  have h1 := Int.lt_tmod_of_pos a (b := 65536) (by omega)
  have h2 := Int.tmod_lt_of_pos a (b := 65536) (by omega)
  have h3 := Int.tmod_eq_emod_of_nonneg (a := (((a.tmod 65536 + 65536) + 9223372036854775808) % 18446744073709551616 - 9223372036854775808)) (b := 65536) (by omega)
  congr 1
  omega
theorem seq_some (k : Nat) (s : List Int) (p : Int) (hs : Code s) (h0 : 0 ≤ p) (h1 : p ≤ 100000000) :
    ∃ v, spec_l20Rd_seq.f (k + 1) s p = some (v, p + 6) := by
  unfold spec_l20Rd_seq.f
  obtain ⟨a, ha, _, _⟩ := pick_some k s p 9 hs (by omega) (by omega) (by omega)
  obtain ⟨b, hb, _, _⟩ := pick_some k s (p + 1) 9 hs (by omega) (by omega) (by omega)
  obtain ⟨c, hc, _, _⟩ := pick_some k s (p + 1 + 1) 5 hs (by omega) (by omega) (by omega)
  obtain ⟨d, hd, _, _⟩ := pick_some k s (p + 1 + 1 + 1) 256 hs (by omega) (by omega) (by omega)
  obtain ⟨e, he, _, _⟩ := pick_some k s (p + 1 + 1 + 1 + 1) 256 hs (by omega) (by omega) (by omega)
  obtain ⟨f, hf, f0, f1⟩ := pick_some k s (p + 1 + 1 + 1 + 1 + 1) 4 hs (by omega) (by omega) (by omega)
  simp only [ha, hb, hc, hd, he, hf, Option.bind_some]
  rw [if_pos f0, if_pos (by simpa using f1)]
  exact ⟨_, by rw [show p + 1 + 1 + 1 + 1 + 1 + 1 = p + 6 by omega]⟩
theorem less_impl (a b : Int) : impl_SeqLess.f a b = some (decide (1 ≤ (b - a) % 65536 ∧ (b - a) % 65536 ≤ 32767)) := by
  simp only [impl_SeqLess.f, impl_in.f, seqOf_impl, Option.bind_some]
  rw [show wrap64 (b % 65536 - a % 65536) % 65536 = (b - a) % 65536 by unfold wrap64; omega]
  by_cases h : 1 ≤ (b - a) % 65536
  · rw [if_pos h]; simp [h]
  · rw [if_neg h]; simp [h]
theorem less_spec (a b : Int) : spec_SeqLess.f a b = some (decide (1 ≤ (b - a) % 65536 ∧ (b - a) % 65536 ≤ 32767)) := by
  simp only [spec_SeqLess.f, seqOf_spec, Option.bind_some]
  rw [show wrap64 (b % 65536 - a % 65536) % 65536 = (b - a) % 65536 by unfold wrap64; omega]
  by_cases h : 1 ≤ (b - a) % 65536
  · rw [if_pos h]; simp only [h, true_and, Option.some.injEq, decide_eq_decide]; omega
  · rw [if_neg h]; simp [h]
theorem main : laws_FnSeqLess.Pure := by
  intro l _ _ hw
  refine ⟨10, ?_⟩
  unfold laws_FnSeqLess.f
  by_cases hl : (l.length : Int) > 1048576
  · rw [if_pos hl]
  · rw [if_neg hl]
    have hd : ∃ t, spec_DrawSeqLess.f 10 l = some t := by
      obtain ⟨s, hs, hc⟩ := open_some l hw
      obtain ⟨a, ha⟩ := seq_some 9 s 0 hc (by omega) (by omega)
      obtain ⟨b, hb, _, _⟩ := pick_some 9 s (0 + 6) 2 hc (by omega) (by omega) (by omega)
      obtain ⟨d, hd, _, _⟩ := pick_some 9 s (0 + 6 + 1) 9 hc (by omega) (by omega) (by omega)
      obtain ⟨c, hcc⟩ := seq_some 9 s (0 + 6 + 1) hc (by omega) (by omega)
      unfold spec_DrawSeqLess.f
      simp only [hs, ha, hb, hd, hcc, Option.bind_some]
      split <;> exact ⟨_, rfl⟩
    obtain ⟨⟨a, b⟩, ht⟩ := hd
    simp only [ht, Option.bind_some, less_impl, less_spec, seqOf_impl]
    have e1 : wrap64 (b % 65536 - a % 65536) % 65536 = (b - a) % 65536 := by unfold wrap64; omega
    have e2 : (wrap64 (b + 40000) - wrap64 (a + 40000)) % 65536 = (b - a) % 65536 := by unfold wrap64; omega
    have e3 : (a - b) % 65536 = (65536 - (b - a) % 65536) % 65536 := by omega
    have e4 : 0 ≤ (b - a) % 65536 ∧ (b - a) % 65536 < 65536 := by omega
    rw [e1, e2, e3]
    generalize (b - a) % 65536 = x at e4
    by_cases h0 : x = 0
    · subst h0; simp
    · by_cases h1 : x = 32768
      · subst h1; simp
      · by_cases h2 : x ≤ 32767
        · have g1 : decide (1 ≤ x ∧ x ≤ 32767) = true := by simp; omega
          have g2 : decide (1 ≤ (65536 - x) % 65536 ∧ (65536 - x) % 65536 ≤ 32767) = false := by simp; omega
          have g3 : (x != 32768) = true := by simpa using h1
          simp only [g1, g2, g3, h0]
          simp
        · have g1 : decide (1 ≤ x ∧ x ≤ 32767) = false := by simp; omega
          have g2 : decide (1 ≤ (65536 - x) % 65536 ∧ (65536 - x) % 65536 ≤ 32767) = true := by simp; omega
          have g3 : (x != 32768) = true := by simpa using h1
          simp only [g1, g2, g3, h0]
          simp
end FnSeqLess_
theorem FnSeqLess : laws_FnSeqLess.Pure := FnSeqLess_.main
end Go.Proofs.Ytgfaamcihlojdaa.Pure
