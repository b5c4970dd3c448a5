/- The pure law of FnMouthOk: whatever the code, the drawn mouth is ok for the program just if it is for the reference; if it is, it is without what was sent and what came early, too, and so is the bare mouth. No conditions. -/
import Derived.Test.YtfcocnhkimbpbaaGFnMouthOk
namespace Go.Proofs.Ytfcocnhkimbpbaa.Pure
open Go Go.RowKit Go.Proofs.Ytfcocnhkimbpbaa.MFnMouthOk Go.Proofs.YtfcocnhkimbpbaaV.PrintWords Go.Proofs.YtfcocnhkimbpbaaV.PrintLast
set_option linter.unusedVariables false
set_option linter.unusedSimpArgs false
namespace FnMouthOk_
theorem i64_bounds {x : Int} (h : (Lit.int .i64 x).wf = true) : -9223372036854775808 ≤ x ∧ x ≤ 9223372036854775807 := by
  simpa [Lit.wf, IntKind.min, IntKind.max, IntKind.signed, IntKind.bits] using h
theorem inAll (x y z : Int) : spec_l1In.f x y z = some (decide (y ≤ x ∧ x ≤ z)) := by
  unfold spec_l1In.f
  by_cases h : x ≥ y
  · rw [if_pos h]; congr 1; simp only [decide_eq_decide]; omega
  · rw [if_neg h]; congr 1; symm; simp only [decide_eq_false_iff_not]; omega
theorem inAll' (x y z : Int) : impl_in.f x y z = some (decide (y ≤ x ∧ x ≤ z)) := inAll x y z
theorem wl {n m : Int} (h : n = m) (h0 : -9223372036854775808 ≤ m) (h1 : m ≤ 9223372036854775807) : wrap64 n = m := by
  subst h
  unfold wrap64
  omega
/-! ### a draw: a number in 0..n-1, and the place one further -/
theorem xor_nat (a b : Nat) (ha : a < 9223372036854775808) (hb : b < 9223372036854775808) : Go.bits .xor .i64 (a : Int) (b : Int) = ((a ^^^ b : Nat) : Int) := by
  have hx : a ^^^ b < 2 ^ 63 := Nat.xor_lt_two_pow (by omega) (by omega)
  have ha' : a % 2 ^ 64 = a := Nat.mod_eq_of_lt (by omega)
  have hb' : b % 2 ^ 64 = b := Nat.mod_eq_of_lt (by omega)
  have e : IntKind.i64.bits = 64 := rfl
  simp only [Go.bits, BitVec.ofInt_natCast, BitVec.toNat_xor, BitVec.toNat_ofNat, e, ha', hb']
  rw [IntKind.wrap_i64]
  omega
theorem wrap_in {n : Int} (h : -9223372036854775808 ≤ n) (h' : n ≤ 9223372036854775807) : wrap64 n = n := by
  unfold wrap64; omega
theorem u8_bounds {x : Int} (h : (Lit.int .u8 x).wf = true) : 0 ≤ x ∧ x ≤ 255 := by
  simpa [Lit.wf, IntKind.min, IntKind.max, IntKind.signed, IntKind.bits] using h
/-- The bytes of a code. -/
def Code (s : List Int) : Prop := (∀ x ∈ s, 0 ≤ x ∧ x ≤ 255) ∧ s.length ≤ 2000
theorem Code.at {s : List Int} (h : Code s) (i : Int) : 0 ≤ rd s i ∧ rd s i ≤ 255 := by
  unfold rd
  rw [List.getD_eq_getElem?_getD]
  rcases hc : s[i.toNat]? with _ | x
  · simp
  · have := h.1 x (List.mem_of_getElem? hc)
    simpa using this
theorem pick_some (k : Nat) (s : List Int) (p n : Int) (hs : Code s) (h0 : 0 ≤ p) (h1 : p ≤ 1000000000) (hn : 1 ≤ n) :
    ∃ v, spec_l20Rd_pick.f (k + 1) s p n = some (v, p + 1) ∧ 0 ≤ v ∧ v < n := by
  have hl := hs.2
  unfold spec_l20Rd_pick.f
  rw [if_neg (by omega)]
  by_cases hz : s.length = 0
  · refine ⟨0, ?_, by omega, by omega⟩
    simp only [spec_l20Rd_pick.j0]
    rw [if_pos (by simp [hz]), wrap_in (by omega) (by omega)]
  · have hz' : ((s.length : Int) == 0) = false := by simpa using hz
    rw [hz']
    simp only [spec_l20Rd_pick.j0]
    rw [if_neg (by decide), wrap_in (n := p + 1) (by omega) (by omega), show p + 1 - 1 = p by omega, wrap_in (n := p) (by omega) (by omega)]
    by_cases hp : p < (s.length : Int)
    · have hb := hs.at p
      rw [if_pos hp, if_pos h0, if_neg (by omega), wrap_in (by omega) (by omega), Int.tmod_eq_emod_of_nonneg hb.1]
      exact ⟨_, rfl, Int.emod_nonneg _ (by omega), Int.emod_lt_of_pos _ (by omega)⟩
    · rw [if_neg hp, if_neg (by omega)]
      have hL : (0 : Int) < (s.length : Int) := by omega
      rw [wrap_in (n := p * 7) (by omega) (by omega), wrap_in (n := p * 7 + 3) (by omega) (by omega)]
      rw [Int.tmod_eq_emod_of_nonneg h0, Int.tmod_eq_emod_of_nonneg (a := p * 7 + 3) (by omega)]
      have ha0 := Int.emod_nonneg p (b := (s.length : Int)) (by omega)
      have ha1 := Int.emod_lt_of_pos p (b := (s.length : Int)) (by omega)
      have hb0 := Int.emod_nonneg (p * 7 + 3) (b := (s.length : Int)) (by omega)
      have hb1 := Int.emod_lt_of_pos (p * 7 + 3) (b := (s.length : Int)) (by omega)
      rw [if_pos ha0, if_pos ha1, if_pos hb0, if_pos hb1, if_neg (by omega)]
      have hx := hs.at (p % (s.length : Int))
      have hy := hs.at ((p * 7 + 3) % (s.length : Int))
      generalize rd s (p % (s.length : Int)) = x at hx
      generalize rd s ((p * 7 + 3) % (s.length : Int)) = y at hy
      have hd0 : 0 ≤ p / (s.length : Int) := Int.ediv_nonneg h0 (by omega)
      have hd1 : p / (s.length : Int) ≤ p := Int.ediv_le_self _ h0
      rw [Int.tdiv_eq_ediv_of_nonneg h0]
      generalize p / (s.length : Int) = q at hd0 hd1
      rw [wrap_in (n := x) (by omega) (by omega), wrap_in (n := y) (by omega) (by omega), wrap_in (n := x * 131) (by omega) (by omega), wrap_in (n := y * 1117) (by omega) (by omega), wrap_in (n := x * 131 + y * 1117) (by omega) (by omega), wrap_in (n := p * 29) (by omega) (by omega), wrap_in (n := x * 131 + y * 1117 + p * 29) (by omega) (by omega), wrap_in (n := q) (by omega) (by omega), wrap_in (n := q * 53) (by omega) (by omega), wrap_in (n := x * 131 + y * 1117 + p * 29 + q * 53) (by omega) (by omega)]
      obtain ⟨z, hz⟩ : ∃ z : Nat, x * 131 + y * 1117 + p * 29 + q * 53 = (z : Int) := ⟨(x * 131 + y * 1117 + p * 29 + q * 53).toNat, by omega⟩
      rw [hz]
      have hzb : z < 1000000000000 := by omega
      rw [Int.tdiv_eq_ediv_of_nonneg (by omega), wrap_in (n := (z : Int) / 64) (by omega) (by omega)]
      rw [show ((z : Int) / 64) = ((z / 64 : Nat) : Int) by omega, xor_nat _ _ (by omega) (by omega), Int.tmod_eq_emod_of_nonneg (by omega)]
      exact ⟨_, rfl, Int.emod_nonneg _ (by omega), Int.emod_lt_of_pos _ (by omega)⟩
theorem open_some (l : List Int) (hw : ∀ x ∈ l, (Lit.int .u8 x).wf = true) : ∃ s, spec_l20Open.f l = some (s, 0) ∧ Code s := by
  unfold spec_l20Open.f
  have hb : ∀ x ∈ l, 0 ≤ x ∧ x ≤ 255 := fun x hx => u8_bounds (hw x hx)
  by_cases h : (l.length : Int) > 2000
  · rw [if_pos h, if_pos (by omega)]
    exact ⟨_, rfl, fun x hx => hb x (List.mem_of_mem_take hx), by rw [List.length_take]; omega⟩
  · rw [if_neg h]
    exact ⟨_, rfl, hb, by omega⟩
/-! ### what comes to an answer -/
def Tot {β : Type} (Q : β → Prop) (o : Option β) : Prop := ∃ b, o = some b ∧ Q b
theorem tot_some {β : Type} {Q : β → Prop} {b : β} (h : Q b) : Tot Q (some b) := ⟨b, rfl, h⟩
theorem tot_bind {α β : Type} {P : α → Prop} {Q : β → Prop} {o : Option α} {f : α → Option β} (h : Tot P o) (hf : ∀ a, P a → Tot Q (f a)) : Tot Q (o.bind f) := by
  obtain ⟨a, rfl, ha⟩ := h
  exact hf a ha
theorem tot_ite {β : Type} {Q : β → Prop} {c : Prop} [Decidable c] {x y : Option β} (h1 : c → Tot Q x) (h2 : ¬ c → Tot Q y) : Tot Q (if c then x else y) := by
  by_cases h : c
  · rw [if_pos h]; exact h1 h
  · rw [if_neg h]; exact h2 h
theorem tot_mono {β : Type} {P Q : β → Prop} {o : Option β} (h : Tot P o) (hq : ∀ b, P b → Q b) : Tot Q o := by
  obtain ⟨b, hb, hp⟩ := h
  exact ⟨b, hb, hq b hp⟩
theorem tot_none {β : Type} {Q : β → Prop} (h : False) : Tot Q none := h.elim
theorem tot_pick {β : Type} {Q : β → Prop} {F : Int × Int → Option β} {k : Nat} {s : List Int} {p n : Int} (hs : Code s) (hk : 1 ≤ k) (h0 : 0 ≤ p) (h1 : p ≤ 1000000000) (hn : 1 ≤ n)
    (h : ∀ v, 0 ≤ v → v < n → Tot Q (F (v, p + 1))) : Tot Q ((spec_l20Rd_pick.f k s p n).bind F) := by
  obtain ⟨k, rfl⟩ : ∃ m, k = m + 1 := ⟨k - 1, by omega⟩
  obtain ⟨v, hv, v0, v1⟩ := pick_some k s p n hs h0 h1 hn
  rw [hv]
  exact h v v0 v1
theorem tot_odd {β : Type} {Q : β → Prop} {F : Bool × Int → Option β} {k : Nat} {s : List Int} {p n : Int} (hs : Code s) (hk : 1 ≤ k) (h0 : 0 ≤ p) (h1 : p ≤ 1000000000)
    (h : ∀ b p', p ≤ p' → p' ≤ p + 1 → Tot Q (F (b, p'))) : Tot Q ((spec_l20Rd_odd.f k s p n).bind F) := by
  refine tot_bind (P := fun r => p ≤ r.2 ∧ r.2 ≤ p + 1) ?_ (fun a ha => h a.1 a.2 ha.1 ha.2)
  unfold spec_l20Rd_odd.f
  refine tot_ite (fun hn => ?_) (fun hn => ?_)
  · refine tot_pick hs hk h0 h1 (by omega) ?_
    intro v _ _
    exact tot_some (by dsimp only; omega)
  · exact tot_some (by dsimp only; omega)
theorem alive_true (k : Nat) : laws_alive.f (k + 3) = some true := by
  simp [laws_alive.f, impl_BytesOf.f, impl_in.f, impl_bytesOf.f, impl_bytesOf.l0, wrap64, shl, IntKind.wrap, IntKind.bits, IntKind.signed]
/-! ### copies, equality and sizes of rows of bytes -/
theorem wrap_id {n : Int} (h : -9223372036854775808 ≤ n) (h' : n ≤ 9223372036854775807) : wrap64 n = n := by
  unfold wrap64; omega
/-- A loop that fills a row, an element at a time, from the elements of another one. -/
theorem fills {α : Type} (n : Nat) (hn : n ≤ 281474976710656) (L : Nat → List α → Int → Option (List α)) (g : Nat → α)
    (h : ∀ k acc i, k < n + 1 → L (k + 1) acc i = if i < (n : Int) then (if 0 ≤ i then (if i < (acc.length : Int) then L k (acc.set i.toNat (g i.toNat)) (wrap64 (i + 1)) else none) else none) else some acc) :
    ∀ d k (i : Nat) (acc : List α), i + d = n → k = d + 1 → acc.length = n → (∀ j, j < i → acc[j]? = some (g j)) → ∃ r, L k acc (i : Int) = some r ∧ r.length = n ∧ ∀ j, j < n → r[j]? = some (g j) := by
  intro d
  induction d with
  | zero =>
    intro k i acc hi hk hl hp
    subst hk
    refine ⟨acc, ?_, hl, fun j hj => hp j (by omega)⟩
    rw [h _ _ _ (by omega), if_neg (by omega)]
  | succ d ih =>
    intro k i acc hi hk hl hp
    subst hk
    obtain ⟨r, hr, hrl, hrp⟩ := ih (d + 1) (i + 1) (acc.set i (g i)) (by omega) rfl (by simpa using hl) (fun j hj => by
      by_cases hji : j = i
      · subst hji
        simp [List.getElem?_set, hl]
        omega
      · rw [List.getElem?_set_ne (by omega)]
        exact hp j (by omega))
    refine ⟨r, ?_, hrl, hrp⟩
    rw [h _ _ _ (by omega), if_pos (by omega), if_pos (by omega), if_pos (by omega), wrap_id (by omega) (by omega)]
    simpa using hr
theorem rd_at (l : List Int) (i : Nat) (h : i < l.length) : l[i]? = some (rd l (i : Int)) := by
  unfold rd
  rw [List.getD_eq_getElem?_getD, Int.toNat_natCast, List.getElem?_eq_getElem h]
  rfl
/-! ### mouths -/
theorem ltge (a b : Int) : a < b ∨ b ≤ a := by omega
theorem mouthOk_same (a : Int) (l : List Int) (c d : Int) (e : List S72) (k : Nat) : ∃ t, spec_MouthOk.f (k + 6) a l c d e = some t ∧ impl_MouthOk.f (k + 6) a l c d e = some t := by
  simp only [spec_MouthOk.f, impl_MouthOk.f, inAll, inAll', Option.bind_some]
  by_cases c1 : 0 ≤ a ∧ a ≤ 1000000
  · rw [decide_eq_true c1]
    simp only [if_true]
    by_cases c2 : (l.length : Int) > 32
    · exact ⟨false, by rw [if_pos c2]; simp [spec_MouthOk.j0], by rw [if_neg (show ¬ (l.length : Int) ≤ 32 by omega)]⟩
    · rw [if_neg c2, if_pos (show (l.length : Int) ≤ 32 by omega)]
      by_cases c3 : 0 ≤ c ∧ c ≤ (l.length : Int)
      · rw [decide_eq_true c3]
        simp only [if_true]
        by_cases c4 : 0 ≤ d ∧ d ≤ 255
        · rw [decide_eq_true c4]
          simp only [if_true]
          generalize hu : wrap64 (a + c) = u
          have w0 : wrap64 1 = 1 := wl (by omega) (by omega) (by omega)
          have w1 : wrap64 2 = 2 := wl (by omega) (by omega) (by omega)
          have w2 : wrap64 0 = 0 := wl (by omega) (by omega) (by omega)
          match e with
          | [] => exact ⟨true, by simp [spec_MouthOk.j0, spec_MouthOk.l0], by simp [impl_rangesOk.f, impl_rangesOk.l0, impl_Range_76.f, impl_Range_57.f, impl_Range_57.l0]⟩
          | [x] =>
            by_cases h1 : x.f0 ≤ a
            · exact ⟨false, by simp [spec_MouthOk.j0, spec_MouthOk.l0, hu, rd_T72, h1], by simp [impl_rangesOk.f, impl_rangesOk.l0, impl_Range_76.f, impl_Range_57.f, impl_Range_57.l0, rd_T72, w0, w1, w2, Int.not_lt.2 h1]⟩
            · by_cases h2 : x.f1 ≤ x.f0
              · exact ⟨false, by simp [spec_MouthOk.j0, spec_MouthOk.l0, hu, rd_T72, h1, h2], by simp [impl_rangesOk.f, impl_rangesOk.l0, impl_Range_76.f, impl_Range_57.f, impl_Range_57.l0, rd_T72, w0, w1, w2, Int.not_le.1 h1, Int.not_lt.2 h2]⟩
              · by_cases h3 : x.f1 > u
                · exact ⟨false, by simp [spec_MouthOk.j0, spec_MouthOk.l0, hu, rd_T72, h1, h2, h3], by simp [impl_rangesOk.f, impl_rangesOk.l0, impl_Range_76.f, impl_Range_57.f, impl_Range_57.l0, rd_T72, w0, w1, w2, Int.not_le.1 h1, Int.not_le.1 h2, Int.not_le.2 h3]⟩
                · exact ⟨true, by simp [spec_MouthOk.j0, spec_MouthOk.l0, hu, rd_T72, h1, h2, h3, w0, w1, w2], by simp [impl_rangesOk.f, impl_rangesOk.l0, impl_Range_76.f, impl_Range_57.f, impl_Range_57.l0, rd_T72, w0, w1, w2, Int.not_le.1 h1, Int.not_le.1 h2, Int.not_lt.1 h3]⟩
          | [x, y] =>
            rcases ltge (a) (x.f0) with g1 | g1
            · have g1n : ¬ (x.f0) ≤ (a) := Int.not_le.2 g1
              rcases ltge (x.f0) (x.f1) with g2 | g2
              · have g2n : ¬ (x.f1) ≤ (x.f0) := Int.not_le.2 g2
                rcases ltge (u) (x.f1) with g3 | g3
                · have g3n : ¬ (x.f1) ≤ (u) := Int.not_le.2 g3
                  rcases ltge (a) (y.f0) with g4 | g4
                  · have g4n : ¬ (y.f0) ≤ (a) := Int.not_le.2 g4
                    rcases ltge (y.f0) (y.f1) with g5 | g5
                    · have g5n : ¬ (y.f1) ≤ (y.f0) := Int.not_le.2 g5
                      rcases ltge (u) (y.f1) with g6 | g6
                      · have g6n : ¬ (y.f1) ≤ (u) := Int.not_le.2 g6
                        exact ⟨false, by simp [spec_MouthOk.j0, spec_MouthOk.l0, hu, rd_T72, w0, w1, w2, g1, g1n, g2, g2n, g3, g3n, g4, g4n, g5, g5n, g6, g6n], by simp [impl_rangesOk.f, impl_rangesOk.l0, impl_Range_76.f, impl_Range_57.f, impl_Range_57.l0, rd_T72, w0, w1, w2, w1, w2, g1, g1n, g2, g2n, g3, g3n, g4, g4n, g5, g5n, g6, g6n]⟩
                      · have g6n : ¬ (u) < (y.f1) := Int.not_lt.2 g6
                        exact ⟨false, by simp [spec_MouthOk.j0, spec_MouthOk.l0, hu, rd_T72, w0, w1, w2, g1, g1n, g2, g2n, g3, g3n, g4, g4n, g5, g5n, g6, g6n], by simp [impl_rangesOk.f, impl_rangesOk.l0, impl_Range_76.f, impl_Range_57.f, impl_Range_57.l0, rd_T72, w0, w1, w2, w1, w2, g1, g1n, g2, g2n, g3, g3n, g4, g4n, g5, g5n, g6, g6n]⟩
                    · have g5n : ¬ (y.f0) < (y.f1) := Int.not_lt.2 g5
                      exact ⟨false, by simp [spec_MouthOk.j0, spec_MouthOk.l0, hu, rd_T72, w0, w1, w2, g1, g1n, g2, g2n, g3, g3n, g4, g4n, g5, g5n], by simp [impl_rangesOk.f, impl_rangesOk.l0, impl_Range_76.f, impl_Range_57.f, impl_Range_57.l0, rd_T72, w0, w1, w2, w1, w2, g1, g1n, g2, g2n, g3, g3n, g4, g4n, g5, g5n]⟩
                  · have g4n : ¬ (a) < (y.f0) := Int.not_lt.2 g4
                    exact ⟨false, by simp [spec_MouthOk.j0, spec_MouthOk.l0, hu, rd_T72, w0, w1, w2, g1, g1n, g2, g2n, g3, g3n, g4, g4n], by simp [impl_rangesOk.f, impl_rangesOk.l0, impl_Range_76.f, impl_Range_57.f, impl_Range_57.l0, rd_T72, w0, w1, w2, w1, w2, g1, g1n, g2, g2n, g3, g3n, g4, g4n]⟩
                · have g3n : ¬ (u) < (x.f1) := Int.not_lt.2 g3
                  rcases ltge (x.f1) (y.f0) with g7 | g7
                  · have g7n : ¬ (y.f0) ≤ (x.f1) := Int.not_le.2 g7
                    rcases ltge (y.f0) (y.f1) with g8 | g8
                    · have g8n : ¬ (y.f1) ≤ (y.f0) := Int.not_le.2 g8
                      rcases ltge (u) (y.f1) with g9 | g9
                      · have g9n : ¬ (y.f1) ≤ (u) := Int.not_le.2 g9
                        rcases ltge (a) (y.f0) with g10 | g10
                        · have g10n : ¬ (y.f0) ≤ (a) := Int.not_le.2 g10
                          rcases ltge (y.f0) (y.f1) with g11 | g11
                          · have g11n : ¬ (y.f1) ≤ (y.f0) := Int.not_le.2 g11
                            rcases ltge (u) (y.f1) with g12 | g12
                            · have g12n : ¬ (y.f1) ≤ (u) := Int.not_le.2 g12
                              exact ⟨false, by simp [spec_MouthOk.j0, spec_MouthOk.l0, hu, rd_T72, w0, w1, w2, g1, g1n, g2, g2n, g3, g3n, g7, g7n, g8, g8n, g9, g9n, g10, g10n, g11, g11n, g12, g12n], by simp [impl_rangesOk.f, impl_rangesOk.l0, impl_Range_76.f, impl_Range_57.f, impl_Range_57.l0, rd_T72, w0, w1, w2, w1, w2, g1, g1n, g2, g2n, g3, g3n, g7, g7n, g8, g8n, g9, g9n, g10, g10n, g11, g11n, g12, g12n]⟩
                            · have g12n : ¬ (u) < (y.f1) := Int.not_lt.2 g12
                              exact ⟨false, by simp [spec_MouthOk.j0, spec_MouthOk.l0, hu, rd_T72, w0, w1, w2, g1, g1n, g2, g2n, g3, g3n, g7, g7n, g8, g8n, g9, g9n, g10, g10n, g11, g11n, g12, g12n], by simp [impl_rangesOk.f, impl_rangesOk.l0, impl_Range_76.f, impl_Range_57.f, impl_Range_57.l0, rd_T72, w0, w1, w2, w1, w2, g1, g1n, g2, g2n, g3, g3n, g7, g7n, g8, g8n, g9, g9n, g10, g10n, g11, g11n, g12, g12n]⟩
                          · have g11n : ¬ (y.f0) < (y.f1) := Int.not_lt.2 g11
                            exact ⟨false, by simp [spec_MouthOk.j0, spec_MouthOk.l0, hu, rd_T72, w0, w1, w2, g1, g1n, g2, g2n, g3, g3n, g7, g7n, g8, g8n, g9, g9n, g10, g10n, g11, g11n], by simp [impl_rangesOk.f, impl_rangesOk.l0, impl_Range_76.f, impl_Range_57.f, impl_Range_57.l0, rd_T72, w0, w1, w2, w1, w2, g1, g1n, g2, g2n, g3, g3n, g7, g7n, g8, g8n, g9, g9n, g10, g10n, g11, g11n]⟩
                        · have g10n : ¬ (a) < (y.f0) := Int.not_lt.2 g10
                          rcases ltge (y.f0) (y.f1) with g13 | g13
                          · have g13n : ¬ (y.f1) ≤ (y.f0) := Int.not_le.2 g13
                            rcases ltge (u) (y.f1) with g14 | g14
                            · have g14n : ¬ (y.f1) ≤ (u) := Int.not_le.2 g14
                              exact ⟨false, by simp [spec_MouthOk.j0, spec_MouthOk.l0, hu, rd_T72, w0, w1, w2, g1, g1n, g2, g2n, g3, g3n, g7, g7n, g8, g8n, g9, g9n, g10, g10n, g13, g13n, g14, g14n], by simp [impl_rangesOk.f, impl_rangesOk.l0, impl_Range_76.f, impl_Range_57.f, impl_Range_57.l0, rd_T72, w0, w1, w2, w1, w2, g1, g1n, g2, g2n, g3, g3n, g7, g7n, g8, g8n, g9, g9n, g10, g10n, g13, g13n, g14, g14n]⟩
                            · have g14n : ¬ (u) < (y.f1) := Int.not_lt.2 g14
                              exact ⟨false, by simp [spec_MouthOk.j0, spec_MouthOk.l0, hu, rd_T72, w0, w1, w2, g1, g1n, g2, g2n, g3, g3n, g7, g7n, g8, g8n, g9, g9n, g10, g10n, g13, g13n, g14, g14n], by simp [impl_rangesOk.f, impl_rangesOk.l0, impl_Range_76.f, impl_Range_57.f, impl_Range_57.l0, rd_T72, w0, w1, w2, w1, w2, g1, g1n, g2, g2n, g3, g3n, g7, g7n, g8, g8n, g9, g9n, g10, g10n, g13, g13n, g14, g14n]⟩
                          · have g13n : ¬ (y.f0) < (y.f1) := Int.not_lt.2 g13
                            exact ⟨false, by simp [spec_MouthOk.j0, spec_MouthOk.l0, hu, rd_T72, w0, w1, w2, g1, g1n, g2, g2n, g3, g3n, g7, g7n, g8, g8n, g9, g9n, g10, g10n, g13, g13n], by simp [impl_rangesOk.f, impl_rangesOk.l0, impl_Range_76.f, impl_Range_57.f, impl_Range_57.l0, rd_T72, w0, w1, w2, w1, w2, g1, g1n, g2, g2n, g3, g3n, g7, g7n, g8, g8n, g9, g9n, g10, g10n, g13, g13n]⟩
                      · have g9n : ¬ (u) < (y.f1) := Int.not_lt.2 g9
                        have t0 : a < y.f0 := by omega
                        have t1 : ¬ y.f0 ≤ a := by omega
                        exact ⟨true, by simp [spec_MouthOk.j0, spec_MouthOk.l0, hu, rd_T72, w0, w1, w2, g1, g1n, g2, g2n, g3, g3n, g7, g7n, g8, g8n, g9, g9n, t0, t1], by simp [impl_rangesOk.f, impl_rangesOk.l0, impl_Range_76.f, impl_Range_57.f, impl_Range_57.l0, rd_T72, w0, w1, w2, w1, w2, g1, g1n, g2, g2n, g3, g3n, g7, g7n, g8, g8n, g9, g9n, t0, t1]⟩
                    · have g8n : ¬ (y.f0) < (y.f1) := Int.not_lt.2 g8
                      rcases ltge (a) (y.f0) with g15 | g15
                      · have g15n : ¬ (y.f0) ≤ (a) := Int.not_le.2 g15
                        rcases ltge (y.f0) (y.f1) with g16 | g16
                        · have g16n : ¬ (y.f1) ≤ (y.f0) := Int.not_le.2 g16
                          rcases ltge (u) (y.f1) with g17 | g17
                          · have g17n : ¬ (y.f1) ≤ (u) := Int.not_le.2 g17
                            exact ⟨false, by simp [spec_MouthOk.j0, spec_MouthOk.l0, hu, rd_T72, w0, w1, w2, g1, g1n, g2, g2n, g3, g3n, g7, g7n, g8, g8n, g15, g15n, g16, g16n, g17, g17n], by simp [impl_rangesOk.f, impl_rangesOk.l0, impl_Range_76.f, impl_Range_57.f, impl_Range_57.l0, rd_T72, w0, w1, w2, w1, w2, g1, g1n, g2, g2n, g3, g3n, g7, g7n, g8, g8n, g15, g15n, g16, g16n, g17, g17n]⟩
                          · have g17n : ¬ (u) < (y.f1) := Int.not_lt.2 g17
                            exact ⟨false, by simp [spec_MouthOk.j0, spec_MouthOk.l0, hu, rd_T72, w0, w1, w2, g1, g1n, g2, g2n, g3, g3n, g7, g7n, g8, g8n, g15, g15n, g16, g16n, g17, g17n], by simp [impl_rangesOk.f, impl_rangesOk.l0, impl_Range_76.f, impl_Range_57.f, impl_Range_57.l0, rd_T72, w0, w1, w2, w1, w2, g1, g1n, g2, g2n, g3, g3n, g7, g7n, g8, g8n, g15, g15n, g16, g16n, g17, g17n]⟩
                        · have g16n : ¬ (y.f0) < (y.f1) := Int.not_lt.2 g16
                          exact ⟨false, by simp [spec_MouthOk.j0, spec_MouthOk.l0, hu, rd_T72, w0, w1, w2, g1, g1n, g2, g2n, g3, g3n, g7, g7n, g8, g8n, g15, g15n, g16, g16n], by simp [impl_rangesOk.f, impl_rangesOk.l0, impl_Range_76.f, impl_Range_57.f, impl_Range_57.l0, rd_T72, w0, w1, w2, w1, w2, g1, g1n, g2, g2n, g3, g3n, g7, g7n, g8, g8n, g15, g15n, g16, g16n]⟩
                      · have g15n : ¬ (a) < (y.f0) := Int.not_lt.2 g15
                        rcases ltge (y.f0) (y.f1) with g18 | g18
                        · have g18n : ¬ (y.f1) ≤ (y.f0) := Int.not_le.2 g18
                          rcases ltge (u) (y.f1) with g19 | g19
                          · have g19n : ¬ (y.f1) ≤ (u) := Int.not_le.2 g19
                            exact ⟨false, by simp [spec_MouthOk.j0, spec_MouthOk.l0, hu, rd_T72, w0, w1, w2, g1, g1n, g2, g2n, g3, g3n, g7, g7n, g8, g8n, g15, g15n, g18, g18n, g19, g19n], by simp [impl_rangesOk.f, impl_rangesOk.l0, impl_Range_76.f, impl_Range_57.f, impl_Range_57.l0, rd_T72, w0, w1, w2, w1, w2, g1, g1n, g2, g2n, g3, g3n, g7, g7n, g8, g8n, g15, g15n, g18, g18n, g19, g19n]⟩
                          · have g19n : ¬ (u) < (y.f1) := Int.not_lt.2 g19
                            exact ⟨false, by simp [spec_MouthOk.j0, spec_MouthOk.l0, hu, rd_T72, w0, w1, w2, g1, g1n, g2, g2n, g3, g3n, g7, g7n, g8, g8n, g15, g15n, g18, g18n, g19, g19n], by simp [impl_rangesOk.f, impl_rangesOk.l0, impl_Range_76.f, impl_Range_57.f, impl_Range_57.l0, rd_T72, w0, w1, w2, w1, w2, g1, g1n, g2, g2n, g3, g3n, g7, g7n, g8, g8n, g15, g15n, g18, g18n, g19, g19n]⟩
                        · have g18n : ¬ (y.f0) < (y.f1) := Int.not_lt.2 g18
                          exact ⟨false, by simp [spec_MouthOk.j0, spec_MouthOk.l0, hu, rd_T72, w0, w1, w2, g1, g1n, g2, g2n, g3, g3n, g7, g7n, g8, g8n, g15, g15n, g18, g18n], by simp [impl_rangesOk.f, impl_rangesOk.l0, impl_Range_76.f, impl_Range_57.f, impl_Range_57.l0, rd_T72, w0, w1, w2, w1, w2, g1, g1n, g2, g2n, g3, g3n, g7, g7n, g8, g8n, g15, g15n, g18, g18n]⟩
                  · have g7n : ¬ (x.f1) < (y.f0) := Int.not_lt.2 g7
                    rcases ltge (a) (y.f0) with g20 | g20
                    · have g20n : ¬ (y.f0) ≤ (a) := Int.not_le.2 g20
                      rcases ltge (y.f0) (y.f1) with g21 | g21
                      · have g21n : ¬ (y.f1) ≤ (y.f0) := Int.not_le.2 g21
                        rcases ltge (u) (y.f1) with g22 | g22
                        · have g22n : ¬ (y.f1) ≤ (u) := Int.not_le.2 g22
                          exact ⟨false, by simp [spec_MouthOk.j0, spec_MouthOk.l0, hu, rd_T72, w0, w1, w2, g1, g1n, g2, g2n, g3, g3n, g7, g7n, g20, g20n, g21, g21n, g22, g22n], by simp [impl_rangesOk.f, impl_rangesOk.l0, impl_Range_76.f, impl_Range_57.f, impl_Range_57.l0, rd_T72, w0, w1, w2, w1, w2, g1, g1n, g2, g2n, g3, g3n, g7, g7n, g20, g20n, g21, g21n, g22, g22n]⟩
                        · have g22n : ¬ (u) < (y.f1) := Int.not_lt.2 g22
                          exact ⟨false, by simp [spec_MouthOk.j0, spec_MouthOk.l0, hu, rd_T72, w0, w1, w2, g1, g1n, g2, g2n, g3, g3n, g7, g7n, g20, g20n, g21, g21n, g22, g22n], by simp [impl_rangesOk.f, impl_rangesOk.l0, impl_Range_76.f, impl_Range_57.f, impl_Range_57.l0, rd_T72, w0, w1, w2, w1, w2, g1, g1n, g2, g2n, g3, g3n, g7, g7n, g20, g20n, g21, g21n, g22, g22n]⟩
                      · have g21n : ¬ (y.f0) < (y.f1) := Int.not_lt.2 g21
                        exact ⟨false, by simp [spec_MouthOk.j0, spec_MouthOk.l0, hu, rd_T72, w0, w1, w2, g1, g1n, g2, g2n, g3, g3n, g7, g7n, g20, g20n, g21, g21n], by simp [impl_rangesOk.f, impl_rangesOk.l0, impl_Range_76.f, impl_Range_57.f, impl_Range_57.l0, rd_T72, w0, w1, w2, w1, w2, g1, g1n, g2, g2n, g3, g3n, g7, g7n, g20, g20n, g21, g21n]⟩
                    · have g20n : ¬ (a) < (y.f0) := Int.not_lt.2 g20
                      rcases ltge (y.f0) (y.f1) with g23 | g23
                      · have g23n : ¬ (y.f1) ≤ (y.f0) := Int.not_le.2 g23
                        rcases ltge (u) (y.f1) with g24 | g24
                        · have g24n : ¬ (y.f1) ≤ (u) := Int.not_le.2 g24
                          exact ⟨false, by simp [spec_MouthOk.j0, spec_MouthOk.l0, hu, rd_T72, w0, w1, w2, g1, g1n, g2, g2n, g3, g3n, g7, g7n, g20, g20n, g23, g23n, g24, g24n], by simp [impl_rangesOk.f, impl_rangesOk.l0, impl_Range_76.f, impl_Range_57.f, impl_Range_57.l0, rd_T72, w0, w1, w2, w1, w2, g1, g1n, g2, g2n, g3, g3n, g7, g7n, g20, g20n, g23, g23n, g24, g24n]⟩
                        · have g24n : ¬ (u) < (y.f1) := Int.not_lt.2 g24
                          exact ⟨false, by simp [spec_MouthOk.j0, spec_MouthOk.l0, hu, rd_T72, w0, w1, w2, g1, g1n, g2, g2n, g3, g3n, g7, g7n, g20, g20n, g23, g23n, g24, g24n], by simp [impl_rangesOk.f, impl_rangesOk.l0, impl_Range_76.f, impl_Range_57.f, impl_Range_57.l0, rd_T72, w0, w1, w2, w1, w2, g1, g1n, g2, g2n, g3, g3n, g7, g7n, g20, g20n, g23, g23n, g24, g24n]⟩
                      · have g23n : ¬ (y.f0) < (y.f1) := Int.not_lt.2 g23
                        exact ⟨false, by simp [spec_MouthOk.j0, spec_MouthOk.l0, hu, rd_T72, w0, w1, w2, g1, g1n, g2, g2n, g3, g3n, g7, g7n, g20, g20n, g23, g23n], by simp [impl_rangesOk.f, impl_rangesOk.l0, impl_Range_76.f, impl_Range_57.f, impl_Range_57.l0, rd_T72, w0, w1, w2, w1, w2, g1, g1n, g2, g2n, g3, g3n, g7, g7n, g20, g20n, g23, g23n]⟩
              · have g2n : ¬ (x.f0) < (x.f1) := Int.not_lt.2 g2
                rcases ltge (a) (y.f0) with g25 | g25
                · have g25n : ¬ (y.f0) ≤ (a) := Int.not_le.2 g25
                  rcases ltge (y.f0) (y.f1) with g26 | g26
                  · have g26n : ¬ (y.f1) ≤ (y.f0) := Int.not_le.2 g26
                    rcases ltge (u) (y.f1) with g27 | g27
                    · have g27n : ¬ (y.f1) ≤ (u) := Int.not_le.2 g27
                      exact ⟨false, by simp [spec_MouthOk.j0, spec_MouthOk.l0, hu, rd_T72, w0, w1, w2, g1, g1n, g2, g2n, g25, g25n, g26, g26n, g27, g27n], by simp [impl_rangesOk.f, impl_rangesOk.l0, impl_Range_76.f, impl_Range_57.f, impl_Range_57.l0, rd_T72, w0, w1, w2, w1, w2, g1, g1n, g2, g2n, g25, g25n, g26, g26n, g27, g27n]⟩
                    · have g27n : ¬ (u) < (y.f1) := Int.not_lt.2 g27
                      exact ⟨false, by simp [spec_MouthOk.j0, spec_MouthOk.l0, hu, rd_T72, w0, w1, w2, g1, g1n, g2, g2n, g25, g25n, g26, g26n, g27, g27n], by simp [impl_rangesOk.f, impl_rangesOk.l0, impl_Range_76.f, impl_Range_57.f, impl_Range_57.l0, rd_T72, w0, w1, w2, w1, w2, g1, g1n, g2, g2n, g25, g25n, g26, g26n, g27, g27n]⟩
                  · have g26n : ¬ (y.f0) < (y.f1) := Int.not_lt.2 g26
                    exact ⟨false, by simp [spec_MouthOk.j0, spec_MouthOk.l0, hu, rd_T72, w0, w1, w2, g1, g1n, g2, g2n, g25, g25n, g26, g26n], by simp [impl_rangesOk.f, impl_rangesOk.l0, impl_Range_76.f, impl_Range_57.f, impl_Range_57.l0, rd_T72, w0, w1, w2, w1, w2, g1, g1n, g2, g2n, g25, g25n, g26, g26n]⟩
                · have g25n : ¬ (a) < (y.f0) := Int.not_lt.2 g25
                  exact ⟨false, by simp [spec_MouthOk.j0, spec_MouthOk.l0, hu, rd_T72, w0, w1, w2, g1, g1n, g2, g2n, g25, g25n], by simp [impl_rangesOk.f, impl_rangesOk.l0, impl_Range_76.f, impl_Range_57.f, impl_Range_57.l0, rd_T72, w0, w1, w2, w1, w2, g1, g1n, g2, g2n, g25, g25n]⟩
            · have g1n : ¬ (a) < (x.f0) := Int.not_lt.2 g1
              rcases ltge (a) (y.f0) with g28 | g28
              · have g28n : ¬ (y.f0) ≤ (a) := Int.not_le.2 g28
                rcases ltge (y.f0) (y.f1) with g29 | g29
                · have g29n : ¬ (y.f1) ≤ (y.f0) := Int.not_le.2 g29
                  rcases ltge (u) (y.f1) with g30 | g30
                  · have g30n : ¬ (y.f1) ≤ (u) := Int.not_le.2 g30
                    exact ⟨false, by simp [spec_MouthOk.j0, spec_MouthOk.l0, hu, rd_T72, w0, w1, w2, g1, g1n, g28, g28n, g29, g29n, g30, g30n], by simp [impl_rangesOk.f, impl_rangesOk.l0, impl_Range_76.f, impl_Range_57.f, impl_Range_57.l0, rd_T72, w0, w1, w2, w1, w2, g1, g1n, g28, g28n, g29, g29n, g30, g30n]⟩
                  · have g30n : ¬ (u) < (y.f1) := Int.not_lt.2 g30
                    exact ⟨false, by simp [spec_MouthOk.j0, spec_MouthOk.l0, hu, rd_T72, w0, w1, w2, g1, g1n, g28, g28n, g29, g29n, g30, g30n], by simp [impl_rangesOk.f, impl_rangesOk.l0, impl_Range_76.f, impl_Range_57.f, impl_Range_57.l0, rd_T72, w0, w1, w2, w1, w2, g1, g1n, g28, g28n, g29, g29n, g30, g30n]⟩
                · have g29n : ¬ (y.f0) < (y.f1) := Int.not_lt.2 g29
                  exact ⟨false, by simp [spec_MouthOk.j0, spec_MouthOk.l0, hu, rd_T72, w0, w1, w2, g1, g1n, g28, g28n, g29, g29n], by simp [impl_rangesOk.f, impl_rangesOk.l0, impl_Range_76.f, impl_Range_57.f, impl_Range_57.l0, rd_T72, w0, w1, w2, w1, w2, g1, g1n, g28, g28n, g29, g29n]⟩
              · have g28n : ¬ (a) < (y.f0) := Int.not_lt.2 g28
                exact ⟨false, by simp [spec_MouthOk.j0, spec_MouthOk.l0, hu, rd_T72, w0, w1, w2, g1, g1n, g28, g28n], by simp [impl_rangesOk.f, impl_rangesOk.l0, impl_Range_76.f, impl_Range_57.f, impl_Range_57.l0, rd_T72, w0, w1, w2, w1, w2, g1, g1n, g28, g28n]⟩
          | x :: y :: z :: r => exact ⟨false, by rw [decide_eq_true (by simp; omega)]; simp [spec_MouthOk.j0], by rw [if_neg (by simp; omega)]⟩
        · rw [decide_eq_false c4]
          exact ⟨false, by simp [spec_MouthOk.j0], by simp⟩
      · rw [decide_eq_false c3]
        exact ⟨false, by simp [spec_MouthOk.j0], by simp⟩
  · rw [decide_eq_false c1]
    exact ⟨false, by simp [spec_MouthOk.j0], by simp⟩
/-! ### a drawn mouth -/
/-- What each turn of a drawn mouth keeps. -/
def MInv (a : Int) (l : List Int) (c d : Int) (e : List S72) : Prop := (0 ≤ a ∧ a ≤ 1000000) ∧ l.length ≤ 32 ∧ (0 ≤ c ∧ c ≤ (l.length : Int)) ∧ (0 ≤ d ∧ d ≤ 255) ∧ e.length ≤ 2
abbrev MT := Int × List Int × Int × Int × List S72
theorem zero_inv : MInv 0 [] 0 0 [] := ⟨by omega, by simp, by simp, by omega, by simp⟩
theorem mouth_cond (a : Int) (l : List Int) (c d : Int) (e : List S72) (k : Nat) : ∃ t, spec_MouthOk.f (k + 6) a l c d e = some t ∧ (t = true → MInv a l c d e) := by
  obtain ⟨t, ht, _⟩ := mouthOk_same a l c d e k
  refine ⟨t, ht, fun h => ?_⟩
  subst h
  simp only [spec_MouthOk.f, inAll, Option.bind_some] at ht
  by_cases c1 : 0 ≤ a ∧ a ≤ 1000000
  · rw [decide_eq_true c1, if_pos rfl] at ht
    by_cases c2 : (l.length : Int) > 32
    · rw [if_pos c2] at ht; simp [spec_MouthOk.j0] at ht
    · rw [if_neg c2] at ht
      by_cases c3 : 0 ≤ c ∧ c ≤ (l.length : Int)
      · rw [decide_eq_true c3, if_pos rfl] at ht
        by_cases c4 : 0 ≤ d ∧ d ≤ 255
        · rw [decide_eq_true c4, if_pos rfl] at ht
          by_cases c5 : (e.length : Int) > 2
          · rw [decide_eq_true c5] at ht; simp [spec_MouthOk.j0] at ht
          · exact ⟨c1, by omega, c3, c4, by omega⟩
        · rw [decide_eq_false c4, if_neg (by simp)] at ht; simp [spec_MouthOk.j0] at ht
      · rw [decide_eq_false c3, if_neg (by simp)] at ht; simp [spec_MouthOk.j0] at ht
  · rw [decide_eq_false c1, if_neg (by simp)] at ht; cases ht
theorem copy13 (a : Int) (l : List Int) (c d : Int) (e : List S72) (hl : l.length ≤ 1000) (he : e.length ≤ 1000) : spec_l13Copy.f a l c d e = some (a, l, c, d, e) := by
  simp only [spec_l13Copy.f, Option.bind_some, List.length_nil, Nat.zero_add, List.nil_append]
  rw [if_pos (by omega), if_pos (by omega)]
theorem mn_le (a b : Int) : mn a b ≤ a ∧ mn a b ≤ b ∧ (mn a b = a ∨ mn a b = b) := by
  unfold mn
  split <;> omega
theorem write_tot {a : Int} {l : List Int} {c d : Int} {e : List S72} (h : MInv a l c d e) (b : List Int) (hb : b.length ≤ 1000) (k : Nat) :
    Tot (fun r : Int × List Int × Int × Int × List S72 × Int => MInv r.1 r.2.1 r.2.2.1 r.2.2.2.1 r.2.2.2.2.1) (spec_MouthWrite.f (k + 6) a l c d e b) := by
  obtain ⟨h1, h2, h3, h4, h5⟩ := h
  unfold spec_MouthWrite.f
  obtain ⟨t, ht, _⟩ := mouth_cond a l c d e k
  rw [ht, Option.bind_some]
  refine tot_ite (fun _ => ?_) (fun _ => tot_some zero_inv)
  rw [copy13 a l c d e (by omega) (by omega), Option.bind_some, wrap_id (n := 32 - (l.length : Int)) (by omega) (by omega)]
  obtain ⟨m1, m2, m3⟩ := mn_le (b.length : Int) (32 - (l.length : Int))
  generalize mn (b.length : Int) (32 - (l.length : Int)) = m at m1 m2 m3
  rw [if_pos (by omega), if_pos (by omega)]
  have hk : (b.take m.toNat).length = m.toNat := by rw [List.length_take]; omega
  dsimp only
  rw [if_pos (by omega)]
  refine tot_some ⟨h1, ?_, ?_, h4, h5⟩
  · dsimp only; rw [List.length_append, hk]; omega
  · dsimp only; rw [List.length_append, hk]; omega
theorem stream_some (v : Int) : ∃ u, spec_l20Stream.f v = some u := ⟨_, rfl⟩
theorem heard_tot (v n : Int) : ∀ (d k : Nat) (acc : List Int) (i : Int), i + d = n → 0 ≤ i → n ≤ 100 → acc.length = i.toNat → d < k → Tot (fun r : List Int => r.length ≤ 100) (spec_l20Heard.l0 k v n acc i) := by
  intro d
  induction d with
  | zero =>
    intro k acc i hi h0 hn ha hk
    obtain ⟨k, rfl⟩ : ∃ q, k = q + 1 := ⟨k - 1, by omega⟩
    rw [spec_l20Heard.l0, if_neg (by omega)]
    exact tot_some (by omega)
  | succ d ih =>
    intro k acc i hi h0 hn ha hk
    obtain ⟨k, rfl⟩ : ∃ q, k = q + 1 := ⟨k - 1, by omega⟩
    rw [spec_l20Heard.l0, if_pos (by omega)]
    obtain ⟨u, hu⟩ := stream_some (wrap64 (v + i))
    rw [hu, Option.bind_some, if_pos (by omega), wrap_id (n := i + 1) (by omega) (by omega)]
    exact ih k _ (i + 1) (by omega) (by omega) hn (by simp; omega) (by omega)
theorem next_tot {a : Int} {l : List Int} {c d : Int} {e : List S72} (h : MInv a l c d e) (v : Int) (h0 : 0 ≤ v) (h1 : v ≤ 100) (k : Nat) :
    Tot (fun r : Int × List Int × Int × Int × List S72 × Int × List Int => MInv r.1 r.2.1 r.2.2.1 r.2.2.2.1 r.2.2.2.2.1) (spec_MouthNext.f (k + 6) a l c d e v) := by
  have hI := h
  obtain ⟨h1', h2, h3, h4, h5⟩ := h
  unfold spec_MouthNext.f
  obtain ⟨t, ht, _⟩ := mouth_cond a l c d e k
  have hj : ∀ x : Bool, Tot (fun r : Int × List Int × Int × Int × List S72 × Int × List Int => MInv r.1 r.2.1 r.2.2.1 r.2.2.2.1 r.2.2.2.2.1) (spec_MouthNext.j0 (k + 6) v x a l c d e) := by
    intro x
    rw [spec_MouthNext.j0]
    refine tot_ite (fun _ => tot_some zero_inv) (fun _ => ?_)
    rw [copy13 a l c d e (by omega) (by omega), Option.bind_some, wrap_id (n := c + v) (by omega) (by omega)]
    obtain ⟨m1, m2, m3⟩ := mn_le (l.length : Int) d
    generalize mn (l.length : Int) d = m at m1 m2 m3
    obtain ⟨g1, g2, g3⟩ := mn_le m (c + v)
    generalize mn m (c + v) = g at g1 g2 g3
    refine tot_ite (fun _ => tot_some hI) (fun hn => ?_)
    rw [Option.bind_some, if_pos (by omega), if_pos (by omega), if_pos (by omega)]
    have hk : ((l.take g.toNat).drop c.toNat).length ≤ 32 := by rw [List.length_drop, List.length_take]; omega
    rw [List.length_nil, if_pos (by omega)]
    exact tot_some ⟨h1', h2, ⟨by dsimp only; omega, by dsimp only; omega⟩, h4, h5⟩
  rw [ht, Option.bind_some, inAll, Option.bind_some]
  exact tot_ite (fun _ => hj _) (fun _ => hj _)
set_option maxHeartbeats 4000000 in
theorem hear_loop (at' n : Int) (rs : List S72) (hrs : rs.length ≤ 100) (hn : 0 ≤ at') (a : Int) (l : List Int) (c d : Int) (h : (0 ≤ a) ∧ l.length ≤ 32 ∧ (0 ≤ c ∧ c ≤ (l.length : Int)) ∧ (0 ≤ d ∧ d ≤ 255)) (ha : a = at') :
    ∀ (q k i : Nat) (e : List S72), i + q = rs.length → q < k → e.length ≤ 2 →
    Tot (fun r : Int × List Int × Int × Int × List S72 × Int => MInv r.1 r.2.1 r.2.2.1 r.2.2.2.1 r.2.2.2.2.1) (spec_MouthHear.l0 k at' rs n (i : Int) a l c d e) := by
  intro q
  induction q with
  | zero =>
    intro k i e hi hk he
    obtain ⟨k, rfl⟩ : ∃ q, k = q + 1 := ⟨k - 1, by omega⟩
    rw [spec_MouthHear.l0, if_neg (by omega)]
    exact tot_ite (fun _ => tot_some zero_inv) (fun h' => tot_some ⟨⟨h.1, by dsimp only; omega⟩, h.2.1, h.2.2.1, h.2.2.2, he⟩)
  | succ q ih =>
    intro k i e hi hk he
    obtain ⟨k, rfl⟩ : ∃ q, k = q + 1 := ⟨k - 1, by omega⟩
    have e1 : wrap64 ((i : Int) + 1) = ((i + 1 : Nat) : Int) := by rw [wrap_id (by omega) (by omega)]; omega
    have go : ∀ e : List S72, e.length ≤ 2 → Tot (fun r : Int × List Int × Int × Int × List S72 × Int => MInv r.1 r.2.1 r.2.2.1 r.2.2.2.1 r.2.2.2.2.1) (spec_MouthHear.l0 k at' rs n (wrap64 ((i : Int) + 1)) a l c d e) := by
      intro e he
      rw [e1]
      exact ih k (i + 1) e (by omega) (by omega) he
    have w : wrap64 ((e.length : Int) - 1) = (e.length : Int) - 1 := wrap_id (by omega) (by omega)
    rw [spec_MouthHear.l0]
    generalize spec_MouthHear.l0 k = G at go ⊢
    rw [if_pos (show (i : Int) < (rs.length : Int) by omega), if_pos (Int.natCast_nonneg i)]
    refine tot_ite (fun _ => tot_ite (fun _ => tot_ite (fun _ => tot_ite (fun h2 => tot_ite (fun _ => ?_) (fun h3 => ?_)) (fun _ => go e he)) (fun _ => go e he)) (fun _ => go e he)) (fun _ => go e he)
    · rw [if_pos (by omega)]; exact go _ (by simp; omega)
    · rw [w] at h3 ⊢
      rw [if_pos (by omega), if_pos (by omega)]
      refine tot_ite (fun _ => ?_) (fun _ => go e he)
      rw [if_pos (by omega)]; exact go _ (by simp; omega)
theorem hear_tot {a : Int} {l : List Int} {c d : Int} {e : List S72} (h : MInv a l c d e) (p v : Int) (rs : List S72) (hrs : rs.length ≤ 100) (hp : 0 ≤ p) (hp' : p ≤ 100000000) (hv : 0 ≤ v ∧ v ≤ 255) (k : Nat) (hk : 200 < k) :
    Tot (fun r : Int × List Int × Int × Int × List S72 × Int => MInv r.1 r.2.1 r.2.2.1 r.2.2.2.1 r.2.2.2.2.1) (spec_MouthHear.f (k + 6) a l c d e p v rs) := by
  have hI := h
  obtain ⟨h1', h2, h3, h4, h5⟩ := h
  unfold spec_MouthHear.f
  obtain ⟨t, ht, _⟩ := mouth_cond a l c d e k
  have w : wrap64 (p - a) = p - a := wrap_id (by omega) (by omega)
  have hj1 : ∀ x : Bool, (x = false → a ≤ p ∧ p - a ≤ c) → Tot (fun r : Int × List Int × Int × Int × List S72 × Int => MInv r.1 r.2.1 r.2.2.1 r.2.2.2.1 r.2.2.2.2.1) (spec_MouthHear.j1 (k + 5) p v rs (wrap64 (p - a)) x a l c d e a l c d e) := by
    intro x hx
    rw [spec_MouthHear.j1, w]
    refine tot_ite (fun _ => tot_some hI) (fun hn => ?_)
    have hx' := hx (by simpa using hn)
    rw [Option.bind_some, if_pos (by omega), if_pos (by omega)]
    have hk : (l.drop (p - a).toNat).length = l.length - (p - a).toNat := List.length_drop
    rw [List.length_nil, if_pos (by omega), List.nil_append, wrap_id (n := c - (p - a)) (by omega) (by omega)]
    exact hear_loop p (p - a) rs hrs hp p _ _ v ⟨hp, by omega, ⟨by omega, by omega⟩, hv⟩ rfl rs.length (k + 4) 0 [] (by omega) (by omega) (by simp)
  have hj : ∀ x : Bool, Tot (fun r : Int × List Int × Int × Int × List S72 × Int => MInv r.1 r.2.1 r.2.2.1 r.2.2.2.1 r.2.2.2.2.1) (spec_MouthHear.j0 (k + 6) p v rs x a l c d e) := by
    intro x
    rw [spec_MouthHear.j0]
    refine tot_ite (fun _ => tot_some zero_inv) (fun _ => ?_)
    rw [copy13 a l c d e (by omega) (by omega), Option.bind_some]
    refine tot_ite (fun _ => hj1 _ (fun h => by cases h)) (fun h' => hj1 _ (fun h => ?_))
    rw [w] at h
    have := of_decide_eq_false h
    omega
  rw [ht, Option.bind_some, inAll, Option.bind_some]
  exact tot_ite (fun _ => hj _) (fun _ => hj _)
set_option maxHeartbeats 2000000 in
theorem mouth_loop {s : List Int} (hs : Code s) (z : Int) : ∀ (n k : Nat) (x p a : Int) (l : List Int) (c d : Int) (e : List S72), x = (n : Int) → n ≤ 10 → n + 1000 < k → MInv a l c d e → 0 ≤ p → p + 20 * n ≤ 700000000 →
    Tot (fun r : Int × List Int × Int × Int × List S72 × Int => p ≤ r.2.2.2.2.2 ∧ r.2.2.2.2.2 ≤ p + 20 * n + 20 ∧ r.2.1.length ≤ 33) (spec_l20Mouth.l0 k z x s p a l c d e) := by
  intro n
  induction n with
  | zero =>
    intro k x p a l c d e hx hn hk hI h0 h1
    obtain ⟨k, rfl⟩ : ∃ q, k = q + 1 := ⟨k - 1, by omega⟩
    obtain ⟨g1, g2, g3, g4, g5⟩ := hI
    rw [spec_l20Mouth.l0, if_neg (by omega)]
    have fin : ∀ (u : Int) (m : List Int) (v w : Int) (e : List S72) (p' : Int), m.length ≤ 33 → p ≤ p' → p' ≤ p + 10 → Tot (fun r : Int × List Int × Int × Int × List S72 × Int => p ≤ r.2.2.2.2.2 ∧ r.2.2.2.2.2 ≤ p + 20 * ((0 : Nat) : Int) + 20 ∧ r.2.1.length ≤ 33) (some (u, m, v, w, e, p')) :=
      fun u m v w e p' hm a1 a2 => tot_some ⟨a1, by dsimp only; omega, hm⟩
    refine tot_odd hs (by omega) (by omega) (by omega) ?_; intro o p3 q5 q6; dsimp only
    refine tot_ite (fun _ => ?_) (fun _ => fin _ _ _ _ _ _ (by omega) (by omega) (by omega))
    refine tot_pick hs (by omega) (by omega) (by omega) (by omega) ?_; intro b b0 b1; dsimp only
    refine tot_ite (fun _ => ?_) (fun _ => tot_ite (fun _ => ?_) (fun _ => tot_ite (fun _ => ?_) (fun _ => ?_)))
    · refine tot_pick hs (by omega) (by omega) (by omega) (by omega) ?_; intro f f0 f1; exact fin _ _ _ _ _ _ (by omega) (by dsimp only; omega) (by dsimp only; omega)
    · refine tot_pick hs (by omega) (by omega) (by omega) (by omega) ?_; intro f f0 f1; exact fin _ _ _ _ _ _ (by omega) (by dsimp only; omega) (by dsimp only; omega)
    · refine tot_pick hs (by omega) (by omega) (by omega) (by omega) ?_; intro f f0 f1; dsimp only
      refine tot_pick hs (by omega) (by omega) (by omega) (by omega) ?_; intro g g0' g1'; dsimp only
      rw [if_pos (by omega)]
      exact fin _ _ _ _ _ _ (by omega) (by omega) (by omega)
    · rw [if_pos (by omega)]
      exact fin _ _ _ _ _ _ (by simp) (by omega) (by omega)
  | succ n ih =>
    intro k x p a l c d e hx hn hk hI h0 h1
    obtain ⟨k, rfl⟩ : ∃ q, k = q + 1 := ⟨k - 1, by omega⟩
    obtain ⟨k', hk'⟩ : ∃ q, k = q + 6 := ⟨k - 6, by omega⟩
    obtain ⟨g1, g2, g3, g4, g5⟩ := hI
    have hI : MInv a l c d e := ⟨g1, g2, g3, g4, g5⟩
    have wx : wrap64 (x - 1) = (n : Int) := by rw [wrap_id (by omega) (by omega)]; omega
    have go : ∀ (p' a : Int) (l : List Int) (c d : Int) (e : List S72), MInv a l c d e → p ≤ p' → p' ≤ p + 20 → Tot (fun r : Int × List Int × Int × Int × List S72 × Int => p ≤ r.2.2.2.2.2 ∧ r.2.2.2.2.2 ≤ p + 20 * ((n + 1 : Nat) : Int) + 20 ∧ r.2.1.length ≤ 33) (spec_l20Mouth.l0 k z (wrap64 (x - 1)) s p' a l c d e) := by
      intro p' a l c d e hI a1 a2
      rw [wx]
      exact tot_mono (ih k (n : Int) p' a l c d e rfl (by omega) (by omega) hI (by omega) (by omega)) (fun b hb => ⟨by omega, by omega, hb.2.2⟩)
    rw [spec_l20Mouth.l0, if_pos (by omega)]
    refine tot_pick hs (by omega) (by omega) (by omega) (by omega) ?_; intro b b0 b1; dsimp only
    refine tot_ite (fun _ => ?_) (fun _ => tot_ite (fun _ => ?_) (fun _ => ?_))
    · refine tot_pick hs (by omega) (by omega) (by omega) (by omega) ?_; intro f f0 f1; dsimp only
      refine tot_bind (heard_tot _ f f.toNat k [] 0 (by omega) (by omega) (by omega) (by simp) (by omega)) (fun m hm => ?_)
      subst hk'
      refine tot_bind (write_tot hI m (by omega) k') (fun r hr => ?_)
      exact go _ _ _ _ _ _ hr (by omega) (by omega)
    · refine tot_pick hs (by omega) (by omega) (by omega) (by rw [wrap_id (by omega) (by omega)]; omega) ?_; intro f f0 f1; dsimp only
      rw [wrap_id (n := c + 1) (by omega) (by omega)] at f1
      refine tot_pick hs (by omega) (by omega) (by omega) (by omega) ?_; intro v v0 v1; dsimp only
      refine tot_pick hs (by omega) (by omega) (by omega) (by omega) ?_; intro t1 t10 t11; dsimp only
      refine tot_pick hs (by omega) (by omega) (by omega) (by omega) ?_; intro t2 t20 t21; dsimp only
      refine tot_pick hs (by omega) (by omega) (by omega) (by omega) ?_; intro t3 t30 t31; dsimp only
      refine tot_pick hs (by omega) (by omega) (by omega) (by omega) ?_; intro t4 t40 t41; dsimp only
      rw [wrap_id (n := a + f) (by omega) (by omega)]
      subst hk'
      refine tot_bind (hear_tot hI (a + f) v _ (by simp) (by omega) (by omega) (by omega) k' (by omega)) (fun r hr => ?_)
      exact go _ _ _ _ _ _ hr (by omega) (by omega)
    · refine tot_pick hs (by omega) (by omega) (by omega) (by omega) ?_; intro f f0 f1; dsimp only
      rw [wrap_id (n := 1 + f) (by omega) (by omega)]
      subst hk'
      refine tot_bind (next_tot hI (1 + f) (by omega) (by omega) k') (fun r hr => ?_)
      exact go _ _ _ _ _ _ hr (by omega) (by omega)
theorem mouth_tot {s : List Int} (hs : Code s) {k : Nat} (hk : 1100 < k) {p z : Int} (h0 : 0 ≤ p) (h1 : p ≤ 600000000) : Tot (fun r : Int × List Int × Int × Int × List S72 × Int => p ≤ r.2.2.2.2.2 ∧ r.2.2.2.2.2 ≤ p + 300 ∧ r.2.1.length ≤ 33) (spec_l20Mouth.f k s p z) := by
  unfold spec_l20Mouth.f
  refine tot_pick hs (by omega) (by omega) (by omega) (by omega) ?_; intro a a0 a1; dsimp only
  refine tot_pick hs (by omega) (by omega) (by omega) (by omega) ?_; intro b b0 b1; dsimp only
  refine tot_pick hs (by omega) (by omega) (by omega) (by omega) ?_; intro c c0 c1; dsimp only
  rw [wrap_id (n := a * 40) (by omega) (by omega), wrap_id (n := 100 + a * 40) (by omega) (by omega)]
  exact tot_mono (mouth_loop hs z c.toNat k c (p + 1 + 1 + 1) _ [] 0 b [] (by omega) (by omega) (by omega) ⟨⟨by omega, by omega⟩, by simp, by simp, ⟨b0, by omega⟩, by simp⟩ (by omega) (by omega)) (fun r hr => ⟨by omega, by omega, hr.2.2⟩)
theorem draw_tot (l : List Int) (hw : ∀ x ∈ l, (Lit.int .u8 x).wf = true) : ∃ t, spec_DrawMouthOk.f 2000 l = some t := by
  obtain ⟨s, hs, hc⟩ := open_some l hw
  have : Tot (fun _ => True) (spec_DrawMouthOk.f 2000 l) := by
    unfold spec_DrawMouthOk.f
    rw [hs, Option.bind_some]
    exact tot_bind (mouth_tot hc (by omega) (by dsimp only; omega) (by dsimp only; omega)) (fun r _ => tot_some trivial)
  obtain ⟨t, ht, _⟩ := this
  exact ⟨t, ht⟩
theorem bare_ok (k : Nat) (a : Int) (l : List Int) (d : Int) (ha : 0 ≤ a ∧ a ≤ 1000000) (hl : l.length ≤ 32) (hd : 0 ≤ d ∧ d ≤ 255) : impl_MouthOk.f (k + 6) a l 0 d [] = some true := by
  obtain ⟨t, h1, h2⟩ := mouthOk_same a l 0 d [] k
  have : spec_MouthOk.f (k + 6) a l 0 d [] = some true := by
    simp only [spec_MouthOk.f, inAll, Option.bind_some, decide_eq_true ha, if_true]
    rw [if_neg (by omega), decide_eq_true (show (0 : Int) ≤ 0 ∧ (0 : Int) ≤ (l.length : Int) by omega), if_pos rfl, decide_eq_true hd, if_pos rfl]
    simp [spec_MouthOk.j0, spec_MouthOk.l0]
  rw [h1] at this
  rw [h2, this]
theorem main : GFnMouthOk.Stmt := by
  intro l hl0
  obtain ⟨_, hw⟩ := hl0
  refine ⟨2000, ?_⟩
  unfold laws_FnMouthOk.f
  by_cases hl : (l.length : Int) > 1048576
  · rw [if_pos hl]
  · rw [if_neg hl]
    obtain ⟨⟨a, m, c, d, e⟩, hD⟩ := draw_tot l hw
    obtain ⟨t, h1, h2⟩ := mouthOk_same a m c d e 1994
    obtain ⟨t', h1', h3⟩ := mouth_cond a m c d e 1994
    rw [h1] at h1'
    obtain rfl : t = t' := Option.some.inj h1'
    have hb := bare_ok 1994 0 [] 0 (by omega) (by simp) (by omega)
    simp only [Nat.reduceAdd] at h1 h2 hb
    simp only [hD, Option.bind_some, h1, h2, bne_self_eq_false, Bool.false_eq_true, if_false, hb, if_true, alive_true 1997]
    cases t
    · simp
    · obtain ⟨g1, g2, g3, g4, g5⟩ := h3 rfl
      have hb2 := bare_ok 1994 a m d g1 g2 g4
      simp only [Nat.reduceAdd] at hb2
      simp [hb2]
end FnMouthOk_
theorem FnMouthOk : GFnMouthOk.Stmt := FnMouthOk_.main
end Go.Proofs.Ytfcocnhkimbpbaa.Pure
