/- The law FnExactMouthOk over numbers and lists: the program's MouthOk answers as the reference's, and the mouth stays as it was. No conditions but the kinds' ranges. -/
import Derived.Test.YtgfaamcihlojdadGFnExactMouthOk
namespace Go.Proofs.Ytgfaamcihlojdad.Pure
open Go Go.RowKit Go.Proofs.Ytgfaamcihlojdad.MFnExactMouthOk Go.Proofs.YtgfaamcihlojdadV.PrintWords Go.Proofs.YtgfaamcihlojdadV.PrintLast
set_option linter.unusedVariables false
set_option linter.unusedSimpArgs false
namespace FnExactMouthOk_
theorem i64_bounds {x : Int} (h : (Lit.int .i64 x).wf = true) : -9223372036854775808 ≤ x ∧ x ≤ 9223372036854775807 := by
  simpa [Lit.wf, IntKind.min, IntKind.max, IntKind.signed, IntKind.bits] using h
theorem inAll (x y z : Int) : spec_l1In.f x y z = some (decide (y ≤ x ∧ x ≤ z)) := by
  unfold spec_l1In.f
  by_cases h : x ≥ y
  · rw [if_pos h]; congr 1; simp only [decide_eq_decide]; omega
  · rw [if_neg h]; congr 1; symm; simp only [decide_eq_false_iff_not]; omega
theorem inAll' (x y z : Int) : impl_in.f x y z = some (decide (y ≤ x ∧ x ≤ z)) := inAll x y z
theorem wl {n m : Int} (h : n = m) (h0 : -9223372036854775808 ≤ m) (h1 : m ≤ 9223372036854775807) : wrap64 n = m := by
  subst h
  unfold wrap64
  omega
/-! ### copies, equality and sizes of rows of bytes -/
theorem wrap_id {n : Int} (h : -9223372036854775808 ≤ n) (h' : n ≤ 9223372036854775807) : wrap64 n = n := by
  unfold wrap64; omega
/-- A loop that fills a row, an element at a time, from the elements of another one. -/
theorem fills {α : Type} (n : Nat) (hn : n ≤ 281474976710656) (L : Nat → List α → Int → Option (List α)) (g : Nat → α)
    (h : ∀ k acc i, k < n + 1 → L (k + 1) acc i = if i < (n : Int) then (if 0 ≤ i then (if i < (acc.length : Int) then L k (acc.set i.toNat (g i.toNat)) (wrap64 (i + 1)) else none) else none) else some acc) :
    ∀ d k (i : Nat) (acc : List α), i + d = n → k = d + 1 → acc.length = n → (∀ j, j < i → acc[j]? = some (g j)) → ∃ r, L k acc (i : Int) = some r ∧ r.length = n ∧ ∀ j, j < n → r[j]? = some (g j) := by
  intro d
  induction d with
  | zero =>
    intro k i acc hi hk hl hp
    subst hk
    refine ⟨acc, ?_, hl, fun j hj => hp j (by omega)⟩
    rw [h _ _ _ (by omega), if_neg (by omega)]
  | succ d ih =>
    intro k i acc hi hk hl hp
    subst hk
    obtain ⟨r, hr, hrl, hrp⟩ := ih (d + 1) (i + 1) (acc.set i (g i)) (by omega) rfl (by simpa using hl) (fun j hj => by
      by_cases hji : j = i
      · subst hji
        simp [List.getElem?_set, hl]
        omega
      · rw [List.getElem?_set_ne (by omega)]
        exact hp j (by omega))
    refine ⟨r, ?_, hrl, hrp⟩
    rw [h _ _ _ (by omega), if_pos (by omega), if_pos (by omega), if_pos (by omega), wrap_id (by omega) (by omega)]
    simpa using hr
theorem rd_at (l : List Int) (i : Nat) (h : i < l.length) : l[i]? = some (rd l (i : Int)) := by
  unfold rd
  rw [List.getD_eq_getElem?_getD, Int.toNat_natCast, List.getElem?_eq_getElem h]
  rfl
theorem toBytes_exact (l : List Int) (hl : l.length ≤ 281474976710656) : laws_toByteS.f (l.length + 1) l = some l := by
  unfold laws_toByteS.f
  rw [if_pos (by omega), if_pos (by omega)]
  obtain ⟨r, hr, hrl, hrp⟩ := fills l.length hl (fun k acc i => laws_toByteS.l0 k l acc i) (fun i => rd l (i : Int)) (fun k acc i hk => by
    simp only [laws_toByteS.l0]
    by_cases hi : i < (l.length : Int)
    · rw [if_pos hi, if_pos hi]
      by_cases h0 : 0 ≤ i
      · rw [if_pos h0, if_pos h0]
        by_cases h1 : i < (acc.length : Int)
        · rw [if_pos h1, if_pos h1, show ((i.toNat : Nat) : Int) = i by omega]
        · rw [if_neg h1, if_neg h1]
      · rw [if_neg h0, if_neg h0]
    · rw [if_neg hi, if_neg hi]) l.length (l.length + 1) 0 (List.replicate l.length 0) (by omega) rfl (by simp) (fun j hj => by omega)
  rw [show (l.length : Int).toNat = l.length by omega]
  show laws_toByteS.l0 _ _ _ _ = _
  have hr' : laws_toByteS.l0 (l.length + 1) l (List.replicate l.length 0) 0 = some r := hr
  rw [hr']
  congr 1
  apply List.ext_getElem?
  intro j
  by_cases hj : j < l.length
  · rw [hrp j hj, rd_at l j hj]
  · rw [List.getElem?_eq_none (by omega), List.getElem?_eq_none (by omega)]
theorem toBytes_le (l : List Int) (hl : l.length ≤ 281474976710656) (k : Nat) (hk : l.length < k) : laws_toByteS.f k l = some l := by
  obtain ⟨d, rfl⟩ : ∃ d, k = l.length + 1 + d := ⟨k - (l.length + 1), by omega⟩
  induction d with
  | zero => exact toBytes_exact l hl
  | succ d ih => exact laws_toByteS.mono l _ _ (ih (by omega))
theorem szBytes (l : List Int) (a : Int) (hl : l.length ≤ maxLen) (ha : 0 ≤ a) (ha' : a ≤ 1048576) : laws_szByteS.f l a = some (if a < (l.length : Int) then -1 else a - (l.length : Int)) := by
  unfold laws_szByteS.f
  unfold maxLen at hl
  rw [wrap_id (by omega) (by omega)]
  by_cases h : a < (l.length : Int)
  · rw [if_pos (by omega), if_pos h]
  · rw [if_neg (by omega), if_neg h]
theorem eqBytes_loop (a b : List Int) (hl : a.length = b.length) (hb : a.length ≤ 281474976710656) : ∀ d k (i : Nat), i + d = a.length → d < k →
    laws_eqByteS.l0 k a b (i : Int) = some (decide (a.drop i = b.drop i)) := by
  intro d
  induction d with
  | zero =>
    intro k i hi hk
    obtain ⟨k, rfl⟩ : ∃ m, k = m + 1 := ⟨k - 1, by omega⟩
    simp only [laws_eqByteS.l0]
    rw [if_neg (by omega), List.drop_eq_nil_of_le (by omega), List.drop_eq_nil_of_le (by omega)]
    rfl
  | succ d ih =>
    intro k i hi hk
    obtain ⟨k, rfl⟩ : ∃ m, k = m + 1 := ⟨k - 1, by omega⟩
    simp only [laws_eqByteS.l0]
    rw [if_pos (by omega), if_pos (by omega), if_pos (by omega), wrap_id (by omega) (by omega)]
    have h1 := rd_at a i (by omega)
    have h2 := rd_at b i (by omega)
    have e1 : a.drop i = rd a (i : Int) :: a.drop (i + 1) := by
      rw [List.drop_eq_getElem_cons (by omega)]
      congr 1
      rw [List.getElem?_eq_getElem (by omega)] at h1
      exact Option.some.inj h1
    have e2 : b.drop i = rd b (i : Int) :: b.drop (i + 1) := by
      rw [List.drop_eq_getElem_cons (by omega)]
      congr 1
      rw [List.getElem?_eq_getElem (by omega)] at h2
      exact Option.some.inj h2
    have hr := ih k (i + 1) (by omega) (by omega)
    rw [e1, e2]
    by_cases he : rd a (i : Int) = rd b (i : Int)
    · rw [if_pos he, show ((i : Int) + 1) = ((i + 1 : Nat) : Int) by omega, hr, he]
      simp
    · rw [if_neg he]
      simp [he]
theorem eqBytes (a b : List Int) (hb : a.length ≤ 281474976710656) (k : Nat) (hk : a.length < k) : laws_eqByteS.f k a b = some (decide (a = b)) := by
  unfold laws_eqByteS.f
  by_cases h : a.length = b.length
  · rw [if_pos (by omega)]
    have := eqBytes_loop a b h hb a.length k 0 (by omega) hk
    simpa using this
  · rw [if_neg (by omega)]
    have : a ≠ b := fun e => h (by rw [e])
    simp [this]
/-! ### rows of structs: copied, compared -/
/-- A loop that turns a row into another one, an element at a time. -/
theorem turns {α : Type} (n : Nat) (hn : n ≤ 281474976710656) (K : Nat) (L : Nat → List α → Int → Option (List α)) (g : Nat → α)
    (h : ∀ k acc i, K ≤ k → acc.length = n → 0 ≤ i → i ≤ (n : Int) → L (k + 1) acc i = if i < (n : Int) then L k (acc.set i.toNat (g i.toNat)) (i + 1) else some acc) :
    ∀ d k (i : Nat) (acc : List α), i + d = n → K + d < k → acc.length = n → (∀ j, j < i → acc[j]? = some (g j)) → L k acc (i : Int) = some ((List.range n).map g) := by
  intro d
  induction d with
  | zero =>
    intro k i acc hi hk hl hp
    obtain ⟨k, rfl⟩ : ∃ m, k = m + 1 := ⟨k - 1, by omega⟩
    rw [h _ _ _ (by omega) hl (by omega) (by omega), if_neg (by omega)]
    congr 1
    apply List.ext_getElem?
    intro j
    by_cases hj : j < n
    · rw [hp j (by omega)]; simp [hj]
    · rw [List.getElem?_eq_none (by omega), List.getElem?_eq_none (by simp; omega)]
  | succ d ih =>
    intro k i acc hi hk hl hp
    obtain ⟨k, rfl⟩ : ∃ m, k = m + 1 := ⟨k - 1, by omega⟩
    rw [h _ _ _ (by omega) hl (by omega) (by omega), if_pos (by omega)]
    exact ih k (i + 1) _ (by omega) (by omega) (by simpa using hl) (fun j hj => by
      by_cases hji : j = i
      · subst hji
        simp [List.getElem?_set, hl]
        omega
      · simp only [Int.toNat_natCast]
        rw [List.getElem?_set_ne (by omega)]
        exact hp j (by omega))
theorem turns_map {α β : Type} (l : List β) (d : β) (f : β → α) : (List.range l.length).map (fun i => f (l.getD i d)) = l.map f := by
  apply List.ext_getElem?
  intro j
  by_cases hj : j < l.length
  · simp [hj]
  · rw [List.getElem?_eq_none (by simp; omega), List.getElem?_eq_none (by simp; omega)]
/-- A loop that compares two rows, an element at a time. -/
theorem equals {α : Type} (l : List α) (hn : l.length ≤ 281474976710656) (K : Nat) (L : Nat → Int → Option Bool)
    (h : ∀ k i, K ≤ k → 0 ≤ i → i ≤ (l.length : Int) → L (k + 1) i = if i < (l.length : Int) then L k (i + 1) else some true) :
    ∀ d k (i : Nat), i + d = l.length → K + d < k → L k (i : Int) = some true := by
  intro d
  induction d with
  | zero =>
    intro k i hi hk
    obtain ⟨k, rfl⟩ : ∃ m, k = m + 1 := ⟨k - 1, by omega⟩
    rw [h _ _ (by omega) (by omega) (by omega), if_neg (by omega)]
  | succ d ih =>
    intro k i hi hk
    obtain ⟨k, rfl⟩ : ∃ m, k = m + 1 := ⟨k - 1, by omega⟩
    rw [h _ _ (by omega) (by omega) (by omega), if_pos (by omega)]
    exact ih k (i + 1) (by omega) (by omega)

/-! ### rows of Range -/
def convRange (x : S90) : S71 := ⟨x.f0, x.f1⟩
theorem toRangeS (l : List S90) (hl : l.length ≤ 1048576) (k : Nat) (hk : l.length < k) : laws_toRangeS.f k l = some (l.map convRange) := by
  unfold laws_toRangeS.f
  rw [if_pos (by omega), if_pos (by omega), ← turns_map l z90 convRange]
  exact turns l.length (by omega) 0 (fun k acc i => laws_toRangeS.l0 k l acc i) (fun i => convRange (l.getD i z90)) (fun k acc i _ ha h0 h1 => by
    simp only [laws_toRangeS.l0, laws_toRange.f, Option.bind_some]
    by_cases hi : i < (l.length : Int)
    · rw [if_pos hi, if_pos hi, if_pos h0, if_pos (by omega), wrap_id (by omega) (by omega)]
      rfl
    · rw [if_neg hi, if_neg hi]) l.length k 0 _ (by omega) (by omega) (by simp) (fun j hj => by omega)
theorem szRangeS (l : List S90) (a : Int) (hl : l.length ≤ maxLen) (ha : 0 ≤ a) (ha' : a ≤ 1048576) : laws_szRangeS.f l a = some (if a < (l.length : Int) then -1 else a - (l.length : Int)) := by
  unfold laws_szRangeS.f
  unfold maxLen at hl
  rw [wrap_id (by omega) (by omega)]
  by_cases h : a < (l.length : Int)
  · rw [if_pos (by omega), if_pos h]
  · rw [if_neg (by omega), if_neg h]
theorem eqRangeS (l : List S71) (hl : l.length ≤ 1048576) (k : Nat) (hk : l.length < k) : laws_eqRangeS.f k l l = some true := by
  unfold laws_eqRangeS.f
  rw [if_pos rfl]
  exact equals l (by omega) 0 (fun k i => laws_eqRangeS.l0 k l l i) (fun k i _ h0 h1 => by
    simp only [laws_eqRangeS.l0, laws_eqRange.f, if_true, Option.bind_some]
    by_cases hi : i < (l.length : Int)
    · rw [if_pos hi, if_pos hi, if_pos h0, if_pos hi, wrap_id (by omega) (by omega)]
    · rw [if_neg hi, if_neg hi]) l.length k 0 (by omega) (by omega)
/-! ### mouths -/
theorem ltge (a b : Int) : a < b ∨ b ≤ a := by omega
theorem mouthOk_same (a : Int) (l : List Int) (c d : Int) (e : List S71) (k : Nat) : ∃ t, spec_MouthOk.f (k + 6) a l c d e = some t ∧ impl_MouthOk.f (k + 6) a l c d e = some t := by
  simp only [spec_MouthOk.f, impl_MouthOk.f, inAll, inAll', Option.bind_some]
  by_cases c1 : 0 ≤ a ∧ a ≤ 1000000
  · rw [decide_eq_true c1]
    simp only [if_true]
    by_cases c2 : (l.length : Int) > 32
    · exact ⟨false, by rw [if_pos c2]; simp [spec_MouthOk.j0], by rw [if_neg (show ¬ (l.length : Int) ≤ 32 by omega)]⟩
    · rw [if_neg c2, if_pos (show (l.length : Int) ≤ 32 by omega)]
      by_cases c3 : 0 ≤ c ∧ c ≤ (l.length : Int)
      · rw [decide_eq_true c3]
        simp only [if_true]
        by_cases c4 : 0 ≤ d ∧ d ≤ 255
        · rw [decide_eq_true c4]
          simp only [if_true]
          generalize hu : wrap64 (a + c) = u
          have w0 : wrap64 1 = 1 := wl (by omega) (by omega) (by omega)
          have w1 : wrap64 2 = 2 := wl (by omega) (by omega) (by omega)
          have w2 : wrap64 0 = 0 := wl (by omega) (by omega) (by omega)
          match e with
          | [] => exact ⟨true, by simp [spec_MouthOk.j0, spec_MouthOk.l0], by simp [impl_rangesOk.f, impl_rangesOk.l0, impl_Range_66.f, impl_Range_43.f, impl_Range_43.l0]⟩
          | [x] =>
            by_cases h1 : x.f0 ≤ a
            · exact ⟨false, by simp [spec_MouthOk.j0, spec_MouthOk.l0, hu, rd_T71, h1], by simp [impl_rangesOk.f, impl_rangesOk.l0, impl_Range_66.f, impl_Range_43.f, impl_Range_43.l0, rd_T71, w0, w1, w2, Int.not_lt.2 h1]⟩
            · by_cases h2 : x.f1 ≤ x.f0
              · exact ⟨false, by simp [spec_MouthOk.j0, spec_MouthOk.l0, hu, rd_T71, h1, h2], by simp [impl_rangesOk.f, impl_rangesOk.l0, impl_Range_66.f, impl_Range_43.f, impl_Range_43.l0, rd_T71, w0, w1, w2, Int.not_le.1 h1, Int.not_lt.2 h2]⟩
              · by_cases h3 : x.f1 > u
                · exact ⟨false, by simp [spec_MouthOk.j0, spec_MouthOk.l0, hu, rd_T71, h1, h2, h3], by simp [impl_rangesOk.f, impl_rangesOk.l0, impl_Range_66.f, impl_Range_43.f, impl_Range_43.l0, rd_T71, w0, w1, w2, Int.not_le.1 h1, Int.not_le.1 h2, Int.not_le.2 h3]⟩
                · exact ⟨true, by simp [spec_MouthOk.j0, spec_MouthOk.l0, hu, rd_T71, h1, h2, h3, w0, w1, w2], by simp [impl_rangesOk.f, impl_rangesOk.l0, impl_Range_66.f, impl_Range_43.f, impl_Range_43.l0, rd_T71, w0, w1, w2, Int.not_le.1 h1, Int.not_le.1 h2, Int.not_lt.1 h3]⟩
          | [x, y] =>
            rcases ltge (a) (x.f0) with g1 | g1
            · have g1n : ¬ (x.f0) ≤ (a) := Int.not_le.2 g1
              rcases ltge (x.f0) (x.f1) with g2 | g2
              · have g2n : ¬ (x.f1) ≤ (x.f0) := Int.not_le.2 g2
                rcases ltge (u) (x.f1) with g3 | g3
                · have g3n : ¬ (x.f1) ≤ (u) := Int.not_le.2 g3
                  rcases ltge (a) (y.f0) with g4 | g4
                  · have g4n : ¬ (y.f0) ≤ (a) := Int.not_le.2 g4
                    rcases ltge (y.f0) (y.f1) with g5 | g5
                    · have g5n : ¬ (y.f1) ≤ (y.f0) := Int.not_le.2 g5
                      rcases ltge (u) (y.f1) with g6 | g6
                      · have g6n : ¬ (y.f1) ≤ (u) := Int.not_le.2 g6
                        exact ⟨false, by simp [spec_MouthOk.j0, spec_MouthOk.l0, hu, rd_T71, w0, w1, w2, g1, g1n, g2, g2n, g3, g3n, g4, g4n, g5, g5n, g6, g6n], by simp [impl_rangesOk.f, impl_rangesOk.l0, impl_Range_66.f, impl_Range_43.f, impl_Range_43.l0, rd_T71, w0, w1, w2, w1, w2, g1, g1n, g2, g2n, g3, g3n, g4, g4n, g5, g5n, g6, g6n]⟩
                      · have g6n : ¬ (u) < (y.f1) := Int.not_lt.2 g6
                        exact ⟨false, by simp [spec_MouthOk.j0, spec_MouthOk.l0, hu, rd_T71, w0, w1, w2, g1, g1n, g2, g2n, g3, g3n, g4, g4n, g5, g5n, g6, g6n], by simp [impl_rangesOk.f, impl_rangesOk.l0, impl_Range_66.f, impl_Range_43.f, impl_Range_43.l0, rd_T71, w0, w1, w2, w1, w2, g1, g1n, g2, g2n, g3, g3n, g4, g4n, g5, g5n, g6, g6n]⟩
                    · have g5n : ¬ (y.f0) < (y.f1) := Int.not_lt.2 g5
                      exact ⟨false, by simp [spec_MouthOk.j0, spec_MouthOk.l0, hu, rd_T71, w0, w1, w2, g1, g1n, g2, g2n, g3, g3n, g4, g4n, g5, g5n], by simp [impl_rangesOk.f, impl_rangesOk.l0, impl_Range_66.f, impl_Range_43.f, impl_Range_43.l0, rd_T71, w0, w1, w2, w1, w2, g1, g1n, g2, g2n, g3, g3n, g4, g4n, g5, g5n]⟩
                  · have g4n : ¬ (a) < (y.f0) := Int.not_lt.2 g4
                    exact ⟨false, by simp [spec_MouthOk.j0, spec_MouthOk.l0, hu, rd_T71, w0, w1, w2, g1, g1n, g2, g2n, g3, g3n, g4, g4n], by simp [impl_rangesOk.f, impl_rangesOk.l0, impl_Range_66.f, impl_Range_43.f, impl_Range_43.l0, rd_T71, w0, w1, w2, w1, w2, g1, g1n, g2, g2n, g3, g3n, g4, g4n]⟩
                · have g3n : ¬ (u) < (x.f1) := Int.not_lt.2 g3
                  rcases ltge (x.f1) (y.f0) with g7 | g7
                  · have g7n : ¬ (y.f0) ≤ (x.f1) := Int.not_le.2 g7
                    rcases ltge (y.f0) (y.f1) with g8 | g8
                    · have g8n : ¬ (y.f1) ≤ (y.f0) := Int.not_le.2 g8
                      rcases ltge (u) (y.f1) with g9 | g9
                      · have g9n : ¬ (y.f1) ≤ (u) := Int.not_le.2 g9
                        rcases ltge (a) (y.f0) with g10 | g10
                        · have g10n : ¬ (y.f0) ≤ (a) := Int.not_le.2 g10
                          rcases ltge (y.f0) (y.f1) with g11 | g11
                          · have g11n : ¬ (y.f1) ≤ (y.f0) := Int.not_le.2 g11
                            rcases ltge (u) (y.f1) with g12 | g12
                            · have g12n : ¬ (y.f1) ≤ (u) := Int.not_le.2 g12
                              exact ⟨false, by simp [spec_MouthOk.j0, spec_MouthOk.l0, hu, rd_T71, w0, w1, w2, g1, g1n, g2, g2n, g3, g3n, g7, g7n, g8, g8n, g9, g9n, g10, g10n, g11, g11n, g12, g12n], by simp [impl_rangesOk.f, impl_rangesOk.l0, impl_Range_66.f, impl_Range_43.f, impl_Range_43.l0, rd_T71, w0, w1, w2, w1, w2, g1, g1n, g2, g2n, g3, g3n, g7, g7n, g8, g8n, g9, g9n, g10, g10n, g11, g11n, g12, g12n]⟩
                            · have g12n : ¬ (u) < (y.f1) := Int.not_lt.2 g12
                              exact ⟨false, by simp [spec_MouthOk.j0, spec_MouthOk.l0, hu, rd_T71, w0, w1, w2, g1, g1n, g2, g2n, g3, g3n, g7, g7n, g8, g8n, g9, g9n, g10, g10n, g11, g11n, g12, g12n], by simp [impl_rangesOk.f, impl_rangesOk.l0, impl_Range_66.f, impl_Range_43.f, impl_Range_43.l0, rd_T71, w0, w1, w2, w1, w2, g1, g1n, g2, g2n, g3, g3n, g7, g7n, g8, g8n, g9, g9n, g10, g10n, g11, g11n, g12, g12n]⟩
                          · have g11n : ¬ (y.f0) < (y.f1) := Int.not_lt.2 g11
                            exact ⟨false, by simp [spec_MouthOk.j0, spec_MouthOk.l0, hu, rd_T71, w0, w1, w2, g1, g1n, g2, g2n, g3, g3n, g7, g7n, g8, g8n, g9, g9n, g10, g10n, g11, g11n], by simp [impl_rangesOk.f, impl_rangesOk.l0, impl_Range_66.f, impl_Range_43.f, impl_Range_43.l0, rd_T71, w0, w1, w2, w1, w2, g1, g1n, g2, g2n, g3, g3n, g7, g7n, g8, g8n, g9, g9n, g10, g10n, g11, g11n]⟩
                        · have g10n : ¬ (a) < (y.f0) := Int.not_lt.2 g10
                          rcases ltge (y.f0) (y.f1) with g13 | g13
                          · have g13n : ¬ (y.f1) ≤ (y.f0) := Int.not_le.2 g13
                            rcases ltge (u) (y.f1) with g14 | g14
                            · have g14n : ¬ (y.f1) ≤ (u) := Int.not_le.2 g14
                              exact ⟨false, by simp [spec_MouthOk.j0, spec_MouthOk.l0, hu, rd_T71, w0, w1, w2, g1, g1n, g2, g2n, g3, g3n, g7, g7n, g8, g8n, g9, g9n, g10, g10n, g13, g13n, g14, g14n], by simp [impl_rangesOk.f, impl_rangesOk.l0, impl_Range_66.f, impl_Range_43.f, impl_Range_43.l0, rd_T71, w0, w1, w2, w1, w2, g1, g1n, g2, g2n, g3, g3n, g7, g7n, g8, g8n, g9, g9n, g10, g10n, g13, g13n, g14, g14n]⟩
                            · have g14n : ¬ (u) < (y.f1) := Int.not_lt.2 g14
                              exact ⟨false, by simp [spec_MouthOk.j0, spec_MouthOk.l0, hu, rd_T71, w0, w1, w2, g1, g1n, g2, g2n, g3, g3n, g7, g7n, g8, g8n, g9, g9n, g10, g10n, g13, g13n, g14, g14n], by simp [impl_rangesOk.f, impl_rangesOk.l0, impl_Range_66.f, impl_Range_43.f, impl_Range_43.l0, rd_T71, w0, w1, w2, w1, w2, g1, g1n, g2, g2n, g3, g3n, g7, g7n, g8, g8n, g9, g9n, g10, g10n, g13, g13n, g14, g14n]⟩
                          · have g13n : ¬ (y.f0) < (y.f1) := Int.not_lt.2 g13
                            exact ⟨false, by simp [spec_MouthOk.j0, spec_MouthOk.l0, hu, rd_T71, w0, w1, w2, g1, g1n, g2, g2n, g3, g3n, g7, g7n, g8, g8n, g9, g9n, g10, g10n, g13, g13n], by simp [impl_rangesOk.f, impl_rangesOk.l0, impl_Range_66.f, impl_Range_43.f, impl_Range_43.l0, rd_T71, w0, w1, w2, w1, w2, g1, g1n, g2, g2n, g3, g3n, g7, g7n, g8, g8n, g9, g9n, g10, g10n, g13, g13n]⟩
                      · have g9n : ¬ (u) < (y.f1) := Int.not_lt.2 g9
                        have t0 : a < y.f0 := by omega
                        have t1 : ¬ y.f0 ≤ a := by omega
                        exact ⟨true, by simp [spec_MouthOk.j0, spec_MouthOk.l0, hu, rd_T71, w0, w1, w2, g1, g1n, g2, g2n, g3, g3n, g7, g7n, g8, g8n, g9, g9n, t0, t1], by simp [impl_rangesOk.f, impl_rangesOk.l0, impl_Range_66.f, impl_Range_43.f, impl_Range_43.l0, rd_T71, w0, w1, w2, w1, w2, g1, g1n, g2, g2n, g3, g3n, g7, g7n, g8, g8n, g9, g9n, t0, t1]⟩
                    · have g8n : ¬ (y.f0) < (y.f1) := Int.not_lt.2 g8
                      rcases ltge (a) (y.f0) with g15 | g15
                      · have g15n : ¬ (y.f0) ≤ (a) := Int.not_le.2 g15
                        rcases ltge (y.f0) (y.f1) with g16 | g16
                        · have g16n : ¬ (y.f1) ≤ (y.f0) := Int.not_le.2 g16
                          rcases ltge (u) (y.f1) with g17 | g17
                          · have g17n : ¬ (y.f1) ≤ (u) := Int.not_le.2 g17
                            exact ⟨false, by simp [spec_MouthOk.j0, spec_MouthOk.l0, hu, rd_T71, w0, w1, w2, g1, g1n, g2, g2n, g3, g3n, g7, g7n, g8, g8n, g15, g15n, g16, g16n, g17, g17n], by simp [impl_rangesOk.f, impl_rangesOk.l0, impl_Range_66.f, impl_Range_43.f, impl_Range_43.l0, rd_T71, w0, w1, w2, w1, w2, g1, g1n, g2, g2n, g3, g3n, g7, g7n, g8, g8n, g15, g15n, g16, g16n, g17, g17n]⟩
                          · have g17n : ¬ (u) < (y.f1) := Int.not_lt.2 g17
                            exact ⟨false, by simp [spec_MouthOk.j0, spec_MouthOk.l0, hu, rd_T71, w0, w1, w2, g1, g1n, g2, g2n, g3, g3n, g7, g7n, g8, g8n, g15, g15n, g16, g16n, g17, g17n], by simp [impl_rangesOk.f, impl_rangesOk.l0, impl_Range_66.f, impl_Range_43.f, impl_Range_43.l0, rd_T71, w0, w1, w2, w1, w2, g1, g1n, g2, g2n, g3, g3n, g7, g7n, g8, g8n, g15, g15n, g16, g16n, g17, g17n]⟩
                        · have g16n : ¬ (y.f0) < (y.f1) := Int.not_lt.2 g16
                          exact ⟨false, by simp [spec_MouthOk.j0, spec_MouthOk.l0, hu, rd_T71, w0, w1, w2, g1, g1n, g2, g2n, g3, g3n, g7, g7n, g8, g8n, g15, g15n, g16, g16n], by simp [impl_rangesOk.f, impl_rangesOk.l0, impl_Range_66.f, impl_Range_43.f, impl_Range_43.l0, rd_T71, w0, w1, w2, w1, w2, g1, g1n, g2, g2n, g3, g3n, g7, g7n, g8, g8n, g15, g15n, g16, g16n]⟩
                      · have g15n : ¬ (a) < (y.f0) := Int.not_lt.2 g15
                        rcases ltge (y.f0) (y.f1) with g18 | g18
                        · have g18n : ¬ (y.f1) ≤ (y.f0) := Int.not_le.2 g18
                          rcases ltge (u) (y.f1) with g19 | g19
                          · have g19n : ¬ (y.f1) ≤ (u) := Int.not_le.2 g19
                            exact ⟨false, by simp [spec_MouthOk.j0, spec_MouthOk.l0, hu, rd_T71, w0, w1, w2, g1, g1n, g2, g2n, g3, g3n, g7, g7n, g8, g8n, g15, g15n, g18, g18n, g19, g19n], by simp [impl_rangesOk.f, impl_rangesOk.l0, impl_Range_66.f, impl_Range_43.f, impl_Range_43.l0, rd_T71, w0, w1, w2, w1, w2, g1, g1n, g2, g2n, g3, g3n, g7, g7n, g8, g8n, g15, g15n, g18, g18n, g19, g19n]⟩
                          · have g19n : ¬ (u) < (y.f1) := Int.not_lt.2 g19
                            exact ⟨false, by simp [spec_MouthOk.j0, spec_MouthOk.l0, hu, rd_T71, w0, w1, w2, g1, g1n, g2, g2n, g3, g3n, g7, g7n, g8, g8n, g15, g15n, g18, g18n, g19, g19n], by simp [impl_rangesOk.f, impl_rangesOk.l0, impl_Range_66.f, impl_Range_43.f, impl_Range_43.l0, rd_T71, w0, w1, w2, w1, w2, g1, g1n, g2, g2n, g3, g3n, g7, g7n, g8, g8n, g15, g15n, g18, g18n, g19, g19n]⟩
                        · have g18n : ¬ (y.f0) < (y.f1) := Int.not_lt.2 g18
                          exact ⟨false, by simp [spec_MouthOk.j0, spec_MouthOk.l0, hu, rd_T71, w0, w1, w2, g1, g1n, g2, g2n, g3, g3n, g7, g7n, g8, g8n, g15, g15n, g18, g18n], by simp [impl_rangesOk.f, impl_rangesOk.l0, impl_Range_66.f, impl_Range_43.f, impl_Range_43.l0, rd_T71, w0, w1, w2, w1, w2, g1, g1n, g2, g2n, g3, g3n, g7, g7n, g8, g8n, g15, g15n, g18, g18n]⟩
                  · have g7n : ¬ (x.f1) < (y.f0) := Int.not_lt.2 g7
                    rcases ltge (a) (y.f0) with g20 | g20
                    · have g20n : ¬ (y.f0) ≤ (a) := Int.not_le.2 g20
                      rcases ltge (y.f0) (y.f1) with g21 | g21
                      · have g21n : ¬ (y.f1) ≤ (y.f0) := Int.not_le.2 g21
                        rcases ltge (u) (y.f1) with g22 | g22
                        · have g22n : ¬ (y.f1) ≤ (u) := Int.not_le.2 g22
                          exact ⟨false, by simp [spec_MouthOk.j0, spec_MouthOk.l0, hu, rd_T71, w0, w1, w2, g1, g1n, g2, g2n, g3, g3n, g7, g7n, g20, g20n, g21, g21n, g22, g22n], by simp [impl_rangesOk.f, impl_rangesOk.l0, impl_Range_66.f, impl_Range_43.f, impl_Range_43.l0, rd_T71, w0, w1, w2, w1, w2, g1, g1n, g2, g2n, g3, g3n, g7, g7n, g20, g20n, g21, g21n, g22, g22n]⟩
                        · have g22n : ¬ (u) < (y.f1) := Int.not_lt.2 g22
                          exact ⟨false, by simp [spec_MouthOk.j0, spec_MouthOk.l0, hu, rd_T71, w0, w1, w2, g1, g1n, g2, g2n, g3, g3n, g7, g7n, g20, g20n, g21, g21n, g22, g22n], by simp [impl_rangesOk.f, impl_rangesOk.l0, impl_Range_66.f, impl_Range_43.f, impl_Range_43.l0, rd_T71, w0, w1, w2, w1, w2, g1, g1n, g2, g2n, g3, g3n, g7, g7n, g20, g20n, g21, g21n, g22, g22n]⟩
                      · have g21n : ¬ (y.f0) < (y.f1) := Int.not_lt.2 g21
                        exact ⟨false, by simp [spec_MouthOk.j0, spec_MouthOk.l0, hu, rd_T71, w0, w1, w2, g1, g1n, g2, g2n, g3, g3n, g7, g7n, g20, g20n, g21, g21n], by simp [impl_rangesOk.f, impl_rangesOk.l0, impl_Range_66.f, impl_Range_43.f, impl_Range_43.l0, rd_T71, w0, w1, w2, w1, w2, g1, g1n, g2, g2n, g3, g3n, g7, g7n, g20, g20n, g21, g21n]⟩
                    · have g20n : ¬ (a) < (y.f0) := Int.not_lt.2 g20
                      rcases ltge (y.f0) (y.f1) with g23 | g23
                      · have g23n : ¬ (y.f1) ≤ (y.f0) := Int.not_le.2 g23
                        rcases ltge (u) (y.f1) with g24 | g24
                        · have g24n : ¬ (y.f1) ≤ (u) := Int.not_le.2 g24
                          exact ⟨false, by simp [spec_MouthOk.j0, spec_MouthOk.l0, hu, rd_T71, w0, w1, w2, g1, g1n, g2, g2n, g3, g3n, g7, g7n, g20, g20n, g23, g23n, g24, g24n], by simp [impl_rangesOk.f, impl_rangesOk.l0, impl_Range_66.f, impl_Range_43.f, impl_Range_43.l0, rd_T71, w0, w1, w2, w1, w2, g1, g1n, g2, g2n, g3, g3n, g7, g7n, g20, g20n, g23, g23n, g24, g24n]⟩
                        · have g24n : ¬ (u) < (y.f1) := Int.not_lt.2 g24
                          exact ⟨false, by simp [spec_MouthOk.j0, spec_MouthOk.l0, hu, rd_T71, w0, w1, w2, g1, g1n, g2, g2n, g3, g3n, g7, g7n, g20, g20n, g23, g23n, g24, g24n], by simp [impl_rangesOk.f, impl_rangesOk.l0, impl_Range_66.f, impl_Range_43.f, impl_Range_43.l0, rd_T71, w0, w1, w2, w1, w2, g1, g1n, g2, g2n, g3, g3n, g7, g7n, g20, g20n, g23, g23n, g24, g24n]⟩
                      · have g23n : ¬ (y.f0) < (y.f1) := Int.not_lt.2 g23
                        exact ⟨false, by simp [spec_MouthOk.j0, spec_MouthOk.l0, hu, rd_T71, w0, w1, w2, g1, g1n, g2, g2n, g3, g3n, g7, g7n, g20, g20n, g23, g23n], by simp [impl_rangesOk.f, impl_rangesOk.l0, impl_Range_66.f, impl_Range_43.f, impl_Range_43.l0, rd_T71, w0, w1, w2, w1, w2, g1, g1n, g2, g2n, g3, g3n, g7, g7n, g20, g20n, g23, g23n]⟩
              · have g2n : ¬ (x.f0) < (x.f1) := Int.not_lt.2 g2
                rcases ltge (a) (y.f0) with g25 | g25
                · have g25n : ¬ (y.f0) ≤ (a) := Int.not_le.2 g25
                  rcases ltge (y.f0) (y.f1) with g26 | g26
                  · have g26n : ¬ (y.f1) ≤ (y.f0) := Int.not_le.2 g26
                    rcases ltge (u) (y.f1) with g27 | g27
                    · have g27n : ¬ (y.f1) ≤ (u) := Int.not_le.2 g27
                      exact ⟨false, by simp [spec_MouthOk.j0, spec_MouthOk.l0, hu, rd_T71, w0, w1, w2, g1, g1n, g2, g2n, g25, g25n, g26, g26n, g27, g27n], by simp [impl_rangesOk.f, impl_rangesOk.l0, impl_Range_66.f, impl_Range_43.f, impl_Range_43.l0, rd_T71, w0, w1, w2, w1, w2, g1, g1n, g2, g2n, g25, g25n, g26, g26n, g27, g27n]⟩
                    · have g27n : ¬ (u) < (y.f1) := Int.not_lt.2 g27
                      exact ⟨false, by simp [spec_MouthOk.j0, spec_MouthOk.l0, hu, rd_T71, w0, w1, w2, g1, g1n, g2, g2n, g25, g25n, g26, g26n, g27, g27n], by simp [impl_rangesOk.f, impl_rangesOk.l0, impl_Range_66.f, impl_Range_43.f, impl_Range_43.l0, rd_T71, w0, w1, w2, w1, w2, g1, g1n, g2, g2n, g25, g25n, g26, g26n, g27, g27n]⟩
                  · have g26n : ¬ (y.f0) < (y.f1) := Int.not_lt.2 g26
                    exact ⟨false, by simp [spec_MouthOk.j0, spec_MouthOk.l0, hu, rd_T71, w0, w1, w2, g1, g1n, g2, g2n, g25, g25n, g26, g26n], by simp [impl_rangesOk.f, impl_rangesOk.l0, impl_Range_66.f, impl_Range_43.f, impl_Range_43.l0, rd_T71, w0, w1, w2, w1, w2, g1, g1n, g2, g2n, g25, g25n, g26, g26n]⟩
                · have g25n : ¬ (a) < (y.f0) := Int.not_lt.2 g25
                  exact ⟨false, by simp [spec_MouthOk.j0, spec_MouthOk.l0, hu, rd_T71, w0, w1, w2, g1, g1n, g2, g2n, g25, g25n], by simp [impl_rangesOk.f, impl_rangesOk.l0, impl_Range_66.f, impl_Range_43.f, impl_Range_43.l0, rd_T71, w0, w1, w2, w1, w2, g1, g1n, g2, g2n, g25, g25n]⟩
            · have g1n : ¬ (a) < (x.f0) := Int.not_lt.2 g1
              rcases ltge (a) (y.f0) with g28 | g28
              · have g28n : ¬ (y.f0) ≤ (a) := Int.not_le.2 g28
                rcases ltge (y.f0) (y.f1) with g29 | g29
                · have g29n : ¬ (y.f1) ≤ (y.f0) := Int.not_le.2 g29
                  rcases ltge (u) (y.f1) with g30 | g30
                  · have g30n : ¬ (y.f1) ≤ (u) := Int.not_le.2 g30
                    exact ⟨false, by simp [spec_MouthOk.j0, spec_MouthOk.l0, hu, rd_T71, w0, w1, w2, g1, g1n, g28, g28n, g29, g29n, g30, g30n], by simp [impl_rangesOk.f, impl_rangesOk.l0, impl_Range_66.f, impl_Range_43.f, impl_Range_43.l0, rd_T71, w0, w1, w2, w1, w2, g1, g1n, g28, g28n, g29, g29n, g30, g30n]⟩
                  · have g30n : ¬ (u) < (y.f1) := Int.not_lt.2 g30
                    exact ⟨false, by simp [spec_MouthOk.j0, spec_MouthOk.l0, hu, rd_T71, w0, w1, w2, g1, g1n, g28, g28n, g29, g29n, g30, g30n], by simp [impl_rangesOk.f, impl_rangesOk.l0, impl_Range_66.f, impl_Range_43.f, impl_Range_43.l0, rd_T71, w0, w1, w2, w1, w2, g1, g1n, g28, g28n, g29, g29n, g30, g30n]⟩
                · have g29n : ¬ (y.f0) < (y.f1) := Int.not_lt.2 g29
                  exact ⟨false, by simp [spec_MouthOk.j0, spec_MouthOk.l0, hu, rd_T71, w0, w1, w2, g1, g1n, g28, g28n, g29, g29n], by simp [impl_rangesOk.f, impl_rangesOk.l0, impl_Range_66.f, impl_Range_43.f, impl_Range_43.l0, rd_T71, w0, w1, w2, w1, w2, g1, g1n, g28, g28n, g29, g29n]⟩
              · have g28n : ¬ (a) < (y.f0) := Int.not_lt.2 g28
                exact ⟨false, by simp [spec_MouthOk.j0, spec_MouthOk.l0, hu, rd_T71, w0, w1, w2, g1, g1n, g28, g28n], by simp [impl_rangesOk.f, impl_rangesOk.l0, impl_Range_66.f, impl_Range_43.f, impl_Range_43.l0, rd_T71, w0, w1, w2, w1, w2, g1, g1n, g28, g28n]⟩
          | x :: y :: z :: r => exact ⟨false, by rw [decide_eq_true (by simp; omega)]; simp [spec_MouthOk.j0], by rw [if_neg (by simp; omega)]⟩
        · rw [decide_eq_false c4]
          exact ⟨false, by simp [spec_MouthOk.j0], by simp⟩
      · rw [decide_eq_false c3]
        exact ⟨false, by simp [spec_MouthOk.j0], by simp⟩
  · rw [decide_eq_false c1]
    exact ⟨false, by simp [spec_MouthOk.j0], by simp⟩
theorem main : GFnExactMouthOk.Stmt := by
  intro a l c d e _ hl _ _ he
  obtain ⟨hl, _⟩ := hl
  obtain ⟨he, _⟩ := he
  refine ⟨l.length + e.length + 10, ?_⟩
  simp only [laws_FnExactMouthOk.f, laws_szMouth.f, szBytes l 1048576 hl (by omega) (by omega), Option.bind_some]
  by_cases h : (1048576 : Int) < (l.length : Int)
  · rw [if_pos h]; simp
  · rw [if_neg h, if_neg (by omega), szRangeS e _ he (by omega) (by omega)]
    simp only [Option.bind_some]
    by_cases h' : 1048576 - (l.length : Int) < (e.length : Int)
    · rw [if_pos h']; simp
    · rw [if_neg h', if_neg (by omega)]
      simp only [Option.bind_some]
      rw [if_neg (by omega)]
      have hto : laws_toMouth.f (l.length + e.length + 10) a l c d e = some (a, l, c, d, e.map convRange) := by
        simp only [laws_toMouth.f, toBytes_le l (by omega) _ (show l.length < l.length + e.length + 10 by omega), toRangeS e (by omega) _ (show e.length < l.length + e.length + 10 by omega), Option.bind_some]
      obtain ⟨t, h1, h2⟩ := mouthOk_same a l c d (e.map convRange) (l.length + e.length + 4)
      have heq : laws_eqMouth.f (l.length + e.length + 10) a l c d (e.map convRange) a l c d (e.map convRange) = some true := by
        simp only [laws_eqMouth.f, if_true, eqBytes l l (by omega) _ (show l.length < l.length + e.length + 10 by omega), eqRangeS (e.map convRange) (by simp; omega) _ (show (e.map convRange).length < l.length + e.length + 10 by simp; omega), Option.bind_some, decide_true]
      simp only [hto, Option.bind_some, h1, h2, heq]
      simp
end FnExactMouthOk_
theorem FnExactMouthOk : GFnExactMouthOk.Stmt := FnExactMouthOk_.main
end Go.Proofs.Ytgfaamcihlojdad.Pure
