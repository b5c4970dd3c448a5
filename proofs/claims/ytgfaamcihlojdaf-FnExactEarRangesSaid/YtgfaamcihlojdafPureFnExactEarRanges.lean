/- The law FnExactEarRanges over numbers and lists: the program's EarRanges answers as the reference's, its answer is its own, and the ear stays as it was. No conditions but the kinds' ranges. -/
import Derived.Test.YtgfaamcihlojdafGFnExactEarRanges
namespace Go.Proofs.Ytgfaamcihlojdaf.Pure
open Go Go.RowKit Go.Proofs.Ytgfaamcihlojdaf.MFnExactEarRanges Go.Proofs.YtgfaamcihlojdafV.PrintWords Go.Proofs.YtgfaamcihlojdafV.PrintLast
set_option linter.unusedVariables false
set_option linter.unusedSimpArgs false
namespace FnExactEarRanges_
theorem i64_bounds {x : Int} (h : (Lit.int .i64 x).wf = true) : -9223372036854775808 ≤ x ∧ x ≤ 9223372036854775807 := by
  simpa [Lit.wf, IntKind.min, IntKind.max, IntKind.signed, IntKind.bits] using h
theorem inAll (x y z : Int) : spec_l1In.f x y z = some (decide (y ≤ x ∧ x ≤ z)) := by
  unfold spec_l1In.f
  by_cases h : x ≥ y
  · rw [if_pos h]; congr 1; simp only [decide_eq_decide]; omega
  · rw [if_neg h]; congr 1; symm; simp only [decide_eq_false_iff_not]; omega
theorem inAll' (x y z : Int) : impl_in.f x y z = some (decide (y ≤ x ∧ x ≤ z)) := inAll x y z
theorem wl {n m : Int} (h : n = m) (h0 : -9223372036854775808 ≤ m) (h1 : m ≤ 9223372036854775807) : wrap64 n = m := by
  subst h
  unfold wrap64
  omega
/-! ### copies, equality and sizes of rows of bytes -/
theorem wrap_id {n : Int} (h : -9223372036854775808 ≤ n) (h' : n ≤ 9223372036854775807) : wrap64 n = n := by
  unfold wrap64; omega
/-- A loop that fills a row, an element at a time, from the elements of another one. -/
theorem fills {α : Type} (n : Nat) (hn : n ≤ 281474976710656) (L : Nat → List α → Int → Option (List α)) (g : Nat → α)
    (h : ∀ k acc i, k < n + 1 → L (k + 1) acc i = if i < (n : Int) then (if 0 ≤ i then (if i < (acc.length : Int) then L k (acc.set i.toNat (g i.toNat)) (wrap64 (i + 1)) else none) else none) else some acc) :
    ∀ d k (i : Nat) (acc : List α), i + d = n → k = d + 1 → acc.length = n → (∀ j, j < i → acc[j]? = some (g j)) → ∃ r, L k acc (i : Int) = some r ∧ r.length = n ∧ ∀ j, j < n → r[j]? = some (g j) := by
  intro d
  induction d with
  | zero =>
    intro k i acc hi hk hl hp
    subst hk
    refine ⟨acc, ?_, hl, fun j hj => hp j (by omega)⟩
    rw [h _ _ _ (by omega), if_neg (by omega)]
  | succ d ih =>
    intro k i acc hi hk hl hp
    subst hk
    obtain ⟨r, hr, hrl, hrp⟩ := ih (d + 1) (i + 1) (acc.set i (g i)) (by omega) rfl (by simpa using hl) (fun j hj => by
      by_cases hji : j = i
      · subst hji
        simp [List.getElem?_set, hl]
        omega
      · rw [List.getElem?_set_ne (by omega)]
        exact hp j (by omega))
    refine ⟨r, ?_, hrl, hrp⟩
    rw [h _ _ _ (by omega), if_pos (by omega), if_pos (by omega), if_pos (by omega), wrap_id (by omega) (by omega)]
    simpa using hr
theorem rd_at (l : List Int) (i : Nat) (h : i < l.length) : l[i]? = some (rd l (i : Int)) := by
  unfold rd
  rw [List.getD_eq_getElem?_getD, Int.toNat_natCast, List.getElem?_eq_getElem h]
  rfl
theorem toBytes_exact (l : List Int) (hl : l.length ≤ 281474976710656) : laws_toByteS.f (l.length + 1) l = some l := by
  unfold laws_toByteS.f
  rw [if_pos (by omega), if_pos (by omega)]
  obtain ⟨r, hr, hrl, hrp⟩ := fills l.length hl (fun k acc i => laws_toByteS.l0 k l acc i) (fun i => rd l (i : Int)) (fun k acc i hk => by
    simp only [laws_toByteS.l0]
    by_cases hi : i < (l.length : Int)
    · rw [if_pos hi, if_pos hi]
      by_cases h0 : 0 ≤ i
      · rw [if_pos h0, if_pos h0]
        by_cases h1 : i < (acc.length : Int)
        · rw [if_pos h1, if_pos h1, show ((i.toNat : Nat) : Int) = i by omega]
        · rw [if_neg h1, if_neg h1]
      · rw [if_neg h0, if_neg h0]
    · rw [if_neg hi, if_neg hi]) l.length (l.length + 1) 0 (List.replicate l.length 0) (by omega) rfl (by simp) (fun j hj => by omega)
  rw [show (l.length : Int).toNat = l.length by omega]
  show laws_toByteS.l0 _ _ _ _ = _
  have hr' : laws_toByteS.l0 (l.length + 1) l (List.replicate l.length 0) 0 = some r := hr
  rw [hr']
  congr 1
  apply List.ext_getElem?
  intro j
  by_cases hj : j < l.length
  · rw [hrp j hj, rd_at l j hj]
  · rw [List.getElem?_eq_none (by omega), List.getElem?_eq_none (by omega)]
theorem toBytes_le (l : List Int) (hl : l.length ≤ 281474976710656) (k : Nat) (hk : l.length < k) : laws_toByteS.f k l = some l := by
  obtain ⟨d, rfl⟩ : ∃ d, k = l.length + 1 + d := ⟨k - (l.length + 1), by omega⟩
  induction d with
  | zero => exact toBytes_exact l hl
  | succ d ih => exact laws_toByteS.mono l _ _ (ih (by omega))
theorem szBytes (l : List Int) (a : Int) (hl : l.length ≤ maxLen) (ha : 0 ≤ a) (ha' : a ≤ 1048576) : laws_szByteS.f l a = some (if a < (l.length : Int) then -1 else a - (l.length : Int)) := by
  unfold laws_szByteS.f
  unfold maxLen at hl
  rw [wrap_id (by omega) (by omega)]
  by_cases h : a < (l.length : Int)
  · rw [if_pos (by omega), if_pos h]
  · rw [if_neg (by omega), if_neg h]
theorem eqBytes_loop (a b : List Int) (hl : a.length = b.length) (hb : a.length ≤ 281474976710656) : ∀ d k (i : Nat), i + d = a.length → d < k →
    laws_eqByteS.l0 k a b (i : Int) = some (decide (a.drop i = b.drop i)) := by
  intro d
  induction d with
  | zero =>
    intro k i hi hk
    obtain ⟨k, rfl⟩ : ∃ m, k = m + 1 := ⟨k - 1, by omega⟩
    simp only [laws_eqByteS.l0]
    rw [if_neg (by omega), List.drop_eq_nil_of_le (by omega), List.drop_eq_nil_of_le (by omega)]
    rfl
  | succ d ih =>
    intro k i hi hk
    obtain ⟨k, rfl⟩ : ∃ m, k = m + 1 := ⟨k - 1, by omega⟩
    simp only [laws_eqByteS.l0]
    rw [if_pos (by omega), if_pos (by omega), if_pos (by omega), wrap_id (by omega) (by omega)]
    have h1 := rd_at a i (by omega)
    have h2 := rd_at b i (by omega)
    have e1 : a.drop i = rd a (i : Int) :: a.drop (i + 1) := by
      rw [List.drop_eq_getElem_cons (by omega)]
      congr 1
      rw [List.getElem?_eq_getElem (by omega)] at h1
      exact Option.some.inj h1
    have e2 : b.drop i = rd b (i : Int) :: b.drop (i + 1) := by
      rw [List.drop_eq_getElem_cons (by omega)]
      congr 1
      rw [List.getElem?_eq_getElem (by omega)] at h2
      exact Option.some.inj h2
    have hr := ih k (i + 1) (by omega) (by omega)
    rw [e1, e2]
    by_cases he : rd a (i : Int) = rd b (i : Int)
    · rw [if_pos he, show ((i : Int) + 1) = ((i + 1 : Nat) : Int) by omega, hr, he]
      simp
    · rw [if_neg he]
      simp [he]
theorem eqBytes (a b : List Int) (hb : a.length ≤ 281474976710656) (k : Nat) (hk : a.length < k) : laws_eqByteS.f k a b = some (decide (a = b)) := by
  unfold laws_eqByteS.f
  by_cases h : a.length = b.length
  · rw [if_pos (by omega)]
    have := eqBytes_loop a b h hb a.length k 0 (by omega) hk
    simpa using this
  · rw [if_neg (by omega)]
    have : a ≠ b := fun e => h (by rw [e])
    simp [this]
/-! ### rows of structs: copied, compared -/
/-- A loop that turns a row into another one, an element at a time. -/
theorem turns {α : Type} (n : Nat) (hn : n ≤ 281474976710656) (K : Nat) (L : Nat → List α → Int → Option (List α)) (g : Nat → α)
    (h : ∀ k acc i, K ≤ k → acc.length = n → 0 ≤ i → i ≤ (n : Int) → L (k + 1) acc i = if i < (n : Int) then L k (acc.set i.toNat (g i.toNat)) (i + 1) else some acc) :
    ∀ d k (i : Nat) (acc : List α), i + d = n → K + d < k → acc.length = n → (∀ j, j < i → acc[j]? = some (g j)) → L k acc (i : Int) = some ((List.range n).map g) := by
  intro d
  induction d with
  | zero =>
    intro k i acc hi hk hl hp
    obtain ⟨k, rfl⟩ : ∃ m, k = m + 1 := ⟨k - 1, by omega⟩
    rw [h _ _ _ (by omega) hl (by omega) (by omega), if_neg (by omega)]
    congr 1
    apply List.ext_getElem?
    intro j
    by_cases hj : j < n
    · rw [hp j (by omega)]; simp [hj]
    · rw [List.getElem?_eq_none (by omega), List.getElem?_eq_none (by simp; omega)]
  | succ d ih =>
    intro k i acc hi hk hl hp
    obtain ⟨k, rfl⟩ : ∃ m, k = m + 1 := ⟨k - 1, by omega⟩
    rw [h _ _ _ (by omega) hl (by omega) (by omega), if_pos (by omega)]
    exact ih k (i + 1) _ (by omega) (by omega) (by simpa using hl) (fun j hj => by
      by_cases hji : j = i
      · subst hji
        simp [List.getElem?_set, hl]
        omega
      · simp only [Int.toNat_natCast]
        rw [List.getElem?_set_ne (by omega)]
        exact hp j (by omega))
theorem turns_map {α β : Type} (l : List β) (d : β) (f : β → α) : (List.range l.length).map (fun i => f (l.getD i d)) = l.map f := by
  apply List.ext_getElem?
  intro j
  by_cases hj : j < l.length
  · simp [hj]
  · rw [List.getElem?_eq_none (by simp; omega), List.getElem?_eq_none (by simp; omega)]
/-- A loop that compares two rows, an element at a time. -/
theorem equals {α : Type} (l : List α) (hn : l.length ≤ 281474976710656) (K : Nat) (L : Nat → Int → Option Bool)
    (h : ∀ k i, K ≤ k → 0 ≤ i → i ≤ (l.length : Int) → L (k + 1) i = if i < (l.length : Int) then L k (i + 1) else some true) :
    ∀ d k (i : Nat), i + d = l.length → K + d < k → L k (i : Int) = some true := by
  intro d
  induction d with
  | zero =>
    intro k i hi hk
    obtain ⟨k, rfl⟩ : ∃ m, k = m + 1 := ⟨k - 1, by omega⟩
    rw [h _ _ (by omega) (by omega) (by omega), if_neg (by omega)]
  | succ d ih =>
    intro k i hi hk
    obtain ⟨k, rfl⟩ : ∃ m, k = m + 1 := ⟨k - 1, by omega⟩
    rw [h _ _ (by omega) (by omega) (by omega), if_pos (by omega)]
    exact ih k (i + 1) (by omega) (by omega)

/-! ### rows of Early -/
def convEarly (x : S125) : S42 := ⟨x.f0, x.f1⟩
theorem toEarlyS (l : List S125) (hl : l.length ≤ 1048576) (k : Nat) (hk : l.length < k) : laws_toEarlyS.f k l = some (l.map convEarly) := by
  unfold laws_toEarlyS.f
  rw [if_pos (by omega), if_pos (by omega), ← turns_map l z125 convEarly]
  exact turns l.length (by omega) 0 (fun k acc i => laws_toEarlyS.l0 k l acc i) (fun i => convEarly (l.getD i z125)) (fun k acc i _ ha h0 h1 => by
    simp only [laws_toEarlyS.l0, laws_toEarly.f, Option.bind_some]
    by_cases hi : i < (l.length : Int)
    · rw [if_pos hi, if_pos hi, if_pos h0, if_pos (by omega), wrap_id (by omega) (by omega)]
      rfl
    · rw [if_neg hi, if_neg hi]) l.length k 0 _ (by omega) (by omega) (by simp) (fun j hj => by omega)
theorem szEarlyS (l : List S125) (a : Int) (hl : l.length ≤ maxLen) (ha : 0 ≤ a) (ha' : a ≤ 1048576) : laws_szEarlyS.f l a = some (if a < (l.length : Int) then -1 else a - (l.length : Int)) := by
  unfold laws_szEarlyS.f
  unfold maxLen at hl
  rw [wrap_id (by omega) (by omega)]
  by_cases h : a < (l.length : Int)
  · rw [if_pos (by omega), if_pos h]
  · rw [if_neg (by omega), if_neg h]
theorem eqEarlyS (l : List S42) (hl : l.length ≤ 1048576) (k : Nat) (hk : l.length < k) : laws_eqEarlyS.f k l l = some true := by
  unfold laws_eqEarlyS.f
  rw [if_pos rfl]
  exact equals l (by omega) 0 (fun k i => laws_eqEarlyS.l0 k l l i) (fun k i _ h0 h1 => by
    simp only [laws_eqEarlyS.l0, laws_eqEarly.f, if_true, Option.bind_some]
    by_cases hi : i < (l.length : Int)
    · rw [if_pos hi, if_pos hi, if_pos h0, if_pos hi, wrap_id (by omega) (by omega)]
    · rw [if_neg hi, if_neg hi]) l.length k 0 (by omega) (by omega)
/-! ### ears -/
theorem far_loops (nx rm : Int) (got : List Int) (far : List S42) (h0 : 0 ≤ nx) (h1 : nx ≤ 1000000) (r0 : 1 ≤ rm) (r1 : rm ≤ 32) (hg : (got.length : Int) ≤ rm) (hf : far.length ≤ 1048576)
    (hw : ∀ x ∈ far, -9223372036854775808 ≤ x.f0 ∧ x.f0 ≤ 9223372036854775807) :
    ∀ d k (i : Nat), i + d = far.length → d < k → ∃ t, spec_EarOk.l0 k (i : Int) nx rm got far = some t ∧ impl_EarOk.l0 k far (far.length : Int) (i : Int) nx rm got far = some t := by
  intro d
  induction d with
  | zero =>
    intro k i hi hk
    obtain ⟨k, rfl⟩ : ∃ m, k = m + 1 := ⟨k - 1, by omega⟩
    refine ⟨true, ?_, ?_⟩
    · rw [spec_EarOk.l0, if_neg (by omega)]
    · rw [impl_EarOk.l0, if_neg (by omega)]
  | succ d ih =>
    intro k i hi hk
    obtain ⟨k, rfl⟩ : ∃ m, k = m + 1 := ⟨k - 1, by omega⟩
    obtain ⟨t, ht1, ht2⟩ := ih k (i + 1) (by omega) (by omega)
    have hx : -9223372036854775808 ≤ (rd_T42 far (i : Int)).f0 ∧ (rd_T42 far (i : Int)).f0 ≤ 9223372036854775807 := by
      unfold rd_T42
      rw [List.getD_eq_getElem?_getD, Int.toNat_natCast, List.getElem?_eq_getElem (by omega)]
      exact hw _ (List.getElem_mem _)
    rw [spec_EarOk.l0, impl_EarOk.l0]
    simp only [impl_Ear_free.f, inAll', Option.bind_some]
    have g1 : (i : Int) < (far.length : Int) := by omega
    have g0 : 0 ≤ (i : Int) := by omega
    simp only [if_pos g1, if_pos g0]
    have e1 : wrap64 (nx + rm) = nx + rm := wrap_id (by omega) (by omega)
    have e2 : wrap64 (nx + rm - (got.length : Int)) = nx + rm - (got.length : Int) := wrap_id (by omega) (by omega)
    have e3 : wrap64 (rm - (got.length : Int)) = rm - (got.length : Int) := wrap_id (by omega) (by omega)
    have e4 : wrap64 (nx + 1) = nx + 1 := wrap_id (by omega) (by omega)
    have e5 : wrap64 (nx + (rm - (got.length : Int))) = nx + (rm - (got.length : Int)) := wrap_id (by omega) (by omega)
    have e6 : wrap64 (nx + (rm - (got.length : Int)) - 1) = nx + (rm - (got.length : Int)) - 1 := wrap_id (by omega) (by omega)
    have e7 : wrap64 ((i : Int) + 1) = ((i + 1 : Nat) : Int) := by rw [wrap_id (by omega) (by omega)]; omega
    rw [e1, e2, e3, e4, e5, e6, e7]
    clear e1 e2 e3 e4 e5 e6 e7
    generalize (rd_T42 far (i : Int)).f0 = a at hx
    clear hx hw
    by_cases c1 : a ≤ nx
    · refine ⟨false, by rw [if_pos c1], ?_⟩
      rw [decide_eq_false (by omega)]; rfl
    · rw [if_neg c1]
      by_cases c2 : a ≥ nx + rm - (got.length : Int)
      · refine ⟨false, by rw [if_pos c2], ?_⟩
        rw [decide_eq_false (by omega)]; rfl
      · rw [if_neg c2, decide_eq_true (by omega)]
        simp only [if_true]
        by_cases c3 : (i : Int) > 0
        · rw [if_pos c3, if_pos c3, wrap_id (n := (i : Int) - 1) (by omega) (by omega)]
          have g2 : 0 ≤ (i : Int) - 1 := by omega
          have g3 : (i : Int) - 1 < (far.length : Int) := by omega
          simp only [if_pos g2, if_pos g3]
          by_cases c4 : (rd_T42 far ((i : Int) - 1)).f0 ≥ a
          · rw [if_pos c4, if_pos c4]; exact ⟨false, rfl, rfl⟩
          · rw [if_neg c4, if_neg c4]; exact ⟨t, ht1, ht2⟩
        · rw [if_neg c3, if_neg c3]; exact ⟨t, ht1, ht2⟩
theorem earOk_same (nx rm : Int) (got : List Int) (far : List S42) (hg : got.length ≤ 1048576) (hf : far.length ≤ 1048576) (hr : -9223372036854775808 ≤ rm ∧ rm ≤ 9223372036854775807)
    (hw : ∀ x ∈ far, -9223372036854775808 ≤ x.f0 ∧ x.f0 ≤ 9223372036854775807) (k : Nat) (hk : far.length + 1 < k) :
    ∃ t, spec_EarOk.f k nx rm got far = some t ∧ impl_EarOk.f k nx rm got far = some t ∧ (t = true → (1 ≤ rm ∧ rm ≤ 32) ∧ (got.length : Int) ≤ rm) := by
  obtain ⟨k, rfl⟩ : ∃ m, k = m + 1 := ⟨k - 1, by omega⟩
  simp only [spec_EarOk.f, impl_EarOk.f, impl_Ear_free.f, inAll, inAll', Option.bind_some]
  by_cases c1 : 0 ≤ nx ∧ nx ≤ 1000000
  · rw [decide_eq_true c1]
    simp only [if_true]
    by_cases c2 : 1 ≤ rm ∧ rm ≤ 32
    · rw [decide_eq_true c2]
      simp only [if_true]
      rw [wrap_id (n := rm - (got.length : Int)) (by omega) (by omega)]
      by_cases c3 : (got.length : Int) > rm
      · rw [decide_eq_true c3, decide_eq_true (by omega)]
        exact ⟨false, by simp [spec_EarOk.j0], by simp [impl_EarOk.j0], by simp⟩
      · rw [decide_eq_false c3, decide_eq_false (by omega)]
        obtain ⟨t, h1, h2⟩ := far_loops nx rm got far c1.1 c1.2 c2.1 c2.2 (by omega) hf hw far.length k 0 (by omega) (by omega)
        exact ⟨t, by simpa [spec_EarOk.j0] using h1, by simpa [impl_EarOk.j0] using h2, fun _ => ⟨c2, by omega⟩⟩
    · rw [decide_eq_false c2]
      exact ⟨false, by simp [spec_EarOk.j0], by simp [impl_EarOk.j0], by simp⟩
  · rw [decide_eq_false c1]
    exact ⟨false, by simp [spec_EarOk.j0], by simp [impl_EarOk.j0], by simp⟩

/-! ### rows of Range -/
def convRange (x : S40) : S40 := ⟨x.f0, x.f1⟩
theorem eqRangeS (l : List S40) (hl : l.length ≤ 1048576) (k : Nat) (hk : l.length < k) : laws_eqRangeS.f k l l = some true := by
  unfold laws_eqRangeS.f
  rw [if_pos rfl]
  exact equals l (by omega) 0 (fun k i => laws_eqRangeS.l0 k l l i) (fun k i _ h0 h1 => by
    simp only [laws_eqRangeS.l0, laws_eqRange.f, if_true, Option.bind_some]
    by_cases hi : i < (l.length : Int)
    · rw [if_pos hi, if_pos hi, if_pos h0, if_pos hi, wrap_id (by omega) (by omega)]
    · rw [if_neg hi, if_neg hi]) l.length k 0 (by omega) (by omega)
/-! ### marks -/
theorem mark_loop (m : Int) (n : Nat) (hm : 0 ≤ m) (hb : m + n ≤ 1000000000) : ∀ d k (i : Nat) (acc : List Int), i + d = n → d < k → acc.length = n → (∀ j, j < i → acc[j]? = some ((m + j) % 256)) →
    ∃ r, laws_markByteS.l0 k acc (m + i) (i : Int) = some (m + n, r) ∧ r.length = n ∧ ∀ j, j < n → r[j]? = some ((m + j) % 256) := by
  intro d
  induction d with
  | zero =>
    intro k i acc hi hk hl hp
    obtain ⟨k, rfl⟩ : ∃ q, k = q + 1 := ⟨k - 1, by omega⟩
    refine ⟨acc, ?_, hl, fun j hj => hp j (by omega)⟩
    simp only [laws_markByteS.l0]
    rw [if_neg (by omega), show i = n by omega]
  | succ d ih =>
    intro k i acc hi hk hl hp
    obtain ⟨k, rfl⟩ : ∃ q, k = q + 1 := ⟨k - 1, by omega⟩
    obtain ⟨r, hr, hrl, hrp⟩ := ih k (i + 1) (acc.set i ((m + i) % 256)) (by omega) (by omega) (by simpa using hl) (fun j hj => by
      by_cases hji : j = i
      · subst hji
        simp [List.getElem?_set, hl]
        omega
      · rw [List.getElem?_set_ne (by omega)]
        exact hp j (by omega))
    refine ⟨r, ?_, hrl, hrp⟩
    simp only [laws_markByteS.l0]
    rw [if_pos (by omega), if_pos (by omega), wrap_id (by omega) (by omega), wrap_id (by omega) (by omega), Int.toNat_natCast]
    rw [show m + (i : Int) + 1 = m + ((i + 1 : Nat) : Int) by omega, show (i : Int) + 1 = ((i + 1 : Nat) : Int) by omega]
    exact hr
theorem markBytes0 (l : List Int) (m : Int) (hm : 0 ≤ m) (hb : m + l.length ≤ 1000000000) (k : Nat) (hk : l.length < k) :
    ∃ r, laws_markByteS.f k l m = some (m + l.length, r) := by
  obtain ⟨r, h1, _⟩ := mark_loop m l.length hm hb l.length k 0 l (by omega) hk rfl (fun j hj => by omega)
  rw [show m + ((0 : Nat) : Int) = m by omega] at h1
  exact ⟨r, h1⟩

/-! ### rows of Early, marked -/
theorem rdEarly_at (l : List S42) (i : Nat) (v : S42) (h : l[i]? = some v) : rd_T42 l (i : Int) = v := by
  unfold rd_T42
  rw [List.getD_eq_getElem?_getD, Int.toNat_natCast, h]
  rfl
theorem markEarly_loop (m : Int) (n : Nat) (hm : 0 ≤ m) (hb : m + 2 * n ≤ 1000000000) : ∀ d k (i : Nat) (acc : List S42), i + d = n → d < k → acc.length = n → (∀ j : Nat, j < i → acc[j]? = some ⟨m + 2 * (j : Int), (m + 2 * (j : Int) + 1) % 256⟩) →
    ∃ r, laws_markEarlyS.l0 k acc (m + 2 * i) (i : Int) = some (m + 2 * n, r) ∧ r.length = n ∧ ∀ j : Nat, j < n → r[j]? = some ⟨m + 2 * (j : Int), (m + 2 * (j : Int) + 1) % 256⟩ := by
  intro d
  induction d with
  | zero =>
    intro k i acc hi hk hl hp
    obtain ⟨k, rfl⟩ : ∃ q, k = q + 1 := ⟨k - 1, by omega⟩
    refine ⟨acc, ?_, hl, fun j hj => hp j (by omega)⟩
    simp only [laws_markEarlyS.l0]
    rw [if_neg (by omega), show i = n by omega]
  | succ d ih =>
    intro k i acc hi hk hl hp
    obtain ⟨k, rfl⟩ : ∃ q, k = q + 1 := ⟨k - 1, by omega⟩
    obtain ⟨r, hr, hrl, hrp⟩ := ih k (i + 1) (acc.set i ⟨m + 2 * (i : Int), (m + 2 * (i : Int) + 1) % 256⟩) (by omega) (by omega) (by simpa using hl) (fun j hj => by
      by_cases hji : j = i
      · subst hji
        simp [List.getElem?_set, hl]
        omega
      · rw [List.getElem?_set_ne (by omega)]
        exact hp j (by omega))
    refine ⟨r, ?_, hrl, hrp⟩
    simp only [laws_markEarlyS.l0, Option.bind_some]
    rw [if_pos (by omega), if_pos (by omega), Int.toNat_natCast, wrap_id (n := m + 2 * (i : Int) + 1) (by omega) (by omega), wrap_id (n := m + 2 * (i : Int) + 1 + 1) (by omega) (by omega), wrap_id (n := (i : Int) + 1) (by omega) (by omega)]
    rw [rdEarly_at (acc.set i _) i ⟨m + 2 * (i : Int), (rd_T42 acc (i : Int)).f1⟩ (by simp [List.getElem?_set, hl]; omega), List.set_set]
    rw [show m + 2 * (i : Int) + 1 + 1 = m + 2 * ((i + 1 : Nat) : Int) by omega, show (i : Int) + 1 = ((i + 1 : Nat) : Int) by omega]
    exact hr
theorem markEarlyS (l : List S42) (m : Int) (hm : 0 ≤ m) (hb : m + 2 * l.length ≤ 1000000000) (k : Nat) (hk : l.length < k) :
    ∃ r, laws_markEarlyS.f k l m = some (m + 2 * l.length, r) ∧ r.length = l.length := by
  obtain ⟨r, h1, h2, h3⟩ := markEarly_loop m l.length hm hb l.length k 0 l (by omega) hk rfl (fun j hj => by omega)
  have e : m + 2 * ((0 : Nat) : Int) = m := by omega
  rw [e] at h1
  exact ⟨r, h1, h2⟩

/-! ### rows of Range, marked -/
theorem rdRange_at (l : List S40) (i : Nat) (v : S40) (h : l[i]? = some v) : rd_T40 l (i : Int) = v := by
  unfold rd_T40
  rw [List.getD_eq_getElem?_getD, Int.toNat_natCast, h]
  rfl
theorem markRange_loop (m : Int) (n : Nat) (hm : 0 ≤ m) (hb : m + 2 * n ≤ 1000000000) : ∀ d k (i : Nat) (acc : List S40), i + d = n → d < k → acc.length = n → (∀ j : Nat, j < i → acc[j]? = some ⟨m + 2 * (j : Int), m + 2 * (j : Int) + 1⟩) →
    ∃ r, laws_markRangeS.l0 k acc (m + 2 * i) (i : Int) = some (m + 2 * n, r) ∧ r.length = n ∧ ∀ j : Nat, j < n → r[j]? = some ⟨m + 2 * (j : Int), m + 2 * (j : Int) + 1⟩ := by
  intro d
  induction d with
  | zero =>
    intro k i acc hi hk hl hp
    obtain ⟨k, rfl⟩ : ∃ q, k = q + 1 := ⟨k - 1, by omega⟩
    refine ⟨acc, ?_, hl, fun j hj => hp j (by omega)⟩
    simp only [laws_markRangeS.l0]
    rw [if_neg (by omega), show i = n by omega]
  | succ d ih =>
    intro k i acc hi hk hl hp
    obtain ⟨k, rfl⟩ : ∃ q, k = q + 1 := ⟨k - 1, by omega⟩
    obtain ⟨r, hr, hrl, hrp⟩ := ih k (i + 1) (acc.set i ⟨m + 2 * (i : Int), m + 2 * (i : Int) + 1⟩) (by omega) (by omega) (by simpa using hl) (fun j hj => by
      by_cases hji : j = i
      · subst hji
        simp [List.getElem?_set, hl]
        omega
      · rw [List.getElem?_set_ne (by omega)]
        exact hp j (by omega))
    refine ⟨r, ?_, hrl, hrp⟩
    simp only [laws_markRangeS.l0, Option.bind_some]
    rw [if_pos (by omega), if_pos (by omega), Int.toNat_natCast, wrap_id (n := m + 2 * (i : Int) + 1) (by omega) (by omega), wrap_id (n := m + 2 * (i : Int) + 1 + 1) (by omega) (by omega), wrap_id (n := (i : Int) + 1) (by omega) (by omega)]
    rw [rdRange_at (acc.set i _) i ⟨m + 2 * (i : Int), (rd_T40 acc (i : Int)).f1⟩ (by simp [List.getElem?_set, hl]; omega), List.set_set]
    rw [show m + 2 * (i : Int) + 1 + 1 = m + 2 * ((i + 1 : Nat) : Int) by omega, show (i : Int) + 1 = ((i + 1 : Nat) : Int) by omega]
    exact hr
theorem heldRange_loop (m : Int) (n : Nat) (hm : 0 ≤ m) (hb : m + 2 * n ≤ 1000000000) (r : List S40) (hl : r.length = n) (hp : ∀ j : Nat, j < n → r[j]? = some ⟨m + 2 * (j : Int), m + 2 * (j : Int) + 1⟩) : ∀ d k (i : Nat), i + d = n → d < k →
    laws_heldRangeS.l0 k r (m + 2 * i) (i : Int) = some (m + 2 * n) := by
  intro d
  induction d with
  | zero =>
    intro k i hi hk
    obtain ⟨k, rfl⟩ : ∃ q, k = q + 1 := ⟨k - 1, by omega⟩
    simp only [laws_heldRangeS.l0]
    rw [if_neg (by omega), show i = n by omega]
  | succ d ih =>
    intro k i hi hk
    obtain ⟨k, rfl⟩ : ∃ q, k = q + 1 := ⟨k - 1, by omega⟩
    simp only [laws_heldRangeS.l0]
    rw [rdRange_at r i _ (hp i (by omega))]
    rw [if_pos (by omega), if_pos (by omega), if_pos rfl, wrap_id (n := m + 2 * (i : Int) + 1) (by omega) (by omega), if_pos rfl, wrap_id (n := m + 2 * (i : Int) + 1 + 1) (by omega) (by omega), wrap_id (n := (i : Int) + 1) (by omega) (by omega)]
    rw [show m + 2 * (i : Int) + 1 + 1 = m + 2 * ((i + 1 : Nat) : Int) by omega, show (i : Int) + 1 = ((i + 1 : Nat) : Int) by omega]
    exact ih k (i + 1) (by omega) (by omega)
theorem markRangeS (l : List S40) (m : Int) (hm : 0 ≤ m) (hb : m + 2 * l.length ≤ 1000000000) (k : Nat) (hk : l.length < k) :
    ∃ r, laws_markRangeS.f k l m = some (m + 2 * l.length, r) ∧ r.length = l.length ∧ ∀ k', l.length < k' → laws_heldRangeS.f k' r m = some (m + 2 * l.length) := by
  obtain ⟨r, h1, h2, h3⟩ := markRange_loop m l.length hm hb l.length k 0 l (by omega) hk rfl (fun j hj => by omega)
  have e : m + 2 * ((0 : Nat) : Int) = m := by omega
  rw [e] at h1
  refine ⟨r, h1, h2, fun k' hk' => ?_⟩
  have := heldRange_loop m l.length hm hb r h2 h3 l.length k' 0 (by omega) hk'
  rw [e] at this
  exact this
/-! ### ranges of early bytes -/
def At (far : List S42) (i : Nat) : Int := (rd_T42 far (i : Int)).f0
/-- What an ear that is ok has in order. -/
def Rising (nx top : Int) (far : List S42) : Prop := (∀ i, i < far.length → nx < At far i ∧ At far i < top) ∧ ∀ i, i + 1 < far.length → At far i < At far (i + 1)
theorem ear_rising_loop (nx rm : Int) (got : List Int) (far : List S42) (h0 : 0 ≤ nx) (h1 : nx ≤ 1000000) (r0 : 1 ≤ rm) (r1 : rm ≤ 32) (hg : (got.length : Int) ≤ rm) (hf : far.length ≤ 1048576) :
    ∀ d k (i : Nat), i + d = far.length → d < k → spec_EarOk.l0 k (i : Int) nx rm got far = some true →
      (∀ j, i ≤ j → j < far.length → nx < At far j ∧ At far j < nx + rm - got.length) ∧ ∀ j, i ≤ j + 1 → j + 1 < far.length → At far j < At far (j + 1) := by
  intro d
  induction d with
  | zero =>
    intro k i hi hk _
    exact ⟨fun j hj hj' => by omega, fun j hj hj' => by omega⟩
  | succ d ih =>
    intro k i hi hk h
    obtain ⟨k, rfl⟩ : ∃ m, k = m + 1 := ⟨k - 1, by omega⟩
    rw [spec_EarOk.l0] at h
    have g1 : (i : Int) < (far.length : Int) := by omega
    have g0 : 0 ≤ (i : Int) := by omega
    have e1 : wrap64 (nx + rm) = nx + rm := wrap_id (by omega) (by omega)
    have e2 : wrap64 (nx + rm - (got.length : Int)) = nx + rm - (got.length : Int) := wrap_id (by omega) (by omega)
    have e7 : wrap64 ((i : Int) + 1) = ((i + 1 : Nat) : Int) := by rw [wrap_id (by omega) (by omega)]; omega
    simp only [if_pos g1, if_pos g0, e1, e2, e7] at h
    by_cases c1 : (rd_T42 far (i : Int)).f0 ≤ nx
    · rw [if_pos c1] at h; simp at h
    · rw [if_neg c1] at h
      by_cases c2 : (rd_T42 far (i : Int)).f0 ≥ nx + rm - (got.length : Int)
      · rw [if_pos c2] at h; simp at h
      · rw [if_neg c2] at h
        have hi' : nx < At far i ∧ At far i < nx + rm - got.length := by unfold At; omega
        by_cases c3 : (i : Int) > 0
        · rw [if_pos c3, wrap_id (n := (i : Int) - 1) (by omega) (by omega), if_pos (by omega), if_pos (by omega)] at h
          by_cases c4 : (rd_T42 far ((i : Int) - 1)).f0 ≥ (rd_T42 far (i : Int)).f0
          · rw [if_pos c4] at h; simp at h
          · rw [if_neg c4] at h
            obtain ⟨a1, a2⟩ := ih k (i + 1) (by omega) (by omega) h
            refine ⟨fun j hj hj' => ?_, fun j hj hj' => ?_⟩
            · by_cases e : j = i
              · subst e; exact hi'
              · exact a1 j (by omega) hj'
            · by_cases e : j + 1 = i
              · subst e
                unfold At
                rw [show ((j + 1 : Nat) : Int) - 1 = (j : Int) by omega] at c4
                omega
              · exact a2 j (by omega) hj'
        · rw [if_neg c3] at h
          obtain ⟨a1, a2⟩ := ih k (i + 1) (by omega) (by omega) h
          refine ⟨fun j hj hj' => ?_, fun j hj hj' => a2 j (by omega) hj'⟩
          by_cases e : j = i
          · subst e; exact hi'
          · exact a1 j (by omega) hj'
theorem ear_rising (nx rm : Int) (got : List Int) (far : List S42) (hf : far.length ≤ 1048576) (k : Nat) (hk : far.length + 1 < k) (h : spec_EarOk.f k nx rm got far = some true) : 0 ≤ nx ∧ nx ≤ 1000000 ∧ Rising nx (nx + 32) far := by
  obtain ⟨k, rfl⟩ : ∃ m, k = m + 1 := ⟨k - 1, by omega⟩
  simp only [spec_EarOk.f, inAll, Option.bind_some] at h
  by_cases c1 : 0 ≤ nx ∧ nx ≤ 1000000
  · rw [decide_eq_true c1] at h
    simp only [if_true] at h
    by_cases c2 : 1 ≤ rm ∧ rm ≤ 32
    · rw [decide_eq_true c2] at h
      simp only [if_true] at h
      by_cases c3 : (got.length : Int) > rm
      · rw [decide_eq_true c3] at h; simp [spec_EarOk.j0] at h
      · rw [decide_eq_false c3] at h
        have h' : spec_EarOk.l0 k 0 nx rm got far = some true := by simpa [spec_EarOk.j0] using h
        obtain ⟨a1, a2⟩ := ear_rising_loop nx rm got far c1.1 c1.2 c2.1 c2.2 (by omega) hf far.length k 0 (by omega) (by omega) h'
        refine ⟨c1.1, c1.2, fun j hj => ?_, fun j hj => a2 j (by omega) hj⟩
        have := a1 j (by omega) hj
        omega
    · rw [decide_eq_false c2] at h; simp [spec_EarOk.j0] at h
  · rw [decide_eq_false c1] at h; simp [spec_EarOk.j0] at h
/-- One more place told: what the program does with its ranges, however many. -/
def more (xs : List S40) (a : Int) : List S40 := match xs.reverse with
  | [] => [⟨a, a + 1⟩]
  | x :: r => if x.f1 = a then (⟨x.f0, a + 1⟩ :: r).reverse else xs ++ [⟨a, a + 1⟩]
theorem last_rd (xs : List S40) (y : S40) : rd_T40 (xs ++ [y]) (((xs ++ [y]).length : Int) - 1) = y := by
  unfold rd_T40
  rw [List.getD_eq_getElem?_getD]
  have : (((xs ++ [y]).length : Int) - 1).toNat = xs.length := by simp
  rw [this]
  simp
theorem last_set (xs : List S40) (y z : S40) : (xs ++ [y]).set (((xs ++ [y]).length : Int) - 1).toNat z = xs ++ [z] := by
  have : (((xs ++ [y]).length : Int) - 1).toNat = xs.length := by simp
  rw [this]
  simp
theorem more_nil (a : Int) : more [] a = [⟨a, a + 1⟩] := rfl
theorem more_snoc (xs : List S40) (y : S40) (a : Int) : more (xs ++ [y]) a = if y.f1 = a then xs ++ [⟨y.f0, a + 1⟩] else xs ++ [y] ++ [⟨a, a + 1⟩] := by
  unfold more
  rw [List.reverse_append]
  simp
/-- The program's ranges behind the first i places. -/
def told (far : List S42) : Nat → List S40
  | 0 => []
  | i + 1 => more (told far i) (At far i)
theorem told_len (far : List S42) (i : Nat) : (told far i).length ≤ i := by
  induction i with
  | zero => simp [told]
  | succ i ih =>
    simp only [told]
    rcases List.eq_nil_or_concat (told far i) with h | ⟨xs, y, h⟩
    · rw [h, more_nil]; simp
    · rw [List.concat_eq_append] at h
      rw [h, more_snoc]
      rw [h] at ih
      simp at ih
      split <;> simp <;> omega
theorem impl_loop (nx : Int) (far : List S42) (h0 : 0 ≤ nx) (h1 : nx ≤ 1000000) (hr : Rising nx (nx + 32) far) (hf : far.length ≤ 1048576) : ∀ d k (i : Nat), i + d = far.length → d < k →
    impl_Ear_ranges.l0 k (told far i) far (far.length : Int) (i : Int) = some ((told far far.length).take 2) := by
  intro d
  induction d with
  | zero =>
    intro k i hi hk
    obtain ⟨k, rfl⟩ : ∃ m, k = m + 1 := ⟨k - 1, by omega⟩
    obtain rfl : i = far.length := by omega
    have hl := told_len far far.length
    simp only [impl_Ear_ranges.l0]
    have hmn : ∀ x : Int, mn x 2 = if x ≤ 2 then x else 2 := fun x => by unfold mn; split <;> split <;> omega
    have hm : 0 ≤ mn ((told far far.length).length : Int) 2 ∧ mn ((told far far.length).length : Int) 2 ≤ ((told far far.length).length : Int) := by rw [hmn]; split <;> omega
    have ht : (told far far.length).take (mn ((told far far.length).length : Int) 2).toNat = (told far far.length).take 2 := by
      rw [hmn]
      split
      · have q1 : (told far far.length).take ((told far far.length).length : Int).toNat = told far far.length := List.take_of_length_le (by omega)
        have q2 : (told far far.length).take 2 = told far far.length := List.take_of_length_le (by omega)
        rw [q1, q2]
      · rfl
    rw [if_neg (by omega), if_pos hm.1, if_pos hm.2, ht]
    simp only [impl_Range_96.f]
    rw [if_pos (by simp; omega)]
    rfl
  | succ d ih =>
    intro k i hi hk
    obtain ⟨k, rfl⟩ : ∃ m, k = m + 1 := ⟨k - 1, by omega⟩
    have ha := hr.1 i (by omega)
    have hn := ih k (i + 1) (by omega) (by omega)
    have hl := told_len far i
    rw [told] at hn
    rw [impl_Ear_ranges.l0, if_pos (by omega), if_pos (by omega), if_pos (by omega)]
    have e7 : wrap64 ((i : Int) + 1) = ((i + 1 : Nat) : Int) := by rw [wrap_id (by omega) (by omega)]; omega
    have e8 : (rd_T42 far (i : Int)).f0 = At far i := rfl
    rw [e7, e8, wrap_id (n := At far i + 1) (by omega) (by omega)]
    rcases List.eq_nil_or_concat (told far i) with h | ⟨xs, y, h⟩
    · rw [h, more_nil] at hn
      rw [h, if_neg (by simp), if_pos (by simp)]
      exact hn
    · rw [List.concat_eq_append] at h
      rw [h] at hl
      rw [h, more_snoc] at hn
      rw [h, wrap_id (n := ((xs ++ [y]).length : Int) - 1) (by omega) (by omega), last_rd, last_set]
      rw [if_pos (by simp), if_pos (by simp), if_pos (by omega)]
      by_cases c : y.f1 = At far i
      · rw [if_pos c, c, wrap_id (n := At far i + 1) (by omega) (by omega)]
        rw [if_pos c] at hn
        exact hn
      · rw [if_neg c, if_pos (by omega)]
        rw [if_neg c] at hn
        exact hn
theorem told_inv (nx : Int) (far : List S42) (hr : Rising nx (nx + 32) far) : ∀ i, i < far.length → ∃ xs y, told far (i + 1) = xs ++ [y] ∧ y.f1 = At far i + 1 ∧ ∀ x, xs[1]? = some x → x.f1 ≤ At far i := by
  intro i
  induction i with
  | zero => intro _; exact ⟨[], ⟨At far 0, At far 0 + 1⟩, rfl, rfl, fun x hx => by simp at hx⟩
  | succ i ih =>
    intro hi
    obtain ⟨xs, y, h1, h2, h3⟩ := ih (by omega)
    have hlt := hr.2 i (by omega)
    have e : told far (i + 1 + 1) = more (told far (i + 1)) (At far (i + 1)) := rfl
    rw [h1, more_snoc] at e
    by_cases c : y.f1 = At far (i + 1)
    · rw [if_pos c] at e
      exact ⟨xs, _, e, rfl, fun x hx => by have := h3 x hx; omega⟩
    · rw [if_neg c] at e
      refine ⟨xs ++ [y], _, e, rfl, fun x hx => ?_⟩
      by_cases hl : 1 < xs.length
      · rw [List.getElem?_append_left hl] at hx
        have := h3 x hx
        omega
      · rw [List.getElem?_append_right (by omega)] at hx
        have : x = y := by
          have h0 : 1 - xs.length = 0 ∨ 1 - xs.length = 1 := by omega
          rcases h0 with h0 | h0 <;> rw [h0] at hx <;> simp at hx
          exact hx.symm
        subst this
        omega
theorem step0 (k : Nat) (far : List S42) (i i' a a0 a1 : Int) (got : List Int) (g0 : 0 ≤ i) (g1 : i < (far.length : Int)) (ha : (rd_T42 far i).f0 = a) (ea : wrap64 (a + 1) = a + 1) (ei : wrap64 (i + 1) = i') :
    spec_EarRanges.l0 (k + 2) [] i a0 a1 got far = spec_EarRanges.l0 k [⟨a, a + 1⟩] i' a0 a1 got far := by
  have wm : wrap64 (-1) = -1 := wl rfl (by decide) (by decide)
  rw [spec_EarRanges.l0, if_pos g1]
  simp only [List.length_nil, show ((0 : Nat) : Int) - 1 = -1 from rfl, wm]
  rw [if_neg (by decide), spec_EarRanges.j1, if_neg (by decide), if_pos (by decide), if_pos g0, if_pos g1, if_pos (by decide), ha, ea, ei]
  rfl
theorem step1 (k : Nat) (far : List S42) (y : S40) (i i' a a0 a1 : Int) (got : List Int) (g0 : 0 ≤ i) (g1 : i < (far.length : Int)) (ha : (rd_T42 far i).f0 = a) (ea : wrap64 (a + 1) = a + 1) (ei : wrap64 (i + 1) = i') :
    spec_EarRanges.l0 (k + 2) [y] i a0 a1 got far = spec_EarRanges.l0 k (if y.f1 = a then [⟨y.f0, a + 1⟩] else [y, ⟨a, a + 1⟩]) i' a0 a1 got far := by
  have w0 : wrap64 0 = 0 := wl rfl (by decide) (by decide)
  have hr1 : rd_T40 [y] 0 = y := rfl
  rw [spec_EarRanges.l0, if_pos g1]
  simp only [List.length_singleton, show ((1 : Nat) : Int) - 1 = 0 from rfl, w0, hr1, ha]
  rw [if_pos (by decide), if_pos (by decide), if_pos (by decide), if_pos g0, spec_EarRanges.j1]
  by_cases c : y.f1 = a
  · rw [if_pos c, if_pos (by simp [c]), if_pos (by decide), if_pos (by simp), hr1, c, ea, ei]
    rfl
  · rw [if_neg c, if_neg (by simp [c]), if_pos (by simp), if_pos g0, if_pos g1, if_pos (by simp), ha, ea, ei]
    rfl
theorem step2 (k : Nat) (far : List S42) (x y : S40) (i i' a a0 a1 : Int) (got : List Int) (g0 : 0 ≤ i) (g1 : i < (far.length : Int)) (ha : (rd_T42 far i).f0 = a) (ea : wrap64 (a + 1) = a + 1) (ei : wrap64 (i + 1) = i') :
    spec_EarRanges.l0 (k + 2) [x, y] i a0 a1 got far = spec_EarRanges.l0 k (if y.f1 = a then [x, ⟨y.f0, a + 1⟩] else [x, y]) i' a0 a1 got far := by
  have w1 : wrap64 1 = 1 := wl rfl (by decide) (by decide)
  have hr1 : rd_T40 [x, y] 1 = y := rfl
  rw [spec_EarRanges.l0, if_pos g1]
  simp only [List.length_cons, List.length_nil, show ((0 + 1 + 1 : Nat) : Int) - 1 = 1 from rfl, w1, hr1, ha]
  rw [if_pos (by decide), if_pos (by decide), if_pos (by decide), if_pos g0, spec_EarRanges.j1]
  by_cases c : y.f1 = a
  · rw [if_pos c, if_pos (by simp [c]), if_pos (by decide), if_pos (by simp), hr1, c, ea, ei]
    rfl
  · rw [if_neg c, if_neg (by simp [c]), if_neg (by simp), ei]
theorem spec_step (nx : Int) (far : List S42) (h0 : 0 ≤ nx) (h1 : nx ≤ 1000000) (hr : Rising nx (nx + 32) far) (hf : far.length ≤ 1048576) (i : Nat) (hi : i < far.length) (k : Nat) (a0 a1 : Int) (got : List Int) :
    spec_EarRanges.l0 (k + 2) ((told far i).take 2) (i : Int) a0 a1 got far = spec_EarRanges.l0 k ((told far (i + 1)).take 2) ((i + 1 : Nat) : Int) a0 a1 got far := by
  have ha := hr.1 i hi
  have e7 : wrap64 ((i : Int) + 1) = ((i + 1 : Nat) : Int) := by rw [wrap_id (by omega) (by omega)]; omega
  have e8 : (rd_T42 far (i : Int)).f0 = At far i := rfl
  have e9 : wrap64 (At far i + 1) = At far i + 1 := wrap_id (by omega) (by omega)
  have g0 : 0 ≤ (i : Int) := by omega
  have g1 : (i : Int) < (far.length : Int) := by omega
  have e : told far (i + 1) = more (told far i) (At far i) := rfl
  rw [e]
  cases i with
  | zero => exact step0 k far _ _ _ a0 a1 got g0 g1 e8 e9 e7
  | succ i =>
    obtain ⟨xs, y, t1, t2, t3⟩ := told_inv nx far hr i (Nat.lt_of_succ_lt hi)
    have hlt := hr.2 i hi
    rw [t1, more_snoc]
    match xs, t3 with
    | [], _ =>
      show spec_EarRanges.l0 (k + 2) [y] _ a0 a1 got far = _
      rw [step1 k far y _ _ _ a0 a1 got g0 g1 e8 e9 e7]
      split <;> rfl
    | [x], _ =>
      show spec_EarRanges.l0 (k + 2) [x, y] _ a0 a1 got far = _
      rw [step2 k far x y _ _ _ a0 a1 got g0 g1 e8 e9 e7]
      split <;> rfl
    | x :: x2 :: r, t3 =>
      have h2 := t3 x2 rfl
      show spec_EarRanges.l0 (k + 2) [x, x2] _ a0 a1 got far = _
      rw [step2 k far x x2 _ _ _ a0 a1 got g0 g1 e8 e9 e7, if_neg (by omega)]
      split <;> rfl
theorem spec_loop (nx : Int) (far : List S42) (h0 : 0 ≤ nx) (h1 : nx ≤ 1000000) (hr : Rising nx (nx + 32) far) (hf : far.length ≤ 1048576) (a0 a1 : Int) (got : List Int) : ∀ d k (i : Nat), i + d = far.length → 2 * d < k →
    spec_EarRanges.l0 k ((told far i).take 2) (i : Int) a0 a1 got far = some ((told far far.length).take 2) := by
  intro d
  induction d with
  | zero =>
    intro k i hi hk
    obtain ⟨k, rfl⟩ : ∃ m, k = m + 1 := ⟨k - 1, by omega⟩
    obtain rfl : i = far.length := by omega
    rw [spec_EarRanges.l0, if_neg (by omega)]
  | succ d ih =>
    intro k i hi hk
    obtain ⟨k, rfl⟩ : ∃ m, k = m + 2 := ⟨k - 2, by omega⟩
    rw [spec_step nx far h0 h1 hr hf i (by omega)]
    exact ih k (i + 1) (by omega) (by omega)
theorem ranges_same (nx rm : Int) (got : List Int) (far : List S42) (hg : got.length ≤ 1048576) (hf : far.length ≤ 1048576) (hr : -9223372036854775808 ≤ rm ∧ rm ≤ 9223372036854775807)
    (hw : ∀ x ∈ far, -9223372036854775808 ≤ x.f0 ∧ x.f0 ≤ 9223372036854775807) :
    ∃ Y, Y.length ≤ 2 ∧ ∀ k, 2 * far.length + 2 < k → spec_EarRanges.f k nx rm got far = some Y ∧ impl_EarRanges.f k nx rm got far = some Y := by
  obtain ⟨t, s1, s2, _⟩ := earOk_same nx rm got far hg hf hr hw (far.length + 2) (by omega)
  have hsame : ∀ k, 2 * far.length + 2 < k → spec_EarOk.f k nx rm got far = some t ∧ impl_EarOk.f k nx rm got far = some t := by
    intro k hk
    obtain ⟨t', s1', s2', _⟩ := earOk_same nx rm got far hg hf hr hw k (by omega)
    obtain ⟨d, rfl⟩ : ∃ d, k = far.length + 2 + d := ⟨k - (far.length + 2), by omega⟩
    have : spec_EarOk.f (far.length + 2 + d) nx rm got far = some t := by
      clear s1' s2' hk
      induction d with
      | zero => exact s1
      | succ d ih => exact spec_EarOk.mono nx rm got far _ _ ih
    rw [this] at s1'
    obtain rfl := Option.some.inj s1'
    exact ⟨this, s2'⟩
  cases t with
  | false =>
    refine ⟨[], by simp, fun k hk => ?_⟩
    obtain ⟨u1, u2⟩ := hsame k hk
    simp [spec_EarRanges.f, impl_EarRanges.f, u1, u2]
  | true =>
    obtain ⟨n0, n1, hri⟩ := ear_rising nx rm got far hf (far.length + 2) (by omega) s1
    refine ⟨(told far far.length).take 2, by simp; omega, fun k hk => ?_⟩
    obtain ⟨u1, u2⟩ := hsame k hk
    have q1 := spec_loop nx far n0 n1 hri hf nx rm got far.length k 0 (by omega) (by omega)
    have q2 := impl_loop nx far n0 n1 hri hf far.length k 0 (by omega) (by omega)
    simp only [spec_EarRanges.f, impl_EarRanges.f, impl_Ear_ranges.f, u1, u2, Option.bind_some, if_true]
    exact ⟨q1, by rw [show impl_Ear_ranges.l0 k [] far (far.length : Int) 0 = _ from q2]; rfl⟩
theorem main : GFnExactEarRanges.Stmt := by
  intro nx rm got far _ hr hg hf
  obtain ⟨hg, _⟩ := hg
  obtain ⟨hf, hfw⟩ := hf
  have hr := i64_bounds hr
  refine ⟨got.length + 2 * far.length + 2000, ?_⟩
  simp only [laws_FnExactEarRanges.f, laws_szEar.f, szBytes got 1048576 hg (by omega) (by omega), Option.bind_some]
  by_cases h : (1048576 : Int) < (got.length : Int)
  · rw [if_pos h]; simp
  · rw [if_neg h, if_neg (by omega), szEarlyS far _ hf (by omega) (by omega)]
    simp only [Option.bind_some]
    by_cases h' : 1048576 - (got.length : Int) < (far.length : Int)
    · rw [if_pos h']; simp
    · rw [if_neg h', if_neg (by omega)]
      simp only [Option.bind_some]
      rw [if_neg (by omega)]
      have hto : ∀ k, got.length + far.length < k → laws_toEar.f k nx rm got far = some (nx, rm, got, far.map convEarly) := fun k hk => by
        simp only [laws_toEar.f, toBytes_le got (by omega) k (by omega), toEarlyS far (by omega) k (by omega), Option.bind_some]
      obtain ⟨Y, hY, hsame⟩ := ranges_same nx rm got (far.map convEarly) (by omega) (by simp; omega) hr (fun x hx => by
        obtain ⟨y, hy, rfl⟩ := List.mem_map.1 hx
        exact i64_bounds (hfw y hy).1)
      rw [List.length_map] at hsame
      have heq : laws_eqEar.f (got.length + 2 * far.length + 2000) nx rm got (far.map convEarly) nx rm got (far.map convEarly) = some true := by
        simp only [laws_eqEar.f, if_true, eqBytes got got (by omega) _ (show got.length < got.length + 2 * far.length + 2000 by omega), eqEarlyS (far.map convEarly) (by simp; omega) _ (show (far.map convEarly).length < got.length + 2 * far.length + 2000 by simp; omega), Option.bind_some, decide_true]
      have hyy : ∀ k, 2 < k → laws_eqRangeS.f k Y Y = some true := fun k hk => eqRangeS Y (by omega) k (by omega)
      obtain ⟨r0, m0⟩ := markBytes0 got 1 (by omega) (by omega) (got.length + 2 * far.length + 2000) (by omega)
      obtain ⟨r1, m1, _⟩ := markEarlyS (far.map convEarly) (1 + got.length) (by omega) (by simp; omega) (got.length + 2 * far.length + 2000) (by simp; omega)
      obtain ⟨r2, m2, _, e2⟩ := markRangeS Y 1 (by omega) (by omega) (got.length + 2 * far.length + 1999) (by omega)
      rw [List.length_map] at m1
      have hj : laws_FnExactEarRanges.j0 (got.length + 2 * far.length + 2000) Y Y false nx rm got far = some true := by
        simp only [laws_FnExactEarRanges.j0]
        simp only [Bool.false_eq_true, if_false, m2, Option.bind_some, e2 (got.length + 2 * far.length + 1999) (by omega), hto (got.length + 2 * far.length + 1999) (by omega), (hsame (got.length + 2 * far.length + 1999) (by omega)).2, hyy (got.length + 2 * far.length + 1999) (by omega), if_true]
        rw [if_neg (by omega), if_neg (by omega)]
      simp only [hto (got.length + 2 * far.length + 2000) (by omega), Option.bind_some, (hsame (got.length + 2 * far.length + 2000) (by omega)).1, (hsame (got.length + 2 * far.length + 2000) (by omega)).2, hyy (got.length + 2 * far.length + 2000) (by omega), if_true, heq, laws_markEar.f, m0, m1, Bool.not_true, hj]
      rw [if_neg (by omega)]
end FnExactEarRanges_
theorem FnExactEarRanges : GFnExactEarRanges.Stmt := FnExactEarRanges_.main
end Go.Proofs.Ytgfaamcihlojdaf.Pure
