/- The law FnExactEarFree over numbers and lists: the program's EarFree answers as the reference's, and the ear stays as it was. No conditions but the kinds' ranges. -/
import Derived.Test.YtgfaamcihlojdacGFnExactEarFree
namespace Go.Proofs.Ytgfaamcihlojdac.Pure
open Go Go.RowKit Go.Proofs.Ytgfaamcihlojdac.PFnExactEarFree Go.Proofs.YtgfaamcihlojdacW.PrintWords Go.Proofs.YtgfaamcihlojdacW.PrintLast
set_option linter.unusedVariables false
set_option linter.unusedSimpArgs false
namespace FnExactEarFree_
/-! ### copies, equality and sizes of rows of bytes -/
theorem wrap_id {n : Int} (h : -9223372036854775808 ≤ n) (h' : n ≤ 9223372036854775807) : wrap64 n = n := by
  unfold wrap64; omega
/-- A loop that fills a row, an element at a time, from the elements of another one. -/
theorem fills {α : Type} (n : Nat) (hn : n ≤ 281474976710656) (L : Nat → List α → Int → Option (List α)) (g : Nat → α)
    (h : ∀ k acc i, k < n + 1 → L (k + 1) acc i = if i < (n : Int) then (if 0 ≤ i then (if i < (acc.length : Int) then L k (acc.set i.toNat (g i.toNat)) (wrap64 (i + 1)) else none) else none) else some acc) :
    ∀ d k (i : Nat) (acc : List α), i + d = n → k = d + 1 → acc.length = n → (∀ j, j < i → acc[j]? = some (g j)) → ∃ r, L k acc (i : Int) = some r ∧ r.length = n ∧ ∀ j, j < n → r[j]? = some (g j) := by
  intro d
  induction d with
  | zero =>
    intro k i acc hi hk hl hp
    subst hk
    refine ⟨acc, ?_, hl, fun j hj => hp j (by omega)⟩
    rw [h _ _ _ (by omega), if_neg (by omega)]
  | succ d ih =>
    intro k i acc hi hk hl hp
    subst hk
    obtain ⟨r, hr, hrl, hrp⟩ := ih (d + 1) (i + 1) (acc.set i (g i)) (by omega) rfl (by simpa using hl) (fun j hj => by
      by_cases hji : j = i
      · subst hji
        simp [List.getElem?_set, hl]
        omega
      · rw [List.getElem?_set_ne (by omega)]
        exact hp j (by omega))
    refine ⟨r, ?_, hrl, hrp⟩
    rw [h _ _ _ (by omega), if_pos (by omega), if_pos (by omega), if_pos (by omega), wrap_id (by omega) (by omega)]
    simpa using hr
theorem rd_at (l : List Int) (i : Nat) (h : i < l.length) : l[i]? = some (rd l (i : Int)) := by
  unfold rd
  rw [List.getD_eq_getElem?_getD, Int.toNat_natCast, List.getElem?_eq_getElem h]
  rfl
theorem toBytes_exact (l : List Int) (hl : l.length ≤ 281474976710656) : laws_toByteS.f (l.length + 1) l = some l := by
  unfold laws_toByteS.f
  rw [if_pos (by omega), if_pos (by omega)]
  obtain ⟨r, hr, hrl, hrp⟩ := fills l.length hl (fun k acc i => laws_toByteS.l0 k l acc i) (fun i => rd l (i : Int)) (fun k acc i hk => by
    simp only [laws_toByteS.l0]
    by_cases hi : i < (l.length : Int)
    · rw [if_pos hi, if_pos hi]
      by_cases h0 : 0 ≤ i
      · rw [if_pos h0, if_pos h0]
        by_cases h1 : i < (acc.length : Int)
        · rw [if_pos h1, if_pos h1, show ((i.toNat : Nat) : Int) = i by omega]
        · rw [if_neg h1, if_neg h1]
      · rw [if_neg h0, if_neg h0]
    · rw [if_neg hi, if_neg hi]) l.length (l.length + 1) 0 (List.replicate l.length 0) (by omega) rfl (by simp) (fun j hj => by omega)
  rw [show (l.length : Int).toNat = l.length by omega]
  show laws_toByteS.l0 _ _ _ _ = _
  have hr' : laws_toByteS.l0 (l.length + 1) l (List.replicate l.length 0) 0 = some r := hr
  rw [hr']
  congr 1
  apply List.ext_getElem?
  intro j
  by_cases hj : j < l.length
  · rw [hrp j hj, rd_at l j hj]
  · rw [List.getElem?_eq_none (by omega), List.getElem?_eq_none (by omega)]
theorem toBytes_le (l : List Int) (hl : l.length ≤ 281474976710656) (k : Nat) (hk : l.length < k) : laws_toByteS.f k l = some l := by
  obtain ⟨d, rfl⟩ : ∃ d, k = l.length + 1 + d := ⟨k - (l.length + 1), by omega⟩
  induction d with
  | zero => exact toBytes_exact l hl
  | succ d ih => exact laws_toByteS.mono l _ _ (ih (by omega))
theorem szBytes (l : List Int) (a : Int) (hl : l.length ≤ maxLen) (ha : 0 ≤ a) (ha' : a ≤ 1048576) : laws_szByteS.f l a = some (if a < (l.length : Int) then -1 else a - (l.length : Int)) := by
  unfold laws_szByteS.f
  unfold maxLen at hl
  rw [wrap_id (by omega) (by omega)]
  by_cases h : a < (l.length : Int)
  · rw [if_pos (by omega), if_pos h]
  · rw [if_neg (by omega), if_neg h]
theorem eqBytes_loop (a b : List Int) (hl : a.length = b.length) (hb : a.length ≤ 281474976710656) : ∀ d k (i : Nat), i + d = a.length → d < k →
    laws_eqByteS.l0 k a b (i : Int) = some (decide (a.drop i = b.drop i)) := by
  intro d
  induction d with
  | zero =>
    intro k i hi hk
    obtain ⟨k, rfl⟩ : ∃ m, k = m + 1 := ⟨k - 1, by omega⟩
    simp only [laws_eqByteS.l0]
    rw [if_neg (by omega), List.drop_eq_nil_of_le (by omega), List.drop_eq_nil_of_le (by omega)]
    rfl
  | succ d ih =>
    intro k i hi hk
    obtain ⟨k, rfl⟩ : ∃ m, k = m + 1 := ⟨k - 1, by omega⟩
    simp only [laws_eqByteS.l0]
    rw [if_pos (by omega), if_pos (by omega), if_pos (by omega), wrap_id (by omega) (by omega)]
    have h1 := rd_at a i (by omega)
    have h2 := rd_at b i (by omega)
    have e1 : a.drop i = rd a (i : Int) :: a.drop (i + 1) := by
      rw [List.drop_eq_getElem_cons (by omega)]
      congr 1
      rw [List.getElem?_eq_getElem (by omega)] at h1
      exact Option.some.inj h1
    have e2 : b.drop i = rd b (i : Int) :: b.drop (i + 1) := by
      rw [List.drop_eq_getElem_cons (by omega)]
      congr 1
      rw [List.getElem?_eq_getElem (by omega)] at h2
      exact Option.some.inj h2
    have hr := ih k (i + 1) (by omega) (by omega)
    rw [e1, e2]
    by_cases he : rd a (i : Int) = rd b (i : Int)
    · rw [if_pos he, show ((i : Int) + 1) = ((i + 1 : Nat) : Int) by omega, hr, he]
      simp
    · rw [if_neg he]
      simp [he]
theorem eqBytes (a b : List Int) (hb : a.length ≤ 281474976710656) (k : Nat) (hk : a.length < k) : laws_eqByteS.f k a b = some (decide (a = b)) := by
  unfold laws_eqByteS.f
  by_cases h : a.length = b.length
  · rw [if_pos (by omega)]
    have := eqBytes_loop a b h hb a.length k 0 (by omega) hk
    simpa using this
  · rw [if_neg (by omega)]
    have : a ≠ b := fun e => h (by rw [e])
    simp [this]
/-! ### rows of structs: copied, compared -/
/-- A loop that turns a row into another one, an element at a time. -/
theorem turns {α : Type} (n : Nat) (hn : n ≤ 281474976710656) (K : Nat) (L : Nat → List α → Int → Option (List α)) (g : Nat → α)
    (h : ∀ k acc i, K ≤ k → acc.length = n → 0 ≤ i → i ≤ (n : Int) → L (k + 1) acc i = if i < (n : Int) then L k (acc.set i.toNat (g i.toNat)) (i + 1) else some acc) :
    ∀ d k (i : Nat) (acc : List α), i + d = n → K + d < k → acc.length = n → (∀ j, j < i → acc[j]? = some (g j)) → L k acc (i : Int) = some ((List.range n).map g) := by
  intro d
  induction d with
  | zero =>
    intro k i acc hi hk hl hp
    obtain ⟨k, rfl⟩ : ∃ m, k = m + 1 := ⟨k - 1, by omega⟩
    rw [h _ _ _ (by omega) hl (by omega) (by omega), if_neg (by omega)]
    congr 1
    apply List.ext_getElem?
    intro j
    by_cases hj : j < n
    · rw [hp j (by omega)]; simp [hj]
    · rw [List.getElem?_eq_none (by omega), List.getElem?_eq_none (by simp; omega)]
  | succ d ih =>
    intro k i acc hi hk hl hp
    obtain ⟨k, rfl⟩ : ∃ m, k = m + 1 := ⟨k - 1, by omega⟩
    rw [h _ _ _ (by omega) hl (by omega) (by omega), if_pos (by omega)]
    exact ih k (i + 1) _ (by omega) (by omega) (by simpa using hl) (fun j hj => by
      by_cases hji : j = i
      · subst hji
        simp [List.getElem?_set, hl]
        omega
      · simp only [Int.toNat_natCast]
        rw [List.getElem?_set_ne (by omega)]
        exact hp j (by omega))
theorem turns_map {α β : Type} (l : List β) (d : β) (f : β → α) : (List.range l.length).map (fun i => f (l.getD i d)) = l.map f := by
  apply List.ext_getElem?
  intro j
  by_cases hj : j < l.length
  · simp [hj]
  · rw [List.getElem?_eq_none (by simp; omega), List.getElem?_eq_none (by simp; omega)]
/-- A loop that compares two rows, an element at a time. -/
theorem equals {α : Type} (l : List α) (hn : l.length ≤ 281474976710656) (K : Nat) (L : Nat → Int → Option Bool)
    (h : ∀ k i, K ≤ k → 0 ≤ i → i ≤ (l.length : Int) → L (k + 1) i = if i < (l.length : Int) then L k (i + 1) else some true) :
    ∀ d k (i : Nat), i + d = l.length → K + d < k → L k (i : Int) = some true := by
  intro d
  induction d with
  | zero =>
    intro k i hi hk
    obtain ⟨k, rfl⟩ : ∃ m, k = m + 1 := ⟨k - 1, by omega⟩
    rw [h _ _ (by omega) (by omega) (by omega), if_neg (by omega)]
  | succ d ih =>
    intro k i hi hk
    obtain ⟨k, rfl⟩ : ∃ m, k = m + 1 := ⟨k - 1, by omega⟩
    rw [h _ _ (by omega) (by omega) (by omega), if_pos (by omega)]
    exact ih k (i + 1) (by omega) (by omega)

/-! ### rows of Early -/
def convEarly (x : S123) : S83 := ⟨x.f0, x.f1⟩
theorem toEarlyS (l : List S123) (hl : l.length ≤ 1048576) (k : Nat) (hk : l.length < k) : laws_toEarlyS.f k l = some (l.map convEarly) := by
  unfold laws_toEarlyS.f
  rw [if_pos (by omega), if_pos (by omega), ← turns_map l z123 convEarly]
  exact turns l.length (by omega) 0 (fun k acc i => laws_toEarlyS.l0 k l acc i) (fun i => convEarly (l.getD i z123)) (fun k acc i _ ha h0 h1 => by
    simp only [laws_toEarlyS.l0, laws_toEarly.f, Option.bind_some]
    by_cases hi : i < (l.length : Int)
    · rw [if_pos hi, if_pos hi, if_pos h0, if_pos (by omega), wrap_id (by omega) (by omega)]
      rfl
    · rw [if_neg hi, if_neg hi]) l.length k 0 _ (by omega) (by omega) (by simp) (fun j hj => by omega)
theorem szEarlyS (l : List S123) (a : Int) (hl : l.length ≤ maxLen) (ha : 0 ≤ a) (ha' : a ≤ 1048576) : laws_szEarlyS.f l a = some (if a < (l.length : Int) then -1 else a - (l.length : Int)) := by
  unfold laws_szEarlyS.f
  unfold maxLen at hl
  rw [wrap_id (by omega) (by omega)]
  by_cases h : a < (l.length : Int)
  · rw [if_pos (by omega), if_pos h]
  · rw [if_neg (by omega), if_neg h]
theorem eqEarlyS (l : List S83) (hl : l.length ≤ 1048576) (k : Nat) (hk : l.length < k) : laws_eqEarlyS.f k l l = some true := by
  unfold laws_eqEarlyS.f
  rw [if_pos rfl]
  exact equals l (by omega) 0 (fun k i => laws_eqEarlyS.l0 k l l i) (fun k i _ h0 h1 => by
    simp only [laws_eqEarlyS.l0, laws_eqEarly.f, if_true, Option.bind_some]
    by_cases hi : i < (l.length : Int)
    · rw [if_pos hi, if_pos hi, if_pos h0, if_pos hi, wrap_id (by omega) (by omega)]
    · rw [if_neg hi, if_neg hi]) l.length k 0 (by omega) (by omega)
theorem inAll (x y z : Int) : spec_l1In.f x y z = some (decide (y ≤ x ∧ x ≤ z)) := by
  unfold spec_l1In.f
  by_cases h : x ≥ y
  · rw [if_pos h]; congr 1; simp only [decide_eq_decide]; omega
  · rw [if_neg h]; congr 1; symm; simp only [decide_eq_false_iff_not]; omega
theorem inAll' (x y z : Int) : impl_in.f x y z = some (decide (y ≤ x ∧ x ≤ z)) := inAll x y z
theorem i64_bounds {x : Int} (h : (Lit.int .i64 x).wf = true) : -9223372036854775808 ≤ x ∧ x ≤ 9223372036854775807 := by
  simpa [Lit.wf, IntKind.min, IntKind.max, IntKind.signed, IntKind.bits] using h
/-! ### ears -/
theorem far_loops (nx rm : Int) (got : List Int) (far : List S83) (h0 : 0 ≤ nx) (h1 : nx ≤ 1000000) (r0 : 1 ≤ rm) (r1 : rm ≤ 32) (hg : (got.length : Int) ≤ rm) (hf : far.length ≤ 1048576)
    (hw : ∀ x ∈ far, -9223372036854775808 ≤ x.f0 ∧ x.f0 ≤ 9223372036854775807) :
    ∀ d k (i : Nat), i + d = far.length → d < k → ∃ t, spec_EarOk.l0 k (i : Int) nx rm got far = some t ∧ impl_EarOk.l0 k far (far.length : Int) (i : Int) nx rm got far = some t := by
  intro d
  induction d with
  | zero =>
    intro k i hi hk
    obtain ⟨k, rfl⟩ : ∃ m, k = m + 1 := ⟨k - 1, by omega⟩
    refine ⟨true, ?_, ?_⟩
    · rw [spec_EarOk.l0, if_neg (by omega)]
    · rw [impl_EarOk.l0, if_neg (by omega)]
  | succ d ih =>
    intro k i hi hk
    obtain ⟨k, rfl⟩ : ∃ m, k = m + 1 := ⟨k - 1, by omega⟩
    obtain ⟨t, ht1, ht2⟩ := ih k (i + 1) (by omega) (by omega)
    have hx : -9223372036854775808 ≤ (rd_T83 far (i : Int)).f0 ∧ (rd_T83 far (i : Int)).f0 ≤ 9223372036854775807 := by
      unfold rd_T83
      rw [List.getD_eq_getElem?_getD, Int.toNat_natCast, List.getElem?_eq_getElem (by omega)]
      exact hw _ (List.getElem_mem _)
    rw [spec_EarOk.l0, impl_EarOk.l0]
    simp only [impl_Ear_free.f, inAll', Option.bind_some]
    have g1 : (i : Int) < (far.length : Int) := by omega
    have g0 : 0 ≤ (i : Int) := by omega
    simp only [if_pos g1, if_pos g0]
    have e1 : wrap64 (nx + rm) = nx + rm := wrap_id (by omega) (by omega)
    have e2 : wrap64 (nx + rm - (got.length : Int)) = nx + rm - (got.length : Int) := wrap_id (by omega) (by omega)
    have e3 : wrap64 (rm - (got.length : Int)) = rm - (got.length : Int) := wrap_id (by omega) (by omega)
    have e4 : wrap64 (nx + 1) = nx + 1 := wrap_id (by omega) (by omega)
    have e5 : wrap64 (nx + (rm - (got.length : Int))) = nx + (rm - (got.length : Int)) := wrap_id (by omega) (by omega)
    have e6 : wrap64 (nx + (rm - (got.length : Int)) - 1) = nx + (rm - (got.length : Int)) - 1 := wrap_id (by omega) (by omega)
    have e7 : wrap64 ((i : Int) + 1) = ((i + 1 : Nat) : Int) := by rw [wrap_id (by omega) (by omega)]; omega
    rw [e1, e2, e3, e4, e5, e6, e7]
    clear e1 e2 e3 e4 e5 e6 e7
    generalize (rd_T83 far (i : Int)).f0 = a at hx
    clear hx hw
    by_cases c1 : a ≤ nx
    · refine ⟨false, by rw [if_pos c1], ?_⟩
      rw [decide_eq_false (by omega)]; rfl
    · rw [if_neg c1]
      by_cases c2 : a ≥ nx + rm - (got.length : Int)
      · refine ⟨false, by rw [if_pos c2], ?_⟩
        rw [decide_eq_false (by omega)]; rfl
      · rw [if_neg c2, decide_eq_true (by omega)]
        simp only [if_true]
        by_cases c3 : (i : Int) > 0
        · rw [if_pos c3, if_pos c3, wrap_id (n := (i : Int) - 1) (by omega) (by omega)]
          have g2 : 0 ≤ (i : Int) - 1 := by omega
          have g3 : (i : Int) - 1 < (far.length : Int) := by omega
          simp only [if_pos g2, if_pos g3]
          by_cases c4 : (rd_T83 far ((i : Int) - 1)).f0 ≥ a
          · rw [if_pos c4, if_pos c4]; exact ⟨false, rfl, rfl⟩
          · rw [if_neg c4, if_neg c4]; exact ⟨t, ht1, ht2⟩
        · rw [if_neg c3, if_neg c3]; exact ⟨t, ht1, ht2⟩
theorem earOk_same (nx rm : Int) (got : List Int) (far : List S83) (hg : got.length ≤ 1048576) (hf : far.length ≤ 1048576) (hr : -9223372036854775808 ≤ rm ∧ rm ≤ 9223372036854775807)
    (hw : ∀ x ∈ far, -9223372036854775808 ≤ x.f0 ∧ x.f0 ≤ 9223372036854775807) (k : Nat) (hk : far.length + 1 < k) :
    ∃ t, spec_EarOk.f k nx rm got far = some t ∧ impl_EarOk.f k nx rm got far = some t ∧ (t = true → (1 ≤ rm ∧ rm ≤ 32) ∧ (got.length : Int) ≤ rm) := by
  obtain ⟨k, rfl⟩ : ∃ m, k = m + 1 := ⟨k - 1, by omega⟩
  simp only [spec_EarOk.f, impl_EarOk.f, impl_Ear_free.f, inAll, inAll', Option.bind_some]
  by_cases c1 : 0 ≤ nx ∧ nx ≤ 1000000
  · rw [decide_eq_true c1]
    simp only [if_true]
    by_cases c2 : 1 ≤ rm ∧ rm ≤ 32
    · rw [decide_eq_true c2]
      simp only [if_true]
      rw [wrap_id (n := rm - (got.length : Int)) (by omega) (by omega)]
      by_cases c3 : (got.length : Int) > rm
      · rw [decide_eq_true c3, decide_eq_true (by omega)]
        exact ⟨false, by simp [spec_EarOk.j0], by simp [impl_EarOk.j0], by simp⟩
      · rw [decide_eq_false c3, decide_eq_false (by omega)]
        obtain ⟨t, h1, h2⟩ := far_loops nx rm got far c1.1 c1.2 c2.1 c2.2 (by omega) hf hw far.length k 0 (by omega) (by omega)
        exact ⟨t, by simpa [spec_EarOk.j0] using h1, by simpa [impl_EarOk.j0] using h2, fun _ => ⟨c2, by omega⟩⟩
    · rw [decide_eq_false c2]
      exact ⟨false, by simp [spec_EarOk.j0], by simp [impl_EarOk.j0], by simp⟩
  · rw [decide_eq_false c1]
    exact ⟨false, by simp [spec_EarOk.j0], by simp [impl_EarOk.j0], by simp⟩
theorem main : GFnExactEarFree.Stmt := by
  intro nx rm got far _ hr hg hf
  obtain ⟨hg, _⟩ := hg
  obtain ⟨hf, hfw⟩ := hf
  have hr := i64_bounds hr
  refine ⟨got.length + far.length + 10, ?_⟩
  simp only [laws_FnExactEarFree.f, laws_szEar.f, szBytes got 1048576 hg (by omega) (by omega), Option.bind_some]
  by_cases h : (1048576 : Int) < (got.length : Int)
  · rw [if_pos h]; simp
  · rw [if_neg h, if_neg (by omega), szEarlyS far _ hf (by omega) (by omega)]
    simp only [Option.bind_some]
    by_cases h' : 1048576 - (got.length : Int) < (far.length : Int)
    · rw [if_pos h']; simp
    · rw [if_neg h', if_neg (by omega)]
      simp only [Option.bind_some]
      rw [if_neg (by omega)]
      have hto : laws_toEar.f (got.length + far.length + 10) nx rm got far = some (nx, rm, got, far.map convEarly) := by
        simp only [laws_toEar.f, toBytes_le got (by omega) _ (show got.length < got.length + far.length + 10 by omega), toEarlyS far (by omega) _ (show far.length < got.length + far.length + 10 by omega), Option.bind_some]
      obtain ⟨t, h1, h2, h3⟩ := earOk_same nx rm got (far.map convEarly) (by omega) (by simp; omega) hr (fun x hx => by
        obtain ⟨y, hy, rfl⟩ := List.mem_map.1 hx
        exact i64_bounds (hfw y hy).1) (got.length + far.length + 10) (by simp; omega)
      have heq : laws_eqEar.f (got.length + far.length + 10) nx rm got (far.map convEarly) nx rm got (far.map convEarly) = some true := by
        simp only [laws_eqEar.f, if_true, eqBytes got got (by omega) _ (show got.length < got.length + far.length + 10 by omega), eqEarlyS (far.map convEarly) (by simp; omega) _ (show (far.map convEarly).length < got.length + far.length + 10 by simp; omega), Option.bind_some, decide_true]
      have hs : ∃ v, spec_EarFree.f (got.length + far.length + 10) nx rm got (far.map convEarly) = some v ∧ impl_EarFree.f (got.length + far.length + 10) nx rm got (far.map convEarly) = some v := by
        simp only [spec_EarFree.f, impl_EarFree.f, impl_Ear_free.f, h1, h2, Option.bind_some]
        cases t
        · exact ⟨0, by simp, by simp⟩
        · exact ⟨_, by rw [if_pos rfl], by rw [if_pos rfl]⟩
      obtain ⟨v, hv1, hv2⟩ := hs
      simp only [hto, Option.bind_some, hv1, hv2, heq]
      simp
end FnExactEarFree_
theorem FnExactEarFree : GFnExactEarFree.Stmt := FnExactEarFree_.main
end Go.Proofs.Ytgfaamcihlojdac.Pure
