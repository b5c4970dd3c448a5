/- The law FnExactStationOk over numbers and lists: the program's StationOk answers as the reference's, and the station stays as it was. No conditions but the kinds' ranges. -/
import Derived.Test.YtgfaamcihlojdacGFnExactStationOk
namespace Go.Proofs.Ytgfaamcihlojdac.Pure
open Go Go.RowKit Go.Proofs.Ytgfaamcihlojdac.PFnExactStationOk Go.Proofs.YtgfaamcihlojdacW.PrintWords Go.Proofs.YtgfaamcihlojdacW.PrintLast
set_option linter.unusedVariables false
set_option linter.unusedSimpArgs false
namespace FnExactStationOk_
/-! ### copies, equality and sizes of rows of bytes -/
theorem wrap_id {n : Int} (h : -9223372036854775808 ≤ n) (h' : n ≤ 9223372036854775807) : wrap64 n = n := by
  unfold wrap64; omega
/-- A loop that fills a row, an element at a time, from the elements of another one. -/
theorem fills {α : Type} (n : Nat) (hn : n ≤ 281474976710656) (L : Nat → List α → Int → Option (List α)) (g : Nat → α)
    (h : ∀ k acc i, k < n + 1 → L (k + 1) acc i = if i < (n : Int) then (if 0 ≤ i then (if i < (acc.length : Int) then L k (acc.set i.toNat (g i.toNat)) (wrap64 (i + 1)) else none) else none) else some acc) :
    ∀ d k (i : Nat) (acc : List α), i + d = n → k = d + 1 → acc.length = n → (∀ j, j < i → acc[j]? = some (g j)) → ∃ r, L k acc (i : Int) = some r ∧ r.length = n ∧ ∀ j, j < n → r[j]? = some (g j) := by
  intro d
  induction d with
  | zero =>
    intro k i acc hi hk hl hp
    subst hk
    refine ⟨acc, ?_, hl, fun j hj => hp j (by omega)⟩
    rw [h _ _ _ (by omega), if_neg (by omega)]
  | succ d ih =>
    intro k i acc hi hk hl hp
    subst hk
    obtain ⟨r, hr, hrl, hrp⟩ := ih (d + 1) (i + 1) (acc.set i (g i)) (by omega) rfl (by simpa using hl) (fun j hj => by
      by_cases hji : j = i
      · subst hji
        simp [List.getElem?_set, hl]
        omega
      · rw [List.getElem?_set_ne (by omega)]
        exact hp j (by omega))
    refine ⟨r, ?_, hrl, hrp⟩
    rw [h _ _ _ (by omega), if_pos (by omega), if_pos (by omega), if_pos (by omega), wrap_id (by omega) (by omega)]
    simpa using hr
theorem rd_at (l : List Int) (i : Nat) (h : i < l.length) : l[i]? = some (rd l (i : Int)) := by
  unfold rd
  rw [List.getD_eq_getElem?_getD, Int.toNat_natCast, List.getElem?_eq_getElem h]
  rfl
/-! ### rows of structs: copied, compared -/
/-- A loop that turns a row into another one, an element at a time. -/
theorem turns {α : Type} (n : Nat) (hn : n ≤ 281474976710656) (K : Nat) (L : Nat → List α → Int → Option (List α)) (g : Nat → α)
    (h : ∀ k acc i, K ≤ k → acc.length = n → 0 ≤ i → i ≤ (n : Int) → L (k + 1) acc i = if i < (n : Int) then L k (acc.set i.toNat (g i.toNat)) (i + 1) else some acc) :
    ∀ d k (i : Nat) (acc : List α), i + d = n → K + d < k → acc.length = n → (∀ j, j < i → acc[j]? = some (g j)) → L k acc (i : Int) = some ((List.range n).map g) := by
  intro d
  induction d with
  | zero =>
    intro k i acc hi hk hl hp
    obtain ⟨k, rfl⟩ : ∃ m, k = m + 1 := ⟨k - 1, by omega⟩
    rw [h _ _ _ (by omega) hl (by omega) (by omega), if_neg (by omega)]
    congr 1
    apply List.ext_getElem?
    intro j
    by_cases hj : j < n
    · rw [hp j (by omega)]; simp [hj]
    · rw [List.getElem?_eq_none (by omega), List.getElem?_eq_none (by simp; omega)]
  | succ d ih =>
    intro k i acc hi hk hl hp
    obtain ⟨k, rfl⟩ : ∃ m, k = m + 1 := ⟨k - 1, by omega⟩
    rw [h _ _ _ (by omega) hl (by omega) (by omega), if_pos (by omega)]
    exact ih k (i + 1) _ (by omega) (by omega) (by simpa using hl) (fun j hj => by
      by_cases hji : j = i
      · subst hji
        simp [List.getElem?_set, hl]
        omega
      · simp only [Int.toNat_natCast]
        rw [List.getElem?_set_ne (by omega)]
        exact hp j (by omega))
theorem turns_map {α β : Type} (l : List β) (d : β) (f : β → α) : (List.range l.length).map (fun i => f (l.getD i d)) = l.map f := by
  apply List.ext_getElem?
  intro j
  by_cases hj : j < l.length
  · simp [hj]
  · rw [List.getElem?_eq_none (by simp; omega), List.getElem?_eq_none (by simp; omega)]
/-- A loop that compares two rows, an element at a time. -/
theorem equals {α : Type} (l : List α) (hn : l.length ≤ 281474976710656) (K : Nat) (L : Nat → Int → Option Bool)
    (h : ∀ k i, K ≤ k → 0 ≤ i → i ≤ (l.length : Int) → L (k + 1) i = if i < (l.length : Int) then L k (i + 1) else some true) :
    ∀ d k (i : Nat), i + d = l.length → K + d < k → L k (i : Int) = some true := by
  intro d
  induction d with
  | zero =>
    intro k i hi hk
    obtain ⟨k, rfl⟩ : ∃ m, k = m + 1 := ⟨k - 1, by omega⟩
    rw [h _ _ (by omega) (by omega) (by omega), if_neg (by omega)]
  | succ d ih =>
    intro k i hi hk
    obtain ⟨k, rfl⟩ : ∃ m, k = m + 1 := ⟨k - 1, by omega⟩
    rw [h _ _ (by omega) (by omega) (by omega), if_pos (by omega)]
    exact ih k (i + 1) (by omega) (by omega)

/-! ### rows of Route -/
def convRoute (x : S149) : S147 := ⟨x.f0, x.f1, x.f2, x.f3⟩
theorem toRouteS (l : List S149) (hl : l.length ≤ 1048576) (k : Nat) (hk : l.length < k) : laws_toRouteS.f k l = some (l.map convRoute) := by
  unfold laws_toRouteS.f
  rw [if_pos (by omega), if_pos (by omega), ← turns_map l z149 convRoute]
  exact turns l.length (by omega) 0 (fun k acc i => laws_toRouteS.l0 k l acc i) (fun i => convRoute (l.getD i z149)) (fun k acc i _ ha h0 h1 => by
    simp only [laws_toRouteS.l0, laws_toRoute.f, Option.bind_some]
    by_cases hi : i < (l.length : Int)
    · rw [if_pos hi, if_pos hi, if_pos h0, if_pos (by omega), wrap_id (by omega) (by omega)]
      rfl
    · rw [if_neg hi, if_neg hi]) l.length k 0 _ (by omega) (by omega) (by simp) (fun j hj => by omega)
theorem szRouteS (l : List S149) (a : Int) (hl : l.length ≤ maxLen) (ha : 0 ≤ a) (ha' : a ≤ 1048576) : laws_szRouteS.f l a = some (if a < (l.length : Int) then -1 else a - (l.length : Int)) := by
  unfold laws_szRouteS.f
  unfold maxLen at hl
  rw [wrap_id (by omega) (by omega)]
  by_cases h : a < (l.length : Int)
  · rw [if_pos (by omega), if_pos h]
  · rw [if_neg (by omega), if_neg h]
theorem eqRouteS (l : List S147) (hl : l.length ≤ 1048576) (k : Nat) (hk : l.length < k) : laws_eqRouteS.f k l l = some true := by
  unfold laws_eqRouteS.f
  rw [if_pos rfl]
  exact equals l (by omega) 0 (fun k i => laws_eqRouteS.l0 k l l i) (fun k i _ h0 h1 => by
    simp only [laws_eqRouteS.l0, laws_eqRoute.f, if_true, Option.bind_some]
    by_cases hi : i < (l.length : Int)
    · rw [if_pos hi, if_pos hi, if_pos h0, if_pos hi, wrap_id (by omega) (by omega)]
    · rw [if_neg hi, if_neg hi]) l.length k 0 (by omega) (by omega)
theorem inAll (x y z : Int) : spec_l1In.f x y z = some (decide (y ≤ x ∧ x ≤ z)) := by
  unfold spec_l1In.f
  by_cases h : x ≥ y
  · rw [if_pos h]; congr 1; simp only [decide_eq_decide]; omega
  · rw [if_neg h]; congr 1; symm; simp only [decide_eq_false_iff_not]; omega
theorem inAll' (x y z : Int) : impl_in.f x y z = some (decide (y ≤ x ∧ x ≤ z)) := inAll x y z
/-! ### routes -/
theorem shl_pow (b : Int) (h0 : 0 ≤ b) (h1 : b ≤ 16) : 1 ≤ shl .i64 1 b ∧ shl .i64 1 b ≤ 65536 := by
  obtain ⟨n, rfl⟩ : ∃ n : Nat, b = (n : Int) := ⟨b.toNat, by omega⟩
  have hf : n = 0 ∨ n = 1 ∨ n = 2 ∨ n = 3 ∨ n = 4 ∨ n = 5 ∨ n = 6 ∨ n = 7 ∨ n = 8 ∨ n = 9 ∨ n = 10 ∨ n = 11 ∨ n = 12 ∨ n = 13 ∨ n = 14 ∨ n = 15 ∨ n = 16 := by omega
  rcases hf with rfl | rfl | rfl | rfl | rfl | rfl | rfl | rfl | rfl | rfl | rfl | rfl | rfl | rfl | rfl | rfl | rfl <;> decide
theorem routeOk_same (a b v r : Int) : ∃ t, spec_RouteOk.f a b v r = some t ∧ impl_RouteOk.f a b v r = some t := by
  simp only [spec_RouteOk.f, impl_RouteOk.f, spec_l6Rest.f, impl_word.f, inAll, inAll', Option.bind_some]
  by_cases c1 : 0 ≤ b ∧ b ≤ 16
  · rw [decide_eq_true c1]
    simp only [if_true]
    by_cases c2 : 0 ≤ a ∧ a ≤ 65535
    · rw [decide_eq_true c2]
      simp only [if_true]
      have e : wrap64 (16 - b) = 16 - b := by unfold wrap64; omega
      have hs := shl_pow (16 - b) (by omega) (by omega)
      rw [e]
      have g0 : 0 ≤ 16 - b := by omega
      simp only [if_pos g0, Option.bind_some]
      generalize shl .i64 1 (16 - b) = m at hs
      have g1 : ¬ m = 0 := by omega
      simp only [if_neg g1]
      by_cases c3 : a.tmod m = 0
      · simp only [if_pos c3]
        by_cases c4 : 0 ≤ v ∧ v ≤ 65535
        · rw [decide_eq_true c4]; exact ⟨_, by rw [if_pos rfl], by rw [if_pos rfl]⟩
        · rw [decide_eq_false c4]; exact ⟨false, by simp, by simp⟩
      · simp only [if_neg c3]; exact ⟨false, rfl, rfl⟩
    · rw [decide_eq_false c2]; exact ⟨false, by simp, by simp⟩
  · rw [decide_eq_false c1]; exact ⟨false, by simp, by simp⟩
theorem compare_is (a b : Int) : cmp_Compare_int.f a b = some (if a < b then -1 else if a > b then 1 else 0) := by
  simp only [cmp_Compare_int.f, cmp_isNaN_int.f, Option.bind_some, bne_self_eq_false, Bool.false_eq_true, if_false]
  by_cases h : a < b
  · rw [if_pos h, if_pos h]
  · rw [if_neg h, if_neg h]
    by_cases h' : a > b
    · rw [if_pos h', if_pos h']
    · rw [if_neg h', if_neg h']
theorem or_is (a b : Int) (k : Nat) : cmp_Or_int.f (k + 3) [a, b] = some (if a = 0 then b else a) := by
  have w1 : wrap64 (0 + 1) = 1 := by unfold wrap64; omega
  have w2 : wrap64 (1 + 1) = 2 := by unfold wrap64; omega
  simp only [cmp_Or_int.f, cmp_Or_int.l0, List.length_cons, List.length_nil, w1, w2]
  by_cases h : a = 0
  · by_cases h' : b = 0
    · simp [rd, h, h']
    · simp [rd, h, h']
  · simp [rd, h]
theorem order_is (a0 b0 v0 r0 a1 b1 v1 r1 : Int) (k : Nat) : ∃ o, impl_Route_order.f (k + 3) a0 b0 v0 r0 a1 b1 v1 r1 = some o ∧ (o ≥ 0 ↔ b0 > b1 ∨ b0 = b1 ∧ a0 ≥ a1) := by
  simp only [impl_Route_order.f, compare_is, or_is, Option.bind_some]
  refine ⟨_, rfl, ?_⟩
  by_cases h1 : b0 < b1
  · rw [if_pos h1]; simp; omega
  · rw [if_neg h1]
    by_cases h2 : b0 > b1
    · rw [if_pos h2]; simp; omega
    · rw [if_neg h2, if_pos rfl]
      by_cases h3 : a0 < a1
      · rw [if_pos h3]; simp; omega
      · rw [if_neg h3]
        by_cases h4 : a0 > a1
        · rw [if_pos h4]; simp; omega
        · rw [if_neg h4]; simp; omega
theorem routes_loops (l : List S147) (hl : l.length ≤ 1048576) :
    ∀ d k (i : Nat), i + d = l.length → d + 3 < k → ∃ t, spec_RoutesOk.l0 k l (i : Int) = some t ∧ impl_RoutesOk.l0 k l l (l.length : Int) (i : Int) = some t := by
  intro d
  induction d with
  | zero =>
    intro k i hi hk
    obtain ⟨k, rfl⟩ : ∃ m, k = m + 1 := ⟨k - 1, by omega⟩
    refine ⟨decide ((l.length : Int) ≤ 8), ?_, ?_⟩
    · rw [spec_RoutesOk.l0, if_neg (by omega)]
    · rw [impl_RoutesOk.l0, if_neg (by omega)]
  | succ d ih =>
    intro k i hi hk
    obtain ⟨k, rfl⟩ : ∃ m, k = m + 1 := ⟨k - 1, by omega⟩
    obtain ⟨t, ht1, ht2⟩ := ih k (i + 1) (by omega) (by omega)
    rw [spec_RoutesOk.l0, impl_RoutesOk.l0]
    have g1 : (i : Int) < (l.length : Int) := by omega
    have g0 : 0 ≤ (i : Int) := by omega
    simp only [if_pos g1, if_pos g0]
    have e7 : wrap64 ((i : Int) + 1) = ((i + 1 : Nat) : Int) := by unfold wrap64; omega
    have e8 : wrap64 ((i : Int) - 1) = (i : Int) - 1 := by unfold wrap64; omega
    rw [e7, e8]
    generalize rd_T147 l (i : Int) = x
    generalize rd_T147 l ((i : Int) - 1) = y
    obtain ⟨u, hu1, hu2⟩ := routeOk_same x.f0 x.f1 x.f2 x.f3
    rw [hu1, hu2, Option.bind_some, Option.bind_some]
    cases u
    · exact ⟨false, by simp, by simp⟩
    · simp only [if_true]
      by_cases c3 : (i : Int) > 0
      · have g2 : 0 ≤ (i : Int) - 1 := by omega
        have g3 : (i : Int) - 1 < (l.length : Int) := by omega
        simp only [if_pos c3, if_pos g2, if_pos g3]
        obtain ⟨k', rfl⟩ : ∃ m, k = m + 3 := ⟨k - 3, by omega⟩
        obtain ⟨o, ho, hoo⟩ := order_is y.f0 y.f1 y.f2 y.f3 x.f0 x.f1 x.f2 x.f3 k'
        rw [ho, Option.bind_some]
        by_cases c4 : y.f1 > x.f1
        · rw [if_pos c4, if_pos (hoo.2 (Or.inl c4))]; exact ⟨false, rfl, rfl⟩
        · rw [if_neg c4]
          by_cases c5 : y.f1 = x.f1
          · rw [if_pos c5]
            by_cases c6 : y.f0 ≥ x.f0
            · rw [if_pos c6, if_pos (hoo.2 (Or.inr ⟨c5, c6⟩))]; exact ⟨false, rfl, rfl⟩
            · rw [if_neg c6, if_neg (fun h => by rcases hoo.1 h with h | h <;> omega)]; exact ⟨t, ht1, ht2⟩
          · rw [if_neg c5, if_neg (fun h => by rcases hoo.1 h with h | h <;> omega)]; exact ⟨t, ht1, ht2⟩
      · rw [if_neg c3, if_neg c3]; exact ⟨t, ht1, ht2⟩
theorem routesOk_same (l : List S147) (hl : l.length ≤ 1048576) (k : Nat) (hk : l.length + 3 < k) : ∃ t, spec_RoutesOk.f k l = some t ∧ impl_RoutesOk.f k l = some t :=
  routes_loops l hl l.length k 0 (by omega) hk
theorem main : GFnExactStationOk.Stmt := by
  intro a l _ hl
  obtain ⟨hl, _⟩ := hl
  refine ⟨l.length + 10, ?_⟩
  simp only [laws_FnExactStationOk.f, laws_szStation.f, szRouteS l 1048576 hl (by omega) (by omega), Option.bind_some]
  by_cases h : (1048576 : Int) < (l.length : Int)
  · rw [if_pos h]; simp
  · rw [if_neg h, if_neg (by omega)]
    simp only [Option.bind_some]
    rw [if_neg (by omega)]
    have hto : laws_toStation.f (l.length + 10) a l = some (a, l.map convRoute) := by
      simp only [laws_toStation.f, toRouteS l (by omega) _ (show l.length < l.length + 10 by omega), Option.bind_some]
    have heq : laws_eqStation.f (l.length + 10) a (l.map convRoute) a (l.map convRoute) = some true := by
      simp only [laws_eqStation.f, if_true, eqRouteS (l.map convRoute) (by simp; omega) _ (show (l.map convRoute).length < l.length + 10 by simp), Option.bind_some]
    have hs : ∃ t, spec_StationOk.f (l.length + 10) a (l.map convRoute) = some t ∧ impl_StationOk.f (l.length + 10) a (l.map convRoute) = some t := by
      obtain ⟨t, h1, h2⟩ := routesOk_same (l.map convRoute) (by simp; omega) (l.length + 10) (by simp)
      simp only [spec_StationOk.f, impl_StationOk.f, impl_word.f, inAll, inAll', h1, h2, Option.bind_some]
      by_cases c : 0 ≤ a ∧ a ≤ 65535
      · rw [decide_eq_true c]; exact ⟨t, by simp, by simp⟩
      · rw [decide_eq_false c]; exact ⟨false, by simp, by simp⟩
    obtain ⟨t, h1, h2⟩ := hs
    simp only [hto, Option.bind_some, h1, h2, heq]
    simp
end FnExactStationOk_
theorem FnExactStationOk : GFnExactStationOk.Stmt := FnExactStationOk_.main
end Go.Proofs.Ytgfaamcihlojdac.Pure
