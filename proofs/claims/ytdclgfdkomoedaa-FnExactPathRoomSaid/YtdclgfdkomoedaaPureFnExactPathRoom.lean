/- The law FnExactPathRoom over numbers and lists: the program's PathRoom answers as the reference's, and the stations stay as they were. No conditions but the kinds' ranges. -/
import Derived.Test.YtdclgfdkomoedaaGFnExactPathRoom
namespace Go.Proofs.Ytdclgfdkomoedaa.Pure
open Go Go.RowKit Go.Proofs.Ytdclgfdkomoedaa.MFnExactPathRoom Go.Proofs.YtdclgfdkomoedaaV.PrintWords Go.Proofs.YtdclgfdkomoedaaV.PrintLast
set_option linter.unusedVariables false
set_option linter.unusedSimpArgs false
namespace FnExactPathRoom_
theorem i64_bounds {x : Int} (h : (Lit.int .i64 x).wf = true) : -9223372036854775808 ≤ x ∧ x ≤ 9223372036854775807 := by
  simpa [Lit.wf, IntKind.min, IntKind.max, IntKind.signed, IntKind.bits] using h
theorem inAll (x y z : Int) : spec_l1In.f x y z = some (decide (y ≤ x ∧ x ≤ z)) := by
  unfold spec_l1In.f
  by_cases h : x ≥ y
  · rw [if_pos h]; congr 1; simp only [decide_eq_decide]; omega
  · rw [if_neg h]; congr 1; symm; simp only [decide_eq_false_iff_not]; omega
theorem inAll' (x y z : Int) : impl_in.f x y z = some (decide (y ≤ x ∧ x ≤ z)) := inAll x y z
theorem wl {n m : Int} (h : n = m) (h0 : -9223372036854775808 ≤ m) (h1 : m ≤ 9223372036854775807) : wrap64 n = m := by
  subst h
  unfold wrap64
  omega
/-! ### copies, equality and sizes of rows of bytes -/
theorem wrap_id {n : Int} (h : -9223372036854775808 ≤ n) (h' : n ≤ 9223372036854775807) : wrap64 n = n := by
  unfold wrap64; omega
/-- A loop that fills a row, an element at a time, from the elements of another one. -/
theorem fills {α : Type} (n : Nat) (hn : n ≤ 281474976710656) (L : Nat → List α → Int → Option (List α)) (g : Nat → α)
    (h : ∀ k acc i, k < n + 1 → L (k + 1) acc i = if i < (n : Int) then (if 0 ≤ i then (if i < (acc.length : Int) then L k (acc.set i.toNat (g i.toNat)) (wrap64 (i + 1)) else none) else none) else some acc) :
    ∀ d k (i : Nat) (acc : List α), i + d = n → k = d + 1 → acc.length = n → (∀ j, j < i → acc[j]? = some (g j)) → ∃ r, L k acc (i : Int) = some r ∧ r.length = n ∧ ∀ j, j < n → r[j]? = some (g j) := by
  intro d
  induction d with
  | zero =>
    intro k i acc hi hk hl hp
    subst hk
    refine ⟨acc, ?_, hl, fun j hj => hp j (by omega)⟩
    rw [h _ _ _ (by omega), if_neg (by omega)]
  | succ d ih =>
    intro k i acc hi hk hl hp
    subst hk
    obtain ⟨r, hr, hrl, hrp⟩ := ih (d + 1) (i + 1) (acc.set i (g i)) (by omega) rfl (by simpa using hl) (fun j hj => by
      by_cases hji : j = i
      · subst hji
        simp [List.getElem?_set, hl]
        omega
      · rw [List.getElem?_set_ne (by omega)]
        exact hp j (by omega))
    refine ⟨r, ?_, hrl, hrp⟩
    rw [h _ _ _ (by omega), if_pos (by omega), if_pos (by omega), if_pos (by omega), wrap_id (by omega) (by omega)]
    simpa using hr
theorem rd_at (l : List Int) (i : Nat) (h : i < l.length) : l[i]? = some (rd l (i : Int)) := by
  unfold rd
  rw [List.getD_eq_getElem?_getD, Int.toNat_natCast, List.getElem?_eq_getElem h]
  rfl
/-! ### rows of structs: copied, compared -/
/-- A loop that turns a row into another one, an element at a time. -/
theorem turns {α : Type} (n : Nat) (hn : n ≤ 281474976710656) (K : Nat) (L : Nat → List α → Int → Option (List α)) (g : Nat → α)
    (h : ∀ k acc i, K ≤ k → acc.length = n → 0 ≤ i → i ≤ (n : Int) → L (k + 1) acc i = if i < (n : Int) then L k (acc.set i.toNat (g i.toNat)) (i + 1) else some acc) :
    ∀ d k (i : Nat) (acc : List α), i + d = n → K + d < k → acc.length = n → (∀ j, j < i → acc[j]? = some (g j)) → L k acc (i : Int) = some ((List.range n).map g) := by
  intro d
  induction d with
  | zero =>
    intro k i acc hi hk hl hp
    obtain ⟨k, rfl⟩ : ∃ m, k = m + 1 := ⟨k - 1, by omega⟩
    rw [h _ _ _ (by omega) hl (by omega) (by omega), if_neg (by omega)]
    congr 1
    apply List.ext_getElem?
    intro j
    by_cases hj : j < n
    · rw [hp j (by omega)]; simp [hj]
    · rw [List.getElem?_eq_none (by omega), List.getElem?_eq_none (by simp; omega)]
  | succ d ih =>
    intro k i acc hi hk hl hp
    obtain ⟨k, rfl⟩ : ∃ m, k = m + 1 := ⟨k - 1, by omega⟩
    rw [h _ _ _ (by omega) hl (by omega) (by omega), if_pos (by omega)]
    exact ih k (i + 1) _ (by omega) (by omega) (by simpa using hl) (fun j hj => by
      by_cases hji : j = i
      · subst hji
        simp [List.getElem?_set, hl]
        omega
      · simp only [Int.toNat_natCast]
        rw [List.getElem?_set_ne (by omega)]
        exact hp j (by omega))
theorem turns_map {α β : Type} (l : List β) (d : β) (f : β → α) : (List.range l.length).map (fun i => f (l.getD i d)) = l.map f := by
  apply List.ext_getElem?
  intro j
  by_cases hj : j < l.length
  · simp [hj]
  · rw [List.getElem?_eq_none (by simp; omega), List.getElem?_eq_none (by simp; omega)]
/-- A loop that compares two rows, an element at a time. -/
theorem equals {α : Type} (l : List α) (hn : l.length ≤ 281474976710656) (K : Nat) (L : Nat → Int → Option Bool)
    (h : ∀ k i, K ≤ k → 0 ≤ i → i ≤ (l.length : Int) → L (k + 1) i = if i < (l.length : Int) then L k (i + 1) else some true) :
    ∀ d k (i : Nat), i + d = l.length → K + d < k → L k (i : Int) = some true := by
  intro d
  induction d with
  | zero =>
    intro k i hi hk
    obtain ⟨k, rfl⟩ : ∃ m, k = m + 1 := ⟨k - 1, by omega⟩
    rw [h _ _ (by omega) (by omega) (by omega), if_neg (by omega)]
  | succ d ih =>
    intro k i hi hk
    obtain ⟨k, rfl⟩ : ∃ m, k = m + 1 := ⟨k - 1, by omega⟩
    rw [h _ _ (by omega) (by omega) (by omega), if_pos (by omega)]
    exact ih k (i + 1) (by omega) (by omega)

/-! ### rows of Route -/
def convRoute (x : S161) : S51 := ⟨x.f0, x.f1, x.f2, x.f3⟩
theorem toRouteS (l : List S161) (hl : l.length ≤ 1048576) (k : Nat) (hk : l.length < k) : laws_toRouteS.f k l = some (l.map convRoute) := by
  unfold laws_toRouteS.f
  rw [if_pos (by omega), if_pos (by omega), ← turns_map l z161 convRoute]
  exact turns l.length (by omega) 0 (fun k acc i => laws_toRouteS.l0 k l acc i) (fun i => convRoute (l.getD i z161)) (fun k acc i _ ha h0 h1 => by
    simp only [laws_toRouteS.l0, laws_toRoute.f, Option.bind_some]
    by_cases hi : i < (l.length : Int)
    · rw [if_pos hi, if_pos hi, if_pos h0, if_pos (by omega), wrap_id (by omega) (by omega)]
      rfl
    · rw [if_neg hi, if_neg hi]) l.length k 0 _ (by omega) (by omega) (by simp) (fun j hj => by omega)
theorem szRouteS (l : List S161) (a : Int) (hl : l.length ≤ maxLen) (ha : 0 ≤ a) (ha' : a ≤ 1048576) : laws_szRouteS.f l a = some (if a < (l.length : Int) then -1 else a - (l.length : Int)) := by
  unfold laws_szRouteS.f
  unfold maxLen at hl
  rw [wrap_id (by omega) (by omega)]
  by_cases h : a < (l.length : Int)
  · rw [if_pos (by omega), if_pos h]
  · rw [if_neg (by omega), if_neg h]
theorem eqRouteS (l : List S51) (hl : l.length ≤ 1048576) (k : Nat) (hk : l.length < k) : laws_eqRouteS.f k l l = some true := by
  unfold laws_eqRouteS.f
  rw [if_pos rfl]
  exact equals l (by omega) 0 (fun k i => laws_eqRouteS.l0 k l l i) (fun k i _ h0 h1 => by
    simp only [laws_eqRouteS.l0, laws_eqRoute.f, if_true, Option.bind_some]
    by_cases hi : i < (l.length : Int)
    · rw [if_pos hi, if_pos hi, if_pos h0, if_pos hi, wrap_id (by omega) (by omega)]
    · rw [if_neg hi, if_neg hi]) l.length k 0 (by omega) (by omega)
/-! ### routes -/
theorem shl_pow (b : Int) (h0 : 0 ≤ b) (h1 : b ≤ 16) : 1 ≤ shl .i64 1 b ∧ shl .i64 1 b ≤ 65536 := by
  obtain ⟨n, rfl⟩ : ∃ n : Nat, b = (n : Int) := ⟨b.toNat, by omega⟩
  have hf : n = 0 ∨ n = 1 ∨ n = 2 ∨ n = 3 ∨ n = 4 ∨ n = 5 ∨ n = 6 ∨ n = 7 ∨ n = 8 ∨ n = 9 ∨ n = 10 ∨ n = 11 ∨ n = 12 ∨ n = 13 ∨ n = 14 ∨ n = 15 ∨ n = 16 := by omega
  rcases hf with rfl | rfl | rfl | rfl | rfl | rfl | rfl | rfl | rfl | rfl | rfl | rfl | rfl | rfl | rfl | rfl | rfl <;> decide
theorem routeOk_same (a b v r : Int) : ∃ t, spec_RouteOk.f a b v r = some t ∧ impl_RouteOk.f a b v r = some t := by
  simp only [spec_RouteOk.f, impl_RouteOk.f, spec_l6Rest.f, impl_word.f, inAll, inAll', Option.bind_some]
  by_cases c1 : 0 ≤ b ∧ b ≤ 16
  · rw [decide_eq_true c1]
    simp only [if_true]
    by_cases c2 : 0 ≤ a ∧ a ≤ 65535
    · rw [decide_eq_true c2]
      simp only [if_true]
      have e : wrap64 (16 - b) = 16 - b := by unfold wrap64; omega
      have hs := shl_pow (16 - b) (by omega) (by omega)
      rw [e]
      have g0 : 0 ≤ 16 - b := by omega
      simp only [if_pos g0, Option.bind_some]
      generalize shl .i64 1 (16 - b) = m at hs
      have g1 : ¬ m = 0 := by omega
      simp only [if_neg g1]
      by_cases c3 : a.tmod m = 0
      · simp only [if_pos c3]
        by_cases c4 : 0 ≤ v ∧ v ≤ 65535
        · rw [decide_eq_true c4]; exact ⟨_, by rw [if_pos rfl], by rw [if_pos rfl]⟩
        · rw [decide_eq_false c4]; exact ⟨false, by simp, by simp⟩
      · simp only [if_neg c3]; exact ⟨false, rfl, rfl⟩
    · rw [decide_eq_false c2]; exact ⟨false, by simp, by simp⟩
  · rw [decide_eq_false c1]; exact ⟨false, by simp, by simp⟩
theorem compare_is (a b : Int) : cmp_Compare_int.f a b = some (if a < b then -1 else if a > b then 1 else 0) := by
  simp only [cmp_Compare_int.f, cmp_isNaN_int.f, Option.bind_some, bne_self_eq_false, Bool.false_eq_true, if_false]
  by_cases h : a < b
  · rw [if_pos h, if_pos h]
  · rw [if_neg h, if_neg h]
    by_cases h' : a > b
    · rw [if_pos h', if_pos h']
    · rw [if_neg h', if_neg h']
theorem or_is (a b : Int) (k : Nat) : cmp_Or_int.f (k + 3) [a, b] = some (if a = 0 then b else a) := by
  have w1 : wrap64 (0 + 1) = 1 := by unfold wrap64; omega
  have w2 : wrap64 (1 + 1) = 2 := by unfold wrap64; omega
  simp only [cmp_Or_int.f, cmp_Or_int.l0, List.length_cons, List.length_nil, w1, w2]
  by_cases h : a = 0
  · by_cases h' : b = 0
    · simp [rd, h, h']
    · simp [rd, h, h']
  · simp [rd, h]
theorem order_is (a0 b0 v0 r0 a1 b1 v1 r1 : Int) (k : Nat) : ∃ o, impl_Route_order.f (k + 3) a0 b0 v0 r0 a1 b1 v1 r1 = some o ∧ (o ≥ 0 ↔ b0 > b1 ∨ b0 = b1 ∧ a0 ≥ a1) := by
  simp only [impl_Route_order.f, compare_is, or_is, Option.bind_some]
  refine ⟨_, rfl, ?_⟩
  by_cases h1 : b0 < b1
  · rw [if_pos h1]; simp; omega
  · rw [if_neg h1]
    by_cases h2 : b0 > b1
    · rw [if_pos h2]; simp; omega
    · rw [if_neg h2, if_pos rfl]
      by_cases h3 : a0 < a1
      · rw [if_pos h3]; simp; omega
      · rw [if_neg h3]
        by_cases h4 : a0 > a1
        · rw [if_pos h4]; simp; omega
        · rw [if_neg h4]; simp; omega
theorem routes_loops (l : List S51) (hl : l.length ≤ 1048576) :
    ∀ d k (i : Nat), i + d = l.length → d + 3 < k → ∃ t, spec_RoutesOk.l0 k l (i : Int) = some t ∧ impl_RoutesOk.l0 k l l (l.length : Int) (i : Int) = some t := by
  intro d
  induction d with
  | zero =>
    intro k i hi hk
    obtain ⟨k, rfl⟩ : ∃ m, k = m + 1 := ⟨k - 1, by omega⟩
    refine ⟨decide ((l.length : Int) ≤ 8), ?_, ?_⟩
    · rw [spec_RoutesOk.l0, if_neg (by omega)]
    · rw [impl_RoutesOk.l0, if_neg (by omega)]
  | succ d ih =>
    intro k i hi hk
    obtain ⟨k, rfl⟩ : ∃ m, k = m + 1 := ⟨k - 1, by omega⟩
    obtain ⟨t, ht1, ht2⟩ := ih k (i + 1) (by omega) (by omega)
    rw [spec_RoutesOk.l0, impl_RoutesOk.l0]
    have g1 : (i : Int) < (l.length : Int) := by omega
    have g0 : 0 ≤ (i : Int) := by omega
    simp only [if_pos g1, if_pos g0]
    have e7 : wrap64 ((i : Int) + 1) = ((i + 1 : Nat) : Int) := by unfold wrap64; omega
    have e8 : wrap64 ((i : Int) - 1) = (i : Int) - 1 := by unfold wrap64; omega
    rw [e7, e8]
    generalize rd_T51 l (i : Int) = x
    generalize rd_T51 l ((i : Int) - 1) = y
    obtain ⟨u, hu1, hu2⟩ := routeOk_same x.f0 x.f1 x.f2 x.f3
    rw [hu1, hu2, Option.bind_some, Option.bind_some]
    cases u
    · exact ⟨false, by simp, by simp⟩
    · simp only [if_true]
      by_cases c3 : (i : Int) > 0
      · have g2 : 0 ≤ (i : Int) - 1 := by omega
        have g3 : (i : Int) - 1 < (l.length : Int) := by omega
        simp only [if_pos c3, if_pos g2, if_pos g3]
        obtain ⟨k', rfl⟩ : ∃ m, k = m + 3 := ⟨k - 3, by omega⟩
        obtain ⟨o, ho, hoo⟩ := order_is y.f0 y.f1 y.f2 y.f3 x.f0 x.f1 x.f2 x.f3 k'
        rw [ho, Option.bind_some]
        by_cases c4 : y.f1 > x.f1
        · rw [if_pos c4, if_pos (hoo.2 (Or.inl c4))]; exact ⟨false, rfl, rfl⟩
        · rw [if_neg c4]
          by_cases c5 : y.f1 = x.f1
          · rw [if_pos c5]
            by_cases c6 : y.f0 ≥ x.f0
            · rw [if_pos c6, if_pos (hoo.2 (Or.inr ⟨c5, c6⟩))]; exact ⟨false, rfl, rfl⟩
            · rw [if_neg c6, if_neg (fun h => by rcases hoo.1 h with h | h <;> omega)]; exact ⟨t, ht1, ht2⟩
          · rw [if_neg c5, if_neg (fun h => by rcases hoo.1 h with h | h <;> omega)]; exact ⟨t, ht1, ht2⟩
      · rw [if_neg c3, if_neg c3]; exact ⟨t, ht1, ht2⟩
theorem routesOk_same (l : List S51) (hl : l.length ≤ 1048576) (k : Nat) (hk : l.length + 3 < k) : ∃ t, spec_RoutesOk.f k l = some t ∧ impl_RoutesOk.f k l = some t :=
  routes_loops l hl l.length k 0 (by omega) hk
/-! ### nets -/
abbrev RT := S51
abbrev SN := S56
theorem routes_uni (l : List RT) (hl : l.length ≤ 1048576) :
    ∀ d (i : Nat), i + d = l.length → ∃ t, ∀ k, d + 3 < k → spec_RoutesOk.l0 k l (i : Int) = some t ∧ impl_RoutesOk.l0 k l l (l.length : Int) (i : Int) = some t := by
  intro d
  induction d with
  | zero =>
    intro i hi
    refine ⟨decide ((l.length : Int) ≤ 8), fun k hk => ?_⟩
    obtain ⟨k, rfl⟩ : ∃ m, k = m + 1 := ⟨k - 1, by omega⟩
    refine ⟨?_, ?_⟩
    · rw [spec_RoutesOk.l0, if_neg (by omega)]
    · rw [impl_RoutesOk.l0, if_neg (by omega)]
  | succ d ih =>
    intro i hi
    obtain ⟨t, ht⟩ := ih (i + 1) (by omega)
    have e7 : wrap64 ((i : Int) + 1) = ((i + 1 : Nat) : Int) := by unfold wrap64; omega
    have e8 : wrap64 ((i : Int) - 1) = (i : Int) - 1 := by unfold wrap64; omega
    generalize hx : rd_T51 l (i : Int) = x
    generalize hy : rd_T51 l ((i : Int) - 1) = y
    obtain ⟨u, hu1, hu2⟩ := routeOk_same x.f0 x.f1 x.f2 x.f3
    have g1 : (i : Int) < (l.length : Int) := by omega
    have g0 : 0 ≤ (i : Int) := by omega
    have un : ∀ m, spec_RoutesOk.l0 (m + 1) l (i : Int) = if u = true then (if (i : Int) > 0 then (if 0 ≤ (i : Int) - 1 then (if (i : Int) - 1 < (l.length : Int) then (if y.f1 > x.f1 then some false else if y.f1 = x.f1 then (if y.f0 ≥ x.f0 then some false else spec_RoutesOk.l0 m l ((i + 1 : Nat) : Int)) else spec_RoutesOk.l0 m l ((i + 1 : Nat) : Int)) else none) else none) else spec_RoutesOk.l0 m l ((i + 1 : Nat) : Int)) else some false := by
      intro m
      rw [spec_RoutesOk.l0, if_pos g1, if_pos g0, e7, e8, hx, hy, hu1, Option.bind_some]
    have im : ∀ m, impl_RoutesOk.l0 (m + 1) l l (l.length : Int) (i : Int) = if u = true then (if (i : Int) > 0 then (if 0 ≤ (i : Int) - 1 then (if (i : Int) - 1 < (l.length : Int) then ((impl_Route_order.f m y.f0 y.f1 y.f2 y.f3 x.f0 x.f1 x.f2 x.f3).bind fun o => if o ≥ 0 then some false else impl_RoutesOk.l0 m l l (l.length : Int) ((i + 1 : Nat) : Int)) else none) else none) else impl_RoutesOk.l0 m l l (l.length : Int) ((i + 1 : Nat) : Int)) else some false := by
      intro m
      rw [impl_RoutesOk.l0, if_pos g1, if_pos g0, if_pos g1, e7, e8, hx, hy, hu2, Option.bind_some]
    cases u
    · refine ⟨false, fun k hk => ?_⟩
      obtain ⟨k, rfl⟩ : ∃ m, k = m + 1 := ⟨k - 1, by omega⟩
      rw [un, im]
      exact ⟨by simp, by simp⟩
    · by_cases c3 : (i : Int) > 0
      · have g2 : 0 ≤ (i : Int) - 1 := by omega
        have g3 : (i : Int) - 1 < (l.length : Int) := by omega
        by_cases c7 : y.f1 > x.f1 ∨ y.f1 = x.f1 ∧ y.f0 ≥ x.f0
        · refine ⟨false, fun k hk => ?_⟩
          obtain ⟨k, rfl⟩ : ∃ m, k = m + 3 + 1 := ⟨k - 4, by omega⟩
          obtain ⟨o, ho, hoo⟩ := order_is y.f0 y.f1 y.f2 y.f3 x.f0 x.f1 x.f2 x.f3 k
          rw [un, im, ho, Option.bind_some, if_pos rfl, if_pos rfl, if_pos c3, if_pos c3, if_pos g2, if_pos g2, if_pos g3, if_pos g3, if_pos (hoo.2 c7)]
          refine ⟨?_, rfl⟩
          rcases c7 with h | ⟨h, h'⟩
          · rw [if_pos h]
          · rw [if_neg (by omega), if_pos h, if_pos h']
        · refine ⟨t, fun k hk => ?_⟩
          obtain ⟨k, rfl⟩ : ∃ m, k = m + 3 + 1 := ⟨k - 4, by omega⟩
          obtain ⟨o, ho, hoo⟩ := order_is y.f0 y.f1 y.f2 y.f3 x.f0 x.f1 x.f2 x.f3 k
          obtain ⟨t1, t2⟩ := ht (k + 3) (by omega)
          rw [un, im, ho, Option.bind_some, if_pos rfl, if_pos rfl, if_pos c3, if_pos c3, if_pos g2, if_pos g2, if_pos g3, if_pos g3, if_neg (fun h => c7 (hoo.1 h))]
          refine ⟨?_, t2⟩
          rw [if_neg (by omega)]
          by_cases h : y.f1 = x.f1
          · rw [if_pos h, if_neg (by omega)]; exact t1
          · rw [if_neg h]; exact t1
      · refine ⟨t, fun k hk => ?_⟩
        obtain ⟨k, rfl⟩ : ∃ m, k = m + 1 := ⟨k - 1, by omega⟩
        obtain ⟨t1, t2⟩ := ht k (by omega)
        rw [un, im, if_pos rfl, if_pos rfl, if_neg c3, if_neg c3]
        exact ⟨t1, t2⟩
theorem station_uni (a : Int) (l : List RT) (hl : l.length ≤ 1048576) : ∃ t, ∀ k, l.length + 3 < k → spec_StationOk.f k a l = some t ∧ impl_StationOk.f k a l = some t := by
  obtain ⟨t, ht⟩ := routes_uni l hl l.length 0 (by omega)
  by_cases c : 0 ≤ a ∧ a ≤ 65535
  · refine ⟨t, fun k hk => ?_⟩
    obtain ⟨h1, h2⟩ := ht k hk
    simp only [spec_StationOk.f, impl_StationOk.f, impl_word.f, inAll, inAll', Option.bind_some, decide_eq_true c, if_true]
    rw [show spec_RoutesOk.f k l = some t from h1, show impl_RoutesOk.f k l = some t from h2]
    exact ⟨rfl, rfl⟩
  · refine ⟨false, fun k hk => ?_⟩
    simp only [spec_StationOk.f, impl_StationOk.f, impl_word.f, inAll, inAll', Option.bind_some, decide_eq_false c, Bool.false_eq_true, if_false]
    exact ⟨trivial, trivial⟩
/-- A station that is ok. -/
def SOk (x : SN) : Prop := ∀ k, x.f1.length + 3 < k → impl_StationOk.f k x.f0 x.f1 = some true
def NOk (l : List SN) (i : Nat) : Prop := l.length ≤ 5 ∧ ∀ j, i ≤ j → j < l.length → SOk (rd_T56 l (j : Int)) ∧ ∀ m, m < j → (rd_T56 l (m : Int)).f0 ≠ (rd_T56 l (j : Int)).f0
theorem net_inner (l : List SN) (hl : l.length ≤ 1048576) (i : Nat) (hi : i < l.length) (a : Int) (ha : (rd_T56 l (i : Int)).f0 = a) : ∀ d j, j + d = i →
    (impl_stationAt.at_ a (l.drop j) j < (i : Int) ∧ (∃ m, j ≤ m ∧ m < i ∧ (rd_T56 l (m : Int)).f0 = a) ∧ ∀ k, d + 1 < k → spec_NetOk.l1 k l (i : Int) (j : Int) = some false) ∨
    (¬ impl_stationAt.at_ a (l.drop j) j < (i : Int) ∧ (∀ m, j ≤ m → m < i → (rd_T56 l (m : Int)).f0 ≠ a) ∧ ∀ k, spec_NetOk.l1 (k + d + 1) l (i : Int) (j : Int) = spec_NetOk.l0 k l ((i + 1 : Nat) : Int)) := by
  intro d
  induction d with
  | zero =>
    intro j hj
    obtain rfl : j = i := by omega
    right
    refine ⟨?_, fun m h1 h2 => by omega, fun k => ?_⟩
    · rw [impl_stationAt.step a l j j hi, if_pos ha]; omega
    · rw [spec_NetOk.l1, if_neg (by omega), wrap_id (n := (j : Int) + 1) (by omega) (by omega), show (j : Int) + 1 = ((j + 1 : Nat) : Int) by omega]
  | succ d ih =>
    intro j hj
    by_cases hx : (rd_T56 l (j : Int)).f0 = a
    · left
      refine ⟨?_, ⟨j, by omega, by omega, hx⟩, fun k hk => ?_⟩
      · rw [impl_stationAt.step a l j j (by omega), if_pos hx]; omega
      · obtain ⟨k, rfl⟩ : ∃ q, k = q + 1 := ⟨k - 1, by omega⟩
        rw [spec_NetOk.l1, if_pos (by omega), if_pos (by omega), if_pos (by omega), if_pos (by omega), if_pos (by omega), if_pos (by rw [hx, ha])]
    · have e1 : ∀ k, spec_NetOk.l1 (k + 1) l (i : Int) (j : Int) = spec_NetOk.l1 k l (i : Int) ((j + 1 : Nat) : Int) := by
        intro k
        rw [spec_NetOk.l1, if_pos (by omega), if_pos (by omega), if_pos (by omega), if_pos (by omega), if_pos (by omega), if_neg (by rw [ha]; exact hx), wrap_id (n := (j : Int) + 1) (by omega) (by omega), show (j : Int) + 1 = ((j + 1 : Nat) : Int) by omega]
      have e2 : impl_stationAt.at_ a (l.drop j) j = impl_stationAt.at_ a (l.drop (j + 1)) (j + 1) := by
        rw [impl_stationAt.step a l j j (by omega), if_neg hx]
      rcases ih (j + 1) (by omega) with ⟨h1, ⟨m, m1, m2, m3⟩, h3⟩ | ⟨h1, h2, h3⟩
      · left
        refine ⟨by rw [e2]; exact h1, ⟨m, by omega, m2, m3⟩, fun k hk => ?_⟩
        obtain ⟨k, rfl⟩ : ∃ q, k = q + 1 := ⟨k - 1, by omega⟩
        rw [e1]
        exact h3 k (by omega)
      · right
        refine ⟨by rw [e2]; exact h1, fun m m1 m2 => ?_, fun k => ?_⟩
        · by_cases hm : m = j
          · subst hm; exact hx
          · exact h2 m (by omega) m2
        · rw [show k + (d + 1) + 1 = (k + d + 1) + 1 by omega, e1]
          exact h3 k
theorem net_loop (l : List SN) (hl : l.length ≤ 1048576) (R : Nat) (hR : ∀ j, j < l.length → (rd_T56 l (j : Int)).f1.length ≤ R) (hR' : R ≤ 1048576) : ∀ d i, i + d = l.length →
    ∃ t, (t = true ↔ NOk l i) ∧ ∀ k, (d + 1) * (l.length + 3) + R + 10 < k → spec_NetOk.l0 k l (i : Int) = some t ∧ impl_NetOk.l0 k l l (l.length : Int) (i : Int) = some t := by
  intro d
  induction d with
  | zero =>
    intro i hi
    refine ⟨decide ((l.length : Int) ≤ 5), ?_, fun k hk => ?_⟩
    · rw [decide_eq_true_iff]
      exact ⟨fun h => ⟨by omega, fun j h1 h2 => by omega⟩, fun h => by have := h.1; omega⟩
    · obtain ⟨k, rfl⟩ : ∃ q, k = q + 1 := ⟨k - 1, by omega⟩
      rw [spec_NetOk.l0, if_neg (by omega), impl_NetOk.l0, if_neg (by omega)]
      exact ⟨rfl, rfl⟩
  | succ d ih =>
    intro i hi
    have hm : (d + 1 + 1) * (l.length + 3) = (d + 1) * (l.length + 3) + (l.length + 3) := by rw [Nat.succ_mul]
    obtain ⟨t, hn, ht⟩ := ih (i + 1) (by omega)
    have hr := hR i (by omega)
    obtain ⟨u, hu⟩ := station_uni (rd_T56 l (i : Int)).f0 (rd_T56 l (i : Int)).f1 (by omega)
    have e7 : wrap64 ((i : Int) + 1) = ((i + 1 : Nat) : Int) := by rw [wrap_id (by omega) (by omega)]; omega
    cases u
    · refine ⟨false, ⟨fun h => (by cases h), fun h => ?_⟩, fun k hk => ?_⟩
      · have := (h.2 i (Nat.le_refl _) (by omega)).1 ((rd_T56 l (i : Int)).f1.length + 4) (by omega)
        rw [(hu _ (by omega)).2] at this
        cases this
      · obtain ⟨k, rfl⟩ : ∃ q, k = q + 1 := ⟨k - 1, by omega⟩
        obtain ⟨h1, h2⟩ := hu k (by omega)
        rw [spec_NetOk.l0, if_pos (by omega), if_pos (by omega), h1, impl_NetOk.l0, if_pos (by omega), if_pos (by omega), if_pos (by omega), h2]
        exact ⟨rfl, rfl⟩
    · have hso : SOk (rd_T56 l (i : Int)) := fun k hk => (hu k hk).2
      rcases net_inner l hl i (by omega) _ rfl i 0 (by omega) with ⟨h1, ⟨m, _, m2, m3⟩, h3⟩ | ⟨h1, h2, h3⟩
      · refine ⟨false, ⟨fun h => (by cases h), fun h => absurd m3 ((h.2 i (Nat.le_refl _) (by omega)).2 m m2)⟩, fun k hk => ?_⟩
        obtain ⟨k, rfl⟩ : ∃ q, k = q + 1 := ⟨k - 1, by omega⟩
        obtain ⟨s1, s2⟩ := hu k (by omega)
        rw [List.drop_zero] at h1
        rw [spec_NetOk.l0, if_pos (by omega), if_pos (by omega), s1, impl_NetOk.l0, if_pos (by omega), if_pos (by omega), if_pos (by omega), s2]
        simp only [Option.bind_some, if_true, impl_stationAt.f]
        rw [if_pos h1]
        exact ⟨h3 k (by omega), rfl⟩
      · refine ⟨t, ?_, fun k hk => ?_⟩
        · rw [hn]
          constructor
          · intro h
            refine ⟨h.1, fun j j1 j2 => ?_⟩
            by_cases hj : j = i
            · subst hj
              exact ⟨hso, fun m hm => h2 m (by omega) hm⟩
            · exact h.2 j (by omega) j2
          · intro h
            exact ⟨h.1, fun j j1 j2 => h.2 j (by omega) j2⟩
        · obtain ⟨k, rfl⟩ : ∃ q, k = q + i + 1 + 1 := ⟨k - (i + 2), by omega⟩
          obtain ⟨s1, s2⟩ := hu (k + i + 1) (by omega)
          obtain ⟨t1, _⟩ := ht k (by omega)
          obtain ⟨_, t2⟩ := ht (k + i + 1) (by omega)
          rw [List.drop_zero] at h1
          rw [spec_NetOk.l0, if_pos (by omega), if_pos (by omega), s1, impl_NetOk.l0, if_pos (by omega), if_pos (by omega), if_pos (by omega), s2]
          simp only [Option.bind_some, if_true, impl_stationAt.f]
          rw [if_neg h1, e7]
          exact ⟨(h3 k).trans t1, t2⟩
theorem net_same (l : List SN) (hl : l.length ≤ 1048576) (R : Nat) (hR : ∀ j, j < l.length → (rd_T56 l (j : Int)).f1.length ≤ R) (hR' : R ≤ 1048576) :
    ∃ t, (t = true ↔ NOk l 0) ∧ ∀ k, (l.length + 1) * (l.length + 3) + R + 10 < k → spec_NetOk.f k l = some t ∧ impl_NetOk.f k l = some t := net_loop l hl R hR hR' l.length 0 (by omega)
/-! ### rows of stations -/
abbrev AS := S89
def convSt (x : AS) : SN := ⟨x.f0, x.f1.map convRoute⟩
theorem rdA_at (l : List AS) (i : Nat) (h : i < l.length) : l[i]? = some (rd_T89 l (i : Int)) := by
  simp [rd_T89, List.getD_eq_getElem?_getD, List.getElem?_eq_getElem h]
theorem rdS_at (l : List SN) (i : Nat) (h : i < l.length) : l[i]? = some (rd_T56 l (i : Int)) := by
  simp [rd_T56, List.getD_eq_getElem?_getD, List.getElem?_eq_getElem h]
theorem szSt_loop (l : List AS) (hl : l.length ≤ 1048576) (hm : ∀ x ∈ l, x.f1.length ≤ maxLen) : ∀ d k (i : Nat) (a : Int), i + d = l.length → d < k → 0 ≤ a → a ≤ 1048576 →
    laws_szStationS.l0 k l a (i : Int) = some (-1) ∨ ∃ m, 0 ≤ m ∧ laws_szStationS.l0 k l a (i : Int) = some m ∧ ∀ j, i ≤ j → j < l.length → (rd_T89 l (j : Int)).f1.length ≤ 1048576 := by
  intro d
  induction d with
  | zero =>
    intro k i a hi hk h0 h1
    obtain ⟨k, rfl⟩ : ∃ q, k = q + 1 := ⟨k - 1, by omega⟩
    right
    refine ⟨a, h0, ?_, fun j j1 j2 => by omega⟩
    rw [laws_szStationS.l0, if_neg (by omega)]
  | succ d ih =>
    intro k i a hi hk h0 h1
    obtain ⟨k, rfl⟩ : ∃ q, k = q + 1 := ⟨k - 1, by omega⟩
    have hx := hm _ (List.mem_of_getElem? (rdA_at l i (by omega)))
    rw [laws_szStationS.l0, if_pos (by omega), if_pos (by omega), laws_szStation.f, szRouteS _ a hx h0 h1, Option.bind_some, wrap_id (n := (i : Int) + 1) (by omega) (by omega), show (i : Int) + 1 = ((i + 1 : Nat) : Int) by omega]
    by_cases c : a < ((rd_T89 l (i : Int)).f1.length : Int)
    · left
      rw [if_pos c]
      simp
    · rw [if_neg c, if_neg (by omega), Option.bind_some, if_neg (by omega)]
      rcases ih k (i + 1) _ (by omega) (by omega) (show 0 ≤ a - ((rd_T89 l (i : Int)).f1.length : Int) by omega) (by omega) with h | ⟨m, m0, m1, m2⟩
      · exact .inl h
      · refine .inr ⟨m, m0, m1, fun j j1 j2 => ?_⟩
        by_cases hj : j = i
        · subst hj; omega
        · exact m2 j (by omega) j2
theorem toSt_loop (l : List AS) (hl : l.length ≤ 1048576) (hm : ∀ j, j < l.length → (rd_T89 l (j : Int)).f1.length ≤ 1048576) : ∀ d k (i : Nat) (acc : List SN), i + d = l.length → d + 1048577 < k → acc.length = l.length → (∀ j, j < i → acc[j]? = some (convSt (rd_T89 l (j : Int)))) →
    laws_toStationS.l0 k l acc (i : Int) = some (l.map convSt) := by
  intro d
  induction d with
  | zero =>
    intro k i acc hi hk ha hp
    obtain ⟨k, rfl⟩ : ∃ q, k = q + 1 := ⟨k - 1, by omega⟩
    rw [laws_toStationS.l0, if_neg (by omega)]
    congr 1
    apply List.ext_getElem?
    intro j
    by_cases hj : j < l.length
    · rw [hp j (by omega), List.getElem?_map, rdA_at l j hj]; rfl
    · rw [List.getElem?_eq_none (by omega), List.getElem?_eq_none (by simp; omega)]
  | succ d ih =>
    intro k i acc hi hk ha hp
    obtain ⟨k, rfl⟩ : ∃ q, k = q + 1 := ⟨k - 1, by omega⟩
    have hx := hm i (by omega)
    rw [laws_toStationS.l0, if_pos (by omega), if_pos (by omega), laws_toStation.f, toRouteS _ hx k (by omega), Option.bind_some, Option.bind_some, if_pos (by omega), wrap_id (n := (i : Int) + 1) (by omega) (by omega), show (i : Int) + 1 = ((i + 1 : Nat) : Int) by omega, Int.toNat_natCast]
    refine ih k (i + 1) _ (by omega) (by omega) (by simpa using ha) (fun j hj => ?_)
    by_cases hji : j = i
    · subst hji
      rw [List.getElem?_set_self (by omega)]
      rfl
    · rw [List.getElem?_set_ne (by omega)]
      exact hp j (by omega)
theorem eqSt_loop (l : List SN) (hl : l.length ≤ 1048576) (hm : ∀ j, j < l.length → (rd_T56 l (j : Int)).f1.length ≤ 1048576) : ∀ d k (i : Nat), i + d = l.length → d + 1048577 < k → laws_eqStationS.l0 k l l (i : Int) = some true := by
  intro d
  induction d with
  | zero =>
    intro k i hi hk
    obtain ⟨k, rfl⟩ : ∃ q, k = q + 1 := ⟨k - 1, by omega⟩
    rw [laws_eqStationS.l0, if_neg (by omega)]
  | succ d ih =>
    intro k i hi hk
    obtain ⟨k, rfl⟩ : ∃ q, k = q + 1 := ⟨k - 1, by omega⟩
    have hx := hm i (by omega)
    rw [laws_eqStationS.l0, if_pos (by omega), if_pos (by omega), if_pos (by omega), laws_eqStation.f, if_pos rfl, eqRouteS _ hx k (by omega), Option.bind_some, if_pos rfl, Option.bind_some, if_pos rfl, wrap_id (n := (i : Int) + 1) (by omega) (by omega), show (i : Int) + 1 = ((i + 1 : Nat) : Int) by omega]
    exact ih k (i + 1) (by omega) (by omega)
theorem toSt (l : List AS) (hl : l.length ≤ 1048576) (hm : ∀ j, j < l.length → (rd_T89 l (j : Int)).f1.length ≤ 1048576) (K : Nat) (hK : l.length + 1048577 < K) : laws_toStationS.f K l = some (l.map convSt) := by
  unfold laws_toStationS.f
  rw [if_pos (by omega), if_pos (by omega)]
  have h := toSt_loop l hl hm l.length K 0 (List.replicate ((l.length : Int)).toNat z56) (by omega) hK (by simp) (fun j hj => by omega)
  rw [Int.natCast_zero] at h
  exact h
theorem eqSt (l : List SN) (hl : l.length ≤ 1048576) (hm : ∀ j, j < l.length → (rd_T56 l (j : Int)).f1.length ≤ 1048576) (K : Nat) (hK : l.length + 1048577 < K) : laws_eqStationS.f K l l = some true := by
  unfold laws_eqStationS.f
  rw [if_pos rfl]
  have h := eqSt_loop l hl hm l.length K 0 (by omega) hK
  rw [Int.natCast_zero] at h
  exact h
theorem szSt (l : List AS) (hl : l.length ≤ 1048576) (hm : ∀ x ∈ l, x.f1.length ≤ maxLen) (K : Nat) (hK : l.length < K) :
    laws_szStationS.f K l 1048576 = some (-1) ∨ ∃ m, 0 ≤ m ∧ laws_szStationS.f K l 1048576 = some m ∧ ∀ j, j < l.length → (rd_T89 l (j : Int)).f1.length ≤ 1048576 := by
  unfold laws_szStationS.f
  rw [wrap_id (by omega) (by omega), if_neg (by omega)]
  have h := szSt_loop l hl hm l.length K 0 (1048576 - (l.length : Int)) (by omega) hK (by omega) (by omega)
  rw [Int.natCast_zero] at h
  rcases h with h | ⟨m, h0, h1, h2⟩
  · exact .inl h
  · exact .inr ⟨m, h0, h1, fun j hj => h2 j (Nat.zero_le _) hj⟩
theorem convSt_len (l : List AS) (hm : ∀ j, j < l.length → (rd_T89 l (j : Int)).f1.length ≤ 1048576) : ∀ j, j < (l.map convSt).length → (rd_T56 (l.map convSt) (j : Int)).f1.length ≤ 1048576 := by
  intro j hj
  have hj' : j < l.length := by simpa using hj
  have e := rdS_at (l.map convSt) j hj
  rw [List.getElem?_map, rdA_at l j hj'] at e
  rw [← Option.some.inj e]
  simpa [convSt] using hm j hj'
/-! ### ways -/
theorem shr_div (x b : Int) (h0 : 0 ≤ b) (h1 : b ≤ 16) : shr .i64 x b = x / shl .i64 1 b := by
  obtain ⟨n, rfl⟩ : ∃ n : Nat, b = (n : Int) := ⟨b.toNat, by omega⟩
  have hf : n = 0 ∨ n = 1 ∨ n = 2 ∨ n = 3 ∨ n = 4 ∨ n = 5 ∨ n = 6 ∨ n = 7 ∨ n = 8 ∨ n = 9 ∨ n = 10 ∨ n = 11 ∨ n = 12 ∨ n = 13 ∨ n = 14 ∨ n = 15 ∨ n = 16 := by omega
  unfold shr
  congr 1
  rcases hf with rfl | rfl | rfl | rfl | rfl | rfl | rfl | rfl | rfl | rfl | rfl | rfl | rfl | rfl | rfl | rfl | rfl <;> decide
theorem routeOk_bounds (a b v r : Int) (h : impl_RouteOk.f a b v r = some true) : 0 ≤ b ∧ b ≤ 16 ∧ 0 ≤ a ∧ a ≤ 65535 := by
  simp only [impl_RouteOk.f, impl_word.f, inAll', Option.bind_some] at h
  by_cases c1 : 0 ≤ b ∧ b ≤ 16
  · by_cases c2 : 0 ≤ a ∧ a ≤ 65535
    · exact ⟨c1.1, c1.2, c2.1, c2.2⟩
    · rw [decide_eq_true c1, decide_eq_false c2] at h; simp at h
  · rw [decide_eq_false c1] at h; simp at h
theorem routeOk_room (a b v r : Int) (h : impl_RouteOk.f a b v r = some true) : 1 ≤ r ∧ r ≤ 48 := by
  obtain ⟨b0, b1, a0, a1⟩ := routeOk_bounds a b v r h
  have hm := shl_pow (16 - b) (by omega) (by omega)
  have e : wrap64 (16 - b) = 16 - b := by unfold wrap64; omega
  have g0 : 0 ≤ 16 - b := by omega
  have c1 : 0 ≤ b ∧ b ≤ 16 := ⟨b0, b1⟩
  have c2 : 0 ≤ a ∧ a ≤ 65535 := ⟨a0, a1⟩
  simp only [impl_RouteOk.f, impl_word.f, inAll', Option.bind_some, decide_eq_true c1, decide_eq_true c2, if_true, e, if_pos g0] at h
  generalize shl .i64 1 (16 - b) = m at hm h
  have g1 : ¬ m = 0 := by omega
  rw [if_neg g1] at h
  by_cases c3 : a.tmod m = 0
  · rw [if_pos c3] at h
    by_cases c4 : 0 ≤ v ∧ v ≤ 65535
    · rw [decide_eq_true c4, if_pos rfl] at h
      have := Option.some.inj h
      exact of_decide_eq_true this
    · rw [decide_eq_false c4] at h; simp at h
  · rw [if_neg c3] at h; simp at h
def ROk (x : RT) : Prop := impl_RouteOk.f x.f0 x.f1 x.f2 x.f3 = some true
theorem fits_same (x : RT) (a : Int) (ha : 0 ≤ a ∧ a ≤ 65535) (hx : ROk x) : ∃ t, spec_RouteFits.f x.f0 x.f1 x.f2 x.f3 a = some t ∧ impl_Route_fits.f x.f0 x.f1 x.f2 x.f3 a = some t ∧ x.f1 < 17 := by
  obtain ⟨b0, b1, a0, a1⟩ := routeOk_bounds _ _ _ _ hx
  have hs : spec_RouteOk.f x.f0 x.f1 x.f2 x.f3 = some true := by
    obtain ⟨t, h1, h2⟩ := routeOk_same x.f0 x.f1 x.f2 x.f3
    rw [hx] at h2
    rw [h1, ← h2]
  have e : wrap64 (16 - x.f1) = 16 - x.f1 := by unfold wrap64; omega
  have hm := shl_pow (16 - x.f1) (by omega) (by omega)
  have g0 : 0 ≤ 16 - x.f1 := by omega
  have q1 := shr_div a (16 - x.f1) (by omega) (by omega)
  have q2 := shr_div x.f0 (16 - x.f1) (by omega) (by omega)
  refine ⟨(shr .i64 a (16 - x.f1) == shr .i64 x.f0 (16 - x.f1)), ?_, ?_, by omega⟩
  · simp only [spec_RouteFits.f, hs, Option.bind_some, if_true, inAll, decide_eq_true ha, spec_l6Rest.f, e, if_pos g0]
    rw [q1, q2]
    generalize shl .i64 1 (16 - x.f1) = m at hm
    have g1 : ¬ m = 0 := by omega
    simp only [if_neg g1]
    rw [Int.tdiv_eq_ediv_of_nonneg ha.1, Int.tdiv_eq_ediv_of_nonneg a0]
    have u1 : 0 ≤ a / m := Int.ediv_nonneg ha.1 (by omega)
    have u2 : a / m ≤ a := Int.ediv_le_self _ ha.1
    have u3 : 0 ≤ x.f0 / m := Int.ediv_nonneg a0 (by omega)
    have u4 : x.f0 / m ≤ x.f0 := Int.ediv_le_self _ a0
    rw [wrap_id (n := a / m) (by omega) (by omega), wrap_id (n := x.f0 / m) (by omega) (by omega)]
  · simp only [impl_Route_fits.f, e, if_pos g0]
theorem routes_all (l : List RT) (hl : l.length ≤ 1048576) : ∀ d k (i : Nat), i + d = l.length → impl_RoutesOk.l0 k l l (l.length : Int) (i : Int) = some true → ∀ j, i ≤ j → j < l.length → ROk (rd_T51 l (j : Int)) := by
  intro d
  induction d with
  | zero => intro k i hi h j j1 j2; omega
  | succ d ih =>
    intro k i hi h j j1 j2
    cases k with
    | zero => simp [impl_RoutesOk.l0] at h
    | succ k =>
      have e7 : wrap64 ((i : Int) + 1) = ((i + 1 : Nat) : Int) := by unfold wrap64; omega
      have e8 : wrap64 ((i : Int) - 1) = (i : Int) - 1 := by unfold wrap64; omega
      obtain ⟨u, _, hu⟩ := routeOk_same (rd_T51 l (i : Int)).f0 (rd_T51 l (i : Int)).f1 (rd_T51 l (i : Int)).f2 (rd_T51 l (i : Int)).f3
      rw [impl_RoutesOk.l0, if_pos (by omega), if_pos (by omega), if_pos (by omega), hu, Option.bind_some, e7, e8] at h
      cases u
      · simp at h
      · rw [if_pos rfl] at h
        have hrec : impl_RoutesOk.l0 k l l (l.length : Int) ((i + 1 : Nat) : Int) = some true := by
          by_cases c : (i : Int) > 0
          · rw [if_pos c, if_pos (by omega), if_pos (by omega)] at h
            obtain ⟨o, _, h⟩ := Option.bind_eq_some_iff.mp h
            by_cases c4 : o ≥ 0
            · rw [if_pos c4] at h; simp at h
            · rw [if_neg c4] at h; exact h
          · rw [if_neg c] at h; exact h
        by_cases hj : j = i
        · subst hj; exact hu
        · exact ih k (i + 1) (by omega) hrec j (by omega) j2
def conv5 (p : RT × Bool) : Int × Int × Int × Int × Bool := (p.1.f0, p.1.f1, p.1.f2, p.1.f3, p.2)
theorem routeTo_go (l : List RT) (hl : l.length ≤ 1048576) (a : Int) (ha : 0 ≤ a ∧ a ≤ 65535) (K0 : Nat) (hok : ∀ k, K0 < k → spec_RoutesOk.f k l = some true) (hall : ∀ j, j < l.length → ROk (rd_T51 l (j : Int))) :
    ∀ i : Nat, i ≤ l.length → ∀ k, K0 + 2 * i + 4 < k → spec_RouteTo.l0 k l a ((i : Int) - 1) = some (conv5 (RouteTo_.rt_find a 17 l i)) := by
  intro i
  induction i with
  | zero =>
    intro hi k hk
    obtain ⟨k, rfl⟩ : ∃ m, k = m + 1 + 1 := ⟨k - 2, by omega⟩
    rw [spec_RouteTo.l0, if_neg (by omega), spec_RouteTo.j1, if_neg (by simp)]
    rfl
  | succ i ih =>
    intro hi k hk
    obtain ⟨k, rfl⟩ : ∃ m, k = m + 1 + 1 := ⟨k - 2, by omega⟩
    obtain ⟨t, h1, h2, h3⟩ := fits_same (rd_T51 l (i : Int)) a ha (hall i (by omega))
    have hh : RouteTo_.rt_hit a 17 (rd_T51 l (i : Int)) = t := by
      unfold RouteTo_.rt_hit
      rw [h2, decide_eq_true h3]
      cases t <;> rfl
    rw [show ((i + 1 : Nat) : Int) - 1 = (i : Int) by omega, spec_RouteTo.l0, if_pos (by omega), hok (k + 1) (by omega), Option.bind_some, spec_RouteTo.j1, if_pos rfl, if_pos (by omega), if_pos (by omega), h1, Option.bind_some, RouteTo_.rt_find, hh]
    cases t
    · rw [if_neg (by simp), if_neg (by simp), wrap_id (n := (i : Int) - 1) (by omega) (by omega)]
      exact ih (by omega) k (by omega)
    · rw [if_pos rfl, if_pos rfl]
      rfl
theorem find_room (l : List RT) (a : Int) (hall : ∀ j, j < l.length → ROk (rd_T51 l (j : Int))) : ∀ i : Nat, i ≤ l.length → 0 ≤ (RouteTo_.rt_find a 17 l i).1.f3 := by
  intro i
  induction i with
  | zero => intro _; exact Int.le_refl 0
  | succ i ih =>
    intro hi
    rw [RouteTo_.rt_find]
    by_cases h : RouteTo_.rt_hit a 17 (rd_T51 l (i : Int)) = true
    · rw [if_pos h]
      have := routeOk_room _ _ _ _ (hall i (by omega))
      dsimp only
      omega
    · rw [if_neg h]; exact ih (by omega)
theorem routeTo_same (l : List RT) (hl : l.length ≤ 1048576) (a : Int) (ha : 0 ≤ a ∧ a ≤ 65535) (K0 : Nat) (hok : ∀ k, K0 < k → spec_RoutesOk.f k l = some true) (hall : ∀ j, j < l.length → ROk (rd_T51 l (j : Int))) :
    ∃ r, impl_routeTo.f l a 17 = some r ∧ 0 ≤ r.2.2.2.1 ∧ ∀ k, K0 + 2 * l.length + 4 < k → spec_RouteTo.f k l a = some r := by
  refine ⟨conv5 (RouteTo_.rt_find a 17 l l.length), ?_, find_room l a hall l.length (Nat.le_refl _), fun k hk => ?_⟩
  · have hl2 : l.all (RouteTo_.rt_ok a 17) = true := by
      rw [List.all_eq_true]
      intro x hx
      obtain ⟨j, hj, rfl⟩ := List.getElem_of_mem hx
      have e : rd_T51 l (j : Int) = l[j] := by simp [rd_T51, List.getD_eq_getElem?_getD, List.getElem?_eq_getElem hj]
      obtain ⟨t, _, h2, _⟩ := fits_same _ a ha (hall j hj)
      rw [e] at h2
      unfold RouteTo_.rt_ok
      rw [h2]
      simp
    unfold impl_routeTo.f
    have hl3 : l.length ≤ 140737488355328 := by omega
    rw [if_pos (And.intro hl3 hl2)]
    rfl
  · unfold spec_RouteTo.f
    rw [wrap_id (by omega) (by omega)]
    exact routeTo_go l hl a ha K0 hok hall l.length (Nat.le_refl _) k hk
theorem at_same (l : List SN) (hl : l.length ≤ 1048576) (v : Int) : ∀ d (i : Nat), i + d = l.length → ∀ k, d < k → spec_l8At.l0 k l v (i : Int) = some (impl_stationAt.at_ v (l.drop i) i) := by
  intro d
  induction d with
  | zero =>
    intro i hi k hk
    obtain ⟨k, rfl⟩ : ∃ m, k = m + 1 := ⟨k - 1, by omega⟩
    obtain rfl : i = l.length := by omega
    rw [spec_l8At.l0, if_neg (by omega), List.drop_length]
    rfl
  | succ d ih =>
    intro i hi k hk
    obtain ⟨k, rfl⟩ : ∃ m, k = m + 1 := ⟨k - 1, by omega⟩
    rw [spec_l8At.l0, if_pos (by omega), if_pos (by omega), impl_stationAt.step v l i i (by omega)]
    by_cases h : (rd_T56 l (i : Int)).f0 = v
    · rw [if_pos h, if_pos h]
    · rw [if_neg h, if_neg h, wrap_id (by omega) (by omega)]
      exact ih (i + 1) (by omega) k (by omega)
theorem at_bound (l : List SN) (v : Int) : ∀ d (i : Nat), i + d = l.length → impl_stationAt.at_ v (l.drop i) i = -1 ∨ (0 ≤ impl_stationAt.at_ v (l.drop i) i ∧ impl_stationAt.at_ v (l.drop i) i < (l.length : Int)) := by
  intro d
  induction d with
  | zero =>
    intro i hi
    obtain rfl : i = l.length := by omega
    rw [List.drop_length]
    exact .inl rfl
  | succ d ih =>
    intro i hi
    rw [impl_stationAt.step v l i i (by omega)]
    by_cases h : (rd_T56 l (i : Int)).f0 = v
    · rw [if_pos h]; right; omega
    · rw [if_neg h]; exact ih (i + 1) (by omega)
theorem station_routes (x : SN) (hR : x.f1.length ≤ 1048576) (h : SOk x) : (∀ k, x.f1.length + 3 < k → spec_RoutesOk.f k x.f1 = some true) ∧ (∀ k, x.f1.length + 3 < k → impl_RoutesOk.f k x.f1 = some true) ∧ ∀ j, j < x.f1.length → ROk (rd_T51 x.f1 (j : Int)) := by
  obtain ⟨t, ht⟩ := routes_uni x.f1 hR x.f1.length 0 (by omega)
  have hk := h (x.f1.length + 4) (by omega)
  simp only [impl_StationOk.f, impl_word.f, inAll', Option.bind_some] at hk
  have h1 : impl_RoutesOk.f (x.f1.length + 4) x.f1 = some true := by
    by_cases c : 0 ≤ x.f0 ∧ x.f0 ≤ 65535
    · rw [decide_eq_true c, if_pos rfl] at hk
      first | exact hk | (obtain ⟨u, hu, hk⟩ := Option.bind_eq_some_iff.mp hk; rw [hu]; exact hk)
    · rw [decide_eq_false c] at hk; simp at hk
  have h2 := (ht (x.f1.length + 4) (by omega)).2
  have h1' : impl_RoutesOk.l0 (x.f1.length + 4) x.f1 x.f1 (x.f1.length : Int) ((0 : Nat) : Int) = some true := h1
  rw [h1'] at h2
  obtain rfl : true = t := Option.some.inj h2
  exact ⟨fun k hk => (ht k hk).1, fun k hk => (ht k hk).2, fun j hj => routes_all x.f1 hR x.f1.length _ 0 (by omega) h1' j (Nat.zero_le _) hj⟩
/-- What the first step says of a room that is not 0. -/
def First (l : List SN) (t : Nat) (a room r : Int) : Prop := ((rd_T56 l (t : Int)).f0 = a → r = room) ∧ ((rd_T56 l (t : Int)).f0 ≠ a → ∃ q, impl_routeTo.f (rd_T56 l (t : Int)).f1 a 17 = some q ∧ q.2.2.2.2 = true ∧ r ≤ q.2.2.2.1)
theorem walk_same (l : List SN) (hl : l.length ≤ 1048576) (hR : ∀ j, j < l.length → (rd_T56 l (j : Int)).f1.length ≤ 1048576) (hn : NOk l 0) (a : Int) (ha : 0 ≤ a ∧ a ≤ 65535) (B : Nat) (hB : 4194404 ≤ B) :
    ∀ d c : Nat, c + d = l.length + 1 → ∀ (room : Int) (t : Nat), t < l.length → 0 ≤ room → ∃ r, (0 ≤ r ∧ r ≤ room) ∧ (r ≠ 0 → First l t a room r) ∧ ∀ k, d + B < k → spec_PathRoom.l0 k l a room (t : Int) (c : Int) = some r ∧ impl_PathRoom.l0 k l a room (t : Int) ((l.length : Int) + 1) (c : Int) = some r := by
  intro d
  induction d with
  | zero =>
    intro c hc room t ht hroom
    refine ⟨0, ⟨Int.le_refl _, hroom⟩, fun h => absurd rfl h, fun k hk => ?_⟩
    obtain ⟨k, rfl⟩ : ∃ m, k = m + 1 := ⟨k - 1, by omega⟩
    rw [spec_PathRoom.l0, if_neg (by omega), impl_PathRoom.l0, if_neg (by omega)]
    exact ⟨rfl, rfl⟩
  | succ d ih =>
    intro c hc room t ht hroom
    have e7 : wrap64 ((c : Int) + 1) = ((c + 1 : Nat) : Int) := by rw [wrap_id (by omega) (by omega)]; omega
    by_cases h0 : (rd_T56 l (t : Int)).f0 = a
    · refine ⟨room, ⟨hroom, Int.le_refl _⟩, fun _ => ⟨fun _ => rfl, fun h => absurd h0 h⟩, fun k hk => ?_⟩
      obtain ⟨k, rfl⟩ : ∃ m, k = m + 1 := ⟨k - 1, by omega⟩
      rw [spec_PathRoom.l0, if_pos (by omega), if_pos (by omega), if_pos (by omega), if_pos h0, impl_PathRoom.l0, if_pos (by omega), if_neg (by omega), if_pos (by omega), if_pos (by omega), if_pos h0]
      exact ⟨rfl, rfl⟩
    · have hr := hR t ht
      obtain ⟨s1, _, s2⟩ := station_routes _ hr (hn.2 t (Nat.zero_le _) ht).1
      obtain ⟨r, q1, q3, q2⟩ := routeTo_same _ hr a ha _ s1 s2
      have un : ∀ k, d + 1 + B < k + 1 → spec_PathRoom.l0 (k + 1) l a room (t : Int) (c : Int) = if r.2.2.2.2 = true then (if impl_stationAt.at_ r.2.2.1 l 0 < 0 then some 0 else spec_PathRoom.l0 k l a (mn room r.2.2.2.1) (impl_stationAt.at_ r.2.2.1 l 0) ((c + 1 : Nat) : Int)) else some 0 := by
        intro k hk
        have h8 := at_same l hl r.2.2.1 l.length 0 (by omega) k (by omega)
        rw [List.drop_zero, Int.natCast_zero] at h8
        rw [spec_PathRoom.l0, if_pos (by omega), if_pos (by omega), if_pos (by omega), if_neg h0, q2 k (by omega), Option.bind_some, spec_l8At.f, h8, Option.bind_some, e7]
      have im : ∀ k, impl_PathRoom.l0 (k + 1) l a room (t : Int) ((l.length : Int) + 1) (c : Int) = if r.2.2.2.2 = true then impl_PathRoom.l0 k l a (mn room r.2.2.2.1) (impl_stationAt.at_ r.2.2.1 l 0) ((l.length : Int) + 1) ((c + 1 : Nat) : Int) else some 0 := by
        intro k
        rw [impl_PathRoom.l0, if_pos (by omega), if_neg (by omega), if_pos (by omega), if_pos (by omega), if_neg h0, q1, Option.bind_some, impl_stationAt.f, Option.bind_some, e7]
      by_cases c5 : r.2.2.2.2 = true
      · have hb := at_bound l r.2.2.1 l.length 0 (by omega)
        rw [List.drop_zero] at hb
        generalize impl_stationAt.at_ r.2.2.1 l 0 = v at un im hb
        by_cases c6 : v < 0
        · refine ⟨0, ⟨Int.le_refl _, hroom⟩, fun h => absurd rfl h, fun k hk => ?_⟩
          obtain ⟨k, rfl⟩ : ∃ m, k = m + 1 + 1 := ⟨k - 2, by omega⟩
          rw [un (k + 1) (by omega), im, if_pos c5, if_pos c5, if_pos c6, impl_PathRoom.l0]
          by_cases c7 : ((c + 1 : Nat) : Int) < (l.length : Int) + 1
          · rw [if_pos c7, if_pos c6]; exact ⟨rfl, rfl⟩
          · rw [if_neg c7]; exact ⟨rfl, rfl⟩
        · obtain ⟨u, rfl⟩ : ∃ u : Nat, v = (u : Int) := ⟨v.toNat, by omega⟩
          have m0 : 0 ≤ mn room r.2.2.2.1 := by unfold mn; split <;> omega
          have m1 : mn room r.2.2.2.1 ≤ room := by unfold mn; split <;> omega
          have m2 : mn room r.2.2.2.1 ≤ r.2.2.2.1 := by unfold mn; split <;> omega
          obtain ⟨q, hb2, _, hq⟩ := ih (c + 1) (by omega) (mn room r.2.2.2.1) u (by omega) m0
          refine ⟨q, ⟨hb2.1, by omega⟩, fun _ => ⟨fun h => absurd h h0, fun _ => ⟨r, q1, c5, by omega⟩⟩, fun k hk => ?_⟩
          obtain ⟨k, rfl⟩ : ∃ m, k = m + 1 := ⟨k - 1, by omega⟩
          rw [un k (by omega), im, if_pos c5, if_pos c5, if_neg c6]
          exact hq k (by omega)
      · refine ⟨0, ⟨Int.le_refl _, hroom⟩, fun h => absurd rfl h, fun k hk => ?_⟩
        obtain ⟨k, rfl⟩ : ∃ m, k = m + 1 := ⟨k - 1, by omega⟩
        rw [un k (by omega), im, if_neg c5, if_neg c5]
        exact ⟨rfl, rfl⟩
theorem pathRoom_same (l : List SN) (hl : l.length ≤ 1048576) (hR : ∀ j, j < l.length → (rd_T56 l (j : Int)).f1.length ≤ 1048576) (a1 a2 : Int) (B : Nat) (hB : 4194404 ≤ B) :
    ∃ r, (0 ≤ r ∧ r ≤ 48) ∧ (r ≠ 0 → NOk l 0 ∧ (0 ≤ a1 ∧ a1 ≤ (l.length : Int) - 1) ∧ (0 ≤ a2 ∧ a2 ≤ 65535) ∧ First l a1.toNat a2 48 r) ∧ ∀ k, (l.length + 1) * (l.length + 3) + (l.length + 1) + 1 + B + 1048576 + 10 < k → spec_PathRoom.f k l a1 a2 = some r ∧ impl_PathRoom.f k l a1 a2 = some r := by
  obtain ⟨t, hn, ht⟩ := net_same l hl 1048576 hR (Nat.le_refl _)
  have z : ∀ k, 0 < k → spec_PathRoom.j0 k l a1 a2 true = some 0 ∧ impl_PathRoom.j0 k l a1 a2 true = some 0 := by
    intro k hk
    obtain ⟨k, rfl⟩ : ∃ m, k = m + 1 := ⟨k - 1, by omega⟩
    exact ⟨by rw [spec_PathRoom.j0, if_pos rfl], by rw [impl_PathRoom.j0, if_pos rfl]⟩
  have e1 : wrap64 ((l.length : Int) - 1) = (l.length : Int) - 1 := by rw [wrap_id (by omega) (by omega)]
  have e2 : wrap64 ((l.length : Int) + 1) = (l.length : Int) + 1 := by rw [wrap_id (by omega) (by omega)]
  have un : ∀ k, (l.length + 1) * (l.length + 3) + (l.length + 1) + 1 + B + 1048576 + 10 < k → spec_PathRoom.f k l a1 a2 = if t = true then (if decide (0 ≤ a1 ∧ a1 ≤ (l.length : Int) - 1) = true then spec_PathRoom.j0 k l a1 a2 (!decide (0 ≤ a2 ∧ a2 ≤ 65535)) else spec_PathRoom.j0 k l a1 a2 true) else spec_PathRoom.j0 k l a1 a2 true := by
    intro k hk
    rw [spec_PathRoom.f, (ht k (by omega)).1, Option.bind_some, e1, inAll, inAll, Option.bind_some, Option.bind_some]
  have im : ∀ k, (l.length + 1) * (l.length + 3) + (l.length + 1) + 1 + B + 1048576 + 10 < k → impl_PathRoom.f k l a1 a2 = if t = true then (if decide (0 ≤ a1 ∧ a1 ≤ (l.length : Int) - 1) = true then impl_PathRoom.j0 k l a1 a2 (!decide (0 ≤ a2 ∧ a2 ≤ 65535)) else impl_PathRoom.j0 k l a1 a2 true) else impl_PathRoom.j0 k l a1 a2 true := by
    intro k hk
    rw [impl_PathRoom.f, (ht k (by omega)).2, Option.bind_some, e1, inAll', impl_word.f, inAll', Option.bind_some, Option.bind_some, Option.bind_some]
  cases t
  · refine ⟨0, by omega, fun h => absurd rfl h, fun k hk => ?_⟩
    rw [un k hk, im k hk, if_neg (by simp), if_neg (by simp)]
    exact z k (by omega)
  · by_cases c1 : 0 ≤ a1 ∧ a1 ≤ (l.length : Int) - 1
    · by_cases c2 : 0 ≤ a2 ∧ a2 ≤ 65535
      · obtain ⟨q, hb2, hf, hq⟩ := walk_same l hl hR (hn.1 rfl) a2 c2 B hB (l.length + 1) 0 (by omega) 48 a1.toNat (by omega) (by omega)
        refine ⟨q, hb2, fun h => ⟨hn.1 rfl, c1, c2, hf h⟩, fun k hk => ?_⟩
        obtain ⟨k, rfl⟩ : ∃ m, k = m + 1 := ⟨k - 1, by omega⟩
        have h := hq k (by omega)
        rw [Int.natCast_zero, show ((a1.toNat : Nat) : Int) = a1 by omega] at h
        rw [un _ hk, im _ hk, if_pos rfl, if_pos rfl, decide_eq_true c1, decide_eq_true c2, if_pos rfl, if_pos rfl, spec_PathRoom.j0, impl_PathRoom.j0, if_neg (by simp), if_neg (by simp), e2]
        exact h
      · refine ⟨0, by omega, fun h => absurd rfl h, fun k hk => ?_⟩
        rw [un k hk, im k hk, if_pos rfl, if_pos rfl, decide_eq_true c1, decide_eq_false c2, if_pos rfl, if_pos rfl]
        exact z k (by omega)
    · refine ⟨0, by omega, fun h => absurd rfl h, fun k hk => ?_⟩
      rw [un k hk, im k hk, if_pos rfl, if_pos rfl, decide_eq_false c1, if_neg (by simp), if_neg (by simp)]
      exact z k (by omega)
theorem path_at (l : List AS) (hl : l.length ≤ 1048576) (hm : ∀ x ∈ l, x.f1.length ≤ maxLen) (a1 a2 : Int) : ∃ K, laws_FnExactPathRoom.f K l a1 a2 = some true := by
  by_cases hs : ∃ K, laws_szStationS.f K l 1048576 = some (-1)
  · obtain ⟨K, h⟩ := hs
    exact ⟨K, by unfold laws_FnExactPathRoom.f; rw [h, Option.bind_some, if_pos (by omega)]⟩
  · obtain ⟨B, hB⟩ : ∃ B : Nat, B = 4194404 := ⟨_, rfl⟩
    have hr : ∀ j, j < l.length → (rd_T89 l (j : Int)).f1.length ≤ 1048576 := by
      rcases szSt l hl hm (l.length + 1) (by omega) with h | ⟨m, m0, m1, hr⟩
      · exact absurd ⟨_, h⟩ hs
      · exact hr
    have hr2 := convSt_len l hr
    have hlm : (l.map convSt).length = l.length := List.length_map ..
    obtain ⟨r, _, _, hq⟩ := pathRoom_same (l.map convSt) (by rw [hlm]; exact hl) hr2 a1 a2 B (by omega)
    rw [hlm] at hq
    obtain ⟨K, hK⟩ : ∃ K, K = (l.length + 1) * (l.length + 3) + (l.length + 1) + 1 + B + 1048576 + 10 + l.length + 1048577 + 1 := ⟨_, rfl⟩
    refine ⟨K, ?_⟩
    obtain ⟨t1, t2⟩ := hq K (by omega)
    have heq := eqSt (l.map convSt) (by rw [hlm]; exact hl) hr2 K (by rw [hlm]; omega)
    have hto := toSt l hl hr K (by omega)
    unfold laws_FnExactPathRoom.f
    rcases szSt l hl hm K (by omega) with h | ⟨m, m0, m1, _⟩
    · exact absurd ⟨_, h⟩ hs
    · generalize l.map convSt = L at t1 t2 heq hto
      rw [m1, Option.bind_some, if_neg (by omega), hto, Option.bind_some, t1, Option.bind_some, Option.bind_some, t2, Option.bind_some, if_pos rfl, Option.bind_some, heq, Option.bind_some, if_pos rfl]
theorem main : GFnExactPathRoom.Stmt := by
  intro l a1 a2 hl _ _
  obtain ⟨hl, hg⟩ := hl
  have hm : ∀ x ∈ l, x.f1.length ≤ maxLen := fun x hx => (hg x hx).2.1
  by_cases h : (1048576 : Int) < (l.length : Int)
  · refine ⟨1, ?_⟩
    unfold maxLen at hl
    simp only [laws_FnExactPathRoom.f, laws_szStationS.f]
    rw [wrap_id (by omega) (by omega), if_pos (by omega)]
    simp
  · exact path_at l (by omega) hm a1 a2
end FnExactPathRoom_
theorem FnExactPathRoom : GFnExactPathRoom.Stmt := FnExactPathRoom_.main
end Go.Proofs.Ytdclgfdkomoedaa.Pure
