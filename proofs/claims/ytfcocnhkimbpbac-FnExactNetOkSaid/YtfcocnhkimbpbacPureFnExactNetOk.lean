/- The law FnExactNetOk over numbers and lists: the program's NetOk answers as the reference's, and the stations stay as they were. No conditions but the kinds' ranges. -/
import Derived.Test.YtfcocnhkimbpbacGFnExactNetOk
namespace Go.Proofs.Ytfcocnhkimbpbac.Pure
open Go Go.RowKit Go.Proofs.Ytfcocnhkimbpbac.MFnExactNetOk Go.Proofs.YtfcocnhkimbpbacV.PrintWords Go.Proofs.YtfcocnhkimbpbacV.PrintLast
set_option linter.unusedVariables false
set_option linter.unusedSimpArgs false
namespace FnExactNetOk_
theorem i64_bounds {x : Int} (h : (Lit.int .i64 x).wf = true) : -9223372036854775808 ≤ x ∧ x ≤ 9223372036854775807 := by
  simpa [Lit.wf, IntKind.min, IntKind.max, IntKind.signed, IntKind.bits] using h
theorem inAll (x y z : Int) : spec_l1In.f x y z = some (decide (y ≤ x ∧ x ≤ z)) := by
  unfold spec_l1In.f
  by_cases h : x ≥ y
  · rw [if_pos h]; congr 1; simp only [decide_eq_decide]; omega
  · rw [if_neg h]; congr 1; symm; simp only [decide_eq_false_iff_not]; omega
theorem inAll' (x y z : Int) : impl_in.f x y z = some (decide (y ≤ x ∧ x ≤ z)) := inAll x y z
theorem wl {n m : Int} (h : n = m) (h0 : -9223372036854775808 ≤ m) (h1 : m ≤ 9223372036854775807) : wrap64 n = m := by
  subst h
  unfold wrap64
  omega
/-! ### copies, equality and sizes of rows of bytes -/
theorem wrap_id {n : Int} (h : -9223372036854775808 ≤ n) (h' : n ≤ 9223372036854775807) : wrap64 n = n := by
  unfold wrap64; omega
/-- A loop that fills a row, an element at a time, from the elements of another one. -/
theorem fills {α : Type} (n : Nat) (hn : n ≤ 281474976710656) (L : Nat → List α → Int → Option (List α)) (g : Nat → α)
    (h : ∀ k acc i, k < n + 1 → L (k + 1) acc i = if i < (n : Int) then (if 0 ≤ i then (if i < (acc.length : Int) then L k (acc.set i.toNat (g i.toNat)) (wrap64 (i + 1)) else none) else none) else some acc) :
    ∀ d k (i : Nat) (acc : List α), i + d = n → k = d + 1 → acc.length = n → (∀ j, j < i → acc[j]? = some (g j)) → ∃ r, L k acc (i : Int) = some r ∧ r.length = n ∧ ∀ j, j < n → r[j]? = some (g j) := by
  intro d
  induction d with
  | zero =>
    intro k i acc hi hk hl hp
    subst hk
    refine ⟨acc, ?_, hl, fun j hj => hp j (by omega)⟩
    rw [h _ _ _ (by omega), if_neg (by omega)]
  | succ d ih =>
    intro k i acc hi hk hl hp
    subst hk
    obtain ⟨r, hr, hrl, hrp⟩ := ih (d + 1) (i + 1) (acc.set i (g i)) (by omega) rfl (by simpa using hl) (fun j hj => by
      by_cases hji : j = i
      · subst hji
        simp [List.getElem?_set, hl]
        omega
      · rw [List.getElem?_set_ne (by omega)]
        exact hp j (by omega))
    refine ⟨r, ?_, hrl, hrp⟩
    rw [h _ _ _ (by omega), if_pos (by omega), if_pos (by omega), if_pos (by omega), wrap_id (by omega) (by omega)]
    simpa using hr
theorem rd_at (l : List Int) (i : Nat) (h : i < l.length) : l[i]? = some (rd l (i : Int)) := by
  unfold rd
  rw [List.getD_eq_getElem?_getD, Int.toNat_natCast, List.getElem?_eq_getElem h]
  rfl
/-! ### rows of structs: copied, compared -/
/-- A loop that turns a row into another one, an element at a time. -/
theorem turns {α : Type} (n : Nat) (hn : n ≤ 281474976710656) (K : Nat) (L : Nat → List α → Int → Option (List α)) (g : Nat → α)
    (h : ∀ k acc i, K ≤ k → acc.length = n → 0 ≤ i → i ≤ (n : Int) → L (k + 1) acc i = if i < (n : Int) then L k (acc.set i.toNat (g i.toNat)) (i + 1) else some acc) :
    ∀ d k (i : Nat) (acc : List α), i + d = n → K + d < k → acc.length = n → (∀ j, j < i → acc[j]? = some (g j)) → L k acc (i : Int) = some ((List.range n).map g) := by
  intro d
  induction d with
  | zero =>
    intro k i acc hi hk hl hp
    obtain ⟨k, rfl⟩ : ∃ m, k = m + 1 := ⟨k - 1, by omega⟩
    rw [h _ _ _ (by omega) hl (by omega) (by omega), if_neg (by omega)]
    congr 1
    apply List.ext_getElem?
    intro j
    by_cases hj : j < n
    · rw [hp j (by omega)]; simp [hj]
    · rw [List.getElem?_eq_none (by omega), List.getElem?_eq_none (by simp; omega)]
  | succ d ih =>
    intro k i acc hi hk hl hp
    obtain ⟨k, rfl⟩ : ∃ m, k = m + 1 := ⟨k - 1, by omega⟩
    rw [h _ _ _ (by omega) hl (by omega) (by omega), if_pos (by omega)]
    exact ih k (i + 1) _ (by omega) (by omega) (by simpa using hl) (fun j hj => by
      by_cases hji : j = i
      · subst hji
        simp [List.getElem?_set, hl]
        omega
      · simp only [Int.toNat_natCast]
        rw [List.getElem?_set_ne (by omega)]
        exact hp j (by omega))
theorem turns_map {α β : Type} (l : List β) (d : β) (f : β → α) : (List.range l.length).map (fun i => f (l.getD i d)) = l.map f := by
  apply List.ext_getElem?
  intro j
  by_cases hj : j < l.length
  · simp [hj]
  · rw [List.getElem?_eq_none (by simp; omega), List.getElem?_eq_none (by simp; omega)]
/-- A loop that compares two rows, an element at a time. -/
theorem equals {α : Type} (l : List α) (hn : l.length ≤ 281474976710656) (K : Nat) (L : Nat → Int → Option Bool)
    (h : ∀ k i, K ≤ k → 0 ≤ i → i ≤ (l.length : Int) → L (k + 1) i = if i < (l.length : Int) then L k (i + 1) else some true) :
    ∀ d k (i : Nat), i + d = l.length → K + d < k → L k (i : Int) = some true := by
  intro d
  induction d with
  | zero =>
    intro k i hi hk
    obtain ⟨k, rfl⟩ : ∃ m, k = m + 1 := ⟨k - 1, by omega⟩
    rw [h _ _ (by omega) (by omega) (by omega), if_neg (by omega)]
  | succ d ih =>
    intro k i hi hk
    obtain ⟨k, rfl⟩ : ∃ m, k = m + 1 := ⟨k - 1, by omega⟩
    rw [h _ _ (by omega) (by omega) (by omega), if_pos (by omega)]
    exact ih k (i + 1) (by omega) (by omega)

/-! ### rows of Route -/
def convRoute (x : S138) : S118 := ⟨x.f0, x.f1, x.f2, x.f3⟩
theorem toRouteS (l : List S138) (hl : l.length ≤ 1048576) (k : Nat) (hk : l.length < k) : laws_toRouteS.f k l = some (l.map convRoute) := by
  unfold laws_toRouteS.f
  rw [if_pos (by omega), if_pos (by omega), ← turns_map l z138 convRoute]
  exact turns l.length (by omega) 0 (fun k acc i => laws_toRouteS.l0 k l acc i) (fun i => convRoute (l.getD i z138)) (fun k acc i _ ha h0 h1 => by
    simp only [laws_toRouteS.l0, laws_toRoute.f, Option.bind_some]
    by_cases hi : i < (l.length : Int)
    · rw [if_pos hi, if_pos hi, if_pos h0, if_pos (by omega), wrap_id (by omega) (by omega)]
      rfl
    · rw [if_neg hi, if_neg hi]) l.length k 0 _ (by omega) (by omega) (by simp) (fun j hj => by omega)
theorem szRouteS (l : List S138) (a : Int) (hl : l.length ≤ maxLen) (ha : 0 ≤ a) (ha' : a ≤ 1048576) : laws_szRouteS.f l a = some (if a < (l.length : Int) then -1 else a - (l.length : Int)) := by
  unfold laws_szRouteS.f
  unfold maxLen at hl
  rw [wrap_id (by omega) (by omega)]
  by_cases h : a < (l.length : Int)
  · rw [if_pos (by omega), if_pos h]
  · rw [if_neg (by omega), if_neg h]
theorem eqRouteS (l : List S118) (hl : l.length ≤ 1048576) (k : Nat) (hk : l.length < k) : laws_eqRouteS.f k l l = some true := by
  unfold laws_eqRouteS.f
  rw [if_pos rfl]
  exact equals l (by omega) 0 (fun k i => laws_eqRouteS.l0 k l l i) (fun k i _ h0 h1 => by
    simp only [laws_eqRouteS.l0, laws_eqRoute.f, if_true, Option.bind_some]
    by_cases hi : i < (l.length : Int)
    · rw [if_pos hi, if_pos hi, if_pos h0, if_pos hi, wrap_id (by omega) (by omega)]
    · rw [if_neg hi, if_neg hi]) l.length k 0 (by omega) (by omega)
/-! ### routes -/
theorem shl_pow (b : Int) (h0 : 0 ≤ b) (h1 : b ≤ 16) : 1 ≤ shl .i64 1 b ∧ shl .i64 1 b ≤ 65536 := by
  obtain ⟨n, rfl⟩ : ∃ n : Nat, b = (n : Int) := ⟨b.toNat, by omega⟩
  have hf : n = 0 ∨ n = 1 ∨ n = 2 ∨ n = 3 ∨ n = 4 ∨ n = 5 ∨ n = 6 ∨ n = 7 ∨ n = 8 ∨ n = 9 ∨ n = 10 ∨ n = 11 ∨ n = 12 ∨ n = 13 ∨ n = 14 ∨ n = 15 ∨ n = 16 := by omega
  rcases hf with rfl | rfl | rfl | rfl | rfl | rfl | rfl | rfl | rfl | rfl | rfl | rfl | rfl | rfl | rfl | rfl | rfl <;> decide
theorem routeOk_same (a b v r : Int) : ∃ t, spec_RouteOk.f a b v r = some t ∧ impl_RouteOk.f a b v r = some t := by
  simp only [spec_RouteOk.f, impl_RouteOk.f, spec_l6Rest.f, impl_word.f, inAll, inAll', Option.bind_some]
  by_cases c1 : 0 ≤ b ∧ b ≤ 16
  · rw [decide_eq_true c1]
    simp only [if_true]
    by_cases c2 : 0 ≤ a ∧ a ≤ 65535
    · rw [decide_eq_true c2]
      simp only [if_true]
      have e : wrap64 (16 - b) = 16 - b := by unfold wrap64; omega
      have hs := shl_pow (16 - b) (by omega) (by omega)
      rw [e]
      have g0 : 0 ≤ 16 - b := by omega
      simp only [if_pos g0, Option.bind_some]
      generalize shl .i64 1 (16 - b) = m at hs
      have g1 : ¬ m = 0 := by omega
      simp only [if_neg g1]
      by_cases c3 : a.tmod m = 0
      · simp only [if_pos c3]
        by_cases c4 : 0 ≤ v ∧ v ≤ 65535
        · rw [decide_eq_true c4]; exact ⟨_, by rw [if_pos rfl], by rw [if_pos rfl]⟩
        · rw [decide_eq_false c4]; exact ⟨false, by simp, by simp⟩
      · simp only [if_neg c3]; exact ⟨false, rfl, rfl⟩
    · rw [decide_eq_false c2]; exact ⟨false, by simp, by simp⟩
  · rw [decide_eq_false c1]; exact ⟨false, by simp, by simp⟩
theorem compare_is (a b : Int) : cmp_Compare_int.f a b = some (if a < b then -1 else if a > b then 1 else 0) := by
  simp only [cmp_Compare_int.f, cmp_isNaN_int.f, Option.bind_some, bne_self_eq_false, Bool.false_eq_true, if_false]
  by_cases h : a < b
  · rw [if_pos h, if_pos h]
  · rw [if_neg h, if_neg h]
    by_cases h' : a > b
    · rw [if_pos h', if_pos h']
    · rw [if_neg h', if_neg h']
theorem or_is (a b : Int) (k : Nat) : cmp_Or_int.f (k + 3) [a, b] = some (if a = 0 then b else a) := by
  have w1 : wrap64 (0 + 1) = 1 := by unfold wrap64; omega
  have w2 : wrap64 (1 + 1) = 2 := by unfold wrap64; omega
  simp only [cmp_Or_int.f, cmp_Or_int.l0, List.length_cons, List.length_nil, w1, w2]
  by_cases h : a = 0
  · by_cases h' : b = 0
    · simp [rd, h, h']
    · simp [rd, h, h']
  · simp [rd, h]
theorem order_is (a0 b0 v0 r0 a1 b1 v1 r1 : Int) (k : Nat) : ∃ o, impl_Route_order.f (k + 3) a0 b0 v0 r0 a1 b1 v1 r1 = some o ∧ (o ≥ 0 ↔ b0 > b1 ∨ b0 = b1 ∧ a0 ≥ a1) := by
  simp only [impl_Route_order.f, compare_is, or_is, Option.bind_some]
  refine ⟨_, rfl, ?_⟩
  by_cases h1 : b0 < b1
  · rw [if_pos h1]; simp; omega
  · rw [if_neg h1]
    by_cases h2 : b0 > b1
    · rw [if_pos h2]; simp; omega
    · rw [if_neg h2, if_pos rfl]
      by_cases h3 : a0 < a1
      · rw [if_pos h3]; simp; omega
      · rw [if_neg h3]
        by_cases h4 : a0 > a1
        · rw [if_pos h4]; simp; omega
        · rw [if_neg h4]; simp; omega
theorem routes_loops (l : List S118) (hl : l.length ≤ 1048576) :
    ∀ d k (i : Nat), i + d = l.length → d + 3 < k → ∃ t, spec_RoutesOk.l0 k l (i : Int) = some t ∧ impl_RoutesOk.l0 k l l (l.length : Int) (i : Int) = some t := by
  intro d
  induction d with
  | zero =>
    intro k i hi hk
    obtain ⟨k, rfl⟩ : ∃ m, k = m + 1 := ⟨k - 1, by omega⟩
    refine ⟨decide ((l.length : Int) ≤ 8), ?_, ?_⟩
    · rw [spec_RoutesOk.l0, if_neg (by omega)]
    · rw [impl_RoutesOk.l0, if_neg (by omega)]
  | succ d ih =>
    intro k i hi hk
    obtain ⟨k, rfl⟩ : ∃ m, k = m + 1 := ⟨k - 1, by omega⟩
    obtain ⟨t, ht1, ht2⟩ := ih k (i + 1) (by omega) (by omega)
    rw [spec_RoutesOk.l0, impl_RoutesOk.l0]
    have g1 : (i : Int) < (l.length : Int) := by omega
    have g0 : 0 ≤ (i : Int) := by omega
    simp only [if_pos g1, if_pos g0]
    have e7 : wrap64 ((i : Int) + 1) = ((i + 1 : Nat) : Int) := by unfold wrap64; omega
    have e8 : wrap64 ((i : Int) - 1) = (i : Int) - 1 := by unfold wrap64; omega
    rw [e7, e8]
    generalize rd_T118 l (i : Int) = x
    generalize rd_T118 l ((i : Int) - 1) = y
    obtain ⟨u, hu1, hu2⟩ := routeOk_same x.f0 x.f1 x.f2 x.f3
    rw [hu1, hu2, Option.bind_some, Option.bind_some]
    cases u
    · exact ⟨false, by simp, by simp⟩
    · simp only [if_true]
      by_cases c3 : (i : Int) > 0
      · have g2 : 0 ≤ (i : Int) - 1 := by omega
        have g3 : (i : Int) - 1 < (l.length : Int) := by omega
        simp only [if_pos c3, if_pos g2, if_pos g3]
        obtain ⟨k', rfl⟩ : ∃ m, k = m + 3 := ⟨k - 3, by omega⟩
        obtain ⟨o, ho, hoo⟩ := order_is y.f0 y.f1 y.f2 y.f3 x.f0 x.f1 x.f2 x.f3 k'
        rw [ho, Option.bind_some]
        by_cases c4 : y.f1 > x.f1
        · rw [if_pos c4, if_pos (hoo.2 (Or.inl c4))]; exact ⟨false, rfl, rfl⟩
        · rw [if_neg c4]
          by_cases c5 : y.f1 = x.f1
          · rw [if_pos c5]
            by_cases c6 : y.f0 ≥ x.f0
            · rw [if_pos c6, if_pos (hoo.2 (Or.inr ⟨c5, c6⟩))]; exact ⟨false, rfl, rfl⟩
            · rw [if_neg c6, if_neg (fun h => by rcases hoo.1 h with h | h <;> omega)]; exact ⟨t, ht1, ht2⟩
          · rw [if_neg c5, if_neg (fun h => by rcases hoo.1 h with h | h <;> omega)]; exact ⟨t, ht1, ht2⟩
      · rw [if_neg c3, if_neg c3]; exact ⟨t, ht1, ht2⟩
theorem routesOk_same (l : List S118) (hl : l.length ≤ 1048576) (k : Nat) (hk : l.length + 3 < k) : ∃ t, spec_RoutesOk.f k l = some t ∧ impl_RoutesOk.f k l = some t :=
  routes_loops l hl l.length k 0 (by omega) hk
/-! ### nets -/
abbrev RT := S118
abbrev SN := S79
theorem routes_uni (l : List RT) (hl : l.length ≤ 1048576) :
    ∀ d (i : Nat), i + d = l.length → ∃ t, ∀ k, d + 3 < k → spec_RoutesOk.l0 k l (i : Int) = some t ∧ impl_RoutesOk.l0 k l l (l.length : Int) (i : Int) = some t := by
  intro d
  induction d with
  | zero =>
    intro i hi
    refine ⟨decide ((l.length : Int) ≤ 8), fun k hk => ?_⟩
    obtain ⟨k, rfl⟩ : ∃ m, k = m + 1 := ⟨k - 1, by omega⟩
    refine ⟨?_, ?_⟩
    · rw [spec_RoutesOk.l0, if_neg (by omega)]
    · rw [impl_RoutesOk.l0, if_neg (by omega)]
  | succ d ih =>
    intro i hi
    obtain ⟨t, ht⟩ := ih (i + 1) (by omega)
    have e7 : wrap64 ((i : Int) + 1) = ((i + 1 : Nat) : Int) := by unfold wrap64; omega
    have e8 : wrap64 ((i : Int) - 1) = (i : Int) - 1 := by unfold wrap64; omega
    generalize hx : rd_T118 l (i : Int) = x
    generalize hy : rd_T118 l ((i : Int) - 1) = y
    obtain ⟨u, hu1, hu2⟩ := routeOk_same x.f0 x.f1 x.f2 x.f3
    have g1 : (i : Int) < (l.length : Int) := by omega
    have g0 : 0 ≤ (i : Int) := by omega
    have un : ∀ m, spec_RoutesOk.l0 (m + 1) l (i : Int) = if u = true then (if (i : Int) > 0 then (if 0 ≤ (i : Int) - 1 then (if (i : Int) - 1 < (l.length : Int) then (if y.f1 > x.f1 then some false else if y.f1 = x.f1 then (if y.f0 ≥ x.f0 then some false else spec_RoutesOk.l0 m l ((i + 1 : Nat) : Int)) else spec_RoutesOk.l0 m l ((i + 1 : Nat) : Int)) else none) else none) else spec_RoutesOk.l0 m l ((i + 1 : Nat) : Int)) else some false := by
      intro m
      rw [spec_RoutesOk.l0, if_pos g1, if_pos g0, e7, e8, hx, hy, hu1, Option.bind_some]
    have im : ∀ m, impl_RoutesOk.l0 (m + 1) l l (l.length : Int) (i : Int) = if u = true then (if (i : Int) > 0 then (if 0 ≤ (i : Int) - 1 then (if (i : Int) - 1 < (l.length : Int) then ((impl_Route_order.f m y.f0 y.f1 y.f2 y.f3 x.f0 x.f1 x.f2 x.f3).bind fun o => if o ≥ 0 then some false else impl_RoutesOk.l0 m l l (l.length : Int) ((i + 1 : Nat) : Int)) else none) else none) else impl_RoutesOk.l0 m l l (l.length : Int) ((i + 1 : Nat) : Int)) else some false := by
      intro m
      rw [impl_RoutesOk.l0, if_pos g1, if_pos g0, if_pos g1, e7, e8, hx, hy, hu2, Option.bind_some]
    cases u
    · refine ⟨false, fun k hk => ?_⟩
      obtain ⟨k, rfl⟩ : ∃ m, k = m + 1 := ⟨k - 1, by omega⟩
      rw [un, im]
      exact ⟨by simp, by simp⟩
    · by_cases c3 : (i : Int) > 0
      · have g2 : 0 ≤ (i : Int) - 1 := by omega
        have g3 : (i : Int) - 1 < (l.length : Int) := by omega
        by_cases c7 : y.f1 > x.f1 ∨ y.f1 = x.f1 ∧ y.f0 ≥ x.f0
        · refine ⟨false, fun k hk => ?_⟩
          obtain ⟨k, rfl⟩ : ∃ m, k = m + 3 + 1 := ⟨k - 4, by omega⟩
          obtain ⟨o, ho, hoo⟩ := order_is y.f0 y.f1 y.f2 y.f3 x.f0 x.f1 x.f2 x.f3 k
          rw [un, im, ho, Option.bind_some, if_pos rfl, if_pos rfl, if_pos c3, if_pos c3, if_pos g2, if_pos g2, if_pos g3, if_pos g3, if_pos (hoo.2 c7)]
          refine ⟨?_, rfl⟩
          rcases c7 with h | ⟨h, h'⟩
          · rw [if_pos h]
          · rw [if_neg (by omega), if_pos h, if_pos h']
        · refine ⟨t, fun k hk => ?_⟩
          obtain ⟨k, rfl⟩ : ∃ m, k = m + 3 + 1 := ⟨k - 4, by omega⟩
          obtain ⟨o, ho, hoo⟩ := order_is y.f0 y.f1 y.f2 y.f3 x.f0 x.f1 x.f2 x.f3 k
          obtain ⟨t1, t2⟩ := ht (k + 3) (by omega)
          rw [un, im, ho, Option.bind_some, if_pos rfl, if_pos rfl, if_pos c3, if_pos c3, if_pos g2, if_pos g2, if_pos g3, if_pos g3, if_neg (fun h => c7 (hoo.1 h))]
          refine ⟨?_, t2⟩
          rw [if_neg (by omega)]
          by_cases h : y.f1 = x.f1
          · rw [if_pos h, if_neg (by omega)]; exact t1
          · rw [if_neg h]; exact t1
      · refine ⟨t, fun k hk => ?_⟩
        obtain ⟨k, rfl⟩ : ∃ m, k = m + 1 := ⟨k - 1, by omega⟩
        obtain ⟨t1, t2⟩ := ht k (by omega)
        rw [un, im, if_pos rfl, if_pos rfl, if_neg c3, if_neg c3]
        exact ⟨t1, t2⟩
theorem station_uni (a : Int) (l : List RT) (hl : l.length ≤ 1048576) : ∃ t, ∀ k, l.length + 3 < k → spec_StationOk.f k a l = some t ∧ impl_StationOk.f k a l = some t := by
  obtain ⟨t, ht⟩ := routes_uni l hl l.length 0 (by omega)
  by_cases c : 0 ≤ a ∧ a ≤ 65535
  · refine ⟨t, fun k hk => ?_⟩
    obtain ⟨h1, h2⟩ := ht k hk
    simp only [spec_StationOk.f, impl_StationOk.f, impl_word.f, inAll, inAll', Option.bind_some, decide_eq_true c, if_true]
    rw [show spec_RoutesOk.f k l = some t from h1, show impl_RoutesOk.f k l = some t from h2]
    exact ⟨rfl, rfl⟩
  · refine ⟨false, fun k hk => ?_⟩
    simp only [spec_StationOk.f, impl_StationOk.f, impl_word.f, inAll, inAll', Option.bind_some, decide_eq_false c, Bool.false_eq_true, if_false]
    exact ⟨trivial, trivial⟩
/-- A station that is ok. -/
def SOk (x : SN) : Prop := ∀ k, x.f1.length + 3 < k → impl_StationOk.f k x.f0 x.f1 = some true
def NOk (l : List SN) (i : Nat) : Prop := l.length ≤ 5 ∧ ∀ j, i ≤ j → j < l.length → SOk (rd_T79 l (j : Int)) ∧ ∀ m, m < j → (rd_T79 l (m : Int)).f0 ≠ (rd_T79 l (j : Int)).f0
theorem net_inner (l : List SN) (hl : l.length ≤ 1048576) (i : Nat) (hi : i < l.length) (a : Int) (ha : (rd_T79 l (i : Int)).f0 = a) : ∀ d j, j + d = i →
    (impl_stationAt.at_ a (l.drop j) j < (i : Int) ∧ (∃ m, j ≤ m ∧ m < i ∧ (rd_T79 l (m : Int)).f0 = a) ∧ ∀ k, d + 1 < k → spec_NetOk.l1 k l (i : Int) (j : Int) = some false) ∨
    (¬ impl_stationAt.at_ a (l.drop j) j < (i : Int) ∧ (∀ m, j ≤ m → m < i → (rd_T79 l (m : Int)).f0 ≠ a) ∧ ∀ k, spec_NetOk.l1 (k + d + 1) l (i : Int) (j : Int) = spec_NetOk.l0 k l ((i + 1 : Nat) : Int)) := by
  intro d
  induction d with
  | zero =>
    intro j hj
    obtain rfl : j = i := by omega
    right
    refine ⟨?_, fun m h1 h2 => by omega, fun k => ?_⟩
    · rw [impl_stationAt.step a l j j hi, if_pos ha]; omega
    · rw [spec_NetOk.l1, if_neg (by omega), wrap_id (n := (j : Int) + 1) (by omega) (by omega), show (j : Int) + 1 = ((j + 1 : Nat) : Int) by omega]
  | succ d ih =>
    intro j hj
    by_cases hx : (rd_T79 l (j : Int)).f0 = a
    · left
      refine ⟨?_, ⟨j, by omega, by omega, hx⟩, fun k hk => ?_⟩
      · rw [impl_stationAt.step a l j j (by omega), if_pos hx]; omega
      · obtain ⟨k, rfl⟩ : ∃ q, k = q + 1 := ⟨k - 1, by omega⟩
        rw [spec_NetOk.l1, if_pos (by omega), if_pos (by omega), if_pos (by omega), if_pos (by omega), if_pos (by omega), if_pos (by rw [hx, ha])]
    · have e1 : ∀ k, spec_NetOk.l1 (k + 1) l (i : Int) (j : Int) = spec_NetOk.l1 k l (i : Int) ((j + 1 : Nat) : Int) := by
        intro k
        rw [spec_NetOk.l1, if_pos (by omega), if_pos (by omega), if_pos (by omega), if_pos (by omega), if_pos (by omega), if_neg (by rw [ha]; exact hx), wrap_id (n := (j : Int) + 1) (by omega) (by omega), show (j : Int) + 1 = ((j + 1 : Nat) : Int) by omega]
      have e2 : impl_stationAt.at_ a (l.drop j) j = impl_stationAt.at_ a (l.drop (j + 1)) (j + 1) := by
        rw [impl_stationAt.step a l j j (by omega), if_neg hx]
      rcases ih (j + 1) (by omega) with ⟨h1, ⟨m, m1, m2, m3⟩, h3⟩ | ⟨h1, h2, h3⟩
      · left
        refine ⟨by rw [e2]; exact h1, ⟨m, by omega, m2, m3⟩, fun k hk => ?_⟩
        obtain ⟨k, rfl⟩ : ∃ q, k = q + 1 := ⟨k - 1, by omega⟩
        rw [e1]
        exact h3 k (by omega)
      · right
        refine ⟨by rw [e2]; exact h1, fun m m1 m2 => ?_, fun k => ?_⟩
        · by_cases hm : m = j
          · subst hm; exact hx
          · exact h2 m (by omega) m2
        · rw [show k + (d + 1) + 1 = (k + d + 1) + 1 by omega, e1]
          exact h3 k
theorem net_loop (l : List SN) (hl : l.length ≤ 1048576) (R : Nat) (hR : ∀ j, j < l.length → (rd_T79 l (j : Int)).f1.length ≤ R) (hR' : R ≤ 1048576) : ∀ d i, i + d = l.length →
    ∃ t, (t = true ↔ NOk l i) ∧ ∀ k, (d + 1) * (l.length + 3) + R + 10 < k → spec_NetOk.l0 k l (i : Int) = some t ∧ impl_NetOk.l0 k l l (l.length : Int) (i : Int) = some t := by
  intro d
  induction d with
  | zero =>
    intro i hi
    refine ⟨decide ((l.length : Int) ≤ 5), ?_, fun k hk => ?_⟩
    · rw [decide_eq_true_iff]
      exact ⟨fun h => ⟨by omega, fun j h1 h2 => by omega⟩, fun h => by have := h.1; omega⟩
    · obtain ⟨k, rfl⟩ : ∃ q, k = q + 1 := ⟨k - 1, by omega⟩
      rw [spec_NetOk.l0, if_neg (by omega), impl_NetOk.l0, if_neg (by omega)]
      exact ⟨rfl, rfl⟩
  | succ d ih =>
    intro i hi
    have hm : (d + 1 + 1) * (l.length + 3) = (d + 1) * (l.length + 3) + (l.length + 3) := by rw [Nat.succ_mul]
    obtain ⟨t, hn, ht⟩ := ih (i + 1) (by omega)
    have hr := hR i (by omega)
    obtain ⟨u, hu⟩ := station_uni (rd_T79 l (i : Int)).f0 (rd_T79 l (i : Int)).f1 (by omega)
    have e7 : wrap64 ((i : Int) + 1) = ((i + 1 : Nat) : Int) := by rw [wrap_id (by omega) (by omega)]; omega
    cases u
    · refine ⟨false, ⟨fun h => (by cases h), fun h => ?_⟩, fun k hk => ?_⟩
      · have := (h.2 i (Nat.le_refl _) (by omega)).1 ((rd_T79 l (i : Int)).f1.length + 4) (by omega)
        rw [(hu _ (by omega)).2] at this
        cases this
      · obtain ⟨k, rfl⟩ : ∃ q, k = q + 1 := ⟨k - 1, by omega⟩
        obtain ⟨h1, h2⟩ := hu k (by omega)
        rw [spec_NetOk.l0, if_pos (by omega), if_pos (by omega), h1, impl_NetOk.l0, if_pos (by omega), if_pos (by omega), if_pos (by omega), h2]
        exact ⟨rfl, rfl⟩
    · have hso : SOk (rd_T79 l (i : Int)) := fun k hk => (hu k hk).2
      rcases net_inner l hl i (by omega) _ rfl i 0 (by omega) with ⟨h1, ⟨m, _, m2, m3⟩, h3⟩ | ⟨h1, h2, h3⟩
      · refine ⟨false, ⟨fun h => (by cases h), fun h => absurd m3 ((h.2 i (Nat.le_refl _) (by omega)).2 m m2)⟩, fun k hk => ?_⟩
        obtain ⟨k, rfl⟩ : ∃ q, k = q + 1 := ⟨k - 1, by omega⟩
        obtain ⟨s1, s2⟩ := hu k (by omega)
        rw [List.drop_zero] at h1
        rw [spec_NetOk.l0, if_pos (by omega), if_pos (by omega), s1, impl_NetOk.l0, if_pos (by omega), if_pos (by omega), if_pos (by omega), s2]
        simp only [Option.bind_some, if_true, impl_stationAt.f]
        rw [if_pos h1]
        exact ⟨h3 k (by omega), rfl⟩
      · refine ⟨t, ?_, fun k hk => ?_⟩
        · rw [hn]
          constructor
          · intro h
            refine ⟨h.1, fun j j1 j2 => ?_⟩
            by_cases hj : j = i
            · subst hj
              exact ⟨hso, fun m hm => h2 m (by omega) hm⟩
            · exact h.2 j (by omega) j2
          · intro h
            exact ⟨h.1, fun j j1 j2 => h.2 j (by omega) j2⟩
        · obtain ⟨k, rfl⟩ : ∃ q, k = q + i + 1 + 1 := ⟨k - (i + 2), by omega⟩
          obtain ⟨s1, s2⟩ := hu (k + i + 1) (by omega)
          obtain ⟨t1, _⟩ := ht k (by omega)
          obtain ⟨_, t2⟩ := ht (k + i + 1) (by omega)
          rw [List.drop_zero] at h1
          rw [spec_NetOk.l0, if_pos (by omega), if_pos (by omega), s1, impl_NetOk.l0, if_pos (by omega), if_pos (by omega), if_pos (by omega), s2]
          simp only [Option.bind_some, if_true, impl_stationAt.f]
          rw [if_neg h1, e7]
          exact ⟨(h3 k).trans t1, t2⟩
theorem net_same (l : List SN) (hl : l.length ≤ 1048576) (R : Nat) (hR : ∀ j, j < l.length → (rd_T79 l (j : Int)).f1.length ≤ R) (hR' : R ≤ 1048576) :
    ∃ t, (t = true ↔ NOk l 0) ∧ ∀ k, (l.length + 1) * (l.length + 3) + R + 10 < k → spec_NetOk.f k l = some t ∧ impl_NetOk.f k l = some t := net_loop l hl R hR hR' l.length 0 (by omega)
/-! ### rows of stations -/
abbrev AS := S75
def convSt (x : AS) : SN := ⟨x.f0, x.f1.map convRoute⟩
theorem rdA_at (l : List AS) (i : Nat) (h : i < l.length) : l[i]? = some (rd_T75 l (i : Int)) := by
  simp [rd_T75, List.getD_eq_getElem?_getD, List.getElem?_eq_getElem h]
theorem rdS_at (l : List SN) (i : Nat) (h : i < l.length) : l[i]? = some (rd_T79 l (i : Int)) := by
  simp [rd_T79, List.getD_eq_getElem?_getD, List.getElem?_eq_getElem h]
theorem szSt_loop (l : List AS) (hl : l.length ≤ 1048576) (hm : ∀ x ∈ l, x.f1.length ≤ maxLen) : ∀ d k (i : Nat) (a : Int), i + d = l.length → d < k → 0 ≤ a → a ≤ 1048576 →
    laws_szStationS.l0 k l a (i : Int) = some (-1) ∨ ∃ m, 0 ≤ m ∧ laws_szStationS.l0 k l a (i : Int) = some m ∧ ∀ j, i ≤ j → j < l.length → (rd_T75 l (j : Int)).f1.length ≤ 1048576 := by
  intro d
  induction d with
  | zero =>
    intro k i a hi hk h0 h1
    obtain ⟨k, rfl⟩ : ∃ q, k = q + 1 := ⟨k - 1, by omega⟩
    right
    refine ⟨a, h0, ?_, fun j j1 j2 => by omega⟩
    rw [laws_szStationS.l0, if_neg (by omega)]
  | succ d ih =>
    intro k i a hi hk h0 h1
    obtain ⟨k, rfl⟩ : ∃ q, k = q + 1 := ⟨k - 1, by omega⟩
    have hx := hm _ (List.mem_of_getElem? (rdA_at l i (by omega)))
    rw [laws_szStationS.l0, if_pos (by omega), if_pos (by omega), laws_szStation.f, szRouteS _ a hx h0 h1, Option.bind_some, wrap_id (n := (i : Int) + 1) (by omega) (by omega), show (i : Int) + 1 = ((i + 1 : Nat) : Int) by omega]
    by_cases c : a < ((rd_T75 l (i : Int)).f1.length : Int)
    · left
      rw [if_pos c]
      simp
    · rw [if_neg c, if_neg (by omega), Option.bind_some, if_neg (by omega)]
      rcases ih k (i + 1) _ (by omega) (by omega) (show 0 ≤ a - ((rd_T75 l (i : Int)).f1.length : Int) by omega) (by omega) with h | ⟨m, m0, m1, m2⟩
      · exact .inl h
      · refine .inr ⟨m, m0, m1, fun j j1 j2 => ?_⟩
        by_cases hj : j = i
        · subst hj; omega
        · exact m2 j (by omega) j2
theorem toSt_loop (l : List AS) (hl : l.length ≤ 1048576) (hm : ∀ j, j < l.length → (rd_T75 l (j : Int)).f1.length ≤ 1048576) : ∀ d k (i : Nat) (acc : List SN), i + d = l.length → d + 1048577 < k → acc.length = l.length → (∀ j, j < i → acc[j]? = some (convSt (rd_T75 l (j : Int)))) →
    laws_toStationS.l0 k l acc (i : Int) = some (l.map convSt) := by
  intro d
  induction d with
  | zero =>
    intro k i acc hi hk ha hp
    obtain ⟨k, rfl⟩ : ∃ q, k = q + 1 := ⟨k - 1, by omega⟩
    rw [laws_toStationS.l0, if_neg (by omega)]
    congr 1
    apply List.ext_getElem?
    intro j
    by_cases hj : j < l.length
    · rw [hp j (by omega), List.getElem?_map, rdA_at l j hj]; rfl
    · rw [List.getElem?_eq_none (by omega), List.getElem?_eq_none (by simp; omega)]
  | succ d ih =>
    intro k i acc hi hk ha hp
    obtain ⟨k, rfl⟩ : ∃ q, k = q + 1 := ⟨k - 1, by omega⟩
    have hx := hm i (by omega)
    rw [laws_toStationS.l0, if_pos (by omega), if_pos (by omega), laws_toStation.f, toRouteS _ hx k (by omega), Option.bind_some, Option.bind_some, if_pos (by omega), wrap_id (n := (i : Int) + 1) (by omega) (by omega), show (i : Int) + 1 = ((i + 1 : Nat) : Int) by omega, Int.toNat_natCast]
    refine ih k (i + 1) _ (by omega) (by omega) (by simpa using ha) (fun j hj => ?_)
    by_cases hji : j = i
    · subst hji
      rw [List.getElem?_set_self (by omega)]
      rfl
    · rw [List.getElem?_set_ne (by omega)]
      exact hp j (by omega)
theorem eqSt_loop (l : List SN) (hl : l.length ≤ 1048576) (hm : ∀ j, j < l.length → (rd_T79 l (j : Int)).f1.length ≤ 1048576) : ∀ d k (i : Nat), i + d = l.length → d + 1048577 < k → laws_eqStationS.l0 k l l (i : Int) = some true := by
  intro d
  induction d with
  | zero =>
    intro k i hi hk
    obtain ⟨k, rfl⟩ : ∃ q, k = q + 1 := ⟨k - 1, by omega⟩
    rw [laws_eqStationS.l0, if_neg (by omega)]
  | succ d ih =>
    intro k i hi hk
    obtain ⟨k, rfl⟩ : ∃ q, k = q + 1 := ⟨k - 1, by omega⟩
    have hx := hm i (by omega)
    rw [laws_eqStationS.l0, if_pos (by omega), if_pos (by omega), if_pos (by omega), laws_eqStation.f, if_pos rfl, eqRouteS _ hx k (by omega), Option.bind_some, if_pos rfl, Option.bind_some, if_pos rfl, wrap_id (n := (i : Int) + 1) (by omega) (by omega), show (i : Int) + 1 = ((i + 1 : Nat) : Int) by omega]
    exact ih k (i + 1) (by omega) (by omega)
theorem toSt (l : List AS) (hl : l.length ≤ 1048576) (hm : ∀ j, j < l.length → (rd_T75 l (j : Int)).f1.length ≤ 1048576) (K : Nat) (hK : l.length + 1048577 < K) : laws_toStationS.f K l = some (l.map convSt) := by
  unfold laws_toStationS.f
  rw [if_pos (by omega), if_pos (by omega)]
  have h := toSt_loop l hl hm l.length K 0 (List.replicate ((l.length : Int)).toNat z79) (by omega) hK (by simp) (fun j hj => by omega)
  rw [Int.natCast_zero] at h
  exact h
theorem eqSt (l : List SN) (hl : l.length ≤ 1048576) (hm : ∀ j, j < l.length → (rd_T79 l (j : Int)).f1.length ≤ 1048576) (K : Nat) (hK : l.length + 1048577 < K) : laws_eqStationS.f K l l = some true := by
  unfold laws_eqStationS.f
  rw [if_pos rfl]
  have h := eqSt_loop l hl hm l.length K 0 (by omega) hK
  rw [Int.natCast_zero] at h
  exact h
theorem szSt (l : List AS) (hl : l.length ≤ 1048576) (hm : ∀ x ∈ l, x.f1.length ≤ maxLen) (K : Nat) (hK : l.length < K) :
    laws_szStationS.f K l 1048576 = some (-1) ∨ ∃ m, 0 ≤ m ∧ laws_szStationS.f K l 1048576 = some m ∧ ∀ j, j < l.length → (rd_T75 l (j : Int)).f1.length ≤ 1048576 := by
  unfold laws_szStationS.f
  rw [wrap_id (by omega) (by omega), if_neg (by omega)]
  have h := szSt_loop l hl hm l.length K 0 (1048576 - (l.length : Int)) (by omega) hK (by omega) (by omega)
  rw [Int.natCast_zero] at h
  rcases h with h | ⟨m, h0, h1, h2⟩
  · exact .inl h
  · exact .inr ⟨m, h0, h1, fun j hj => h2 j (Nat.zero_le _) hj⟩
theorem convSt_len (l : List AS) (hm : ∀ j, j < l.length → (rd_T75 l (j : Int)).f1.length ≤ 1048576) : ∀ j, j < (l.map convSt).length → (rd_T79 (l.map convSt) (j : Int)).f1.length ≤ 1048576 := by
  intro j hj
  have hj' : j < l.length := by simpa using hj
  have e := rdS_at (l.map convSt) j hj
  rw [List.getElem?_map, rdA_at l j hj'] at e
  rw [← Option.some.inj e]
  simpa [convSt] using hm j hj'
theorem net_at (l : List AS) (hl : l.length ≤ 1048576) (hm : ∀ x ∈ l, x.f1.length ≤ maxLen) (K : Nat) (hK : (l.length + 1) * (l.length + 3) + 1048576 + 10 < K) (hK' : l.length + 1048577 < K) : laws_FnExactNetOk.f K l = some true := by
  unfold laws_FnExactNetOk.f
  rcases szSt l hl hm K (by omega) with h | ⟨m, m0, m1, hr⟩
  · rw [h, Option.bind_some, if_pos (by omega)]
  · have hr2 := convSt_len l hr
    have hlm : (l.map convSt).length = l.length := List.length_map ..
    obtain ⟨t, _, ht⟩ := net_same (l.map convSt) (by rw [hlm]; exact hl) 1048576 hr2 (Nat.le_refl _)
    rw [hlm] at ht
    obtain ⟨t1, t2⟩ := ht K hK
    have heq := eqSt (l.map convSt) (by rw [hlm]; exact hl) hr2 K (by rw [hlm]; exact hK')
    have hto := toSt l hl hr K hK'
    generalize l.map convSt = L at t1 t2 heq hto
    rw [m1, Option.bind_some, if_neg (by omega), hto, Option.bind_some, t1, Option.bind_some, Option.bind_some, t2, Option.bind_some, if_neg (by simp), Option.bind_some, heq, Option.bind_some, if_pos rfl]
theorem main : GFnExactNetOk.Stmt := by
  intro l hl
  obtain ⟨hl, hg⟩ := hl
  have hm : ∀ x ∈ l, x.f1.length ≤ maxLen := fun x hx => (hg x hx).2.1
  by_cases h : (1048576 : Int) < (l.length : Int)
  · refine ⟨1, ?_⟩
    unfold maxLen at hl
    simp only [laws_FnExactNetOk.f, laws_szStationS.f]
    rw [wrap_id (by omega) (by omega), if_pos (by omega)]
    simp
  · exact ⟨(l.length + 1) * (l.length + 3) + 1048576 + 10 + (l.length + 1048577) + 1, net_at l (by omega) hm _ (by omega) (by omega)⟩
end FnExactNetOk_
theorem FnExactNetOk : GFnExactNetOk.Stmt := FnExactNetOk_.main
end Go.Proofs.Ytfcocnhkimbpbac.Pure
