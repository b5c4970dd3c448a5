/- The law FnExactSegmentOk over numbers and lists: the program's SegmentOk answers as the reference's, and the segment stays as it was. No conditions but the kinds' ranges. -/
import Derived.Test.YtfcocnhkimbpbacGFnExactSegmentOk
namespace Go.Proofs.Ytfcocnhkimbpbac.Pure
open Go Go.RowKit Go.Proofs.Ytfcocnhkimbpbac.MFnExactSegmentOk Go.Proofs.YtfcocnhkimbpbacV.PrintWords Go.Proofs.YtfcocnhkimbpbacV.PrintLast
set_option linter.unusedVariables false
set_option linter.unusedSimpArgs false
namespace FnExactSegmentOk_
theorem i64_bounds {x : Int} (h : (Lit.int .i64 x).wf = true) : -9223372036854775808 ≤ x ∧ x ≤ 9223372036854775807 := by
  simpa [Lit.wf, IntKind.min, IntKind.max, IntKind.signed, IntKind.bits] using h
theorem inAll (x y z : Int) : spec_l1In.f x y z = some (decide (y ≤ x ∧ x ≤ z)) := by
  unfold spec_l1In.f
  by_cases h : x ≥ y
  · rw [if_pos h]; congr 1; simp only [decide_eq_decide]; omega
  · rw [if_neg h]; congr 1; symm; simp only [decide_eq_false_iff_not]; omega
theorem inAll' (x y z : Int) : impl_in.f x y z = some (decide (y ≤ x ∧ x ≤ z)) := inAll x y z
theorem wl {n m : Int} (h : n = m) (h0 : -9223372036854775808 ≤ m) (h1 : m ≤ 9223372036854775807) : wrap64 n = m := by
  subst h
  unfold wrap64
  omega
/-! ### copies, equality and sizes of rows of bytes -/
theorem wrap_id {n : Int} (h : -9223372036854775808 ≤ n) (h' : n ≤ 9223372036854775807) : wrap64 n = n := by
  unfold wrap64; omega
/-- A loop that fills a row, an element at a time, from the elements of another one. -/
theorem fills {α : Type} (n : Nat) (hn : n ≤ 281474976710656) (L : Nat → List α → Int → Option (List α)) (g : Nat → α)
    (h : ∀ k acc i, k < n + 1 → L (k + 1) acc i = if i < (n : Int) then (if 0 ≤ i then (if i < (acc.length : Int) then L k (acc.set i.toNat (g i.toNat)) (wrap64 (i + 1)) else none) else none) else some acc) :
    ∀ d k (i : Nat) (acc : List α), i + d = n → k = d + 1 → acc.length = n → (∀ j, j < i → acc[j]? = some (g j)) → ∃ r, L k acc (i : Int) = some r ∧ r.length = n ∧ ∀ j, j < n → r[j]? = some (g j) := by
  intro d
  induction d with
  | zero =>
    intro k i acc hi hk hl hp
    subst hk
    refine ⟨acc, ?_, hl, fun j hj => hp j (by omega)⟩
    rw [h _ _ _ (by omega), if_neg (by omega)]
  | succ d ih =>
    intro k i acc hi hk hl hp
    subst hk
    obtain ⟨r, hr, hrl, hrp⟩ := ih (d + 1) (i + 1) (acc.set i (g i)) (by omega) rfl (by simpa using hl) (fun j hj => by
      by_cases hji : j = i
      · subst hji
        simp [List.getElem?_set, hl]
        omega
      · rw [List.getElem?_set_ne (by omega)]
        exact hp j (by omega))
    refine ⟨r, ?_, hrl, hrp⟩
    rw [h _ _ _ (by omega), if_pos (by omega), if_pos (by omega), if_pos (by omega), wrap_id (by omega) (by omega)]
    simpa using hr
theorem rd_at (l : List Int) (i : Nat) (h : i < l.length) : l[i]? = some (rd l (i : Int)) := by
  unfold rd
  rw [List.getD_eq_getElem?_getD, Int.toNat_natCast, List.getElem?_eq_getElem h]
  rfl
theorem toBytes_exact (l : List Int) (hl : l.length ≤ 281474976710656) : laws_toByteS.f (l.length + 1) l = some l := by
  unfold laws_toByteS.f
  rw [if_pos (by omega), if_pos (by omega)]
  obtain ⟨r, hr, hrl, hrp⟩ := fills l.length hl (fun k acc i => laws_toByteS.l0 k l acc i) (fun i => rd l (i : Int)) (fun k acc i hk => by
    simp only [laws_toByteS.l0]
    by_cases hi : i < (l.length : Int)
    · rw [if_pos hi, if_pos hi]
      by_cases h0 : 0 ≤ i
      · rw [if_pos h0, if_pos h0]
        by_cases h1 : i < (acc.length : Int)
        · rw [if_pos h1, if_pos h1, show ((i.toNat : Nat) : Int) = i by omega]
        · rw [if_neg h1, if_neg h1]
      · rw [if_neg h0, if_neg h0]
    · rw [if_neg hi, if_neg hi]) l.length (l.length + 1) 0 (List.replicate l.length 0) (by omega) rfl (by simp) (fun j hj => by omega)
  rw [show (l.length : Int).toNat = l.length by omega]
  show laws_toByteS.l0 _ _ _ _ = _
  have hr' : laws_toByteS.l0 (l.length + 1) l (List.replicate l.length 0) 0 = some r := hr
  rw [hr']
  congr 1
  apply List.ext_getElem?
  intro j
  by_cases hj : j < l.length
  · rw [hrp j hj, rd_at l j hj]
  · rw [List.getElem?_eq_none (by omega), List.getElem?_eq_none (by omega)]
theorem toBytes_le (l : List Int) (hl : l.length ≤ 281474976710656) (k : Nat) (hk : l.length < k) : laws_toByteS.f k l = some l := by
  obtain ⟨d, rfl⟩ : ∃ d, k = l.length + 1 + d := ⟨k - (l.length + 1), by omega⟩
  induction d with
  | zero => exact toBytes_exact l hl
  | succ d ih => exact laws_toByteS.mono l _ _ (ih (by omega))
theorem szBytes (l : List Int) (a : Int) (hl : l.length ≤ maxLen) (ha : 0 ≤ a) (ha' : a ≤ 1048576) : laws_szByteS.f l a = some (if a < (l.length : Int) then -1 else a - (l.length : Int)) := by
  unfold laws_szByteS.f
  unfold maxLen at hl
  rw [wrap_id (by omega) (by omega)]
  by_cases h : a < (l.length : Int)
  · rw [if_pos (by omega), if_pos h]
  · rw [if_neg (by omega), if_neg h]
theorem eqBytes_loop (a b : List Int) (hl : a.length = b.length) (hb : a.length ≤ 281474976710656) : ∀ d k (i : Nat), i + d = a.length → d < k →
    laws_eqByteS.l0 k a b (i : Int) = some (decide (a.drop i = b.drop i)) := by
  intro d
  induction d with
  | zero =>
    intro k i hi hk
    obtain ⟨k, rfl⟩ : ∃ m, k = m + 1 := ⟨k - 1, by omega⟩
    simp only [laws_eqByteS.l0]
    rw [if_neg (by omega), List.drop_eq_nil_of_le (by omega), List.drop_eq_nil_of_le (by omega)]
    rfl
  | succ d ih =>
    intro k i hi hk
    obtain ⟨k, rfl⟩ : ∃ m, k = m + 1 := ⟨k - 1, by omega⟩
    simp only [laws_eqByteS.l0]
    rw [if_pos (by omega), if_pos (by omega), if_pos (by omega), wrap_id (by omega) (by omega)]
    have h1 := rd_at a i (by omega)
    have h2 := rd_at b i (by omega)
    have e1 : a.drop i = rd a (i : Int) :: a.drop (i + 1) := by
      rw [List.drop_eq_getElem_cons (by omega)]
      congr 1
      rw [List.getElem?_eq_getElem (by omega)] at h1
      exact Option.some.inj h1
    have e2 : b.drop i = rd b (i : Int) :: b.drop (i + 1) := by
      rw [List.drop_eq_getElem_cons (by omega)]
      congr 1
      rw [List.getElem?_eq_getElem (by omega)] at h2
      exact Option.some.inj h2
    have hr := ih k (i + 1) (by omega) (by omega)
    rw [e1, e2]
    by_cases he : rd a (i : Int) = rd b (i : Int)
    · rw [if_pos he, show ((i : Int) + 1) = ((i + 1 : Nat) : Int) by omega, hr, he]
      simp
    · rw [if_neg he]
      simp [he]
theorem eqBytes (a b : List Int) (hb : a.length ≤ 281474976710656) (k : Nat) (hk : a.length < k) : laws_eqByteS.f k a b = some (decide (a = b)) := by
  unfold laws_eqByteS.f
  by_cases h : a.length = b.length
  · rw [if_pos (by omega)]
    have := eqBytes_loop a b h hb a.length k 0 (by omega) hk
    simpa using this
  · rw [if_neg (by omega)]
    have : a ≠ b := fun e => h (by rw [e])
    simp [this]
/-! ### rows of structs: copied, compared -/
/-- A loop that turns a row into another one, an element at a time. -/
theorem turns {α : Type} (n : Nat) (hn : n ≤ 281474976710656) (K : Nat) (L : Nat → List α → Int → Option (List α)) (g : Nat → α)
    (h : ∀ k acc i, K ≤ k → acc.length = n → 0 ≤ i → i ≤ (n : Int) → L (k + 1) acc i = if i < (n : Int) then L k (acc.set i.toNat (g i.toNat)) (i + 1) else some acc) :
    ∀ d k (i : Nat) (acc : List α), i + d = n → K + d < k → acc.length = n → (∀ j, j < i → acc[j]? = some (g j)) → L k acc (i : Int) = some ((List.range n).map g) := by
  intro d
  induction d with
  | zero =>
    intro k i acc hi hk hl hp
    obtain ⟨k, rfl⟩ : ∃ m, k = m + 1 := ⟨k - 1, by omega⟩
    rw [h _ _ _ (by omega) hl (by omega) (by omega), if_neg (by omega)]
    congr 1
    apply List.ext_getElem?
    intro j
    by_cases hj : j < n
    · rw [hp j (by omega)]; simp [hj]
    · rw [List.getElem?_eq_none (by omega), List.getElem?_eq_none (by simp; omega)]
  | succ d ih =>
    intro k i acc hi hk hl hp
    obtain ⟨k, rfl⟩ : ∃ m, k = m + 1 := ⟨k - 1, by omega⟩
    rw [h _ _ _ (by omega) hl (by omega) (by omega), if_pos (by omega)]
    exact ih k (i + 1) _ (by omega) (by omega) (by simpa using hl) (fun j hj => by
      by_cases hji : j = i
      · subst hji
        simp [List.getElem?_set, hl]
        omega
      · simp only [Int.toNat_natCast]
        rw [List.getElem?_set_ne (by omega)]
        exact hp j (by omega))
theorem turns_map {α β : Type} (l : List β) (d : β) (f : β → α) : (List.range l.length).map (fun i => f (l.getD i d)) = l.map f := by
  apply List.ext_getElem?
  intro j
  by_cases hj : j < l.length
  · simp [hj]
  · rw [List.getElem?_eq_none (by simp; omega), List.getElem?_eq_none (by simp; omega)]
/-- A loop that compares two rows, an element at a time. -/
theorem equals {α : Type} (l : List α) (hn : l.length ≤ 281474976710656) (K : Nat) (L : Nat → Int → Option Bool)
    (h : ∀ k i, K ≤ k → 0 ≤ i → i ≤ (l.length : Int) → L (k + 1) i = if i < (l.length : Int) then L k (i + 1) else some true) :
    ∀ d k (i : Nat), i + d = l.length → K + d < k → L k (i : Int) = some true := by
  intro d
  induction d with
  | zero =>
    intro k i hi hk
    obtain ⟨k, rfl⟩ : ∃ m, k = m + 1 := ⟨k - 1, by omega⟩
    rw [h _ _ (by omega) (by omega) (by omega), if_neg (by omega)]
  | succ d ih =>
    intro k i hi hk
    obtain ⟨k, rfl⟩ : ∃ m, k = m + 1 := ⟨k - 1, by omega⟩
    rw [h _ _ (by omega) (by omega) (by omega), if_pos (by omega)]
    exact ih k (i + 1) (by omega) (by omega)

/-! ### rows of Range -/
def convRange (x : S120) : S87 := ⟨x.f0, x.f1⟩
theorem toRangeS (l : List S120) (hl : l.length ≤ 1048576) (k : Nat) (hk : l.length < k) : laws_toRangeS.f k l = some (l.map convRange) := by
  unfold laws_toRangeS.f
  rw [if_pos (by omega), if_pos (by omega), ← turns_map l z120 convRange]
  exact turns l.length (by omega) 0 (fun k acc i => laws_toRangeS.l0 k l acc i) (fun i => convRange (l.getD i z120)) (fun k acc i _ ha h0 h1 => by
    simp only [laws_toRangeS.l0, laws_toRange.f, Option.bind_some]
    by_cases hi : i < (l.length : Int)
    · rw [if_pos hi, if_pos hi, if_pos h0, if_pos (by omega), wrap_id (by omega) (by omega)]
      rfl
    · rw [if_neg hi, if_neg hi]) l.length k 0 _ (by omega) (by omega) (by simp) (fun j hj => by omega)
theorem szRangeS (l : List S120) (a : Int) (hl : l.length ≤ maxLen) (ha : 0 ≤ a) (ha' : a ≤ 1048576) : laws_szRangeS.f l a = some (if a < (l.length : Int) then -1 else a - (l.length : Int)) := by
  unfold laws_szRangeS.f
  unfold maxLen at hl
  rw [wrap_id (by omega) (by omega)]
  by_cases h : a < (l.length : Int)
  · rw [if_pos (by omega), if_pos h]
  · rw [if_neg (by omega), if_neg h]
theorem eqRangeS (l : List S87) (hl : l.length ≤ 1048576) (k : Nat) (hk : l.length < k) : laws_eqRangeS.f k l l = some true := by
  unfold laws_eqRangeS.f
  rw [if_pos rfl]
  exact equals l (by omega) 0 (fun k i => laws_eqRangeS.l0 k l l i) (fun k i _ h0 h1 => by
    simp only [laws_eqRangeS.l0, laws_eqRange.f, if_true, Option.bind_some]
    by_cases hi : i < (l.length : Int)
    · rw [if_pos hi, if_pos hi, if_pos h0, if_pos hi, wrap_id (by omega) (by omega)]
    · rw [if_neg hi, if_neg hi]) l.length k 0 (by omega) (by omega)
/-! ### segments -/
abbrev SR := S87
def wordR (x : SR) : Prop := (0 ≤ x.f0 ∧ x.f0 ≤ 65535) ∧ (0 ≤ x.f1 ∧ x.f1 ≤ 65535)
def segTail (c3 c4 : Int) (b5 b6 b7 b8 : Bool) (e : List SR) (l : List Int) : Option Bool :=
  if b6 = true then (if b8 = true then (if b5 = true then (some false) else (if b7 = true then (some false) else (some ((l.length : Int) == 0)))) else (some true)) else (if c3 = 0 then (if c4 = 0 then (if (e.length : Int) > 0 then (some false) else (if b8 = true then (if b5 = true then (some false) else (if b7 = true then (some false) else (some ((l.length : Int) == 0)))) else (some true))) else (some false)) else (some false))
theorem segTail_some (c3 c4 : Int) (b5 b6 b7 b8 : Bool) (e : List SR) (l : List Int) : ∃ v, segTail c3 c4 b5 b6 b7 b8 e l = some v := by
  unfold segTail
  repeat' split
  all_goals exact ⟨_, rfl⟩
theorem closure_is (x : SR) : impl_SegmentOk_1.f x.f0 x.f1 = some (!(decide (0 ≤ x.f0 ∧ x.f0 ≤ 65535) && decide (0 ≤ x.f1 ∧ x.f1 ≤ 65535))) := by
  simp only [impl_SegmentOk_1.f, impl_word.f, inAll', Option.bind_some]
  cases decide (0 ≤ x.f0 ∧ x.f0 ≤ 65535) <;> simp
theorem seg_loop (a0 a1 a2 a3 a4 : Int) (b5 b6 b7 b8 : Bool) (e : List SR) (l : List Int) (he : e.length ≤ 1048576) : ∀ d k (i : Nat), i + d = e.length → d < k →
    ∃ u, impl_Range_78.f (e.drop i) = some u ∧ spec_SegmentOk.l0 k (i : Int) a0 a1 a2 a3 a4 b5 b6 b7 b8 e l = (if u = true then some false else segTail a3 a4 b5 b6 b7 b8 e l) ∧ (u = false → ∀ x ∈ e.drop i, wordR x) := by
  intro d
  induction d with
  | zero =>
    intro k i hi hk
    obtain ⟨k, rfl⟩ : ∃ q, k = q + 1 := ⟨k - 1, by omega⟩
    rw [List.drop_eq_nil_of_le (by omega)]
    refine ⟨false, rfl, ?_, fun _ x hx => by cases hx⟩
    rw [spec_SegmentOk.l0, if_neg (by omega)]
    rfl
  | succ d ih =>
    intro k i hi hk
    obtain ⟨k, rfl⟩ : ∃ q, k = q + 1 := ⟨k - 1, by omega⟩
    obtain ⟨u, h1, h2, h3⟩ := ih k (i + 1) (by omega) (by omega)
    have hx : e.drop i = rd_T87 e (i : Int) :: e.drop (i + 1) := by
      rw [List.drop_eq_getElem_cons (by omega)]
      congr 1
      simp [rd_T87, List.getD_eq_getElem?_getD, List.getElem?_eq_getElem (show i < e.length by omega)]
    rw [hx]
    rw [spec_SegmentOk.l0, if_pos (by omega), if_pos (by omega), wrap_id (n := (i : Int) + 1) (by omega) (by omega), show (i : Int) + 1 = ((i + 1 : Nat) : Int) by omega]
    generalize rd_T87 e (i : Int) = x
    simp only [impl_Range_78.f, closure_is, inAll, Option.bind_some]
    by_cases c1 : 0 ≤ x.f0 ∧ x.f0 ≤ 65535
    · by_cases c2 : 0 ≤ x.f1 ∧ x.f1 ≤ 65535
      · rw [decide_eq_true c1, decide_eq_true c2]
        refine ⟨u, by simpa using h1, by simpa using h2, fun hu y hy => ?_⟩
        rcases List.mem_cons.1 hy with rfl | hy
        · exact ⟨c1, c2⟩
        · exact h3 hu y hy
      · rw [decide_eq_true c1, decide_eq_false c2]
        exact ⟨true, by simp, by simp, fun h => by cases h⟩
    · rw [decide_eq_false c1]
      exact ⟨true, by simp, by simp, fun h => by cases h⟩
def segCond (a0 a1 a2 a3 a4 : Int) (e : List SR) (l : List Int) : Prop := (1 ≤ a0 ∧ a0 ≤ 255) ∧ (1 ≤ a1 ∧ a1 ≤ 255) ∧ (0 ≤ a2 ∧ a2 ≤ 65535) ∧ (0 ≤ a3 ∧ a3 ≤ 65535) ∧ (0 ≤ a4 ∧ a4 ≤ 255) ∧ e.length ≤ 2 ∧ l.length ≤ 12 ∧ ∀ x ∈ e, wordR x
theorem segOk_same (a0 a1 a2 a3 a4 : Int) (b5 b6 b7 b8 : Bool) (e : List SR) (l : List Int) (he : e.length ≤ 1048576) (k : Nat) (hk : e.length + 2 < k) :
    ∃ t, spec_SegmentOk.f k a0 a1 a2 a3 a4 b5 b6 b7 b8 e l = some t ∧ impl_SegmentOk.f k a0 a1 a2 a3 a4 b5 b6 b7 b8 e l = some t ∧ (t = true → segCond a0 a1 a2 a3 a4 e l) := by
  obtain ⟨k, rfl⟩ : ∃ q, k = q + 1 := ⟨k - 1, by omega⟩
  obtain ⟨u, h1, h2, h3⟩ := seg_loop a0 a1 a2 a3 a4 b5 b6 b7 b8 e l he e.length k 0 (by omega) (by omega)
  rw [List.drop_zero] at h1 h3
  have n1 : spec_SegmentOk.j0 (k + 1) true a0 a1 a2 a3 a4 b5 b6 b7 b8 e l = some false := by rw [spec_SegmentOk.j0, if_pos rfl]
  have n2 : impl_SegmentOk.j0 (k + 1) true a0 a1 a2 a3 a4 b5 b6 b7 b8 e l = some false := by rw [impl_SegmentOk.j0, if_pos rfl]
  have o1 : spec_SegmentOk.j0 (k + 1) false a0 a1 a2 a3 a4 b5 b6 b7 b8 e l = (if u = true then some false else segTail a3 a4 b5 b6 b7 b8 e l) := by
    rw [spec_SegmentOk.j0, if_neg (by simp)]
    exact h2
  have o2 : impl_SegmentOk.j0 (k + 1) false a0 a1 a2 a3 a4 b5 b6 b7 b8 e l = (if u = true then some false else segTail a3 a4 b5 b6 b7 b8 e l) := by
    rw [impl_SegmentOk.j0, if_neg (by simp)]
    simp only [impl_Range_53.f, h1, Option.bind_some]
    cases u
    · rfl
    · rfl
  simp only [spec_SegmentOk.f, impl_SegmentOk.f, impl_portOk.f, impl_word.f, inAll, inAll', Option.bind_some]
  by_cases c0 : 1 ≤ a0 ∧ a0 ≤ 255
  · by_cases c1 : 1 ≤ a1 ∧ a1 ≤ 255
    · by_cases c2 : 0 ≤ a2 ∧ a2 ≤ 65535
      · by_cases c3 : 0 ≤ a3 ∧ a3 ≤ 65535
        · by_cases c4 : 0 ≤ a4 ∧ a4 ≤ 255
          · simp only [decide_eq_true c0, decide_eq_true c1, decide_eq_true c2, decide_eq_true c3, decide_eq_true c4, if_true]
            by_cases c5 : (e.length : Int) > 2
            · rw [if_pos c5, if_pos c5]
              exact ⟨false, n1, n2, fun h => by cases h⟩
            · rw [if_neg c5, if_neg c5]
              by_cases c6 : (l.length : Int) > 12
              · rw [decide_eq_true c6]
                exact ⟨false, n1, n2, fun h => by cases h⟩
              · rw [decide_eq_false c6]
                obtain ⟨v, hv⟩ := segTail_some a3 a4 b5 b6 b7 b8 e l
                rw [hv] at o1 o2
                cases u
                · exact ⟨v, o1, o2, fun h => ⟨c0, c1, c2, c3, c4, by omega, by omega, h3 rfl⟩⟩
                · exact ⟨false, o1, o2, fun h => by cases h⟩
          · simp only [decide_eq_true c0, decide_eq_true c1, decide_eq_true c2, decide_eq_true c3, decide_eq_false c4, if_true, Bool.false_eq_true, if_false]
            exact ⟨false, n1, n2, fun h => by cases h⟩
        · simp only [decide_eq_true c0, decide_eq_true c1, decide_eq_true c2, decide_eq_false c3, if_true, Bool.false_eq_true, if_false]
          exact ⟨false, n1, n2, fun h => by cases h⟩
      · simp only [decide_eq_true c0, decide_eq_true c1, decide_eq_false c2, if_true, Bool.false_eq_true, if_false]
        exact ⟨false, n1, n2, fun h => by cases h⟩
    · simp only [decide_eq_true c0, decide_eq_false c1, if_true, Bool.false_eq_true, if_false]
      exact ⟨false, n1, n2, fun h => by cases h⟩
  · simp only [decide_eq_false c0, Bool.false_eq_true, if_false]
    exact ⟨false, n1, n2, fun h => by cases h⟩
theorem main : GFnExactSegmentOk.Stmt := by
  intro a0 a1 a2 a3 a4 b5 b6 b7 b8 e l _ _ _ _ _ he hl
  obtain ⟨hl, _⟩ := hl
  obtain ⟨he, _⟩ := he
  refine ⟨e.length + l.length + 3000, ?_⟩
  simp only [laws_FnExactSegmentOk.f, laws_szSegment.f, szRangeS e 1048576 he (by omega) (by omega), Option.bind_some]
  by_cases h : (1048576 : Int) < (e.length : Int)
  · rw [if_pos h]; simp
  · rw [if_neg h, if_neg (by omega), szBytes l _ hl (by omega) (by omega)]
    simp only [Option.bind_some]
    by_cases h' : 1048576 - (e.length : Int) < (l.length : Int)
    · rw [if_pos h']; simp
    · rw [if_neg h', if_neg (by omega)]
      simp only [Option.bind_some]
      rw [if_neg (by omega)]
      have hto : laws_toSegment.f (e.length + l.length + 3000) a0 a1 a2 a3 a4 b5 b6 b7 b8 e l = some (a0, a1, a2, a3, a4, b5, b6, b7, b8, e.map convRange, l) := by
        simp only [laws_toSegment.f, toRangeS e (by omega) _ (show e.length < e.length + l.length + 3000 by omega), toBytes_le l (by omega) _ (show l.length < e.length + l.length + 3000 by omega), Option.bind_some]
      have heq : laws_eqSegment.f (e.length + l.length + 3000) a0 a1 a2 a3 a4 b5 b6 b7 b8 (e.map convRange) l a0 a1 a2 a3 a4 b5 b6 b7 b8 (e.map convRange) l = some true := by
        simp only [laws_eqSegment.f, if_true, bne_self_eq_false, Bool.false_eq_true, if_false, eqRangeS (e.map convRange) (by simp; omega) _ (show (e.map convRange).length < e.length + l.length + 3000 by simp; omega), eqBytes l l (by omega) _ (show l.length < e.length + l.length + 3000 by omega), Option.bind_some, decide_true]
      obtain ⟨t, h1, h2, _⟩ := segOk_same a0 a1 a2 a3 a4 b5 b6 b7 b8 (e.map convRange) l (by simp; omega) (e.length + l.length + 3000) (by simp; omega)
      simp only [hto, Option.bind_some, h1, h2, heq]
      simp
end FnExactSegmentOk_
theorem FnExactSegmentOk : GFnExactSegmentOk.Stmt := FnExactSegmentOk_.main
end Go.Proofs.Ytfcocnhkimbpbac.Pure
