/- The law FnExactSegmentBytes over numbers and lists: the program's SegmentBytes answers as the reference's, its answer is its own, and the segment stays as it was. No conditions but the kinds' ranges. -/
import Derived.Test.YtfcocnhkimbpbabGFnExactSegmentBytes
namespace Go.Proofs.Ytfcocnhkimbpbab.Pure
open Go Go.RowKit Go.Proofs.Ytfcocnhkimbpbab.MFnExactSegmentBytes Go.Proofs.YtfcocnhkimbpbabV.PrintWords Go.Proofs.YtfcocnhkimbpbabV.PrintLast
set_option linter.unusedVariables false
set_option linter.unusedSimpArgs false
namespace FnExactSegmentBytes_
theorem i64_bounds {x : Int} (h : (Lit.int .i64 x).wf = true) : -9223372036854775808 ≤ x ∧ x ≤ 9223372036854775807 := by
  simpa [Lit.wf, IntKind.min, IntKind.max, IntKind.signed, IntKind.bits] using h
theorem inAll (x y z : Int) : spec_l1In.f x y z = some (decide (y ≤ x ∧ x ≤ z)) := by
  unfold spec_l1In.f
  by_cases h : x ≥ y
  · rw [if_pos h]; congr 1; simp only [decide_eq_decide]; omega
  · rw [if_neg h]; congr 1; symm; simp only [decide_eq_false_iff_not]; omega
theorem inAll' (x y z : Int) : impl_in.f x y z = some (decide (y ≤ x ∧ x ≤ z)) := inAll x y z
theorem wl {n m : Int} (h : n = m) (h0 : -9223372036854775808 ≤ m) (h1 : m ≤ 9223372036854775807) : wrap64 n = m := by
  subst h
  unfold wrap64
  omega
/-! ### bytes put side by side -/
theorem or256 (a b : Int) (ha : 0 ≤ a) (ha' : a ≤ 10000000000) (hb : 0 ≤ b) (hb' : b ≤ 255) : Go.bits .or .i64 (a * 256) b = a * 256 + b := by
  obtain ⟨n, rfl⟩ : ∃ n : Nat, a = n := ⟨a.toNat, by omega⟩
  obtain ⟨m, rfl⟩ : ∃ m : Nat, b = m := ⟨b.toNat, by omega⟩
  have h2 : n * 256 ||| m = n * 256 + m := by
    have := Nat.two_pow_add_eq_or_of_lt (i := 8) (show m < 2 ^ 8 by omega) n
    rw [show 2 ^ 8 * n = n * 256 by omega] at this
    exact this.symm
  have e1 : BitVec.ofInt 64 ((n : Int) * 256) = BitVec.ofNat 64 (n * 256) := by
    rw [show (n : Int) * 256 = ((n * 256 : Nat) : Int) by omega]
    exact BitVec.ofInt_natCast ..
  have e2 : BitVec.ofInt 64 (m : Int) = BitVec.ofNat 64 m := BitVec.ofInt_natCast ..
  have e : (BitVec.ofInt 64 ((n : Int) * 256) ||| BitVec.ofInt 64 (m : Int)).toNat = n * 256 + m := by
    rw [e1, e2, BitVec.toNat_or, BitVec.toNat_ofNat, BitVec.toNat_ofNat, Nat.mod_eq_of_lt (by omega), Nat.mod_eq_of_lt (by omega), h2]
  show IntKind.i64.wrap ((BitVec.ofInt 64 ((n : Int) * 256) ||| BitVec.ofInt 64 (m : Int)).toNat : Int) = _
  rw [e]
  simp only [IntKind.wrap, IntKind.bits, IntKind.signed]
  simp
  omega
/-! ### copies, equality and sizes of rows of bytes -/
theorem wrap_id {n : Int} (h : -9223372036854775808 ≤ n) (h' : n ≤ 9223372036854775807) : wrap64 n = n := by
  unfold wrap64; omega
/-- A loop that fills a row, an element at a time, from the elements of another one. -/
theorem fills {α : Type} (n : Nat) (hn : n ≤ 281474976710656) (L : Nat → List α → Int → Option (List α)) (g : Nat → α)
    (h : ∀ k acc i, k < n + 1 → L (k + 1) acc i = if i < (n : Int) then (if 0 ≤ i then (if i < (acc.length : Int) then L k (acc.set i.toNat (g i.toNat)) (wrap64 (i + 1)) else none) else none) else some acc) :
    ∀ d k (i : Nat) (acc : List α), i + d = n → k = d + 1 → acc.length = n → (∀ j, j < i → acc[j]? = some (g j)) → ∃ r, L k acc (i : Int) = some r ∧ r.length = n ∧ ∀ j, j < n → r[j]? = some (g j) := by
  intro d
  induction d with
  | zero =>
    intro k i acc hi hk hl hp
    subst hk
    refine ⟨acc, ?_, hl, fun j hj => hp j (by omega)⟩
    rw [h _ _ _ (by omega), if_neg (by omega)]
  | succ d ih =>
    intro k i acc hi hk hl hp
    subst hk
    obtain ⟨r, hr, hrl, hrp⟩ := ih (d + 1) (i + 1) (acc.set i (g i)) (by omega) rfl (by simpa using hl) (fun j hj => by
      by_cases hji : j = i
      · subst hji
        simp [List.getElem?_set, hl]
        omega
      · rw [List.getElem?_set_ne (by omega)]
        exact hp j (by omega))
    refine ⟨r, ?_, hrl, hrp⟩
    rw [h _ _ _ (by omega), if_pos (by omega), if_pos (by omega), if_pos (by omega), wrap_id (by omega) (by omega)]
    simpa using hr
theorem rd_at (l : List Int) (i : Nat) (h : i < l.length) : l[i]? = some (rd l (i : Int)) := by
  unfold rd
  rw [List.getD_eq_getElem?_getD, Int.toNat_natCast, List.getElem?_eq_getElem h]
  rfl
theorem toBytes_exact (l : List Int) (hl : l.length ≤ 281474976710656) : laws_toByteS.f (l.length + 1) l = some l := by
  unfold laws_toByteS.f
  rw [if_pos (by omega), if_pos (by omega)]
  obtain ⟨r, hr, hrl, hrp⟩ := fills l.length hl (fun k acc i => laws_toByteS.l0 k l acc i) (fun i => rd l (i : Int)) (fun k acc i hk => by
    simp only [laws_toByteS.l0]
    by_cases hi : i < (l.length : Int)
    · rw [if_pos hi, if_pos hi]
      by_cases h0 : 0 ≤ i
      · rw [if_pos h0, if_pos h0]
        by_cases h1 : i < (acc.length : Int)
        · rw [if_pos h1, if_pos h1, show ((i.toNat : Nat) : Int) = i by omega]
        · rw [if_neg h1, if_neg h1]
      · rw [if_neg h0, if_neg h0]
    · rw [if_neg hi, if_neg hi]) l.length (l.length + 1) 0 (List.replicate l.length 0) (by omega) rfl (by simp) (fun j hj => by omega)
  rw [show (l.length : Int).toNat = l.length by omega]
  show laws_toByteS.l0 _ _ _ _ = _
  have hr' : laws_toByteS.l0 (l.length + 1) l (List.replicate l.length 0) 0 = some r := hr
  rw [hr']
  congr 1
  apply List.ext_getElem?
  intro j
  by_cases hj : j < l.length
  · rw [hrp j hj, rd_at l j hj]
  · rw [List.getElem?_eq_none (by omega), List.getElem?_eq_none (by omega)]
theorem toBytes_le (l : List Int) (hl : l.length ≤ 281474976710656) (k : Nat) (hk : l.length < k) : laws_toByteS.f k l = some l := by
  obtain ⟨d, rfl⟩ : ∃ d, k = l.length + 1 + d := ⟨k - (l.length + 1), by omega⟩
  induction d with
  | zero => exact toBytes_exact l hl
  | succ d ih => exact laws_toByteS.mono l _ _ (ih (by omega))
theorem szBytes (l : List Int) (a : Int) (hl : l.length ≤ maxLen) (ha : 0 ≤ a) (ha' : a ≤ 1048576) : laws_szByteS.f l a = some (if a < (l.length : Int) then -1 else a - (l.length : Int)) := by
  unfold laws_szByteS.f
  unfold maxLen at hl
  rw [wrap_id (by omega) (by omega)]
  by_cases h : a < (l.length : Int)
  · rw [if_pos (by omega), if_pos h]
  · rw [if_neg (by omega), if_neg h]
theorem eqBytes_loop (a b : List Int) (hl : a.length = b.length) (hb : a.length ≤ 281474976710656) : ∀ d k (i : Nat), i + d = a.length → d < k →
    laws_eqByteS.l0 k a b (i : Int) = some (decide (a.drop i = b.drop i)) := by
  intro d
  induction d with
  | zero =>
    intro k i hi hk
    obtain ⟨k, rfl⟩ : ∃ m, k = m + 1 := ⟨k - 1, by omega⟩
    simp only [laws_eqByteS.l0]
    rw [if_neg (by omega), List.drop_eq_nil_of_le (by omega), List.drop_eq_nil_of_le (by omega)]
    rfl
  | succ d ih =>
    intro k i hi hk
    obtain ⟨k, rfl⟩ : ∃ m, k = m + 1 := ⟨k - 1, by omega⟩
    simp only [laws_eqByteS.l0]
    rw [if_pos (by omega), if_pos (by omega), if_pos (by omega), wrap_id (by omega) (by omega)]
    have h1 := rd_at a i (by omega)
    have h2 := rd_at b i (by omega)
    have e1 : a.drop i = rd a (i : Int) :: a.drop (i + 1) := by
      rw [List.drop_eq_getElem_cons (by omega)]
      congr 1
      rw [List.getElem?_eq_getElem (by omega)] at h1
      exact Option.some.inj h1
    have e2 : b.drop i = rd b (i : Int) :: b.drop (i + 1) := by
      rw [List.drop_eq_getElem_cons (by omega)]
      congr 1
      rw [List.getElem?_eq_getElem (by omega)] at h2
      exact Option.some.inj h2
    have hr := ih k (i + 1) (by omega) (by omega)
    rw [e1, e2]
    by_cases he : rd a (i : Int) = rd b (i : Int)
    · rw [if_pos he, show ((i : Int) + 1) = ((i + 1 : Nat) : Int) by omega, hr, he]
      simp
    · rw [if_neg he]
      simp [he]
theorem eqBytes (a b : List Int) (hb : a.length ≤ 281474976710656) (k : Nat) (hk : a.length < k) : laws_eqByteS.f k a b = some (decide (a = b)) := by
  unfold laws_eqByteS.f
  by_cases h : a.length = b.length
  · rw [if_pos (by omega)]
    have := eqBytes_loop a b h hb a.length k 0 (by omega) hk
    simpa using this
  · rw [if_neg (by omega)]
    have : a ≠ b := fun e => h (by rw [e])
    simp [this]
/-! ### marks -/
theorem mark_loop (m : Int) (n : Nat) (hm : 0 ≤ m) (hb : m + n ≤ 1000000000) : ∀ d k (i : Nat) (acc : List Int), i + d = n → d < k → acc.length = n → (∀ j, j < i → acc[j]? = some ((m + j) % 256)) →
    ∃ r, laws_markByteS.l0 k acc (m + i) (i : Int) = some (m + n, r) ∧ r.length = n ∧ ∀ j, j < n → r[j]? = some ((m + j) % 256) := by
  intro d
  induction d with
  | zero =>
    intro k i acc hi hk hl hp
    obtain ⟨k, rfl⟩ : ∃ q, k = q + 1 := ⟨k - 1, by omega⟩
    refine ⟨acc, ?_, hl, fun j hj => hp j (by omega)⟩
    simp only [laws_markByteS.l0]
    rw [if_neg (by omega), show i = n by omega]
  | succ d ih =>
    intro k i acc hi hk hl hp
    obtain ⟨k, rfl⟩ : ∃ q, k = q + 1 := ⟨k - 1, by omega⟩
    obtain ⟨r, hr, hrl, hrp⟩ := ih k (i + 1) (acc.set i ((m + i) % 256)) (by omega) (by omega) (by simpa using hl) (fun j hj => by
      by_cases hji : j = i
      · subst hji
        simp [List.getElem?_set, hl]
        omega
      · rw [List.getElem?_set_ne (by omega)]
        exact hp j (by omega))
    refine ⟨r, ?_, hrl, hrp⟩
    simp only [laws_markByteS.l0]
    rw [if_pos (by omega), if_pos (by omega), wrap_id (by omega) (by omega), wrap_id (by omega) (by omega), Int.toNat_natCast]
    rw [show m + (i : Int) + 1 = m + ((i + 1 : Nat) : Int) by omega, show (i : Int) + 1 = ((i + 1 : Nat) : Int) by omega]
    exact hr
theorem held_loop (m : Int) (n : Nat) (hm : 0 ≤ m) (hb : m + n ≤ 1000000000) (r : List Int) (hl : r.length = n) (hp : ∀ j, j < n → r[j]? = some ((m + j) % 256)) : ∀ d k (i : Nat), i + d = n → d < k →
    laws_heldByteS.l0 k r (m + i) (i : Int) = some (m + n) := by
  intro d
  induction d with
  | zero =>
    intro k i hi hk
    obtain ⟨k, rfl⟩ : ∃ q, k = q + 1 := ⟨k - 1, by omega⟩
    simp only [laws_heldByteS.l0]
    rw [if_neg (by omega), show i = n by omega]
  | succ d ih =>
    intro k i hi hk
    obtain ⟨k, rfl⟩ : ∃ q, k = q + 1 := ⟨k - 1, by omega⟩
    have h1 := rd_at r i (by omega)
    rw [hp i (by omega)] at h1
    have h2 := Option.some.inj h1
    simp only [laws_heldByteS.l0]
    rw [if_pos (by omega), if_pos (by omega), if_pos h2.symm, wrap_id (by omega) (by omega), wrap_id (by omega) (by omega)]
    rw [show m + (i : Int) + 1 = m + ((i + 1 : Nat) : Int) by omega, show (i : Int) + 1 = ((i + 1 : Nat) : Int) by omega]
    exact ih k (i + 1) (by omega) (by omega)
theorem markBytes (l : List Int) (m : Int) (hm : 0 ≤ m) (hb : m + l.length ≤ 1000000000) (k : Nat) (hk : l.length < k) :
    ∃ r, laws_markByteS.f k l m = some (m + l.length, r) ∧ r.length = l.length ∧ ∀ k', l.length < k' → laws_heldByteS.f k' r m = some (m + l.length) := by
  obtain ⟨r, h1, h2, h3⟩ := mark_loop m l.length hm hb l.length k 0 l (by omega) hk rfl (fun j hj => by omega)
  refine ⟨r, ?_, h2, fun k' hk' => ?_⟩
  · have := h1
    rw [show m + ((0 : Nat) : Int) = m by omega] at this
    exact this
  · have := held_loop m l.length hm hb r h2 h3 l.length k' 0 (by omega) hk'
    rw [show m + ((0 : Nat) : Int) = m by omega] at this
    exact this
/-! ### two bytes of a number -/
theorem specBytes2 (v : Int) (h0 : 0 ≤ v) (h1 : v ≤ 65535) (k : Nat) : spec_BytesOf.f (k + 6) v 2 = some [v / 256 % 256, v % 256] := by
  have e : (8 : Int) * 2 = 16 := rfl
  have hm : ∀ x : Int, 0 ≤ x → Int.tmod x 256 = x % 256 := fun x hx => Int.tmod_eq_emod_of_nonneg hx
  have hs : shr .i64 v 8 = v / 256 := by simp [shr, IntKind.bits]
  have hs0 : shr .i64 v 0 = v := by simp [shr, IntKind.bits]
  have hw : shl .i64 1 16 - 1 = 65535 := by simp [shl, IntKind.wrap, IntKind.bits, IntKind.signed]
  simp only [spec_BytesOf.f, inAll, Option.bind_some]
  simp only [show wrap64 (8 * 2) = 16 from wl (by omega) (by omega) (by omega), hw, show wrap64 65535 = 65535 from wl (by omega) (by omega) (by omega)]
  simp only [show (decide ((1 : Int) ≤ 2 ∧ (2 : Int) ≤ 4)) = true by decide, if_true, show (0 : Int) ≤ 16 by omega, show decide (0 ≤ v ∧ v ≤ 65535) = true by simp [h0, h1]]
  simp only [Bool.not_true, spec_BytesOf.j0, Bool.false_eq_true, if_false, show wrap64 (2 - 1) = 1 from wl (by omega) (by omega) (by omega)]
  rw [spec_BytesOf.l0]
  simp only [show (1 : Int) ≥ 0 by omega, if_true, show wrap64 (8 * 1) = 8 from wl (by omega) (by omega) (by omega), show (0 : Int) ≤ 8 by omega, List.length_nil, show 0 < 140737488355328 by omega, hs, show wrap64 (1 - 1) = 0 from wl (by omega) (by omega) (by omega)]
  rw [spec_BytesOf.l0]
  simp only [show (0 : Int) ≥ 0 by omega, if_true, show wrap64 (8 * 0) = 0 from wl (by omega) (by omega) (by omega), Int.le_refl, hs0, show wrap64 (0 - 1) = -1 from wl (by omega) (by omega) (by omega)]
  rw [if_pos (by simp)]
  rw [spec_BytesOf.l0]
  simp only [show ¬ ((-1 : Int) ≥ 0) by omega, if_false]
  rw [hm _ (by omega), hm _ h0]
  simp
/-! ### two bytes of a number, the program's -/
theorem implBytes2 (v : Int) (k : Nat) : impl_bytesOf.f (k + 4) v 2 = some [v / 256 % 256, v % 256] := by
  simp only [impl_bytesOf.f, show (0 : Int) ≤ 2 by omega, if_true, show (2 : Int).toNat = 2 by rfl, show 2 ≤ 281474976710656 by omega, show wrap64 (2 - 1) = 1 from wl (by omega) (by omega) (by omega)]
  rw [impl_bytesOf.l0]
  simp only [show (1 : Int) ≥ 0 by omega, if_true, show (0 : Int) ≤ 1 by omega, show wrap64 (1 - 1) = 0 from wl (by omega) (by omega) (by omega)]
  rw [if_pos (by simp), impl_bytesOf.l0]
  simp only [show (0 : Int) ≥ 0 by omega, if_true, Int.le_refl, show wrap64 (0 - 1) = -1 from wl (by omega) (by omega) (by omega)]
  rw [if_pos (by simp), impl_bytesOf.l0]
  simp only [show ¬ ((-1 : Int) ≥ 0) by omega, if_false]
  rfl
/-! ### rows of structs: copied, compared -/
/-- A loop that turns a row into another one, an element at a time. -/
theorem turns {α : Type} (n : Nat) (hn : n ≤ 281474976710656) (K : Nat) (L : Nat → List α → Int → Option (List α)) (g : Nat → α)
    (h : ∀ k acc i, K ≤ k → acc.length = n → 0 ≤ i → i ≤ (n : Int) → L (k + 1) acc i = if i < (n : Int) then L k (acc.set i.toNat (g i.toNat)) (i + 1) else some acc) :
    ∀ d k (i : Nat) (acc : List α), i + d = n → K + d < k → acc.length = n → (∀ j, j < i → acc[j]? = some (g j)) → L k acc (i : Int) = some ((List.range n).map g) := by
  intro d
  induction d with
  | zero =>
    intro k i acc hi hk hl hp
    obtain ⟨k, rfl⟩ : ∃ m, k = m + 1 := ⟨k - 1, by omega⟩
    rw [h _ _ _ (by omega) hl (by omega) (by omega), if_neg (by omega)]
    congr 1
    apply List.ext_getElem?
    intro j
    by_cases hj : j < n
    · rw [hp j (by omega)]; simp [hj]
    · rw [List.getElem?_eq_none (by omega), List.getElem?_eq_none (by simp; omega)]
  | succ d ih =>
    intro k i acc hi hk hl hp
    obtain ⟨k, rfl⟩ : ∃ m, k = m + 1 := ⟨k - 1, by omega⟩
    rw [h _ _ _ (by omega) hl (by omega) (by omega), if_pos (by omega)]
    exact ih k (i + 1) _ (by omega) (by omega) (by simpa using hl) (fun j hj => by
      by_cases hji : j = i
      · subst hji
        simp [List.getElem?_set, hl]
        omega
      · simp only [Int.toNat_natCast]
        rw [List.getElem?_set_ne (by omega)]
        exact hp j (by omega))
theorem turns_map {α β : Type} (l : List β) (d : β) (f : β → α) : (List.range l.length).map (fun i => f (l.getD i d)) = l.map f := by
  apply List.ext_getElem?
  intro j
  by_cases hj : j < l.length
  · simp [hj]
  · rw [List.getElem?_eq_none (by simp; omega), List.getElem?_eq_none (by simp; omega)]
/-- A loop that compares two rows, an element at a time. -/
theorem equals {α : Type} (l : List α) (hn : l.length ≤ 281474976710656) (K : Nat) (L : Nat → Int → Option Bool)
    (h : ∀ k i, K ≤ k → 0 ≤ i → i ≤ (l.length : Int) → L (k + 1) i = if i < (l.length : Int) then L k (i + 1) else some true) :
    ∀ d k (i : Nat), i + d = l.length → K + d < k → L k (i : Int) = some true := by
  intro d
  induction d with
  | zero =>
    intro k i hi hk
    obtain ⟨k, rfl⟩ : ∃ m, k = m + 1 := ⟨k - 1, by omega⟩
    rw [h _ _ (by omega) (by omega) (by omega), if_neg (by omega)]
  | succ d ih =>
    intro k i hi hk
    obtain ⟨k, rfl⟩ : ∃ m, k = m + 1 := ⟨k - 1, by omega⟩
    rw [h _ _ (by omega) (by omega) (by omega), if_pos (by omega)]
    exact ih k (i + 1) (by omega) (by omega)

/-! ### rows of Range -/
def convRange (x : S103) : S42 := ⟨x.f0, x.f1⟩
theorem toRangeS (l : List S103) (hl : l.length ≤ 1048576) (k : Nat) (hk : l.length < k) : laws_toRangeS.f k l = some (l.map convRange) := by
  unfold laws_toRangeS.f
  rw [if_pos (by omega), if_pos (by omega), ← turns_map l z103 convRange]
  exact turns l.length (by omega) 0 (fun k acc i => laws_toRangeS.l0 k l acc i) (fun i => convRange (l.getD i z103)) (fun k acc i _ ha h0 h1 => by
    simp only [laws_toRangeS.l0, laws_toRange.f, Option.bind_some]
    by_cases hi : i < (l.length : Int)
    · rw [if_pos hi, if_pos hi, if_pos h0, if_pos (by omega), wrap_id (by omega) (by omega)]
      rfl
    · rw [if_neg hi, if_neg hi]) l.length k 0 _ (by omega) (by omega) (by simp) (fun j hj => by omega)
theorem szRangeS (l : List S103) (a : Int) (hl : l.length ≤ maxLen) (ha : 0 ≤ a) (ha' : a ≤ 1048576) : laws_szRangeS.f l a = some (if a < (l.length : Int) then -1 else a - (l.length : Int)) := by
  unfold laws_szRangeS.f
  unfold maxLen at hl
  rw [wrap_id (by omega) (by omega)]
  by_cases h : a < (l.length : Int)
  · rw [if_pos (by omega), if_pos h]
  · rw [if_neg (by omega), if_neg h]
theorem eqRangeS (l : List S42) (hl : l.length ≤ 1048576) (k : Nat) (hk : l.length < k) : laws_eqRangeS.f k l l = some true := by
  unfold laws_eqRangeS.f
  rw [if_pos rfl]
  exact equals l (by omega) 0 (fun k i => laws_eqRangeS.l0 k l l i) (fun k i _ h0 h1 => by
    simp only [laws_eqRangeS.l0, laws_eqRange.f, if_true, Option.bind_some]
    by_cases hi : i < (l.length : Int)
    · rw [if_pos hi, if_pos hi, if_pos h0, if_pos hi, wrap_id (by omega) (by omega)]
    · rw [if_neg hi, if_neg hi]) l.length k 0 (by omega) (by omega)

/-! ### rows of Range, marked -/
theorem rdRange_at (l : List S42) (i : Nat) (v : S42) (h : l[i]? = some v) : rd_T42 l (i : Int) = v := by
  unfold rd_T42
  rw [List.getD_eq_getElem?_getD, Int.toNat_natCast, h]
  rfl
theorem markRange_loop (m : Int) (n : Nat) (hm : 0 ≤ m) (hb : m + 2 * n ≤ 1000000000) : ∀ d k (i : Nat) (acc : List S42), i + d = n → d < k → acc.length = n → (∀ j : Nat, j < i → acc[j]? = some ⟨m + 2 * (j : Int), m + 2 * (j : Int) + 1⟩) →
    ∃ r, laws_markRangeS.l0 k acc (m + 2 * i) (i : Int) = some (m + 2 * n, r) ∧ r.length = n ∧ ∀ j : Nat, j < n → r[j]? = some ⟨m + 2 * (j : Int), m + 2 * (j : Int) + 1⟩ := by
  intro d
  induction d with
  | zero =>
    intro k i acc hi hk hl hp
    obtain ⟨k, rfl⟩ : ∃ q, k = q + 1 := ⟨k - 1, by omega⟩
    refine ⟨acc, ?_, hl, fun j hj => hp j (by omega)⟩
    simp only [laws_markRangeS.l0]
    rw [if_neg (by omega), show i = n by omega]
  | succ d ih =>
    intro k i acc hi hk hl hp
    obtain ⟨k, rfl⟩ : ∃ q, k = q + 1 := ⟨k - 1, by omega⟩
    obtain ⟨r, hr, hrl, hrp⟩ := ih k (i + 1) (acc.set i ⟨m + 2 * (i : Int), m + 2 * (i : Int) + 1⟩) (by omega) (by omega) (by simpa using hl) (fun j hj => by
      by_cases hji : j = i
      · subst hji
        simp [List.getElem?_set, hl]
        omega
      · rw [List.getElem?_set_ne (by omega)]
        exact hp j (by omega))
    refine ⟨r, ?_, hrl, hrp⟩
    simp only [laws_markRangeS.l0, Option.bind_some]
    rw [if_pos (by omega), if_pos (by omega), Int.toNat_natCast, wrap_id (n := m + 2 * (i : Int) + 1) (by omega) (by omega), wrap_id (n := m + 2 * (i : Int) + 1 + 1) (by omega) (by omega), wrap_id (n := (i : Int) + 1) (by omega) (by omega)]
    rw [rdRange_at (acc.set i _) i ⟨m + 2 * (i : Int), (rd_T42 acc (i : Int)).f1⟩ (by simp [List.getElem?_set, hl]; omega), List.set_set]
    rw [show m + 2 * (i : Int) + 1 + 1 = m + 2 * ((i + 1 : Nat) : Int) by omega, show (i : Int) + 1 = ((i + 1 : Nat) : Int) by omega]
    exact hr
theorem markRangeS (l : List S42) (m : Int) (hm : 0 ≤ m) (hb : m + 2 * l.length ≤ 1000000000) (k : Nat) (hk : l.length < k) :
    ∃ r, laws_markRangeS.f k l m = some (m + 2 * l.length, r) ∧ r.length = l.length := by
  obtain ⟨r, h1, h2, h3⟩ := markRange_loop m l.length hm hb l.length k 0 l (by omega) hk rfl (fun j hj => by omega)
  have e : m + 2 * ((0 : Nat) : Int) = m := by omega
  rw [e] at h1
  exact ⟨r, h1, h2⟩
theorem byte_of {l : List Int} (hw : ∀ x ∈ l, (Lit.int .u8 x).wf = true) (x : Int) (hx : x ∈ l) : 0 ≤ x ∧ x ≤ 255 := by
  have := hw x hx
  simpa [Lit.wf, IntKind.min, IntKind.max, IntKind.signed, IntKind.bits] using this
/-! ### the sum of bytes -/
theorem rd_mem (l : List Int) (i : Nat) (h : i < l.length) : rd l (i : Int) ∈ l := List.mem_of_getElem? (rd_at l i h)
def sW (l : List Int) (j : Nat) : Int := if h : 0 < l.length then SumOf_.so_sumW l (SumOf_.so_evens l.length h j) else 0
theorem sW_zero (l : List Int) : sW l 0 = 0 := by
  unfold sW
  split
  · rfl
  · rfl
theorem addW_val (s a b : Int) (hs : 0 ≤ s ∧ s ≤ 65535) (ha : 0 ≤ a ∧ a ≤ 255) (hb : 0 ≤ b ∧ b ≤ 255) :
    SumOf_.so_addW s (a * 256 + b) = if s + (a * 256 + b) > 65535 then s + (a * 256 + b) - 65535 else s + (a * 256 + b) := by
  have h1 : SumOf_.so_one 0 s = s := by
    unfold SumOf_.so_one
    rw [wrap_id (n := 0 + s) (by omega) (by omega), if_neg (by omega)]
    omega
  unfold SumOf_.so_addW
  rw [h1]
  unfold SumOf_.so_one
  rw [wrap_id (n := s + (a * 256 + b)) (by omega) (by omega)]
  split
  · rw [wrap_id (by omega) (by omega)]
  · rfl
theorem nAt_val (l : List Int) (hb : ∀ x ∈ l, 0 ≤ x ∧ x ≤ 255) (i : Nat) (hi : i < l.length) :
    SumOf_.so_nAt l i = rd l (i : Int) * 256 + (if i + 1 < l.length then rd l ((i + 1 : Nat) : Int) else 0) := by
  have h1 := hb _ (rd_mem l i hi)
  unfold SumOf_.so_nAt
  by_cases h2 : i + 1 < l.length
  · have h3 := hb _ (rd_mem l (i + 1) h2)
    rw [if_pos h2, if_pos h2, wrap_id (n := rd l (i : Int)) (by omega) (by omega), wrap_id (by omega) (by omega), wrap_id (by omega) (by omega)]
    exact or256 _ _ h1.1 (by omega) h3.1 h3.2
  · rw [if_neg h2, if_neg h2, wrap_id (n := rd l (i : Int)) (by omega) (by omega), wrap_id (by omega) (by omega)]
    omega
theorem sW_succ (l : List Int) (j : Nat) (h : 2 * j < l.length) : sW l (j + 1) = SumOf_.so_addW (sW l j) (SumOf_.so_nAt l (2 * j)) := by
  have h0 : 0 < l.length := by omega
  unfold sW
  rw [dif_pos h0, dif_pos h0, SumOf_.so_evens_succ _ _ _ h, SumOf_.so_sumW_snoc]
theorem sW_range (l : List Int) (hb : ∀ x ∈ l, 0 ≤ x ∧ x ≤ 255) : ∀ j, 2 * j ≤ l.length + 1 → 0 ≤ sW l j ∧ sW l j ≤ 65535 := by
  intro j
  induction j with
  | zero => intro _; rw [sW_zero]; omega
  | succ j ih =>
    intro hj
    have h1 := ih (by omega)
    have h2 := hb _ (rd_mem l (2 * j) (by omega))
    rw [sW_succ l j (by omega), nAt_val l hb (2 * j) (by omega)]
    by_cases h3 : 2 * j + 1 < l.length
    · have h4 := hb _ (rd_mem l (2 * j + 1) h3)
      rw [if_pos h3, addW_val _ _ _ h1 h2 h4]
      split <;> omega
    · rw [if_neg h3, addW_val _ _ _ h1 h2 (by omega)]
      split <;> omega
theorem l1Sum_loop (l : List Int) (hb : ∀ x ∈ l, 0 ≤ x ∧ x ≤ 255) (hl : l.length ≤ 1000000000) : ∀ d j k, 2 * j + 2 * d = l.length + l.length % 2 → 2 * d < k →
    spec_l1Sum.l0 k l (sW l j) ((2 * j : Nat) : Int) = some (sW l ((l.length + 1) / 2)) := by
  intro d
  induction d with
  | zero =>
    intro j k hj hk
    obtain ⟨k, rfl⟩ : ∃ q, k = q + 1 := ⟨k - 1, by omega⟩
    have e : j = (l.length + 1) / 2 := by omega
    simp only [spec_l1Sum.l0]
    rw [if_neg (by omega), e]
  | succ d ih =>
    intro j k hj hk
    obtain ⟨k, rfl⟩ : ∃ q, k = q + 1 + 1 := ⟨k - 2, by omega⟩
    have h0 : 2 * j < l.length := by omega
    have hr := sW_range l hb j (by omega)
    have h2 := hb _ (rd_mem l (2 * j) h0)
    have hi := ih (j + 1) 
    rw [sW_succ l j h0, nAt_val l hb (2 * j) h0] at hi
    have e1 : wrap64 (wrap64 (rd l ((2 * j : Nat) : Int)) * 256) = rd l ((2 * j : Nat) : Int) * 256 := by
      rw [wrap_id (n := rd l _) (by omega) (by omega), wrap_id (by omega) (by omega)]
    have e2 : wrap64 (((2 * j : Nat) : Int) + 1) = ((2 * j + 1 : Nat) : Int) := by rw [wrap_id (by omega) (by omega)]; omega
    have ht : Int.tmod ((2 * j : Nat) : Int) 2 = 0 := by rw [Int.tmod_eq_emod_of_nonneg (by omega)]; omega
    have ht1 : ¬ Int.tmod ((2 * j + 1 : Nat) : Int) 2 = 0 := by rw [Int.tmod_eq_emod_of_nonneg (by omega)]; omega
    have e3 : wrap64 (((2 * j + 1 : Nat) : Int) + 1) = ((2 * (j + 1) : Nat) : Int) := by rw [wrap_id (by omega) (by omega)]; omega
    have hw : ∀ z : Int, z = sW l j + rd l ((2 * j : Nat) : Int) * 256 ∨ z = sW l j + rd l ((2 * j : Nat) : Int) * 256 - 65535 → wrap64 z = z := by
      intro z hz
      exact wrap_id (by omega) (by omega)
    rw [spec_l1Sum.l0]
    rw [if_pos (by omega), if_pos ht, if_pos (by omega), e1, e2, hw _ (.inl rfl), hw _ (.inr rfl)]
    by_cases h3 : 2 * j + 1 < l.length
    · have h4 := hb _ (rd_mem l (2 * j + 1) h3)
      rw [if_pos h3, addW_val _ _ _ hr h2 h4] at hi
      have e4 : wrap64 (rd l ((2 * j + 1 : Nat) : Int)) = rd l ((2 * j + 1 : Nat) : Int) := wrap_id (by omega) (by omega)
      split
      · rename_i hc
        rw [spec_l1Sum.l0, if_pos (by omega), if_neg ht1, if_pos (by omega), e4, e3, wrap_id (by omega) (by omega), if_neg (by omega)]
        rw [← hi k (by omega) (by omega), if_pos (by omega)]
        congr 1; omega
      · rename_i hc
        rw [spec_l1Sum.l0, if_pos (by omega), if_neg ht1, if_pos (by omega), e4, e3, wrap_id (n := sW l j + rd l ((2 * j : Nat) : Int) * 256 + rd l ((2 * j + 1 : Nat) : Int)) (by omega) (by omega)]
        split
        · rename_i hd
          rw [wrap_id (by omega) (by omega), ← hi k (by omega) (by omega), if_pos (by omega)]
          congr 1; omega
        · rename_i hd
          rw [← hi k (by omega) (by omega), if_neg (by omega)]
          congr 1; omega
    · have hd0 : d = 0 := by omega
      rw [if_neg h3, addW_val _ _ _ hr h2 (by omega)] at hi
      have he := hi 1 (by omega) (by omega)
      rw [spec_l1Sum.l0, if_neg (by omega)] at he
      split
      · rename_i hc
        rw [spec_l1Sum.l0, if_neg (by omega), ← he, if_pos (by omega)]
        congr 1; omega
      · rename_i hc
        rw [spec_l1Sum.l0, if_neg (by omega), ← he, if_neg (by omega)]
        congr 1; omega
theorem specSum (l : List Int) (hb : ∀ x ∈ l, 0 ≤ x ∧ x ≤ 255) (hl : l.length ≤ 1000000000) (k : Nat) (hk : l.length + 1 < k) : spec_SumOf.f k l = some (65535 - sW l ((l.length + 1) / 2)) := by
  have hr := sW_range l hb ((l.length + 1) / 2) (by omega)
  have h0 := l1Sum_loop l hb hl ((l.length + 1) / 2) 0 k (by omega) (by omega)
  rw [sW_zero] at h0
  simp only [spec_SumOf.f, spec_l1Sum.f]
  rw [show (0 : Int) = ((2 * 0 : Nat) : Int) from rfl] 
  rw [show spec_l1Sum.l0 k l ((2 * 0 : Nat) : Int) ((2 * 0 : Nat) : Int) = _ from h0, Option.bind_some, wrap_id (by omega) (by omega)]
theorem implSum (l : List Int) (hb : ∀ x ∈ l, 0 ≤ x ∧ x ≤ 255) (hl : l.length ≤ 1000000000) : impl_sumOf.f l = some (65535 - sW l ((l.length + 1) / 2)) := by
  have hr := sW_range l hb ((l.length + 1) / 2) (by omega)
  have e : SumOf_.so_sumAll l = sW l ((l.length + 1) / 2) := by
    unfold SumOf_.so_sumAll sW
    by_cases h : 0 < l.length
    · simp only [dif_pos h]
    · simp only [dif_neg h]
  rw [← e] at hr
  rw [impl_sumOf.f, if_pos (by omega), e, wrap_id (by omega) (by omega)]
/-! ### a message as bytes -/
def mailHead (b c : Int) (l : List Int) : List Int := b % 256 :: c % 256 :: (l.length : Int) % 256 :: l
def mailSum (a t : Int) (y : List Int) : Int := 65535 - sW (a / 256 % 256 :: a % 256 :: t / 256 % 256 :: t % 256 :: y) ((y.length + 5) / 2)
def mailOf (a b c : Int) (l : List Int) (t : Int) : List Int :=
  if ((0 ≤ a ∧ a ≤ 65535) ∧ (1 ≤ b ∧ b ≤ 255) ∧ (1 ≤ c ∧ c ≤ 255) ∧ (l.length : Int) ≤ 40) ∧ 0 ≤ t ∧ t ≤ 65535 then
    mailHead b c l ++ [mailSum a t (mailHead b c l) / 256 % 256, mailSum a t (mailHead b c l) % 256] else []
theorem mailHead_byte (b c : Int) (l : List Int) (hb : ∀ x ∈ l, 0 ≤ x ∧ x ≤ 255) : ∀ x ∈ mailHead b c l, 0 ≤ x ∧ x ≤ 255 := by
  intro x hx
  simp only [mailHead, List.mem_cons] at hx
  rcases hx with rfl | rfl | rfl | hx
  · omega
  · omega
  · omega
  · exact hb x hx
theorem mailFull_byte (a t : Int) (y : List Int) (hb : ∀ x ∈ y, 0 ≤ x ∧ x ≤ 255) : ∀ x ∈ (a / 256 % 256 :: a % 256 :: t / 256 % 256 :: t % 256 :: y), 0 ≤ x ∧ x ≤ 255 := by
  intro x hx
  simp only [List.mem_cons] at hx
  rcases hx with rfl | rfl | rfl | rfl | hx
  · omega
  · omega
  · omega
  · omega
  · exact hb x hx
theorem mailSum_range (a t : Int) (y : List Int) (hb : ∀ x ∈ y, 0 ≤ x ∧ x ≤ 255) : 0 ≤ mailSum a t y ∧ mailSum a t y ≤ 65535 := by
  have := sW_range _ (mailFull_byte a t y hb) ((y.length + 5) / 2) (by simp only [List.length_cons]; omega)
  unfold mailSum
  omega
theorem specSum9 (a t : Int) (y : List Int) (ha : 0 ≤ a ∧ a ≤ 65535) (ht : 0 ≤ t ∧ t ≤ 65535) (hb : ∀ x ∈ y, 0 ≤ x ∧ x ≤ 255) (hy : y.length ≤ 2097152) (k : Nat) (hk : y.length < k) :
    spec_l9Sum.f (k + 6) a t y = some (mailSum a t y) := by
  have hs := specSum (a / 256 % 256 :: a % 256 :: t / 256 % 256 :: t % 256 :: y) (mailFull_byte a t y hb) (by simp only [List.length_cons]; omega) (k + 6) (by simp only [List.length_cons]; omega)
  simp only [List.length_cons] at hs
  simp only [spec_l9Sum.f, specBytes2 a ha.1 ha.2 k, specBytes2 t ht.1 ht.2 k, Option.bind_some, List.cons_append, List.nil_append, List.length_cons, List.length_nil]
  rw [if_pos (by omega)]
  rw [if_pos (by omega), hs]
  rfl
/-! ### segments -/
abbrev SR := S42
def wordR (x : SR) : Prop := (0 ≤ x.f0 ∧ x.f0 ≤ 65535) ∧ (0 ≤ x.f1 ∧ x.f1 ≤ 65535)
def segTail (c3 c4 : Int) (b5 b6 b7 b8 : Bool) (e : List SR) (l : List Int) : Option Bool :=
  if b6 = true then (if b8 = true then (if b5 = true then (some false) else (if b7 = true then (some false) else (some ((l.length : Int) == 0)))) else (some true)) else (if c3 = 0 then (if c4 = 0 then (if (e.length : Int) > 0 then (some false) else (if b8 = true then (if b5 = true then (some false) else (if b7 = true then (some false) else (some ((l.length : Int) == 0)))) else (some true))) else (some false)) else (some false))
theorem segTail_some (c3 c4 : Int) (b5 b6 b7 b8 : Bool) (e : List SR) (l : List Int) : ∃ v, segTail c3 c4 b5 b6 b7 b8 e l = some v := by
  unfold segTail
  repeat' split
  all_goals exact ⟨_, rfl⟩
theorem closure_is (x : SR) : impl_SegmentOk_1.f x.f0 x.f1 = some (!(decide (0 ≤ x.f0 ∧ x.f0 ≤ 65535) && decide (0 ≤ x.f1 ∧ x.f1 ≤ 65535))) := by
  simp only [impl_SegmentOk_1.f, impl_word.f, inAll', Option.bind_some]
  cases decide (0 ≤ x.f0 ∧ x.f0 ≤ 65535) <;> simp
theorem seg_loop (a0 a1 a2 a3 a4 : Int) (b5 b6 b7 b8 : Bool) (e : List SR) (l : List Int) (he : e.length ≤ 1048576) : ∀ d k (i : Nat), i + d = e.length → d < k →
    ∃ u, impl_Range_108.f (e.drop i) = some u ∧ spec_SegmentOk.l0 k (i : Int) a0 a1 a2 a3 a4 b5 b6 b7 b8 e l = (if u = true then some false else segTail a3 a4 b5 b6 b7 b8 e l) ∧ (u = false → ∀ x ∈ e.drop i, wordR x) := by
  intro d
  induction d with
  | zero =>
    intro k i hi hk
    obtain ⟨k, rfl⟩ : ∃ q, k = q + 1 := ⟨k - 1, by omega⟩
    rw [List.drop_eq_nil_of_le (by omega)]
    refine ⟨false, rfl, ?_, fun _ x hx => by cases hx⟩
    rw [spec_SegmentOk.l0, if_neg (by omega)]
    rfl
  | succ d ih =>
    intro k i hi hk
    obtain ⟨k, rfl⟩ : ∃ q, k = q + 1 := ⟨k - 1, by omega⟩
    obtain ⟨u, h1, h2, h3⟩ := ih k (i + 1) (by omega) (by omega)
    have hx : e.drop i = rd_T42 e (i : Int) :: e.drop (i + 1) := by
      rw [List.drop_eq_getElem_cons (by omega)]
      congr 1
      simp [rd_T42, List.getD_eq_getElem?_getD, List.getElem?_eq_getElem (show i < e.length by omega)]
    rw [hx]
    rw [spec_SegmentOk.l0, if_pos (by omega), if_pos (by omega), wrap_id (n := (i : Int) + 1) (by omega) (by omega), show (i : Int) + 1 = ((i + 1 : Nat) : Int) by omega]
    generalize rd_T42 e (i : Int) = x
    simp only [impl_Range_108.f, closure_is, inAll, Option.bind_some]
    by_cases c1 : 0 ≤ x.f0 ∧ x.f0 ≤ 65535
    · by_cases c2 : 0 ≤ x.f1 ∧ x.f1 ≤ 65535
      · rw [decide_eq_true c1, decide_eq_true c2]
        refine ⟨u, by simpa using h1, by simpa using h2, fun hu y hy => ?_⟩
        rcases List.mem_cons.1 hy with rfl | hy
        · exact ⟨c1, c2⟩
        · exact h3 hu y hy
      · rw [decide_eq_true c1, decide_eq_false c2]
        exact ⟨true, by simp, by simp, fun h => by cases h⟩
    · rw [decide_eq_false c1]
      exact ⟨true, by simp, by simp, fun h => by cases h⟩
def segCond (a0 a1 a2 a3 a4 : Int) (e : List SR) (l : List Int) : Prop := (1 ≤ a0 ∧ a0 ≤ 255) ∧ (1 ≤ a1 ∧ a1 ≤ 255) ∧ (0 ≤ a2 ∧ a2 ≤ 65535) ∧ (0 ≤ a3 ∧ a3 ≤ 65535) ∧ (0 ≤ a4 ∧ a4 ≤ 255) ∧ e.length ≤ 2 ∧ l.length ≤ 12 ∧ ∀ x ∈ e, wordR x
theorem segOk_same (a0 a1 a2 a3 a4 : Int) (b5 b6 b7 b8 : Bool) (e : List SR) (l : List Int) (he : e.length ≤ 1048576) (k : Nat) (hk : e.length + 2 < k) :
    ∃ t, spec_SegmentOk.f k a0 a1 a2 a3 a4 b5 b6 b7 b8 e l = some t ∧ impl_SegmentOk.f k a0 a1 a2 a3 a4 b5 b6 b7 b8 e l = some t ∧ (t = true → segCond a0 a1 a2 a3 a4 e l) := by
  obtain ⟨k, rfl⟩ : ∃ q, k = q + 1 := ⟨k - 1, by omega⟩
  obtain ⟨u, h1, h2, h3⟩ := seg_loop a0 a1 a2 a3 a4 b5 b6 b7 b8 e l he e.length k 0 (by omega) (by omega)
  rw [List.drop_zero] at h1 h3
  have n1 : spec_SegmentOk.j0 (k + 1) true a0 a1 a2 a3 a4 b5 b6 b7 b8 e l = some false := by rw [spec_SegmentOk.j0, if_pos rfl]
  have n2 : impl_SegmentOk.j0 (k + 1) true a0 a1 a2 a3 a4 b5 b6 b7 b8 e l = some false := by rw [impl_SegmentOk.j0, if_pos rfl]
  have o1 : spec_SegmentOk.j0 (k + 1) false a0 a1 a2 a3 a4 b5 b6 b7 b8 e l = (if u = true then some false else segTail a3 a4 b5 b6 b7 b8 e l) := by
    rw [spec_SegmentOk.j0, if_neg (by simp)]
    exact h2
  have o2 : impl_SegmentOk.j0 (k + 1) false a0 a1 a2 a3 a4 b5 b6 b7 b8 e l = (if u = true then some false else segTail a3 a4 b5 b6 b7 b8 e l) := by
    rw [impl_SegmentOk.j0, if_neg (by simp)]
    simp only [impl_Range_93.f, h1, Option.bind_some]
    cases u
    · rfl
    · rfl
  simp only [spec_SegmentOk.f, impl_SegmentOk.f, impl_portOk.f, impl_word.f, inAll, inAll', Option.bind_some]
  by_cases c0 : 1 ≤ a0 ∧ a0 ≤ 255
  · by_cases c1 : 1 ≤ a1 ∧ a1 ≤ 255
    · by_cases c2 : 0 ≤ a2 ∧ a2 ≤ 65535
      · by_cases c3 : 0 ≤ a3 ∧ a3 ≤ 65535
        · by_cases c4 : 0 ≤ a4 ∧ a4 ≤ 255
          · simp only [decide_eq_true c0, decide_eq_true c1, decide_eq_true c2, decide_eq_true c3, decide_eq_true c4, if_true]
            by_cases c5 : (e.length : Int) > 2
            · rw [if_pos c5, if_pos c5]
              exact ⟨false, n1, n2, fun h => by cases h⟩
            · rw [if_neg c5, if_neg c5]
              by_cases c6 : (l.length : Int) > 12
              · rw [decide_eq_true c6]
                exact ⟨false, n1, n2, fun h => by cases h⟩
              · rw [decide_eq_false c6]
                obtain ⟨v, hv⟩ := segTail_some a3 a4 b5 b6 b7 b8 e l
                rw [hv] at o1 o2
                cases u
                · exact ⟨v, o1, o2, fun h => ⟨c0, c1, c2, c3, c4, by omega, by omega, h3 rfl⟩⟩
                · exact ⟨false, o1, o2, fun h => by cases h⟩
          · simp only [decide_eq_true c0, decide_eq_true c1, decide_eq_true c2, decide_eq_true c3, decide_eq_false c4, if_true, Bool.false_eq_true, if_false]
            exact ⟨false, n1, n2, fun h => by cases h⟩
        · simp only [decide_eq_true c0, decide_eq_true c1, decide_eq_true c2, decide_eq_false c3, if_true, Bool.false_eq_true, if_false]
          exact ⟨false, n1, n2, fun h => by cases h⟩
      · simp only [decide_eq_true c0, decide_eq_true c1, decide_eq_false c2, if_true, Bool.false_eq_true, if_false]
        exact ⟨false, n1, n2, fun h => by cases h⟩
    · simp only [decide_eq_true c0, decide_eq_false c1, if_true, Bool.false_eq_true, if_false]
      exact ⟨false, n1, n2, fun h => by cases h⟩
  · simp only [decide_eq_false c0, Bool.false_eq_true, if_false]
    exact ⟨false, n1, n2, fun h => by cases h⟩
/-! ### a segment as bytes -/
def segMarks (b5 b6 b7 b8 : Bool) : Int := (if b5 = true then 1 else 0) + (if b6 = true then 2 else 0) + (if b7 = true then 4 else 0) + (if b8 = true then 8 else 0)
def rangeB (x : SR) : List Int := [x.f0 / 256 % 256, x.f0 % 256, x.f1 / 256 % 256, x.f1 % 256]
def segHead (a0 a1 a2 a3 a4 : Int) (b5 b6 b7 b8 : Bool) (e : List SR) : List Int := [a0 % 256, a1 % 256, a2 / 256 % 256, a2 % 256, a3 / 256 % 256, a3 % 256, a4 % 256, segMarks b5 b6 b7 b8 % 256, (e.length : Int) % 256]
def segBody (a0 a1 a2 a3 a4 : Int) (b5 b6 b7 b8 : Bool) (e : List SR) (l : List Int) : List Int := segHead a0 a1 a2 a3 a4 b5 b6 b7 b8 e ++ (e.map rangeB).flatten ++ (l.length : Int) % 256 :: l
def segOf (y : List Int) (f t : Int) : List Int := y ++ [mailSum f t y / 256 % 256, mailSum f t y % 256]
theorem specMarks (a0 a1 a2 a3 a4 : Int) (b5 b6 b7 b8 : Bool) (e : List SR) (l : List Int) (k : Nat) : spec_l11Marks.f (k + 2) a0 a1 a2 a3 a4 b5 b6 b7 b8 e l = some (segMarks b5 b6 b7 b8) := by
  cases b5 <;> cases b6 <;> cases b7 <;> cases b8 <;> simp [spec_l11Marks.f, spec_l11Marks.j0, spec_l11Marks.j1, segMarks, wrap64]
theorem implMarks (b5 b6 b7 b8 : Bool) : ∃ p q r s, impl_bit.f b5 1 = some p ∧ impl_bit.f b6 2 = some q ∧ impl_bit.f b7 4 = some r ∧ impl_bit.f b8 8 = some s ∧ wrap64 (wrap64 (wrap64 (p + q) + r) + s) = segMarks b5 b6 b7 b8 := by
  refine ⟨if b5 = true then 1 else 0, if b6 = true then 2 else 0, if b7 = true then 4 else 0, if b8 = true then 8 else 0, ?_, ?_, ?_, ?_, ?_⟩
  · cases b5 <;> rfl
  · cases b6 <;> rfl
  · cases b7 <;> rfl
  · cases b8 <;> rfl
  · cases b5 <;> cases b6 <;> cases b7 <;> cases b8 <;> simp [segMarks, wrap64]
theorem rangeB_byte (x : SR) : ∀ y ∈ rangeB x, 0 ≤ y ∧ y ≤ 255 := by
  intro y hy
  simp only [rangeB, List.mem_cons, List.not_mem_nil, or_false] at hy
  rcases hy with rfl | rfl | rfl | rfl <;> omega
theorem segBody_byte (a0 a1 a2 a3 a4 : Int) (b5 b6 b7 b8 : Bool) (e : List SR) (l : List Int) (hb : ∀ x ∈ l, 0 ≤ x ∧ x ≤ 255) : ∀ x ∈ segBody a0 a1 a2 a3 a4 b5 b6 b7 b8 e l, 0 ≤ x ∧ x ≤ 255 := by
  intro x hx
  simp only [segBody, segHead, List.mem_append, List.mem_cons, List.not_mem_nil, or_false, List.mem_flatten, List.mem_map] at hx
  rcases hx with (hx | ⟨_, ⟨y, _, rfl⟩, hy⟩) | rfl | hx
  · rcases hx with rfl | rfl | rfl | rfl | rfl | rfl | rfl | rfl | rfl <;> omega
  · exact rangeB_byte y x hy
  · omega
  · exact hb x hx
theorem flat_len (e : List SR) : ((e.map rangeB).flatten).length = 4 * e.length := by
  induction e with
  | nil => rfl
  | cons x e ih => simp only [List.map_cons, List.flatten_cons, List.length_append, ih, List.length_cons, rangeB, List.length_nil]; omega
theorem segBody_len (a0 a1 a2 a3 a4 : Int) (b5 b6 b7 b8 : Bool) (e : List SR) (l : List Int) : (segBody a0 a1 a2 a3 a4 b5 b6 b7 b8 e l).length = 10 + 4 * e.length + l.length := by
  simp only [segBody, segHead, List.length_append, flat_len, List.length_cons, List.length_nil]; omega
theorem drop_cons (e : List SR) (i : Nat) (hi : i < e.length) : e.drop i = rd_T42 e (i : Int) :: e.drop (i + 1) := by
  rw [List.drop_eq_getElem_cons hi]
  congr 1
  simp [rd_T42, List.getD_eq_getElem?_getD, List.getElem?_eq_getElem hi]
theorem rd_in (e : List SR) (i : Nat) (hi : i < e.length) : rd_T42 e (i : Int) ∈ e := by
  have h := drop_cons e i hi
  have : rd_T42 e (i : Int) ∈ e.drop i := by rw [h]; simp
  exact List.mem_of_mem_drop this
theorem specSegLoop (f t a0 a1 a2 a3 a4 : Int) (b5 b6 b7 b8 : Bool) (e : List SR) (l : List Int) (he : e.length ≤ 2) (hl : l.length ≤ 12) (hw : ∀ x ∈ e, wordR x) (hb : ∀ x ∈ l, 0 ≤ x ∧ x ≤ 255) (hf : 0 ≤ f ∧ f ≤ 65535) (ht : 0 ≤ t ∧ t ≤ 65535) :
    ∀ d k (i : Nat) (acc : List Int), i + d = e.length → d + 100 < k → acc.length ≤ 9 + 4 * i → (∀ x ∈ acc, 0 ≤ x ∧ x ≤ 255) →
    spec_SegmentBytes.l0 k f t acc (i : Int) a0 a1 a2 a3 a4 b5 b6 b7 b8 e l = some (segOf (acc ++ ((e.drop i).map rangeB).flatten ++ (l.length : Int) % 256 :: l) f t) := by
  intro d
  induction d with
  | zero =>
    intro k i acc hi hk ha hab
    obtain ⟨k, rfl⟩ : ∃ q, k = q + 7 := ⟨k - 7, by omega⟩
    rw [spec_SegmentBytes.l0, if_neg (by omega), if_pos (by omega), List.drop_eq_nil_of_le (by omega)]
    simp only [Option.bind_some, List.map_nil, List.flatten_nil, List.append_nil]
    rw [if_pos (by simp; omega)]
    have hy : ∀ x ∈ acc ++ [(l.length : Int) % 256] ++ l, 0 ≤ x ∧ x ≤ 255 := by
      intro x hx
      simp only [List.mem_append, List.mem_cons, List.not_mem_nil, or_false] at hx
      rcases hx with (hx | rfl) | hx
      · exact hab x hx
      · omega
      · exact hb x hx
    have hlen : (acc ++ [(l.length : Int) % 256] ++ l).length ≤ 40 := by simp; omega
    have hs := specSum9 f t _ hf ht hy (by omega) k (by omega)
    have hr := mailSum_range f t _ hy
    have hB := specBytes2 _ hr.1 hr.2 k
    rw [hs, Option.bind_some, hB, Option.bind_some, if_pos (by simp only [List.length_cons, List.length_nil]; omega)]
    unfold segOf
    simp
  | succ d ih =>
    intro k i acc hi hk ha hab
    obtain ⟨k, rfl⟩ : ∃ q, k = q + 7 := ⟨k - 7, by omega⟩
    have hx := hw _ (rd_in e i (by omega))
    rw [spec_SegmentBytes.l0, if_pos (by omega), if_pos (by omega), drop_cons e i (by omega), wrap_id (n := (i : Int) + 1) (by omega) (by omega), show (i : Int) + 1 = ((i + 1 : Nat) : Int) by omega]
    generalize rd_T42 e (i : Int) = x at hx
    rw [specBytes2 x.f0 hx.1.1 hx.1.2 k, Option.bind_some, if_pos (by simp only [List.length_cons, List.length_nil]; omega), Option.bind_some, specBytes2 x.f1 hx.2.1 hx.2.2 k, Option.bind_some, if_pos (by simp; omega)]
    rw [ih (k + 6) (i + 1) _ (by omega) (by omega) (by simp; omega) (by
      intro y hy
      simp only [List.mem_append, List.mem_cons, List.not_mem_nil, or_false] at hy
      rcases hy with (hy | rfl | rfl) | rfl | rfl
      · exact hab y hy
      · omega
      · omega
      · omega
      · omega)]
    simp [rangeB]
theorem implSegLoop (a0 a1 a2 a3 a4 : Int) (b5 b6 b7 b8 : Bool) (e : List SR) (l : List Int) (he : e.length ≤ 2) (hl : l.length ≤ 12) :
    ∀ d k (i : Nat) (acc : List Int), i + d = e.length → d + 10 < k → acc.length ≤ 9 + 4 * i →
    impl_Segment_body.l0 k acc e (e.length : Int) (i : Int) a0 a1 a2 a3 a4 b5 b6 b7 b8 e l = some (acc ++ ((e.drop i).map rangeB).flatten ++ (l.length : Int) % 256 :: l) := by
  intro d
  induction d with
  | zero =>
    intro k i acc hi hk ha
    obtain ⟨k, rfl⟩ : ∃ q, k = q + 7 := ⟨k - 7, by omega⟩
    rw [impl_Segment_body.l0, if_neg (by omega), List.drop_eq_nil_of_le (by omega)]
    simp only [slices_Concat_byte_byte.f]
    rw [if_pos (by simp; omega), Option.bind_some]
    simp
  | succ d ih =>
    intro k i acc hi hk ha
    obtain ⟨k, rfl⟩ : ∃ q, k = q + 5 := ⟨k - 5, by omega⟩
    rw [impl_Segment_body.l0, if_pos (by omega), if_pos (by omega), if_pos (by omega), drop_cons e i (by omega), wrap_id (n := (i : Int) + 1) (by omega) (by omega), show (i : Int) + 1 = ((i + 1 : Nat) : Int) by omega]
    generalize rd_T42 e (i : Int) = x
    rw [implBytes2 x.f0 k, Option.bind_some, implBytes2 x.f1 k, Option.bind_some]
    have hc : slices_Concat_byte_byte.f [acc, [x.f0 / 256 % 256, x.f0 % 256], [x.f1 / 256 % 256, x.f1 % 256]] = some (acc ++ rangeB x) := by
      simp only [slices_Concat_byte_byte.f]
      rw [if_pos (by simp; omega)]
      simp [rangeB]
    rw [hc, Option.bind_some, ih (k + 4) (i + 1) _ (by omega) (by omega) (by simp [rangeB]; omega)]
    simp
theorem specSeg (a0 a1 a2 a3 a4 : Int) (b5 b6 b7 b8 : Bool) (e : List SR) (l : List Int) (f t : Int) (he : e.length ≤ 1048576) (hb : ∀ x ∈ l, 0 ≤ x ∧ x ≤ 255) (k : Nat) (hk : e.length + 200 < k) :
    ∃ Y, spec_SegmentBytes.f k a0 a1 a2 a3 a4 b5 b6 b7 b8 e l f t = some Y ∧ impl_SegmentBytes.f k a0 a1 a2 a3 a4 b5 b6 b7 b8 e l f t = some Y ∧ Y.length ≤ 100 := by
  obtain ⟨k, rfl⟩ : ∃ q, k = q + 8 := ⟨k - 8, by omega⟩
  obtain ⟨u, h1, h2, h3⟩ := segOk_same a0 a1 a2 a3 a4 b5 b6 b7 b8 e l he (k + 8) (by omega)
  have n1 : spec_SegmentBytes.j0 (k + 8) f t true a0 a1 a2 a3 a4 b5 b6 b7 b8 e l = some [] := by rw [spec_SegmentBytes.j0, if_pos rfl]
  have n2 : impl_SegmentBytes.j0 (k + 8) f t true a0 a1 a2 a3 a4 b5 b6 b7 b8 e l = some [] := by rw [impl_SegmentBytes.j0, if_pos rfl]
  simp only [spec_SegmentBytes.f, impl_SegmentBytes.f, impl_word.f, h1, h2, inAll, inAll', Option.bind_some]
  cases u
  · exact ⟨[], by simpa using n1, by simpa using n2, by simp⟩
  · simp only [if_true]
    obtain ⟨c0, c1, c2, c3, c4, c5, c6, c7⟩ := h3 rfl
    by_cases hf : 0 ≤ f ∧ f ≤ 65535
    · by_cases ht : 0 ≤ t ∧ t ≤ 65535
      · simp only [decide_eq_true hf, decide_eq_true ht, if_true, Bool.not_true]
        have hyb := segBody_byte a0 a1 a2 a3 a4 b5 b6 b7 b8 e l hb
        have hyl := segBody_len a0 a1 a2 a3 a4 b5 b6 b7 b8 e l
        have hS : spec_SegmentBytes.j0 (k + 8) f t false a0 a1 a2 a3 a4 b5 b6 b7 b8 e l = some (segOf (segBody a0 a1 a2 a3 a4 b5 b6 b7 b8 e l) f t) := by
          rw [spec_SegmentBytes.j0, if_neg (by simp)]
          simp only [Option.bind_some, specBytes2 a2 c2.1 c2.2 (k + 1), specBytes2 a3 c3.1 c3.2 (k + 1), specMarks a0 a1 a2 a3 a4 b5 b6 b7 b8 e l (k + 5), List.cons_append, List.nil_append, List.length_cons, List.length_nil]
          rw [if_pos (by omega), if_pos (by omega), if_pos (by omega)]
          have := specSegLoop f t a0 a1 a2 a3 a4 b5 b6 b7 b8 e l c5 c6 c7 hb hf ht e.length (k + 7) 0 (segHead a0 a1 a2 a3 a4 b5 b6 b7 b8 e) (by omega) (by omega) (by simp [segHead]) (by
            intro y hy
            simp only [segHead, List.mem_cons, List.not_mem_nil, or_false] at hy
            rcases hy with rfl | rfl | rfl | rfl | rfl | rfl | rfl | rfl | rfl <;> omega)
          rw [List.drop_zero] at this
          exact this
        have hI : impl_SegmentBytes.j0 (k + 8) f t false a0 a1 a2 a3 a4 b5 b6 b7 b8 e l = some (segOf (segBody a0 a1 a2 a3 a4 b5 b6 b7 b8 e l) f t) := by
          obtain ⟨p, q, r, s, m1, m2, m3, m4, m5⟩ := implMarks b5 b6 b7 b8
          have hbody : impl_Segment_body.f (k + 7) a0 a1 a2 a3 a4 b5 b6 b7 b8 e l = some (segBody a0 a1 a2 a3 a4 b5 b6 b7 b8 e l) := by
            unfold impl_Segment_body.f
            rw [m1, Option.bind_some, m2, Option.bind_some, m3, Option.bind_some, m4, Option.bind_some, implBytes2 a2 (k + 3), Option.bind_some, implBytes2 a3 (k + 3), Option.bind_some, m5]
            have hc : slices_Concat_byte_byte.f [[a0 % 256, a1 % 256], [a2 / 256 % 256, a2 % 256], [a3 / 256 % 256, a3 % 256], [a4 % 256, segMarks b5 b6 b7 b8 % 256, (e.length : Int) % 256]] = some (segHead a0 a1 a2 a3 a4 b5 b6 b7 b8 e) := rfl
            rw [hc, Option.bind_some]
            have := implSegLoop a0 a1 a2 a3 a4 b5 b6 b7 b8 e l c5 c6 e.length (k + 7) 0 (segHead a0 a1 a2 a3 a4 b5 b6 b7 b8 e) (by omega) (by omega) (by simp [segHead])
            rw [List.drop_zero] at this
            exact this
          have hbt : impl_between.f (k + 7) f t = some [f / 256 % 256, f % 256, t / 256 % 256, t % 256] := by
            simp only [impl_between.f, implBytes2 _ (k + 3), Option.bind_some, slices_Concat_byte_byte.f, List.flatten_cons, List.flatten_nil, List.cons_append, List.nil_append, List.append_nil, List.length_cons, List.length_nil]
            rfl
          rw [impl_SegmentBytes.j0, if_neg (by simp), hbody, Option.bind_some, hbt, Option.bind_some]
          generalize segBody a0 a1 a2 a3 a4 b5 b6 b7 b8 e l = Y at hyb hyl
          have hs := implSum (f / 256 % 256 :: f % 256 :: t / 256 % 256 :: t % 256 :: Y) (mailFull_byte f t _ hyb) (by simp only [List.length_cons]; omega)
          have hss : impl_sumOf.f (f / 256 % 256 :: f % 256 :: t / 256 % 256 :: t % 256 :: Y) = some (mailSum f t Y) := by
            rw [hs]
            simp only [List.length_cons]
            rfl
          have hc1 : slices_Concat_byte_byte.f [[f / 256 % 256, f % 256, t / 256 % 256, t % 256], Y] = some (f / 256 % 256 :: f % 256 :: t / 256 % 256 :: t % 256 :: Y) := by
            simp only [slices_Concat_byte_byte.f, List.flatten_cons, List.flatten_nil, List.cons_append, List.nil_append, List.append_nil, List.length_cons]
            rw [if_pos (by omega)]
          have hc2 : ∀ z : List Int, z.length = 2 → slices_Concat_byte_byte.f [Y, z] = some (Y ++ z) := by
            intro z hz
            simp only [slices_Concat_byte_byte.f, List.flatten_cons, List.flatten_nil, List.append_nil, List.length_append]
            rw [if_pos (by omega)]
          rw [hc1, Option.bind_some, hss, Option.bind_some, implBytes2 _ (k + 3), Option.bind_some, hc2 _ rfl]
          rfl
        refine ⟨_, hS, hI, ?_⟩
        unfold segOf
        rw [List.length_append, hyl]
        simp only [List.length_cons, List.length_nil]
        omega
      · simp only [decide_eq_true hf, decide_eq_false ht, if_true, Bool.not_false]
        exact ⟨[], n1, n2, by simp⟩
    · simp only [decide_eq_false hf, Bool.false_eq_true, if_false]
      exact ⟨[], n1, n2, by simp⟩
theorem main : GFnExactSegmentBytes.Stmt := by
  intro a0 a1 a2 a3 a4 b5 b6 b7 b8 e l f t _ _ _ _ _ he hl _ _
  obtain ⟨hl, hw⟩ := hl
  obtain ⟨he, _⟩ := he
  have hby := fun x hx => byte_of hw x hx
  refine ⟨e.length + l.length + 3000, ?_⟩
  simp only [laws_FnExactSegmentBytes.f, laws_szSegment.f, szRangeS e 1048576 he (by omega) (by omega), Option.bind_some]
  by_cases h : (1048576 : Int) < (e.length : Int)
  · rw [if_pos h]; simp
  · rw [if_neg h, if_neg (by omega), szBytes l _ hl (by omega) (by omega)]
    simp only [Option.bind_some]
    by_cases h' : 1048576 - (e.length : Int) < (l.length : Int)
    · rw [if_pos h']; simp
    · rw [if_neg h', if_neg (by omega)]
      simp only [Option.bind_some]
      rw [if_neg (by omega)]
      have hto : ∀ k, e.length + l.length + 2 < k → laws_toSegment.f k a0 a1 a2 a3 a4 b5 b6 b7 b8 e l = some (a0, a1, a2, a3, a4, b5, b6, b7, b8, e.map convRange, l) := fun k hk => by
        simp only [laws_toSegment.f, toRangeS e (by omega) k (by omega), toBytes_le l (by omega) k (by omega), Option.bind_some]
      have heq : laws_eqSegment.f (e.length + l.length + 3000) a0 a1 a2 a3 a4 b5 b6 b7 b8 (e.map convRange) l a0 a1 a2 a3 a4 b5 b6 b7 b8 (e.map convRange) l = some true := by
        simp only [laws_eqSegment.f, if_true, bne_self_eq_false, Bool.false_eq_true, if_false, eqRangeS (e.map convRange) (by simp; omega) _ (show (e.map convRange).length < e.length + l.length + 3000 by simp; omega), eqBytes l l (by omega) _ (show l.length < e.length + l.length + 3000 by omega), Option.bind_some, decide_true]
      obtain ⟨Y, hs, hi0, hyl⟩ := specSeg a0 a1 a2 a3 a4 b5 b6 b7 b8 (e.map convRange) l f t (by simp; omega) hby (e.length + l.length + 3000) (by simp; omega)
      obtain ⟨Y', hs', hi1, _⟩ := specSeg a0 a1 a2 a3 a4 b5 b6 b7 b8 (e.map convRange) l f t (by simp; omega) hby (e.length + l.length + 2999) (by simp; omega)
      have hY : Y' = Y := by
        have h1 := impl_SegmentBytes.mono a0 a1 a2 a3 a4 b5 b6 b7 b8 (e.map convRange) l f t (e.length + l.length + 2999) _ hi1
        rw [show e.length + l.length + 2999 + 1 = e.length + l.length + 3000 from rfl, hi0] at h1
        exact (Option.some.inj h1).symm
      subst hY
      obtain ⟨rr, mr, _⟩ := markRangeS (e.map convRange) 1 (by omega) (by simp; omega) (e.length + l.length + 3000) (by simp; omega)
      obtain ⟨r0, m0, _, _⟩ := markBytes l (1 + 2 * ((e.map convRange).length : Int)) (by simp; omega) (by simp; omega) (e.length + l.length + 3000) (by omega)
      obtain ⟨r1, m1, n1, e1⟩ := markBytes Y' 1 (by omega) (by omega) (e.length + l.length + 2999) (by omega)
      have hj : laws_FnExactSegmentBytes.j0 (e.length + l.length + 3000) f t Y' Y' false a0 a1 a2 a3 a4 b5 b6 b7 b8 e l = some true := by
        simp only [laws_FnExactSegmentBytes.j0]
        simp only [Bool.false_eq_true, if_false, m1, Option.bind_some, e1 (e.length + l.length + 2999) (by omega), hto (e.length + l.length + 2999) (by omega), hi1, eqBytes Y' Y' (by omega) (e.length + l.length + 2999) (by omega), decide_true, if_true]
        rw [if_neg (by omega), if_neg (by omega)]
      simp only [hto (e.length + l.length + 3000) (by omega), Option.bind_some, hs, hi0, eqBytes Y' Y' (by omega) (e.length + l.length + 3000) (by omega), decide_true, if_true, heq, laws_markSegment.f, mr, m0, Bool.not_true, hj]
      rw [if_neg (by omega)]
end FnExactSegmentBytes_
theorem FnExactSegmentBytes : GFnExactSegmentBytes.Stmt := FnExactSegmentBytes_.main
end Go.Proofs.Ytfcocnhkimbpbab.Pure
