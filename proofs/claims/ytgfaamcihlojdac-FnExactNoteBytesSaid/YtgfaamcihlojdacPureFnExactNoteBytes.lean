/- The law FnExactNoteBytes over numbers and lists: the program's NoteBytes answers as the reference's, its answer is its own, and the note stays as it was. No conditions but the kinds' ranges. -/
import Derived.Test.YtgfaamcihlojdacGFnExactNoteBytes
namespace Go.Proofs.Ytgfaamcihlojdac.Pure
open Go Go.RowKit Go.Proofs.Ytgfaamcihlojdac.MFnExactNoteBytes Go.Proofs.YtgfaamcihlojdacV.PrintWords Go.Proofs.YtgfaamcihlojdacV.PrintLast
set_option linter.unusedVariables false
set_option linter.unusedSimpArgs false
namespace FnExactNoteBytes_
theorem i64_bounds {x : Int} (h : (Lit.int .i64 x).wf = true) : -9223372036854775808 ≤ x ∧ x ≤ 9223372036854775807 := by
  simpa [Lit.wf, IntKind.min, IntKind.max, IntKind.signed, IntKind.bits] using h
theorem inAll (x y z : Int) : spec_l1In.f x y z = some (decide (y ≤ x ∧ x ≤ z)) := by
  unfold spec_l1In.f
  by_cases h : x ≥ y
  · rw [if_pos h]; congr 1; simp only [decide_eq_decide]; omega
  · rw [if_neg h]; congr 1; symm; simp only [decide_eq_false_iff_not]; omega
theorem inAll' (x y z : Int) : impl_in.f x y z = some (decide (y ≤ x ∧ x ≤ z)) := inAll x y z
theorem wl {n m : Int} (h : n = m) (h0 : -9223372036854775808 ≤ m) (h1 : m ≤ 9223372036854775807) : wrap64 n = m := by
  subst h
  unfold wrap64
  omega
/-! ### copies, equality and sizes of rows of bytes -/
theorem wrap_id {n : Int} (h : -9223372036854775808 ≤ n) (h' : n ≤ 9223372036854775807) : wrap64 n = n := by
  unfold wrap64; omega
/-- A loop that fills a row, an element at a time, from the elements of another one. -/
theorem fills {α : Type} (n : Nat) (hn : n ≤ 281474976710656) (L : Nat → List α → Int → Option (List α)) (g : Nat → α)
    (h : ∀ k acc i, k < n + 1 → L (k + 1) acc i = if i < (n : Int) then (if 0 ≤ i then (if i < (acc.length : Int) then L k (acc.set i.toNat (g i.toNat)) (wrap64 (i + 1)) else none) else none) else some acc) :
    ∀ d k (i : Nat) (acc : List α), i + d = n → k = d + 1 → acc.length = n → (∀ j, j < i → acc[j]? = some (g j)) → ∃ r, L k acc (i : Int) = some r ∧ r.length = n ∧ ∀ j, j < n → r[j]? = some (g j) := by
  intro d
  induction d with
  | zero =>
    intro k i acc hi hk hl hp
    subst hk
    refine ⟨acc, ?_, hl, fun j hj => hp j (by omega)⟩
    rw [h _ _ _ (by omega), if_neg (by omega)]
  | succ d ih =>
    intro k i acc hi hk hl hp
    subst hk
    obtain ⟨r, hr, hrl, hrp⟩ := ih (d + 1) (i + 1) (acc.set i (g i)) (by omega) rfl (by simpa using hl) (fun j hj => by
      by_cases hji : j = i
      · subst hji
        simp [List.getElem?_set, hl]
        omega
      · rw [List.getElem?_set_ne (by omega)]
        exact hp j (by omega))
    refine ⟨r, ?_, hrl, hrp⟩
    rw [h _ _ _ (by omega), if_pos (by omega), if_pos (by omega), if_pos (by omega), wrap_id (by omega) (by omega)]
    simpa using hr
theorem rd_at (l : List Int) (i : Nat) (h : i < l.length) : l[i]? = some (rd l (i : Int)) := by
  unfold rd
  rw [List.getD_eq_getElem?_getD, Int.toNat_natCast, List.getElem?_eq_getElem h]
  rfl
theorem toBytes_exact (l : List Int) (hl : l.length ≤ 281474976710656) : laws_toByteS.f (l.length + 1) l = some l := by
  unfold laws_toByteS.f
  rw [if_pos (by omega), if_pos (by omega)]
  obtain ⟨r, hr, hrl, hrp⟩ := fills l.length hl (fun k acc i => laws_toByteS.l0 k l acc i) (fun i => rd l (i : Int)) (fun k acc i hk => by
    simp only [laws_toByteS.l0]
    by_cases hi : i < (l.length : Int)
    · rw [if_pos hi, if_pos hi]
      by_cases h0 : 0 ≤ i
      · rw [if_pos h0, if_pos h0]
        by_cases h1 : i < (acc.length : Int)
        · rw [if_pos h1, if_pos h1, show ((i.toNat : Nat) : Int) = i by omega]
        · rw [if_neg h1, if_neg h1]
      · rw [if_neg h0, if_neg h0]
    · rw [if_neg hi, if_neg hi]) l.length (l.length + 1) 0 (List.replicate l.length 0) (by omega) rfl (by simp) (fun j hj => by omega)
  rw [show (l.length : Int).toNat = l.length by omega]
  show laws_toByteS.l0 _ _ _ _ = _
  have hr' : laws_toByteS.l0 (l.length + 1) l (List.replicate l.length 0) 0 = some r := hr
  rw [hr']
  congr 1
  apply List.ext_getElem?
  intro j
  by_cases hj : j < l.length
  · rw [hrp j hj, rd_at l j hj]
  · rw [List.getElem?_eq_none (by omega), List.getElem?_eq_none (by omega)]
theorem toBytes_le (l : List Int) (hl : l.length ≤ 281474976710656) (k : Nat) (hk : l.length < k) : laws_toByteS.f k l = some l := by
  obtain ⟨d, rfl⟩ : ∃ d, k = l.length + 1 + d := ⟨k - (l.length + 1), by omega⟩
  induction d with
  | zero => exact toBytes_exact l hl
  | succ d ih => exact laws_toByteS.mono l _ _ (ih (by omega))
theorem szBytes (l : List Int) (a : Int) (hl : l.length ≤ maxLen) (ha : 0 ≤ a) (ha' : a ≤ 1048576) : laws_szByteS.f l a = some (if a < (l.length : Int) then -1 else a - (l.length : Int)) := by
  unfold laws_szByteS.f
  unfold maxLen at hl
  rw [wrap_id (by omega) (by omega)]
  by_cases h : a < (l.length : Int)
  · rw [if_pos (by omega), if_pos h]
  · rw [if_neg (by omega), if_neg h]
theorem eqBytes_loop (a b : List Int) (hl : a.length = b.length) (hb : a.length ≤ 281474976710656) : ∀ d k (i : Nat), i + d = a.length → d < k →
    laws_eqByteS.l0 k a b (i : Int) = some (decide (a.drop i = b.drop i)) := by
  intro d
  induction d with
  | zero =>
    intro k i hi hk
    obtain ⟨k, rfl⟩ : ∃ m, k = m + 1 := ⟨k - 1, by omega⟩
    simp only [laws_eqByteS.l0]
    rw [if_neg (by omega), List.drop_eq_nil_of_le (by omega), List.drop_eq_nil_of_le (by omega)]
    rfl
  | succ d ih =>
    intro k i hi hk
    obtain ⟨k, rfl⟩ : ∃ m, k = m + 1 := ⟨k - 1, by omega⟩
    simp only [laws_eqByteS.l0]
    rw [if_pos (by omega), if_pos (by omega), if_pos (by omega), wrap_id (by omega) (by omega)]
    have h1 := rd_at a i (by omega)
    have h2 := rd_at b i (by omega)
    have e1 : a.drop i = rd a (i : Int) :: a.drop (i + 1) := by
      rw [List.drop_eq_getElem_cons (by omega)]
      congr 1
      rw [List.getElem?_eq_getElem (by omega)] at h1
      exact Option.some.inj h1
    have e2 : b.drop i = rd b (i : Int) :: b.drop (i + 1) := by
      rw [List.drop_eq_getElem_cons (by omega)]
      congr 1
      rw [List.getElem?_eq_getElem (by omega)] at h2
      exact Option.some.inj h2
    have hr := ih k (i + 1) (by omega) (by omega)
    rw [e1, e2]
    by_cases he : rd a (i : Int) = rd b (i : Int)
    · rw [if_pos he, show ((i : Int) + 1) = ((i + 1 : Nat) : Int) by omega, hr, he]
      simp
    · rw [if_neg he]
      simp [he]
theorem eqBytes (a b : List Int) (hb : a.length ≤ 281474976710656) (k : Nat) (hk : a.length < k) : laws_eqByteS.f k a b = some (decide (a = b)) := by
  unfold laws_eqByteS.f
  by_cases h : a.length = b.length
  · rw [if_pos (by omega)]
    have := eqBytes_loop a b h hb a.length k 0 (by omega) hk
    simpa using this
  · rw [if_neg (by omega)]
    have : a ≠ b := fun e => h (by rw [e])
    simp [this]
/-! ### marks -/
theorem mark_loop (m : Int) (n : Nat) (hm : 0 ≤ m) (hb : m + n ≤ 1000000000) : ∀ d k (i : Nat) (acc : List Int), i + d = n → d < k → acc.length = n → (∀ j, j < i → acc[j]? = some ((m + j) % 256)) →
    ∃ r, laws_markByteS.l0 k acc (m + i) (i : Int) = some (m + n, r) ∧ r.length = n ∧ ∀ j, j < n → r[j]? = some ((m + j) % 256) := by
  intro d
  induction d with
  | zero =>
    intro k i acc hi hk hl hp
    obtain ⟨k, rfl⟩ : ∃ q, k = q + 1 := ⟨k - 1, by omega⟩
    refine ⟨acc, ?_, hl, fun j hj => hp j (by omega)⟩
    simp only [laws_markByteS.l0]
    rw [if_neg (by omega), show i = n by omega]
  | succ d ih =>
    intro k i acc hi hk hl hp
    obtain ⟨k, rfl⟩ : ∃ q, k = q + 1 := ⟨k - 1, by omega⟩
    obtain ⟨r, hr, hrl, hrp⟩ := ih k (i + 1) (acc.set i ((m + i) % 256)) (by omega) (by omega) (by simpa using hl) (fun j hj => by
      by_cases hji : j = i
      · subst hji
        simp [List.getElem?_set, hl]
        omega
      · rw [List.getElem?_set_ne (by omega)]
        exact hp j (by omega))
    refine ⟨r, ?_, hrl, hrp⟩
    simp only [laws_markByteS.l0]
    rw [if_pos (by omega), if_pos (by omega), wrap_id (by omega) (by omega), wrap_id (by omega) (by omega), Int.toNat_natCast]
    rw [show m + (i : Int) + 1 = m + ((i + 1 : Nat) : Int) by omega, show (i : Int) + 1 = ((i + 1 : Nat) : Int) by omega]
    exact hr
theorem held_loop (m : Int) (n : Nat) (hm : 0 ≤ m) (hb : m + n ≤ 1000000000) (r : List Int) (hl : r.length = n) (hp : ∀ j, j < n → r[j]? = some ((m + j) % 256)) : ∀ d k (i : Nat), i + d = n → d < k →
    laws_heldByteS.l0 k r (m + i) (i : Int) = some (m + n) := by
  intro d
  induction d with
  | zero =>
    intro k i hi hk
    obtain ⟨k, rfl⟩ : ∃ q, k = q + 1 := ⟨k - 1, by omega⟩
    simp only [laws_heldByteS.l0]
    rw [if_neg (by omega), show i = n by omega]
  | succ d ih =>
    intro k i hi hk
    obtain ⟨k, rfl⟩ : ∃ q, k = q + 1 := ⟨k - 1, by omega⟩
    have h1 := rd_at r i (by omega)
    rw [hp i (by omega)] at h1
    have h2 := Option.some.inj h1
    simp only [laws_heldByteS.l0]
    rw [if_pos (by omega), if_pos (by omega), if_pos h2.symm, wrap_id (by omega) (by omega), wrap_id (by omega) (by omega)]
    rw [show m + (i : Int) + 1 = m + ((i + 1 : Nat) : Int) by omega, show (i : Int) + 1 = ((i + 1 : Nat) : Int) by omega]
    exact ih k (i + 1) (by omega) (by omega)
theorem markBytes (l : List Int) (m : Int) (hm : 0 ≤ m) (hb : m + l.length ≤ 1000000000) (k : Nat) (hk : l.length < k) :
    ∃ r, laws_markByteS.f k l m = some (m + l.length, r) ∧ r.length = l.length ∧ ∀ k', l.length < k' → laws_heldByteS.f k' r m = some (m + l.length) := by
  obtain ⟨r, h1, h2, h3⟩ := mark_loop m l.length hm hb l.length k 0 l (by omega) hk rfl (fun j hj => by omega)
  refine ⟨r, ?_, h2, fun k' hk' => ?_⟩
  · have := h1
    rw [show m + ((0 : Nat) : Int) = m by omega] at this
    exact this
  · have := held_loop m l.length hm hb r h2 h3 l.length k' 0 (by omega) hk'
    rw [show m + ((0 : Nat) : Int) = m by omega] at this
    exact this
/-! ### two bytes of a number -/
theorem specBytes2 (v : Int) (h0 : 0 ≤ v) (h1 : v ≤ 65535) (k : Nat) : spec_BytesOf.f (k + 6) v 2 = some [v / 256 % 256, v % 256] := by
  have e : (8 : Int) * 2 = 16 := rfl
  have hm : ∀ x : Int, 0 ≤ x → Int.tmod x 256 = x % 256 := fun x hx => Int.tmod_eq_emod_of_nonneg hx
  have hs : shr .i64 v 8 = v / 256 := by simp [shr, IntKind.bits]
  have hs0 : shr .i64 v 0 = v := by simp [shr, IntKind.bits]
  have hw : shl .i64 1 16 - 1 = 65535 := by simp [shl, IntKind.wrap, IntKind.bits, IntKind.signed]
  simp only [spec_BytesOf.f, inAll, Option.bind_some]
  simp only [show wrap64 (8 * 2) = 16 from wl (by omega) (by omega) (by omega), hw, show wrap64 65535 = 65535 from wl (by omega) (by omega) (by omega)]
  simp only [show (decide ((1 : Int) ≤ 2 ∧ (2 : Int) ≤ 4)) = true by decide, if_true, show (0 : Int) ≤ 16 by omega, show decide (0 ≤ v ∧ v ≤ 65535) = true by simp [h0, h1]]
  simp only [Bool.not_true, spec_BytesOf.j0, Bool.false_eq_true, if_false, show wrap64 (2 - 1) = 1 from wl (by omega) (by omega) (by omega)]
  rw [spec_BytesOf.l0]
  simp only [show (1 : Int) ≥ 0 by omega, if_true, show wrap64 (8 * 1) = 8 from wl (by omega) (by omega) (by omega), show (0 : Int) ≤ 8 by omega, List.length_nil, show 0 < 140737488355328 by omega, hs, show wrap64 (1 - 1) = 0 from wl (by omega) (by omega) (by omega)]
  rw [spec_BytesOf.l0]
  simp only [show (0 : Int) ≥ 0 by omega, if_true, show wrap64 (8 * 0) = 0 from wl (by omega) (by omega) (by omega), Int.le_refl, hs0, show wrap64 (0 - 1) = -1 from wl (by omega) (by omega) (by omega)]
  rw [if_pos (by simp)]
  rw [spec_BytesOf.l0]
  simp only [show ¬ ((-1 : Int) ≥ 0) by omega, if_false]
  rw [hm _ (by omega), hm _ h0]
  simp
theorem implBytes2 (v : Int) (k : Nat) : impl_bytesOf.f (k + 4) v 2 = some [v / 256 % 256, v % 256] := by
  simp only [impl_bytesOf.f, show (0 : Int) ≤ 2 by omega, if_true, show (2 : Int).toNat = 2 by rfl, show 2 ≤ 281474976710656 by omega, show wrap64 (2 - 1) = 1 from wl (by omega) (by omega) (by omega)]
  rw [impl_bytesOf.l0]
  simp only [show (1 : Int) ≥ 0 by omega, if_true, show (0 : Int) ≤ 1 by omega, show wrap64 (1 - 1) = 0 from wl (by omega) (by omega) (by omega)]
  rw [if_pos (by simp), impl_bytesOf.l0]
  simp only [show (0 : Int) ≥ 0 by omega, if_true, Int.le_refl, show wrap64 (0 - 1) = -1 from wl (by omega) (by omega) (by omega)]
  rw [if_pos (by simp), impl_bytesOf.l0]
  simp only [show ¬ ((-1 : Int) ≥ 0) by omega, if_false]
  rfl
theorem specNote (a b : Int) (l : List Int) (hl : l.length ≤ 1048576) (k : Nat) : spec_NoteBytes.f (k + 6) a b l = some (if (1 ≤ a ∧ a ≤ 6) ∧ (0 ≤ b ∧ b ≤ 65535) ∧ (l.length : Int) ≤ 20 then a % 256 :: b / 256 % 256 :: b % 256 :: (l.length : Int) % 256 :: l else []) := by
  simp only [spec_NoteBytes.f, spec_NoteOk.f, inAll, Option.bind_some]
  by_cases h1 : 1 ≤ a ∧ a ≤ 6
  · by_cases h2 : 0 ≤ b ∧ b ≤ 65535
    · by_cases h3 : (l.length : Int) ≤ 20
      · rw [specBytes2 b h2.1 h2.2 k]
        simp [h1, h2, h3]
        omega
      · simp [h1, h2, h3]
    · simp [h1, h2]
  · simp [h1]
theorem implNote (a b : Int) (l : List Int) (hl : l.length ≤ 1048576) (k : Nat) : impl_NoteBytes.f (k + 6) a b l = some (if (1 ≤ a ∧ a ≤ 6) ∧ (0 ≤ b ∧ b ≤ 65535) ∧ (l.length : Int) ≤ 20 then a % 256 :: b / 256 % 256 :: b % 256 :: (l.length : Int) % 256 :: l else []) := by
  simp only [impl_NoteBytes.f, impl_NoteOk.f, impl_word.f, inAll', Option.bind_some]
  by_cases h1 : 1 ≤ a ∧ a ≤ 6
  · by_cases h2 : 0 ≤ b ∧ b ≤ 65535
    · by_cases h3 : (l.length : Int) ≤ 20
      · rw [implBytes2 b (k + 2)]
        simp [h1, h2, h3, slices_Concat_byte_byte.f]
        omega
      · simp [h1, h2, h3]
    · simp [h1, h2]
  · simp [h1]
theorem main : GFnExactNoteBytes.Stmt := by
  intro a b l _ _ hl
  obtain ⟨hl, _⟩ := hl
  refine ⟨l.length + 2000, ?_⟩
  simp only [laws_FnExactNoteBytes.f, laws_szNote.f, szBytes l 1048576 hl (by omega) (by omega), Option.bind_some]
  by_cases h : (1048576 : Int) < (l.length : Int)
  · rw [if_pos h]; simp
  · rw [if_neg h, if_neg (by omega)]
    simp only [Option.bind_some]
    rw [if_neg (by omega)]
    have hto : ∀ k, l.length < k → laws_toNote.f k a b l = some (a, b, l) := fun k hk => by
      simp only [laws_toNote.f, toBytes_le l (by omega) k hk, Option.bind_some]
    have heq : laws_eqNote.f (l.length + 2000) a b l a b l = some true := by
      simp only [laws_eqNote.f, if_true, eqBytes l l (by omega) _ (show l.length < l.length + 2000 by omega), Option.bind_some, decide_true]
    have hs := specNote a b l (by omega) (l.length + 1994)
    have hi : ∀ k, impl_NoteBytes.f (k + 6) a b l = _ := fun k => implNote a b l (by omega) k
    generalize hY : (if (1 ≤ a ∧ a ≤ 6) ∧ (0 ≤ b ∧ b ≤ 65535) ∧ (l.length : Int) ≤ 20 then a % 256 :: b / 256 % 256 :: b % 256 :: (l.length : Int) % 256 :: l else []) = Y at hs hi
    have hyl : Y.length ≤ l.length + 4 := by
      rw [← hY]; split <;> simp
    obtain ⟨r0, m0, _, _⟩ := markBytes l 1 (by omega) (by omega) (l.length + 2000) (by omega)
    obtain ⟨r1, m1, n1, e1⟩ := markBytes Y 1 (by omega) (by omega) (l.length + 1999) (by omega)
    have hj : laws_FnExactNoteBytes.j0 (l.length + 2000) Y Y false a b l = some true := by
      simp only [laws_FnExactNoteBytes.j0]
      simp only [Bool.false_eq_true, if_false, m1, Option.bind_some, e1 (l.length + 1999) (by omega), hto (l.length + 1999) (by omega), hi (l.length + 1993), eqBytes Y Y (by omega) (l.length + 1999) (by omega), decide_true, if_true]
      rw [if_neg (by omega), if_neg (by omega)]
    simp only [hto (l.length + 2000) (by omega), Option.bind_some, hs, hi (l.length + 1994), eqBytes Y Y (by omega) (l.length + 2000) (by omega), decide_true, if_true, heq, laws_markNote.f, m0, Bool.not_true, hj]
    rw [if_neg (by omega)]
end FnExactNoteBytes_
theorem FnExactNoteBytes : GFnExactNoteBytes.Stmt := FnExactNoteBytes_.main
end Go.Proofs.Ytgfaamcihlojdac.Pure
