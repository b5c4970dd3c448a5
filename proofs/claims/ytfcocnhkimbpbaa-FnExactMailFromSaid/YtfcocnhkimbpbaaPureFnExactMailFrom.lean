/- The law FnExactMailFrom over numbers and lists: the program's MailFrom answers as the reference's, its answer is its own, and the bytes stay as they were. No conditions but the kinds' ranges. -/
import Derived.Test.YtfcocnhkimbpbaaGFnExactMailFrom
namespace Go.Proofs.Ytfcocnhkimbpbaa.Pure
open Go Go.RowKit Go.Proofs.Ytfcocnhkimbpbaa.MFnExactMailFrom Go.Proofs.YtfcocnhkimbpbaaV.PrintWords Go.Proofs.YtfcocnhkimbpbaaV.PrintLast
set_option linter.unusedVariables false
set_option linter.unusedSimpArgs false
namespace FnExactMailFrom_
theorem i64_bounds {x : Int} (h : (Lit.int .i64 x).wf = true) : -9223372036854775808 ≤ x ∧ x ≤ 9223372036854775807 := by
  simpa [Lit.wf, IntKind.min, IntKind.max, IntKind.signed, IntKind.bits] using h
theorem inAll (x y z : Int) : spec_l1In.f x y z = some (decide (y ≤ x ∧ x ≤ z)) := by
  unfold spec_l1In.f
  by_cases h : x ≥ y
  · rw [if_pos h]; congr 1; simp only [decide_eq_decide]; omega
  · rw [if_neg h]; congr 1; symm; simp only [decide_eq_false_iff_not]; omega
theorem inAll' (x y z : Int) : impl_in.f x y z = some (decide (y ≤ x ∧ x ≤ z)) := inAll x y z
theorem wl {n m : Int} (h : n = m) (h0 : -9223372036854775808 ≤ m) (h1 : m ≤ 9223372036854775807) : wrap64 n = m := by
  subst h
  unfold wrap64
  omega
/-! ### bytes put side by side -/
theorem or256 (a b : Int) (ha : 0 ≤ a) (ha' : a ≤ 10000000000) (hb : 0 ≤ b) (hb' : b ≤ 255) : Go.bits .or .i64 (a * 256) b = a * 256 + b := by
  obtain ⟨n, rfl⟩ : ∃ n : Nat, a = n := ⟨a.toNat, by omega⟩
  obtain ⟨m, rfl⟩ : ∃ m : Nat, b = m := ⟨b.toNat, by omega⟩
  have h2 : n * 256 ||| m = n * 256 + m := by
    have := Nat.two_pow_add_eq_or_of_lt (i := 8) (show m < 2 ^ 8 by omega) n
    rw [show 2 ^ 8 * n = n * 256 by omega] at this
    exact this.symm
  have e1 : BitVec.ofInt 64 ((n : Int) * 256) = BitVec.ofNat 64 (n * 256) := by
    rw [show (n : Int) * 256 = ((n * 256 : Nat) : Int) by omega]
    exact BitVec.ofInt_natCast ..
  have e2 : BitVec.ofInt 64 (m : Int) = BitVec.ofNat 64 m := BitVec.ofInt_natCast ..
  have e : (BitVec.ofInt 64 ((n : Int) * 256) ||| BitVec.ofInt 64 (m : Int)).toNat = n * 256 + m := by
    rw [e1, e2, BitVec.toNat_or, BitVec.toNat_ofNat, BitVec.toNat_ofNat, Nat.mod_eq_of_lt (by omega), Nat.mod_eq_of_lt (by omega), h2]
  show IntKind.i64.wrap ((BitVec.ofInt 64 ((n : Int) * 256) ||| BitVec.ofInt 64 (m : Int)).toNat : Int) = _
  rw [e]
  simp only [IntKind.wrap, IntKind.bits, IntKind.signed]
  simp
  omega
/-! ### copies, equality and sizes of rows of bytes -/
theorem wrap_id {n : Int} (h : -9223372036854775808 ≤ n) (h' : n ≤ 9223372036854775807) : wrap64 n = n := by
  unfold wrap64; omega
/-- A loop that fills a row, an element at a time, from the elements of another one. -/
theorem fills {α : Type} (n : Nat) (hn : n ≤ 281474976710656) (L : Nat → List α → Int → Option (List α)) (g : Nat → α)
    (h : ∀ k acc i, k < n + 1 → L (k + 1) acc i = if i < (n : Int) then (if 0 ≤ i then (if i < (acc.length : Int) then L k (acc.set i.toNat (g i.toNat)) (wrap64 (i + 1)) else none) else none) else some acc) :
    ∀ d k (i : Nat) (acc : List α), i + d = n → k = d + 1 → acc.length = n → (∀ j, j < i → acc[j]? = some (g j)) → ∃ r, L k acc (i : Int) = some r ∧ r.length = n ∧ ∀ j, j < n → r[j]? = some (g j) := by
  intro d
  induction d with
  | zero =>
    intro k i acc hi hk hl hp
    subst hk
    refine ⟨acc, ?_, hl, fun j hj => hp j (by omega)⟩
    rw [h _ _ _ (by omega), if_neg (by omega)]
  | succ d ih =>
    intro k i acc hi hk hl hp
    subst hk
    obtain ⟨r, hr, hrl, hrp⟩ := ih (d + 1) (i + 1) (acc.set i (g i)) (by omega) rfl (by simpa using hl) (fun j hj => by
      by_cases hji : j = i
      · subst hji
        simp [List.getElem?_set, hl]
        omega
      · rw [List.getElem?_set_ne (by omega)]
        exact hp j (by omega))
    refine ⟨r, ?_, hrl, hrp⟩
    rw [h _ _ _ (by omega), if_pos (by omega), if_pos (by omega), if_pos (by omega), wrap_id (by omega) (by omega)]
    simpa using hr
theorem rd_at (l : List Int) (i : Nat) (h : i < l.length) : l[i]? = some (rd l (i : Int)) := by
  unfold rd
  rw [List.getD_eq_getElem?_getD, Int.toNat_natCast, List.getElem?_eq_getElem h]
  rfl
theorem toBytes_exact (l : List Int) (hl : l.length ≤ 281474976710656) : laws_toByteS.f (l.length + 1) l = some l := by
  unfold laws_toByteS.f
  rw [if_pos (by omega), if_pos (by omega)]
  obtain ⟨r, hr, hrl, hrp⟩ := fills l.length hl (fun k acc i => laws_toByteS.l0 k l acc i) (fun i => rd l (i : Int)) (fun k acc i hk => by
    simp only [laws_toByteS.l0]
    by_cases hi : i < (l.length : Int)
    · rw [if_pos hi, if_pos hi]
      by_cases h0 : 0 ≤ i
      · rw [if_pos h0, if_pos h0]
        by_cases h1 : i < (acc.length : Int)
        · rw [if_pos h1, if_pos h1, show ((i.toNat : Nat) : Int) = i by omega]
        · rw [if_neg h1, if_neg h1]
      · rw [if_neg h0, if_neg h0]
    · rw [if_neg hi, if_neg hi]) l.length (l.length + 1) 0 (List.replicate l.length 0) (by omega) rfl (by simp) (fun j hj => by omega)
  rw [show (l.length : Int).toNat = l.length by omega]
  show laws_toByteS.l0 _ _ _ _ = _
  have hr' : laws_toByteS.l0 (l.length + 1) l (List.replicate l.length 0) 0 = some r := hr
  rw [hr']
  congr 1
  apply List.ext_getElem?
  intro j
  by_cases hj : j < l.length
  · rw [hrp j hj, rd_at l j hj]
  · rw [List.getElem?_eq_none (by omega), List.getElem?_eq_none (by omega)]
theorem toBytes_le (l : List Int) (hl : l.length ≤ 281474976710656) (k : Nat) (hk : l.length < k) : laws_toByteS.f k l = some l := by
  obtain ⟨d, rfl⟩ : ∃ d, k = l.length + 1 + d := ⟨k - (l.length + 1), by omega⟩
  induction d with
  | zero => exact toBytes_exact l hl
  | succ d ih => exact laws_toByteS.mono l _ _ (ih (by omega))
theorem eqBytes_loop (a b : List Int) (hl : a.length = b.length) (hb : a.length ≤ 281474976710656) : ∀ d k (i : Nat), i + d = a.length → d < k →
    laws_eqByteS.l0 k a b (i : Int) = some (decide (a.drop i = b.drop i)) := by
  intro d
  induction d with
  | zero =>
    intro k i hi hk
    obtain ⟨k, rfl⟩ : ∃ m, k = m + 1 := ⟨k - 1, by omega⟩
    simp only [laws_eqByteS.l0]
    rw [if_neg (by omega), List.drop_eq_nil_of_le (by omega), List.drop_eq_nil_of_le (by omega)]
    rfl
  | succ d ih =>
    intro k i hi hk
    obtain ⟨k, rfl⟩ : ∃ m, k = m + 1 := ⟨k - 1, by omega⟩
    simp only [laws_eqByteS.l0]
    rw [if_pos (by omega), if_pos (by omega), if_pos (by omega), wrap_id (by omega) (by omega)]
    have h1 := rd_at a i (by omega)
    have h2 := rd_at b i (by omega)
    have e1 : a.drop i = rd a (i : Int) :: a.drop (i + 1) := by
      rw [List.drop_eq_getElem_cons (by omega)]
      congr 1
      rw [List.getElem?_eq_getElem (by omega)] at h1
      exact Option.some.inj h1
    have e2 : b.drop i = rd b (i : Int) :: b.drop (i + 1) := by
      rw [List.drop_eq_getElem_cons (by omega)]
      congr 1
      rw [List.getElem?_eq_getElem (by omega)] at h2
      exact Option.some.inj h2
    have hr := ih k (i + 1) (by omega) (by omega)
    rw [e1, e2]
    by_cases he : rd a (i : Int) = rd b (i : Int)
    · rw [if_pos he, show ((i : Int) + 1) = ((i + 1 : Nat) : Int) by omega, hr, he]
      simp
    · rw [if_neg he]
      simp [he]
theorem eqBytes (a b : List Int) (hb : a.length ≤ 281474976710656) (k : Nat) (hk : a.length < k) : laws_eqByteS.f k a b = some (decide (a = b)) := by
  unfold laws_eqByteS.f
  by_cases h : a.length = b.length
  · rw [if_pos (by omega)]
    have := eqBytes_loop a b h hb a.length k 0 (by omega) hk
    simpa using this
  · rw [if_neg (by omega)]
    have : a ≠ b := fun e => h (by rw [e])
    simp [this]
theorem eqSl_loop (a b : List Int) (hl : a.length = b.length) (hb : a.length ≤ 281474976710656) : ∀ d k (i : Nat), i + d = a.length → d < k →
    slices_Equal_byte_byte.l0 k a b (a.length : Int) (i : Int) = some (decide (a.drop i = b.drop i)) := by
  intro d
  induction d with
  | zero =>
    intro k i hi hk
    obtain ⟨k, rfl⟩ : ∃ m, k = m + 1 := ⟨k - 1, by omega⟩
    simp only [slices_Equal_byte_byte.l0]
    rw [if_neg (by omega), List.drop_eq_nil_of_le (by omega), List.drop_eq_nil_of_le (by omega)]
    rfl
  | succ d ih =>
    intro k i hi hk
    obtain ⟨k, rfl⟩ : ∃ m, k = m + 1 := ⟨k - 1, by omega⟩
    simp only [slices_Equal_byte_byte.l0]
    rw [if_pos (by omega), if_pos (by omega), if_pos (by omega), if_pos (by omega), wrap_id (by omega) (by omega)]
    have h1 := rd_at a i (by omega)
    have h2 := rd_at b i (by omega)
    have e1 : a.drop i = rd a (i : Int) :: a.drop (i + 1) := by
      rw [List.drop_eq_getElem_cons (by omega)]
      congr 1
      rw [List.getElem?_eq_getElem (by omega)] at h1
      exact Option.some.inj h1
    have e2 : b.drop i = rd b (i : Int) :: b.drop (i + 1) := by
      rw [List.drop_eq_getElem_cons (by omega)]
      congr 1
      rw [List.getElem?_eq_getElem (by omega)] at h2
      exact Option.some.inj h2
    have hr := ih k (i + 1) (by omega) (by omega)
    rw [e1, e2]
    by_cases he : rd a (i : Int) = rd b (i : Int)
    · rw [if_pos he, show ((i : Int) + 1) = ((i + 1 : Nat) : Int) by omega, hr, he]
      simp
    · rw [if_neg he]
      simp [he]
theorem eqSl (a b : List Int) (hb : a.length ≤ 281474976710656) (k : Nat) (hk : a.length < k) : slices_Equal_byte_byte.f k a b = some (decide (a = b)) := by
  unfold slices_Equal_byte_byte.f
  by_cases h : a.length = b.length
  · rw [if_pos (by omega)]
    have := eqSl_loop a b h hb a.length k 0 (by omega) hk
    simpa using this
  · rw [if_neg (by omega)]
    have : a ≠ b := fun e => h (by rw [e])
    simp [this]
/-! ### marks -/
theorem mark_loop (m : Int) (n : Nat) (hm : 0 ≤ m) (hb : m + n ≤ 1000000000) : ∀ d k (i : Nat) (acc : List Int), i + d = n → d < k → acc.length = n → (∀ j, j < i → acc[j]? = some ((m + j) % 256)) →
    ∃ r, laws_markByteS.l0 k acc (m + i) (i : Int) = some (m + n, r) ∧ r.length = n ∧ ∀ j, j < n → r[j]? = some ((m + j) % 256) := by
  intro d
  induction d with
  | zero =>
    intro k i acc hi hk hl hp
    obtain ⟨k, rfl⟩ : ∃ q, k = q + 1 := ⟨k - 1, by omega⟩
    refine ⟨acc, ?_, hl, fun j hj => hp j (by omega)⟩
    simp only [laws_markByteS.l0]
    rw [if_neg (by omega), show i = n by omega]
  | succ d ih =>
    intro k i acc hi hk hl hp
    obtain ⟨k, rfl⟩ : ∃ q, k = q + 1 := ⟨k - 1, by omega⟩
    obtain ⟨r, hr, hrl, hrp⟩ := ih k (i + 1) (acc.set i ((m + i) % 256)) (by omega) (by omega) (by simpa using hl) (fun j hj => by
      by_cases hji : j = i
      · subst hji
        simp [List.getElem?_set, hl]
        omega
      · rw [List.getElem?_set_ne (by omega)]
        exact hp j (by omega))
    refine ⟨r, ?_, hrl, hrp⟩
    simp only [laws_markByteS.l0]
    rw [if_pos (by omega), if_pos (by omega), wrap_id (by omega) (by omega), wrap_id (by omega) (by omega), Int.toNat_natCast]
    rw [show m + (i : Int) + 1 = m + ((i + 1 : Nat) : Int) by omega, show (i : Int) + 1 = ((i + 1 : Nat) : Int) by omega]
    exact hr
theorem held_loop (m : Int) (n : Nat) (hm : 0 ≤ m) (hb : m + n ≤ 1000000000) (r : List Int) (hl : r.length = n) (hp : ∀ j, j < n → r[j]? = some ((m + j) % 256)) : ∀ d k (i : Nat), i + d = n → d < k →
    laws_heldByteS.l0 k r (m + i) (i : Int) = some (m + n) := by
  intro d
  induction d with
  | zero =>
    intro k i hi hk
    obtain ⟨k, rfl⟩ : ∃ q, k = q + 1 := ⟨k - 1, by omega⟩
    simp only [laws_heldByteS.l0]
    rw [if_neg (by omega), show i = n by omega]
  | succ d ih =>
    intro k i hi hk
    obtain ⟨k, rfl⟩ : ∃ q, k = q + 1 := ⟨k - 1, by omega⟩
    have h1 := rd_at r i (by omega)
    rw [hp i (by omega)] at h1
    have h2 := Option.some.inj h1
    simp only [laws_heldByteS.l0]
    rw [if_pos (by omega), if_pos (by omega), if_pos h2.symm, wrap_id (by omega) (by omega), wrap_id (by omega) (by omega)]
    rw [show m + (i : Int) + 1 = m + ((i + 1 : Nat) : Int) by omega, show (i : Int) + 1 = ((i + 1 : Nat) : Int) by omega]
    exact ih k (i + 1) (by omega) (by omega)
theorem markBytes (l : List Int) (m : Int) (hm : 0 ≤ m) (hb : m + l.length ≤ 1000000000) (k : Nat) (hk : l.length < k) :
    ∃ r, laws_markByteS.f k l m = some (m + l.length, r) ∧ r.length = l.length ∧ ∀ k', l.length < k' → laws_heldByteS.f k' r m = some (m + l.length) := by
  obtain ⟨r, h1, h2, h3⟩ := mark_loop m l.length hm hb l.length k 0 l (by omega) hk rfl (fun j hj => by omega)
  refine ⟨r, ?_, h2, fun k' hk' => ?_⟩
  · have := h1
    rw [show m + ((0 : Nat) : Int) = m by omega] at this
    exact this
  · have := held_loop m l.length hm hb r h2 h3 l.length k' 0 (by omega) hk'
    rw [show m + ((0 : Nat) : Int) = m by omega] at this
    exact this
/-! ### two bytes of a number -/
theorem specBytes2 (v : Int) (h0 : 0 ≤ v) (h1 : v ≤ 65535) (k : Nat) : spec_BytesOf.f (k + 6) v 2 = some [v / 256 % 256, v % 256] := by
  have e : (8 : Int) * 2 = 16 := rfl
  have hm : ∀ x : Int, 0 ≤ x → Int.tmod x 256 = x % 256 := fun x hx => Int.tmod_eq_emod_of_nonneg hx
  have hs : shr .i64 v 8 = v / 256 := by simp [shr, IntKind.bits]
  have hs0 : shr .i64 v 0 = v := by simp [shr, IntKind.bits]
  have hw : shl .i64 1 16 - 1 = 65535 := by simp [shl, IntKind.wrap, IntKind.bits, IntKind.signed]
  simp only [spec_BytesOf.f, inAll, Option.bind_some]
  simp only [show wrap64 (8 * 2) = 16 from wl (by omega) (by omega) (by omega), hw, show wrap64 65535 = 65535 from wl (by omega) (by omega) (by omega)]
  simp only [show (decide ((1 : Int) ≤ 2 ∧ (2 : Int) ≤ 4)) = true by decide, if_true, show (0 : Int) ≤ 16 by omega, show decide (0 ≤ v ∧ v ≤ 65535) = true by simp [h0, h1]]
  simp only [Bool.not_true, spec_BytesOf.j0, Bool.false_eq_true, if_false, show wrap64 (2 - 1) = 1 from wl (by omega) (by omega) (by omega)]
  rw [spec_BytesOf.l0]
  simp only [show (1 : Int) ≥ 0 by omega, if_true, show wrap64 (8 * 1) = 8 from wl (by omega) (by omega) (by omega), show (0 : Int) ≤ 8 by omega, List.length_nil, show 0 < 140737488355328 by omega, hs, show wrap64 (1 - 1) = 0 from wl (by omega) (by omega) (by omega)]
  rw [spec_BytesOf.l0]
  simp only [show (0 : Int) ≥ 0 by omega, if_true, show wrap64 (8 * 0) = 0 from wl (by omega) (by omega) (by omega), Int.le_refl, hs0, show wrap64 (0 - 1) = -1 from wl (by omega) (by omega) (by omega)]
  rw [if_pos (by simp)]
  rw [spec_BytesOf.l0]
  simp only [show ¬ ((-1 : Int) ≥ 0) by omega, if_false]
  rw [hm _ (by omega), hm _ h0]
  simp
/-! ### two bytes of a number, the program's -/
theorem implBytes2 (v : Int) (k : Nat) : impl_bytesOf.f (k + 4) v 2 = some [v / 256 % 256, v % 256] := by
  simp only [impl_bytesOf.f, show (0 : Int) ≤ 2 by omega, if_true, show (2 : Int).toNat = 2 by rfl, show 2 ≤ 281474976710656 by omega, show wrap64 (2 - 1) = 1 from wl (by omega) (by omega) (by omega)]
  rw [impl_bytesOf.l0]
  simp only [show (1 : Int) ≥ 0 by omega, if_true, show (0 : Int) ≤ 1 by omega, show wrap64 (1 - 1) = 0 from wl (by omega) (by omega) (by omega)]
  rw [if_pos (by simp), impl_bytesOf.l0]
  simp only [show (0 : Int) ≥ 0 by omega, if_true, Int.le_refl, show wrap64 (0 - 1) = -1 from wl (by omega) (by omega) (by omega)]
  rw [if_pos (by simp), impl_bytesOf.l0]
  simp only [show ¬ ((-1 : Int) ≥ 0) by omega, if_false]
  rfl
/-! ### a row's first elements -/
theorem rd_cons0 (a : Int) (l : List Int) : rd (a :: l) 0 = a := by simp [rd]
theorem rd_cons1 (a b : Int) (l : List Int) : rd (a :: b :: l) 1 = b := by simp [rd]
theorem rd_cons2 (a b c : Int) (l : List Int) : rd (a :: b :: c :: l) 2 = c := by simp [rd]
theorem rd_cons3 (a b c d : Int) (l : List Int) : rd (a :: b :: c :: d :: l) 3 = d := by simp [rd]
theorem byte_of {l : List Int} (hw : ∀ x ∈ l, (Lit.int .u8 x).wf = true) (x : Int) (hx : x ∈ l) : 0 ≤ x ∧ x ≤ 255 := by
  have := hw x hx
  simpa [Lit.wf, IntKind.min, IntKind.max, IntKind.signed, IntKind.bits] using this
/-! ### the sum of bytes -/
theorem rd_mem (l : List Int) (i : Nat) (h : i < l.length) : rd l (i : Int) ∈ l := List.mem_of_getElem? (rd_at l i h)
def sW (l : List Int) (j : Nat) : Int := if h : 0 < l.length then SumOf_.so_sumW l (SumOf_.so_evens l.length h j) else 0
theorem sW_zero (l : List Int) : sW l 0 = 0 := by
  unfold sW
  split
  · rfl
  · rfl
theorem addW_val (s a b : Int) (hs : 0 ≤ s ∧ s ≤ 65535) (ha : 0 ≤ a ∧ a ≤ 255) (hb : 0 ≤ b ∧ b ≤ 255) :
    SumOf_.so_addW s (a * 256 + b) = if s + (a * 256 + b) > 65535 then s + (a * 256 + b) - 65535 else s + (a * 256 + b) := by
  have h1 : SumOf_.so_one 0 s = s := by
    unfold SumOf_.so_one
    rw [wrap_id (n := 0 + s) (by omega) (by omega), if_neg (by omega)]
    omega
  unfold SumOf_.so_addW
  rw [h1]
  unfold SumOf_.so_one
  rw [wrap_id (n := s + (a * 256 + b)) (by omega) (by omega)]
  split
  · rw [wrap_id (by omega) (by omega)]
  · rfl
theorem nAt_val (l : List Int) (hb : ∀ x ∈ l, 0 ≤ x ∧ x ≤ 255) (i : Nat) (hi : i < l.length) :
    SumOf_.so_nAt l i = rd l (i : Int) * 256 + (if i + 1 < l.length then rd l ((i + 1 : Nat) : Int) else 0) := by
  have h1 := hb _ (rd_mem l i hi)
  unfold SumOf_.so_nAt
  by_cases h2 : i + 1 < l.length
  · have h3 := hb _ (rd_mem l (i + 1) h2)
    rw [if_pos h2, if_pos h2, wrap_id (n := rd l (i : Int)) (by omega) (by omega), wrap_id (by omega) (by omega), wrap_id (by omega) (by omega)]
    exact or256 _ _ h1.1 (by omega) h3.1 h3.2
  · rw [if_neg h2, if_neg h2, wrap_id (n := rd l (i : Int)) (by omega) (by omega), wrap_id (by omega) (by omega)]
    omega
theorem sW_succ (l : List Int) (j : Nat) (h : 2 * j < l.length) : sW l (j + 1) = SumOf_.so_addW (sW l j) (SumOf_.so_nAt l (2 * j)) := by
  have h0 : 0 < l.length := by omega
  unfold sW
  rw [dif_pos h0, dif_pos h0, SumOf_.so_evens_succ _ _ _ h, SumOf_.so_sumW_snoc]
theorem sW_range (l : List Int) (hb : ∀ x ∈ l, 0 ≤ x ∧ x ≤ 255) : ∀ j, 2 * j ≤ l.length + 1 → 0 ≤ sW l j ∧ sW l j ≤ 65535 := by
  intro j
  induction j with
  | zero => intro _; rw [sW_zero]; omega
  | succ j ih =>
    intro hj
    have h1 := ih (by omega)
    have h2 := hb _ (rd_mem l (2 * j) (by omega))
    rw [sW_succ l j (by omega), nAt_val l hb (2 * j) (by omega)]
    by_cases h3 : 2 * j + 1 < l.length
    · have h4 := hb _ (rd_mem l (2 * j + 1) h3)
      rw [if_pos h3, addW_val _ _ _ h1 h2 h4]
      split <;> omega
    · rw [if_neg h3, addW_val _ _ _ h1 h2 (by omega)]
      split <;> omega
theorem l1Sum_loop (l : List Int) (hb : ∀ x ∈ l, 0 ≤ x ∧ x ≤ 255) (hl : l.length ≤ 1000000000) : ∀ d j k, 2 * j + 2 * d = l.length + l.length % 2 → 2 * d < k →
    spec_l1Sum.l0 k l (sW l j) ((2 * j : Nat) : Int) = some (sW l ((l.length + 1) / 2)) := by
  intro d
  induction d with
  | zero =>
    intro j k hj hk
    obtain ⟨k, rfl⟩ : ∃ q, k = q + 1 := ⟨k - 1, by omega⟩
    have e : j = (l.length + 1) / 2 := by omega
    simp only [spec_l1Sum.l0]
    rw [if_neg (by omega), e]
  | succ d ih =>
    intro j k hj hk
    obtain ⟨k, rfl⟩ : ∃ q, k = q + 1 + 1 := ⟨k - 2, by omega⟩
    have h0 : 2 * j < l.length := by omega
    have hr := sW_range l hb j (by omega)
    have h2 := hb _ (rd_mem l (2 * j) h0)
    have hi := ih (j + 1) 
    rw [sW_succ l j h0, nAt_val l hb (2 * j) h0] at hi
    have e1 : wrap64 (wrap64 (rd l ((2 * j : Nat) : Int)) * 256) = rd l ((2 * j : Nat) : Int) * 256 := by
      rw [wrap_id (n := rd l _) (by omega) (by omega), wrap_id (by omega) (by omega)]
    have e2 : wrap64 (((2 * j : Nat) : Int) + 1) = ((2 * j + 1 : Nat) : Int) := by rw [wrap_id (by omega) (by omega)]; omega
    have ht : Int.tmod ((2 * j : Nat) : Int) 2 = 0 := by rw [Int.tmod_eq_emod_of_nonneg (by omega)]; omega
    have ht1 : ¬ Int.tmod ((2 * j + 1 : Nat) : Int) 2 = 0 := by rw [Int.tmod_eq_emod_of_nonneg (by omega)]; omega
    have e3 : wrap64 (((2 * j + 1 : Nat) : Int) + 1) = ((2 * (j + 1) : Nat) : Int) := by rw [wrap_id (by omega) (by omega)]; omega
    have hw : ∀ z : Int, z = sW l j + rd l ((2 * j : Nat) : Int) * 256 ∨ z = sW l j + rd l ((2 * j : Nat) : Int) * 256 - 65535 → wrap64 z = z := by
      intro z hz
      exact wrap_id (by omega) (by omega)
    rw [spec_l1Sum.l0]
    rw [if_pos (by omega), if_pos ht, if_pos (by omega), e1, e2, hw _ (.inl rfl), hw _ (.inr rfl)]
    by_cases h3 : 2 * j + 1 < l.length
    · have h4 := hb _ (rd_mem l (2 * j + 1) h3)
      rw [if_pos h3, addW_val _ _ _ hr h2 h4] at hi
      have e4 : wrap64 (rd l ((2 * j + 1 : Nat) : Int)) = rd l ((2 * j + 1 : Nat) : Int) := wrap_id (by omega) (by omega)
      split
      · rename_i hc
        rw [spec_l1Sum.l0, if_pos (by omega), if_neg ht1, if_pos (by omega), e4, e3, wrap_id (by omega) (by omega), if_neg (by omega)]
        rw [← hi k (by omega) (by omega), if_pos (by omega)]
        congr 1; omega
      · rename_i hc
        rw [spec_l1Sum.l0, if_pos (by omega), if_neg ht1, if_pos (by omega), e4, e3, wrap_id (n := sW l j + rd l ((2 * j : Nat) : Int) * 256 + rd l ((2 * j + 1 : Nat) : Int)) (by omega) (by omega)]
        split
        · rename_i hd
          rw [wrap_id (by omega) (by omega), ← hi k (by omega) (by omega), if_pos (by omega)]
          congr 1; omega
        · rename_i hd
          rw [← hi k (by omega) (by omega), if_neg (by omega)]
          congr 1; omega
    · have hd0 : d = 0 := by omega
      rw [if_neg h3, addW_val _ _ _ hr h2 (by omega)] at hi
      have he := hi 1 (by omega) (by omega)
      rw [spec_l1Sum.l0, if_neg (by omega)] at he
      split
      · rename_i hc
        rw [spec_l1Sum.l0, if_neg (by omega), ← he, if_pos (by omega)]
        congr 1; omega
      · rename_i hc
        rw [spec_l1Sum.l0, if_neg (by omega), ← he, if_neg (by omega)]
        congr 1; omega
theorem specSum (l : List Int) (hb : ∀ x ∈ l, 0 ≤ x ∧ x ≤ 255) (hl : l.length ≤ 1000000000) (k : Nat) (hk : l.length + 1 < k) : spec_SumOf.f k l = some (65535 - sW l ((l.length + 1) / 2)) := by
  have hr := sW_range l hb ((l.length + 1) / 2) (by omega)
  have h0 := l1Sum_loop l hb hl ((l.length + 1) / 2) 0 k (by omega) (by omega)
  rw [sW_zero] at h0
  simp only [spec_SumOf.f, spec_l1Sum.f]
  rw [show (0 : Int) = ((2 * 0 : Nat) : Int) from rfl] 
  rw [show spec_l1Sum.l0 k l ((2 * 0 : Nat) : Int) ((2 * 0 : Nat) : Int) = _ from h0, Option.bind_some, wrap_id (by omega) (by omega)]
theorem implSum (l : List Int) (hb : ∀ x ∈ l, 0 ≤ x ∧ x ≤ 255) (hl : l.length ≤ 1000000000) : impl_sumOf.f l = some (65535 - sW l ((l.length + 1) / 2)) := by
  have hr := sW_range l hb ((l.length + 1) / 2) (by omega)
  have e : SumOf_.so_sumAll l = sW l ((l.length + 1) / 2) := by
    unfold SumOf_.so_sumAll sW
    by_cases h : 0 < l.length
    · simp only [dif_pos h]
    · simp only [dif_neg h]
  rw [← e] at hr
  rw [impl_sumOf.f, if_pos (by omega), e, wrap_id (by omega) (by omega)]
/-! ### a message as bytes -/
def mailHead (b c : Int) (l : List Int) : List Int := b % 256 :: c % 256 :: (l.length : Int) % 256 :: l
def mailSum (a t : Int) (y : List Int) : Int := 65535 - sW (a / 256 % 256 :: a % 256 :: t / 256 % 256 :: t % 256 :: y) ((y.length + 5) / 2)
def mailOf (a b c : Int) (l : List Int) (t : Int) : List Int :=
  if ((0 ≤ a ∧ a ≤ 65535) ∧ (1 ≤ b ∧ b ≤ 255) ∧ (1 ≤ c ∧ c ≤ 255) ∧ (l.length : Int) ≤ 40) ∧ 0 ≤ t ∧ t ≤ 65535 then
    mailHead b c l ++ [mailSum a t (mailHead b c l) / 256 % 256, mailSum a t (mailHead b c l) % 256] else []
theorem mailHead_byte (b c : Int) (l : List Int) (hb : ∀ x ∈ l, 0 ≤ x ∧ x ≤ 255) : ∀ x ∈ mailHead b c l, 0 ≤ x ∧ x ≤ 255 := by
  intro x hx
  simp only [mailHead, List.mem_cons] at hx
  rcases hx with rfl | rfl | rfl | hx
  · omega
  · omega
  · omega
  · exact hb x hx
theorem mailFull_byte (a t : Int) (y : List Int) (hb : ∀ x ∈ y, 0 ≤ x ∧ x ≤ 255) : ∀ x ∈ (a / 256 % 256 :: a % 256 :: t / 256 % 256 :: t % 256 :: y), 0 ≤ x ∧ x ≤ 255 := by
  intro x hx
  simp only [List.mem_cons] at hx
  rcases hx with rfl | rfl | rfl | rfl | hx
  · omega
  · omega
  · omega
  · omega
  · exact hb x hx
theorem mailSum_range (a t : Int) (y : List Int) (hb : ∀ x ∈ y, 0 ≤ x ∧ x ≤ 255) : 0 ≤ mailSum a t y ∧ mailSum a t y ≤ 65535 := by
  have := sW_range _ (mailFull_byte a t y hb) ((y.length + 5) / 2) (by simp only [List.length_cons]; omega)
  unfold mailSum
  omega
theorem specSum9 (a t : Int) (y : List Int) (ha : 0 ≤ a ∧ a ≤ 65535) (ht : 0 ≤ t ∧ t ≤ 65535) (hb : ∀ x ∈ y, 0 ≤ x ∧ x ≤ 255) (hy : y.length ≤ 2097152) (k : Nat) (hk : y.length < k) :
    spec_l9Sum.f (k + 6) a t y = some (mailSum a t y) := by
  have hs := specSum (a / 256 % 256 :: a % 256 :: t / 256 % 256 :: t % 256 :: y) (mailFull_byte a t y hb) (by simp only [List.length_cons]; omega) (k + 6) (by simp only [List.length_cons]; omega)
  simp only [List.length_cons] at hs
  simp only [spec_l9Sum.f, specBytes2 a ha.1 ha.2 k, specBytes2 t ht.1 ht.2 k, Option.bind_some, List.cons_append, List.nil_append, List.length_cons, List.length_nil]
  rw [if_pos (by omega)]
  rw [if_pos (by omega), hs]
  rfl
/-! ### a message as bytes, the program's -/
theorem implMail (a b c : Int) (l : List Int) (t : Int) (hb : ∀ x ∈ l, 0 ≤ x ∧ x ≤ 255) (k : Nat) : impl_MailBytes.f (k + 60) a b c l t = some (mailOf a b c l t) := by
  simp only [impl_MailBytes.f, impl_MailOk.f, impl_word.f, impl_portOk.f, inAll', Option.bind_some]
  by_cases h1 : 0 ≤ a ∧ a ≤ 65535
  · by_cases h2 : 1 ≤ b ∧ b ≤ 255
    · by_cases h3 : 1 ≤ c ∧ c ≤ 255
      · by_cases h4 : (l.length : Int) ≤ 40
        · by_cases h5 : 0 ≤ t ∧ t ≤ 65535
          · have hy := mailHead_byte b c l hb
            have hs := implSum (a / 256 % 256 :: a % 256 :: t / 256 % 256 :: t % 256 :: mailHead b c l) (mailFull_byte a t _ hy) (by simp [mailHead]; omega)
            have hr := mailSum_range a t _ hy
            have hbt : impl_between.f (k + 59) a t = some [a / 256 % 256, a % 256, t / 256 % 256, t % 256] := by
              simp only [impl_between.f, implBytes2 _ (k + 55), Option.bind_some, slices_Concat_byte_byte.f, List.flatten_cons, List.flatten_nil, List.cons_append, List.nil_append, List.append_nil, List.length_cons, List.length_nil]
              rfl
            have hm : mailOf a b c l t = mailHead b c l ++ [mailSum a t (mailHead b c l) / 256 % 256, mailSum a t (mailHead b c l) % 256] := by
              unfold mailOf
              rw [if_pos ⟨⟨h1, h2, h3, h4⟩, h5⟩]
            rw [hm]
            simp only [h1, h2, h3, h4, h5, and_self, decide_true, if_true, Bool.not_true, impl_MailBytes.j0, Bool.false_eq_true, if_false, Option.bind_some]
            rw [if_pos (by simp; omega)]
            rw [show (([b % 256, c % 256, (l.length : Int) % 256] : List Int) ++ l) = mailHead b c l from rfl]
            have hl2 : (mailHead b c l).length ≤ 43 := by simp [mailHead]; omega
            have hss : impl_sumOf.f (a / 256 % 256 :: a % 256 :: t / 256 % 256 :: t % 256 :: mailHead b c l) = some (mailSum a t (mailHead b c l)) := by
              rw [hs]
              simp only [List.length_cons]
              rfl
            have hc1 : slices_Concat_byte_byte.f [[a / 256 % 256, a % 256, t / 256 % 256, t % 256], mailHead b c l] = some (a / 256 % 256 :: a % 256 :: t / 256 % 256 :: t % 256 :: mailHead b c l) := by
              simp only [slices_Concat_byte_byte.f, List.flatten_cons, List.flatten_nil, List.cons_append, List.nil_append, List.append_nil, List.length_cons]
              rw [if_pos (by omega)]
            have hc2 : ∀ z : List Int, z.length = 2 → slices_Concat_byte_byte.f [mailHead b c l, z] = some (mailHead b c l ++ z) := by
              intro z hz
              simp only [slices_Concat_byte_byte.f, List.flatten_cons, List.flatten_nil, List.append_nil, List.length_append]
              rw [if_pos (by omega)]
            rw [hbt, Option.bind_some, hc1, Option.bind_some, hss, Option.bind_some, implBytes2 _ (k + 55), Option.bind_some, hc2 _ rfl]
            rfl
          · simp [h1, h2, h3, h4, h5, mailOf, impl_MailBytes.j0]
        · simp [h1, h2, h3, h4, mailOf, impl_MailBytes.j0]
      · simp [h1, h2, h3, mailOf, impl_MailBytes.j0]
    · simp [h1, h2, mailOf, impl_MailBytes.j0]
  · simp [h1, mailOf, impl_MailBytes.j0]
/-! ### the message of bytes -/
def fromOf (f t : Int) (b : List Int) : Int × Int × Int × List Int × Bool :=
  if 5 ≤ b.length ∧ mailOf f (rd b 0) (rd b 1) ((b.take (b.length - 2)).drop 3) t = b then (f, rd b 0, rd b 1, (b.take (b.length - 2)).drop 3, true) else (0, 0, 0, [], false)
theorem split5 (b : List Int) (h : 5 ≤ b.length) : ∃ x y z d p q, b = x :: y :: z :: (d ++ [p, q]) := by
  match b, h with
  | x :: y :: z :: r, h =>
    have hr : 2 ≤ r.length := by simp at h; omega
    have e := List.take_append_drop (r.length - 2) r
    have hl : (r.drop (r.length - 2)).length = 2 := by simp; omega
    match hd : r.drop (r.length - 2), hl with
    | [p, q], _ =>
      rw [hd] at e
      exact ⟨x, y, z, r.take (r.length - 2), p, q, by rw [e]⟩
theorem take5 (x y z : Int) (d : List Int) (p q : Int) : List.take (d.length + 3) (x :: y :: z :: (d ++ [p, q])) = x :: y :: z :: d := by simp [List.take_succ_cons]
theorem fromOf_split (f t x y z : Int) (d : List Int) (p q : Int) : fromOf f t (x :: y :: z :: (d ++ [p, q])) = if mailOf f x y d t = x :: y :: z :: (d ++ [p, q]) then (f, x, y, d, true) else (0, 0, 0, [], false) := by
  have hl : (x :: y :: z :: (d ++ [p, q])).length = d.length + 5 := by simp
  unfold fromOf
  rw [hl, show d.length + 5 - 2 = d.length + 3 by omega, take5]
  simp only [rd_cons0, rd_cons1, List.drop_succ_cons, List.drop_zero]
  by_cases h : mailOf f x y d t = x :: y :: z :: (d ++ [p, q])
  · rw [if_pos ⟨by omega, h⟩, if_pos h]
  · rw [if_neg (fun c => h c.2), if_neg h]
theorem fromOf_len (f t : Int) (b : List Int) : (fromOf f t b).2.2.2.1.length ≤ b.length := by
  unfold fromOf
  split
  · simp; omega
  · simp
theorem implMailFrom (f t : Int) (b : List Int) (hl : b.length ≤ 1048576) (hb : ∀ x ∈ b, 0 ≤ x ∧ x ≤ 255) (k : Nat) (hk : b.length < k) : impl_MailFrom.f (k + 60) f t b = some (fromOf f t b) := by
  by_cases h5 : b.length < 5
  · unfold impl_MailFrom.f fromOf
    rw [if_pos (by omega), if_neg (by omega)]
  · obtain ⟨x, y, z, d, p, q, rfl⟩ := split5 b (by omega)
    have hlen : (x :: y :: z :: (d ++ [p, q])).length = d.length + 5 := by simp
    have hx := hb x (by simp)
    have hy := hb y (by simp)
    have hd : ∀ w ∈ d, 0 ≤ w ∧ w ≤ 255 := fun w hw => hb w (by simp [hw])
    rw [hlen] at hl hk
    have e2 : wrap64 (((x :: y :: z :: (d ++ [p, q])).length : Int) - 2) = ((d.length + 3 : Nat) : Int) := by
      rw [hlen, wrap_id (by omega) (by omega)]; omega
    rw [fromOf_split]
    unfold impl_MailFrom.f
    rw [e2, hlen, if_neg (by omega), if_pos (by omega), if_pos (by omega), if_pos (by omega), if_pos (by omega)]
    rw [Int.toNat_natCast, take5]
    simp only [rd_cons0, rd_cons1, List.drop_succ_cons, List.drop_zero, impl_clone_byte.f]
    rw [if_pos (by omega), Option.bind_some, wrap_id (n := x) (by omega) (by omega), wrap_id (n := y) (by omega) (by omega), implMail f x y d t hd k, Option.bind_some]
    have hml : (mailOf f x y d t).length ≤ d.length + 5 := by unfold mailOf; split <;> simp [mailHead]
    rw [eqSl _ _ (by omega) _ (by omega), Option.bind_some]
    by_cases h : mailOf f x y d t = x :: y :: z :: (d ++ [p, q])
    · rw [if_pos h, if_pos (by rw [decide_eq_true h])]
    · rw [if_neg h, if_neg (by rw [decide_eq_false h]; simp)]
/-! ### the message of bytes, the reference's -/
theorem mailOk_spec' (a b c : Int) (l : List Int) : spec_MailOk.f a b c l = some (decide ((0 ≤ a ∧ a ≤ 65535) ∧ (1 ≤ b ∧ b ≤ 255) ∧ (1 ≤ c ∧ c ≤ 255) ∧ (l.length : Int) ≤ 40)) := by
  simp only [spec_MailOk.f, inAll, Option.bind_some]
  by_cases h1 : 0 ≤ a ∧ a ≤ 65535 <;> by_cases h2 : 1 ≤ b ∧ b ≤ 255 <;> by_cases h3 : 1 ≤ c ∧ c ≤ 255 <;> simp [h1, h2, h3]
theorem specNumEnd (y : List Int) (p q : Int) (hl : y.length ≤ 1048576) (hp : 0 ≤ p ∧ p ≤ 255) (hq : 0 ≤ q ∧ q ≤ 255) (k : Nat) : spec_NumberAt.f (k + 4) (y ++ [p, q]) (y.length : Int) 2 = some (p * 256 + q) := by
  have hlen : (y ++ [p, q]).length = y.length + 2 := by simp
  have r0 : rd (y ++ [p, q]) (y.length : Int) = p := by
    have h := rd_at (y ++ [p, q]) y.length (by omega)
    rw [List.getElem?_append_right (by omega), Nat.sub_self] at h
    exact (Option.some.inj h).symm
  have r1 : rd (y ++ [p, q]) ((y.length : Int) + 1) = q := by
    have h := rd_at (y ++ [p, q]) (y.length + 1) (by omega)
    rw [List.getElem?_append_right (by omega), show y.length + 1 - y.length = 1 by omega] at h
    exact (Option.some.inj h).symm
  simp only [spec_NumberAt.f, inAll, Option.bind_some, show decide ((1 : Int) ≤ 2 ∧ (2 : Int) ≤ 4) = true by decide, if_true]
  rw [wl (n := ((y ++ [p, q]).length : Int) - 2) (m := (y.length : Int)) (by omega) (by omega) (by omega)]
  rw [decide_eq_true (show (0 : Int) ≤ y.length ∧ (y.length : Int) ≤ y.length by omega)]
  simp only [Bool.not_true, spec_NumberAt.j0, Bool.false_eq_true, if_false]
  rw [spec_NumberAt.l0]
  rw [if_pos (by omega), wl (n := (y.length : Int) + 0) (m := y.length) (by omega) (by omega) (by omega), if_pos (by omega), if_pos (by omega), r0]
  rw [wl (n := p) rfl (by omega) (by omega), wl (n := 0 * 256) (m := 0) (by omega) (by omega) (by omega), wl (n := 0 + p) (m := p) (by omega) (by omega) (by omega), wl (n := 0 + 1) (m := 1) (by omega) (by omega) (by omega)]
  rw [spec_NumberAt.l0]
  rw [if_pos (by omega), wl (n := (y.length : Int) + 1) rfl (by omega) (by omega), if_pos (by omega), if_pos (by omega), r1]
  rw [wl (n := q) rfl (by omega) (by omega), wl (n := p * 256) rfl (by omega) (by omega), wl (n := p * 256 + q) rfl (by omega) (by omega), wl (n := 1 + 1) (m := 2) (by omega) (by omega) (by omega)]
  rw [spec_NumberAt.l0, if_neg (by omega)]
theorem specMailFrom (f t : Int) (b : List Int) (hl : b.length ≤ 1048576) (hb : ∀ x ∈ b, 0 ≤ x ∧ x ≤ 255) (k : Nat) (hk : b.length < k) : spec_MailFrom.f (k + 60) f t b = some (fromOf f t b) := by
  unfold spec_MailFrom.f
  by_cases h5 : b.length < 5
  · unfold fromOf
    rw [if_pos (by omega), if_neg (by omega)]
    simp [spec_MailFrom.j0]
  · rw [if_neg (by omega)]
    obtain ⟨x, y, z, d, p, q, rfl⟩ := split5 b (by omega)
    have hlen : (x :: y :: z :: (d ++ [p, q])).length = d.length + 5 := by simp
    have hx := hb x (by simp)
    have hy := hb y (by simp)
    have hz := hb z (by simp)
    have hp := hb p (by simp)
    have hq := hb q (by simp)
    have hd : ∀ w ∈ x :: y :: z :: d, 0 ≤ w ∧ w ≤ 255 := fun w hw => hb w (by simp at hw ⊢; rcases hw with h | h | h | h <;> simp [h])
    rw [hlen] at hl hk
    have e2 : wrap64 (((x :: y :: z :: (d ++ [p, q])).length : Int) - 2) = ((d.length + 3 : Nat) : Int) := by
      rw [hlen, wrap_id (by omega) (by omega)]; omega
    rw [fromOf_split]
    simp only [inAll, Option.bind_some]
    have hno : ¬ ((0 ≤ f ∧ f ≤ 65535) ∧ (0 ≤ t ∧ t ≤ 65535)) → ¬ mailOf f x y d t = x :: y :: z :: (d ++ [p, q]) := by
      intro h e
      unfold mailOf at e
      rw [if_neg (fun c => h ⟨c.1.1, c.2⟩)] at e
      cases e
    by_cases hf : 0 ≤ f ∧ f ≤ 65535
    · by_cases ht : 0 ≤ t ∧ t ≤ 65535
      · rw [decide_eq_true hf, decide_eq_true ht]
        simp only [if_true, Bool.not_true, spec_MailFrom.j0, Bool.false_eq_true, if_false]
        rw [e2, hlen, if_pos (by omega), if_pos (by omega)]
        simp only [Option.bind_some, rd_cons0, rd_cons1, rd_cons2, List.length_nil, Nat.zero_add, List.nil_append]
        rw [Int.toNat_natCast, take5]
        simp only [List.drop_succ_cons, List.drop_zero]
        rw [if_pos (by omega), if_pos (by omega), if_pos (by omega), wrap_id (n := x) (by omega) (by omega), wrap_id (n := y) (by omega) (by omega), wrap_id (n := z) (by omega) (by omega), mailOk_spec', Option.bind_some]
        by_cases hok : (0 ≤ f ∧ f ≤ 65535) ∧ (1 ≤ x ∧ x ≤ 255) ∧ (1 ≤ y ∧ y ≤ 255) ∧ (d.length : Int) ≤ 40
        · have hs := specSum9 f t (x :: y :: z :: d) hf ht hd (by simp; omega) (k + 53) (by simp; omega)
          have hr := mailSum_range f t _ hd
          have hn := specNumEnd (x :: y :: z :: d) p q (by simp; omega) hp hq (k + 55)
          rw [show (x :: y :: z :: d) ++ [p, q] = x :: y :: z :: (d ++ [p, q]) from rfl, show ((x :: y :: z :: d).length : Int) = ((d.length + 3 : Nat) : Int) from rfl] at hn
          rw [if_pos (decide_eq_true hok), if_pos (by omega)]
          have hm : mailOf f x y d t = mailHead x y d ++ [mailSum f t (mailHead x y d) / 256 % 256, mailSum f t (mailHead x y d) % 256] := by
            unfold mailOf
            rw [if_pos ⟨hok, ht⟩]
          rw [hm]
          by_cases hzl : z = (d.length : Int)
          · have hH : mailHead x y d = x :: y :: z :: d := by
              unfold mailHead
              rw [show x % 256 = x by omega, show y % 256 = y by omega, show (d.length : Int) % 256 = z by omega]
            rw [if_pos hzl, hn, Option.bind_some, if_pos (by omega), hs, Option.bind_some, hH]
            by_cases he : p * 256 + q = mailSum f t (x :: y :: z :: d)
            · rw [if_pos he, ← he, show (p * 256 + q) / 256 % 256 = p by omega, show (p * 256 + q) % 256 = q by omega, if_pos (show x :: y :: z :: d ++ [p, q] = x :: y :: z :: (d ++ [p, q]) from rfl)]
            · rw [if_neg he, if_neg]
              intro e
              simp only [List.cons_append, List.cons.injEq, List.append_cancel_left_eq, true_and, and_true] at e
              omega
          · rw [if_neg hzl, if_neg]
            intro e
            simp only [mailHead, List.cons_append, List.cons.injEq, List.append_cancel_left_eq, true_and, and_true] at e
            omega
        · rw [if_neg (by rw [decide_eq_false hok]; simp), if_neg]
          intro e
          unfold mailOf at e
          rw [if_neg (fun c => hok c.1)] at e
          cases e
      · rw [decide_eq_true hf, decide_eq_false ht, if_neg (hno (fun c => ht c.2))]
        simp [spec_MailFrom.j0]
    · rw [decide_eq_false hf, if_neg (hno (fun c => hf c.1))]
      simp [spec_MailFrom.j0]
theorem main : GFnExactMailFrom.Stmt := by
  intro a b l _ _ hl
  obtain ⟨hl, hw⟩ := hl
  have hby := fun x hx => byte_of hw x hx
  refine ⟨l.length + 2000, ?_⟩
  unfold laws_FnExactMailFrom.f
  by_cases h : (l.length : Int) > 1048576
  · rw [if_pos h]
  · rw [if_neg h]
    have hto : ∀ k, l.length < k → laws_toByteS.f k l = some l := fun k hk => toBytes_le l (by omega) k hk
    have hs := specMailFrom a b l (by omega) hby (l.length + 1940) (by omega)
    have hi : ∀ k, l.length < k → impl_MailFrom.f (k + 60) a b l = _ := fun k hk => implMailFrom a b l (by omega) hby k hk
    have hz := fromOf_len a b l
    generalize fromOf a b l = R at hs hi hz
    obtain ⟨x, y, v, z, t⟩ := R
    dsimp only at hz
    have heq : ∀ k, z.length < k → laws_eqMail.f k x y v z x y v z = some true := fun k hk => by
      simp only [laws_eqMail.f, if_true, eqBytes z z (by omega) k hk, Option.bind_some, decide_true]
    obtain ⟨r0, m0, _, _⟩ := markBytes l 1 (by omega) (by omega) (l.length + 1999) (by omega)
    obtain ⟨r1, m1, n1, e1⟩ := markBytes z 1 (by omega) (by omega) (l.length + 1998) (by omega)
    have hh : ∀ k, z.length < k → laws_heldMail.f k x y v r1 1 = some (1 + (z.length : Int)) := fun k hk => by
      simp only [laws_heldMail.f, e1 k hk, Option.bind_some]
      rw [if_neg (by omega)]
    have j2 : laws_FnExactMailFrom.j2 (l.length + 1998) (1 + (z.length : Int)) false x y v r1 = some true := by
      simp only [laws_FnExactMailFrom.j2, Bool.false_eq_true, if_false, hh (l.length + 1997) (by omega), Option.bind_some, if_true]
      rw [if_neg (by omega)]
    have j1 : laws_FnExactMailFrom.j1 (l.length + 1999) a b l t false x y v z x y v z = some true := by
      simp only [laws_FnExactMailFrom.j1, Bool.false_eq_true, if_false, laws_markMail.f, m1, hh (l.length + 1998) (by omega), Option.bind_some, if_true, hto (l.length + 1998) (by omega), hi (l.length + 1938) (by omega), heq (l.length + 1998) (by omega), bne_self_eq_false, j2]
      rw [if_neg (by omega)]
    have j0 : laws_FnExactMailFrom.j0 (l.length + 2000) a b l t l t false x y v z x y v z = some true := by
      simp only [laws_FnExactMailFrom.j0, Bool.false_eq_true, if_false, hto (l.length + 1999) (by omega), eqBytes l l (by omega) (l.length + 1999) (by omega), decide_true, if_true, m0, Option.bind_some, heq (l.length + 1999) (by omega), bne_self_eq_false, j1]
      rw [if_neg (by omega)]
    simp only [hto (l.length + 2000) (by omega), hs, Option.bind_some, hi (l.length + 1940) (by omega), heq (l.length + 2000) (by omega), if_true, bne_self_eq_false, j0]
end FnExactMailFrom_
theorem FnExactMailFrom : GFnExactMailFrom.Stmt := FnExactMailFrom_.main
end Go.Proofs.Ytfcocnhkimbpbaa.Pure
