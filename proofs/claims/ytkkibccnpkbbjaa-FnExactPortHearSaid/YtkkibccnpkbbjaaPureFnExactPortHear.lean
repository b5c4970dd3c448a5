/- The law FnExactPortHear over numbers and lists: the program's PortHear answers as the reference's, and what it hands back can be marked and held against its marks. No conditions but the kinds' ranges. -/
import Derived.Test.YtkkibccnpkbbjaaGFnExactPortHear
namespace Go.Proofs.Ytkkibccnpkbbjaa.Pure
open Go Go.RowKit Go.Proofs.Ytkkibccnpkbbjaa.MFnExactPortHear Go.Proofs.YtkkibccnpkbbjaaV.PrintWords Go.Proofs.YtkkibccnpkbbjaaV.PrintLast
set_option linter.unusedVariables false
set_option linter.unusedSimpArgs false
namespace FnExactPortHear_
theorem i64_bounds {x : Int} (h : (Lit.int .i64 x).wf = true) : -9223372036854775808 ≤ x ∧ x ≤ 9223372036854775807 := by
  simpa [Lit.wf, IntKind.min, IntKind.max, IntKind.signed, IntKind.bits] using h
theorem inAll (x y z : Int) : spec_l1In.f x y z = some (decide (y ≤ x ∧ x ≤ z)) := by
  unfold spec_l1In.f
  by_cases h : x ≥ y
  · rw [if_pos h]; congr 1; simp only [decide_eq_decide]; omega
  · rw [if_neg h]; congr 1; symm; simp only [decide_eq_false_iff_not]; omega
theorem inAll' (x y z : Int) : impl_in.f x y z = some (decide (y ≤ x ∧ x ≤ z)) := inAll x y z
theorem wl {n m : Int} (h : n = m) (h0 : -9223372036854775808 ≤ m) (h1 : m ≤ 9223372036854775807) : wrap64 n = m := by
  subst h
  unfold wrap64
  omega
/-! ### bytes put side by side -/
theorem or256 (a b : Int) (ha : 0 ≤ a) (ha' : a ≤ 10000000000) (hb : 0 ≤ b) (hb' : b ≤ 255) : Go.bits .or .i64 (a * 256) b = a * 256 + b := by
  obtain ⟨n, rfl⟩ : ∃ n : Nat, a = n := ⟨a.toNat, by omega⟩
  obtain ⟨m, rfl⟩ : ∃ m : Nat, b = m := ⟨b.toNat, by omega⟩
  have h2 : n * 256 ||| m = n * 256 + m := by
    have := Nat.two_pow_add_eq_or_of_lt (i := 8) (show m < 2 ^ 8 by omega) n
    rw [show 2 ^ 8 * n = n * 256 by omega] at this
    exact this.symm
  have e1 : BitVec.ofInt 64 ((n : Int) * 256) = BitVec.ofNat 64 (n * 256) := by
    rw [show (n : Int) * 256 = ((n * 256 : Nat) : Int) by omega]
    exact BitVec.ofInt_natCast ..
  have e2 : BitVec.ofInt 64 (m : Int) = BitVec.ofNat 64 m := BitVec.ofInt_natCast ..
  have e : (BitVec.ofInt 64 ((n : Int) * 256) ||| BitVec.ofInt 64 (m : Int)).toNat = n * 256 + m := by
    rw [e1, e2, BitVec.toNat_or, BitVec.toNat_ofNat, BitVec.toNat_ofNat, Nat.mod_eq_of_lt (by omega), Nat.mod_eq_of_lt (by omega), h2]
  show IntKind.i64.wrap ((BitVec.ofInt 64 ((n : Int) * 256) ||| BitVec.ofInt 64 (m : Int)).toNat : Int) = _
  rw [e]
  simp only [IntKind.wrap, IntKind.bits, IntKind.signed]
  simp
  omega
/-! ### copies, equality and sizes of rows of bytes -/
theorem wrap_id {n : Int} (h : -9223372036854775808 ≤ n) (h' : n ≤ 9223372036854775807) : wrap64 n = n := by
  unfold wrap64; omega
/-- A loop that fills a row, an element at a time, from the elements of another one. -/
theorem fills {α : Type} (n : Nat) (hn : n ≤ 281474976710656) (L : Nat → List α → Int → Option (List α)) (g : Nat → α)
    (h : ∀ k acc i, k < n + 1 → L (k + 1) acc i = if i < (n : Int) then (if 0 ≤ i then (if i < (acc.length : Int) then L k (acc.set i.toNat (g i.toNat)) (wrap64 (i + 1)) else none) else none) else some acc) :
    ∀ d k (i : Nat) (acc : List α), i + d = n → k = d + 1 → acc.length = n → (∀ j, j < i → acc[j]? = some (g j)) → ∃ r, L k acc (i : Int) = some r ∧ r.length = n ∧ ∀ j, j < n → r[j]? = some (g j) := by
  intro d
  induction d with
  | zero =>
    intro k i acc hi hk hl hp
    subst hk
    refine ⟨acc, ?_, hl, fun j hj => hp j (by omega)⟩
    rw [h _ _ _ (by omega), if_neg (by omega)]
  | succ d ih =>
    intro k i acc hi hk hl hp
    subst hk
    obtain ⟨r, hr, hrl, hrp⟩ := ih (d + 1) (i + 1) (acc.set i (g i)) (by omega) rfl (by simpa using hl) (fun j hj => by
      by_cases hji : j = i
      · subst hji
        simp [List.getElem?_set, hl]
        omega
      · rw [List.getElem?_set_ne (by omega)]
        exact hp j (by omega))
    refine ⟨r, ?_, hrl, hrp⟩
    rw [h _ _ _ (by omega), if_pos (by omega), if_pos (by omega), if_pos (by omega), wrap_id (by omega) (by omega)]
    simpa using hr
theorem rd_at (l : List Int) (i : Nat) (h : i < l.length) : l[i]? = some (rd l (i : Int)) := by
  unfold rd
  rw [List.getD_eq_getElem?_getD, Int.toNat_natCast, List.getElem?_eq_getElem h]
  rfl
theorem toBytes_exact (l : List Int) (hl : l.length ≤ 281474976710656) : laws_toByteS.f (l.length + 1) l = some l := by
  unfold laws_toByteS.f
  rw [if_pos (by omega), if_pos (by omega)]
  obtain ⟨r, hr, hrl, hrp⟩ := fills l.length hl (fun k acc i => laws_toByteS.l0 k l acc i) (fun i => rd l (i : Int)) (fun k acc i hk => by
    simp only [laws_toByteS.l0]
    by_cases hi : i < (l.length : Int)
    · rw [if_pos hi, if_pos hi]
      by_cases h0 : 0 ≤ i
      · rw [if_pos h0, if_pos h0]
        by_cases h1 : i < (acc.length : Int)
        · rw [if_pos h1, if_pos h1, show ((i.toNat : Nat) : Int) = i by omega]
        · rw [if_neg h1, if_neg h1]
      · rw [if_neg h0, if_neg h0]
    · rw [if_neg hi, if_neg hi]) l.length (l.length + 1) 0 (List.replicate l.length 0) (by omega) rfl (by simp) (fun j hj => by omega)
  rw [show (l.length : Int).toNat = l.length by omega]
  show laws_toByteS.l0 _ _ _ _ = _
  have hr' : laws_toByteS.l0 (l.length + 1) l (List.replicate l.length 0) 0 = some r := hr
  rw [hr']
  congr 1
  apply List.ext_getElem?
  intro j
  by_cases hj : j < l.length
  · rw [hrp j hj, rd_at l j hj]
  · rw [List.getElem?_eq_none (by omega), List.getElem?_eq_none (by omega)]
theorem toBytes_le (l : List Int) (hl : l.length ≤ 281474976710656) (k : Nat) (hk : l.length < k) : laws_toByteS.f k l = some l := by
  obtain ⟨d, rfl⟩ : ∃ d, k = l.length + 1 + d := ⟨k - (l.length + 1), by omega⟩
  induction d with
  | zero => exact toBytes_exact l hl
  | succ d ih => exact laws_toByteS.mono l _ _ (ih (by omega))
theorem szBytes (l : List Int) (a : Int) (hl : l.length ≤ maxLen) (ha : 0 ≤ a) (ha' : a ≤ 1048576) : laws_szByteS.f l a = some (if a < (l.length : Int) then -1 else a - (l.length : Int)) := by
  unfold laws_szByteS.f
  unfold maxLen at hl
  rw [wrap_id (by omega) (by omega)]
  by_cases h : a < (l.length : Int)
  · rw [if_pos (by omega), if_pos h]
  · rw [if_neg (by omega), if_neg h]
theorem eqBytes_loop (a b : List Int) (hl : a.length = b.length) (hb : a.length ≤ 281474976710656) : ∀ d k (i : Nat), i + d = a.length → d < k →
    laws_eqByteS.l0 k a b (i : Int) = some (decide (a.drop i = b.drop i)) := by
  intro d
  induction d with
  | zero =>
    intro k i hi hk
    obtain ⟨k, rfl⟩ : ∃ m, k = m + 1 := ⟨k - 1, by omega⟩
    simp only [laws_eqByteS.l0]
    rw [if_neg (by omega), List.drop_eq_nil_of_le (by omega), List.drop_eq_nil_of_le (by omega)]
    rfl
  | succ d ih =>
    intro k i hi hk
    obtain ⟨k, rfl⟩ : ∃ m, k = m + 1 := ⟨k - 1, by omega⟩
    simp only [laws_eqByteS.l0]
    rw [if_pos (by omega), if_pos (by omega), if_pos (by omega), wrap_id (by omega) (by omega)]
    have h1 := rd_at a i (by omega)
    have h2 := rd_at b i (by omega)
    have e1 : a.drop i = rd a (i : Int) :: a.drop (i + 1) := by
      rw [List.drop_eq_getElem_cons (by omega)]
      congr 1
      rw [List.getElem?_eq_getElem (by omega)] at h1
      exact Option.some.inj h1
    have e2 : b.drop i = rd b (i : Int) :: b.drop (i + 1) := by
      rw [List.drop_eq_getElem_cons (by omega)]
      congr 1
      rw [List.getElem?_eq_getElem (by omega)] at h2
      exact Option.some.inj h2
    have hr := ih k (i + 1) (by omega) (by omega)
    rw [e1, e2]
    by_cases he : rd a (i : Int) = rd b (i : Int)
    · rw [if_pos he, show ((i : Int) + 1) = ((i + 1 : Nat) : Int) by omega, hr, he]
      simp
    · rw [if_neg he]
      simp [he]
theorem eqBytes (a b : List Int) (hb : a.length ≤ 281474976710656) (k : Nat) (hk : a.length < k) : laws_eqByteS.f k a b = some (decide (a = b)) := by
  unfold laws_eqByteS.f
  by_cases h : a.length = b.length
  · rw [if_pos (by omega)]
    have := eqBytes_loop a b h hb a.length k 0 (by omega) hk
    simpa using this
  · rw [if_neg (by omega)]
    have : a ≠ b := fun e => h (by rw [e])
    simp [this]
theorem eqSl_loop (a b : List Int) (hl : a.length = b.length) (hb : a.length ≤ 281474976710656) : ∀ d k (i : Nat), i + d = a.length → d < k →
    slices_Equal_byte_byte.l0 k a b (a.length : Int) (i : Int) = some (decide (a.drop i = b.drop i)) := by
  intro d
  induction d with
  | zero =>
    intro k i hi hk
    obtain ⟨k, rfl⟩ : ∃ m, k = m + 1 := ⟨k - 1, by omega⟩
    simp only [slices_Equal_byte_byte.l0]
    rw [if_neg (by omega), List.drop_eq_nil_of_le (by omega), List.drop_eq_nil_of_le (by omega)]
    rfl
  | succ d ih =>
    intro k i hi hk
    obtain ⟨k, rfl⟩ : ∃ m, k = m + 1 := ⟨k - 1, by omega⟩
    simp only [slices_Equal_byte_byte.l0]
    rw [if_pos (by omega), if_pos (by omega), if_pos (by omega), if_pos (by omega), wrap_id (by omega) (by omega)]
    have h1 := rd_at a i (by omega)
    have h2 := rd_at b i (by omega)
    have e1 : a.drop i = rd a (i : Int) :: a.drop (i + 1) := by
      rw [List.drop_eq_getElem_cons (by omega)]
      congr 1
      rw [List.getElem?_eq_getElem (by omega)] at h1
      exact Option.some.inj h1
    have e2 : b.drop i = rd b (i : Int) :: b.drop (i + 1) := by
      rw [List.drop_eq_getElem_cons (by omega)]
      congr 1
      rw [List.getElem?_eq_getElem (by omega)] at h2
      exact Option.some.inj h2
    have hr := ih k (i + 1) (by omega) (by omega)
    rw [e1, e2]
    by_cases he : rd a (i : Int) = rd b (i : Int)
    · rw [if_pos he, show ((i : Int) + 1) = ((i + 1 : Nat) : Int) by omega, hr, he]
      simp
    · rw [if_neg he]
      simp [he]
theorem eqSl (a b : List Int) (hb : a.length ≤ 281474976710656) (k : Nat) (hk : a.length < k) : slices_Equal_byte_byte.f k a b = some (decide (a = b)) := by
  unfold slices_Equal_byte_byte.f
  by_cases h : a.length = b.length
  · rw [if_pos (by omega)]
    have := eqSl_loop a b h hb a.length k 0 (by omega) hk
    simpa using this
  · rw [if_neg (by omega)]
    have : a ≠ b := fun e => h (by rw [e])
    simp [this]
/-! ### marks -/
theorem mark_loop (m : Int) (n : Nat) (hm : 0 ≤ m) (hb : m + n ≤ 1000000000) : ∀ d k (i : Nat) (acc : List Int), i + d = n → d < k → acc.length = n → (∀ j, j < i → acc[j]? = some ((m + j) % 256)) →
    ∃ r, laws_markByteS.l0 k acc (m + i) (i : Int) = some (m + n, r) ∧ r.length = n ∧ ∀ j, j < n → r[j]? = some ((m + j) % 256) := by
  intro d
  induction d with
  | zero =>
    intro k i acc hi hk hl hp
    obtain ⟨k, rfl⟩ : ∃ q, k = q + 1 := ⟨k - 1, by omega⟩
    refine ⟨acc, ?_, hl, fun j hj => hp j (by omega)⟩
    simp only [laws_markByteS.l0]
    rw [if_neg (by omega), show i = n by omega]
  | succ d ih =>
    intro k i acc hi hk hl hp
    obtain ⟨k, rfl⟩ : ∃ q, k = q + 1 := ⟨k - 1, by omega⟩
    obtain ⟨r, hr, hrl, hrp⟩ := ih k (i + 1) (acc.set i ((m + i) % 256)) (by omega) (by omega) (by simpa using hl) (fun j hj => by
      by_cases hji : j = i
      · subst hji
        simp [List.getElem?_set, hl]
        omega
      · rw [List.getElem?_set_ne (by omega)]
        exact hp j (by omega))
    refine ⟨r, ?_, hrl, hrp⟩
    simp only [laws_markByteS.l0]
    rw [if_pos (by omega), if_pos (by omega), wrap_id (by omega) (by omega), wrap_id (by omega) (by omega), Int.toNat_natCast]
    rw [show m + (i : Int) + 1 = m + ((i + 1 : Nat) : Int) by omega, show (i : Int) + 1 = ((i + 1 : Nat) : Int) by omega]
    exact hr
theorem held_loop (m : Int) (n : Nat) (hm : 0 ≤ m) (hb : m + n ≤ 1000000000) (r : List Int) (hl : r.length = n) (hp : ∀ j, j < n → r[j]? = some ((m + j) % 256)) : ∀ d k (i : Nat), i + d = n → d < k →
    laws_heldByteS.l0 k r (m + i) (i : Int) = some (m + n) := by
  intro d
  induction d with
  | zero =>
    intro k i hi hk
    obtain ⟨k, rfl⟩ : ∃ q, k = q + 1 := ⟨k - 1, by omega⟩
    simp only [laws_heldByteS.l0]
    rw [if_neg (by omega), show i = n by omega]
  | succ d ih =>
    intro k i hi hk
    obtain ⟨k, rfl⟩ : ∃ q, k = q + 1 := ⟨k - 1, by omega⟩
    have h1 := rd_at r i (by omega)
    rw [hp i (by omega)] at h1
    have h2 := Option.some.inj h1
    simp only [laws_heldByteS.l0]
    rw [if_pos (by omega), if_pos (by omega), if_pos h2.symm, wrap_id (by omega) (by omega), wrap_id (by omega) (by omega)]
    rw [show m + (i : Int) + 1 = m + ((i + 1 : Nat) : Int) by omega, show (i : Int) + 1 = ((i + 1 : Nat) : Int) by omega]
    exact ih k (i + 1) (by omega) (by omega)
theorem markBytes (l : List Int) (m : Int) (hm : 0 ≤ m) (hb : m + l.length ≤ 1000000000) (k : Nat) (hk : l.length < k) :
    ∃ r, laws_markByteS.f k l m = some (m + l.length, r) ∧ r.length = l.length ∧ ∀ k', l.length < k' → laws_heldByteS.f k' r m = some (m + l.length) := by
  obtain ⟨r, h1, h2, h3⟩ := mark_loop m l.length hm hb l.length k 0 l (by omega) hk rfl (fun j hj => by omega)
  refine ⟨r, ?_, h2, fun k' hk' => ?_⟩
  · have := h1
    rw [show m + ((0 : Nat) : Int) = m by omega] at this
    exact this
  · have := held_loop m l.length hm hb r h2 h3 l.length k' 0 (by omega) hk'
    rw [show m + ((0 : Nat) : Int) = m by omega] at this
    exact this
/-! ### two bytes of a number -/
theorem specBytes2 (v : Int) (h0 : 0 ≤ v) (h1 : v ≤ 65535) (k : Nat) : spec_BytesOf.f (k + 6) v 2 = some [v / 256 % 256, v % 256] := by
  have e : (8 : Int) * 2 = 16 := rfl
  have hm : ∀ x : Int, 0 ≤ x → Int.tmod x 256 = x % 256 := fun x hx => Int.tmod_eq_emod_of_nonneg hx
  have hs : shr .i64 v 8 = v / 256 := by simp [shr, IntKind.bits]
  have hs0 : shr .i64 v 0 = v := by simp [shr, IntKind.bits]
  have hw : shl .i64 1 16 - 1 = 65535 := by simp [shl, IntKind.wrap, IntKind.bits, IntKind.signed]
  simp only [spec_BytesOf.f, inAll, Option.bind_some]
  simp only [show wrap64 (8 * 2) = 16 from wl (by omega) (by omega) (by omega), hw, show wrap64 65535 = 65535 from wl (by omega) (by omega) (by omega)]
  simp only [show (decide ((1 : Int) ≤ 2 ∧ (2 : Int) ≤ 4)) = true by decide, if_true, show (0 : Int) ≤ 16 by omega, show decide (0 ≤ v ∧ v ≤ 65535) = true by simp [h0, h1]]
  simp only [Bool.not_true, spec_BytesOf.j0, Bool.false_eq_true, if_false, show wrap64 (2 - 1) = 1 from wl (by omega) (by omega) (by omega)]
  rw [spec_BytesOf.l0]
  simp only [show (1 : Int) ≥ 0 by omega, if_true, show wrap64 (8 * 1) = 8 from wl (by omega) (by omega) (by omega), show (0 : Int) ≤ 8 by omega, List.length_nil, show 0 < 140737488355328 by omega, hs, show wrap64 (1 - 1) = 0 from wl (by omega) (by omega) (by omega)]
  rw [spec_BytesOf.l0]
  simp only [show (0 : Int) ≥ 0 by omega, if_true, show wrap64 (8 * 0) = 0 from wl (by omega) (by omega) (by omega), Int.le_refl, hs0, show wrap64 (0 - 1) = -1 from wl (by omega) (by omega) (by omega)]
  rw [if_pos (by simp)]
  rw [spec_BytesOf.l0]
  simp only [show ¬ ((-1 : Int) ≥ 0) by omega, if_false]
  rw [hm _ (by omega), hm _ h0]
  simp
/-! ### two bytes of a number, the program's -/
theorem implBytes2 (v : Int) (k : Nat) : impl_bytesOf.f (k + 4) v 2 = some [v / 256 % 256, v % 256] := by
  simp only [impl_bytesOf.f, show (0 : Int) ≤ 2 by omega, if_true, show (2 : Int).toNat = 2 by rfl, show 2 ≤ 281474976710656 by omega, show wrap64 (2 - 1) = 1 from wl (by omega) (by omega) (by omega)]
  rw [impl_bytesOf.l0]
  simp only [show (1 : Int) ≥ 0 by omega, if_true, show (0 : Int) ≤ 1 by omega, show wrap64 (1 - 1) = 0 from wl (by omega) (by omega) (by omega)]
  rw [if_pos (by simp), impl_bytesOf.l0]
  simp only [show (0 : Int) ≥ 0 by omega, if_true, Int.le_refl, show wrap64 (0 - 1) = -1 from wl (by omega) (by omega) (by omega)]
  rw [if_pos (by simp), impl_bytesOf.l0]
  simp only [show ¬ ((-1 : Int) ≥ 0) by omega, if_false]
  rfl
/-! ### a row's first elements -/
theorem rd_cons0 (a : Int) (l : List Int) : rd (a :: l) 0 = a := by simp [rd]
theorem rd_cons1 (a b : Int) (l : List Int) : rd (a :: b :: l) 1 = b := by simp [rd]
theorem rd_cons2 (a b c : Int) (l : List Int) : rd (a :: b :: c :: l) 2 = c := by simp [rd]
theorem rd_cons3 (a b c d : Int) (l : List Int) : rd (a :: b :: c :: d :: l) 3 = d := by simp [rd]
theorem byte_of {l : List Int} (hw : ∀ x ∈ l, (Lit.int .u8 x).wf = true) (x : Int) (hx : x ∈ l) : 0 ≤ x ∧ x ≤ 255 := by
  have := hw x hx
  simpa [Lit.wf, IntKind.min, IntKind.max, IntKind.signed, IntKind.bits] using this
/-! ### the sum of bytes -/
theorem rd_mem (l : List Int) (i : Nat) (h : i < l.length) : rd l (i : Int) ∈ l := List.mem_of_getElem? (rd_at l i h)
def sW (l : List Int) (j : Nat) : Int := if h : 0 < l.length then SumOf_.so_sumW l (SumOf_.so_evens l.length h j) else 0
theorem sW_zero (l : List Int) : sW l 0 = 0 := by
  unfold sW
  split
  · rfl
  · rfl
theorem addW_val (s a b : Int) (hs : 0 ≤ s ∧ s ≤ 65535) (ha : 0 ≤ a ∧ a ≤ 255) (hb : 0 ≤ b ∧ b ≤ 255) :
    SumOf_.so_addW s (a * 256 + b) = if s + (a * 256 + b) > 65535 then s + (a * 256 + b) - 65535 else s + (a * 256 + b) := by
  have h1 : SumOf_.so_one 0 s = s := by
    unfold SumOf_.so_one
    rw [wrap_id (n := 0 + s) (by omega) (by omega), if_neg (by omega)]
    omega
  unfold SumOf_.so_addW
  rw [h1]
  unfold SumOf_.so_one
  rw [wrap_id (n := s + (a * 256 + b)) (by omega) (by omega)]
  split
  · rw [wrap_id (by omega) (by omega)]
  · rfl
theorem nAt_val (l : List Int) (hb : ∀ x ∈ l, 0 ≤ x ∧ x ≤ 255) (i : Nat) (hi : i < l.length) :
    SumOf_.so_nAt l i = rd l (i : Int) * 256 + (if i + 1 < l.length then rd l ((i + 1 : Nat) : Int) else 0) := by
  have h1 := hb _ (rd_mem l i hi)
  unfold SumOf_.so_nAt
  by_cases h2 : i + 1 < l.length
  · have h3 := hb _ (rd_mem l (i + 1) h2)
    rw [if_pos h2, if_pos h2, wrap_id (n := rd l (i : Int)) (by omega) (by omega), wrap_id (by omega) (by omega), wrap_id (by omega) (by omega)]
    exact or256 _ _ h1.1 (by omega) h3.1 h3.2
  · rw [if_neg h2, if_neg h2, wrap_id (n := rd l (i : Int)) (by omega) (by omega), wrap_id (by omega) (by omega)]
    omega
theorem sW_succ (l : List Int) (j : Nat) (h : 2 * j < l.length) : sW l (j + 1) = SumOf_.so_addW (sW l j) (SumOf_.so_nAt l (2 * j)) := by
  have h0 : 0 < l.length := by omega
  unfold sW
  rw [dif_pos h0, dif_pos h0, SumOf_.so_evens_succ _ _ _ h, SumOf_.so_sumW_snoc]
theorem sW_range (l : List Int) (hb : ∀ x ∈ l, 0 ≤ x ∧ x ≤ 255) : ∀ j, 2 * j ≤ l.length + 1 → 0 ≤ sW l j ∧ sW l j ≤ 65535 := by
  intro j
  induction j with
  | zero => intro _; rw [sW_zero]; omega
  | succ j ih =>
    intro hj
    have h1 := ih (by omega)
    have h2 := hb _ (rd_mem l (2 * j) (by omega))
    rw [sW_succ l j (by omega), nAt_val l hb (2 * j) (by omega)]
    by_cases h3 : 2 * j + 1 < l.length
    · have h4 := hb _ (rd_mem l (2 * j + 1) h3)
      rw [if_pos h3, addW_val _ _ _ h1 h2 h4]
      split <;> omega
    · rw [if_neg h3, addW_val _ _ _ h1 h2 (by omega)]
      split <;> omega
theorem l1Sum_loop (l : List Int) (hb : ∀ x ∈ l, 0 ≤ x ∧ x ≤ 255) (hl : l.length ≤ 1000000000) : ∀ d j k, 2 * j + 2 * d = l.length + l.length % 2 → 2 * d < k →
    spec_l1Sum.l0 k l (sW l j) ((2 * j : Nat) : Int) = some (sW l ((l.length + 1) / 2)) := by
  intro d
  induction d with
  | zero =>
    intro j k hj hk
    obtain ⟨k, rfl⟩ : ∃ q, k = q + 1 := ⟨k - 1, by omega⟩
    have e : j = (l.length + 1) / 2 := by omega
    simp only [spec_l1Sum.l0]
    rw [if_neg (by omega), e]
  | succ d ih =>
    intro j k hj hk
    obtain ⟨k, rfl⟩ : ∃ q, k = q + 1 + 1 := ⟨k - 2, by omega⟩
    have h0 : 2 * j < l.length := by omega
    have hr := sW_range l hb j (by omega)
    have h2 := hb _ (rd_mem l (2 * j) h0)
    have hi := ih (j + 1) 
    rw [sW_succ l j h0, nAt_val l hb (2 * j) h0] at hi
    have e1 : wrap64 (wrap64 (rd l ((2 * j : Nat) : Int)) * 256) = rd l ((2 * j : Nat) : Int) * 256 := by
      rw [wrap_id (n := rd l _) (by omega) (by omega), wrap_id (by omega) (by omega)]
    have e2 : wrap64 (((2 * j : Nat) : Int) + 1) = ((2 * j + 1 : Nat) : Int) := by rw [wrap_id (by omega) (by omega)]; omega
    have ht : Int.tmod ((2 * j : Nat) : Int) 2 = 0 := by rw [Int.tmod_eq_emod_of_nonneg (by omega)]; omega
    have ht1 : ¬ Int.tmod ((2 * j + 1 : Nat) : Int) 2 = 0 := by rw [Int.tmod_eq_emod_of_nonneg (by omega)]; omega
    have e3 : wrap64 (((2 * j + 1 : Nat) : Int) + 1) = ((2 * (j + 1) : Nat) : Int) := by rw [wrap_id (by omega) (by omega)]; omega
    have hw : ∀ z : Int, z = sW l j + rd l ((2 * j : Nat) : Int) * 256 ∨ z = sW l j + rd l ((2 * j : Nat) : Int) * 256 - 65535 → wrap64 z = z := by
      intro z hz
      exact wrap_id (by omega) (by omega)
    rw [spec_l1Sum.l0]
    rw [if_pos (by omega), if_pos ht, if_pos (by omega), e1, e2, hw _ (.inl rfl), hw _ (.inr rfl)]
    by_cases h3 : 2 * j + 1 < l.length
    · have h4 := hb _ (rd_mem l (2 * j + 1) h3)
      rw [if_pos h3, addW_val _ _ _ hr h2 h4] at hi
      have e4 : wrap64 (rd l ((2 * j + 1 : Nat) : Int)) = rd l ((2 * j + 1 : Nat) : Int) := wrap_id (by omega) (by omega)
      split
      · rename_i hc
        rw [spec_l1Sum.l0, if_pos (by omega), if_neg ht1, if_pos (by omega), e4, e3, wrap_id (by omega) (by omega), if_neg (by omega)]
        rw [← hi k (by omega) (by omega), if_pos (by omega)]
        congr 1; omega
      · rename_i hc
        rw [spec_l1Sum.l0, if_pos (by omega), if_neg ht1, if_pos (by omega), e4, e3, wrap_id (n := sW l j + rd l ((2 * j : Nat) : Int) * 256 + rd l ((2 * j + 1 : Nat) : Int)) (by omega) (by omega)]
        split
        · rename_i hd
          rw [wrap_id (by omega) (by omega), ← hi k (by omega) (by omega), if_pos (by omega)]
          congr 1; omega
        · rename_i hd
          rw [← hi k (by omega) (by omega), if_neg (by omega)]
          congr 1; omega
    · have hd0 : d = 0 := by omega
      rw [if_neg h3, addW_val _ _ _ hr h2 (by omega)] at hi
      have he := hi 1 (by omega) (by omega)
      rw [spec_l1Sum.l0, if_neg (by omega)] at he
      split
      · rename_i hc
        rw [spec_l1Sum.l0, if_neg (by omega), ← he, if_pos (by omega)]
        congr 1; omega
      · rename_i hc
        rw [spec_l1Sum.l0, if_neg (by omega), ← he, if_neg (by omega)]
        congr 1; omega
theorem specSum (l : List Int) (hb : ∀ x ∈ l, 0 ≤ x ∧ x ≤ 255) (hl : l.length ≤ 1000000000) (k : Nat) (hk : l.length + 1 < k) : spec_SumOf.f k l = some (65535 - sW l ((l.length + 1) / 2)) := by
  have hr := sW_range l hb ((l.length + 1) / 2) (by omega)
  have h0 := l1Sum_loop l hb hl ((l.length + 1) / 2) 0 k (by omega) (by omega)
  rw [sW_zero] at h0
  simp only [spec_SumOf.f, spec_l1Sum.f]
  rw [show (0 : Int) = ((2 * 0 : Nat) : Int) from rfl] 
  rw [show spec_l1Sum.l0 k l ((2 * 0 : Nat) : Int) ((2 * 0 : Nat) : Int) = _ from h0, Option.bind_some, wrap_id (by omega) (by omega)]
theorem implSum (l : List Int) (hb : ∀ x ∈ l, 0 ≤ x ∧ x ≤ 255) (hl : l.length ≤ 1000000000) : impl_sumOf.f l = some (65535 - sW l ((l.length + 1) / 2)) := by
  have hr := sW_range l hb ((l.length + 1) / 2) (by omega)
  have e : SumOf_.so_sumAll l = sW l ((l.length + 1) / 2) := by
    unfold SumOf_.so_sumAll sW
    by_cases h : 0 < l.length
    · simp only [dif_pos h]
    · simp only [dif_neg h]
  rw [← e] at hr
  rw [impl_sumOf.f, if_pos (by omega), e, wrap_id (by omega) (by omega)]
/-! ### a message as bytes -/
def mailHead (b c : Int) (l : List Int) : List Int := b % 256 :: c % 256 :: (l.length : Int) % 256 :: l
def mailSum (a t : Int) (y : List Int) : Int := 65535 - sW (a / 256 % 256 :: a % 256 :: t / 256 % 256 :: t % 256 :: y) ((y.length + 5) / 2)
def mailOf (a b c : Int) (l : List Int) (t : Int) : List Int :=
  if ((0 ≤ a ∧ a ≤ 65535) ∧ (1 ≤ b ∧ b ≤ 255) ∧ (1 ≤ c ∧ c ≤ 255) ∧ (l.length : Int) ≤ 40) ∧ 0 ≤ t ∧ t ≤ 65535 then
    mailHead b c l ++ [mailSum a t (mailHead b c l) / 256 % 256, mailSum a t (mailHead b c l) % 256] else []
theorem mailHead_byte (b c : Int) (l : List Int) (hb : ∀ x ∈ l, 0 ≤ x ∧ x ≤ 255) : ∀ x ∈ mailHead b c l, 0 ≤ x ∧ x ≤ 255 := by
  intro x hx
  simp only [mailHead, List.mem_cons] at hx
  rcases hx with rfl | rfl | rfl | hx
  · omega
  · omega
  · omega
  · exact hb x hx
theorem mailFull_byte (a t : Int) (y : List Int) (hb : ∀ x ∈ y, 0 ≤ x ∧ x ≤ 255) : ∀ x ∈ (a / 256 % 256 :: a % 256 :: t / 256 % 256 :: t % 256 :: y), 0 ≤ x ∧ x ≤ 255 := by
  intro x hx
  simp only [List.mem_cons] at hx
  rcases hx with rfl | rfl | rfl | rfl | hx
  · omega
  · omega
  · omega
  · omega
  · exact hb x hx
theorem mailSum_range (a t : Int) (y : List Int) (hb : ∀ x ∈ y, 0 ≤ x ∧ x ≤ 255) : 0 ≤ mailSum a t y ∧ mailSum a t y ≤ 65535 := by
  have := sW_range _ (mailFull_byte a t y hb) ((y.length + 5) / 2) (by simp only [List.length_cons]; omega)
  unfold mailSum
  omega
theorem specSum9 (a t : Int) (y : List Int) (ha : 0 ≤ a ∧ a ≤ 65535) (ht : 0 ≤ t ∧ t ≤ 65535) (hb : ∀ x ∈ y, 0 ≤ x ∧ x ≤ 255) (hy : y.length ≤ 2097152) (k : Nat) (hk : y.length < k) :
    spec_l9Sum.f (k + 6) a t y = some (mailSum a t y) := by
  have hs := specSum (a / 256 % 256 :: a % 256 :: t / 256 % 256 :: t % 256 :: y) (mailFull_byte a t y hb) (by simp only [List.length_cons]; omega) (k + 6) (by simp only [List.length_cons]; omega)
  simp only [List.length_cons] at hs
  simp only [spec_l9Sum.f, specBytes2 a ha.1 ha.2 k, specBytes2 t ht.1 ht.2 k, Option.bind_some, List.cons_append, List.nil_append, List.length_cons, List.length_nil]
  rw [if_pos (by omega)]
  rw [if_pos (by omega), hs]
  rfl
/-! ### a message as bytes, the program's -/
theorem implMail (a b c : Int) (l : List Int) (t : Int) (hb : ∀ x ∈ l, 0 ≤ x ∧ x ≤ 255) (k : Nat) : impl_MailBytes.f (k + 60) a b c l t = some (mailOf a b c l t) := by
  simp only [impl_MailBytes.f, impl_MailOk.f, impl_word.f, impl_portOk.f, inAll', Option.bind_some]
  by_cases h1 : 0 ≤ a ∧ a ≤ 65535
  · by_cases h2 : 1 ≤ b ∧ b ≤ 255
    · by_cases h3 : 1 ≤ c ∧ c ≤ 255
      · by_cases h4 : (l.length : Int) ≤ 40
        · by_cases h5 : 0 ≤ t ∧ t ≤ 65535
          · have hy := mailHead_byte b c l hb
            have hs := implSum (a / 256 % 256 :: a % 256 :: t / 256 % 256 :: t % 256 :: mailHead b c l) (mailFull_byte a t _ hy) (by simp [mailHead]; omega)
            have hr := mailSum_range a t _ hy
            have hbt : impl_between.f (k + 59) a t = some [a / 256 % 256, a % 256, t / 256 % 256, t % 256] := by
              simp only [impl_between.f, implBytes2 _ (k + 55), Option.bind_some, slices_Concat_byte_byte.f, List.flatten_cons, List.flatten_nil, List.cons_append, List.nil_append, List.append_nil, List.length_cons, List.length_nil]
              rfl
            have hm : mailOf a b c l t = mailHead b c l ++ [mailSum a t (mailHead b c l) / 256 % 256, mailSum a t (mailHead b c l) % 256] := by
              unfold mailOf
              rw [if_pos ⟨⟨h1, h2, h3, h4⟩, h5⟩]
            rw [hm]
            simp only [h1, h2, h3, h4, h5, and_self, decide_true, if_true, Bool.not_true, impl_MailBytes.j0, Bool.false_eq_true, if_false, Option.bind_some]
            rw [if_pos (by simp; omega)]
            rw [show (([b % 256, c % 256, (l.length : Int) % 256] : List Int) ++ l) = mailHead b c l from rfl]
            have hl2 : (mailHead b c l).length ≤ 43 := by simp [mailHead]; omega
            have hss : impl_sumOf.f (a / 256 % 256 :: a % 256 :: t / 256 % 256 :: t % 256 :: mailHead b c l) = some (mailSum a t (mailHead b c l)) := by
              rw [hs]
              simp only [List.length_cons]
              rfl
            have hc1 : slices_Concat_byte_byte.f [[a / 256 % 256, a % 256, t / 256 % 256, t % 256], mailHead b c l] = some (a / 256 % 256 :: a % 256 :: t / 256 % 256 :: t % 256 :: mailHead b c l) := by
              simp only [slices_Concat_byte_byte.f, List.flatten_cons, List.flatten_nil, List.cons_append, List.nil_append, List.append_nil, List.length_cons]
              rw [if_pos (by omega)]
            have hc2 : ∀ z : List Int, z.length = 2 → slices_Concat_byte_byte.f [mailHead b c l, z] = some (mailHead b c l ++ z) := by
              intro z hz
              simp only [slices_Concat_byte_byte.f, List.flatten_cons, List.flatten_nil, List.append_nil, List.length_append]
              rw [if_pos (by omega)]
            rw [hbt, Option.bind_some, hc1, Option.bind_some, hss, Option.bind_some, implBytes2 _ (k + 55), Option.bind_some, hc2 _ rfl]
            rfl
          · simp [h1, h2, h3, h4, h5, mailOf, impl_MailBytes.j0]
        · simp [h1, h2, h3, h4, mailOf, impl_MailBytes.j0]
      · simp [h1, h2, h3, mailOf, impl_MailBytes.j0]
    · simp [h1, h2, mailOf, impl_MailBytes.j0]
  · simp [h1, mailOf, impl_MailBytes.j0]
/-! ### the message of bytes -/
def fromOf (f t : Int) (b : List Int) : Int × Int × Int × List Int × Bool :=
  if 5 ≤ b.length ∧ mailOf f (rd b 0) (rd b 1) ((b.take (b.length - 2)).drop 3) t = b then (f, rd b 0, rd b 1, (b.take (b.length - 2)).drop 3, true) else (0, 0, 0, [], false)
theorem split5 (b : List Int) (h : 5 ≤ b.length) : ∃ x y z d p q, b = x :: y :: z :: (d ++ [p, q]) := by
  match b, h with
  | x :: y :: z :: r, h =>
    have hr : 2 ≤ r.length := by simp at h; omega
    have e := List.take_append_drop (r.length - 2) r
    have hl : (r.drop (r.length - 2)).length = 2 := by simp; omega
    match hd : r.drop (r.length - 2), hl with
    | [p, q], _ =>
      rw [hd] at e
      exact ⟨x, y, z, r.take (r.length - 2), p, q, by rw [e]⟩
theorem take5 (x y z : Int) (d : List Int) (p q : Int) : List.take (d.length + 3) (x :: y :: z :: (d ++ [p, q])) = x :: y :: z :: d := by simp [List.take_succ_cons]
theorem fromOf_split (f t x y z : Int) (d : List Int) (p q : Int) : fromOf f t (x :: y :: z :: (d ++ [p, q])) = if mailOf f x y d t = x :: y :: z :: (d ++ [p, q]) then (f, x, y, d, true) else (0, 0, 0, [], false) := by
  have hl : (x :: y :: z :: (d ++ [p, q])).length = d.length + 5 := by simp
  unfold fromOf
  rw [hl, show d.length + 5 - 2 = d.length + 3 by omega, take5]
  simp only [rd_cons0, rd_cons1, List.drop_succ_cons, List.drop_zero]
  by_cases h : mailOf f x y d t = x :: y :: z :: (d ++ [p, q])
  · rw [if_pos ⟨by omega, h⟩, if_pos h]
  · rw [if_neg (fun c => h c.2), if_neg h]
theorem fromOf_len (f t : Int) (b : List Int) : (fromOf f t b).2.2.2.1.length ≤ b.length := by
  unfold fromOf
  split
  · simp; omega
  · simp
theorem implMailFrom (f t : Int) (b : List Int) (hl : b.length ≤ 1048576) (hb : ∀ x ∈ b, 0 ≤ x ∧ x ≤ 255) (k : Nat) (hk : b.length < k) : impl_MailFrom.f (k + 60) f t b = some (fromOf f t b) := by
  by_cases h5 : b.length < 5
  · unfold impl_MailFrom.f fromOf
    rw [if_pos (by omega), if_neg (by omega)]
  · obtain ⟨x, y, z, d, p, q, rfl⟩ := split5 b (by omega)
    have hlen : (x :: y :: z :: (d ++ [p, q])).length = d.length + 5 := by simp
    have hx := hb x (by simp)
    have hy := hb y (by simp)
    have hd : ∀ w ∈ d, 0 ≤ w ∧ w ≤ 255 := fun w hw => hb w (by simp [hw])
    rw [hlen] at hl hk
    have e2 : wrap64 (((x :: y :: z :: (d ++ [p, q])).length : Int) - 2) = ((d.length + 3 : Nat) : Int) := by
      rw [hlen, wrap_id (by omega) (by omega)]; omega
    rw [fromOf_split]
    unfold impl_MailFrom.f
    rw [e2, hlen, if_neg (by omega), if_pos (by omega), if_pos (by omega), if_pos (by omega), if_pos (by omega)]
    rw [Int.toNat_natCast, take5]
    simp only [rd_cons0, rd_cons1, List.drop_succ_cons, List.drop_zero, impl_clone_byte.f]
    rw [if_pos (by omega), Option.bind_some, wrap_id (n := x) (by omega) (by omega), wrap_id (n := y) (by omega) (by omega), implMail f x y d t hd k, Option.bind_some]
    have hml : (mailOf f x y d t).length ≤ d.length + 5 := by unfold mailOf; split <;> simp [mailHead]
    rw [eqSl _ _ (by omega) _ (by omega), Option.bind_some]
    by_cases h : mailOf f x y d t = x :: y :: z :: (d ++ [p, q])
    · rw [if_pos h, if_pos (by rw [decide_eq_true h])]
    · rw [if_neg h, if_neg (by rw [decide_eq_false h]; simp)]
/-! ### the message of bytes, the reference's -/
theorem mailOk_spec' (a b c : Int) (l : List Int) : spec_MailOk.f a b c l = some (decide ((0 ≤ a ∧ a ≤ 65535) ∧ (1 ≤ b ∧ b ≤ 255) ∧ (1 ≤ c ∧ c ≤ 255) ∧ (l.length : Int) ≤ 40)) := by
  simp only [spec_MailOk.f, inAll, Option.bind_some]
  by_cases h1 : 0 ≤ a ∧ a ≤ 65535 <;> by_cases h2 : 1 ≤ b ∧ b ≤ 255 <;> by_cases h3 : 1 ≤ c ∧ c ≤ 255 <;> simp [h1, h2, h3]
theorem specNumEnd (y : List Int) (p q : Int) (hl : y.length ≤ 1048576) (hp : 0 ≤ p ∧ p ≤ 255) (hq : 0 ≤ q ∧ q ≤ 255) (k : Nat) : spec_NumberAt.f (k + 4) (y ++ [p, q]) (y.length : Int) 2 = some (p * 256 + q) := by
  have hlen : (y ++ [p, q]).length = y.length + 2 := by simp
  have r0 : rd (y ++ [p, q]) (y.length : Int) = p := by
    have h := rd_at (y ++ [p, q]) y.length (by omega)
    rw [List.getElem?_append_right (by omega), Nat.sub_self] at h
    exact (Option.some.inj h).symm
  have r1 : rd (y ++ [p, q]) ((y.length : Int) + 1) = q := by
    have h := rd_at (y ++ [p, q]) (y.length + 1) (by omega)
    rw [List.getElem?_append_right (by omega), show y.length + 1 - y.length = 1 by omega] at h
    exact (Option.some.inj h).symm
  simp only [spec_NumberAt.f, inAll, Option.bind_some, show decide ((1 : Int) ≤ 2 ∧ (2 : Int) ≤ 4) = true by decide, if_true]
  rw [wl (n := ((y ++ [p, q]).length : Int) - 2) (m := (y.length : Int)) (by omega) (by omega) (by omega)]
  rw [decide_eq_true (show (0 : Int) ≤ y.length ∧ (y.length : Int) ≤ y.length by omega)]
  simp only [Bool.not_true, spec_NumberAt.j0, Bool.false_eq_true, if_false]
  rw [spec_NumberAt.l0]
  rw [if_pos (by omega), wl (n := (y.length : Int) + 0) (m := y.length) (by omega) (by omega) (by omega), if_pos (by omega), if_pos (by omega), r0]
  rw [wl (n := p) rfl (by omega) (by omega), wl (n := 0 * 256) (m := 0) (by omega) (by omega) (by omega), wl (n := 0 + p) (m := p) (by omega) (by omega) (by omega), wl (n := 0 + 1) (m := 1) (by omega) (by omega) (by omega)]
  rw [spec_NumberAt.l0]
  rw [if_pos (by omega), wl (n := (y.length : Int) + 1) rfl (by omega) (by omega), if_pos (by omega), if_pos (by omega), r1]
  rw [wl (n := q) rfl (by omega) (by omega), wl (n := p * 256) rfl (by omega) (by omega), wl (n := p * 256 + q) rfl (by omega) (by omega), wl (n := 1 + 1) (m := 2) (by omega) (by omega) (by omega)]
  rw [spec_NumberAt.l0, if_neg (by omega)]
theorem specMailFrom (f t : Int) (b : List Int) (hl : b.length ≤ 1048576) (hb : ∀ x ∈ b, 0 ≤ x ∧ x ≤ 255) (k : Nat) (hk : b.length < k) : spec_MailFrom.f (k + 60) f t b = some (fromOf f t b) := by
  unfold spec_MailFrom.f
  by_cases h5 : b.length < 5
  · unfold fromOf
    rw [if_pos (by omega), if_neg (by omega)]
    simp [spec_MailFrom.j0]
  · rw [if_neg (by omega)]
    obtain ⟨x, y, z, d, p, q, rfl⟩ := split5 b (by omega)
    have hlen : (x :: y :: z :: (d ++ [p, q])).length = d.length + 5 := by simp
    have hx := hb x (by simp)
    have hy := hb y (by simp)
    have hz := hb z (by simp)
    have hp := hb p (by simp)
    have hq := hb q (by simp)
    have hd : ∀ w ∈ x :: y :: z :: d, 0 ≤ w ∧ w ≤ 255 := fun w hw => hb w (by simp at hw ⊢; rcases hw with h | h | h | h <;> simp [h])
    rw [hlen] at hl hk
    have e2 : wrap64 (((x :: y :: z :: (d ++ [p, q])).length : Int) - 2) = ((d.length + 3 : Nat) : Int) := by
      rw [hlen, wrap_id (by omega) (by omega)]; omega
    rw [fromOf_split]
    simp only [inAll, Option.bind_some]
    have hno : ¬ ((0 ≤ f ∧ f ≤ 65535) ∧ (0 ≤ t ∧ t ≤ 65535)) → ¬ mailOf f x y d t = x :: y :: z :: (d ++ [p, q]) := by
      intro h e
      unfold mailOf at e
      rw [if_neg (fun c => h ⟨c.1.1, c.2⟩)] at e
      cases e
    by_cases hf : 0 ≤ f ∧ f ≤ 65535
    · by_cases ht : 0 ≤ t ∧ t ≤ 65535
      · rw [decide_eq_true hf, decide_eq_true ht]
        simp only [if_true, Bool.not_true, spec_MailFrom.j0, Bool.false_eq_true, if_false]
        rw [e2, hlen, if_pos (by omega), if_pos (by omega)]
        simp only [Option.bind_some, rd_cons0, rd_cons1, rd_cons2, List.length_nil, Nat.zero_add, List.nil_append]
        rw [Int.toNat_natCast, take5]
        simp only [List.drop_succ_cons, List.drop_zero]
        rw [if_pos (by omega), if_pos (by omega), if_pos (by omega), wrap_id (n := x) (by omega) (by omega), wrap_id (n := y) (by omega) (by omega), wrap_id (n := z) (by omega) (by omega), mailOk_spec', Option.bind_some]
        by_cases hok : (0 ≤ f ∧ f ≤ 65535) ∧ (1 ≤ x ∧ x ≤ 255) ∧ (1 ≤ y ∧ y ≤ 255) ∧ (d.length : Int) ≤ 40
        · have hs := specSum9 f t (x :: y :: z :: d) hf ht hd (by simp; omega) (k + 53) (by simp; omega)
          have hr := mailSum_range f t _ hd
          have hn := specNumEnd (x :: y :: z :: d) p q (by simp; omega) hp hq (k + 55)
          rw [show (x :: y :: z :: d) ++ [p, q] = x :: y :: z :: (d ++ [p, q]) from rfl, show ((x :: y :: z :: d).length : Int) = ((d.length + 3 : Nat) : Int) from rfl] at hn
          rw [if_pos (decide_eq_true hok), if_pos (by omega)]
          have hm : mailOf f x y d t = mailHead x y d ++ [mailSum f t (mailHead x y d) / 256 % 256, mailSum f t (mailHead x y d) % 256] := by
            unfold mailOf
            rw [if_pos ⟨hok, ht⟩]
          rw [hm]
          by_cases hzl : z = (d.length : Int)
          · have hH : mailHead x y d = x :: y :: z :: d := by
              unfold mailHead
              rw [show x % 256 = x by omega, show y % 256 = y by omega, show (d.length : Int) % 256 = z by omega]
            rw [if_pos hzl, hn, Option.bind_some, if_pos (by omega), hs, Option.bind_some, hH]
            by_cases he : p * 256 + q = mailSum f t (x :: y :: z :: d)
            · rw [if_pos he, ← he, show (p * 256 + q) / 256 % 256 = p by omega, show (p * 256 + q) % 256 = q by omega, if_pos (show x :: y :: z :: d ++ [p, q] = x :: y :: z :: (d ++ [p, q]) from rfl)]
            · rw [if_neg he, if_neg]
              intro e
              simp only [List.cons_append, List.cons.injEq, List.append_cancel_left_eq, true_and, and_true] at e
              omega
          · rw [if_neg hzl, if_neg]
            intro e
            simp only [mailHead, List.cons_append, List.cons.injEq, List.append_cancel_left_eq, true_and, and_true] at e
            omega
        · rw [if_neg (by rw [decide_eq_false hok]; simp), if_neg]
          intro e
          unfold mailOf at e
          rw [if_neg (fun c => hok c.1)] at e
          cases e
      · rw [decide_eq_true hf, decide_eq_false ht, if_neg (hno (fun c => ht c.2))]
        simp [spec_MailFrom.j0]
    · rw [decide_eq_false hf, if_neg (hno (fun c => hf c.1))]
      simp [spec_MailFrom.j0]
/-! ### packets -/
theorem packetOk_impl (a b c d e f : Int) (g h : Bool) (l : List Int) : impl_PacketOk.f a b c d e f g h l = spec_PacketOk.f a b c d e f g h l := by
  simp only [impl_PacketOk.f, spec_PacketOk.f, impl_word.f, inAll, inAll', Option.bind_some]
theorem packetOk_some (a b c d e f : Int) (g h : Bool) (l : List Int) : ∃ t, spec_PacketOk.f a b c d e f g h l = some t ∧ (t = true → 0 ≤ f) := by
  by_cases hf : 0 ≤ f ∧ f ≤ 255
  · have : ∃ t, spec_PacketOk.f a b c d e f g h l = some t := by
      simp only [spec_PacketOk.f, inAll, Option.bind_some]
      repeat' split
      all_goals exact ⟨_, rfl⟩
    obtain ⟨t, ht⟩ := this
    exact ⟨t, ht, fun _ => hf.1⟩
  · refine ⟨false, ?_, fun h => by cases h⟩
    simp only [spec_PacketOk.f, inAll, Option.bind_some]
    rw [decide_eq_false hf]
    simp
/-! ### rows of messages: sized, copied, compared; told from some number of rounds on -/
abbrev LM := S105
abbrev IM := S40
def convM (x : LM) : IM := ⟨x.f0, x.f1, x.f2, x.f3⟩
theorem ev_step {α : Type} {g : Nat → Option α} (f : Nat → Option α) {r : α} (h : ∀ k, g (k + 1) = f k) (k : Ev f r) : Ev g r := Ev.step h k
theorem ev_bind {α β : Type} {g : Nat → Option α} {f : Nat → α → Option β} {a : α} {r : β} (h : Ev g a) (k : Ev (fun n => f n a) r) : Ev (fun n => (g n).bind (f n)) r := Ev.bind h k
theorem ev_eq {α : Type} {g : Nat → Option α} (f : Nat → Option α) {r : α} (h : ∀ k, g k = f k) (k : Ev f r) : Ev g r := Ev.congr h k
theorem ev_some {α : Type} {o : Option α} {r : α} (h : o = some r) : Ev (fun _ => o) r := ⟨0, fun _ _ => h⟩
theorem toBytes_ev (l : List Int) (hl : l.length ≤ 1048576) : Ev (fun k => laws_toByteS.f k l) l := ⟨l.length + 1, fun k hk => toBytes_le l (by omega) k (by omega)⟩
theorem rdLM_at (l : List LM) (i : Nat) (h : i < l.length) : l[i]? = some (rd_T105 l (i : Int)) := by
  simp [rd_T105, List.getD_eq_getElem?_getD, List.getElem?_eq_getElem h]
theorem rdIM_at (l : List IM) (i : Nat) (h : i < l.length) : l[i]? = some (rd_T40 l (i : Int)) := by
  simp [rd_T40, List.getD_eq_getElem?_getD, List.getElem?_eq_getElem h]
theorem rdLM_mem (l : List LM) (i : Nat) (h : i < l.length) : rd_T105 l (i : Int) ∈ l := List.mem_of_getElem? (rdLM_at l i h)
theorem rdIM_mem (l : List IM) (i : Nat) (h : i < l.length) : rd_T40 l (i : Int) ∈ l := List.mem_of_getElem? (rdIM_at l i h)
theorem szMail_at (x y z : Int) (l : List Int) (a : Int) (hl : l.length ≤ maxLen) (h0 : 0 ≤ a) (h1 : a ≤ 1048576) : laws_szMail.f x y z l a = some (if a < (l.length : Int) then -1 else a - (l.length : Int)) := by
  unfold laws_szMail.f
  rw [szBytes l a hl h0 h1, Option.bind_some]
  by_cases c : a < (l.length : Int)
  · rw [if_pos c, if_pos (by omega)]
  · rw [if_neg c, if_neg (by omega)]
theorem szMailS_loop (l : List LM) (hl : l.length ≤ 1048576) (hm : ∀ x ∈ l, x.f3.length ≤ maxLen) : ∀ d (i : Nat) (a : Int), i + d = l.length → 0 ≤ a → a ≤ 1048576 →
    ∃ r, Ev (fun k => laws_szMailS.l0 k l a (i : Int)) r ∧ (r = -1 ∨ (0 ≤ r ∧ r ≤ a ∧ ∀ j : Nat, i ≤ j → j < l.length → (rd_T105 l (j : Int)).f3.length ≤ 1048576)) := by
  intro d
  induction d with
  | zero =>
    intro i a hi h0 h1
    refine ⟨a, ev_step (fun _ => some a) (fun k => ?_) (Ev.now a), .inr ⟨h0, Int.le_refl _, fun j j1 j2 => by omega⟩⟩
    rw [laws_szMailS.l0, if_neg (by omega)]
  | succ d ih =>
    intro i a hi h0 h1
    have hx := hm _ (rdLM_mem l i (by omega))
    by_cases c : a < ((rd_T105 l (i : Int)).f3.length : Int)
    · refine ⟨-1, ev_step (fun _ => some (-1)) (fun k => ?_) (Ev.now _), .inl rfl⟩
      rw [laws_szMailS.l0, if_pos (by omega), if_pos (by omega), szMail_at _ _ _ _ _ hx h0 h1, Option.bind_some, if_pos c, if_pos (by omega)]
    · obtain ⟨r, h2, h3⟩ := ih (i + 1) (a - ((rd_T105 l (i : Int)).f3.length : Int)) (by omega) (by omega) (by omega)
      refine ⟨r, ev_step _ (fun k => ?_) h2, ?_⟩
      · rw [laws_szMailS.l0, if_pos (by omega), if_pos (by omega), szMail_at _ _ _ _ _ hx h0 h1, Option.bind_some, if_neg c, if_neg (by omega), wrap_id (n := (i : Int) + 1) (by omega) (by omega), show (i : Int) + 1 = ((i + 1 : Nat) : Int) by omega]
      · rcases h3 with h3 | ⟨r0, r1, r2⟩
        · exact .inl h3
        · refine .inr ⟨r0, by omega, fun j j1 j2 => ?_⟩
          by_cases hj : j = i
          · subst hj; omega
          · exact r2 j (by omega) j2
theorem szMailS_at (l : List LM) (hl : l.length ≤ maxLen) (hm : ∀ x ∈ l, x.f3.length ≤ maxLen) (a : Int) (h0 : 0 ≤ a) (h1 : a ≤ 1048576) :
    ∃ r, Ev (fun k => laws_szMailS.f k l a) r ∧ (r = -1 ∨ (0 ≤ r ∧ r ≤ a ∧ l.length ≤ 1048576 ∧ ∀ x ∈ l, x.f3.length ≤ 1048576)) := by
  unfold maxLen at hl
  by_cases c : a < (l.length : Int)
  · refine ⟨-1, ⟨0, fun k _ => ?_⟩, .inl rfl⟩
    show laws_szMailS.f k l a = some (-1)
    unfold laws_szMailS.f
    rw [wrap_id (by omega) (by omega), if_pos (by omega)]
  · obtain ⟨r, h2, h3⟩ := szMailS_loop l (by omega) hm l.length 0 (a - (l.length : Int)) (by omega) (by omega) (by omega)
    refine ⟨r, ev_eq _ (fun k => ?_) h2, ?_⟩
    · unfold laws_szMailS.f
      rw [wrap_id (by omega) (by omega), if_neg (by omega)]
      rfl
    · rcases h3 with h3 | ⟨r0, r1, r2⟩
      · exact .inl h3
      · refine .inr ⟨r0, by omega, by omega, fun x hx => ?_⟩
        obtain ⟨j, hj, rfl⟩ := List.getElem_of_mem hx
        have e := rdLM_at l j hj
        rw [List.getElem?_eq_getElem hj] at e
        rw [Option.some.inj e]
        exact r2 j (Nat.zero_le _) hj
theorem toMail_ev (x y z : Int) (l : List Int) (hl : l.length ≤ 1048576) : Ev (fun k => laws_toMail.f k x y z l) (x, y, z, l) := ev_bind (f := fun _ t => some (x, y, z, t)) (toBytes_ev l hl) (Ev.now _)
theorem toMailS_loop (l : List LM) (hl : l.length ≤ 1048576) (hm : ∀ x ∈ l, x.f3.length ≤ 1048576) : ∀ d (i : Nat) (acc : List IM), i + d = l.length → acc.length = l.length → (∀ j, j < i → acc[j]? = some (convM (rd_T105 l (j : Int)))) →
    Ev (fun k => laws_toMailS.l0 k l acc (i : Int)) (l.map convM) := by
  intro d
  induction d with
  | zero =>
    intro i acc hi ha hp
    refine ev_step (fun _ => some acc) (fun k => ?_) (ev_some ?_)
    · rw [laws_toMailS.l0, if_neg (by omega)]
    · congr 1
      apply List.ext_getElem?
      intro j
      by_cases hj : j < l.length
      · rw [hp j (by omega), List.getElem?_map, rdLM_at l j hj]; rfl
      · rw [List.getElem?_eq_none (by omega), List.getElem?_eq_none (by simp; omega)]
  | succ d ih =>
    intro i acc hi ha hp
    have hx := hm _ (rdLM_mem l i (by omega))
    have h2 := ih (i + 1) (acc.set i (convM (rd_T105 l (i : Int)))) (by omega) (by simpa using ha) (fun j hj => by
      by_cases hji : j = i
      · subst hji
        rw [List.getElem?_set_self (by omega)]
      · rw [List.getElem?_set_ne (by omega)]
        exact hp j (by omega))
    refine ev_step _ (fun k => ?_) (ev_bind (f := fun k _ => laws_toMailS.l0 k l (acc.set i (convM (rd_T105 l (i : Int)))) ((i + 1 : Nat) : Int)) (toMail_ev (rd_T105 l (i : Int)).f0 (rd_T105 l (i : Int)).f1 (rd_T105 l (i : Int)).f2 (rd_T105 l (i : Int)).f3 hx) h2)
    rw [laws_toMailS.l0, if_pos (by omega), if_pos (by omega)]
    cases hk : laws_toMail.f k (rd_T105 l (i : Int)).f0 (rd_T105 l (i : Int)).f1 (rd_T105 l (i : Int)).f2 (rd_T105 l (i : Int)).f3 with
    | none => rfl
    | some v =>
      obtain rfl : v = ((rd_T105 l (i : Int)).f0, (rd_T105 l (i : Int)).f1, (rd_T105 l (i : Int)).f2, (rd_T105 l (i : Int)).f3) := by
        obtain ⟨K, hK⟩ := toMail_ev (rd_T105 l (i : Int)).f0 (rd_T105 l (i : Int)).f1 (rd_T105 l (i : Int)).f2 (rd_T105 l (i : Int)).f3 hx
        have e1 := hK (k + K) (by omega)
        have e2 := at_rounds (fun q => laws_toMail.mono _ _ _ _ q) (show k ≤ k + K by omega) hk
        exact Option.some.inj (e2.symm.trans e1)
      rw [Option.bind_some, Option.bind_some, if_pos (by omega), wrap_id (n := (i : Int) + 1) (by omega) (by omega), show (i : Int) + 1 = ((i + 1 : Nat) : Int) by omega, Int.toNat_natCast]
      rfl
theorem toMailS_ev (l : List LM) (hl : l.length ≤ 1048576) (hm : ∀ x ∈ l, x.f3.length ≤ 1048576) : Ev (fun k => laws_toMailS.f k l) (l.map convM) := by
  refine ev_eq _ (fun k => ?_) (toMailS_loop l hl hm l.length 0 (List.replicate ((l.length : Int)).toNat z40) (by omega) (by simp) (fun j hj => by omega))
  unfold laws_toMailS.f
  rw [if_pos (by omega), if_pos (by omega)]
  rfl
theorem eqMail_ev (x : IM) (hx : x.f3.length ≤ 1048576) : Ev (fun k => laws_eqMail.f k x.f0 x.f1 x.f2 x.f3 x.f0 x.f1 x.f2 x.f3) true := by
  refine ev_eq (fun k => (laws_eqByteS.f k x.f3 x.f3).bind fun t => if t = true then some true else some false) (fun k => ?_) (ev_bind (a := true) (f := fun _ t => if t = true then some true else some false) ⟨x.f3.length + 1, fun k hk => by show laws_eqByteS.f k x.f3 x.f3 = some true; rw [eqBytes x.f3 x.f3 (by omega) k (by omega)]; simp⟩ (ev_some rfl))
  unfold laws_eqMail.f
  rw [if_pos rfl, if_pos rfl, if_pos rfl]
theorem eqMailS_loop (l : List IM) (hl : l.length ≤ 1048576) (hm : ∀ x ∈ l, x.f3.length ≤ 1048576) : ∀ d (i : Nat), i + d = l.length → Ev (fun k => laws_eqMailS.l0 k l l (i : Int)) true := by
  intro d
  induction d with
  | zero =>
    intro i hi
    refine ev_step (fun _ => some true) (fun k => ?_) (Ev.now _)
    rw [laws_eqMailS.l0, if_neg (by omega)]
  | succ d ih =>
    intro i hi
    refine ev_step _ (fun k => ?_) (ev_bind (a := true) (f := fun k t => if t = true then laws_eqMailS.l0 k l l ((i + 1 : Nat) : Int) else some false) (eqMail_ev _ (hm _ (rdIM_mem l i (by omega)))) (ev_eq _ (fun k => if_pos rfl) (ih (i + 1) (by omega))))
    rw [laws_eqMailS.l0, if_pos (by omega), if_pos (by omega), if_pos (by omega), wrap_id (n := (i : Int) + 1) (by omega) (by omega), show (i : Int) + 1 = ((i + 1 : Nat) : Int) by omega]
theorem eqMailS_ev (l : List IM) (hl : l.length ≤ 1048576) (hm : ∀ x ∈ l, x.f3.length ≤ 1048576) : Ev (fun k => laws_eqMailS.f k l l) true := by
  refine ev_eq _ (fun k => ?_) (eqMailS_loop l hl hm l.length 0 (by omega))
  unfold laws_eqMailS.f
  rw [if_pos rfl]
  rfl
/-! ### rows of ports: sized, copied, compared -/
abbrev LP := S64
abbrev IP := S47
def convP (x : LP) : IP := ⟨x.f0, x.f1.map convM⟩
/-- Ports of which each row is short enough to be reckoned with. -/
def BP (x : IP) : Prop := x.f1.length ≤ 1048576 ∧ ∀ y ∈ x.f1, y.f3.length ≤ 1048576
def BL (l : List IP) : Prop := l.length ≤ 1048576 ∧ ∀ x ∈ l, BP x
theorem rdLP_at (l : List LP) (i : Nat) (h : i < l.length) : l[i]? = some (rd_T64 l (i : Int)) := by
  simp [rd_T64, List.getD_eq_getElem?_getD, List.getElem?_eq_getElem h]
theorem rdIP_at (l : List IP) (i : Nat) (h : i < l.length) : l[i]? = some (rd_T47 l (i : Int)) := by
  simp [rd_T47, List.getD_eq_getElem?_getD, List.getElem?_eq_getElem h]
theorem rdLP_mem (l : List LP) (i : Nat) (h : i < l.length) : rd_T64 l (i : Int) ∈ l := List.mem_of_getElem? (rdLP_at l i h)
theorem rdIP_mem (l : List IP) (i : Nat) (h : i < l.length) : rd_T47 l (i : Int) ∈ l := List.mem_of_getElem? (rdIP_at l i h)
theorem szPort_at (x : LP) (hl : x.f1.length ≤ maxLen) (hm : ∀ y ∈ x.f1, y.f3.length ≤ maxLen) (a : Int) (h0 : 0 ≤ a) (h1 : a ≤ 1048576) :
    ∃ r, Ev (fun k => laws_szPort.f k x.f0 x.f1 a) r ∧ (r = -1 ∨ (0 ≤ r ∧ r ≤ a ∧ x.f1.length ≤ 1048576 ∧ ∀ y ∈ x.f1, y.f3.length ≤ 1048576)) := by
  obtain ⟨r, h2, h3⟩ := szMailS_at x.f1 hl hm a h0 h1
  refine ⟨r, ev_bind (f := fun _ t => if t < 0 then some (-1) else some t) h2 (ev_some ?_), h3⟩
  rcases h3 with rfl | ⟨r0, _⟩
  · rfl
  · rw [if_neg (by omega)]
theorem szPortS_loop (l : List LP) (hl : l.length ≤ 1048576) (hm : ∀ x ∈ l, x.f1.length ≤ maxLen ∧ ∀ y ∈ x.f1, y.f3.length ≤ maxLen) : ∀ d (i : Nat) (a : Int), i + d = l.length → 0 ≤ a → a ≤ 1048576 →
    ∃ r, Ev (fun k => laws_szPortS.l0 k l a (i : Int)) r ∧ (r = -1 ∨ (0 ≤ r ∧ r ≤ a ∧ ∀ j : Nat, i ≤ j → j < l.length → (rd_T64 l (j : Int)).f1.length ≤ 1048576 ∧ ∀ y ∈ (rd_T64 l (j : Int)).f1, y.f3.length ≤ 1048576)) := by
  intro d
  induction d with
  | zero =>
    intro i a hi h0 h1
    refine ⟨a, ev_step (fun _ => some a) (fun k => ?_) (Ev.now a), .inr ⟨h0, Int.le_refl _, fun j j1 j2 => by omega⟩⟩
    rw [laws_szPortS.l0, if_neg (by omega)]
  | succ d ih =>
    intro i a hi h0 h1
    have hx := hm _ (rdLP_mem l i (by omega))
    obtain ⟨m, m1, m2⟩ := szPort_at _ hx.1 hx.2 a h0 h1
    have un : ∀ k, laws_szPortS.l0 (k + 1) l a (i : Int) = (laws_szPort.f k (rd_T64 l (i : Int)).f0 (rd_T64 l (i : Int)).f1 a).bind fun t => if t < 0 then some (-1) else laws_szPortS.l0 k l t ((i + 1 : Nat) : Int) := fun k => by
      rw [laws_szPortS.l0, if_pos (by omega), if_pos (by omega), wrap_id (n := (i : Int) + 1) (by omega) (by omega), show (i : Int) + 1 = ((i + 1 : Nat) : Int) by omega]
    rcases m2 with rfl | ⟨n0, n1, n2⟩
    · exact ⟨-1, ev_step _ un (ev_bind (f := fun k t => if t < 0 then some (-1) else laws_szPortS.l0 k l t ((i + 1 : Nat) : Int)) m1 ⟨0, fun k _ => rfl⟩), .inl rfl⟩
    · obtain ⟨r, h2, h3⟩ := ih (i + 1) m (by omega) n0 (by omega)
      refine ⟨r, ev_step _ un (ev_bind (f := fun k t => if t < 0 then some (-1) else laws_szPortS.l0 k l t ((i + 1 : Nat) : Int)) m1 (ev_eq _ (fun k => if_neg (by omega)) h2)), ?_⟩
      rcases h3 with h3 | ⟨r0, r1, r2⟩
      · exact .inl h3
      · refine .inr ⟨r0, by omega, fun j j1 j2 => ?_⟩
        by_cases hj : j = i
        · subst hj; exact n2
        · exact r2 j (by omega) j2
theorem szPortS_at (l : List LP) (hl : l.length ≤ maxLen) (hm : ∀ x ∈ l, x.f1.length ≤ maxLen ∧ ∀ y ∈ x.f1, y.f3.length ≤ maxLen) (a : Int) (h0 : 0 ≤ a) (h1 : a ≤ 1048576) :
    ∃ r, Ev (fun k => laws_szPortS.f k l a) r ∧ (r = -1 ∨ (0 ≤ r ∧ r ≤ a ∧ l.length ≤ 1048576 ∧ ∀ x ∈ l, x.f1.length ≤ 1048576 ∧ ∀ y ∈ x.f1, y.f3.length ≤ 1048576)) := by
  unfold maxLen at hl
  by_cases c : a < (l.length : Int)
  · refine ⟨-1, ⟨0, fun k _ => ?_⟩, .inl rfl⟩
    show laws_szPortS.f k l a = some (-1)
    unfold laws_szPortS.f
    rw [wrap_id (by omega) (by omega), if_pos (by omega)]
  · obtain ⟨r, h2, h3⟩ := szPortS_loop l (by omega) hm l.length 0 (a - (l.length : Int)) (by omega) (by omega) (by omega)
    refine ⟨r, ev_eq _ (fun k => ?_) h2, ?_⟩
    · unfold laws_szPortS.f
      rw [wrap_id (by omega) (by omega), if_neg (by omega)]
      rfl
    · rcases h3 with h3 | ⟨r0, r1, r2⟩
      · exact .inl h3
      · refine .inr ⟨r0, by omega, by omega, fun x hx => ?_⟩
        obtain ⟨j, hj, rfl⟩ := List.getElem_of_mem hx
        have e := rdLP_at l j hj
        rw [List.getElem?_eq_getElem hj] at e
        rw [Option.some.inj e]
        exact r2 j (Nat.zero_le _) hj
theorem toPort_ev (x : LP) (hl : x.f1.length ≤ 1048576) (hm : ∀ y ∈ x.f1, y.f3.length ≤ 1048576) : Ev (fun k => laws_toPort.f k x.f0 x.f1) (x.f0, x.f1.map convM) := ev_bind (f := fun _ t => some (x.f0, t)) (toMailS_ev x.f1 hl hm) (Ev.now _)
theorem convP_BL (l : List LP) (hl : l.length ≤ 1048576) (hm : ∀ x ∈ l, x.f1.length ≤ 1048576 ∧ ∀ y ∈ x.f1, y.f3.length ≤ 1048576) : BL (l.map convP) := by
  refine ⟨by simpa using hl, fun x hx => ?_⟩
  obtain ⟨a, ha, rfl⟩ := List.mem_map.1 hx
  refine ⟨by simpa [convP] using (hm a ha).1, fun y hy => ?_⟩
  obtain ⟨b, hb, rfl⟩ := List.mem_map.1 hy
  exact (hm a ha).2 b hb
theorem eqPort_ev (x : IP) (hx : BP x) : Ev (fun k => laws_eqPort.f k x.f0 x.f1 x.f0 x.f1) true := by
  refine ev_eq (fun k => (laws_eqMailS.f k x.f1 x.f1).bind fun t => if t = true then some true else some false) (fun k => ?_) (ev_bind (a := true) (f := fun _ t => if t = true then some true else some false) (eqMailS_ev x.f1 hx.1 hx.2) (ev_some rfl))
  unfold laws_eqPort.f
  rw [if_pos rfl]
theorem eqPortS_loop (l : List IP) (hl : BL l) : ∀ d (i : Nat), i + d = l.length → Ev (fun k => laws_eqPortS.l0 k l l (i : Int)) true := by
  have hl1 := hl.1
  intro d
  induction d with
  | zero =>
    intro i hi
    refine ev_step (fun _ => some true) (fun k => ?_) (Ev.now _)
    rw [laws_eqPortS.l0, if_neg (by omega)]
  | succ d ih =>
    intro i hi
    refine ev_step _ (fun k => ?_) (ev_bind (a := true) (f := fun k t => if t = true then laws_eqPortS.l0 k l l ((i + 1 : Nat) : Int) else some false) (eqPort_ev _ (hl.2 _ (rdIP_mem l i (by omega)))) (ev_eq _ (fun k => if_pos rfl) (ih (i + 1) (by omega))))
    rw [laws_eqPortS.l0, if_pos (by omega), if_pos (by omega), if_pos (by omega), wrap_id (n := (i : Int) + 1) (by omega) (by omega), show (i : Int) + 1 = ((i + 1 : Nat) : Int) by omega]
theorem eqPortS_ev (l : List IP) (hl : BL l) : Ev (fun k => laws_eqPortS.f k l l) true := by
  refine ev_eq _ (fun k => ?_) (eqPortS_loop l hl l.length 0 (by omega))
  unfold laws_eqPortS.f
  rw [if_pos rfl]
  rfl
/-! ### are they ports? -/
theorem mailOk_same (x : IM) : ∃ t, spec_MailOk.f x.f0 x.f1 x.f2 x.f3 = some t ∧ impl_MailOk.f x.f0 x.f1 x.f2 x.f3 = some t := by
  simp only [spec_MailOk.f, impl_MailOk.f, impl_word.f, impl_portOk.f, inAll, inAll', Option.bind_some]
  repeat' split
  all_goals first | exact ⟨_, rfl, rfl⟩ | simp_all
theorem portsRow_same (L : List IP) (hl : L.length ≤ 1048576) (p : Nat) (hp : p < L.length) (hr : (rd_T47 L (p : Int)).f1.length ≤ 1048576) (r : Bool) (hn : Ev (fun k => spec_PortsOk.l0 k L ((p + 1 : Nat) : Int)) r) : ∀ d (i : Nat), i + d = (rd_T47 L (p : Int)).f1.length →
    ∃ u, impl_PortsOk.row (rd_T47 L (p : Int)).f0 ((rd_T47 L (p : Int)).f1.drop i) = some u ∧ Ev (fun k => spec_PortsOk.l1 k L (p : Int) (i : Int)) (if u = true then false else r) := by
  intro d
  induction d with
  | zero =>
    intro i hi
    refine ⟨false, by rw [List.drop_eq_nil_of_le (by omega)]; rfl, ev_step _ (fun k => ?_) hn⟩
    rw [spec_PortsOk.l1, if_pos (by omega), if_pos (by omega), if_neg (by omega), wrap_id (n := (p : Int) + 1) (by omega) (by omega), show (p : Int) + 1 = ((p + 1 : Nat) : Int) by omega]
  | succ d ih =>
    intro i hi
    obtain ⟨u, u1, u2⟩ := ih (i + 1) (by omega)
    obtain ⟨t, t1, t2⟩ := mailOk_same (rd_T40 (rd_T47 L (p : Int)).f1 (i : Int))
    have hs := impl_PortsOk.row_step (rd_T47 L (p : Int)).f0 (rd_T47 L (p : Int)).f1 i (by omega)
    rw [impl_PortsOk.bad, t2, Option.bind_some, Option.bind_some] at hs
    have un : ∀ k, spec_PortsOk.l1 (k + 1) L (p : Int) (i : Int) = if t = true then (if (rd_T40 (rd_T47 L (p : Int)).f1 (i : Int)).f2 = (rd_T47 L (p : Int)).f0 then spec_PortsOk.l1 k L (p : Int) ((i + 1 : Nat) : Int) else some false) else some false := fun k => by
      rw [spec_PortsOk.l1, if_pos (by omega), if_pos (by omega), if_pos (by omega), if_pos (by omega), t1, Option.bind_some, wrap_id (n := (i : Int) + 1) (by omega) (by omega), show (i : Int) + 1 = ((i + 1 : Nat) : Int) by omega]
    cases t with
    | false => exact ⟨true, by rw [hs]; rfl, ev_step _ un ⟨0, fun k _ => rfl⟩⟩
    | true =>
      by_cases hN : (rd_T40 (rd_T47 L (p : Int)).f1 (i : Int)).f2 = (rd_T47 L (p : Int)).f0
      · refine ⟨u, by rw [hs, if_neg (by simp [hN]), u1], ev_step _ un (ev_eq _ (fun k => ?_) u2)⟩
        rw [if_pos rfl, if_pos hN]
      · exact ⟨true, by rw [hs, if_pos (by simp [hN])], ev_step _ un ⟨0, fun k _ => by show (if true = true then _ else _) = _; rw [if_pos rfl, if_neg hN]; rfl⟩⟩
theorem portsOk_from (L : List IP) (hl : BL L) : ∀ d (p : Nat), p + d = L.length → ∃ t, impl_PortsOk.at_ L d p = some t ∧ Ev (fun k => spec_PortsOk.l0 k L (p : Int)) t := by
  have hl1 := hl.1
  intro d
  induction d with
  | zero =>
    intro p hp
    refine ⟨_, rfl, ev_step (fun _ => some (decide (L.length ≤ 4))) (fun k => ?_) (Ev.now _)⟩
    rw [spec_PortsOk.l0, if_neg (by omega)]
    congr 1
    simp only [decide_eq_decide]
    omega
  | succ d ih =>
    intro p hp
    obtain ⟨r, r1, r2⟩ := ih (p + 1) (by omega)
    have hb := (hl.2 _ (rdIP_mem L p (by omega))).1
    obtain ⟨u, u1, u2⟩ := portsRow_same L hl1 p (by omega) hb r r2 (rd_T47 L (p : Int)).f1.length 0 (by omega)
    rw [List.drop_zero] at u1
    have un : ∀ k, spec_PortsOk.l0 (k + 1) L (p : Int) = if (1 ≤ (rd_T47 L (p : Int)).f0 ∧ (rd_T47 L (p : Int)).f0 ≤ 255) then (if (p : Int) > 0 then (if (rd_T47 L ((p : Int) - 1)).f0 ≥ (rd_T47 L (p : Int)).f0 then spec_PortsOk.j1 k L (p : Int) true else spec_PortsOk.j1 k L (p : Int) (decide (((rd_T47 L (p : Int)).f1.length : Int) > 3))) else spec_PortsOk.j1 k L (p : Int) (decide (((rd_T47 L (p : Int)).f1.length : Int) > 3))) else spec_PortsOk.j1 k L (p : Int) true := fun k => by
      rw [spec_PortsOk.l0, if_pos (by omega), if_pos (by omega), inAll, Option.bind_some]
      by_cases c1 : 1 ≤ (rd_T47 L (p : Int)).f0 ∧ (rd_T47 L (p : Int)).f0 ≤ 255
      · rw [decide_eq_true c1, if_pos rfl, if_pos c1]
        by_cases c2 : (p : Int) > 0
        · rw [if_pos c2, if_pos c2, wrap_id (n := (p : Int) - 1) (by omega) (by omega), if_pos (by omega), if_pos (by omega)]
        · rw [if_neg c2, if_neg c2]
      · rw [decide_eq_false c1, if_neg (by simp), if_neg c1]
    have jt : ∀ k, spec_PortsOk.j1 (k + 1) L (p : Int) true = some false := fun k => by rw [spec_PortsOk.j1, if_pos rfl]
    have jf : ∀ k, spec_PortsOk.j1 (k + 1) L (p : Int) false = spec_PortsOk.l1 k L (p : Int) ((0 : Nat) : Int) := fun k => by rw [spec_PortsOk.j1, if_neg (by simp)]; rfl
    have ejt : Ev (fun k => spec_PortsOk.j1 k L (p : Int) true) false := ev_step _ jt (Ev.now _)
    have ejf : Ev (fun k => spec_PortsOk.j1 k L (p : Int) false) (if u = true then false else r) := ev_step _ jf u2
    have ejl : (3 < (rd_T47 L (p : Int)).f1.length → Ev (fun k => spec_PortsOk.j1 k L (p : Int) (decide (((rd_T47 L (p : Int)).f1.length : Int) > 3))) false) := fun h => by rw [decide_eq_true (show ((rd_T47 L (p : Int)).f1.length : Int) > 3 by omega)]; exact ejt
    have ejl' : (¬ 3 < (rd_T47 L (p : Int)).f1.length → Ev (fun k => spec_PortsOk.j1 k L (p : Int) (decide (((rd_T47 L (p : Int)).f1.length : Int) > 3))) (if u = true then false else r)) := fun h => by rw [decide_eq_false (show ¬ ((rd_T47 L (p : Int)).f1.length : Int) > 3 by omega)]; exact ejf
    have hrow : ((impl_PortsOk.row (rd_T47 L (p : Int)).f0 (rd_T47 L (p : Int)).f1).bind fun t => if t = true then some false else impl_PortsOk.at_ L d (p + 1)) = some (if u = true then false else r) := by
      rw [u1, Option.bind_some, r1]
      cases u <;> rfl
    rw [impl_PortsOk.at_]
    by_cases c1 : 1 ≤ (rd_T47 L (p : Int)).f0 ∧ (rd_T47 L (p : Int)).f0 ≤ 255
    · have n1 : ¬ impl_PortsOk.num (rd_T47 L (p : Int)).f0 = false := by simp [impl_PortsOk.num, c1.1, c1.2]
      rw [if_neg n1]
      by_cases c2 : 0 < p
      · by_cases c3 : (rd_T47 L ((p : Int) - 1)).f0 ≥ (rd_T47 L (p : Int)).f0
        · rw [if_pos ⟨c2, c3⟩]
          exact ⟨_, rfl, ev_step _ un (ev_eq _ (fun k => by rw [if_pos c1, if_pos (by omega), if_pos c3]) ejt)⟩
        · rw [if_neg (fun h => c3 h.2)]
          by_cases c4 : 3 < (rd_T47 L (p : Int)).f1.length
          · rw [if_pos c4]
            exact ⟨_, rfl, ev_step _ un (ev_eq _ (fun k => by rw [if_pos c1, if_pos (by omega), if_neg c3]) (ejl c4))⟩
          · rw [if_neg c4, hrow]
            exact ⟨_, rfl, ev_step _ un (ev_eq _ (fun k => by rw [if_pos c1, if_pos (by omega), if_neg c3]) (ejl' c4))⟩
      · rw [if_neg (fun h => c2 h.1)]
        by_cases c4 : 3 < (rd_T47 L (p : Int)).f1.length
        · rw [if_pos c4]
          exact ⟨_, rfl, ev_step _ un (ev_eq _ (fun k => by rw [if_pos c1, if_neg (by omega)]) (ejl c4))⟩
        · rw [if_neg c4, hrow]
          exact ⟨_, rfl, ev_step _ un (ev_eq _ (fun k => by rw [if_pos c1, if_neg (by omega)]) (ejl' c4))⟩
    · have n1 : impl_PortsOk.num (rd_T47 L (p : Int)).f0 = false := by
        simp only [impl_PortsOk.num, Bool.and_eq_false_iff, decide_eq_false_iff_not]
        omega
      rw [if_pos n1]
      exact ⟨_, rfl, ev_step _ un (ev_eq _ (fun k => by rw [if_neg c1]) ejt)⟩
theorem portsOk_same (L : List IP) (hl : BL L) : ∃ t, impl_PortsOk.f L = some t ∧ Ev (fun k => spec_PortsOk.f k L) t := portsOk_from L hl L.length 0 (by omega)
/-! ### sizes, and what they come to in all -/
def sumB (l : List LM) : Nat := (l.map fun x => x.f3.length).sum
def sumP (l : List LP) : Nat := (l.map fun x => x.f1.length + sumB x.f1).sum
theorem sumB_cons (x : LM) (l : List LM) : sumB (x :: l) = x.f3.length + sumB l := by simp [sumB]
theorem sumP_cons (x : LP) (l : List LP) : sumP (x :: l) = x.f1.length + sumB x.f1 + sumP l := by simp [sumP]
theorem rdLM_drop (l : List LM) (i : Nat) (h : i < l.length) : l.drop i = rd_T105 l (i : Int) :: l.drop (i + 1) := by
  have e := rdLM_at l i h
  rw [List.getElem?_eq_getElem h] at e
  rw [List.drop_eq_getElem_cons h, Option.some.inj e]
theorem rdLP_drop (l : List LP) (i : Nat) (h : i < l.length) : l.drop i = rd_T64 l (i : Int) :: l.drop (i + 1) := by
  have e := rdLP_at l i h
  rw [List.getElem?_eq_getElem h] at e
  rw [List.drop_eq_getElem_cons h, Option.some.inj e]
theorem szMailS_sum_loop (l : List LM) (hl : l.length ≤ 1048576) (hm : ∀ x ∈ l, x.f3.length ≤ maxLen) : ∀ d (i : Nat) (a : Int), i + d = l.length → 0 ≤ a → a ≤ 1048576 →
    ∃ r, Ev (fun k => laws_szMailS.l0 k l a (i : Int)) r ∧ (r = -1 ∨ (0 ≤ r ∧ r + sumB (l.drop i) ≤ a)) := by
  intro d
  induction d with
  | zero =>
    intro i a hi h0 h1
    refine ⟨a, ev_step (fun _ => some a) (fun k => ?_) (Ev.now a), .inr ⟨h0, ?_⟩⟩
    · rw [laws_szMailS.l0, if_neg (by omega)]
    · rw [List.drop_eq_nil_of_le (by omega)]
      simp [sumB]
  | succ d ih =>
    intro i a hi h0 h1
    have hx := hm _ (rdLM_mem l i (by omega))
    by_cases c : a < ((rd_T105 l (i : Int)).f3.length : Int)
    · refine ⟨-1, ev_step (fun _ => some (-1)) (fun k => ?_) (Ev.now _), .inl rfl⟩
      rw [laws_szMailS.l0, if_pos (by omega), if_pos (by omega), szMail_at _ _ _ _ _ hx h0 h1, Option.bind_some, if_pos c, if_pos (by omega)]
    · obtain ⟨r, h2, h3⟩ := ih (i + 1) (a - ((rd_T105 l (i : Int)).f3.length : Int)) (by omega) (by omega) (by omega)
      refine ⟨r, ev_step _ (fun k => ?_) h2, ?_⟩
      · rw [laws_szMailS.l0, if_pos (by omega), if_pos (by omega), szMail_at _ _ _ _ _ hx h0 h1, Option.bind_some, if_neg c, if_neg (by omega), wrap_id (n := (i : Int) + 1) (by omega) (by omega), show (i : Int) + 1 = ((i + 1 : Nat) : Int) by omega]
      · rcases h3 with h3 | ⟨r0, r1⟩
        · exact .inl h3
        · refine .inr ⟨r0, ?_⟩
          rw [rdLM_drop l i (by omega), sumB_cons]
          omega
theorem szMailS_sum (l : List LM) (hl : l.length ≤ maxLen) (hm : ∀ x ∈ l, x.f3.length ≤ maxLen) (a : Int) (h0 : 0 ≤ a) (h1 : a ≤ 1048576) :
    ∃ r, Ev (fun k => laws_szMailS.f k l a) r ∧ (r = -1 ∨ (0 ≤ r ∧ r + l.length + sumB l ≤ a)) := by
  unfold maxLen at hl
  by_cases c : a < (l.length : Int)
  · refine ⟨-1, ⟨0, fun k _ => ?_⟩, .inl rfl⟩
    show laws_szMailS.f k l a = some (-1)
    unfold laws_szMailS.f
    rw [wrap_id (by omega) (by omega), if_pos (by omega)]
  · obtain ⟨r, h2, h3⟩ := szMailS_sum_loop l (by omega) hm l.length 0 (a - (l.length : Int)) (by omega) (by omega) (by omega)
    refine ⟨r, ev_eq _ (fun k => ?_) h2, ?_⟩
    · unfold laws_szMailS.f
      rw [wrap_id (by omega) (by omega), if_neg (by omega)]
      rfl
    · rcases h3 with h3 | ⟨r0, r1⟩
      · exact .inl h3
      · rw [List.drop_zero] at r1
        exact .inr ⟨r0, by omega⟩
theorem szPort_sum (x : LP) (hl : x.f1.length ≤ maxLen) (hm : ∀ y ∈ x.f1, y.f3.length ≤ maxLen) (a : Int) (h0 : 0 ≤ a) (h1 : a ≤ 1048576) :
    ∃ r, Ev (fun k => laws_szPort.f k x.f0 x.f1 a) r ∧ (r = -1 ∨ (0 ≤ r ∧ r + x.f1.length + sumB x.f1 ≤ a)) := by
  obtain ⟨r, h2, h3⟩ := szMailS_sum x.f1 hl hm a h0 h1
  refine ⟨r, ev_bind (f := fun _ t => if t < 0 then some (-1) else some t) h2 (ev_some ?_), h3⟩
  rcases h3 with rfl | ⟨r0, _⟩
  · rfl
  · rw [if_neg (by omega)]
theorem szPortS_sum_loop (l : List LP) (hl : l.length ≤ 1048576) (hm : ∀ x ∈ l, x.f1.length ≤ maxLen ∧ ∀ y ∈ x.f1, y.f3.length ≤ maxLen) : ∀ d (i : Nat) (a : Int), i + d = l.length → 0 ≤ a → a ≤ 1048576 →
    ∃ r, Ev (fun k => laws_szPortS.l0 k l a (i : Int)) r ∧ (r = -1 ∨ (0 ≤ r ∧ r + sumP (l.drop i) ≤ a)) := by
  intro d
  induction d with
  | zero =>
    intro i a hi h0 h1
    refine ⟨a, ev_step (fun _ => some a) (fun k => ?_) (Ev.now a), .inr ⟨h0, ?_⟩⟩
    · rw [laws_szPortS.l0, if_neg (by omega)]
    · rw [List.drop_eq_nil_of_le (by omega)]
      simp [sumP]
  | succ d ih =>
    intro i a hi h0 h1
    have hx := hm _ (rdLP_mem l i (by omega))
    obtain ⟨m, m1, m2⟩ := szPort_sum _ hx.1 hx.2 a h0 h1
    have un : ∀ k, laws_szPortS.l0 (k + 1) l a (i : Int) = (laws_szPort.f k (rd_T64 l (i : Int)).f0 (rd_T64 l (i : Int)).f1 a).bind fun t => if t < 0 then some (-1) else laws_szPortS.l0 k l t ((i + 1 : Nat) : Int) := fun k => by
      rw [laws_szPortS.l0, if_pos (by omega), if_pos (by omega), wrap_id (n := (i : Int) + 1) (by omega) (by omega), show (i : Int) + 1 = ((i + 1 : Nat) : Int) by omega]
    rcases m2 with rfl | ⟨n0, n1⟩
    · exact ⟨-1, ev_step _ un (ev_bind (f := fun k t => if t < 0 then some (-1) else laws_szPortS.l0 k l t ((i + 1 : Nat) : Int)) m1 ⟨0, fun k _ => rfl⟩), .inl rfl⟩
    · obtain ⟨r, h2, h3⟩ := ih (i + 1) m (by omega) n0 (by omega)
      refine ⟨r, ev_step _ un (ev_bind (f := fun k t => if t < 0 then some (-1) else laws_szPortS.l0 k l t ((i + 1 : Nat) : Int)) m1 (ev_eq _ (fun k => if_neg (by omega)) h2)), ?_⟩
      rcases h3 with h3 | ⟨r0, r1⟩
      · exact .inl h3
      · refine .inr ⟨r0, ?_⟩
        rw [rdLP_drop l i (by omega), sumP_cons]
        omega
theorem sumB_mem {l : List LM} {x : LM} (h : x ∈ l) : x.f3.length ≤ sumB l := by
  induction l with
  | nil => cases h
  | cons y l ih =>
    rw [sumB_cons]
    rcases List.mem_cons.1 h with rfl | h
    · omega
    · have := ih h; omega
theorem sumP_mem {l : List LP} {x : LP} (h : x ∈ l) : x.f1.length + sumB x.f1 ≤ sumP l := by
  induction l with
  | nil => cases h
  | cons y l ih =>
    rw [sumP_cons]
    rcases List.mem_cons.1 h with rfl | h
    · omega
    · have := ih h; omega
theorem szPortS_sum (l : List LP) (hl : l.length ≤ maxLen) (hm : ∀ x ∈ l, x.f1.length ≤ maxLen ∧ ∀ y ∈ x.f1, y.f3.length ≤ maxLen) (a : Int) (h0 : 0 ≤ a) (h1 : a ≤ 1048576) :
    ∃ r, Ev (fun k => laws_szPortS.f k l a) r ∧ (r = -1 ∨ (0 ≤ r ∧ r + l.length + sumP l ≤ a)) := by
  unfold maxLen at hl
  by_cases c : a < (l.length : Int)
  · refine ⟨-1, ⟨0, fun k _ => ?_⟩, .inl rfl⟩
    show laws_szPortS.f k l a = some (-1)
    unfold laws_szPortS.f
    rw [wrap_id (by omega) (by omega), if_pos (by omega)]
  · obtain ⟨r, h2, h3⟩ := szPortS_sum_loop l (by omega) hm l.length 0 (a - (l.length : Int)) (by omega) (by omega) (by omega)
    refine ⟨r, ev_eq _ (fun k => ?_) h2, ?_⟩
    · unfold laws_szPortS.f
      rw [wrap_id (by omega) (by omega), if_neg (by omega)]
      rfl
    · rcases h3 with h3 | ⟨r0, r1⟩
      · exact .inl h3
      · rw [List.drop_zero] at r1
        exact .inr ⟨r0, by omega⟩
theorem totM_conv (l : List LM) : totM (l.map convM_) = 3 * l.length + sumB l := by
  induction l with
  | nil => simp [totM, sumB]
  | cons x l ih =>
    have : totM ((x :: l).map convM_) = 3 + x.f3.length + totM (l.map convM_) := by simp [totM, convM_]
    rw [this, ih, sumB_cons, List.length_cons]
    omega
theorem totP_conv (l : List LP) : totP (l.map convP_) ≤ l.length + 3 * sumP l := by
  induction l with
  | nil => simp [totP, sumP]
  | cons x l ih =>
    have : totP ((x :: l).map convP_) = 1 + totM (x.f1.map convM_) + totP (l.map convP_) := by simp [totP, convP_]
    rw [this, sumP_cons, List.length_cons, totM_conv]
    omega
theorem ev_mem {α β : Type} (l : List α) (g : Nat → α → Option β) (v : α → β) (h : ∀ x ∈ l, Ev (fun k => g k x) (v x)) : ∃ K, ∀ k, K ≤ k → ∀ x ∈ l, g k x = some (v x) := by
  induction l with
  | nil => exact ⟨0, fun _ _ x hx => by cases hx⟩
  | cons y l ih =>
    obtain ⟨K1, h1⟩ := ih (fun x hx => h x (List.mem_cons_of_mem _ hx))
    obtain ⟨K2, h2⟩ := h y List.mem_cons_self
    refine ⟨K1 + K2, fun k hk x hx => ?_⟩
    rcases List.mem_cons.1 hx with rfl | hx
    · exact h2 k (by omega)
    · exact h1 k (by omega) x hx
/-! ### marks that are held -/
theorem heldB_loop (m : Int) (n : Nat) (hm : 0 ≤ m) (hb : m + n ≤ 1000000000) (r : List Int) (hl : r.length = n) (hp : heldB m r) (k : Nat) (hk : n < k) : laws_heldByteS.f k r m = some (m + n) := by
  have := held_loop m n hm hb r hl (fun j hj => hp j (by omega)) n k 0 (by omega) hk
  rw [show m + ((0 : Nat) : Int) = m by omega] at this
  exact this
theorem rdIM_drop (l : List IM) (i : Nat) (h : i < l.length) : l.drop i = rd_T40 l (i : Int) :: l.drop (i + 1) := by
  have e := rdIM_at l i h
  rw [List.getElem?_eq_getElem h] at e
  rw [List.drop_eq_getElem_cons h, Option.some.inj e]
theorem rdIP_drop (l : List IP) (i : Nat) (h : i < l.length) : l.drop i = rd_T47 l (i : Int) :: l.drop (i + 1) := by
  have e := rdIP_at l i h
  rw [List.getElem?_eq_getElem h] at e
  rw [List.drop_eq_getElem_cons h, Option.some.inj e]
theorem heldM_le {k k' : Int} {l : List IM} (h : heldM k l k') : k + 3 * l.length ≤ k' ∧ ∀ x ∈ l, k + x.f3.length ≤ k' := by
  induction l generalizing k with
  | nil =>
    have h : k = k' := h
    exact ⟨by simp; omega, fun x hx => by cases hx⟩
  | cons y l ih =>
    obtain ⟨_, _, _, _, h5⟩ := h
    obtain ⟨a, b⟩ := ih h5
    refine ⟨by rw [List.length_cons]; omega, fun x hx => ?_⟩
    rcases List.mem_cons.1 hx with rfl | hx
    · omega
    · have := b x hx; omega
theorem heldP_le {k k' : Int} {l : List IP} (h : heldP k l k') : k + l.length ≤ k' := by
  induction l generalizing k with
  | nil =>
    have h : k = k' := h
    simp
    omega
  | cons y l ih =>
    obtain ⟨_, k1, h2, h3⟩ := h
    have a := (heldM_le h2).1
    have b := ih h3
    rw [List.length_cons]
    omega
theorem heldMailS_loop (l : List IM) (t : Int) (ht : t ≤ 1000000000) (hl : l.length ≤ 1000000000) : ∀ d k (i : Nat) (m : Int), i + d = l.length → 0 ≤ m → heldM m (l.drop i) t → t.toNat + d < k → laws_heldMailS.l0 k l m (i : Int) = some t := by
  intro d
  induction d with
  | zero =>
    intro k i m hi hm h hk
    obtain ⟨k, rfl⟩ : ∃ q, k = q + 1 := ⟨k - 1, by omega⟩
    rw [List.drop_eq_nil_of_le (by omega)] at h
    have h : m = t := h
    rw [laws_heldMailS.l0, if_neg (by omega), h]
  | succ d ih =>
    intro k i m hi hm h hk
    obtain ⟨k, rfl⟩ : ∃ q, k = q + 1 := ⟨k - 1, by omega⟩
    rw [rdIM_drop l i (by omega)] at h
    obtain ⟨h1, h2, h3, h4, h5⟩ := h
    have hle := (heldM_le h5).1
    have e := heldB_loop (m + 3) _ (by omega) (by omega) _ rfl h4 k (by omega)
    rw [laws_heldMailS.l0, if_pos (by omega), if_pos (by omega), if_pos h1, wrap_id (n := m + 1) (by omega) (by omega), if_pos h2, wrap_id (n := m + 1 + 1) (by omega) (by omega), if_pos (by omega), wrap_id (n := m + 1 + 1 + 1) (by omega) (by omega), show m + 1 + 1 + 1 = m + 3 by omega, e, Option.bind_some, if_neg (by omega), wrap_id (n := (i : Int) + 1) (by omega) (by omega), show (i : Int) + 1 = ((i + 1 : Nat) : Int) by omega]
    exact ih k (i + 1) _ (by omega) (by omega) h5 (by omega)
theorem heldPortS_loop (l : List IP) (t : Int) (ht : t ≤ 1000000000) (hl : l.length ≤ 1000000000) : ∀ d k (i : Nat) (m : Int), i + d = l.length → 0 ≤ m → heldP m (l.drop i) t → 3 * t.toNat + d < k → laws_heldPortS.l0 k l m (i : Int) = some t := by
  intro d
  induction d with
  | zero =>
    intro k i m hi hm h hk
    obtain ⟨k, rfl⟩ : ∃ q, k = q + 1 := ⟨k - 1, by omega⟩
    rw [List.drop_eq_nil_of_le (by omega)] at h
    have h : m = t := h
    rw [laws_heldPortS.l0, if_neg (by omega), h]
  | succ d ih =>
    intro k i m hi hm h hk
    obtain ⟨k, rfl⟩ : ∃ q, k = q + 1 := ⟨k - 1, by omega⟩
    rw [rdIP_drop l i (by omega)] at h
    obtain ⟨h1, k1, h2, h3⟩ := h
    have hle := (heldM_le h2).1
    have hle2 := heldP_le h3
    have e := heldMailS_loop (rd_T47 l (i : Int)).f1 k1 (by omega) (by omega) (rd_T47 l (i : Int)).f1.length k 0 (m + 1) (by omega) (by omega) (by rw [List.drop_zero]; exact h2) (by omega)
    rw [laws_heldPortS.l0, if_pos (by omega), if_pos (by omega), if_pos h1, wrap_id (n := m + 1) (by omega) (by omega), show laws_heldMailS.f k (rd_T47 l (i : Int)).f1 (m + 1) = some k1 from e, Option.bind_some, if_neg (by omega), wrap_id (n := (i : Int) + 1) (by omega) (by omega), show (i : Int) + 1 = ((i + 1 : Nat) : Int) by omega]
    exact ih k (i + 1) _ (by omega) (by omega) h3 (by omega)
theorem heldPortS_at (l : List IP) (t : Int) (ht : t ≤ 1000000000) (h : heldP 1 l t) (k : Nat) (hk : 4 * t.toNat < k) : laws_heldPortS.f k l 1 = some t := by
  have hle := heldP_le h
  exact heldPortS_loop l t ht (by omega) l.length k 0 1 (by omega) (by omega) (by rw [List.drop_zero]; exact h) (by omega)
theorem markB_at (D : List Int) (m : Int) (hm : 0 ≤ m) (hb : m + D.length ≤ 1000000000) (k : Nat) (hk : D.length < k) : ∃ r, laws_markByteS.f k D m = some (m + D.length, r) ∧ r.length = D.length ∧ heldB m r := by
  obtain ⟨r, h1, h2, h3⟩ := mark_loop m D.length hm hb D.length k 0 D (by omega) hk rfl (fun j hj => by omega)
  rw [show m + ((0 : Nat) : Int) = m by omega] at h1
  exact ⟨r, h1, h2, fun j hj => h3 j (by omega)⟩
/-! ### what ports are -/
theorem mailOk_len {x : IM} (h : impl_MailOk.f x.f0 x.f1 x.f2 x.f3 = some true) : x.f3.length ≤ 40 := by
  simp only [impl_MailOk.f, impl_word.f, impl_portOk.f, inAll', Option.bind_some] at h
  by_cases c : ((x.f3.length : Int)) ≤ 40
  · omega
  · exfalso
    revert h
    repeat' split
    all_goals simp_all
theorem portsRow_small (N : Int) (L : List IM) (h : impl_PortsOk.row N L = some false) : ∀ m ∈ L, m.f3.length ≤ 40 := by
  induction L with
  | nil => intro m hm; cases hm
  | cons y L ih =>
    rw [impl_PortsOk.row] at h
    obtain ⟨t, h1, h2⟩ := Option.bind_eq_some_iff.mp h
    cases t with
    | true => simp at h2
    | false =>
      have h2 : impl_PortsOk.row N L = some false := by simpa using h2
      intro m hm
      rcases List.mem_cons.1 hm with rfl | hm
      · obtain ⟨u, h3, h4⟩ := Option.bind_eq_some_iff.mp h1
        have hu : u = true := by
          cases u with
          | true => rfl
          | false => simp at h4
        subst hu
        exact mailOk_len h3
      · exact ih h2 m hm
theorem portsAt_facts (l : List IP) : ∀ d i : Nat, i + d = l.length → impl_PortsOk.at_ l d i = some true → l.length ≤ 4 ∧ (∀ x : Nat, i ≤ x → x < l.length → (rd_T47 l (x : Int)).f1.length ≤ 3 ∧ (∀ m ∈ (rd_T47 l (x : Int)).f1, m.f3.length ≤ 40) ∧ (0 < x → (rd_T47 l ((x : Int) - 1)).f0 < (rd_T47 l (x : Int)).f0)) := by
  intro d
  induction d with
  | zero =>
    intro i hi h
    rw [impl_PortsOk.at_] at h
    exact ⟨by simpa using h, fun x h1 h2 => by omega⟩
  | succ d ih =>
    intro i hi h
    rw [impl_PortsOk.at_] at h
    by_cases c1 : impl_PortsOk.num (rd_T47 l (i : Int)).f0 = false
    · rw [if_pos c1] at h; cases h
    rw [if_neg c1] at h
    by_cases c2 : 0 < i ∧ (rd_T47 l ((i : Int) - 1)).f0 ≥ (rd_T47 l (i : Int)).f0
    · rw [if_pos c2] at h; cases h
    rw [if_neg c2] at h
    by_cases c3 : 3 < (rd_T47 l (i : Int)).f1.length
    · rw [if_pos c3] at h; cases h
    rw [if_neg c3] at h
    obtain ⟨t, h1, h2⟩ := Option.bind_eq_some_iff.mp h
    cases t with
    | true => simp at h2
    | false =>
      have h2 : impl_PortsOk.at_ l d (i + 1) = some true := by simpa using h2
      obtain ⟨h3, h4⟩ := ih (i + 1) (by omega) h2
      refine ⟨h3, fun x h5 h6 => ?_⟩
      by_cases hx : x = i
      · subst hx
        exact ⟨by omega, portsRow_small _ _ h1, fun h0 => by
          have := fun h => c2 ⟨h0, h⟩
          omega⟩
      · exact h4 x (by omega) h6
theorem portsOk_facts (l : List IP) (h : impl_PortsOk.f l = some true) : l.length ≤ 4 ∧ (∀ p ∈ l, p.f1.length ≤ 3 ∧ ∀ m ∈ p.f1, m.f3.length ≤ 40) ∧ up47 l := by
  obtain ⟨h1, h2⟩ := portsAt_facts l l.length 0 (by omega) h
  refine ⟨h1, fun p hp => ?_, fun i j hij => ?_⟩
  · obtain ⟨x, hx, rfl⟩ := List.getElem_of_mem hp
    have e := rdIP_at l x hx
    rw [List.getElem?_eq_getElem hx] at e
    rw [Option.some.inj e]
    obtain ⟨a, b, _⟩ := h2 x (Nat.zero_le _) hx
    exact ⟨a, b⟩
  · induction j with
    | zero => omega
    | succ j ih =>
      intro hj
      obtain ⟨_, _, h3⟩ := h2 (j + 1) (Nat.zero_le _) hj
      have h4 := h3 (by omega)
      rw [show ((j + 1 : Nat) : Int) - 1 = (j : Int) by omega] at h4
      by_cases hij2 : i = j
      · subst hij2; exact h4
      · have := ih (by omega) (by omega)
        omega
theorem portsOk_small (l : List IP) (h : impl_PortsOk.f l = some true) : small47 l ∧ up47 l := by
  obtain ⟨h1, h2, h3⟩ := portsOk_facts l h
  exact ⟨⟨by omega, fun p hp => ⟨by have := (h2 p hp).1; omega, fun m hm => by have := (h2 p hp).2 m hm; omega⟩⟩, h3⟩
/-! ### the place of a port -/
/-- The place of a port, or -1. -/
def atI (L : List IP) (a : Int) : Int := if L.findIdx (fun p => p.f0 == a) < L.length then (L.findIdx (fun p => p.f0 == a) : Int) else -1
theorem findIdx_drop (L : List IP) (a : Int) (i : Nat) (h : ∀ j : Nat, j < i → j < L.length → (rd_T47 L (j : Int)).f0 ≠ a) (hi : i < L.length) (he : (rd_T47 L (i : Int)).f0 = a) : L.findIdx (fun p => p.f0 == a) = i := by
  rw [List.findIdx_eq hi]
  have e : ∀ x : Nat, (hx : x < L.length) → rd_T47 L (x : Int) = L[x] := fun x hx => by
    have e := rdIP_at L x hx
    rw [List.getElem?_eq_getElem hx] at e
    exact (Option.some.inj e).symm
  refine ⟨by rw [← e i hi, he]; simp, fun j hj => ?_⟩
  have := h j hj (by omega)
  rw [e j (by omega)] at this
  simpa using this
theorem l9At_from (L : List IP) (hl : L.length ≤ 1048576) (a : Int) : ∀ d (i : Nat), i + d = L.length → (∀ j : Nat, j < i → j < L.length → (rd_T47 L (j : Int)).f0 ≠ a) → Ev (fun k => spec_l9At.l0 k L a (i : Int)) (atI L a) := by
  intro d
  induction d with
  | zero =>
    intro i hi h
    have hn : ¬ L.findIdx (fun p => p.f0 == a) < L.length := by
      intro hlt
      have h1 := List.findIdx_getElem (w := hlt)
      have e := rdIP_at L _ hlt
      rw [List.getElem?_eq_getElem hlt] at e
      rw [Option.some.inj e] at h1
      exact h _ (by omega) hlt (by simpa using h1)
    refine ev_step (fun _ => some (-1)) (fun k => ?_) ?_
    · rw [spec_l9At.l0, if_neg (by omega)]
    · unfold atI
      rw [if_neg hn]
      exact Ev.now _
  | succ d ih =>
    intro i hi h
    by_cases c : (rd_T47 L (i : Int)).f0 = a
    · have hf := findIdx_drop L a i h (by omega) c
      refine ev_step (fun _ => some (i : Int)) (fun k => ?_) ?_
      · rw [spec_l9At.l0, if_pos (by omega), if_pos (by omega), if_pos c]
      · unfold atI
        rw [hf, if_pos (by omega)]
        exact Ev.now _
    · refine ev_step _ (fun k => ?_) (ih (i + 1) (by omega) (fun j h1 h2 => ?_))
      · rw [spec_l9At.l0, if_pos (by omega), if_pos (by omega), if_neg c, wrap_id (n := (i : Int) + 1) (by omega) (by omega), show (i : Int) + 1 = ((i + 1 : Nat) : Int) by omega]
      · by_cases hj : j = i
        · subst hj; exact c
        · exact h j (by omega) h2
theorem l9At_ev (L : List IP) (hl : L.length ≤ 1048576) (a : Int) : Ev (fun k => spec_l9At.f k L a) (atI L a) := l9At_from L hl a L.length 0 (by omega) (fun j h => by omega)
theorem totM_le (l : List IM) (h : ∀ m ∈ l, m.f3.length ≤ 40) : totM l ≤ 43 * l.length := by
  induction l with
  | nil => simp [totM]
  | cons x l ih =>
    have e : totM (x :: l) = 3 + x.f3.length + totM l := by simp [totM]
    have h1 := h x List.mem_cons_self
    have h2 := ih (fun m hm => h m (List.mem_cons_of_mem _ hm))
    rw [e, List.length_cons]
    omega
theorem totP_le (l : List IP) (h : ∀ p ∈ l, p.f1.length ≤ 4 ∧ ∀ m ∈ p.f1, m.f3.length ≤ 40) : totP l ≤ 173 * l.length := by
  induction l with
  | nil => simp [totP]
  | cons x l ih =>
    have e : totP (x :: l) = 1 + totM x.f1 + totP l := by simp [totP]
    have h1 := h x List.mem_cons_self
    have h2 := ih (fun m hm => h m (List.mem_cons_of_mem _ hm))
    have h3 := totM_le x.f1 h1.2
    rw [e, List.length_cons]
    omega
/-- Few ports, of few messages of few bytes. -/
def few (l : List IP) : Prop := l.length ≤ 5 ∧ ∀ p ∈ l, p.f1.length ≤ 4 ∧ ∀ m ∈ p.f1, m.f3.length ≤ 40
theorem few_BL {l : List IP} (h : few l) : BL l := ⟨by have := h.1; omega, fun p hp => ⟨by have := (h.2 p hp).1; omega, fun m hm => by have := (h.2 p hp).2 m hm; omega⟩⟩
theorem few_tot {l : List IP} (h : few l) : totP l ≤ 865 := by
  have := totP_le l h.2
  have := h.1
  omega
theorem few_ok {l : List IP} (h : impl_PortsOk.f l = some true) : few l := by
  obtain ⟨h1, h2, _⟩ := portsOk_facts l h
  exact ⟨by omega, fun p hp => ⟨by have := (h2 p hp).1; omega, (h2 p hp).2⟩⟩
/-! ### what PortHear answers -/
theorem fromOf_len40 (f t : Int) (b : List Int) : (fromOf f t b).2.2.2.1.length ≤ 40 := by
  unfold fromOf
  split
  · rename_i h
    obtain ⟨h1, h2⟩ := h
    unfold mailOf at h2
    split at h2
    · rename_i h3
      have := h3.1.2.2.2
      show ((b.take (b.length - 2)).drop 3).length ≤ 40
      omega
    · rw [← h2] at h1
      simp at h1
  · simp
/-- A packet that may be heard. -/
def goodP (pk : Bool) (p1 p2 p5 : Int) (p6 : Bool) (a : Int) (mok : Bool) : Bool := pk && decide (p2 = 2) && decide (p5 = 0) && !p6 && decide (p1 = a) && mok
theorem goodP_iff (pk : Bool) (p1 p2 p5 : Int) (p6 : Bool) (a : Int) (mok : Bool) : goodP pk p1 p2 p5 p6 a mok = true ↔ pk = true ∧ p2 = 2 ∧ p5 = 0 ∧ p6 = false ∧ p1 = a ∧ mok = true := by
  unfold goodP
  cases pk <;> cases p6 <;> cases mok <;> simp [and_assoc]
theorem hearP_any (r : Bool) (l : List IP) (m n : IM) : hearP r false l m = hearP r false l n := by
  unfold hearP
  simp
theorem hearP_few (r good : Bool) (l : List IP) (m : IM) (h : impl_PortsOk.f l = some r) (hm : m.f3.length ≤ 40) : few (hearP r good l m).1 := by
  have hn : few [] := ⟨by simp, fun p hp => by cases hp⟩
  cases r with
  | false =>
    rw [hearP_no]
    exact hn
  | true =>
    have hf := few_ok h
    unfold hearP
    split
    · exact hn
    split
    · exact hf
    split
    · exact hf
    split
    · exact hf
    rename_i h3 h4
    generalize l.findIdx (fun p => p.f0 == m.f2) = i at h3 h4 ⊢
    have hi : i < l.length := Decidable.not_not.1 h3
    have h1 := hf.2 _ (rdIP_mem l i hi)
    refine ⟨by rw [List.length_set]; exact hf.1, fun p hp => ?_⟩
    rcases List.mem_or_eq_of_mem_set hp with h5 | h5
    · exact hf.2 p h5
    · subst h5
      refine ⟨?_, fun y hy => ?_⟩
      · show ((rd_T47 l (i : Int)).f1 ++ [m]).length ≤ 4
        rw [List.length_append, List.length_singleton]
        omega
      · rcases List.mem_append.1 hy with hy | hy
        · exact h1.2 y hy
        · rw [List.mem_singleton.1 hy]
          exact hm
theorem main : GFnExactPortHear.Stmt := by
  intro l a p0 p1 p2 p3 p4 p5 p6 p7 D hl _ _ _ _ _ _ _ hD
  obtain ⟨hl, hg⟩ := hl
  obtain ⟨hD, hw⟩ := hD
  have hby := fun x hx => byte_of hw x hx
  have hm : ∀ x ∈ l, x.f1.length ≤ maxLen ∧ ∀ y ∈ x.f1, y.f3.length ≤ maxLen := fun x hx => ⟨(hg x hx).2.1, fun y hy => ((hg x hx).2.2 y hy).2.2.2.1⟩
  obtain ⟨s, h1, h2⟩ := szPortS_sum l hl hm 1048576 (by omega) (by omega)
  rcases h2 with rfl | ⟨s0, s1⟩
  · obtain ⟨K, hK⟩ := h1
    exact ⟨K, -1, hK K (Nat.le_refl _), .inl (by omega)⟩
  · have hsz : laws_szPacket.f p0 p1 p2 p3 p4 p5 p6 p7 D s = if s < (D.length : Int) then some (-1) else some (s - (D.length : Int)) := by
      simp only [laws_szPacket.f, szBytes D s hD (by omega) (by omega)]
      split
      · simp
      · rw [Option.bind_some, if_neg (by omega)]
    by_cases c : s < (D.length : Int)
    · obtain ⟨K, hK⟩ := h1
      rw [if_pos c] at hsz
      exact ⟨K, s, hK K (Nat.le_refl _), .inr ⟨s0, -1, hsz, .inl (by omega)⟩⟩
    rw [if_neg c] at hsz
    have hDl : D.length ≤ 1048576 := by omega
    have hbl : l.length ≤ 1048576 := by omega
    have hb2 : ∀ x ∈ l, x.f1.length ≤ 1048576 ∧ ∀ y ∈ x.f1, y.f3.length ≤ 1048576 := fun x hx => by
      have h3 := sumP_mem hx
      exact ⟨by omega, fun y hy => by have := sumB_mem hy; omega⟩
    have hB := convP_BL l hbl hb2
    have hC : l.map convP = l.map convP_ := rfl
    obtain ⟨t, t1, t2⟩ := portsOk_same (l.map convP) hB
    have htL := totP_conv l
    rw [← hC] at htL
    generalize l.map convP = L at hB t1 t2 hC htL
    obtain ⟨pk, q1, q2⟩ := packetOk_some p0 p1 p2 p3 p4 p5 p6 p7 D
    have q3 : impl_PacketOk.f p0 p1 p2 p3 p4 p5 p6 p7 D = some pk := by rw [packetOk_impl]; exact q1
    have hS := fun k hk => specMailFrom p0 p1 D hDl hby k hk
    have hI := fun k hk => implMailFrom p0 a D hDl hby k hk
    have hls := fromOf_len40 p0 p1 D
    have hli := fromOf_len40 p0 a D
    have hsame : p1 = a → fromOf p0 p1 D = fromOf p0 a D := fun h => by rw [h]
    generalize fromOf p0 p1 D = R at hS hls hsame
    generalize fromOf p0 a D = Q at hI hli hsame
    obtain ⟨mf, mg, mt, md, mok⟩ := R
    obtain ⟨nf, ng, nt, nd, nok⟩ := Q
    dsimp only at hls hli
    have hq : hearP t (goodP pk p1 p2 p5 p6 a mok) L ⟨mf, mg, mt, md⟩ = hearP t (goodP pk p1 p2 p5 p6 a nok) L ⟨nf, ng, nt, nd⟩ := by
      by_cases h : p1 = a
      · have e := hsame h
        simp only [Prod.mk.injEq] at e
        obtain ⟨rfl, rfl, rfl, rfl, rfl⟩ := e
        rfl
      · have e1 : ∀ b, goodP pk p1 p2 p5 p6 a b = false := fun b => by
          unfold goodP
          simp [h]
        rw [e1, e1]
        exact hearP_any _ _ _ _
    have hfo := hearP_few t (goodP pk p1 p2 p5 p6 a nok) L ⟨nf, ng, nt, nd⟩ t1 (by exact hli)
    obtain ⟨x, hx⟩ : ∃ x, hearP t (goodP pk p1 p2 p5 p6 a nok) L ⟨nf, ng, nt, nd⟩ = x := ⟨_, rfl⟩
    rw [hx] at hq hfo
    obtain ⟨o, d⟩ := x
    dsimp only at hfo
    have hto := few_tot hfo
    obtain ⟨K1, k1⟩ := h1
    obtain ⟨K2, k2⟩ := ev_mem l (fun k x => laws_toPort.f k x.f0 x.f1) (fun x => (x.f0, x.f1.map convM)) (fun x hx => toPort_ev x (hb2 x hx).1 (hb2 x hx).2)
    obtain ⟨K3, k3⟩ := t2
    obtain ⟨K4, k4⟩ := eqPortS_ev o (few_BL hfo)
    obtain ⟨K5, k5⟩ := eqPortS_ev L hB
    obtain ⟨K6, k6⟩ := l9At_ev L hB.1 mt
    obtain ⟨k, hk⟩ : ∃ k, k = (K1 + K2 + K3 + K4 + K5 + K6 + totP L + D.length + 10000) + 60 := ⟨_, rfl⟩
    have hS2 := hS (k - 60) (by omega)
    have hI2 := hI (k - 60) (by omega)
    rw [show k - 60 + 60 = k by omega] at hS2 hI2
    obtain ⟨r0, m0, _, _⟩ := markBytes D (1 + (totP L : Int)) (by omega) (by omega) k (by omega)
    have hmp : laws_markPacket.f k p0 p1 p2 p3 p4 p5 p6 p7 D (1 + (totP L : Int)) = some (1 + (totP L : Int) + D.length, r0) := by
      simp only [laws_markPacket.f, m0, Option.bind_some]
    have htp : laws_toPacket.f k p0 p1 p2 p3 p4 p5 p6 p7 D = some (p0, p1, p2, p3, p4, p5, p6, p7, D) := by
      simp only [laws_toPacket.f, toBytes_le D (by omega) k (by omega), Option.bind_some]
    have hep : laws_eqPacket.f k p0 p1 p2 p3 p4 p5 p6 p7 D p0 p1 p2 p3 p4 p5 p6 p7 D = some true := by
      simp only [laws_eqPacket.f, if_true, bne_self_eq_false, Bool.false_eq_true, if_false, eqBytes D D (by omega) k (by omega), Option.bind_some, decide_true]
    refine ⟨k, s, k1 k (by omega), .inr ⟨s0, s - (D.length : Int), hsz, .inr ⟨by omega, d, 1 + (totP L : Int), 1 + (totP o : Int), 1 + (totP L : Int) + D.length, L, o, r0, hbl, k2 k (by omega), hC.symm, htp, ⟨t, pk, nok, goodP pk p1 p2 p5 p6 a nok, nf, ng, nt, nd, t1, fun h => ?_, q3, hI2, by omega, goodP_iff _ _ _ _ _ _ _, hx⟩, ⟨t, pk, mok, goodP pk p1 p2 p5 p6 a mok, mf, mg, mt, md, k3 k (by omega), fun h => ?_, q1, q2, hS2, by omega, goodP_iff _ _ _ _ _ _ _, fun _ => k6 k (by omega), hq⟩, k4 k (by omega), k5 k (by omega), hep, ⟨rfl, by omega⟩, ⟨rfl, by omega⟩, fun D m g1 g2 g3 => markB_at D m g2 g3 k (by omega), fun D m g1 g2 g3 => markB_at D m g2 g3 k (by omega), fun l' g1 => heldPortS_at l' _ (by omega) g1 k (by omega), hmp, by omega⟩⟩⟩
    · subst h
      exact portsOk_small L t1
    · subst h
      exact ⟨(portsOk_small L t1).1, fun p hp => ((portsOk_facts L t1).2.1 p hp).1⟩
end FnExactPortHear_
theorem FnExactPortHear : GFnExactPortHear.Stmt := FnExactPortHear_.main
end Go.Proofs.Ytkkibccnpkbbjaa.Pure
