/- The law FnExactNoteFault over numbers and lists: the program's NoteFault answers as the reference's, and the packet stays as it was. No conditions but the kinds' ranges. -/
import Derived.Test.YtgfaamcihlojdaeGFnExactNoteFault
namespace Go.Proofs.Ytgfaamcihlojdae.Pure
open Go Go.RowKit Go.Proofs.Ytgfaamcihlojdae.MFnExactNoteFault Go.Proofs.YtgfaamcihlojdaeV.PrintWords Go.Proofs.YtgfaamcihlojdaeV.PrintLast
set_option linter.unusedVariables false
set_option linter.unusedSimpArgs false
namespace FnExactNoteFault_
theorem i64_bounds {x : Int} (h : (Lit.int .i64 x).wf = true) : -9223372036854775808 ≤ x ∧ x ≤ 9223372036854775807 := by
  simpa [Lit.wf, IntKind.min, IntKind.max, IntKind.signed, IntKind.bits] using h
theorem inAll (x y z : Int) : spec_l1In.f x y z = some (decide (y ≤ x ∧ x ≤ z)) := by
  unfold spec_l1In.f
  by_cases h : x ≥ y
  · rw [if_pos h]; congr 1; simp only [decide_eq_decide]; omega
  · rw [if_neg h]; congr 1; symm; simp only [decide_eq_false_iff_not]; omega
theorem inAll' (x y z : Int) : impl_in.f x y z = some (decide (y ≤ x ∧ x ≤ z)) := inAll x y z
theorem wl {n m : Int} (h : n = m) (h0 : -9223372036854775808 ≤ m) (h1 : m ≤ 9223372036854775807) : wrap64 n = m := by
  subst h
  unfold wrap64
  omega
/-! ### bytes put side by side -/
theorem or256 (a b : Int) (ha : 0 ≤ a) (ha' : a ≤ 10000000000) (hb : 0 ≤ b) (hb' : b ≤ 255) : Go.bits .or .i64 (a * 256) b = a * 256 + b := by
  obtain ⟨n, rfl⟩ : ∃ n : Nat, a = n := ⟨a.toNat, by omega⟩
  obtain ⟨m, rfl⟩ : ∃ m : Nat, b = m := ⟨b.toNat, by omega⟩
  have h2 : n * 256 ||| m = n * 256 + m := by
    have := Nat.two_pow_add_eq_or_of_lt (i := 8) (show m < 2 ^ 8 by omega) n
    rw [show 2 ^ 8 * n = n * 256 by omega] at this
    exact this.symm
  have e1 : BitVec.ofInt 64 ((n : Int) * 256) = BitVec.ofNat 64 (n * 256) := by
    rw [show (n : Int) * 256 = ((n * 256 : Nat) : Int) by omega]
    exact BitVec.ofInt_natCast ..
  have e2 : BitVec.ofInt 64 (m : Int) = BitVec.ofNat 64 m := BitVec.ofInt_natCast ..
  have e : (BitVec.ofInt 64 ((n : Int) * 256) ||| BitVec.ofInt 64 (m : Int)).toNat = n * 256 + m := by
    rw [e1, e2, BitVec.toNat_or, BitVec.toNat_ofNat, BitVec.toNat_ofNat, Nat.mod_eq_of_lt (by omega), Nat.mod_eq_of_lt (by omega), h2]
  show IntKind.i64.wrap ((BitVec.ofInt 64 ((n : Int) * 256) ||| BitVec.ofInt 64 (m : Int)).toNat : Int) = _
  rw [e]
  simp only [IntKind.wrap, IntKind.bits, IntKind.signed]
  simp
  omega
/-! ### copies, equality and sizes of rows of bytes -/
theorem wrap_id {n : Int} (h : -9223372036854775808 ≤ n) (h' : n ≤ 9223372036854775807) : wrap64 n = n := by
  unfold wrap64; omega
/-- A loop that fills a row, an element at a time, from the elements of another one. -/
theorem fills {α : Type} (n : Nat) (hn : n ≤ 281474976710656) (L : Nat → List α → Int → Option (List α)) (g : Nat → α)
    (h : ∀ k acc i, k < n + 1 → L (k + 1) acc i = if i < (n : Int) then (if 0 ≤ i then (if i < (acc.length : Int) then L k (acc.set i.toNat (g i.toNat)) (wrap64 (i + 1)) else none) else none) else some acc) :
    ∀ d k (i : Nat) (acc : List α), i + d = n → k = d + 1 → acc.length = n → (∀ j, j < i → acc[j]? = some (g j)) → ∃ r, L k acc (i : Int) = some r ∧ r.length = n ∧ ∀ j, j < n → r[j]? = some (g j) := by
  intro d
  induction d with
  | zero =>
    intro k i acc hi hk hl hp
    subst hk
    refine ⟨acc, ?_, hl, fun j hj => hp j (by omega)⟩
    rw [h _ _ _ (by omega), if_neg (by omega)]
  | succ d ih =>
    intro k i acc hi hk hl hp
    subst hk
    obtain ⟨r, hr, hrl, hrp⟩ := ih (d + 1) (i + 1) (acc.set i (g i)) (by omega) rfl (by simpa using hl) (fun j hj => by
      by_cases hji : j = i
      · subst hji
        simp [List.getElem?_set, hl]
        omega
      · rw [List.getElem?_set_ne (by omega)]
        exact hp j (by omega))
    refine ⟨r, ?_, hrl, hrp⟩
    rw [h _ _ _ (by omega), if_pos (by omega), if_pos (by omega), if_pos (by omega), wrap_id (by omega) (by omega)]
    simpa using hr
theorem rd_at (l : List Int) (i : Nat) (h : i < l.length) : l[i]? = some (rd l (i : Int)) := by
  unfold rd
  rw [List.getD_eq_getElem?_getD, Int.toNat_natCast, List.getElem?_eq_getElem h]
  rfl
theorem toBytes_exact (l : List Int) (hl : l.length ≤ 281474976710656) : laws_toByteS.f (l.length + 1) l = some l := by
  unfold laws_toByteS.f
  rw [if_pos (by omega), if_pos (by omega)]
  obtain ⟨r, hr, hrl, hrp⟩ := fills l.length hl (fun k acc i => laws_toByteS.l0 k l acc i) (fun i => rd l (i : Int)) (fun k acc i hk => by
    simp only [laws_toByteS.l0]
    by_cases hi : i < (l.length : Int)
    · rw [if_pos hi, if_pos hi]
      by_cases h0 : 0 ≤ i
      · rw [if_pos h0, if_pos h0]
        by_cases h1 : i < (acc.length : Int)
        · rw [if_pos h1, if_pos h1, show ((i.toNat : Nat) : Int) = i by omega]
        · rw [if_neg h1, if_neg h1]
      · rw [if_neg h0, if_neg h0]
    · rw [if_neg hi, if_neg hi]) l.length (l.length + 1) 0 (List.replicate l.length 0) (by omega) rfl (by simp) (fun j hj => by omega)
  rw [show (l.length : Int).toNat = l.length by omega]
  show laws_toByteS.l0 _ _ _ _ = _
  have hr' : laws_toByteS.l0 (l.length + 1) l (List.replicate l.length 0) 0 = some r := hr
  rw [hr']
  congr 1
  apply List.ext_getElem?
  intro j
  by_cases hj : j < l.length
  · rw [hrp j hj, rd_at l j hj]
  · rw [List.getElem?_eq_none (by omega), List.getElem?_eq_none (by omega)]
theorem toBytes_le (l : List Int) (hl : l.length ≤ 281474976710656) (k : Nat) (hk : l.length < k) : laws_toByteS.f k l = some l := by
  obtain ⟨d, rfl⟩ : ∃ d, k = l.length + 1 + d := ⟨k - (l.length + 1), by omega⟩
  induction d with
  | zero => exact toBytes_exact l hl
  | succ d ih => exact laws_toByteS.mono l _ _ (ih (by omega))
theorem szBytes (l : List Int) (a : Int) (hl : l.length ≤ maxLen) (ha : 0 ≤ a) (ha' : a ≤ 1048576) : laws_szByteS.f l a = some (if a < (l.length : Int) then -1 else a - (l.length : Int)) := by
  unfold laws_szByteS.f
  unfold maxLen at hl
  rw [wrap_id (by omega) (by omega)]
  by_cases h : a < (l.length : Int)
  · rw [if_pos (by omega), if_pos h]
  · rw [if_neg (by omega), if_neg h]
theorem eqBytes_loop (a b : List Int) (hl : a.length = b.length) (hb : a.length ≤ 281474976710656) : ∀ d k (i : Nat), i + d = a.length → d < k →
    laws_eqByteS.l0 k a b (i : Int) = some (decide (a.drop i = b.drop i)) := by
  intro d
  induction d with
  | zero =>
    intro k i hi hk
    obtain ⟨k, rfl⟩ : ∃ m, k = m + 1 := ⟨k - 1, by omega⟩
    simp only [laws_eqByteS.l0]
    rw [if_neg (by omega), List.drop_eq_nil_of_le (by omega), List.drop_eq_nil_of_le (by omega)]
    rfl
  | succ d ih =>
    intro k i hi hk
    obtain ⟨k, rfl⟩ : ∃ m, k = m + 1 := ⟨k - 1, by omega⟩
    simp only [laws_eqByteS.l0]
    rw [if_pos (by omega), if_pos (by omega), if_pos (by omega), wrap_id (by omega) (by omega)]
    have h1 := rd_at a i (by omega)
    have h2 := rd_at b i (by omega)
    have e1 : a.drop i = rd a (i : Int) :: a.drop (i + 1) := by
      rw [List.drop_eq_getElem_cons (by omega)]
      congr 1
      rw [List.getElem?_eq_getElem (by omega)] at h1
      exact Option.some.inj h1
    have e2 : b.drop i = rd b (i : Int) :: b.drop (i + 1) := by
      rw [List.drop_eq_getElem_cons (by omega)]
      congr 1
      rw [List.getElem?_eq_getElem (by omega)] at h2
      exact Option.some.inj h2
    have hr := ih k (i + 1) (by omega) (by omega)
    rw [e1, e2]
    by_cases he : rd a (i : Int) = rd b (i : Int)
    · rw [if_pos he, show ((i : Int) + 1) = ((i + 1 : Nat) : Int) by omega, hr, he]
      simp
    · rw [if_neg he]
      simp [he]
theorem eqBytes (a b : List Int) (hb : a.length ≤ 281474976710656) (k : Nat) (hk : a.length < k) : laws_eqByteS.f k a b = some (decide (a = b)) := by
  unfold laws_eqByteS.f
  by_cases h : a.length = b.length
  · rw [if_pos (by omega)]
    have := eqBytes_loop a b h hb a.length k 0 (by omega) hk
    simpa using this
  · rw [if_neg (by omega)]
    have : a ≠ b := fun e => h (by rw [e])
    simp [this]
theorem eqSl_loop (a b : List Int) (hl : a.length = b.length) (hb : a.length ≤ 281474976710656) : ∀ d k (i : Nat), i + d = a.length → d < k →
    slices_Equal_byte_byte.l0 k a b (a.length : Int) (i : Int) = some (decide (a.drop i = b.drop i)) := by
  intro d
  induction d with
  | zero =>
    intro k i hi hk
    obtain ⟨k, rfl⟩ : ∃ m, k = m + 1 := ⟨k - 1, by omega⟩
    simp only [slices_Equal_byte_byte.l0]
    rw [if_neg (by omega), List.drop_eq_nil_of_le (by omega), List.drop_eq_nil_of_le (by omega)]
    rfl
  | succ d ih =>
    intro k i hi hk
    obtain ⟨k, rfl⟩ : ∃ m, k = m + 1 := ⟨k - 1, by omega⟩
    simp only [slices_Equal_byte_byte.l0]
    rw [if_pos (by omega), if_pos (by omega), if_pos (by omega), if_pos (by omega), wrap_id (by omega) (by omega)]
    have h1 := rd_at a i (by omega)
    have h2 := rd_at b i (by omega)
    have e1 : a.drop i = rd a (i : Int) :: a.drop (i + 1) := by
      rw [List.drop_eq_getElem_cons (by omega)]
      congr 1
      rw [List.getElem?_eq_getElem (by omega)] at h1
      exact Option.some.inj h1
    have e2 : b.drop i = rd b (i : Int) :: b.drop (i + 1) := by
      rw [List.drop_eq_getElem_cons (by omega)]
      congr 1
      rw [List.getElem?_eq_getElem (by omega)] at h2
      exact Option.some.inj h2
    have hr := ih k (i + 1) (by omega) (by omega)
    rw [e1, e2]
    by_cases he : rd a (i : Int) = rd b (i : Int)
    · rw [if_pos he, show ((i : Int) + 1) = ((i + 1 : Nat) : Int) by omega, hr, he]
      simp
    · rw [if_neg he]
      simp [he]
theorem eqSl (a b : List Int) (hb : a.length ≤ 281474976710656) (k : Nat) (hk : a.length < k) : slices_Equal_byte_byte.f k a b = some (decide (a = b)) := by
  unfold slices_Equal_byte_byte.f
  by_cases h : a.length = b.length
  · rw [if_pos (by omega)]
    have := eqSl_loop a b h hb a.length k 0 (by omega) hk
    simpa using this
  · rw [if_neg (by omega)]
    have : a ≠ b := fun e => h (by rw [e])
    simp [this]
/-! ### two bytes of a number, the program's -/
theorem implBytes2 (v : Int) (k : Nat) : impl_bytesOf.f (k + 4) v 2 = some [v / 256 % 256, v % 256] := by
  simp only [impl_bytesOf.f, show (0 : Int) ≤ 2 by omega, if_true, show (2 : Int).toNat = 2 by rfl, show 2 ≤ 281474976710656 by omega, show wrap64 (2 - 1) = 1 from wl (by omega) (by omega) (by omega)]
  rw [impl_bytesOf.l0]
  simp only [show (1 : Int) ≥ 0 by omega, if_true, show (0 : Int) ≤ 1 by omega, show wrap64 (1 - 1) = 0 from wl (by omega) (by omega) (by omega)]
  rw [if_pos (by simp), impl_bytesOf.l0]
  simp only [show (0 : Int) ≥ 0 by omega, if_true, Int.le_refl, show wrap64 (0 - 1) = -1 from wl (by omega) (by omega) (by omega)]
  rw [if_pos (by simp), impl_bytesOf.l0]
  simp only [show ¬ ((-1 : Int) ≥ 0) by omega, if_false]
  rfl
/-! ### a row's first elements -/
theorem rd_cons0 (a : Int) (l : List Int) : rd (a :: l) 0 = a := by simp [rd]
theorem rd_cons1 (a b : Int) (l : List Int) : rd (a :: b :: l) 1 = b := by simp [rd]
theorem rd_cons2 (a b c : Int) (l : List Int) : rd (a :: b :: c :: l) 2 = c := by simp [rd]
theorem rd_cons3 (a b c d : Int) (l : List Int) : rd (a :: b :: c :: d :: l) 3 = d := by simp [rd]
/-! ### the number of two bytes -/
theorem specNum2 (a b c d : Int) (l : List Int) (hl : l.length ≤ 1048576) (hb : 0 ≤ b ∧ b ≤ 255) (hc : 0 ≤ c ∧ c ≤ 255) (k : Nat) : spec_NumberAt.f (k + 4) (a :: b :: c :: d :: l) 1 2 = some (b * 256 + c) := by
  simp only [spec_NumberAt.f, inAll, Option.bind_some, show decide ((1 : Int) ≤ 2 ∧ (2 : Int) ≤ 4) = true by decide, if_true]
  rw [wl (n := ((a :: b :: c :: d :: l).length : Int) - 2) (m := (l.length : Int) + 2) (by simp; omega) (by omega) (by omega)]
  rw [decide_eq_true (show (0 : Int) ≤ 1 ∧ (1 : Int) ≤ (l.length : Int) + 2 by omega)]
  simp only [Bool.not_true, spec_NumberAt.j0, Bool.false_eq_true, if_false]
  rw [spec_NumberAt.l0]
  simp only [show (0 : Int) < 2 by omega, if_true, show wrap64 (1 + 0) = 1 from wl (by omega) (by omega) (by omega), show (0 : Int) ≤ 1 by omega, rd_cons1]
  rw [if_pos (by simp; omega), wl (n := b) rfl (by omega) (by omega), wl (n := 0 * 256) (m := 0) (by omega) (by omega) (by omega), wl (n := 0 + b) (m := b) (by omega) (by omega) (by omega), wl (n := 0 + 1) (m := 1) (by omega) (by omega) (by omega)]
  rw [spec_NumberAt.l0]
  simp only [show (1 : Int) < 2 by omega, if_true, show wrap64 (1 + 1) = 2 from wl (by omega) (by omega) (by omega), show (0 : Int) ≤ 2 by omega, rd_cons2]
  rw [if_pos (by simp; omega), wl (n := c) rfl (by omega) (by omega), wl (n := b * 256) rfl (by omega) (by omega), wl (n := b * 256 + c) rfl (by omega) (by omega)]
  rw [spec_NumberAt.l0, if_neg (by omega)]
/-! ### the number of two bytes, the program's -/
theorem implNum2 (a b c d : Int) (l : List Int) (hl : l.length ≤ 1048576) (hb : 0 ≤ b ∧ b ≤ 255) (hc : 0 ≤ c ∧ c ≤ 255) (k : Nat) : impl_NumberAt.f (k + 4) (a :: b :: c :: d :: l) 1 2 = some (b * 256 + c) := by
  simp only [impl_NumberAt.f, inAll', Option.bind_some, show decide ((1 : Int) ≤ 2 ∧ (2 : Int) ≤ 4) = true by decide, if_true]
  rw [wl (n := ((a :: b :: c :: d :: l).length : Int) - 2) (m := (l.length : Int) + 2) (by simp; omega) (by omega) (by omega)]
  rw [if_neg (by omega), decide_eq_false (show ¬ ((1 : Int) > (l.length : Int) + 2) by omega)]
  simp only [impl_NumberAt.j0, Bool.false_eq_true, if_false, show wrap64 (1 + 2) = 3 from wl (by omega) (by omega) (by omega), show (0 : Int) ≤ 1 by omega, show (1 : Int) ≤ 3 by omega, if_true]
  rw [if_pos (by simp; omega)]
  have e : ((a :: b :: c :: d :: l).take (3 : Int).toNat).drop (1 : Int).toNat = [b, c] := by simp
  rw [e, impl_NumberAt.l0]
  simp only [show (0 : Int) < (([b, c] : List Int).length : Int) by simp, if_true, Int.le_refl, rd_cons0, rd_cons1]
  rw [wl (n := b) rfl (by omega) (by omega), wl (n := 0 * 256) (m := 0 * 256) rfl (by omega) (by omega), or256 0 b (by omega) (by omega) hb.1 hb.2, show (0 : Int) * 256 + b = b by omega, wl (n := 0 + 1) (m := 1) (by omega) (by omega) (by omega)]
  rw [impl_NumberAt.l0]
  simp only [show (1 : Int) < (([b, c] : List Int).length : Int) by simp, if_true, show (0 : Int) ≤ 1 by omega, rd_cons0, rd_cons1]
  rw [wl (n := c) rfl (by omega) (by omega), wl (n := b * 256) rfl (by omega) (by omega), or256 b c hb.1 (by omega) hc.1 hc.2, wl (n := 1 + 1) (m := 2) (by omega) (by omega) (by omega)]
  rw [impl_NumberAt.l0, if_neg (by simp)]
/-! ### the bytes of a note, the program's -/
theorem implNote (a b : Int) (l : List Int) (hl : l.length ≤ 1048576) (k : Nat) : impl_NoteBytes.f (k + 6) a b l = some (if (1 ≤ a ∧ a ≤ 6) ∧ (0 ≤ b ∧ b ≤ 65535) ∧ (l.length : Int) ≤ 20 then a % 256 :: b / 256 % 256 :: b % 256 :: (l.length : Int) % 256 :: l else []) := by
  simp only [impl_NoteBytes.f, impl_NoteOk.f, impl_word.f, inAll', Option.bind_some]
  by_cases h1 : 1 ≤ a ∧ a ≤ 6
  · by_cases h2 : 0 ≤ b ∧ b ≤ 65535
    · by_cases h3 : (l.length : Int) ≤ 20
      · rw [implBytes2 b (k + 2)]
        simp [h1, h2, h3, slices_Concat_byte_byte.f]
        omega
      · simp [h1, h2, h3]
    · simp [h1, h2]
  · simp [h1]
/-! ### the note of bytes -/
def noteOf (l : List Int) : Int × Int × List Int × Bool := match l with
  | a :: b :: c :: d :: m => if (1 ≤ a ∧ a ≤ 6) ∧ (m.length : Int) ≤ 20 ∧ d = (m.length : Int) then (a, b * 256 + c, m, true) else (0, 0, [], false)
  | _ => (0, 0, [], false)
theorem noteOf_len (l : List Int) : (noteOf l).2.2.1.length ≤ l.length := by
  unfold noteOf
  split
  · split
    · simp; omega
    · simp
  · simp
theorem byte_of {l : List Int} (hw : ∀ x ∈ l, (Lit.int .u8 x).wf = true) (x : Int) (hx : x ∈ l) : 0 ≤ x ∧ x ≤ 255 := by
  have := hw x hx
  simpa [Lit.wf, IntKind.min, IntKind.max, IntKind.signed, IntKind.bits] using this
/-! ### the note of bytes, the reference's -/
theorem specFrom (l : List Int) (hl : l.length ≤ 1048576) (hw : ∀ x ∈ l, (Lit.int .u8 x).wf = true) (k : Nat) : spec_NoteFrom.f (k + 4) l = some (noteOf l) := by
  match l with
  | [] => simp [spec_NoteFrom.f, noteOf]
  | [_] => simp [spec_NoteFrom.f, noteOf]
  | [_, _] => simp [spec_NoteFrom.f, noteOf]
  | [_, _, _] => simp [spec_NoteFrom.f, noteOf]
  | a :: b :: c :: d :: m =>
    have hm : m.length ≤ 1048576 := by simp at hl; omega
    have ha := byte_of hw a (by simp)
    have hb := byte_of hw b (by simp)
    have hc := byte_of hw c (by simp)
    have hd := byte_of hw d (by simp)
    simp only [spec_NoteFrom.f, specNum2 a b c d m hm hb hc k, Option.bind_some, rd_cons0, rd_cons3, spec_NoteOk.f, inAll, List.drop_succ_cons, List.drop_zero, List.nil_append]
    rw [if_neg (by simp; omega), if_pos (by simp; omega), if_pos (by simp; omega), if_pos (by simp; omega), wl (n := a) rfl (by omega) (by omega), wl (n := d) rfl (by omega) (by omega)]
    simp only [noteOf]
    have hn : 0 ≤ b * 256 + c ∧ b * 256 + c ≤ 65535 := by omega
    rw [decide_eq_true hn]
    have h3 : (3 : Int) < ((a :: b :: c :: d :: m).length : Int) := by simp; omega
    rw [if_pos h3]
    by_cases h1 : 1 ≤ a ∧ a ≤ 6 <;> by_cases h2 : (m.length : Int) ≤ 20 <;> by_cases h4 : d = (m.length : Int) <;> simp [h1, h2, h4]
/-! ### the note of bytes, the program's -/
theorem implFrom (l : List Int) (hl : l.length ≤ 1048576) (hw : ∀ x ∈ l, (Lit.int .u8 x).wf = true) (k : Nat) (hk : l.length < k) : impl_NoteFrom.f (k + 6) l = some (noteOf l) := by
  match l with
  | [] => simp [impl_NoteFrom.f, noteOf]
  | [_] => simp [impl_NoteFrom.f, noteOf]
  | [_, _] => simp [impl_NoteFrom.f, noteOf]
  | [_, _, _] => simp [impl_NoteFrom.f, noteOf]
  | a :: b :: c :: d :: m =>
    have hm : m.length ≤ 1048576 := by simp at hl; omega
    have hk' : m.length + 4 < k := by simpa using hk
    have ha := byte_of hw a (by simp)
    have hb := byte_of hw b (by simp)
    have hc := byte_of hw c (by simp)
    have hd := byte_of hw d (by simp)
    have hn : 0 ≤ b * 256 + c ∧ b * 256 + c ≤ 65535 := by omega
    simp only [impl_NoteFrom.f, implNum2 a b c d m hm hb hc (k + 2), Option.bind_some, rd_cons0, List.drop_succ_cons, List.drop_zero, impl_clone_byte.f]
    rw [if_neg (by simp; omega), if_pos (by simp; omega), if_pos (by simp; omega), if_pos (by omega), wl (n := a) rfl (by omega) (by omega)]
    simp only [Option.bind_some, implNote a (b * 256 + c) m hm k]
    by_cases h1 : (1 ≤ a ∧ a ≤ 6) ∧ (0 ≤ b * 256 + c ∧ b * 256 + c ≤ 65535) ∧ (m.length : Int) ≤ 20
    · rw [if_pos h1, eqSl _ _ (by simp; omega) _ (by simp; omega)]
      simp only [Option.bind_some, noteOf]
      rw [show a % 256 = a by omega, show (b * 256 + c) / 256 % 256 = b by omega, show (b * 256 + c) % 256 = c by omega, show (m.length : Int) % 256 = m.length by omega]
      by_cases h2 : d = (m.length : Int)
      · simp [h1, ← h2]
        omega
      · have : ¬ (m.length : Int) = d := fun e => h2 e.symm
        simp [h2, this]
    · rw [if_neg h1, eqSl _ _ (by simp) _ (by simp)]
      simp only [noteOf]
      rw [if_neg (fun h => h1 ⟨h.1, hn, h.2.1⟩)]
      simp
theorem main : GFnExactNoteFault.Stmt := by
  intro a b c d e f g h l _ _ _ _ _ _ hl
  obtain ⟨hl, hw⟩ := hl
  refine ⟨l.length + 2000, ?_⟩
  simp only [laws_FnExactNoteFault.f, laws_szPacket.f, szBytes l 1048576 hl (by omega) (by omega), Option.bind_some]
  by_cases hh : (1048576 : Int) < (l.length : Int)
  · rw [if_pos hh]; simp
  · rw [if_neg hh, if_neg (by omega)]
    simp only [Option.bind_some]
    rw [if_neg (by omega)]
    have hto : laws_toPacket.f (l.length + 2000) a b c d e f g h l = some (a, b, c, d, e, f, g, h, l) := by
      simp only [laws_toPacket.f, toBytes_le l (by omega) _ (show l.length < l.length + 2000 by omega), Option.bind_some]
    have heq : laws_eqPacket.f (l.length + 2000) a b c d e f g h l a b c d e f g h l = some true := by
      simp only [laws_eqPacket.f, if_true, bne_self_eq_false, Bool.false_eq_true, if_false, eqBytes l l (by omega) _ (show l.length < l.length + 2000 by omega), Option.bind_some, decide_true]
    have hs : spec_NoteFault.f (l.length + 2000) a b c d e f g h l = impl_NoteFault.f (l.length + 2000) a b c d e f g h l := by
      simp only [spec_NoteFault.f, impl_NoteFault.f, specFrom l (by omega) hw (l.length + 1996), implFrom l (by omega) hw (l.length + 1994) (by omega)]
    have ht : ∃ t, impl_NoteFault.f (l.length + 2000) a b c d e f g h l = some t := by
      simp only [impl_NoteFault.f, implFrom l (by omega) hw (l.length + 1994) (by omega), Option.bind_some]
      split <;> (try split) <;> exact ⟨_, rfl⟩
    obtain ⟨t, ht⟩ := ht
    simp only [hto, Option.bind_some, hs, ht, heq, bne_self_eq_false, Bool.false_eq_true, if_false, if_true]
end FnExactNoteFault_
theorem FnExactNoteFault : GFnExactNoteFault.Stmt := FnExactNoteFault_.main
end Go.Proofs.Ytgfaamcihlojdae.Pure
