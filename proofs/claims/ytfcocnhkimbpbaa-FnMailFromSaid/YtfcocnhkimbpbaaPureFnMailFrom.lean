/- The pure law of FnMailFrom: whatever the code, the message of the drawn bytes is the reference's; if there is one, its bytes are these bytes, and no byte with its second bit turned leaves a message. No conditions. -/
import Derived.Test.YtfcocnhkimbpbaaGFnMailFrom
namespace Go.Proofs.Ytfcocnhkimbpbaa.Pure
open Go Go.RowKit Go.Proofs.Ytfcocnhkimbpbaa.MFnMailFrom Go.Proofs.YtfcocnhkimbpbaaV.PrintWords Go.Proofs.YtfcocnhkimbpbaaV.PrintLast
set_option linter.unusedVariables false
set_option linter.unusedSimpArgs false
namespace FnMailFrom_
theorem i64_bounds {x : Int} (h : (Lit.int .i64 x).wf = true) : -9223372036854775808 ≤ x ∧ x ≤ 9223372036854775807 := by
  simpa [Lit.wf, IntKind.min, IntKind.max, IntKind.signed, IntKind.bits] using h
theorem inAll (x y z : Int) : spec_l1In.f x y z = some (decide (y ≤ x ∧ x ≤ z)) := by
  unfold spec_l1In.f
  by_cases h : x ≥ y
  · rw [if_pos h]; congr 1; simp only [decide_eq_decide]; omega
  · rw [if_neg h]; congr 1; symm; simp only [decide_eq_false_iff_not]; omega
theorem inAll' (x y z : Int) : impl_in.f x y z = some (decide (y ≤ x ∧ x ≤ z)) := inAll x y z
theorem wl {n m : Int} (h : n = m) (h0 : -9223372036854775808 ≤ m) (h1 : m ≤ 9223372036854775807) : wrap64 n = m := by
  subst h
  unfold wrap64
  omega
/-! ### bytes put side by side -/
theorem or256 (a b : Int) (ha : 0 ≤ a) (ha' : a ≤ 10000000000) (hb : 0 ≤ b) (hb' : b ≤ 255) : Go.bits .or .i64 (a * 256) b = a * 256 + b := by
  obtain ⟨n, rfl⟩ : ∃ n : Nat, a = n := ⟨a.toNat, by omega⟩
  obtain ⟨m, rfl⟩ : ∃ m : Nat, b = m := ⟨b.toNat, by omega⟩
  have h2 : n * 256 ||| m = n * 256 + m := by
    have := Nat.two_pow_add_eq_or_of_lt (i := 8) (show m < 2 ^ 8 by omega) n
    rw [show 2 ^ 8 * n = n * 256 by omega] at this
    exact this.symm
  have e1 : BitVec.ofInt 64 ((n : Int) * 256) = BitVec.ofNat 64 (n * 256) := by
    rw [show (n : Int) * 256 = ((n * 256 : Nat) : Int) by omega]
    exact BitVec.ofInt_natCast ..
  have e2 : BitVec.ofInt 64 (m : Int) = BitVec.ofNat 64 m := BitVec.ofInt_natCast ..
  have e : (BitVec.ofInt 64 ((n : Int) * 256) ||| BitVec.ofInt 64 (m : Int)).toNat = n * 256 + m := by
    rw [e1, e2, BitVec.toNat_or, BitVec.toNat_ofNat, BitVec.toNat_ofNat, Nat.mod_eq_of_lt (by omega), Nat.mod_eq_of_lt (by omega), h2]
  show IntKind.i64.wrap ((BitVec.ofInt 64 ((n : Int) * 256) ||| BitVec.ofInt 64 (m : Int)).toNat : Int) = _
  rw [e]
  simp only [IntKind.wrap, IntKind.bits, IntKind.signed]
  simp
  omega
/-! ### a draw: a number in 0..n-1, and the place one further -/
theorem xor_nat (a b : Nat) (ha : a < 9223372036854775808) (hb : b < 9223372036854775808) : Go.bits .xor .i64 (a : Int) (b : Int) = ((a ^^^ b : Nat) : Int) := by
  have hx : a ^^^ b < 2 ^ 63 := Nat.xor_lt_two_pow (by omega) (by omega)
  have ha' : a % 2 ^ 64 = a := Nat.mod_eq_of_lt (by omega)
  have hb' : b % 2 ^ 64 = b := Nat.mod_eq_of_lt (by omega)
  have e : IntKind.i64.bits = 64 := rfl
  simp only [Go.bits, BitVec.ofInt_natCast, BitVec.toNat_xor, BitVec.toNat_ofNat, e, ha', hb']
  rw [IntKind.wrap_i64]
  omega
theorem wrap_in {n : Int} (h : -9223372036854775808 ≤ n) (h' : n ≤ 9223372036854775807) : wrap64 n = n := by
  unfold wrap64; omega
theorem u8_bounds {x : Int} (h : (Lit.int .u8 x).wf = true) : 0 ≤ x ∧ x ≤ 255 := by
  simpa [Lit.wf, IntKind.min, IntKind.max, IntKind.signed, IntKind.bits] using h
/-- The bytes of a code. -/
def Code (s : List Int) : Prop := (∀ x ∈ s, 0 ≤ x ∧ x ≤ 255) ∧ s.length ≤ 2000
theorem Code.at {s : List Int} (h : Code s) (i : Int) : 0 ≤ rd s i ∧ rd s i ≤ 255 := by
  unfold rd
  rw [List.getD_eq_getElem?_getD]
  rcases hc : s[i.toNat]? with _ | x
  · simp
  · have := h.1 x (List.mem_of_getElem? hc)
    simpa using this
theorem pick_some (k : Nat) (s : List Int) (p n : Int) (hs : Code s) (h0 : 0 ≤ p) (h1 : p ≤ 1000000000) (hn : 1 ≤ n) :
    ∃ v, spec_l20Rd_pick.f (k + 1) s p n = some (v, p + 1) ∧ 0 ≤ v ∧ v < n := by
  have hl := hs.2
  unfold spec_l20Rd_pick.f
  rw [if_neg (by omega)]
  by_cases hz : s.length = 0
  · refine ⟨0, ?_, by omega, by omega⟩
    simp only [spec_l20Rd_pick.j0]
    rw [if_pos (by simp [hz]), wrap_in (by omega) (by omega)]
  · have hz' : ((s.length : Int) == 0) = false := by simpa using hz
    rw [hz']
    simp only [spec_l20Rd_pick.j0]
    rw [if_neg (by decide), wrap_in (n := p + 1) (by omega) (by omega), show p + 1 - 1 = p by omega, wrap_in (n := p) (by omega) (by omega)]
    by_cases hp : p < (s.length : Int)
    · have hb := hs.at p
      rw [if_pos hp, if_pos h0, if_neg (by omega), wrap_in (by omega) (by omega), Int.tmod_eq_emod_of_nonneg hb.1]
      exact ⟨_, rfl, Int.emod_nonneg _ (by omega), Int.emod_lt_of_pos _ (by omega)⟩
    · rw [if_neg hp, if_neg (by omega)]
      have hL : (0 : Int) < (s.length : Int) := by omega
      rw [wrap_in (n := p * 7) (by omega) (by omega), wrap_in (n := p * 7 + 3) (by omega) (by omega)]
      rw [Int.tmod_eq_emod_of_nonneg h0, Int.tmod_eq_emod_of_nonneg (a := p * 7 + 3) (by omega)]
      have ha0 := Int.emod_nonneg p (b := (s.length : Int)) (by omega)
      have ha1 := Int.emod_lt_of_pos p (b := (s.length : Int)) (by omega)
      have hb0 := Int.emod_nonneg (p * 7 + 3) (b := (s.length : Int)) (by omega)
      have hb1 := Int.emod_lt_of_pos (p * 7 + 3) (b := (s.length : Int)) (by omega)
      rw [if_pos ha0, if_pos ha1, if_pos hb0, if_pos hb1, if_neg (by omega)]
      have hx := hs.at (p % (s.length : Int))
      have hy := hs.at ((p * 7 + 3) % (s.length : Int))
      generalize rd s (p % (s.length : Int)) = x at hx
      generalize rd s ((p * 7 + 3) % (s.length : Int)) = y at hy
      have hd0 : 0 ≤ p / (s.length : Int) := Int.ediv_nonneg h0 (by omega)
      have hd1 : p / (s.length : Int) ≤ p := Int.ediv_le_self _ h0
      rw [Int.tdiv_eq_ediv_of_nonneg h0]
      generalize p / (s.length : Int) = q at hd0 hd1
      rw [wrap_in (n := x) (by omega) (by omega), wrap_in (n := y) (by omega) (by omega), wrap_in (n := x * 131) (by omega) (by omega), wrap_in (n := y * 1117) (by omega) (by omega), wrap_in (n := x * 131 + y * 1117) (by omega) (by omega), wrap_in (n := p * 29) (by omega) (by omega), wrap_in (n := x * 131 + y * 1117 + p * 29) (by omega) (by omega), wrap_in (n := q) (by omega) (by omega), wrap_in (n := q * 53) (by omega) (by omega), wrap_in (n := x * 131 + y * 1117 + p * 29 + q * 53) (by omega) (by omega)]
      obtain ⟨z, hz⟩ : ∃ z : Nat, x * 131 + y * 1117 + p * 29 + q * 53 = (z : Int) := ⟨(x * 131 + y * 1117 + p * 29 + q * 53).toNat, by omega⟩
      rw [hz]
      have hzb : z < 1000000000000 := by omega
      rw [Int.tdiv_eq_ediv_of_nonneg (by omega), wrap_in (n := (z : Int) / 64) (by omega) (by omega)]
      rw [show ((z : Int) / 64) = ((z / 64 : Nat) : Int) by omega, xor_nat _ _ (by omega) (by omega), Int.tmod_eq_emod_of_nonneg (by omega)]
      exact ⟨_, rfl, Int.emod_nonneg _ (by omega), Int.emod_lt_of_pos _ (by omega)⟩
theorem open_some (l : List Int) (hw : ∀ x ∈ l, (Lit.int .u8 x).wf = true) : ∃ s, spec_l20Open.f l = some (s, 0) ∧ Code s := by
  unfold spec_l20Open.f
  have hb : ∀ x ∈ l, 0 ≤ x ∧ x ≤ 255 := fun x hx => u8_bounds (hw x hx)
  by_cases h : (l.length : Int) > 2000
  · rw [if_pos h, if_pos (by omega)]
    exact ⟨_, rfl, fun x hx => hb x (List.mem_of_mem_take hx), by rw [List.length_take]; omega⟩
  · rw [if_neg h]
    exact ⟨_, rfl, hb, by omega⟩
/-! ### what comes to an answer -/
def Tot {β : Type} (Q : β → Prop) (o : Option β) : Prop := ∃ b, o = some b ∧ Q b
theorem tot_some {β : Type} {Q : β → Prop} {b : β} (h : Q b) : Tot Q (some b) := ⟨b, rfl, h⟩
theorem tot_bind {α β : Type} {P : α → Prop} {Q : β → Prop} {o : Option α} {f : α → Option β} (h : Tot P o) (hf : ∀ a, P a → Tot Q (f a)) : Tot Q (o.bind f) := by
  obtain ⟨a, rfl, ha⟩ := h
  exact hf a ha
theorem tot_ite {β : Type} {Q : β → Prop} {c : Prop} [Decidable c] {x y : Option β} (h1 : c → Tot Q x) (h2 : ¬ c → Tot Q y) : Tot Q (if c then x else y) := by
  by_cases h : c
  · rw [if_pos h]; exact h1 h
  · rw [if_neg h]; exact h2 h
theorem tot_mono {β : Type} {P Q : β → Prop} {o : Option β} (h : Tot P o) (hq : ∀ b, P b → Q b) : Tot Q o := by
  obtain ⟨b, hb, hp⟩ := h
  exact ⟨b, hb, hq b hp⟩
theorem tot_none {β : Type} {Q : β → Prop} (h : False) : Tot Q none := h.elim
theorem tot_pick {β : Type} {Q : β → Prop} {F : Int × Int → Option β} {k : Nat} {s : List Int} {p n : Int} (hs : Code s) (hk : 1 ≤ k) (h0 : 0 ≤ p) (h1 : p ≤ 1000000000) (hn : 1 ≤ n)
    (h : ∀ v, 0 ≤ v → v < n → Tot Q (F (v, p + 1))) : Tot Q ((spec_l20Rd_pick.f k s p n).bind F) := by
  obtain ⟨k, rfl⟩ : ∃ m, k = m + 1 := ⟨k - 1, by omega⟩
  obtain ⟨v, hv, v0, v1⟩ := pick_some k s p n hs h0 h1 hn
  rw [hv]
  exact h v v0 v1
theorem tot_odd {β : Type} {Q : β → Prop} {F : Bool × Int → Option β} {k : Nat} {s : List Int} {p n : Int} (hs : Code s) (hk : 1 ≤ k) (h0 : 0 ≤ p) (h1 : p ≤ 1000000000)
    (h : ∀ b p', p ≤ p' → p' ≤ p + 1 → Tot Q (F (b, p'))) : Tot Q ((spec_l20Rd_odd.f k s p n).bind F) := by
  refine tot_bind (P := fun r => p ≤ r.2 ∧ r.2 ≤ p + 1) ?_ (fun a ha => h a.1 a.2 ha.1 ha.2)
  unfold spec_l20Rd_odd.f
  refine tot_ite (fun hn => ?_) (fun hn => ?_)
  · refine tot_pick hs hk h0 h1 (by omega) ?_
    intro v _ _
    exact tot_some (by dsimp only; omega)
  · exact tot_some (by dsimp only; omega)
theorem bytes_loop (s : List Int) (hs : Code s) : ∀ (d : Nat) (k : Nat) (n : Int) (acc : List Int) (p : Int), n = (d : Int) → d < k → d ≤ 1000000 → acc.length + d ≤ 1000000 → 0 ≤ p → p + 2 * n ≤ 900000000 → (∀ x ∈ acc, 0 ≤ x ∧ x ≤ 255) →
    Tot (fun r => r.1.length = acc.length + d ∧ (∀ x ∈ r.1, 0 ≤ x ∧ x ≤ 255) ∧ p ≤ r.2 ∧ r.2 ≤ p + 2 * n) (spec_l20Rd_bytes.l0 k n acc s p) := by
  intro d
  induction d with
  | zero =>
    intro k n acc p hn hk hd hl h0 h1 ha
    obtain ⟨k, rfl⟩ : ∃ m, k = m + 1 := ⟨k - 1, by omega⟩
    simp only [spec_l20Rd_bytes.l0]
    rw [if_neg (by omega)]
    exact tot_some ⟨by simp, ha, by omega, by omega⟩
  | succ d ih =>
    intro k n acc p hn hk hd hl h0 h1 ha
    obtain ⟨k, rfl⟩ : ∃ m, k = m + 1 := ⟨k - 1, by omega⟩
    simp only [spec_l20Rd_bytes.l0]
    rw [if_pos (by omega)]
    have key : ∀ (x p' : Int), 0 ≤ x → x ≤ 255 → p ≤ p' → p' ≤ p + 2 → Tot (fun r : List Int × Int => r.1.length = acc.length + (d + 1) ∧ (∀ x ∈ r.1, 0 ≤ x ∧ x ≤ 255) ∧ p ≤ r.2 ∧ r.2 ≤ p + 2 * n) (if acc.length < 140737488355328 then spec_l20Rd_bytes.l0 k (wrap64 (n - 1)) (acc ++ [x]) s p' else none) := by
      intro x p' x0 x1 hp hp'
      rw [if_pos (by omega), show wrap64 (n - 1) = n - 1 by unfold wrap64; omega]
      refine tot_mono (ih k (n - 1) (acc ++ [x]) p' (by omega) (by omega) (by omega) (by simp; omega) (by omega) (by omega) (fun y hy => ?_)) (fun r hr => ?_)
      · rcases List.mem_append.1 hy with hy | hy
        · exact ha y hy
        · obtain rfl := List.mem_singleton.1 hy
          exact ⟨x0, x1⟩
      · obtain ⟨h1, h2, h3, h4⟩ := hr
        refine ⟨?_, h2, by omega, by omega⟩
        rw [h1, List.length_append, List.length_singleton]
        omega
    refine tot_pick hs (by omega) h0 (by omega) (by omega) ?_
    intro v v0 v1
    dsimp only
    refine tot_ite (fun _ => ?_) (fun _ => ?_)
    · refine tot_pick hs (by omega) (by omega) (by omega) (by omega) ?_
      intro u u0 u1
      dsimp only
      refine key _ _ ?_ ?_ (by omega) (by omega) <;> first | omega | (simp only [IntKind.wrap_u8, wrap64]; omega)
    · refine tot_pick hs (by omega) (by omega) (by omega) (by omega) ?_
      intro u u0 u1
      dsimp only
      refine key _ _ ?_ ?_ (by omega) (by omega) <;> first | omega | (simp only [IntKind.wrap_u8, wrap64]; omega)
theorem tot_bytes {β : Type} {Q : β → Prop} {F : List Int × Int → Option β} {k : Nat} {s : List Int} {p n : Int} (hs : Code s) (hk : 1000 ≤ k) (h0 : 0 ≤ p) (h1 : p ≤ 800000000) (n0 : 0 ≤ n) (n1 : n < 1000)
    (h : ∀ l p', l.length = n.toNat → (∀ x ∈ l, 0 ≤ x ∧ x ≤ 255) → p ≤ p' → p' ≤ p + 2 * n → Tot Q (F (l, p'))) : Tot Q ((spec_l20Rd_bytes.f k s p n).bind F) := by
  unfold spec_l20Rd_bytes.f
  refine tot_bind (bytes_loop s hs n.toNat k n [] p (by omega) (by omega) (by omega) (by simp; omega) h0 (by omega) (fun x hx => by cases hx)) (fun a ha => ?_)
  obtain ⟨h1, h2, h3, h4⟩ := ha
  exact h a.1 a.2 (by simpa using h1) h2 h3 h4
theorem alive_true (k : Nat) : laws_alive.f (k + 3) = some true := by
  simp [laws_alive.f, impl_BytesOf.f, impl_in.f, impl_bytesOf.f, impl_bytesOf.l0, wrap64, shl, IntKind.wrap, IntKind.bits, IntKind.signed]
/-! ### copies, equality and sizes of rows of bytes -/
theorem wrap_id {n : Int} (h : -9223372036854775808 ≤ n) (h' : n ≤ 9223372036854775807) : wrap64 n = n := by
  unfold wrap64; omega
/-- A loop that fills a row, an element at a time, from the elements of another one. -/
theorem fills {α : Type} (n : Nat) (hn : n ≤ 281474976710656) (L : Nat → List α → Int → Option (List α)) (g : Nat → α)
    (h : ∀ k acc i, k < n + 1 → L (k + 1) acc i = if i < (n : Int) then (if 0 ≤ i then (if i < (acc.length : Int) then L k (acc.set i.toNat (g i.toNat)) (wrap64 (i + 1)) else none) else none) else some acc) :
    ∀ d k (i : Nat) (acc : List α), i + d = n → k = d + 1 → acc.length = n → (∀ j, j < i → acc[j]? = some (g j)) → ∃ r, L k acc (i : Int) = some r ∧ r.length = n ∧ ∀ j, j < n → r[j]? = some (g j) := by
  intro d
  induction d with
  | zero =>
    intro k i acc hi hk hl hp
    subst hk
    refine ⟨acc, ?_, hl, fun j hj => hp j (by omega)⟩
    rw [h _ _ _ (by omega), if_neg (by omega)]
  | succ d ih =>
    intro k i acc hi hk hl hp
    subst hk
    obtain ⟨r, hr, hrl, hrp⟩ := ih (d + 1) (i + 1) (acc.set i (g i)) (by omega) rfl (by simpa using hl) (fun j hj => by
      by_cases hji : j = i
      · subst hji
        simp [List.getElem?_set, hl]
        omega
      · rw [List.getElem?_set_ne (by omega)]
        exact hp j (by omega))
    refine ⟨r, ?_, hrl, hrp⟩
    rw [h _ _ _ (by omega), if_pos (by omega), if_pos (by omega), if_pos (by omega), wrap_id (by omega) (by omega)]
    simpa using hr
theorem rd_at (l : List Int) (i : Nat) (h : i < l.length) : l[i]? = some (rd l (i : Int)) := by
  unfold rd
  rw [List.getD_eq_getElem?_getD, Int.toNat_natCast, List.getElem?_eq_getElem h]
  rfl
theorem eqSl_loop (a b : List Int) (hl : a.length = b.length) (hb : a.length ≤ 281474976710656) : ∀ d k (i : Nat), i + d = a.length → d < k →
    slices_Equal_byte_byte.l0 k a b (a.length : Int) (i : Int) = some (decide (a.drop i = b.drop i)) := by
  intro d
  induction d with
  | zero =>
    intro k i hi hk
    obtain ⟨k, rfl⟩ : ∃ m, k = m + 1 := ⟨k - 1, by omega⟩
    simp only [slices_Equal_byte_byte.l0]
    rw [if_neg (by omega), List.drop_eq_nil_of_le (by omega), List.drop_eq_nil_of_le (by omega)]
    rfl
  | succ d ih =>
    intro k i hi hk
    obtain ⟨k, rfl⟩ : ∃ m, k = m + 1 := ⟨k - 1, by omega⟩
    simp only [slices_Equal_byte_byte.l0]
    rw [if_pos (by omega), if_pos (by omega), if_pos (by omega), if_pos (by omega), wrap_id (by omega) (by omega)]
    have h1 := rd_at a i (by omega)
    have h2 := rd_at b i (by omega)
    have e1 : a.drop i = rd a (i : Int) :: a.drop (i + 1) := by
      rw [List.drop_eq_getElem_cons (by omega)]
      congr 1
      rw [List.getElem?_eq_getElem (by omega)] at h1
      exact Option.some.inj h1
    have e2 : b.drop i = rd b (i : Int) :: b.drop (i + 1) := by
      rw [List.drop_eq_getElem_cons (by omega)]
      congr 1
      rw [List.getElem?_eq_getElem (by omega)] at h2
      exact Option.some.inj h2
    have hr := ih k (i + 1) (by omega) (by omega)
    rw [e1, e2]
    by_cases he : rd a (i : Int) = rd b (i : Int)
    · rw [if_pos he, show ((i : Int) + 1) = ((i + 1 : Nat) : Int) by omega, hr, he]
      simp
    · rw [if_neg he]
      simp [he]
theorem eqSl (a b : List Int) (hb : a.length ≤ 281474976710656) (k : Nat) (hk : a.length < k) : slices_Equal_byte_byte.f k a b = some (decide (a = b)) := by
  unfold slices_Equal_byte_byte.f
  by_cases h : a.length = b.length
  · rw [if_pos (by omega)]
    have := eqSl_loop a b h hb a.length k 0 (by omega) hk
    simpa using this
  · rw [if_neg (by omega)]
    have : a ≠ b := fun e => h (by rw [e])
    simp [this]
/-! ### two bytes of a number -/
theorem specBytes2 (v : Int) (h0 : 0 ≤ v) (h1 : v ≤ 65535) (k : Nat) : spec_BytesOf.f (k + 6) v 2 = some [v / 256 % 256, v % 256] := by
  have e : (8 : Int) * 2 = 16 := rfl
  have hm : ∀ x : Int, 0 ≤ x → Int.tmod x 256 = x % 256 := fun x hx => Int.tmod_eq_emod_of_nonneg hx
  have hs : shr .i64 v 8 = v / 256 := by simp [shr, IntKind.bits]
  have hs0 : shr .i64 v 0 = v := by simp [shr, IntKind.bits]
  have hw : shl .i64 1 16 - 1 = 65535 := by simp [shl, IntKind.wrap, IntKind.bits, IntKind.signed]
  simp only [spec_BytesOf.f, inAll, Option.bind_some]
  simp only [show wrap64 (8 * 2) = 16 from wl (by omega) (by omega) (by omega), hw, show wrap64 65535 = 65535 from wl (by omega) (by omega) (by omega)]
  simp only [show (decide ((1 : Int) ≤ 2 ∧ (2 : Int) ≤ 4)) = true by decide, if_true, show (0 : Int) ≤ 16 by omega, show decide (0 ≤ v ∧ v ≤ 65535) = true by simp [h0, h1]]
  simp only [Bool.not_true, spec_BytesOf.j0, Bool.false_eq_true, if_false, show wrap64 (2 - 1) = 1 from wl (by omega) (by omega) (by omega)]
  rw [spec_BytesOf.l0]
  simp only [show (1 : Int) ≥ 0 by omega, if_true, show wrap64 (8 * 1) = 8 from wl (by omega) (by omega) (by omega), show (0 : Int) ≤ 8 by omega, List.length_nil, show 0 < 140737488355328 by omega, hs, show wrap64 (1 - 1) = 0 from wl (by omega) (by omega) (by omega)]
  rw [spec_BytesOf.l0]
  simp only [show (0 : Int) ≥ 0 by omega, if_true, show wrap64 (8 * 0) = 0 from wl (by omega) (by omega) (by omega), Int.le_refl, hs0, show wrap64 (0 - 1) = -1 from wl (by omega) (by omega) (by omega)]
  rw [if_pos (by simp)]
  rw [spec_BytesOf.l0]
  simp only [show ¬ ((-1 : Int) ≥ 0) by omega, if_false]
  rw [hm _ (by omega), hm _ h0]
  simp
/-! ### two bytes of a number, the program's -/
theorem implBytes2 (v : Int) (k : Nat) : impl_bytesOf.f (k + 4) v 2 = some [v / 256 % 256, v % 256] := by
  simp only [impl_bytesOf.f, show (0 : Int) ≤ 2 by omega, if_true, show (2 : Int).toNat = 2 by rfl, show 2 ≤ 281474976710656 by omega, show wrap64 (2 - 1) = 1 from wl (by omega) (by omega) (by omega)]
  rw [impl_bytesOf.l0]
  simp only [show (1 : Int) ≥ 0 by omega, if_true, show (0 : Int) ≤ 1 by omega, show wrap64 (1 - 1) = 0 from wl (by omega) (by omega) (by omega)]
  rw [if_pos (by simp), impl_bytesOf.l0]
  simp only [show (0 : Int) ≥ 0 by omega, if_true, Int.le_refl, show wrap64 (0 - 1) = -1 from wl (by omega) (by omega) (by omega)]
  rw [if_pos (by simp), impl_bytesOf.l0]
  simp only [show ¬ ((-1 : Int) ≥ 0) by omega, if_false]
  rfl
/-! ### a row's first elements -/
theorem rd_cons0 (a : Int) (l : List Int) : rd (a :: l) 0 = a := by simp [rd]
theorem rd_cons1 (a b : Int) (l : List Int) : rd (a :: b :: l) 1 = b := by simp [rd]
theorem rd_cons2 (a b c : Int) (l : List Int) : rd (a :: b :: c :: l) 2 = c := by simp [rd]
theorem rd_cons3 (a b c d : Int) (l : List Int) : rd (a :: b :: c :: d :: l) 3 = d := by simp [rd]
theorem byte_of {l : List Int} (hw : ∀ x ∈ l, (Lit.int .u8 x).wf = true) (x : Int) (hx : x ∈ l) : 0 ≤ x ∧ x ≤ 255 := by
  have := hw x hx
  simpa [Lit.wf, IntKind.min, IntKind.max, IntKind.signed, IntKind.bits] using this
/-! ### the sum of bytes -/
theorem rd_mem (l : List Int) (i : Nat) (h : i < l.length) : rd l (i : Int) ∈ l := List.mem_of_getElem? (rd_at l i h)
def sW (l : List Int) (j : Nat) : Int := if h : 0 < l.length then SumOf_.so_sumW l (SumOf_.so_evens l.length h j) else 0
theorem sW_zero (l : List Int) : sW l 0 = 0 := by
  unfold sW
  split
  · rfl
  · rfl
theorem addW_val (s a b : Int) (hs : 0 ≤ s ∧ s ≤ 65535) (ha : 0 ≤ a ∧ a ≤ 255) (hb : 0 ≤ b ∧ b ≤ 255) :
    SumOf_.so_addW s (a * 256 + b) = if s + (a * 256 + b) > 65535 then s + (a * 256 + b) - 65535 else s + (a * 256 + b) := by
  have h1 : SumOf_.so_one 0 s = s := by
    unfold SumOf_.so_one
    rw [wrap_id (n := 0 + s) (by omega) (by omega), if_neg (by omega)]
    omega
  unfold SumOf_.so_addW
  rw [h1]
  unfold SumOf_.so_one
  rw [wrap_id (n := s + (a * 256 + b)) (by omega) (by omega)]
  split
  · rw [wrap_id (by omega) (by omega)]
  · rfl
theorem nAt_val (l : List Int) (hb : ∀ x ∈ l, 0 ≤ x ∧ x ≤ 255) (i : Nat) (hi : i < l.length) :
    SumOf_.so_nAt l i = rd l (i : Int) * 256 + (if i + 1 < l.length then rd l ((i + 1 : Nat) : Int) else 0) := by
  have h1 := hb _ (rd_mem l i hi)
  unfold SumOf_.so_nAt
  by_cases h2 : i + 1 < l.length
  · have h3 := hb _ (rd_mem l (i + 1) h2)
    rw [if_pos h2, if_pos h2, wrap_id (n := rd l (i : Int)) (by omega) (by omega), wrap_id (by omega) (by omega), wrap_id (by omega) (by omega)]
    exact or256 _ _ h1.1 (by omega) h3.1 h3.2
  · rw [if_neg h2, if_neg h2, wrap_id (n := rd l (i : Int)) (by omega) (by omega), wrap_id (by omega) (by omega)]
    omega
theorem sW_succ (l : List Int) (j : Nat) (h : 2 * j < l.length) : sW l (j + 1) = SumOf_.so_addW (sW l j) (SumOf_.so_nAt l (2 * j)) := by
  have h0 : 0 < l.length := by omega
  unfold sW
  rw [dif_pos h0, dif_pos h0, SumOf_.so_evens_succ _ _ _ h, SumOf_.so_sumW_snoc]
theorem sW_range (l : List Int) (hb : ∀ x ∈ l, 0 ≤ x ∧ x ≤ 255) : ∀ j, 2 * j ≤ l.length + 1 → 0 ≤ sW l j ∧ sW l j ≤ 65535 := by
  intro j
  induction j with
  | zero => intro _; rw [sW_zero]; omega
  | succ j ih =>
    intro hj
    have h1 := ih (by omega)
    have h2 := hb _ (rd_mem l (2 * j) (by omega))
    rw [sW_succ l j (by omega), nAt_val l hb (2 * j) (by omega)]
    by_cases h3 : 2 * j + 1 < l.length
    · have h4 := hb _ (rd_mem l (2 * j + 1) h3)
      rw [if_pos h3, addW_val _ _ _ h1 h2 h4]
      split <;> omega
    · rw [if_neg h3, addW_val _ _ _ h1 h2 (by omega)]
      split <;> omega
theorem l1Sum_loop (l : List Int) (hb : ∀ x ∈ l, 0 ≤ x ∧ x ≤ 255) (hl : l.length ≤ 1000000000) : ∀ d j k, 2 * j + 2 * d = l.length + l.length % 2 → 2 * d < k →
    spec_l1Sum.l0 k l (sW l j) ((2 * j : Nat) : Int) = some (sW l ((l.length + 1) / 2)) := by
  intro d
  induction d with
  | zero =>
    intro j k hj hk
    obtain ⟨k, rfl⟩ : ∃ q, k = q + 1 := ⟨k - 1, by omega⟩
    have e : j = (l.length + 1) / 2 := by omega
    simp only [spec_l1Sum.l0]
    rw [if_neg (by omega), e]
  | succ d ih =>
    intro j k hj hk
    obtain ⟨k, rfl⟩ : ∃ q, k = q + 1 + 1 := ⟨k - 2, by omega⟩
    have h0 : 2 * j < l.length := by omega
    have hr := sW_range l hb j (by omega)
    have h2 := hb _ (rd_mem l (2 * j) h0)
    have hi := ih (j + 1) 
    rw [sW_succ l j h0, nAt_val l hb (2 * j) h0] at hi
    have e1 : wrap64 (wrap64 (rd l ((2 * j : Nat) : Int)) * 256) = rd l ((2 * j : Nat) : Int) * 256 := by
      rw [wrap_id (n := rd l _) (by omega) (by omega), wrap_id (by omega) (by omega)]
    have e2 : wrap64 (((2 * j : Nat) : Int) + 1) = ((2 * j + 1 : Nat) : Int) := by rw [wrap_id (by omega) (by omega)]; omega
    have ht : Int.tmod ((2 * j : Nat) : Int) 2 = 0 := by rw [Int.tmod_eq_emod_of_nonneg (by omega)]; omega
    have ht1 : ¬ Int.tmod ((2 * j + 1 : Nat) : Int) 2 = 0 := by rw [Int.tmod_eq_emod_of_nonneg (by omega)]; omega
    have e3 : wrap64 (((2 * j + 1 : Nat) : Int) + 1) = ((2 * (j + 1) : Nat) : Int) := by rw [wrap_id (by omega) (by omega)]; omega
    have hw : ∀ z : Int, z = sW l j + rd l ((2 * j : Nat) : Int) * 256 ∨ z = sW l j + rd l ((2 * j : Nat) : Int) * 256 - 65535 → wrap64 z = z := by
      intro z hz
      exact wrap_id (by omega) (by omega)
    rw [spec_l1Sum.l0]
    rw [if_pos (by omega), if_pos ht, if_pos (by omega), e1, e2, hw _ (.inl rfl), hw _ (.inr rfl)]
    by_cases h3 : 2 * j + 1 < l.length
    · have h4 := hb _ (rd_mem l (2 * j + 1) h3)
      rw [if_pos h3, addW_val _ _ _ hr h2 h4] at hi
      have e4 : wrap64 (rd l ((2 * j + 1 : Nat) : Int)) = rd l ((2 * j + 1 : Nat) : Int) := wrap_id (by omega) (by omega)
      split
      · rename_i hc
        rw [spec_l1Sum.l0, if_pos (by omega), if_neg ht1, if_pos (by omega), e4, e3, wrap_id (by omega) (by omega), if_neg (by omega)]
        rw [← hi k (by omega) (by omega), if_pos (by omega)]
        congr 1; omega
      · rename_i hc
        rw [spec_l1Sum.l0, if_pos (by omega), if_neg ht1, if_pos (by omega), e4, e3, wrap_id (n := sW l j + rd l ((2 * j : Nat) : Int) * 256 + rd l ((2 * j + 1 : Nat) : Int)) (by omega) (by omega)]
        split
        · rename_i hd
          rw [wrap_id (by omega) (by omega), ← hi k (by omega) (by omega), if_pos (by omega)]
          congr 1; omega
        · rename_i hd
          rw [← hi k (by omega) (by omega), if_neg (by omega)]
          congr 1; omega
    · have hd0 : d = 0 := by omega
      rw [if_neg h3, addW_val _ _ _ hr h2 (by omega)] at hi
      have he := hi 1 (by omega) (by omega)
      rw [spec_l1Sum.l0, if_neg (by omega)] at he
      split
      · rename_i hc
        rw [spec_l1Sum.l0, if_neg (by omega), ← he, if_pos (by omega)]
        congr 1; omega
      · rename_i hc
        rw [spec_l1Sum.l0, if_neg (by omega), ← he, if_neg (by omega)]
        congr 1; omega
theorem specSum (l : List Int) (hb : ∀ x ∈ l, 0 ≤ x ∧ x ≤ 255) (hl : l.length ≤ 1000000000) (k : Nat) (hk : l.length + 1 < k) : spec_SumOf.f k l = some (65535 - sW l ((l.length + 1) / 2)) := by
  have hr := sW_range l hb ((l.length + 1) / 2) (by omega)
  have h0 := l1Sum_loop l hb hl ((l.length + 1) / 2) 0 k (by omega) (by omega)
  rw [sW_zero] at h0
  simp only [spec_SumOf.f, spec_l1Sum.f]
  rw [show (0 : Int) = ((2 * 0 : Nat) : Int) from rfl] 
  rw [show spec_l1Sum.l0 k l ((2 * 0 : Nat) : Int) ((2 * 0 : Nat) : Int) = _ from h0, Option.bind_some, wrap_id (by omega) (by omega)]
theorem implSum (l : List Int) (hb : ∀ x ∈ l, 0 ≤ x ∧ x ≤ 255) (hl : l.length ≤ 1000000000) : impl_sumOf.f l = some (65535 - sW l ((l.length + 1) / 2)) := by
  have hr := sW_range l hb ((l.length + 1) / 2) (by omega)
  have e : SumOf_.so_sumAll l = sW l ((l.length + 1) / 2) := by
    unfold SumOf_.so_sumAll sW
    by_cases h : 0 < l.length
    · simp only [dif_pos h]
    · simp only [dif_neg h]
  rw [← e] at hr
  rw [impl_sumOf.f, if_pos (by omega), e, wrap_id (by omega) (by omega)]
/-! ### a message as bytes -/
def mailHead (b c : Int) (l : List Int) : List Int := b % 256 :: c % 256 :: (l.length : Int) % 256 :: l
def mailSum (a t : Int) (y : List Int) : Int := 65535 - sW (a / 256 % 256 :: a % 256 :: t / 256 % 256 :: t % 256 :: y) ((y.length + 5) / 2)
def mailOf (a b c : Int) (l : List Int) (t : Int) : List Int :=
  if ((0 ≤ a ∧ a ≤ 65535) ∧ (1 ≤ b ∧ b ≤ 255) ∧ (1 ≤ c ∧ c ≤ 255) ∧ (l.length : Int) ≤ 40) ∧ 0 ≤ t ∧ t ≤ 65535 then
    mailHead b c l ++ [mailSum a t (mailHead b c l) / 256 % 256, mailSum a t (mailHead b c l) % 256] else []
theorem mailHead_byte (b c : Int) (l : List Int) (hb : ∀ x ∈ l, 0 ≤ x ∧ x ≤ 255) : ∀ x ∈ mailHead b c l, 0 ≤ x ∧ x ≤ 255 := by
  intro x hx
  simp only [mailHead, List.mem_cons] at hx
  rcases hx with rfl | rfl | rfl | hx
  · omega
  · omega
  · omega
  · exact hb x hx
theorem mailFull_byte (a t : Int) (y : List Int) (hb : ∀ x ∈ y, 0 ≤ x ∧ x ≤ 255) : ∀ x ∈ (a / 256 % 256 :: a % 256 :: t / 256 % 256 :: t % 256 :: y), 0 ≤ x ∧ x ≤ 255 := by
  intro x hx
  simp only [List.mem_cons] at hx
  rcases hx with rfl | rfl | rfl | rfl | hx
  · omega
  · omega
  · omega
  · omega
  · exact hb x hx
theorem mailSum_range (a t : Int) (y : List Int) (hb : ∀ x ∈ y, 0 ≤ x ∧ x ≤ 255) : 0 ≤ mailSum a t y ∧ mailSum a t y ≤ 65535 := by
  have := sW_range _ (mailFull_byte a t y hb) ((y.length + 5) / 2) (by simp only [List.length_cons]; omega)
  unfold mailSum
  omega
theorem specSum9 (a t : Int) (y : List Int) (ha : 0 ≤ a ∧ a ≤ 65535) (ht : 0 ≤ t ∧ t ≤ 65535) (hb : ∀ x ∈ y, 0 ≤ x ∧ x ≤ 255) (hy : y.length ≤ 2097152) (k : Nat) (hk : y.length < k) :
    spec_l9Sum.f (k + 6) a t y = some (mailSum a t y) := by
  have hs := specSum (a / 256 % 256 :: a % 256 :: t / 256 % 256 :: t % 256 :: y) (mailFull_byte a t y hb) (by simp only [List.length_cons]; omega) (k + 6) (by simp only [List.length_cons]; omega)
  simp only [List.length_cons] at hs
  simp only [spec_l9Sum.f, specBytes2 a ha.1 ha.2 k, specBytes2 t ht.1 ht.2 k, Option.bind_some, List.cons_append, List.nil_append, List.length_cons, List.length_nil]
  rw [if_pos (by omega)]
  rw [if_pos (by omega), hs]
  rfl
/-! ### a message as bytes, the reference's -/
theorem specMail (a b c : Int) (l : List Int) (t : Int) (hb : ∀ x ∈ l, 0 ≤ x ∧ x ≤ 255) (k : Nat) : spec_MailBytes.f (k + 60) a b c l t = some (mailOf a b c l t) := by
  simp only [spec_MailBytes.f, spec_MailOk.f, inAll, Option.bind_some]
  by_cases h1 : 0 ≤ a ∧ a ≤ 65535
  · by_cases h2 : 1 ≤ b ∧ b ≤ 255
    · by_cases h3 : 1 ≤ c ∧ c ≤ 255
      · by_cases h4 : (l.length : Int) ≤ 40
        · by_cases h5 : 0 ≤ t ∧ t ≤ 65535
          · have hy := mailHead_byte b c l hb
            have hs := specSum9 a t (mailHead b c l) h1 h5 hy (by simp [mailHead]; omega) (k + 53) (by simp [mailHead]; omega)
            have hr := mailSum_range a t _ hy
            have hB := specBytes2 (mailSum a t (mailHead b c l)) hr.1 hr.2 (k + 53)
            have hm : mailOf a b c l t = mailHead b c l ++ [mailSum a t (mailHead b c l) / 256 % 256, mailSum a t (mailHead b c l) % 256] := by
              unfold mailOf
              rw [if_pos ⟨⟨h1, h2, h3, h4⟩, h5⟩]
            rw [hm]
            simp only [h1, h2, h3, h4, h5, and_self, decide_true, if_true, Bool.not_true, spec_MailBytes.j0, Bool.false_eq_true, if_false, Option.bind_some]
            rw [if_pos (by simp; omega)]
            rw [show (([b % 256, c % 256, (l.length : Int) % 256] : List Int) ++ l) = mailHead b c l from rfl]
            rw [hs, Option.bind_some, hB, Option.bind_some, if_pos (by simp [mailHead]; omega)]
          · simp [h1, h2, h3, h4, h5, mailOf, spec_MailBytes.j0]
        · simp [h1, h2, h3, h4, mailOf, spec_MailBytes.j0]
      · simp [h1, h2, h3, mailOf, spec_MailBytes.j0]
    · simp [h1, h2, mailOf, spec_MailBytes.j0]
  · simp [h1, mailOf, spec_MailBytes.j0]
/-! ### a message as bytes, the program's -/
theorem implMail (a b c : Int) (l : List Int) (t : Int) (hb : ∀ x ∈ l, 0 ≤ x ∧ x ≤ 255) (k : Nat) : impl_MailBytes.f (k + 60) a b c l t = some (mailOf a b c l t) := by
  simp only [impl_MailBytes.f, impl_MailOk.f, impl_word.f, impl_portOk.f, inAll', Option.bind_some]
  by_cases h1 : 0 ≤ a ∧ a ≤ 65535
  · by_cases h2 : 1 ≤ b ∧ b ≤ 255
    · by_cases h3 : 1 ≤ c ∧ c ≤ 255
      · by_cases h4 : (l.length : Int) ≤ 40
        · by_cases h5 : 0 ≤ t ∧ t ≤ 65535
          · have hy := mailHead_byte b c l hb
            have hs := implSum (a / 256 % 256 :: a % 256 :: t / 256 % 256 :: t % 256 :: mailHead b c l) (mailFull_byte a t _ hy) (by simp [mailHead]; omega)
            have hr := mailSum_range a t _ hy
            have hbt : impl_between.f (k + 59) a t = some [a / 256 % 256, a % 256, t / 256 % 256, t % 256] := by
              simp only [impl_between.f, implBytes2 _ (k + 55), Option.bind_some, slices_Concat_byte_byte.f, List.flatten_cons, List.flatten_nil, List.cons_append, List.nil_append, List.append_nil, List.length_cons, List.length_nil]
              rfl
            have hm : mailOf a b c l t = mailHead b c l ++ [mailSum a t (mailHead b c l) / 256 % 256, mailSum a t (mailHead b c l) % 256] := by
              unfold mailOf
              rw [if_pos ⟨⟨h1, h2, h3, h4⟩, h5⟩]
            rw [hm]
            simp only [h1, h2, h3, h4, h5, and_self, decide_true, if_true, Bool.not_true, impl_MailBytes.j0, Bool.false_eq_true, if_false, Option.bind_some]
            rw [if_pos (by simp; omega)]
            rw [show (([b % 256, c % 256, (l.length : Int) % 256] : List Int) ++ l) = mailHead b c l from rfl]
            have hl2 : (mailHead b c l).length ≤ 43 := by simp [mailHead]; omega
            have hss : impl_sumOf.f (a / 256 % 256 :: a % 256 :: t / 256 % 256 :: t % 256 :: mailHead b c l) = some (mailSum a t (mailHead b c l)) := by
              rw [hs]
              simp only [List.length_cons]
              rfl
            have hc1 : slices_Concat_byte_byte.f [[a / 256 % 256, a % 256, t / 256 % 256, t % 256], mailHead b c l] = some (a / 256 % 256 :: a % 256 :: t / 256 % 256 :: t % 256 :: mailHead b c l) := by
              simp only [slices_Concat_byte_byte.f, List.flatten_cons, List.flatten_nil, List.cons_append, List.nil_append, List.append_nil, List.length_cons]
              rw [if_pos (by omega)]
            have hc2 : ∀ z : List Int, z.length = 2 → slices_Concat_byte_byte.f [mailHead b c l, z] = some (mailHead b c l ++ z) := by
              intro z hz
              simp only [slices_Concat_byte_byte.f, List.flatten_cons, List.flatten_nil, List.append_nil, List.length_append]
              rw [if_pos (by omega)]
            rw [hbt, Option.bind_some, hc1, Option.bind_some, hss, Option.bind_some, implBytes2 _ (k + 55), Option.bind_some, hc2 _ rfl]
            rfl
          · simp [h1, h2, h3, h4, h5, mailOf, impl_MailBytes.j0]
        · simp [h1, h2, h3, h4, mailOf, impl_MailBytes.j0]
      · simp [h1, h2, h3, mailOf, impl_MailBytes.j0]
    · simp [h1, h2, mailOf, impl_MailBytes.j0]
  · simp [h1, mailOf, impl_MailBytes.j0]
/-! ### the sum of bytes, but for 65535 -/
def wt : List Int → Int
  | [] => 0
  | [x] => x * 256
  | x :: y :: r => x * 256 + y + wt r
theorem rd_drop (l : List Int) (i j : Nat) (h : i + j < l.length) : rd (l.drop i) (j : Int) = rd l ((i + j : Nat) : Int) := by
  have h1 := rd_at (l.drop i) j (by simp; omega)
  have h2 := rd_at l (i + j) h
  rw [List.getElem?_drop, h2] at h1
  exact (Option.some.inj h1).symm
theorem drop2 (l : List Int) (i : Nat) (h : i + 1 < l.length) : l.drop i = rd l (i : Int) :: rd l ((i + 1 : Nat) : Int) :: l.drop (i + 2) := by
  have h1 := rd_at l i (by omega)
  have h2 := rd_at l (i + 1) h
  rw [List.getElem?_eq_getElem (by omega)] at h1 h2
  rw [List.drop_eq_getElem_cons (by omega), List.drop_eq_getElem_cons h, Option.some.inj h1, Option.some.inj h2]
theorem drop1 (l : List Int) (i : Nat) (h : i + 1 = l.length) : l.drop i = [rd l (i : Int)] := by
  have h1 := rd_at l i (by omega)
  rw [List.getElem?_eq_getElem (by omega)] at h1
  rw [List.drop_eq_getElem_cons (by omega), Option.some.inj h1, List.drop_eq_nil_of_le (by omega)]
theorem sW_wt (l : List Int) (hb : ∀ x ∈ l, 0 ≤ x ∧ x ≤ 255) : ∀ j, 2 * j ≤ l.length + 1 → (sW l j + wt (l.drop (2 * j)) - wt l) % 65535 = 0 := by
  intro j
  induction j with
  | zero => intro _; rw [sW_zero]; simp
  | succ j ih =>
    intro hj
    have h1 := ih (by omega)
    have h2 := hb _ (rd_mem l (2 * j) (by omega))
    have hr := sW_range l hb j (by omega)
    rw [sW_succ l j (by omega), nAt_val l hb (2 * j) (by omega)]
    by_cases h3 : 2 * j + 1 < l.length
    · have h4 := hb _ (rd_mem l (2 * j + 1) h3)
      rw [if_pos h3, addW_val _ _ _ hr h2 h4]
      rw [drop2 l (2 * j) h3] at h1
      simp only [wt] at h1
      rw [show 2 * (j + 1) = 2 * j + 2 by omega]
      generalize wt (l.drop (2 * j + 2)) = D at h1 ⊢
      split <;> omega
    · rw [if_neg h3, addW_val _ _ _ hr h2 (by omega)]
      rw [drop1 l (2 * j) (by omega)] at h1
      simp only [wt] at h1
      rw [List.drop_eq_nil_of_le (by omega)]
      simp only [wt]
      split <;> omega
theorem sW_all (l : List Int) (hb : ∀ x ∈ l, 0 ≤ x ∧ x ≤ 255) : (sW l ((l.length + 1) / 2) - wt l) % 65535 = 0 := by
  have h := sW_wt l hb ((l.length + 1) / 2) (by omega)
  rw [List.drop_eq_nil_of_le (by omega)] at h
  simpa [wt] using h
theorem wt_set : ∀ (l : List Int) (i : Nat) (v : Int), i < l.length → wt (l.set i v) = wt l + (v - rd l (i : Int)) * (if i % 2 = 0 then 256 else 1)
  | [], i, v, h => by simp at h
  | [x], i, v, h => by
    obtain rfl : i = 0 := by simpa using h
    have e : rd [x] ((0 : Nat) : Int) = x := rfl
    rw [e]
    simp only [List.set_cons_zero, wt, Nat.zero_mod, if_true]
    omega
  | x :: y :: r, 0, v, h => by
    have e : rd (x :: y :: r) ((0 : Nat) : Int) = x := rfl
    rw [e]
    simp only [List.set_cons_zero, wt, Nat.zero_mod, if_true]
    omega
  | x :: y :: r, 1, v, h => by
    have e : rd (x :: y :: r) ((1 : Nat) : Int) = y := rfl
    rw [e]
    simp only [List.set_cons_succ, List.set_cons_zero, wt]
    rw [if_neg (by omega)]
    omega
  | x :: y :: r, i + 2, v, h => by
    have hi : i < r.length := by simpa using h
    have ih := wt_set r i v hi
    have e : rd (x :: y :: r) ((i + 2 : Nat) : Int) = rd r (i : Int) := by
      have h1 := rd_drop (x :: y :: r) 2 i (by simp; omega)
      rw [show i + 2 = 2 + i by omega, ← h1]
      rfl
    rw [e]
    simp only [List.set_cons_succ, wt, ih]
    rw [show (i + 2) % 2 = i % 2 by omega]
    generalize (v - rd r (i : Int)) * (if i % 2 = 0 then 256 else 1) = E
    omega
theorem mailSum_mod (a t : Int) (y : List Int) (ha : 0 ≤ a ∧ a ≤ 65535) (ht : 0 ≤ t ∧ t ≤ 65535) (hb : ∀ x ∈ y, 0 ≤ x ∧ x ≤ 255) : (mailSum a t y + a + t + wt y) % 65535 = 0 := by
  have h := sW_all _ (mailFull_byte a t y hb)
  simp only [List.length_cons] at h
  simp only [wt] at h
  unfold mailSum
  rw [show (y.length + 5) / 2 = (y.length + 1 + 1 + 1 + 1 + 1) / 2 by omega]
  generalize sW _ _ = s at h ⊢
  generalize wt y = w at h ⊢
  omega
/-! ### the message of bytes -/
def fromOf (f t : Int) (b : List Int) : Int × Int × Int × List Int × Bool :=
  if 5 ≤ b.length ∧ mailOf f (rd b 0) (rd b 1) ((b.take (b.length - 2)).drop 3) t = b then (f, rd b 0, rd b 1, (b.take (b.length - 2)).drop 3, true) else (0, 0, 0, [], false)
theorem split5 (b : List Int) (h : 5 ≤ b.length) : ∃ x y z d p q, b = x :: y :: z :: (d ++ [p, q]) := by
  match b, h with
  | x :: y :: z :: r, h =>
    have hr : 2 ≤ r.length := by simp at h; omega
    have e := List.take_append_drop (r.length - 2) r
    have hl : (r.drop (r.length - 2)).length = 2 := by simp; omega
    match hd : r.drop (r.length - 2), hl with
    | [p, q], _ =>
      rw [hd] at e
      exact ⟨x, y, z, r.take (r.length - 2), p, q, by rw [e]⟩
theorem take5 (x y z : Int) (d : List Int) (p q : Int) : List.take (d.length + 3) (x :: y :: z :: (d ++ [p, q])) = x :: y :: z :: d := by simp [List.take_succ_cons]
theorem fromOf_split (f t x y z : Int) (d : List Int) (p q : Int) : fromOf f t (x :: y :: z :: (d ++ [p, q])) = if mailOf f x y d t = x :: y :: z :: (d ++ [p, q]) then (f, x, y, d, true) else (0, 0, 0, [], false) := by
  have hl : (x :: y :: z :: (d ++ [p, q])).length = d.length + 5 := by simp
  unfold fromOf
  rw [hl, show d.length + 5 - 2 = d.length + 3 by omega, take5]
  simp only [rd_cons0, rd_cons1, List.drop_succ_cons, List.drop_zero]
  by_cases h : mailOf f x y d t = x :: y :: z :: (d ++ [p, q])
  · rw [if_pos ⟨by omega, h⟩, if_pos h]
  · rw [if_neg (fun c => h c.2), if_neg h]
theorem fromOf_len (f t : Int) (b : List Int) : (fromOf f t b).2.2.2.1.length ≤ b.length := by
  unfold fromOf
  split
  · simp; omega
  · simp
theorem implMailFrom (f t : Int) (b : List Int) (hl : b.length ≤ 1048576) (hb : ∀ x ∈ b, 0 ≤ x ∧ x ≤ 255) (k : Nat) (hk : b.length < k) : impl_MailFrom.f (k + 60) f t b = some (fromOf f t b) := by
  by_cases h5 : b.length < 5
  · unfold impl_MailFrom.f fromOf
    rw [if_pos (by omega), if_neg (by omega)]
  · obtain ⟨x, y, z, d, p, q, rfl⟩ := split5 b (by omega)
    have hlen : (x :: y :: z :: (d ++ [p, q])).length = d.length + 5 := by simp
    have hx := hb x (by simp)
    have hy := hb y (by simp)
    have hd : ∀ w ∈ d, 0 ≤ w ∧ w ≤ 255 := fun w hw => hb w (by simp [hw])
    rw [hlen] at hl hk
    have e2 : wrap64 (((x :: y :: z :: (d ++ [p, q])).length : Int) - 2) = ((d.length + 3 : Nat) : Int) := by
      rw [hlen, wrap_id (by omega) (by omega)]; omega
    rw [fromOf_split]
    unfold impl_MailFrom.f
    rw [e2, hlen, if_neg (by omega), if_pos (by omega), if_pos (by omega), if_pos (by omega), if_pos (by omega)]
    rw [Int.toNat_natCast, take5]
    simp only [rd_cons0, rd_cons1, List.drop_succ_cons, List.drop_zero, impl_clone_byte.f]
    rw [if_pos (by omega), Option.bind_some, wrap_id (n := x) (by omega) (by omega), wrap_id (n := y) (by omega) (by omega), implMail f x y d t hd k, Option.bind_some]
    have hml : (mailOf f x y d t).length ≤ d.length + 5 := by unfold mailOf; split <;> simp [mailHead]
    rw [eqSl _ _ (by omega) _ (by omega), Option.bind_some]
    by_cases h : mailOf f x y d t = x :: y :: z :: (d ++ [p, q])
    · rw [if_pos h, if_pos (by rw [decide_eq_true h])]
    · rw [if_neg h, if_neg (by rw [decide_eq_false h]; simp)]
/-! ### the message of bytes, the reference's -/
theorem mailOk_spec' (a b c : Int) (l : List Int) : spec_MailOk.f a b c l = some (decide ((0 ≤ a ∧ a ≤ 65535) ∧ (1 ≤ b ∧ b ≤ 255) ∧ (1 ≤ c ∧ c ≤ 255) ∧ (l.length : Int) ≤ 40)) := by
  simp only [spec_MailOk.f, inAll, Option.bind_some]
  by_cases h1 : 0 ≤ a ∧ a ≤ 65535 <;> by_cases h2 : 1 ≤ b ∧ b ≤ 255 <;> by_cases h3 : 1 ≤ c ∧ c ≤ 255 <;> simp [h1, h2, h3]
theorem specNumEnd (y : List Int) (p q : Int) (hl : y.length ≤ 1048576) (hp : 0 ≤ p ∧ p ≤ 255) (hq : 0 ≤ q ∧ q ≤ 255) (k : Nat) : spec_NumberAt.f (k + 4) (y ++ [p, q]) (y.length : Int) 2 = some (p * 256 + q) := by
  have hlen : (y ++ [p, q]).length = y.length + 2 := by simp
  have r0 : rd (y ++ [p, q]) (y.length : Int) = p := by
    have h := rd_at (y ++ [p, q]) y.length (by omega)
    rw [List.getElem?_append_right (by omega), Nat.sub_self] at h
    exact (Option.some.inj h).symm
  have r1 : rd (y ++ [p, q]) ((y.length : Int) + 1) = q := by
    have h := rd_at (y ++ [p, q]) (y.length + 1) (by omega)
    rw [List.getElem?_append_right (by omega), show y.length + 1 - y.length = 1 by omega] at h
    exact (Option.some.inj h).symm
  simp only [spec_NumberAt.f, inAll, Option.bind_some, show decide ((1 : Int) ≤ 2 ∧ (2 : Int) ≤ 4) = true by decide, if_true]
  rw [wl (n := ((y ++ [p, q]).length : Int) - 2) (m := (y.length : Int)) (by omega) (by omega) (by omega)]
  rw [decide_eq_true (show (0 : Int) ≤ y.length ∧ (y.length : Int) ≤ y.length by omega)]
  simp only [Bool.not_true, spec_NumberAt.j0, Bool.false_eq_true, if_false]
  rw [spec_NumberAt.l0]
  rw [if_pos (by omega), wl (n := (y.length : Int) + 0) (m := y.length) (by omega) (by omega) (by omega), if_pos (by omega), if_pos (by omega), r0]
  rw [wl (n := p) rfl (by omega) (by omega), wl (n := 0 * 256) (m := 0) (by omega) (by omega) (by omega), wl (n := 0 + p) (m := p) (by omega) (by omega) (by omega), wl (n := 0 + 1) (m := 1) (by omega) (by omega) (by omega)]
  rw [spec_NumberAt.l0]
  rw [if_pos (by omega), wl (n := (y.length : Int) + 1) rfl (by omega) (by omega), if_pos (by omega), if_pos (by omega), r1]
  rw [wl (n := q) rfl (by omega) (by omega), wl (n := p * 256) rfl (by omega) (by omega), wl (n := p * 256 + q) rfl (by omega) (by omega), wl (n := 1 + 1) (m := 2) (by omega) (by omega) (by omega)]
  rw [spec_NumberAt.l0, if_neg (by omega)]
theorem specMailFrom (f t : Int) (b : List Int) (hl : b.length ≤ 1048576) (hb : ∀ x ∈ b, 0 ≤ x ∧ x ≤ 255) (k : Nat) (hk : b.length < k) : spec_MailFrom.f (k + 60) f t b = some (fromOf f t b) := by
  unfold spec_MailFrom.f
  by_cases h5 : b.length < 5
  · unfold fromOf
    rw [if_pos (by omega), if_neg (by omega)]
    simp [spec_MailFrom.j0]
  · rw [if_neg (by omega)]
    obtain ⟨x, y, z, d, p, q, rfl⟩ := split5 b (by omega)
    have hlen : (x :: y :: z :: (d ++ [p, q])).length = d.length + 5 := by simp
    have hx := hb x (by simp)
    have hy := hb y (by simp)
    have hz := hb z (by simp)
    have hp := hb p (by simp)
    have hq := hb q (by simp)
    have hd : ∀ w ∈ x :: y :: z :: d, 0 ≤ w ∧ w ≤ 255 := fun w hw => hb w (by simp at hw ⊢; rcases hw with h | h | h | h <;> simp [h])
    rw [hlen] at hl hk
    have e2 : wrap64 (((x :: y :: z :: (d ++ [p, q])).length : Int) - 2) = ((d.length + 3 : Nat) : Int) := by
      rw [hlen, wrap_id (by omega) (by omega)]; omega
    rw [fromOf_split]
    simp only [inAll, Option.bind_some]
    have hno : ¬ ((0 ≤ f ∧ f ≤ 65535) ∧ (0 ≤ t ∧ t ≤ 65535)) → ¬ mailOf f x y d t = x :: y :: z :: (d ++ [p, q]) := by
      intro h e
      unfold mailOf at e
      rw [if_neg (fun c => h ⟨c.1.1, c.2⟩)] at e
      cases e
    by_cases hf : 0 ≤ f ∧ f ≤ 65535
    · by_cases ht : 0 ≤ t ∧ t ≤ 65535
      · rw [decide_eq_true hf, decide_eq_true ht]
        simp only [if_true, Bool.not_true, spec_MailFrom.j0, Bool.false_eq_true, if_false]
        rw [e2, hlen, if_pos (by omega), if_pos (by omega)]
        simp only [Option.bind_some, rd_cons0, rd_cons1, rd_cons2, List.length_nil, Nat.zero_add, List.nil_append]
        rw [Int.toNat_natCast, take5]
        simp only [List.drop_succ_cons, List.drop_zero]
        rw [if_pos (by omega), if_pos (by omega), if_pos (by omega), wrap_id (n := x) (by omega) (by omega), wrap_id (n := y) (by omega) (by omega), wrap_id (n := z) (by omega) (by omega), mailOk_spec', Option.bind_some]
        by_cases hok : (0 ≤ f ∧ f ≤ 65535) ∧ (1 ≤ x ∧ x ≤ 255) ∧ (1 ≤ y ∧ y ≤ 255) ∧ (d.length : Int) ≤ 40
        · have hs := specSum9 f t (x :: y :: z :: d) hf ht hd (by simp; omega) (k + 53) (by simp; omega)
          have hr := mailSum_range f t _ hd
          have hn := specNumEnd (x :: y :: z :: d) p q (by simp; omega) hp hq (k + 55)
          rw [show (x :: y :: z :: d) ++ [p, q] = x :: y :: z :: (d ++ [p, q]) from rfl, show ((x :: y :: z :: d).length : Int) = ((d.length + 3 : Nat) : Int) from rfl] at hn
          rw [if_pos (decide_eq_true hok), if_pos (by omega)]
          have hm : mailOf f x y d t = mailHead x y d ++ [mailSum f t (mailHead x y d) / 256 % 256, mailSum f t (mailHead x y d) % 256] := by
            unfold mailOf
            rw [if_pos ⟨hok, ht⟩]
          rw [hm]
          by_cases hzl : z = (d.length : Int)
          · have hH : mailHead x y d = x :: y :: z :: d := by
              unfold mailHead
              rw [show x % 256 = x by omega, show y % 256 = y by omega, show (d.length : Int) % 256 = z by omega]
            rw [if_pos hzl, hn, Option.bind_some, if_pos (by omega), hs, Option.bind_some, hH]
            by_cases he : p * 256 + q = mailSum f t (x :: y :: z :: d)
            · rw [if_pos he, ← he, show (p * 256 + q) / 256 % 256 = p by omega, show (p * 256 + q) % 256 = q by omega, if_pos (show x :: y :: z :: d ++ [p, q] = x :: y :: z :: (d ++ [p, q]) from rfl)]
            · rw [if_neg he, if_neg]
              intro e
              simp only [List.cons_append, List.cons.injEq, List.append_cancel_left_eq, true_and, and_true] at e
              omega
          · rw [if_neg hzl, if_neg]
            intro e
            simp only [mailHead, List.cons_append, List.cons.injEq, List.append_cancel_left_eq, true_and, and_true] at e
            omega
        · rw [if_neg (by rw [decide_eq_false hok]; simp), if_neg]
          intro e
          unfold mailOf at e
          rw [if_neg (fun c => hok c.1)] at e
          cases e
      · rw [decide_eq_true hf, decide_eq_false ht, if_neg (hno (fun c => ht c.2))]
        simp [spec_MailFrom.j0]
    · rw [decide_eq_false hf, if_neg (hno (fun c => hf c.1))]
      simp [spec_MailFrom.j0]
/-! ### a drawn message -/
theorem tot_odd0 {β : Type} {Q : β → Prop} {F : Bool × Int → Option β} {k : Nat} {s : List Int} {p n : Int} (hn : n ≤ 0) (h : Tot Q (F (false, p))) : Tot Q ((spec_l20Rd_odd.f k s p n).bind F) := by
  unfold spec_l20Rd_odd.f
  rw [if_neg (by omega)]
  exact h
theorem mail_tot {s : List Int} (hs : Code s) {k : Nat} (hk : 1000 ≤ k) {p n : Int} (h0 : 0 ≤ p) (h1 : p ≤ 700000000) :
    Tot (fun r : Int × Int × Int × List Int × Int => (0 ≤ r.1 ∧ r.1 ≤ 4) ∧ r.2.2.2.1.length ≤ 41 ∧ (∀ x ∈ r.2.2.2.1, 0 ≤ x ∧ x ≤ 255) ∧ (p ≤ r.2.2.2.2 ∧ r.2.2.2.2 ≤ p + 100) ∧ (n ≤ 0 → (1 ≤ r.2.1 ∧ r.2.1 ≤ 255) ∧ (1 ≤ r.2.2.1 ∧ r.2.2.1 ≤ 255) ∧ r.2.2.2.1.length ≤ 40)) (spec_l20Mail.f k s p n) := by
  have w1 : ∀ v : Int, 0 ≤ v → v < 10 → wrap64 (1 + v) = 1 + v := fun v _ _ => wrap_id (by omega) (by omega)
  unfold spec_l20Mail.f
  refine tot_pick hs (by omega) (by omega) (by omega) (by omega) ?_; intro a a0 a1; dsimp only
  refine tot_pick hs (by omega) (by omega) (by omega) (by omega) ?_; intro b b0 b1; dsimp only
  refine tot_pick hs (by omega) (by omega) (by omega) (by omega) ?_; intro c c0 c1; dsimp only
  refine tot_pick hs (by omega) (by omega) (by omega) (by omega) ?_; intro c' c0' c1'; dsimp only
  refine tot_bytes hs (by omega) (by omega) (by omega) (by omega) (by omega) ?_; intro d p2 d0 d1 q3 q4; dsimp only
  by_cases hn : n ≤ 0
  · refine tot_odd0 hn ?_
    dsimp only
    rw [if_neg (by simp)]
    refine tot_some ⟨⟨by dsimp only; omega, by dsimp only; omega⟩, by dsimp only; omega, d1, ⟨by dsimp only; omega, by dsimp only; omega⟩, fun _ => ⟨?_, ?_, by dsimp only; omega⟩⟩
    · dsimp only; rw [w1 b b0 (by omega)]; omega
    · dsimp only; rw [w1 c c0 (by omega)]; omega
  · refine tot_odd hs (by omega) (by omega) (by omega) ?_; intro e p3 q5 q6; dsimp only
    have fin : ∀ (u v : Int) (z : List Int) (p' : Int), z.length ≤ 41 → (∀ x ∈ z, 0 ≤ x ∧ x ≤ 255) → p ≤ p' → p' ≤ p + 100 →
        Tot (fun r : Int × Int × Int × List Int × Int => (0 ≤ r.1 ∧ r.1 ≤ 4) ∧ r.2.2.2.1.length ≤ 41 ∧ (∀ x ∈ r.2.2.2.1, 0 ≤ x ∧ x ≤ 255) ∧ (p ≤ r.2.2.2.2 ∧ r.2.2.2.2 ≤ p + 100) ∧ (n ≤ 0 → (1 ≤ r.2.1 ∧ r.2.1 ≤ 255) ∧ (1 ≤ r.2.2.1 ∧ r.2.2.1 ≤ 255) ∧ r.2.2.2.1.length ≤ 40)) (some (a, u, v, z, p')) :=
      fun u v z p' hz hb g0 g1 => tot_some ⟨⟨a0, by dsimp only; omega⟩, hz, hb, ⟨g0, g1⟩, fun h => absurd h hn⟩
    refine tot_ite (fun _ => ?_) (fun _ => fin _ _ _ _ (by omega) d1 (by omega) (by omega))
    refine tot_pick hs (by omega) (by omega) (by omega) (by omega) ?_; intro f f0 f1; dsimp only
    refine tot_ite (fun _ => ?_) (fun _ => tot_ite (fun _ => ?_) (fun _ => tot_ite (fun _ => fin _ _ _ _ (by simp) (fun x hx => by simp at hx; omega) (by omega) (by omega)) (fun h => absurd h (by omega))))
    · refine tot_pick hs (by omega) (by omega) (by omega) (by omega) ?_; intro g g0 g1; exact fin _ _ _ _ (by omega) d1 (by omega) (by omega)
    · refine tot_pick hs (by omega) (by omega) (by omega) (by omega) ?_; intro g g0 g1; exact fin _ _ _ _ (by omega) d1 (by omega) (by omega)
theorem sameBytes_refl (l : List Int) : laws_sameBytes.f l l = some true := by simp [laws_sameBytes.f]
def Dl (b : List Int) : Int := wt (b.take (b.length - 2)) + rd b ((b.length - 2 : Nat) : Int) * 256 + rd b ((b.length - 1 : Nat) : Int)
theorem rd_set (b : List Int) (i j : Nat) (v : Int) (hj : j < b.length) : rd (b.set i v) (j : Int) = if i = j then v else rd b (j : Int) := by
  have h1 := rd_at (b.set i v) j (by simpa using hj)
  have h2 := rd_at b j hj
  rw [List.getElem?_set] at h1
  by_cases h : i = j
  · subst h
    rw [if_pos rfl, if_pos hj] at h1
    rw [if_pos rfl]
    exact (Option.some.inj h1).symm
  · rw [if_neg h, h2] at h1
    rw [if_neg h]
    exact (Option.some.inj h1).symm
theorem rd_take (b : List Int) (n i : Nat) (hi : i < n) (hn : n ≤ b.length) : rd (b.take n) (i : Int) = rd b (i : Int) := by
  have h1 := rd_at (b.take n) i (by simp; omega)
  have h2 := rd_at b i (by omega)
  rw [List.getElem?_take, if_pos hi, h2] at h1
  exact (Option.some.inj h1).symm
theorem Dl_set (b : List Int) (i : Nat) (v : Int) (h5 : 2 ≤ b.length) (hi : i < b.length) : Dl (b.set i v) = Dl b + (v - rd b (i : Int)) * 256 ∨ Dl (b.set i v) = Dl b + (v - rd b (i : Int)) := by
  unfold Dl
  rw [List.length_set, rd_set _ _ _ _ (by omega), rd_set _ _ _ _ (by omega)]
  by_cases h1 : i < b.length - 2
  · rw [if_neg (by omega), if_neg (by omega), List.take_set, wt_set _ _ _ (by simp; omega), rd_take _ _ _ h1 (by omega)]
    by_cases h2 : i % 2 = 0
    · rw [if_pos h2]; left; omega
    · rw [if_neg h2]; right; omega
  · have e : (b.set i v).take (b.length - 2) = b.take (b.length - 2) := by
      apply List.ext_getElem?
      intro j
      rw [List.getElem?_take, List.getElem?_take]
      by_cases hj : j < b.length - 2
      · rw [if_pos hj, if_pos hj, List.getElem?_set, if_neg (by omega)]
      · rw [if_neg hj, if_neg hj]
    rw [e]
    by_cases h3 : i = b.length - 2
    · subst h3
      rw [if_pos rfl, if_neg (by omega)]
      left; omega
    · have h4 : i = b.length - 1 := by omega
      subst h4
      rw [if_neg (by omega), if_pos rfl]
      right; omega
theorem ok_D (f t : Int) (b : List Int) (hb : ∀ x ∈ b, 0 ≤ x ∧ x ≤ 255) (h : (fromOf f t b).2.2.2.2 = true) : (f + t + Dl b) % 65535 = 0 ∧ 5 ≤ b.length := by
  by_cases h5 : 5 ≤ b.length
  · refine ⟨?_, h5⟩
    obtain ⟨x, y, z, d, p, q, rfl⟩ := split5 b h5
    rw [fromOf_split] at h
    by_cases he : mailOf f x y d t = x :: y :: z :: (d ++ [p, q])
    · unfold mailOf at he
      by_cases hc : ((0 ≤ f ∧ f ≤ 65535) ∧ (1 ≤ x ∧ x ≤ 255) ∧ (1 ≤ y ∧ y ≤ 255) ∧ (d.length : Int) ≤ 40) ∧ 0 ≤ t ∧ t ≤ 65535
      · rw [if_pos hc] at he
        have hd : ∀ w ∈ d, 0 ≤ w ∧ w ≤ 255 := fun w hw => hb w (by simp [hw])
        have hm := mailSum_mod f t (mailHead x y d) hc.1.1 hc.2 (mailHead_byte x y d hd)
        have hr := mailSum_range f t (mailHead x y d) (mailHead_byte x y d hd)
        have e1 : mailHead x y d = x :: y :: z :: d := by
          have := congrArg (List.take (d.length + 3)) he
          rw [take5, List.take_left' (by simp [mailHead])] at this
          exact this
        rw [e1] at he hm hr
        simp only [List.cons_append, List.cons.injEq, List.append_cancel_left_eq, true_and, and_true] at he
        have hlen : (x :: y :: z :: (d ++ [p, q])).length = d.length + 5 := by simp
        have r0 : rd (x :: y :: z :: (d ++ [p, q])) ((d.length + 3 : Nat) : Int) = p := by
          have h := rd_at ((x :: y :: z :: d) ++ [p, q]) (d.length + 3) (by simp)
          rw [List.getElem?_append_right (by simp), show d.length + 3 - (x :: y :: z :: d).length = 0 by simp] at h
          exact (Option.some.inj h).symm
        have r1 : rd (x :: y :: z :: (d ++ [p, q])) ((d.length + 4 : Nat) : Int) = q := by
          have h := rd_at ((x :: y :: z :: d) ++ [p, q]) (d.length + 4) (by simp)
          rw [List.getElem?_append_right (by simp), show d.length + 4 - (x :: y :: z :: d).length = 1 by simp] at h
          exact (Option.some.inj h).symm
        unfold Dl
        rw [hlen, show d.length + 5 - 2 = d.length + 3 by omega, show d.length + 5 - 1 = d.length + 4 by omega, take5, r0, r1]
        generalize wt (x :: y :: z :: d) = W at hm ⊢
        omega
      · rw [if_neg hc] at he
        cases he
    · rw [if_neg he] at h
      cases h
  · exfalso
    unfold fromOf at h
    rw [if_neg (fun c => h5 c.1)] at h
    cases h
theorem xor2 (x : Int) (h0 : 0 ≤ x) (h1 : x ≤ 255) : (Go.bits .xor .u8 x 2 = x + 2 ∨ Go.bits .xor .u8 x 2 = x - 2) ∧ 0 ≤ Go.bits .xor .u8 x 2 ∧ Go.bits .xor .u8 x 2 ≤ 255 := by
  have h : ∀ n : Fin 256, (Go.bits .xor .u8 (n.val : Int) 2 = (n.val : Int) + 2 ∨ Go.bits .xor .u8 (n.val : Int) 2 = (n.val : Int) - 2) ∧ 0 ≤ Go.bits .xor .u8 (n.val : Int) 2 ∧ Go.bits .xor .u8 (n.val : Int) 2 ≤ 255 := by decide +kernel
  have := h ⟨x.toNat, by omega⟩
  simpa [Int.toNat_of_nonneg h0] using this
theorem bytes_set {b : List Int} (hb : ∀ x ∈ b, 0 ≤ x ∧ x ≤ 255) (i : Nat) (v : Int) (hv : 0 ≤ v ∧ v ≤ 255) : ∀ x ∈ b.set i v, 0 ≤ x ∧ x ≤ 255 := by
  intro x hx
  rcases List.mem_or_eq_of_mem_set hx with h | rfl
  · exact hb x h
  · exact hv
theorem flip (f t : Int) (b : List Int) (hb : ∀ x ∈ b, 0 ≤ x ∧ x ≤ 255) (h : (fromOf f t b).2.2.2.2 = true) (i : Nat) (hi : i < b.length) : (fromOf f t (b.set i (Go.bits .xor .u8 (rd b (i : Int)) 2))).2.2.2.2 = false := by
  have hx := hb _ (rd_mem b i hi)
  obtain ⟨h1, h2⟩ := xor2 _ hx.1 hx.2
  obtain ⟨h3, h5⟩ := ok_D f t b hb h
  cases hq : (fromOf f t (b.set i (Go.bits .xor .u8 (rd b (i : Int)) 2))).2.2.2.2 with
  | false => rfl
  | true =>
    exfalso
    obtain ⟨h6, _⟩ := ok_D f t _ (bytes_set hb i _ h2) hq
    have h7 := Dl_set b i (Go.bits .xor .u8 (rd b (i : Int)) 2) (by omega) hi
    generalize Dl (b.set i (Go.bits .xor .u8 (rd b (i : Int)) 2)) = D1 at h6 h7
    generalize Go.bits .xor .u8 (rd b (i : Int)) 2 = v at h1 h2 h7
    omega
theorem mail_bytes (a b c : Int) (l : List Int) (t : Int) (hb : ∀ x ∈ l, 0 ≤ x ∧ x ≤ 255) : ∀ x ∈ mailOf a b c l t, 0 ≤ x ∧ x ≤ 255 := by
  intro x hx
  unfold mailOf at hx
  split at hx
  · rw [List.mem_append] at hx
    rcases hx with hx | hx
    · exact mailHead_byte b c l hb x hx
    · simp only [List.mem_cons, List.not_mem_nil, or_false] at hx
      rcases hx with rfl | rfl <;> omega
  · cases hx
theorem draw_tot (l : List Int) (hw : ∀ x ∈ l, (Lit.int .u8 x).wf = true) :
    Tot (fun r : Int × Int × List Int => r.2.2.length ≤ 100 ∧ (∀ x ∈ r.2.2, 0 ≤ x ∧ x ≤ 255)) (spec_DrawMailFrom.f 2000 l) := by
  obtain ⟨s, hs, hc⟩ := open_some l hw
  unfold spec_DrawMailFrom.f
  rw [hs, Option.bind_some]
  refine tot_bind (mail_tot hc (by omega) (by dsimp only; omega) (by dsimp only; omega)) (fun r hr => ?_)
  obtain ⟨a, b, c, m, p⟩ := r
  obtain ⟨h1, h2, h3, ⟨h4, h4'⟩, h5⟩ := hr
  have h5 := h5 (Int.le_refl 0)
  dsimp only at h1 h2 h3 h4 h4' h5 ⊢
  refine tot_pick hc (by omega) (by omega) (by omega) (by omega) ?_; intro t t0 t1; dsimp only
  have hm : spec_MailBytes.f 2000 a b c m t = some (mailOf a b c m t) := specMail a b c m t h3 1940
  rw [hm, Option.bind_some]
  have hY := mail_bytes a b c m t h3
  have hL : (mailOf a b c m t).length = m.length + 5 := by
    unfold mailOf
    rw [if_pos ⟨⟨⟨by omega, by omega⟩, h5.1, h5.2.1, by omega⟩, by omega, by omega⟩]
    simp [mailHead]
  generalize mailOf a b c m t = Y at hY hL
  refine tot_pick hc (by omega) (by omega) (by omega) (by omega) ?_; intro e e0 e1; dsimp only
  refine tot_ite (fun _ => ?_) (fun _ => tot_ite (fun _ => ?_) (fun _ => tot_ite (fun _ => ?_) (fun _ => tot_some ⟨by dsimp only; omega, hY⟩)))
  · refine tot_pick hc (by omega) (by omega) (by omega) (by omega) ?_; intro g g0 g1; dsimp only
    refine tot_pick hc (by omega) (by omega) (by omega) (by omega) ?_; intro u u0 u1; dsimp only
    rw [if_pos g0, if_pos g1]
    exact tot_some ⟨by simp; omega, bytes_set hY _ _ (by omega)⟩
  · refine tot_pick hc (by omega) (by omega) (by omega) (by omega) ?_; intro g g0 g1; dsimp only
    rw [if_pos g0, if_pos (by omega)]
    exact tot_some ⟨by simp; omega, fun x hx => hY x (List.mem_of_mem_take hx)⟩
  · refine tot_pick hc (by omega) (by omega) (by omega) (by omega) ?_; intro g g0 g1; dsimp only
    exact tot_some ⟨by dsimp only; omega, hY⟩
theorem loop_ok (f t x y z : Int) (m b : List Int) (hl : b.length ≤ 100) (hb : ∀ x ∈ b, 0 ≤ x ∧ x ≤ 255) (hm : ∀ w ∈ m, 0 ≤ w ∧ w ≤ 255) (hq : (fromOf f t b).2.2.2.2 = true) (he : mailOf x y z m t = b) : ∀ d i k, i + d = b.length → 2 * d + 300 < k →
    laws_FnMailFrom.l0 k f t b true (i : Int) x y z m = some true := by
  intro d
  induction d with
  | zero =>
    intro i k hi hk
    obtain ⟨k, rfl⟩ : ∃ q, k = q + 60 + 2 := ⟨k - 62, by omega⟩
    rw [laws_FnMailFrom.l0, if_neg (by omega), laws_FnMailFrom.j2]
    simp only [Bool.false_eq_true, if_false, if_true, implMail x y z m t hm k, Option.bind_some, he, sameBytes_refl, alive_true (k + 57)]
  | succ d ih =>
    intro i k hi hk
    obtain ⟨k, rfl⟩ : ∃ q, k = q + 60 + 2 := ⟨k - 62, by omega⟩
    have hx := hb _ (rd_mem b i (by omega))
    have h2 := xor2 _ hx.1 hx.2
    have hM := implMailFrom f t (b.set i (Go.bits .xor .u8 (rd b (i : Int)) 2)) (by simp; omega) (bytes_set hb i _ h2.2) k (by simp; omega)
    have hF := flip f t b hb hq i (by omega)
    rw [laws_FnMailFrom.l0, if_pos (by omega), laws_FnMailFrom.j2]
    simp only [if_true, Option.bind_some, List.length_nil, Nat.zero_add, List.nil_append, Int.toNat_natCast]
    rw [if_pos (by omega), if_pos (by omega), if_pos (by omega), hM, Option.bind_some, hF, if_neg (by simp), wrap_id (by omega) (by omega)]
    have := ih (i + 1) (k + 60) (by omega) (by omega)
    rw [show ((i : Int) + 1) = ((i + 1 : Nat) : Int) by omega]
    exact this
theorem main : GFnMailFrom.Stmt := by
  intro l hl0
  obtain ⟨_, hw⟩ := hl0
  refine ⟨2000, ?_⟩
  unfold laws_FnMailFrom.f
  by_cases hl : (l.length : Int) > 1048576
  · rw [if_pos hl]
  · rw [if_neg hl]
    obtain ⟨⟨f, t, b⟩, hd, hbl, hb⟩ := draw_tot l hw
    dsimp only at hbl hb
    have hi : impl_MailFrom.f 2000 f t b = some (fromOf f t b) := implMailFrom f t b (by omega) hb 1940 (by omega)
    have hs : spec_MailFrom.f 2000 f t b = some (fromOf f t b) := specMailFrom f t b (by omega) hb 1940 (by omega)
    have hsame : ∀ (x y z : Int) (m : List Int), laws_sameMail.f x y z m x y z m = some true := fun x y z m => by simp [laws_sameMail.f, sameBytes_refl]
    simp only [hd, Option.bind_some, hi, hs, bne_self_eq_false, Bool.false_eq_true, if_false, hsame, Bool.not_true]
    rw [laws_FnMailFrom.j0]
    simp only [Bool.false_eq_true, if_false]
    by_cases hq : (fromOf f t b).2.2.2.2 = true
    · rw [hq]
      by_cases h5 : 5 ≤ b.length ∧ mailOf f (rd b 0) (rd b 1) ((b.take (b.length - 2)).drop 3) t = b
      · have hR : fromOf f t b = (f, rd b 0, rd b 1, (b.take (b.length - 2)).drop 3, true) := by unfold fromOf; rw [if_pos h5]
        rw [hR]
        exact loop_ok f t _ _ _ _ b hbl hb (fun w hw => hb w (List.mem_of_mem_take (List.mem_of_mem_drop hw))) hq h5.2 b.length 0 1999 (by omega) (by omega)
      · exfalso
        unfold fromOf at hq
        rw [if_neg h5] at hq
        cases hq
    · rw [Bool.eq_false_iff.mpr hq, laws_FnMailFrom.l0]
      have hj : ∀ (u : Int), laws_FnMailFrom.j2 1998 f t b false 0 false (fromOf f t b).1 (fromOf f t b).2.1 (fromOf f t b).2.2.1 (fromOf f t b).2.2.2.1 = some true := fun _ => by
        rw [laws_FnMailFrom.j2]
        simp only [Bool.false_eq_true, if_false, alive_true 1994, Option.bind_some]
      have := hj 0
      split <;> exact this
end FnMailFrom_
theorem FnMailFrom : GFnMailFrom.Stmt := FnMailFrom_.main
end Go.Proofs.Ytfcocnhkimbpbaa.Pure
