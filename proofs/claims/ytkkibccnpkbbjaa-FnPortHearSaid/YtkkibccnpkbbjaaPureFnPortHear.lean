/- The pure law of FnPortHear: whatever the code, the program's PortHear answers on drawn ports and a drawn packet as the reference's; what comes stands in one row, at its end, and what comes back is ok. No conditions but the bytes' range. -/
import Derived.Test.YtkkibccnpkbbjaaGFnPortHear
namespace Go.Proofs.Ytkkibccnpkbbjaa.Pure
open Go Go.RowKit Go.Proofs.Ytkkibccnpkbbjaa.MFnPortsOk Go.Proofs.YtkkibccnpkbbjaaV.PrintWords Go.Proofs.YtkkibccnpkbbjaaV.PrintLast
set_option linter.unusedVariables false
set_option linter.unusedSimpArgs false
namespace FnPortHear_
theorem i64_bounds {x : Int} (h : (Lit.int .i64 x).wf = true) : -9223372036854775808 ≤ x ∧ x ≤ 9223372036854775807 := by
  simpa [Lit.wf, IntKind.min, IntKind.max, IntKind.signed, IntKind.bits] using h
theorem inAll (x y z : Int) : spec_l1In.f x y z = some (decide (y ≤ x ∧ x ≤ z)) := by
  unfold spec_l1In.f
  by_cases h : x ≥ y
  · rw [if_pos h]; congr 1; simp only [decide_eq_decide]; omega
  · rw [if_neg h]; congr 1; symm; simp only [decide_eq_false_iff_not]; omega
theorem inAll' (x y z : Int) : impl_in.f x y z = some (decide (y ≤ x ∧ x ≤ z)) := inAll x y z
theorem wl {n m : Int} (h : n = m) (h0 : -9223372036854775808 ≤ m) (h1 : m ≤ 9223372036854775807) : wrap64 n = m := by
  subst h
  unfold wrap64
  omega
/-! ### bytes put side by side -/
theorem or256 (a b : Int) (ha : 0 ≤ a) (ha' : a ≤ 10000000000) (hb : 0 ≤ b) (hb' : b ≤ 255) : Go.bits .or .i64 (a * 256) b = a * 256 + b := by
  obtain ⟨n, rfl⟩ : ∃ n : Nat, a = n := ⟨a.toNat, by omega⟩
  obtain ⟨m, rfl⟩ : ∃ m : Nat, b = m := ⟨b.toNat, by omega⟩
  have h2 : n * 256 ||| m = n * 256 + m := by
    have := Nat.two_pow_add_eq_or_of_lt (i := 8) (show m < 2 ^ 8 by omega) n
    rw [show 2 ^ 8 * n = n * 256 by omega] at this
    exact this.symm
  have e1 : BitVec.ofInt 64 ((n : Int) * 256) = BitVec.ofNat 64 (n * 256) := by
    rw [show (n : Int) * 256 = ((n * 256 : Nat) : Int) by omega]
    exact BitVec.ofInt_natCast ..
  have e2 : BitVec.ofInt 64 (m : Int) = BitVec.ofNat 64 m := BitVec.ofInt_natCast ..
  have e : (BitVec.ofInt 64 ((n : Int) * 256) ||| BitVec.ofInt 64 (m : Int)).toNat = n * 256 + m := by
    rw [e1, e2, BitVec.toNat_or, BitVec.toNat_ofNat, BitVec.toNat_ofNat, Nat.mod_eq_of_lt (by omega), Nat.mod_eq_of_lt (by omega), h2]
  show IntKind.i64.wrap ((BitVec.ofInt 64 ((n : Int) * 256) ||| BitVec.ofInt 64 (m : Int)).toNat : Int) = _
  rw [e]
  simp only [IntKind.wrap, IntKind.bits, IntKind.signed]
  simp
  omega
/-! ### a draw: a number in 0..n-1, and the place one further -/
theorem xor_nat (a b : Nat) (ha : a < 9223372036854775808) (hb : b < 9223372036854775808) : Go.bits .xor .i64 (a : Int) (b : Int) = ((a ^^^ b : Nat) : Int) := by
  have hx : a ^^^ b < 2 ^ 63 := Nat.xor_lt_two_pow (by omega) (by omega)
  have ha' : a % 2 ^ 64 = a := Nat.mod_eq_of_lt (by omega)
  have hb' : b % 2 ^ 64 = b := Nat.mod_eq_of_lt (by omega)
  have e : IntKind.i64.bits = 64 := rfl
  simp only [Go.bits, BitVec.ofInt_natCast, BitVec.toNat_xor, BitVec.toNat_ofNat, e, ha', hb']
  rw [IntKind.wrap_i64]
  omega
theorem wrap_in {n : Int} (h : -9223372036854775808 ≤ n) (h' : n ≤ 9223372036854775807) : wrap64 n = n := by
  unfold wrap64; omega
theorem u8_bounds {x : Int} (h : (Lit.int .u8 x).wf = true) : 0 ≤ x ∧ x ≤ 255 := by
  simpa [Lit.wf, IntKind.min, IntKind.max, IntKind.signed, IntKind.bits] using h
/-- The bytes of a code. -/
def Code (s : List Int) : Prop := (∀ x ∈ s, 0 ≤ x ∧ x ≤ 255) ∧ s.length ≤ 2000
theorem Code.at {s : List Int} (h : Code s) (i : Int) : 0 ≤ rd s i ∧ rd s i ≤ 255 := by
  unfold rd
  rw [List.getD_eq_getElem?_getD]
  rcases hc : s[i.toNat]? with _ | x
  · simp
  · have := h.1 x (List.mem_of_getElem? hc)
    simpa using this
theorem pick_some (k : Nat) (s : List Int) (p n : Int) (hs : Code s) (h0 : 0 ≤ p) (h1 : p ≤ 1000000000) (hn : 1 ≤ n) :
    ∃ v, spec_l20Rd_pick.f (k + 1) s p n = some (v, p + 1) ∧ 0 ≤ v ∧ v < n := by
  have hl := hs.2
  unfold spec_l20Rd_pick.f
  rw [if_neg (by omega)]
  by_cases hz : s.length = 0
  · refine ⟨0, ?_, by omega, by omega⟩
    simp only [spec_l20Rd_pick.j0]
    rw [if_pos (by simp [hz]), wrap_in (by omega) (by omega)]
  · have hz' : ((s.length : Int) == 0) = false := by simpa using hz
    rw [hz']
    simp only [spec_l20Rd_pick.j0]
    rw [if_neg (by decide), wrap_in (n := p + 1) (by omega) (by omega), show p + 1 - 1 = p by omega, wrap_in (n := p) (by omega) (by omega)]
    by_cases hp : p < (s.length : Int)
    · have hb := hs.at p
      rw [if_pos hp, if_pos h0, if_neg (by omega), wrap_in (by omega) (by omega), Int.tmod_eq_emod_of_nonneg hb.1]
      exact ⟨_, rfl, Int.emod_nonneg _ (by omega), Int.emod_lt_of_pos _ (by omega)⟩
    · rw [if_neg hp, if_neg (by omega)]
      have hL : (0 : Int) < (s.length : Int) := by omega
      rw [wrap_in (n := p * 7) (by omega) (by omega), wrap_in (n := p * 7 + 3) (by omega) (by omega)]
      rw [Int.tmod_eq_emod_of_nonneg h0, Int.tmod_eq_emod_of_nonneg (a := p * 7 + 3) (by omega)]
      have ha0 := Int.emod_nonneg p (b := (s.length : Int)) (by omega)
      have ha1 := Int.emod_lt_of_pos p (b := (s.length : Int)) (by omega)
      have hb0 := Int.emod_nonneg (p * 7 + 3) (b := (s.length : Int)) (by omega)
      have hb1 := Int.emod_lt_of_pos (p * 7 + 3) (b := (s.length : Int)) (by omega)
      rw [if_pos ha0, if_pos ha1, if_pos hb0, if_pos hb1, if_neg (by omega)]
      have hx := hs.at (p % (s.length : Int))
      have hy := hs.at ((p * 7 + 3) % (s.length : Int))
      generalize rd s (p % (s.length : Int)) = x at hx
      generalize rd s ((p * 7 + 3) % (s.length : Int)) = y at hy
      have hd0 : 0 ≤ p / (s.length : Int) := Int.ediv_nonneg h0 (by omega)
      have hd1 : p / (s.length : Int) ≤ p := Int.ediv_le_self _ h0
      rw [Int.tdiv_eq_ediv_of_nonneg h0]
      generalize p / (s.length : Int) = q at hd0 hd1
      rw [wrap_in (n := x) (by omega) (by omega), wrap_in (n := y) (by omega) (by omega), wrap_in (n := x * 131) (by omega) (by omega), wrap_in (n := y * 1117) (by omega) (by omega), wrap_in (n := x * 131 + y * 1117) (by omega) (by omega), wrap_in (n := p * 29) (by omega) (by omega), wrap_in (n := x * 131 + y * 1117 + p * 29) (by omega) (by omega), wrap_in (n := q) (by omega) (by omega), wrap_in (n := q * 53) (by omega) (by omega), wrap_in (n := x * 131 + y * 1117 + p * 29 + q * 53) (by omega) (by omega)]
      obtain ⟨z, hz⟩ : ∃ z : Nat, x * 131 + y * 1117 + p * 29 + q * 53 = (z : Int) := ⟨(x * 131 + y * 1117 + p * 29 + q * 53).toNat, by omega⟩
      rw [hz]
      have hzb : z < 1000000000000 := by omega
      rw [Int.tdiv_eq_ediv_of_nonneg (by omega), wrap_in (n := (z : Int) / 64) (by omega) (by omega)]
      rw [show ((z : Int) / 64) = ((z / 64 : Nat) : Int) by omega, xor_nat _ _ (by omega) (by omega), Int.tmod_eq_emod_of_nonneg (by omega)]
      exact ⟨_, rfl, Int.emod_nonneg _ (by omega), Int.emod_lt_of_pos _ (by omega)⟩
theorem open_some (l : List Int) (hw : ∀ x ∈ l, (Lit.int .u8 x).wf = true) : ∃ s, spec_l20Open.f l = some (s, 0) ∧ Code s := by
  unfold spec_l20Open.f
  have hb : ∀ x ∈ l, 0 ≤ x ∧ x ≤ 255 := fun x hx => u8_bounds (hw x hx)
  by_cases h : (l.length : Int) > 2000
  · rw [if_pos h, if_pos (by omega)]
    exact ⟨_, rfl, fun x hx => hb x (List.mem_of_mem_take hx), by rw [List.length_take]; omega⟩
  · rw [if_neg h]
    exact ⟨_, rfl, hb, by omega⟩
/-! ### what comes to an answer -/
def Tot {β : Type} (Q : β → Prop) (o : Option β) : Prop := ∃ b, o = some b ∧ Q b
theorem tot_some {β : Type} {Q : β → Prop} {b : β} (h : Q b) : Tot Q (some b) := ⟨b, rfl, h⟩
theorem tot_bind {α β : Type} {P : α → Prop} {Q : β → Prop} {o : Option α} {f : α → Option β} (h : Tot P o) (hf : ∀ a, P a → Tot Q (f a)) : Tot Q (o.bind f) := by
  obtain ⟨a, rfl, ha⟩ := h
  exact hf a ha
theorem tot_ite {β : Type} {Q : β → Prop} {c : Prop} [Decidable c] {x y : Option β} (h1 : c → Tot Q x) (h2 : ¬ c → Tot Q y) : Tot Q (if c then x else y) := by
  by_cases h : c
  · rw [if_pos h]; exact h1 h
  · rw [if_neg h]; exact h2 h
theorem tot_mono {β : Type} {P Q : β → Prop} {o : Option β} (h : Tot P o) (hq : ∀ b, P b → Q b) : Tot Q o := by
  obtain ⟨b, hb, hp⟩ := h
  exact ⟨b, hb, hq b hp⟩
theorem tot_none {β : Type} {Q : β → Prop} (h : False) : Tot Q none := h.elim
theorem tot_pick {β : Type} {Q : β → Prop} {F : Int × Int → Option β} {k : Nat} {s : List Int} {p n : Int} (hs : Code s) (hk : 1 ≤ k) (h0 : 0 ≤ p) (h1 : p ≤ 1000000000) (hn : 1 ≤ n)
    (h : ∀ v, 0 ≤ v → v < n → Tot Q (F (v, p + 1))) : Tot Q ((spec_l20Rd_pick.f k s p n).bind F) := by
  obtain ⟨k, rfl⟩ : ∃ m, k = m + 1 := ⟨k - 1, by omega⟩
  obtain ⟨v, hv, v0, v1⟩ := pick_some k s p n hs h0 h1 hn
  rw [hv]
  exact h v v0 v1
theorem tot_odd {β : Type} {Q : β → Prop} {F : Bool × Int → Option β} {k : Nat} {s : List Int} {p n : Int} (hs : Code s) (hk : 1 ≤ k) (h0 : 0 ≤ p) (h1 : p ≤ 1000000000)
    (h : ∀ b p', p ≤ p' → p' ≤ p + 1 → Tot Q (F (b, p'))) : Tot Q ((spec_l20Rd_odd.f k s p n).bind F) := by
  refine tot_bind (P := fun r => p ≤ r.2 ∧ r.2 ≤ p + 1) ?_ (fun a ha => h a.1 a.2 ha.1 ha.2)
  unfold spec_l20Rd_odd.f
  refine tot_ite (fun hn => ?_) (fun hn => ?_)
  · refine tot_pick hs hk h0 h1 (by omega) ?_
    intro v _ _
    exact tot_some (by dsimp only; omega)
  · exact tot_some (by dsimp only; omega)
theorem bytes_loop (s : List Int) (hs : Code s) : ∀ (d : Nat) (k : Nat) (n : Int) (acc : List Int) (p : Int), n = (d : Int) → d < k → d ≤ 1000000 → acc.length + d ≤ 1000000 → 0 ≤ p → p + 2 * n ≤ 900000000 → (∀ x ∈ acc, 0 ≤ x ∧ x ≤ 255) →
    Tot (fun r => r.1.length = acc.length + d ∧ (∀ x ∈ r.1, 0 ≤ x ∧ x ≤ 255) ∧ p ≤ r.2 ∧ r.2 ≤ p + 2 * n) (spec_l20Rd_bytes.l0 k n acc s p) := by
  intro d
  induction d with
  | zero =>
    intro k n acc p hn hk hd hl h0 h1 ha
    obtain ⟨k, rfl⟩ : ∃ m, k = m + 1 := ⟨k - 1, by omega⟩
    simp only [spec_l20Rd_bytes.l0]
    rw [if_neg (by omega)]
    exact tot_some ⟨by simp, ha, by omega, by omega⟩
  | succ d ih =>
    intro k n acc p hn hk hd hl h0 h1 ha
    obtain ⟨k, rfl⟩ : ∃ m, k = m + 1 := ⟨k - 1, by omega⟩
    simp only [spec_l20Rd_bytes.l0]
    rw [if_pos (by omega)]
    have key : ∀ (x p' : Int), 0 ≤ x → x ≤ 255 → p ≤ p' → p' ≤ p + 2 → Tot (fun r : List Int × Int => r.1.length = acc.length + (d + 1) ∧ (∀ x ∈ r.1, 0 ≤ x ∧ x ≤ 255) ∧ p ≤ r.2 ∧ r.2 ≤ p + 2 * n) (if acc.length < 140737488355328 then spec_l20Rd_bytes.l0 k (wrap64 (n - 1)) (acc ++ [x]) s p' else none) := by
      intro x p' x0 x1 hp hp'
      rw [if_pos (by omega), show wrap64 (n - 1) = n - 1 by unfold wrap64; omega]
      refine tot_mono (ih k (n - 1) (acc ++ [x]) p' (by omega) (by omega) (by omega) (by simp; omega) (by omega) (by omega) (fun y hy => ?_)) (fun r hr => ?_)
      · rcases List.mem_append.1 hy with hy | hy
        · exact ha y hy
        · obtain rfl := List.mem_singleton.1 hy
          exact ⟨x0, x1⟩
      · obtain ⟨h1, h2, h3, h4⟩ := hr
        refine ⟨?_, h2, by omega, by omega⟩
        rw [h1, List.length_append, List.length_singleton]
        omega
    refine tot_pick hs (by omega) h0 (by omega) (by omega) ?_
    intro v v0 v1
    dsimp only
    refine tot_ite (fun _ => ?_) (fun _ => ?_)
    · refine tot_pick hs (by omega) (by omega) (by omega) (by omega) ?_
      intro u u0 u1
      dsimp only
      refine key _ _ ?_ ?_ (by omega) (by omega) <;> first | omega | (simp only [IntKind.wrap_u8, wrap64]; omega)
    · refine tot_pick hs (by omega) (by omega) (by omega) (by omega) ?_
      intro u u0 u1
      dsimp only
      refine key _ _ ?_ ?_ (by omega) (by omega) <;> first | omega | (simp only [IntKind.wrap_u8, wrap64]; omega)
theorem tot_bytes {β : Type} {Q : β → Prop} {F : List Int × Int → Option β} {k : Nat} {s : List Int} {p n : Int} (hs : Code s) (hk : 1000 ≤ k) (h0 : 0 ≤ p) (h1 : p ≤ 800000000) (n0 : 0 ≤ n) (n1 : n < 1000)
    (h : ∀ l p', l.length = n.toNat → (∀ x ∈ l, 0 ≤ x ∧ x ≤ 255) → p ≤ p' → p' ≤ p + 2 * n → Tot Q (F (l, p'))) : Tot Q ((spec_l20Rd_bytes.f k s p n).bind F) := by
  unfold spec_l20Rd_bytes.f
  refine tot_bind (bytes_loop s hs n.toNat k n [] p (by omega) (by omega) (by omega) (by simp; omega) h0 (by omega) (fun x hx => by cases hx)) (fun a ha => ?_)
  obtain ⟨h1, h2, h3, h4⟩ := ha
  exact h a.1 a.2 (by simpa using h1) h2 h3 h4
theorem alive_true (k : Nat) : laws_alive.f (k + 3) = some true := by
  simp [laws_alive.f, impl_BytesOf.f, impl_in.f, impl_bytesOf.f, impl_bytesOf.l0, wrap64, shl, IntKind.wrap, IntKind.bits, IntKind.signed]
/-! ### copies, equality and sizes of rows of bytes -/
theorem wrap_id {n : Int} (h : -9223372036854775808 ≤ n) (h' : n ≤ 9223372036854775807) : wrap64 n = n := by
  unfold wrap64; omega
/-- A loop that fills a row, an element at a time, from the elements of another one. -/
theorem fills {α : Type} (n : Nat) (hn : n ≤ 281474976710656) (L : Nat → List α → Int → Option (List α)) (g : Nat → α)
    (h : ∀ k acc i, k < n + 1 → L (k + 1) acc i = if i < (n : Int) then (if 0 ≤ i then (if i < (acc.length : Int) then L k (acc.set i.toNat (g i.toNat)) (wrap64 (i + 1)) else none) else none) else some acc) :
    ∀ d k (i : Nat) (acc : List α), i + d = n → k = d + 1 → acc.length = n → (∀ j, j < i → acc[j]? = some (g j)) → ∃ r, L k acc (i : Int) = some r ∧ r.length = n ∧ ∀ j, j < n → r[j]? = some (g j) := by
  intro d
  induction d with
  | zero =>
    intro k i acc hi hk hl hp
    subst hk
    refine ⟨acc, ?_, hl, fun j hj => hp j (by omega)⟩
    rw [h _ _ _ (by omega), if_neg (by omega)]
  | succ d ih =>
    intro k i acc hi hk hl hp
    subst hk
    obtain ⟨r, hr, hrl, hrp⟩ := ih (d + 1) (i + 1) (acc.set i (g i)) (by omega) rfl (by simpa using hl) (fun j hj => by
      by_cases hji : j = i
      · subst hji
        simp [List.getElem?_set, hl]
        omega
      · rw [List.getElem?_set_ne (by omega)]
        exact hp j (by omega))
    refine ⟨r, ?_, hrl, hrp⟩
    rw [h _ _ _ (by omega), if_pos (by omega), if_pos (by omega), if_pos (by omega), wrap_id (by omega) (by omega)]
    simpa using hr
theorem rd_at (l : List Int) (i : Nat) (h : i < l.length) : l[i]? = some (rd l (i : Int)) := by
  unfold rd
  rw [List.getD_eq_getElem?_getD, Int.toNat_natCast, List.getElem?_eq_getElem h]
  rfl
theorem eqSl_loop (a b : List Int) (hl : a.length = b.length) (hb : a.length ≤ 281474976710656) : ∀ d k (i : Nat), i + d = a.length → d < k →
    slices_Equal_byte_byte.l0 k a b (a.length : Int) (i : Int) = some (decide (a.drop i = b.drop i)) := by
  intro d
  induction d with
  | zero =>
    intro k i hi hk
    obtain ⟨k, rfl⟩ : ∃ m, k = m + 1 := ⟨k - 1, by omega⟩
    simp only [slices_Equal_byte_byte.l0]
    rw [if_neg (by omega), List.drop_eq_nil_of_le (by omega), List.drop_eq_nil_of_le (by omega)]
    rfl
  | succ d ih =>
    intro k i hi hk
    obtain ⟨k, rfl⟩ : ∃ m, k = m + 1 := ⟨k - 1, by omega⟩
    simp only [slices_Equal_byte_byte.l0]
    rw [if_pos (by omega), if_pos (by omega), if_pos (by omega), if_pos (by omega), wrap_id (by omega) (by omega)]
    have h1 := rd_at a i (by omega)
    have h2 := rd_at b i (by omega)
    have e1 : a.drop i = rd a (i : Int) :: a.drop (i + 1) := by
      rw [List.drop_eq_getElem_cons (by omega)]
      congr 1
      rw [List.getElem?_eq_getElem (by omega)] at h1
      exact Option.some.inj h1
    have e2 : b.drop i = rd b (i : Int) :: b.drop (i + 1) := by
      rw [List.drop_eq_getElem_cons (by omega)]
      congr 1
      rw [List.getElem?_eq_getElem (by omega)] at h2
      exact Option.some.inj h2
    have hr := ih k (i + 1) (by omega) (by omega)
    rw [e1, e2]
    by_cases he : rd a (i : Int) = rd b (i : Int)
    · rw [if_pos he, show ((i : Int) + 1) = ((i + 1 : Nat) : Int) by omega, hr, he]
      simp
    · rw [if_neg he]
      simp [he]
theorem eqSl (a b : List Int) (hb : a.length ≤ 281474976710656) (k : Nat) (hk : a.length < k) : slices_Equal_byte_byte.f k a b = some (decide (a = b)) := by
  unfold slices_Equal_byte_byte.f
  by_cases h : a.length = b.length
  · rw [if_pos (by omega)]
    have := eqSl_loop a b h hb a.length k 0 (by omega) hk
    simpa using this
  · rw [if_neg (by omega)]
    have : a ≠ b := fun e => h (by rw [e])
    simp [this]
/-! ### two bytes of a number -/
theorem specBytes2 (v : Int) (h0 : 0 ≤ v) (h1 : v ≤ 65535) (k : Nat) : spec_BytesOf.f (k + 6) v 2 = some [v / 256 % 256, v % 256] := by
  have e : (8 : Int) * 2 = 16 := rfl
  have hm : ∀ x : Int, 0 ≤ x → Int.tmod x 256 = x % 256 := fun x hx => Int.tmod_eq_emod_of_nonneg hx
  have hs : shr .i64 v 8 = v / 256 := by simp [shr, IntKind.bits]
  have hs0 : shr .i64 v 0 = v := by simp [shr, IntKind.bits]
  have hw : shl .i64 1 16 - 1 = 65535 := by simp [shl, IntKind.wrap, IntKind.bits, IntKind.signed]
  simp only [spec_BytesOf.f, inAll, Option.bind_some]
  simp only [show wrap64 (8 * 2) = 16 from wl (by omega) (by omega) (by omega), hw, show wrap64 65535 = 65535 from wl (by omega) (by omega) (by omega)]
  simp only [show (decide ((1 : Int) ≤ 2 ∧ (2 : Int) ≤ 4)) = true by decide, if_true, show (0 : Int) ≤ 16 by omega, show decide (0 ≤ v ∧ v ≤ 65535) = true by simp [h0, h1]]
  simp only [Bool.not_true, spec_BytesOf.j0, Bool.false_eq_true, if_false, show wrap64 (2 - 1) = 1 from wl (by omega) (by omega) (by omega)]
  rw [spec_BytesOf.l0]
  simp only [show (1 : Int) ≥ 0 by omega, if_true, show wrap64 (8 * 1) = 8 from wl (by omega) (by omega) (by omega), show (0 : Int) ≤ 8 by omega, List.length_nil, show 0 < 140737488355328 by omega, hs, show wrap64 (1 - 1) = 0 from wl (by omega) (by omega) (by omega)]
  rw [spec_BytesOf.l0]
  simp only [show (0 : Int) ≥ 0 by omega, if_true, show wrap64 (8 * 0) = 0 from wl (by omega) (by omega) (by omega), Int.le_refl, hs0, show wrap64 (0 - 1) = -1 from wl (by omega) (by omega) (by omega)]
  rw [if_pos (by simp)]
  rw [spec_BytesOf.l0]
  simp only [show ¬ ((-1 : Int) ≥ 0) by omega, if_false]
  rw [hm _ (by omega), hm _ h0]
  simp
/-! ### two bytes of a number, the program's -/
theorem implBytes2 (v : Int) (k : Nat) : impl_bytesOf.f (k + 4) v 2 = some [v / 256 % 256, v % 256] := by
  simp only [impl_bytesOf.f, show (0 : Int) ≤ 2 by omega, if_true, show (2 : Int).toNat = 2 by rfl, show 2 ≤ 281474976710656 by omega, show wrap64 (2 - 1) = 1 from wl (by omega) (by omega) (by omega)]
  rw [impl_bytesOf.l0]
  simp only [show (1 : Int) ≥ 0 by omega, if_true, show (0 : Int) ≤ 1 by omega, show wrap64 (1 - 1) = 0 from wl (by omega) (by omega) (by omega)]
  rw [if_pos (by simp), impl_bytesOf.l0]
  simp only [show (0 : Int) ≥ 0 by omega, if_true, Int.le_refl, show wrap64 (0 - 1) = -1 from wl (by omega) (by omega) (by omega)]
  rw [if_pos (by simp), impl_bytesOf.l0]
  simp only [show ¬ ((-1 : Int) ≥ 0) by omega, if_false]
  rfl
/-! ### a row's first elements -/
theorem rd_cons0 (a : Int) (l : List Int) : rd (a :: l) 0 = a := by simp [rd]
theorem rd_cons1 (a b : Int) (l : List Int) : rd (a :: b :: l) 1 = b := by simp [rd]
theorem rd_cons2 (a b c : Int) (l : List Int) : rd (a :: b :: c :: l) 2 = c := by simp [rd]
theorem rd_cons3 (a b c d : Int) (l : List Int) : rd (a :: b :: c :: d :: l) 3 = d := by simp [rd]
theorem byte_of {l : List Int} (hw : ∀ x ∈ l, (Lit.int .u8 x).wf = true) (x : Int) (hx : x ∈ l) : 0 ≤ x ∧ x ≤ 255 := by
  have := hw x hx
  simpa [Lit.wf, IntKind.min, IntKind.max, IntKind.signed, IntKind.bits] using this
/-! ### the sum of bytes -/
theorem rd_mem (l : List Int) (i : Nat) (h : i < l.length) : rd l (i : Int) ∈ l := List.mem_of_getElem? (rd_at l i h)
def sW (l : List Int) (j : Nat) : Int := if h : 0 < l.length then SumOf_.so_sumW l (SumOf_.so_evens l.length h j) else 0
theorem sW_zero (l : List Int) : sW l 0 = 0 := by
  unfold sW
  split
  · rfl
  · rfl
theorem addW_val (s a b : Int) (hs : 0 ≤ s ∧ s ≤ 65535) (ha : 0 ≤ a ∧ a ≤ 255) (hb : 0 ≤ b ∧ b ≤ 255) :
    SumOf_.so_addW s (a * 256 + b) = if s + (a * 256 + b) > 65535 then s + (a * 256 + b) - 65535 else s + (a * 256 + b) := by
  have h1 : SumOf_.so_one 0 s = s := by
    unfold SumOf_.so_one
    rw [wrap_id (n := 0 + s) (by omega) (by omega), if_neg (by omega)]
    omega
  unfold SumOf_.so_addW
  rw [h1]
  unfold SumOf_.so_one
  rw [wrap_id (n := s + (a * 256 + b)) (by omega) (by omega)]
  split
  · rw [wrap_id (by omega) (by omega)]
  · rfl
theorem nAt_val (l : List Int) (hb : ∀ x ∈ l, 0 ≤ x ∧ x ≤ 255) (i : Nat) (hi : i < l.length) :
    SumOf_.so_nAt l i = rd l (i : Int) * 256 + (if i + 1 < l.length then rd l ((i + 1 : Nat) : Int) else 0) := by
  have h1 := hb _ (rd_mem l i hi)
  unfold SumOf_.so_nAt
  by_cases h2 : i + 1 < l.length
  · have h3 := hb _ (rd_mem l (i + 1) h2)
    rw [if_pos h2, if_pos h2, wrap_id (n := rd l (i : Int)) (by omega) (by omega), wrap_id (by omega) (by omega), wrap_id (by omega) (by omega)]
    exact or256 _ _ h1.1 (by omega) h3.1 h3.2
  · rw [if_neg h2, if_neg h2, wrap_id (n := rd l (i : Int)) (by omega) (by omega), wrap_id (by omega) (by omega)]
    omega
theorem sW_succ (l : List Int) (j : Nat) (h : 2 * j < l.length) : sW l (j + 1) = SumOf_.so_addW (sW l j) (SumOf_.so_nAt l (2 * j)) := by
  have h0 : 0 < l.length := by omega
  unfold sW
  rw [dif_pos h0, dif_pos h0, SumOf_.so_evens_succ _ _ _ h, SumOf_.so_sumW_snoc]
theorem sW_range (l : List Int) (hb : ∀ x ∈ l, 0 ≤ x ∧ x ≤ 255) : ∀ j, 2 * j ≤ l.length + 1 → 0 ≤ sW l j ∧ sW l j ≤ 65535 := by
  intro j
  induction j with
  | zero => intro _; rw [sW_zero]; omega
  | succ j ih =>
    intro hj
    have h1 := ih (by omega)
    have h2 := hb _ (rd_mem l (2 * j) (by omega))
    rw [sW_succ l j (by omega), nAt_val l hb (2 * j) (by omega)]
    by_cases h3 : 2 * j + 1 < l.length
    · have h4 := hb _ (rd_mem l (2 * j + 1) h3)
      rw [if_pos h3, addW_val _ _ _ h1 h2 h4]
      split <;> omega
    · rw [if_neg h3, addW_val _ _ _ h1 h2 (by omega)]
      split <;> omega
theorem l1Sum_loop (l : List Int) (hb : ∀ x ∈ l, 0 ≤ x ∧ x ≤ 255) (hl : l.length ≤ 1000000000) : ∀ d j k, 2 * j + 2 * d = l.length + l.length % 2 → 2 * d < k →
    spec_l1Sum.l0 k l (sW l j) ((2 * j : Nat) : Int) = some (sW l ((l.length + 1) / 2)) := by
  intro d
  induction d with
  | zero =>
    intro j k hj hk
    obtain ⟨k, rfl⟩ : ∃ q, k = q + 1 := ⟨k - 1, by omega⟩
    have e : j = (l.length + 1) / 2 := by omega
    simp only [spec_l1Sum.l0]
    rw [if_neg (by omega), e]
  | succ d ih =>
    intro j k hj hk
    obtain ⟨k, rfl⟩ : ∃ q, k = q + 1 + 1 := ⟨k - 2, by omega⟩
    have h0 : 2 * j < l.length := by omega
    have hr := sW_range l hb j (by omega)
    have h2 := hb _ (rd_mem l (2 * j) h0)
    have hi := ih (j + 1) 
    rw [sW_succ l j h0, nAt_val l hb (2 * j) h0] at hi
    have e1 : wrap64 (wrap64 (rd l ((2 * j : Nat) : Int)) * 256) = rd l ((2 * j : Nat) : Int) * 256 := by
      rw [wrap_id (n := rd l _) (by omega) (by omega), wrap_id (by omega) (by omega)]
    have e2 : wrap64 (((2 * j : Nat) : Int) + 1) = ((2 * j + 1 : Nat) : Int) := by rw [wrap_id (by omega) (by omega)]; omega
    have ht : Int.tmod ((2 * j : Nat) : Int) 2 = 0 := by rw [Int.tmod_eq_emod_of_nonneg (by omega)]; omega
    have ht1 : ¬ Int.tmod ((2 * j + 1 : Nat) : Int) 2 = 0 := by rw [Int.tmod_eq_emod_of_nonneg (by omega)]; omega
    have e3 : wrap64 (((2 * j + 1 : Nat) : Int) + 1) = ((2 * (j + 1) : Nat) : Int) := by rw [wrap_id (by omega) (by omega)]; omega
    have hw : ∀ z : Int, z = sW l j + rd l ((2 * j : Nat) : Int) * 256 ∨ z = sW l j + rd l ((2 * j : Nat) : Int) * 256 - 65535 → wrap64 z = z := by
      intro z hz
      exact wrap_id (by omega) (by omega)
    rw [spec_l1Sum.l0]
    rw [if_pos (by omega), if_pos ht, if_pos (by omega), e1, e2, hw _ (.inl rfl), hw _ (.inr rfl)]
    by_cases h3 : 2 * j + 1 < l.length
    · have h4 := hb _ (rd_mem l (2 * j + 1) h3)
      rw [if_pos h3, addW_val _ _ _ hr h2 h4] at hi
      have e4 : wrap64 (rd l ((2 * j + 1 : Nat) : Int)) = rd l ((2 * j + 1 : Nat) : Int) := wrap_id (by omega) (by omega)
      split
      · rename_i hc
        rw [spec_l1Sum.l0, if_pos (by omega), if_neg ht1, if_pos (by omega), e4, e3, wrap_id (by omega) (by omega), if_neg (by omega)]
        rw [← hi k (by omega) (by omega), if_pos (by omega)]
        congr 1; omega
      · rename_i hc
        rw [spec_l1Sum.l0, if_pos (by omega), if_neg ht1, if_pos (by omega), e4, e3, wrap_id (n := sW l j + rd l ((2 * j : Nat) : Int) * 256 + rd l ((2 * j + 1 : Nat) : Int)) (by omega) (by omega)]
        split
        · rename_i hd
          rw [wrap_id (by omega) (by omega), ← hi k (by omega) (by omega), if_pos (by omega)]
          congr 1; omega
        · rename_i hd
          rw [← hi k (by omega) (by omega), if_neg (by omega)]
          congr 1; omega
    · have hd0 : d = 0 := by omega
      rw [if_neg h3, addW_val _ _ _ hr h2 (by omega)] at hi
      have he := hi 1 (by omega) (by omega)
      rw [spec_l1Sum.l0, if_neg (by omega)] at he
      split
      · rename_i hc
        rw [spec_l1Sum.l0, if_neg (by omega), ← he, if_pos (by omega)]
        congr 1; omega
      · rename_i hc
        rw [spec_l1Sum.l0, if_neg (by omega), ← he, if_neg (by omega)]
        congr 1; omega
theorem specSum (l : List Int) (hb : ∀ x ∈ l, 0 ≤ x ∧ x ≤ 255) (hl : l.length ≤ 1000000000) (k : Nat) (hk : l.length + 1 < k) : spec_SumOf.f k l = some (65535 - sW l ((l.length + 1) / 2)) := by
  have hr := sW_range l hb ((l.length + 1) / 2) (by omega)
  have h0 := l1Sum_loop l hb hl ((l.length + 1) / 2) 0 k (by omega) (by omega)
  rw [sW_zero] at h0
  simp only [spec_SumOf.f, spec_l1Sum.f]
  rw [show (0 : Int) = ((2 * 0 : Nat) : Int) from rfl] 
  rw [show spec_l1Sum.l0 k l ((2 * 0 : Nat) : Int) ((2 * 0 : Nat) : Int) = _ from h0, Option.bind_some, wrap_id (by omega) (by omega)]
theorem implSum (l : List Int) (hb : ∀ x ∈ l, 0 ≤ x ∧ x ≤ 255) (hl : l.length ≤ 1000000000) : impl_sumOf.f l = some (65535 - sW l ((l.length + 1) / 2)) := by
  have hr := sW_range l hb ((l.length + 1) / 2) (by omega)
  have e : SumOf_.so_sumAll l = sW l ((l.length + 1) / 2) := by
    unfold SumOf_.so_sumAll sW
    by_cases h : 0 < l.length
    · simp only [dif_pos h]
    · simp only [dif_neg h]
  rw [← e] at hr
  rw [impl_sumOf.f, if_pos (by omega), e, wrap_id (by omega) (by omega)]
/-! ### a message as bytes -/
def mailHead (b c : Int) (l : List Int) : List Int := b % 256 :: c % 256 :: (l.length : Int) % 256 :: l
def mailSum (a t : Int) (y : List Int) : Int := 65535 - sW (a / 256 % 256 :: a % 256 :: t / 256 % 256 :: t % 256 :: y) ((y.length + 5) / 2)
def mailOf (a b c : Int) (l : List Int) (t : Int) : List Int :=
  if ((0 ≤ a ∧ a ≤ 65535) ∧ (1 ≤ b ∧ b ≤ 255) ∧ (1 ≤ c ∧ c ≤ 255) ∧ (l.length : Int) ≤ 40) ∧ 0 ≤ t ∧ t ≤ 65535 then
    mailHead b c l ++ [mailSum a t (mailHead b c l) / 256 % 256, mailSum a t (mailHead b c l) % 256] else []
theorem mailHead_byte (b c : Int) (l : List Int) (hb : ∀ x ∈ l, 0 ≤ x ∧ x ≤ 255) : ∀ x ∈ mailHead b c l, 0 ≤ x ∧ x ≤ 255 := by
  intro x hx
  simp only [mailHead, List.mem_cons] at hx
  rcases hx with rfl | rfl | rfl | hx
  · omega
  · omega
  · omega
  · exact hb x hx
theorem mailFull_byte (a t : Int) (y : List Int) (hb : ∀ x ∈ y, 0 ≤ x ∧ x ≤ 255) : ∀ x ∈ (a / 256 % 256 :: a % 256 :: t / 256 % 256 :: t % 256 :: y), 0 ≤ x ∧ x ≤ 255 := by
  intro x hx
  simp only [List.mem_cons] at hx
  rcases hx with rfl | rfl | rfl | rfl | hx
  · omega
  · omega
  · omega
  · omega
  · exact hb x hx
theorem mailSum_range (a t : Int) (y : List Int) (hb : ∀ x ∈ y, 0 ≤ x ∧ x ≤ 255) : 0 ≤ mailSum a t y ∧ mailSum a t y ≤ 65535 := by
  have := sW_range _ (mailFull_byte a t y hb) ((y.length + 5) / 2) (by simp only [List.length_cons]; omega)
  unfold mailSum
  omega
theorem specSum9 (a t : Int) (y : List Int) (ha : 0 ≤ a ∧ a ≤ 65535) (ht : 0 ≤ t ∧ t ≤ 65535) (hb : ∀ x ∈ y, 0 ≤ x ∧ x ≤ 255) (hy : y.length ≤ 2097152) (k : Nat) (hk : y.length < k) :
    spec_l9Sum.f (k + 6) a t y = some (mailSum a t y) := by
  have hs := specSum (a / 256 % 256 :: a % 256 :: t / 256 % 256 :: t % 256 :: y) (mailFull_byte a t y hb) (by simp only [List.length_cons]; omega) (k + 6) (by simp only [List.length_cons]; omega)
  simp only [List.length_cons] at hs
  simp only [spec_l9Sum.f, specBytes2 a ha.1 ha.2 k, specBytes2 t ht.1 ht.2 k, Option.bind_some, List.cons_append, List.nil_append, List.length_cons, List.length_nil]
  rw [if_pos (by omega)]
  rw [if_pos (by omega), hs]
  rfl
/-! ### a message as bytes, the reference's -/
theorem specMail (a b c : Int) (l : List Int) (t : Int) (hb : ∀ x ∈ l, 0 ≤ x ∧ x ≤ 255) (k : Nat) : spec_MailBytes.f (k + 60) a b c l t = some (mailOf a b c l t) := by
  simp only [spec_MailBytes.f, spec_MailOk.f, inAll, Option.bind_some]
  by_cases h1 : 0 ≤ a ∧ a ≤ 65535
  · by_cases h2 : 1 ≤ b ∧ b ≤ 255
    · by_cases h3 : 1 ≤ c ∧ c ≤ 255
      · by_cases h4 : (l.length : Int) ≤ 40
        · by_cases h5 : 0 ≤ t ∧ t ≤ 65535
          · have hy := mailHead_byte b c l hb
            have hs := specSum9 a t (mailHead b c l) h1 h5 hy (by simp [mailHead]; omega) (k + 53) (by simp [mailHead]; omega)
            have hr := mailSum_range a t _ hy
            have hB := specBytes2 (mailSum a t (mailHead b c l)) hr.1 hr.2 (k + 53)
            have hm : mailOf a b c l t = mailHead b c l ++ [mailSum a t (mailHead b c l) / 256 % 256, mailSum a t (mailHead b c l) % 256] := by
              unfold mailOf
              rw [if_pos ⟨⟨h1, h2, h3, h4⟩, h5⟩]
            rw [hm]
            simp only [h1, h2, h3, h4, h5, and_self, decide_true, if_true, Bool.not_true, spec_MailBytes.j0, Bool.false_eq_true, if_false, Option.bind_some]
            rw [if_pos (by simp; omega)]
            rw [show (([b % 256, c % 256, (l.length : Int) % 256] : List Int) ++ l) = mailHead b c l from rfl]
            rw [hs, Option.bind_some, hB, Option.bind_some, if_pos (by simp [mailHead]; omega)]
          · simp [h1, h2, h3, h4, h5, mailOf, spec_MailBytes.j0]
        · simp [h1, h2, h3, h4, mailOf, spec_MailBytes.j0]
      · simp [h1, h2, h3, mailOf, spec_MailBytes.j0]
    · simp [h1, h2, mailOf, spec_MailBytes.j0]
  · simp [h1, mailOf, spec_MailBytes.j0]
/-! ### a message as bytes, the program's -/
theorem implMail (a b c : Int) (l : List Int) (t : Int) (hb : ∀ x ∈ l, 0 ≤ x ∧ x ≤ 255) (k : Nat) : impl_MailBytes.f (k + 60) a b c l t = some (mailOf a b c l t) := by
  simp only [impl_MailBytes.f, impl_MailOk.f, impl_word.f, impl_portOk.f, inAll', Option.bind_some]
  by_cases h1 : 0 ≤ a ∧ a ≤ 65535
  · by_cases h2 : 1 ≤ b ∧ b ≤ 255
    · by_cases h3 : 1 ≤ c ∧ c ≤ 255
      · by_cases h4 : (l.length : Int) ≤ 40
        · by_cases h5 : 0 ≤ t ∧ t ≤ 65535
          · have hy := mailHead_byte b c l hb
            have hs := implSum (a / 256 % 256 :: a % 256 :: t / 256 % 256 :: t % 256 :: mailHead b c l) (mailFull_byte a t _ hy) (by simp [mailHead]; omega)
            have hr := mailSum_range a t _ hy
            have hbt : impl_between.f (k + 59) a t = some [a / 256 % 256, a % 256, t / 256 % 256, t % 256] := by
              simp only [impl_between.f, implBytes2 _ (k + 55), Option.bind_some, slices_Concat_byte_byte.f, List.flatten_cons, List.flatten_nil, List.cons_append, List.nil_append, List.append_nil, List.length_cons, List.length_nil]
              rfl
            have hm : mailOf a b c l t = mailHead b c l ++ [mailSum a t (mailHead b c l) / 256 % 256, mailSum a t (mailHead b c l) % 256] := by
              unfold mailOf
              rw [if_pos ⟨⟨h1, h2, h3, h4⟩, h5⟩]
            rw [hm]
            simp only [h1, h2, h3, h4, h5, and_self, decide_true, if_true, Bool.not_true, impl_MailBytes.j0, Bool.false_eq_true, if_false, Option.bind_some]
            rw [if_pos (by simp; omega)]
            rw [show (([b % 256, c % 256, (l.length : Int) % 256] : List Int) ++ l) = mailHead b c l from rfl]
            have hl2 : (mailHead b c l).length ≤ 43 := by simp [mailHead]; omega
            have hss : impl_sumOf.f (a / 256 % 256 :: a % 256 :: t / 256 % 256 :: t % 256 :: mailHead b c l) = some (mailSum a t (mailHead b c l)) := by
              rw [hs]
              simp only [List.length_cons]
              rfl
            have hc1 : slices_Concat_byte_byte.f [[a / 256 % 256, a % 256, t / 256 % 256, t % 256], mailHead b c l] = some (a / 256 % 256 :: a % 256 :: t / 256 % 256 :: t % 256 :: mailHead b c l) := by
              simp only [slices_Concat_byte_byte.f, List.flatten_cons, List.flatten_nil, List.cons_append, List.nil_append, List.append_nil, List.length_cons]
              rw [if_pos (by omega)]
            have hc2 : ∀ z : List Int, z.length = 2 → slices_Concat_byte_byte.f [mailHead b c l, z] = some (mailHead b c l ++ z) := by
              intro z hz
              simp only [slices_Concat_byte_byte.f, List.flatten_cons, List.flatten_nil, List.append_nil, List.length_append]
              rw [if_pos (by omega)]
            rw [hbt, Option.bind_some, hc1, Option.bind_some, hss, Option.bind_some, implBytes2 _ (k + 55), Option.bind_some, hc2 _ rfl]
            rfl
          · simp [h1, h2, h3, h4, h5, mailOf, impl_MailBytes.j0]
        · simp [h1, h2, h3, h4, mailOf, impl_MailBytes.j0]
      · simp [h1, h2, h3, mailOf, impl_MailBytes.j0]
    · simp [h1, h2, mailOf, impl_MailBytes.j0]
  · simp [h1, mailOf, impl_MailBytes.j0]
/-! ### the message of bytes -/
def fromOf (f t : Int) (b : List Int) : Int × Int × Int × List Int × Bool :=
  if 5 ≤ b.length ∧ mailOf f (rd b 0) (rd b 1) ((b.take (b.length - 2)).drop 3) t = b then (f, rd b 0, rd b 1, (b.take (b.length - 2)).drop 3, true) else (0, 0, 0, [], false)
theorem split5 (b : List Int) (h : 5 ≤ b.length) : ∃ x y z d p q, b = x :: y :: z :: (d ++ [p, q]) := by
  match b, h with
  | x :: y :: z :: r, h =>
    have hr : 2 ≤ r.length := by simp at h; omega
    have e := List.take_append_drop (r.length - 2) r
    have hl : (r.drop (r.length - 2)).length = 2 := by simp; omega
    match hd : r.drop (r.length - 2), hl with
    | [p, q], _ =>
      rw [hd] at e
      exact ⟨x, y, z, r.take (r.length - 2), p, q, by rw [e]⟩
theorem take5 (x y z : Int) (d : List Int) (p q : Int) : List.take (d.length + 3) (x :: y :: z :: (d ++ [p, q])) = x :: y :: z :: d := by simp [List.take_succ_cons]
theorem fromOf_split (f t x y z : Int) (d : List Int) (p q : Int) : fromOf f t (x :: y :: z :: (d ++ [p, q])) = if mailOf f x y d t = x :: y :: z :: (d ++ [p, q]) then (f, x, y, d, true) else (0, 0, 0, [], false) := by
  have hl : (x :: y :: z :: (d ++ [p, q])).length = d.length + 5 := by simp
  unfold fromOf
  rw [hl, show d.length + 5 - 2 = d.length + 3 by omega, take5]
  simp only [rd_cons0, rd_cons1, List.drop_succ_cons, List.drop_zero]
  by_cases h : mailOf f x y d t = x :: y :: z :: (d ++ [p, q])
  · rw [if_pos ⟨by omega, h⟩, if_pos h]
  · rw [if_neg (fun c => h c.2), if_neg h]
theorem fromOf_len (f t : Int) (b : List Int) : (fromOf f t b).2.2.2.1.length ≤ b.length := by
  unfold fromOf
  split
  · simp; omega
  · simp
theorem implMailFrom (f t : Int) (b : List Int) (hl : b.length ≤ 1048576) (hb : ∀ x ∈ b, 0 ≤ x ∧ x ≤ 255) (k : Nat) (hk : b.length < k) : impl_MailFrom.f (k + 60) f t b = some (fromOf f t b) := by
  by_cases h5 : b.length < 5
  · unfold impl_MailFrom.f fromOf
    rw [if_pos (by omega), if_neg (by omega)]
  · obtain ⟨x, y, z, d, p, q, rfl⟩ := split5 b (by omega)
    have hlen : (x :: y :: z :: (d ++ [p, q])).length = d.length + 5 := by simp
    have hx := hb x (by simp)
    have hy := hb y (by simp)
    have hd : ∀ w ∈ d, 0 ≤ w ∧ w ≤ 255 := fun w hw => hb w (by simp [hw])
    rw [hlen] at hl hk
    have e2 : wrap64 (((x :: y :: z :: (d ++ [p, q])).length : Int) - 2) = ((d.length + 3 : Nat) : Int) := by
      rw [hlen, wrap_id (by omega) (by omega)]; omega
    rw [fromOf_split]
    unfold impl_MailFrom.f
    rw [e2, hlen, if_neg (by omega), if_pos (by omega), if_pos (by omega), if_pos (by omega), if_pos (by omega)]
    rw [Int.toNat_natCast, take5]
    simp only [rd_cons0, rd_cons1, List.drop_succ_cons, List.drop_zero, impl_clone_byte.f]
    rw [if_pos (by omega), Option.bind_some, wrap_id (n := x) (by omega) (by omega), wrap_id (n := y) (by omega) (by omega), implMail f x y d t hd k, Option.bind_some]
    have hml : (mailOf f x y d t).length ≤ d.length + 5 := by unfold mailOf; split <;> simp [mailHead]
    rw [eqSl _ _ (by omega) _ (by omega), Option.bind_some]
    by_cases h : mailOf f x y d t = x :: y :: z :: (d ++ [p, q])
    · rw [if_pos h, if_pos (by rw [decide_eq_true h])]
    · rw [if_neg h, if_neg (by rw [decide_eq_false h]; simp)]
/-! ### the message of bytes, the reference's -/
theorem mailOk_spec' (a b c : Int) (l : List Int) : spec_MailOk.f a b c l = some (decide ((0 ≤ a ∧ a ≤ 65535) ∧ (1 ≤ b ∧ b ≤ 255) ∧ (1 ≤ c ∧ c ≤ 255) ∧ (l.length : Int) ≤ 40)) := by
  simp only [spec_MailOk.f, inAll, Option.bind_some]
  by_cases h1 : 0 ≤ a ∧ a ≤ 65535 <;> by_cases h2 : 1 ≤ b ∧ b ≤ 255 <;> by_cases h3 : 1 ≤ c ∧ c ≤ 255 <;> simp [h1, h2, h3]
theorem specNumEnd (y : List Int) (p q : Int) (hl : y.length ≤ 1048576) (hp : 0 ≤ p ∧ p ≤ 255) (hq : 0 ≤ q ∧ q ≤ 255) (k : Nat) : spec_NumberAt.f (k + 4) (y ++ [p, q]) (y.length : Int) 2 = some (p * 256 + q) := by
  have hlen : (y ++ [p, q]).length = y.length + 2 := by simp
  have r0 : rd (y ++ [p, q]) (y.length : Int) = p := by
    have h := rd_at (y ++ [p, q]) y.length (by omega)
    rw [List.getElem?_append_right (by omega), Nat.sub_self] at h
    exact (Option.some.inj h).symm
  have r1 : rd (y ++ [p, q]) ((y.length : Int) + 1) = q := by
    have h := rd_at (y ++ [p, q]) (y.length + 1) (by omega)
    rw [List.getElem?_append_right (by omega), show y.length + 1 - y.length = 1 by omega] at h
    exact (Option.some.inj h).symm
  simp only [spec_NumberAt.f, inAll, Option.bind_some, show decide ((1 : Int) ≤ 2 ∧ (2 : Int) ≤ 4) = true by decide, if_true]
  rw [wl (n := ((y ++ [p, q]).length : Int) - 2) (m := (y.length : Int)) (by omega) (by omega) (by omega)]
  rw [decide_eq_true (show (0 : Int) ≤ y.length ∧ (y.length : Int) ≤ y.length by omega)]
  simp only [Bool.not_true, spec_NumberAt.j0, Bool.false_eq_true, if_false]
  rw [spec_NumberAt.l0]
  rw [if_pos (by omega), wl (n := (y.length : Int) + 0) (m := y.length) (by omega) (by omega) (by omega), if_pos (by omega), if_pos (by omega), r0]
  rw [wl (n := p) rfl (by omega) (by omega), wl (n := 0 * 256) (m := 0) (by omega) (by omega) (by omega), wl (n := 0 + p) (m := p) (by omega) (by omega) (by omega), wl (n := 0 + 1) (m := 1) (by omega) (by omega) (by omega)]
  rw [spec_NumberAt.l0]
  rw [if_pos (by omega), wl (n := (y.length : Int) + 1) rfl (by omega) (by omega), if_pos (by omega), if_pos (by omega), r1]
  rw [wl (n := q) rfl (by omega) (by omega), wl (n := p * 256) rfl (by omega) (by omega), wl (n := p * 256 + q) rfl (by omega) (by omega), wl (n := 1 + 1) (m := 2) (by omega) (by omega) (by omega)]
  rw [spec_NumberAt.l0, if_neg (by omega)]
theorem specMailFrom (f t : Int) (b : List Int) (hl : b.length ≤ 1048576) (hb : ∀ x ∈ b, 0 ≤ x ∧ x ≤ 255) (k : Nat) (hk : b.length < k) : spec_MailFrom.f (k + 60) f t b = some (fromOf f t b) := by
  unfold spec_MailFrom.f
  by_cases h5 : b.length < 5
  · unfold fromOf
    rw [if_pos (by omega), if_neg (by omega)]
    simp [spec_MailFrom.j0]
  · rw [if_neg (by omega)]
    obtain ⟨x, y, z, d, p, q, rfl⟩ := split5 b (by omega)
    have hlen : (x :: y :: z :: (d ++ [p, q])).length = d.length + 5 := by simp
    have hx := hb x (by simp)
    have hy := hb y (by simp)
    have hz := hb z (by simp)
    have hp := hb p (by simp)
    have hq := hb q (by simp)
    have hd : ∀ w ∈ x :: y :: z :: d, 0 ≤ w ∧ w ≤ 255 := fun w hw => hb w (by simp at hw ⊢; rcases hw with h | h | h | h <;> simp [h])
    rw [hlen] at hl hk
    have e2 : wrap64 (((x :: y :: z :: (d ++ [p, q])).length : Int) - 2) = ((d.length + 3 : Nat) : Int) := by
      rw [hlen, wrap_id (by omega) (by omega)]; omega
    rw [fromOf_split]
    simp only [inAll, Option.bind_some]
    have hno : ¬ ((0 ≤ f ∧ f ≤ 65535) ∧ (0 ≤ t ∧ t ≤ 65535)) → ¬ mailOf f x y d t = x :: y :: z :: (d ++ [p, q]) := by
      intro h e
      unfold mailOf at e
      rw [if_neg (fun c => h ⟨c.1.1, c.2⟩)] at e
      cases e
    by_cases hf : 0 ≤ f ∧ f ≤ 65535
    · by_cases ht : 0 ≤ t ∧ t ≤ 65535
      · rw [decide_eq_true hf, decide_eq_true ht]
        simp only [if_true, Bool.not_true, spec_MailFrom.j0, Bool.false_eq_true, if_false]
        rw [e2, hlen, if_pos (by omega), if_pos (by omega)]
        simp only [Option.bind_some, rd_cons0, rd_cons1, rd_cons2, List.length_nil, Nat.zero_add, List.nil_append]
        rw [Int.toNat_natCast, take5]
        simp only [List.drop_succ_cons, List.drop_zero]
        rw [if_pos (by omega), if_pos (by omega), if_pos (by omega), wrap_id (n := x) (by omega) (by omega), wrap_id (n := y) (by omega) (by omega), wrap_id (n := z) (by omega) (by omega), mailOk_spec', Option.bind_some]
        by_cases hok : (0 ≤ f ∧ f ≤ 65535) ∧ (1 ≤ x ∧ x ≤ 255) ∧ (1 ≤ y ∧ y ≤ 255) ∧ (d.length : Int) ≤ 40
        · have hs := specSum9 f t (x :: y :: z :: d) hf ht hd (by simp; omega) (k + 53) (by simp; omega)
          have hr := mailSum_range f t _ hd
          have hn := specNumEnd (x :: y :: z :: d) p q (by simp; omega) hp hq (k + 55)
          rw [show (x :: y :: z :: d) ++ [p, q] = x :: y :: z :: (d ++ [p, q]) from rfl, show ((x :: y :: z :: d).length : Int) = ((d.length + 3 : Nat) : Int) from rfl] at hn
          rw [if_pos (decide_eq_true hok), if_pos (by omega)]
          have hm : mailOf f x y d t = mailHead x y d ++ [mailSum f t (mailHead x y d) / 256 % 256, mailSum f t (mailHead x y d) % 256] := by
            unfold mailOf
            rw [if_pos ⟨hok, ht⟩]
          rw [hm]
          by_cases hzl : z = (d.length : Int)
          · have hH : mailHead x y d = x :: y :: z :: d := by
              unfold mailHead
              rw [show x % 256 = x by omega, show y % 256 = y by omega, show (d.length : Int) % 256 = z by omega]
            rw [if_pos hzl, hn, Option.bind_some, if_pos (by omega), hs, Option.bind_some, hH]
            by_cases he : p * 256 + q = mailSum f t (x :: y :: z :: d)
            · rw [if_pos he, ← he, show (p * 256 + q) / 256 % 256 = p by omega, show (p * 256 + q) % 256 = q by omega, if_pos (show x :: y :: z :: d ++ [p, q] = x :: y :: z :: (d ++ [p, q]) from rfl)]
            · rw [if_neg he, if_neg]
              intro e
              simp only [List.cons_append, List.cons.injEq, List.append_cancel_left_eq, true_and, and_true] at e
              omega
          · rw [if_neg hzl, if_neg]
            intro e
            simp only [mailHead, List.cons_append, List.cons.injEq, List.append_cancel_left_eq, true_and, and_true] at e
            omega
        · rw [if_neg (by rw [decide_eq_false hok]; simp), if_neg]
          intro e
          unfold mailOf at e
          rw [if_neg (fun c => hok c.1)] at e
          cases e
      · rw [decide_eq_true hf, decide_eq_false ht, if_neg (hno (fun c => ht c.2))]
        simp [spec_MailFrom.j0]
    · rw [decide_eq_false hf, if_neg (hno (fun c => hf c.1))]
      simp [spec_MailFrom.j0]
/-! ### a drawn message -/
theorem tot_odd0 {β : Type} {Q : β → Prop} {F : Bool × Int → Option β} {k : Nat} {s : List Int} {p n : Int} (hn : n ≤ 0) (h : Tot Q (F (false, p))) : Tot Q ((spec_l20Rd_odd.f k s p n).bind F) := by
  unfold spec_l20Rd_odd.f
  rw [if_neg (by omega)]
  exact h
theorem mail_tot {s : List Int} (hs : Code s) {k : Nat} (hk : 1000 ≤ k) {p n : Int} (h0 : 0 ≤ p) (h1 : p ≤ 700000000) :
    Tot (fun r : Int × Int × Int × List Int × Int => (0 ≤ r.1 ∧ r.1 ≤ 4) ∧ r.2.2.2.1.length ≤ 41 ∧ (∀ x ∈ r.2.2.2.1, 0 ≤ x ∧ x ≤ 255) ∧ (p ≤ r.2.2.2.2 ∧ r.2.2.2.2 ≤ p + 100) ∧ (n ≤ 0 → (1 ≤ r.2.1 ∧ r.2.1 ≤ 255) ∧ (1 ≤ r.2.2.1 ∧ r.2.2.1 ≤ 255) ∧ r.2.2.2.1.length ≤ 40)) (spec_l20Mail.f k s p n) := by
  have w1 : ∀ v : Int, 0 ≤ v → v < 10 → wrap64 (1 + v) = 1 + v := fun v _ _ => wrap_id (by omega) (by omega)
  unfold spec_l20Mail.f
  refine tot_pick hs (by omega) (by omega) (by omega) (by omega) ?_; intro a a0 a1; dsimp only
  refine tot_pick hs (by omega) (by omega) (by omega) (by omega) ?_; intro b b0 b1; dsimp only
  refine tot_pick hs (by omega) (by omega) (by omega) (by omega) ?_; intro c c0 c1; dsimp only
  refine tot_pick hs (by omega) (by omega) (by omega) (by omega) ?_; intro c' c0' c1'; dsimp only
  refine tot_bytes hs (by omega) (by omega) (by omega) (by omega) (by omega) ?_; intro d p2 d0 d1 q3 q4; dsimp only
  by_cases hn : n ≤ 0
  · refine tot_odd0 hn ?_
    dsimp only
    rw [if_neg (by simp)]
    refine tot_some ⟨⟨by dsimp only; omega, by dsimp only; omega⟩, by dsimp only; omega, d1, ⟨by dsimp only; omega, by dsimp only; omega⟩, fun _ => ⟨?_, ?_, by dsimp only; omega⟩⟩
    · dsimp only; rw [w1 b b0 (by omega)]; omega
    · dsimp only; rw [w1 c c0 (by omega)]; omega
  · refine tot_odd hs (by omega) (by omega) (by omega) ?_; intro e p3 q5 q6; dsimp only
    have fin : ∀ (u v : Int) (z : List Int) (p' : Int), z.length ≤ 41 → (∀ x ∈ z, 0 ≤ x ∧ x ≤ 255) → p ≤ p' → p' ≤ p + 100 →
        Tot (fun r : Int × Int × Int × List Int × Int => (0 ≤ r.1 ∧ r.1 ≤ 4) ∧ r.2.2.2.1.length ≤ 41 ∧ (∀ x ∈ r.2.2.2.1, 0 ≤ x ∧ x ≤ 255) ∧ (p ≤ r.2.2.2.2 ∧ r.2.2.2.2 ≤ p + 100) ∧ (n ≤ 0 → (1 ≤ r.2.1 ∧ r.2.1 ≤ 255) ∧ (1 ≤ r.2.2.1 ∧ r.2.2.1 ≤ 255) ∧ r.2.2.2.1.length ≤ 40)) (some (a, u, v, z, p')) :=
      fun u v z p' hz hb g0 g1 => tot_some ⟨⟨a0, by dsimp only; omega⟩, hz, hb, ⟨g0, g1⟩, fun h => absurd h hn⟩
    refine tot_ite (fun _ => ?_) (fun _ => fin _ _ _ _ (by omega) d1 (by omega) (by omega))
    refine tot_pick hs (by omega) (by omega) (by omega) (by omega) ?_; intro f f0 f1; dsimp only
    refine tot_ite (fun _ => ?_) (fun _ => tot_ite (fun _ => ?_) (fun _ => tot_ite (fun _ => fin _ _ _ _ (by simp) (fun x hx => by simp at hx; omega) (by omega) (by omega)) (fun h => absurd h (by omega))))
    · refine tot_pick hs (by omega) (by omega) (by omega) (by omega) ?_; intro g g0 g1; exact fin _ _ _ _ (by omega) d1 (by omega) (by omega)
    · refine tot_pick hs (by omega) (by omega) (by omega) (by omega) ?_; intro g g0 g1; exact fin _ _ _ _ (by omega) d1 (by omega) (by omega)
/-! ### packets -/
theorem packetOk_impl (a b c d e f : Int) (g h : Bool) (l : List Int) : impl_PacketOk.f a b c d e f g h l = spec_PacketOk.f a b c d e f g h l := by
  simp only [impl_PacketOk.f, spec_PacketOk.f, impl_word.f, inAll, inAll', Option.bind_some]
theorem packetOk_some (a b c d e f : Int) (g h : Bool) (l : List Int) : ∃ t, spec_PacketOk.f a b c d e f g h l = some t ∧ (t = true → 0 ≤ f) := by
  by_cases hf : 0 ≤ f ∧ f ≤ 255
  · have : ∃ t, spec_PacketOk.f a b c d e f g h l = some t := by
      simp only [spec_PacketOk.f, inAll, Option.bind_some]
      repeat' split
      all_goals exact ⟨_, rfl⟩
    obtain ⟨t, ht⟩ := this
    exact ⟨t, ht, fun _ => hf.1⟩
  · refine ⟨false, ?_, fun h => by cases h⟩
    simp only [spec_PacketOk.f, inAll, Option.bind_some]
    rw [decide_eq_false hf]
    simp
/-! ### a drawn packet -/
abbrev PT := Int × Int × Int × Int × Int × Int × Bool × Bool × List Int × Int
theorem packet_j0 {s : List Int} (hs : Code s) (z : Int) {k : Nat} (hk : 10 ≤ k) {p : Int} (h0 : 0 ≤ p) (h1 : p ≤ 800000000) (a b c d e f : Int) (g h : Bool) (l : List Int) (hl : l.length ≤ 100) (hb : ∀ x ∈ l, 0 ≤ x ∧ x ≤ 255) :
    Tot (fun r : PT => r.2.2.2.2.2.2.2.2.1.length ≤ 100 ∧ (∀ x ∈ r.2.2.2.2.2.2.2.2.1, 0 ≤ x ∧ x ≤ 255) ∧ p ≤ r.2.2.2.2.2.2.2.2.2 ∧ r.2.2.2.2.2.2.2.2.2 ≤ p + 10) (spec_l20Packet.j0 k z s p a b c d e f g h l) := by
  obtain ⟨k, rfl⟩ : ∃ q, k = q + 1 := ⟨k - 1, by omega⟩
  have fin : ∀ (a b c d e f : Int) (g h : Bool) (l : List Int) (p' : Int), l.length ≤ 100 → (∀ x ∈ l, 0 ≤ x ∧ x ≤ 255) → p ≤ p' → p' ≤ p + 10 → Tot (fun r : PT => r.2.2.2.2.2.2.2.2.1.length ≤ 100 ∧ (∀ x ∈ r.2.2.2.2.2.2.2.2.1, 0 ≤ x ∧ x ≤ 255) ∧ p ≤ r.2.2.2.2.2.2.2.2.2 ∧ r.2.2.2.2.2.2.2.2.2 ≤ p + 10) (some (a, b, c, d, e, f, g, h, l, p')) := fun _ _ _ _ _ _ _ _ _ _ u v x y => tot_some ⟨u, v, x, y⟩
  rw [spec_l20Packet.j0]
  refine tot_odd hs (by omega) (by omega) (by omega) ?_; intro o p3 q5 q6; dsimp only
  refine tot_ite (fun _ => ?_) (fun _ => fin _ _ _ _ _ _ _ _ _ _ hl hb (by omega) (by omega))
  refine tot_pick hs (by omega) (by omega) (by omega) (by omega) ?_; intro t t0 t1; dsimp only
  refine tot_ite (fun _ => ?_) (fun _ => tot_ite (fun _ => ?_) (fun _ => tot_ite (fun _ => ?_) (fun _ => tot_ite (fun _ => fin _ _ _ _ _ _ _ _ _ _ (by simp) (fun x hx => by cases hx) (by omega) (by omega)) (fun _ => fin _ _ _ _ _ _ _ _ _ _ hl hb (by omega) (by omega)))))
  · refine tot_pick hs (by omega) (by omega) (by omega) (by omega) ?_; intro u u0 u1; exact fin _ _ _ _ _ _ _ _ _ _ hl hb (by dsimp only; omega) (by dsimp only; omega)
  · refine tot_pick hs (by omega) (by omega) (by omega) (by omega) ?_; intro u u0 u1; exact fin _ _ _ _ _ _ _ _ _ _ hl hb (by dsimp only; omega) (by dsimp only; omega)
  · rw [if_pos (by omega)]
    exact fin _ _ _ _ _ _ _ _ _ _ (by simp) (fun x hx => by simp at hx; omega) (by omega) (by omega)
theorem packet_tot {s : List Int} (hs : Code s) {k : Nat} (hk : 1000 ≤ k) {p z : Int} (h0 : 0 ≤ p) (h1 : p ≤ 700000000) :
    Tot (fun r : PT => r.2.2.2.2.2.2.2.2.1.length ≤ 100 ∧ (∀ x ∈ r.2.2.2.2.2.2.2.2.1, 0 ≤ x ∧ x ≤ 255) ∧ p ≤ r.2.2.2.2.2.2.2.2.2 ∧ r.2.2.2.2.2.2.2.2.2 ≤ p + 100) (spec_l20Packet.f k s p z) := by
  unfold spec_l20Packet.f
  refine tot_pick hs (by omega) (by omega) (by omega) (by omega) ?_; intro a a0 a1; dsimp only
  refine tot_pick hs (by omega) (by omega) (by omega) (by omega) ?_; intro b b0 b1; dsimp only
  refine tot_pick hs (by omega) (by omega) (by omega) (by omega) ?_; intro c c0 c1; dsimp only
  refine tot_pick hs (by omega) (by omega) (by omega) (by omega) ?_; intro d d0 d1; dsimp only
  refine tot_pick hs (by omega) (by omega) (by omega) (by omega) ?_; intro e e0 e1; dsimp only
  refine tot_pick hs (by omega) (by omega) (by omega) (by omega) ?_; intro f f0 f1; dsimp only
  refine tot_bytes hs (by omega) (by omega) (by omega) (by omega) (by omega) ?_; intro l p2 l0 l1 q3 q4; dsimp only
  refine tot_pick hs (by omega) (by omega) (by omega) (by omega) ?_; intro g g0 g1; dsimp only
  have go : ∀ (f : Int) (g h : Bool) (p' : Int), p ≤ p' → p' ≤ p + 60 → Tot (fun r : PT => r.2.2.2.2.2.2.2.2.1.length ≤ 100 ∧ (∀ x ∈ r.2.2.2.2.2.2.2.2.1, 0 ≤ x ∧ x ≤ 255) ∧ p ≤ r.2.2.2.2.2.2.2.2.2 ∧ r.2.2.2.2.2.2.2.2.2 ≤ p + 100) (spec_l20Packet.j0 k z s p' a b c d e f g h l) :=
    fun f g h p' u v => tot_mono (packet_j0 hs z (by omega) (by omega) (by omega) a b c d e f g h l (by omega) l1) (fun r hr => ⟨hr.1, hr.2.1, by omega, by omega⟩)
  refine tot_ite (fun _ => go _ _ _ _ (by omega) (by omega)) (fun _ => tot_ite (fun _ => ?_) (fun _ => go _ _ _ _ (by omega) (by omega)))
  refine tot_pick hs (by omega) (by omega) (by omega) (by omega) ?_; intro t t0 t1; dsimp only
  refine tot_ite (fun _ => ?_) (fun _ => go _ _ _ _ (by omega) (by omega))
  refine tot_pick hs (by omega) (by omega) (by omega) (by omega) ?_; intro u u0 u1; exact go _ _ _ _ (by dsimp only; omega) (by dsimp only; omega)
/-! ### rows of ports, read -/
abbrev IM := S40
theorem ev_step {α : Type} {g : Nat → Option α} (f : Nat → Option α) {r : α} (h : ∀ k, g (k + 1) = f k) (k : Ev f r) : Ev g r := Ev.step h k
theorem ev_bind {α β : Type} {g : Nat → Option α} {f : Nat → α → Option β} {a : α} {r : β} (h : Ev g a) (k : Ev (fun n => f n a) r) : Ev (fun n => (g n).bind (f n)) r := Ev.bind h k
theorem ev_eq {α : Type} {g : Nat → Option α} (f : Nat → Option α) {r : α} (h : ∀ k, g k = f k) (k : Ev f r) : Ev g r := Ev.congr h k
theorem ev_some {α : Type} {o : Option α} {r : α} (h : o = some r) : Ev (fun _ => o) r := ⟨0, fun _ _ => h⟩
theorem rdIM_at (l : List IM) (i : Nat) (h : i < l.length) : l[i]? = some (rd_T40 l (i : Int)) := by
  simp [rd_T40, List.getD_eq_getElem?_getD, List.getElem?_eq_getElem h]
theorem rdIM_mem (l : List IM) (i : Nat) (h : i < l.length) : rd_T40 l (i : Int) ∈ l := List.mem_of_getElem? (rdIM_at l i h)
abbrev IP := S47
def BP (x : IP) : Prop := x.f1.length ≤ 1048576 ∧ ∀ y ∈ x.f1, y.f3.length ≤ 1048576
def BL (l : List IP) : Prop := l.length ≤ 1048576 ∧ ∀ x ∈ l, BP x
theorem rdIP_at (l : List IP) (i : Nat) (h : i < l.length) : l[i]? = some (rd_T47 l (i : Int)) := by
  simp [rd_T47, List.getD_eq_getElem?_getD, List.getElem?_eq_getElem h]
theorem rdIP_mem (l : List IP) (i : Nat) (h : i < l.length) : rd_T47 l (i : Int) ∈ l := List.mem_of_getElem? (rdIP_at l i h)
/-! ### are they ports? -/
theorem mailOk_same (x : IM) : ∃ t, spec_MailOk.f x.f0 x.f1 x.f2 x.f3 = some t ∧ impl_MailOk.f x.f0 x.f1 x.f2 x.f3 = some t := by
  simp only [spec_MailOk.f, impl_MailOk.f, impl_word.f, impl_portOk.f, inAll, inAll', Option.bind_some]
  repeat' split
  all_goals first | exact ⟨_, rfl, rfl⟩ | simp_all
theorem portsRow_same (L : List IP) (hl : L.length ≤ 1048576) (p : Nat) (hp : p < L.length) (hr : (rd_T47 L (p : Int)).f1.length ≤ 1048576) (r : Bool) (hn : Ev (fun k => spec_PortsOk.l0 k L ((p + 1 : Nat) : Int)) r) : ∀ d (i : Nat), i + d = (rd_T47 L (p : Int)).f1.length →
    ∃ u, impl_PortsOk.row (rd_T47 L (p : Int)).f0 ((rd_T47 L (p : Int)).f1.drop i) = some u ∧ Ev (fun k => spec_PortsOk.l1 k L (p : Int) (i : Int)) (if u = true then false else r) := by
  intro d
  induction d with
  | zero =>
    intro i hi
    refine ⟨false, by rw [List.drop_eq_nil_of_le (by omega)]; rfl, ev_step _ (fun k => ?_) hn⟩
    rw [spec_PortsOk.l1, if_pos (by omega), if_pos (by omega), if_neg (by omega), wrap_id (n := (p : Int) + 1) (by omega) (by omega), show (p : Int) + 1 = ((p + 1 : Nat) : Int) by omega]
  | succ d ih =>
    intro i hi
    obtain ⟨u, u1, u2⟩ := ih (i + 1) (by omega)
    obtain ⟨t, t1, t2⟩ := mailOk_same (rd_T40 (rd_T47 L (p : Int)).f1 (i : Int))
    have hs := impl_PortsOk.row_step (rd_T47 L (p : Int)).f0 (rd_T47 L (p : Int)).f1 i (by omega)
    rw [impl_PortsOk.bad, t2, Option.bind_some, Option.bind_some] at hs
    have un : ∀ k, spec_PortsOk.l1 (k + 1) L (p : Int) (i : Int) = if t = true then (if (rd_T40 (rd_T47 L (p : Int)).f1 (i : Int)).f2 = (rd_T47 L (p : Int)).f0 then spec_PortsOk.l1 k L (p : Int) ((i + 1 : Nat) : Int) else some false) else some false := fun k => by
      rw [spec_PortsOk.l1, if_pos (by omega), if_pos (by omega), if_pos (by omega), if_pos (by omega), t1, Option.bind_some, wrap_id (n := (i : Int) + 1) (by omega) (by omega), show (i : Int) + 1 = ((i + 1 : Nat) : Int) by omega]
    cases t with
    | false => exact ⟨true, by rw [hs]; rfl, ev_step _ un ⟨0, fun k _ => rfl⟩⟩
    | true =>
      by_cases hN : (rd_T40 (rd_T47 L (p : Int)).f1 (i : Int)).f2 = (rd_T47 L (p : Int)).f0
      · refine ⟨u, by rw [hs, if_neg (by simp [hN]), u1], ev_step _ un (ev_eq _ (fun k => ?_) u2)⟩
        rw [if_pos rfl, if_pos hN]
      · exact ⟨true, by rw [hs, if_pos (by simp [hN])], ev_step _ un ⟨0, fun k _ => by show (if true = true then _ else _) = _; rw [if_pos rfl, if_neg hN]; rfl⟩⟩
theorem portsOk_from (L : List IP) (hl : BL L) : ∀ d (p : Nat), p + d = L.length → ∃ t, impl_PortsOk.at_ L d p = some t ∧ Ev (fun k => spec_PortsOk.l0 k L (p : Int)) t := by
  have hl1 := hl.1
  intro d
  induction d with
  | zero =>
    intro p hp
    refine ⟨_, rfl, ev_step (fun _ => some (decide (L.length ≤ 4))) (fun k => ?_) (Ev.now _)⟩
    rw [spec_PortsOk.l0, if_neg (by omega)]
    congr 1
    simp only [decide_eq_decide]
    omega
  | succ d ih =>
    intro p hp
    obtain ⟨r, r1, r2⟩ := ih (p + 1) (by omega)
    have hb := (hl.2 _ (rdIP_mem L p (by omega))).1
    obtain ⟨u, u1, u2⟩ := portsRow_same L hl1 p (by omega) hb r r2 (rd_T47 L (p : Int)).f1.length 0 (by omega)
    rw [List.drop_zero] at u1
    have un : ∀ k, spec_PortsOk.l0 (k + 1) L (p : Int) = if (1 ≤ (rd_T47 L (p : Int)).f0 ∧ (rd_T47 L (p : Int)).f0 ≤ 255) then (if (p : Int) > 0 then (if (rd_T47 L ((p : Int) - 1)).f0 ≥ (rd_T47 L (p : Int)).f0 then spec_PortsOk.j1 k L (p : Int) true else spec_PortsOk.j1 k L (p : Int) (decide (((rd_T47 L (p : Int)).f1.length : Int) > 3))) else spec_PortsOk.j1 k L (p : Int) (decide (((rd_T47 L (p : Int)).f1.length : Int) > 3))) else spec_PortsOk.j1 k L (p : Int) true := fun k => by
      rw [spec_PortsOk.l0, if_pos (by omega), if_pos (by omega), inAll, Option.bind_some]
      by_cases c1 : 1 ≤ (rd_T47 L (p : Int)).f0 ∧ (rd_T47 L (p : Int)).f0 ≤ 255
      · rw [decide_eq_true c1, if_pos rfl, if_pos c1]
        by_cases c2 : (p : Int) > 0
        · rw [if_pos c2, if_pos c2, wrap_id (n := (p : Int) - 1) (by omega) (by omega), if_pos (by omega), if_pos (by omega)]
        · rw [if_neg c2, if_neg c2]
      · rw [decide_eq_false c1, if_neg (by simp), if_neg c1]
    have jt : ∀ k, spec_PortsOk.j1 (k + 1) L (p : Int) true = some false := fun k => by rw [spec_PortsOk.j1, if_pos rfl]
    have jf : ∀ k, spec_PortsOk.j1 (k + 1) L (p : Int) false = spec_PortsOk.l1 k L (p : Int) ((0 : Nat) : Int) := fun k => by rw [spec_PortsOk.j1, if_neg (by simp)]; rfl
    have ejt : Ev (fun k => spec_PortsOk.j1 k L (p : Int) true) false := ev_step _ jt (Ev.now _)
    have ejf : Ev (fun k => spec_PortsOk.j1 k L (p : Int) false) (if u = true then false else r) := ev_step _ jf u2
    have ejl : (3 < (rd_T47 L (p : Int)).f1.length → Ev (fun k => spec_PortsOk.j1 k L (p : Int) (decide (((rd_T47 L (p : Int)).f1.length : Int) > 3))) false) := fun h => by rw [decide_eq_true (show ((rd_T47 L (p : Int)).f1.length : Int) > 3 by omega)]; exact ejt
    have ejl' : (¬ 3 < (rd_T47 L (p : Int)).f1.length → Ev (fun k => spec_PortsOk.j1 k L (p : Int) (decide (((rd_T47 L (p : Int)).f1.length : Int) > 3))) (if u = true then false else r)) := fun h => by rw [decide_eq_false (show ¬ ((rd_T47 L (p : Int)).f1.length : Int) > 3 by omega)]; exact ejf
    have hrow : ((impl_PortsOk.row (rd_T47 L (p : Int)).f0 (rd_T47 L (p : Int)).f1).bind fun t => if t = true then some false else impl_PortsOk.at_ L d (p + 1)) = some (if u = true then false else r) := by
      rw [u1, Option.bind_some, r1]
      cases u <;> rfl
    rw [impl_PortsOk.at_]
    by_cases c1 : 1 ≤ (rd_T47 L (p : Int)).f0 ∧ (rd_T47 L (p : Int)).f0 ≤ 255
    · have n1 : ¬ impl_PortsOk.num (rd_T47 L (p : Int)).f0 = false := by simp [impl_PortsOk.num, c1.1, c1.2]
      rw [if_neg n1]
      by_cases c2 : 0 < p
      · by_cases c3 : (rd_T47 L ((p : Int) - 1)).f0 ≥ (rd_T47 L (p : Int)).f0
        · rw [if_pos ⟨c2, c3⟩]
          exact ⟨_, rfl, ev_step _ un (ev_eq _ (fun k => by rw [if_pos c1, if_pos (by omega), if_pos c3]) ejt)⟩
        · rw [if_neg (fun h => c3 h.2)]
          by_cases c4 : 3 < (rd_T47 L (p : Int)).f1.length
          · rw [if_pos c4]
            exact ⟨_, rfl, ev_step _ un (ev_eq _ (fun k => by rw [if_pos c1, if_pos (by omega), if_neg c3]) (ejl c4))⟩
          · rw [if_neg c4, hrow]
            exact ⟨_, rfl, ev_step _ un (ev_eq _ (fun k => by rw [if_pos c1, if_pos (by omega), if_neg c3]) (ejl' c4))⟩
      · rw [if_neg (fun h => c2 h.1)]
        by_cases c4 : 3 < (rd_T47 L (p : Int)).f1.length
        · rw [if_pos c4]
          exact ⟨_, rfl, ev_step _ un (ev_eq _ (fun k => by rw [if_pos c1, if_neg (by omega)]) (ejl c4))⟩
        · rw [if_neg c4, hrow]
          exact ⟨_, rfl, ev_step _ un (ev_eq _ (fun k => by rw [if_pos c1, if_neg (by omega)]) (ejl' c4))⟩
    · have n1 : impl_PortsOk.num (rd_T47 L (p : Int)).f0 = false := by
        simp only [impl_PortsOk.num, Bool.and_eq_false_iff, decide_eq_false_iff_not]
        omega
      rw [if_pos n1]
      exact ⟨_, rfl, ev_step _ un (ev_eq _ (fun k => by rw [if_neg c1]) ejt)⟩
theorem portsOk_same (L : List IP) (hl : BL L) : ∃ t, impl_PortsOk.f L = some t ∧ Ev (fun k => spec_PortsOk.f k L) t := portsOk_from L hl L.length 0 (by omega)
/-! ### what ports are -/
theorem mailOk_len {x : IM} (h : impl_MailOk.f x.f0 x.f1 x.f2 x.f3 = some true) : x.f3.length ≤ 40 := by
  simp only [impl_MailOk.f, impl_word.f, impl_portOk.f, inAll', Option.bind_some] at h
  by_cases c : ((x.f3.length : Int)) ≤ 40
  · omega
  · exfalso
    revert h
    repeat' split
    all_goals simp_all
theorem portsRow_small (N : Int) (L : List IM) (h : impl_PortsOk.row N L = some false) : ∀ m ∈ L, m.f3.length ≤ 40 := by
  induction L with
  | nil => intro m hm; cases hm
  | cons y L ih =>
    rw [impl_PortsOk.row] at h
    obtain ⟨t, h1, h2⟩ := Option.bind_eq_some_iff.mp h
    cases t with
    | true => simp at h2
    | false =>
      have h2 : impl_PortsOk.row N L = some false := by simpa using h2
      intro m hm
      rcases List.mem_cons.1 hm with rfl | hm
      · obtain ⟨u, h3, h4⟩ := Option.bind_eq_some_iff.mp h1
        have hu : u = true := by
          cases u with
          | true => rfl
          | false => simp at h4
        subst hu
        exact mailOk_len h3
      · exact ih h2 m hm
theorem portsAt_facts (l : List IP) : ∀ d i : Nat, i + d = l.length → impl_PortsOk.at_ l d i = some true → l.length ≤ 4 ∧ (∀ x : Nat, i ≤ x → x < l.length → (rd_T47 l (x : Int)).f1.length ≤ 3 ∧ (∀ m ∈ (rd_T47 l (x : Int)).f1, m.f3.length ≤ 40) ∧ (0 < x → (rd_T47 l ((x : Int) - 1)).f0 < (rd_T47 l (x : Int)).f0)) := by
  intro d
  induction d with
  | zero =>
    intro i hi h
    rw [impl_PortsOk.at_] at h
    exact ⟨by simpa using h, fun x h1 h2 => by omega⟩
  | succ d ih =>
    intro i hi h
    rw [impl_PortsOk.at_] at h
    by_cases c1 : impl_PortsOk.num (rd_T47 l (i : Int)).f0 = false
    · rw [if_pos c1] at h; cases h
    rw [if_neg c1] at h
    by_cases c2 : 0 < i ∧ (rd_T47 l ((i : Int) - 1)).f0 ≥ (rd_T47 l (i : Int)).f0
    · rw [if_pos c2] at h; cases h
    rw [if_neg c2] at h
    by_cases c3 : 3 < (rd_T47 l (i : Int)).f1.length
    · rw [if_pos c3] at h; cases h
    rw [if_neg c3] at h
    obtain ⟨t, h1, h2⟩ := Option.bind_eq_some_iff.mp h
    cases t with
    | true => simp at h2
    | false =>
      have h2 : impl_PortsOk.at_ l d (i + 1) = some true := by simpa using h2
      obtain ⟨h3, h4⟩ := ih (i + 1) (by omega) h2
      refine ⟨h3, fun x h5 h6 => ?_⟩
      by_cases hx : x = i
      · subst hx
        exact ⟨by omega, portsRow_small _ _ h1, fun h0 => by
          have := fun h => c2 ⟨h0, h⟩
          omega⟩
      · exact h4 x (by omega) h6
theorem portsOk_facts (l : List IP) (h : impl_PortsOk.f l = some true) : l.length ≤ 4 ∧ (∀ p ∈ l, p.f1.length ≤ 3 ∧ ∀ m ∈ p.f1, m.f3.length ≤ 40) ∧ up47 l := by
  obtain ⟨h1, h2⟩ := portsAt_facts l l.length 0 (by omega) h
  refine ⟨h1, fun p hp => ?_, fun i j hij => ?_⟩
  · obtain ⟨x, hx, rfl⟩ := List.getElem_of_mem hp
    have e := rdIP_at l x hx
    rw [List.getElem?_eq_getElem hx] at e
    rw [Option.some.inj e]
    obtain ⟨a, b, _⟩ := h2 x (Nat.zero_le _) hx
    exact ⟨a, b⟩
  · induction j with
    | zero => omega
    | succ j ih =>
      intro hj
      obtain ⟨_, _, h3⟩ := h2 (j + 1) (Nat.zero_le _) hj
      have h4 := h3 (by omega)
      rw [show ((j + 1 : Nat) : Int) - 1 = (j : Int) by omega] at h4
      by_cases hij2 : i = j
      · subst hij2; exact h4
      · have := ih (by omega) (by omega)
        omega
theorem portsOk_small (l : List IP) (h : impl_PortsOk.f l = some true) : small47 l ∧ up47 l := by
  obtain ⟨h1, h2, h3⟩ := portsOk_facts l h
  exact ⟨⟨by omega, fun p hp => ⟨by have := (h2 p hp).1; omega, fun m hm => by have := (h2 p hp).2 m hm; omega⟩⟩, h3⟩
/-! ### the place of a port -/
/-- The place of a port, or -1. -/
def atI (L : List IP) (a : Int) : Int := if L.findIdx (fun p => p.f0 == a) < L.length then (L.findIdx (fun p => p.f0 == a) : Int) else -1
theorem findIdx_drop (L : List IP) (a : Int) (i : Nat) (h : ∀ j : Nat, j < i → j < L.length → (rd_T47 L (j : Int)).f0 ≠ a) (hi : i < L.length) (he : (rd_T47 L (i : Int)).f0 = a) : L.findIdx (fun p => p.f0 == a) = i := by
  rw [List.findIdx_eq hi]
  have e : ∀ x : Nat, (hx : x < L.length) → rd_T47 L (x : Int) = L[x] := fun x hx => by
    have e := rdIP_at L x hx
    rw [List.getElem?_eq_getElem hx] at e
    exact (Option.some.inj e).symm
  refine ⟨by rw [← e i hi, he]; simp, fun j hj => ?_⟩
  have := h j hj (by omega)
  rw [e j (by omega)] at this
  simpa using this
theorem l9At_from (L : List IP) (hl : L.length ≤ 1048576) (a : Int) : ∀ d (i : Nat), i + d = L.length → (∀ j : Nat, j < i → j < L.length → (rd_T47 L (j : Int)).f0 ≠ a) → Ev (fun k => spec_l9At.l0 k L a (i : Int)) (atI L a) := by
  intro d
  induction d with
  | zero =>
    intro i hi h
    have hn : ¬ L.findIdx (fun p => p.f0 == a) < L.length := by
      intro hlt
      have h1 := List.findIdx_getElem (w := hlt)
      have e := rdIP_at L _ hlt
      rw [List.getElem?_eq_getElem hlt] at e
      rw [Option.some.inj e] at h1
      exact h _ (by omega) hlt (by simpa using h1)
    refine ev_step (fun _ => some (-1)) (fun k => ?_) ?_
    · rw [spec_l9At.l0, if_neg (by omega)]
    · unfold atI
      rw [if_neg hn]
      exact Ev.now _
  | succ d ih =>
    intro i hi h
    by_cases c : (rd_T47 L (i : Int)).f0 = a
    · have hf := findIdx_drop L a i h (by omega) c
      refine ev_step (fun _ => some (i : Int)) (fun k => ?_) ?_
      · rw [spec_l9At.l0, if_pos (by omega), if_pos (by omega), if_pos c]
      · unfold atI
        rw [hf, if_pos (by omega)]
        exact Ev.now _
    · refine ev_step _ (fun k => ?_) (ih (i + 1) (by omega) (fun j h1 h2 => ?_))
      · rw [spec_l9At.l0, if_pos (by omega), if_pos (by omega), if_neg c, wrap_id (n := (i : Int) + 1) (by omega) (by omega), show (i : Int) + 1 = ((i + 1 : Nat) : Int) by omega]
      · by_cases hj : j = i
        · subst hj; exact c
        · exact h j (by omega) h2
theorem l9At_ev (L : List IP) (hl : L.length ≤ 1048576) (a : Int) : Ev (fun k => spec_l9At.f k L a) (atI L a) := l9At_from L hl a L.length 0 (by omega) (fun j h => by omega)
def few (l : List IP) : Prop := l.length ≤ 5 ∧ ∀ p ∈ l, p.f1.length ≤ 4 ∧ ∀ m ∈ p.f1, m.f3.length ≤ 40
theorem few_BL {l : List IP} (h : few l) : BL l := ⟨by have := h.1; omega, fun p hp => ⟨by have := (h.2 p hp).1; omega, fun m hm => by have := (h.2 p hp).2 m hm; omega⟩⟩
theorem few_ok {l : List IP} (h : impl_PortsOk.f l = some true) : few l := by
  obtain ⟨h1, h2, _⟩ := portsOk_facts l h
  exact ⟨by omega, fun p hp => ⟨by have := (h2 p hp).1; omega, (h2 p hp).2⟩⟩
/-! ### what PortHear answers -/
theorem fromOf_len40 (f t : Int) (b : List Int) : (fromOf f t b).2.2.2.1.length ≤ 40 := by
  unfold fromOf
  split
  · rename_i h
    obtain ⟨h1, h2⟩ := h
    unfold mailOf at h2
    split at h2
    · rename_i h3
      have := h3.1.2.2.2
      show ((b.take (b.length - 2)).drop 3).length ≤ 40
      omega
    · rw [← h2] at h1
      simp at h1
  · simp
/-- A packet that may be heard. -/
def goodP (pk : Bool) (p1 p2 p5 : Int) (p6 : Bool) (a : Int) (mok : Bool) : Bool := pk && decide (p2 = 2) && decide (p5 = 0) && !p6 && decide (p1 = a) && mok
theorem goodP_iff (pk : Bool) (p1 p2 p5 : Int) (p6 : Bool) (a : Int) (mok : Bool) : goodP pk p1 p2 p5 p6 a mok = true ↔ pk = true ∧ p2 = 2 ∧ p5 = 0 ∧ p6 = false ∧ p1 = a ∧ mok = true := by
  unfold goodP
  cases pk <;> cases p6 <;> cases mok <;> simp [and_assoc]
theorem hearP_any (r : Bool) (l : List IP) (m n : IM) : hearP r false l m = hearP r false l n := by
  unfold hearP
  simp
theorem hearP_few (r good : Bool) (l : List IP) (m : IM) (h : impl_PortsOk.f l = some r) (hm : m.f3.length ≤ 40) : few (hearP r good l m).1 := by
  have hn : few [] := ⟨by simp, fun p hp => by cases hp⟩
  cases r with
  | false =>
    rw [hearP_no]
    exact hn
  | true =>
    have hf := few_ok h
    unfold hearP
    split
    · exact hn
    split
    · exact hf
    split
    · exact hf
    split
    · exact hf
    rename_i h3 h4
    generalize l.findIdx (fun p => p.f0 == m.f2) = i at h3 h4 ⊢
    have hi : i < l.length := Decidable.not_not.1 h3
    have h1 := hf.2 _ (rdIP_mem l i hi)
    refine ⟨by rw [List.length_set]; exact hf.1, fun p hp => ?_⟩
    rcases List.mem_or_eq_of_mem_set hp with h5 | h5
    · exact hf.2 p h5
    · subst h5
      refine ⟨?_, fun y hy => ?_⟩
      · show ((rd_T47 l (i : Int)).f1 ++ [m]).length ≤ 4
        rw [List.length_append, List.length_singleton]
        omega
      · rcases List.mem_append.1 hy with hy | hy
        · exact h1.2 y hy
        · rw [List.mem_singleton.1 hy]
          exact hm
/-! ### drawn ports: what the reader, PortListen and PortHear answer -/
theorem rdOk_code {s : List Int} (hs : Code s) : rdOk s := by
  refine ⟨fun p n h0 h1 hn => ?_, fun p n h0 h1 hn => ?_, fun p n h0 h1 => ?_⟩
  · obtain ⟨v, e, v0, v1⟩ := pick_some 1 s p n hs h0 (by omega) hn
    exact ⟨2, v, e, v0, v1⟩
  · have h2 : Tot (fun r : Bool × Int => p ≤ r.2 ∧ r.2 ≤ p + 1) ((spec_l20Rd_odd.f 10 s p n).bind some) := tot_odd hs (by omega) h0 (by omega) (fun b p' g0 g1 => tot_some ⟨g0, g1⟩)
    rw [Option.bind_fun_some] at h2
    obtain ⟨⟨b, p'⟩, e, g0, g1⟩ := h2
    exact ⟨10, b, p', e, g0, g1⟩
  · obtain ⟨⟨a, f, t, D, p'⟩, e, h2, h3, h4, h5, h6⟩ := mail_tot (n := n) hs (k := 1000) (by omega) h0 (by omega)
    exact ⟨1000, a, f, t, D, p', e, ⟨h2, h3, h4, h6⟩, h5⟩
theorem code_ok (l : List Int) (hw : ∀ x ∈ l, (Lit.int .u8 x).wf = true) : ∃ s, codeOk l s ∧ Code s := by
  obtain ⟨s, h1, h2⟩ := open_some l hw
  exact ⟨s, ⟨h1, rdOk_code h2⟩, h2⟩
theorem listenP_few (r : Bool) (l : List IP) (a : Int) (h : impl_PortsOk.f l = some r) : few (listenP r l a).1 := by
  have hn : few [] := ⟨by simp, fun p hp => by cases hp⟩
  cases r with
  | false =>
    unfold listenP
    rw [if_pos (.inl rfl)]
    exact hn
  | true =>
    have hf := few_ok h
    obtain ⟨h4, _⟩ := portsOk_facts l h
    unfold listenP
    split
    · exact hn
    · split
      · exact hf
      · generalize l.findIdx (fun p => decide (a < p.f0)) = i
        refine ⟨by simp only [List.length_append, List.length_take, List.length_drop, List.length_singleton]; omega, fun p hp => ?_⟩
        rcases List.mem_append.1 hp with hp | hp
        · rcases List.mem_append.1 hp with hp | hp
          · exact hf.2 p (List.mem_of_mem_take hp)
          · rw [List.mem_singleton.1 hp]
            exact ⟨by simp, fun m hm => by simp at hm⟩
        · exact hf.2 p (List.mem_of_mem_drop hp)
theorem atI_iff (L : List IP) (a : Int) : 0 ≤ atI L a ↔ L.findIdx (fun p => p.f0 == a) < L.length := by
  unfold atI
  split
  · rename_i h
    exact ⟨fun _ => h, fun _ => by omega⟩
  · rename_i h
    exact ⟨fun h0 => absurd h0 (by omega), fun h0 => absurd h0 h⟩
theorem listen_all : listenAll := by
  intro L a hL
  have hB : BL L := few_BL hL
  obtain ⟨t, t1, K3, k3⟩ := portsOk_same L hB
  have hfo := listenP_few t L a t1
  obtain ⟨x, hx⟩ : ∃ x, listenP t L a = x := ⟨_, rfl⟩
  rw [hx] at hfo
  obtain ⟨o, b⟩ := x
  obtain ⟨K6, k6⟩ := l9At_ev L hB.1 a
  refine ⟨K3 + K6, atI L a, t, o, b, k3 _ (by omega), fun h => ?_, fun _ => k6 _ (by omega), atI_iff L a, hx, hfo⟩
  subst h
  exact ⟨(portsOk_small L t1).1, (portsOk_facts L t1).1⟩
theorem mail_bytes (a b c : Int) (l : List Int) (t : Int) (hb : ∀ x ∈ l, 0 ≤ x ∧ x ≤ 255) : ∀ x ∈ mailOf a b c l t, 0 ≤ x ∧ x ≤ 255 := by
  intro x hx
  unfold mailOf at hx
  split at hx
  · rw [List.mem_append] at hx
    rcases hx with hx | hx
    · exact mailHead_byte b c l hb x hx
    · simp only [List.mem_cons, List.not_mem_nil, or_false] at hx
      rcases hx with rfl | rfl <;> omega
  · cases hx
theorem mailOf_len (a b c : Int) (l : List Int) (t : Int) : (mailOf a b c l t).length ≤ l.length + 5 := by
  unfold mailOf
  split
  · simp [mailHead]
  · simp
/-- Ports hear a packet: what the reference answers. -/
theorem hearS_any (L : List IP) (hB : BL L) (a1 p0 p1 p2 p3 p4 p5 : Int) (p6 p7 : Bool) (D : List Int) (hDl : D.length ≤ 1048576) (hby : ∀ x ∈ D, 0 ≤ x ∧ x ≤ 255) (t : Bool) (ht : impl_PortsOk.f L = some t) : ∃ (pk : Bool) (mf mg mt : Int) (md : List Int) (mok : Bool), spec_PacketOk.f p0 p1 p2 p3 p4 p5 p6 p7 D = some pk ∧ fromOf p0 p1 D = (mf, mg, mt, md, mok) ∧ ∃ K, ∀ k, K ≤ k → hearS k L a1 p0 p1 p2 p3 p4 p5 p6 p7 D (hearP t (goodP pk p1 p2 p5 p6 a1 mok) L ⟨mf, mg, mt, md⟩).1 (hearP t (goodP pk p1 p2 p5 p6 a1 mok) L ⟨mf, mg, mt, md⟩).2 := by
  obtain ⟨pk, q1, q2⟩ := packetOk_some p0 p1 p2 p3 p4 p5 p6 p7 D
  have hS := fun k hk => specMailFrom p0 p1 D hDl hby k hk
  have hls := fromOf_len40 p0 p1 D
  obtain ⟨Q, hQ⟩ : ∃ Q, fromOf p0 p1 D = Q := ⟨_, rfl⟩
  rw [hQ] at hS hls
  obtain ⟨mf, mg, mt, md, mok⟩ := Q
  dsimp only at hls
  obtain ⟨u, u1, K3, k3⟩ := portsOk_same L hB
  obtain rfl : u = t := by rw [u1] at ht; exact Option.some.inj ht
  obtain ⟨K6, k6⟩ := l9At_ev L hB.1 mt
  refine ⟨pk, mf, mg, mt, md, mok, q1, hQ, K3 + K6 + D.length + 10000, fun k hk => ?_⟩
  have hS2 := hS (k - 60) (by omega)
  rw [show k - 60 + 60 = k by omega] at hS2
  exact ⟨u, pk, mok, goodP pk p1 p2 p5 p6 a1 mok, mf, mg, mt, md, k3 k (by omega), fun h => by subst h; exact ⟨(portsOk_small L u1).1, fun p hp => ((portsOk_facts L u1).2.1 p hp).1⟩, q1, q2, hS2, by omega, goodP_iff _ _ _ _ _ _ _, fun _ => k6 k (by omega), rfl⟩
theorem hear_all : hearAll := by
  intro L a f t D hL hm
  obtain ⟨h1, h2, h3, h4⟩ := hm
  have hB : BL L := few_BL hL
  have hb := mail_bytes a f t D 3 h3
  have hl := mailOf_len a f t D 3
  have hM : spec_MailBytes.f (1940 + 60) a f t D 3 = some (mailOf a f t D 3) := specMail a f t D 3 h3 1940
  generalize mailOf a f t D 3 = b at hb hl hM
  obtain ⟨u, u1, _⟩ := portsOk_same L hB
  obtain ⟨pk, mf, mg, mt, md, mok, _, hQ, K, hK⟩ := hearS_any L hB 3 a 3 2 0 0 0 false false b (by omega) hb u u1
  have hls := fromOf_len40 a 3 b
  rw [hQ] at hls
  exact ⟨_, K, b, _, _, hM, hK K (Nat.le_refl _), hearP_few u _ L ⟨mf, mg, mt, md⟩ u1 (by exact hls)⟩
/-- Few ports, or ports that a draw has spoilt. -/
theorem few47b_BL {l : List IP} (h : few47b l) : BL l := ⟨by have := h.1; omega, fun p hp => ⟨by have := (h.2 p hp).1; omega, fun m hm => by have := (h.2 p hp).2 m hm; omega⟩⟩
/-! ### ports that are ok, said of the list -/
theorem rdIP_get (l : List IP) (i : Nat) (h : i < l.length) : rd_T47 l (i : Int) = l[i] := by
  have e := rdIP_at l i h
  rw [List.getElem?_eq_getElem h] at e
  exact (Option.some.inj e).symm
def pOk (x : IP) : Prop := (1 ≤ x.f0 ∧ x.f0 ≤ 255) ∧ x.f1.length ≤ 3 ∧ impl_PortsOk.row x.f0 x.f1 = some false
def PO (L : List IP) : Prop := L.length ≤ 4 ∧ (∀ x ∈ L, pOk x) ∧ L.Pairwise (fun x y => x.f0 < y.f0)
theorem num_iff (a : Int) : impl_PortsOk.num a = true ↔ 1 ≤ a ∧ a ≤ 255 := by
  unfold impl_PortsOk.num
  simp
theorem at_iff (l : List IP) : ∀ d i : Nat, i + d = l.length → (impl_PortsOk.at_ l d i = some true ↔ l.length ≤ 4 ∧ ∀ x : Nat, i ≤ x → x < l.length → pOk (rd_T47 l (x : Int)) ∧ (0 < x → (rd_T47 l ((x : Int) - 1)).f0 < (rd_T47 l (x : Int)).f0)) := by
  intro d
  induction d with
  | zero =>
    intro i hi
    rw [impl_PortsOk.at_]
    simp only [Option.some.injEq, decide_eq_true_eq]
    exact ⟨fun h => ⟨h, fun x h1 h2 => by omega⟩, fun h => h.1⟩
  | succ d ih =>
    intro i hi
    rw [impl_PortsOk.at_]
    constructor
    · intro h
      by_cases c1 : impl_PortsOk.num (rd_T47 l (i : Int)).f0 = false
      · rw [if_pos c1] at h; cases h
      rw [if_neg c1] at h
      by_cases c2 : 0 < i ∧ (rd_T47 l ((i : Int) - 1)).f0 ≥ (rd_T47 l (i : Int)).f0
      · rw [if_pos c2] at h; cases h
      rw [if_neg c2] at h
      by_cases c3 : 3 < (rd_T47 l (i : Int)).f1.length
      · rw [if_pos c3] at h; cases h
      rw [if_neg c3] at h
      obtain ⟨t, h1, h2⟩ := Option.bind_eq_some_iff.mp h
      cases t with
      | true => simp at h2
      | false =>
        have h2 : impl_PortsOk.at_ l d (i + 1) = some true := by simpa using h2
        obtain ⟨h3, h4⟩ := (ih (i + 1) (by omega)).1 h2
        refine ⟨h3, fun x h5 h6 => ?_⟩
        by_cases hx : x = i
        · subst hx
          exact ⟨⟨(num_iff _).1 (by simpa using c1), by omega, h1⟩, fun h0 => by
            have := fun h => c2 ⟨h0, h⟩
            omega⟩
        · exact h4 x (by omega) h6
    · rintro ⟨h3, h4⟩
      obtain ⟨⟨g1, g2, g3⟩, g4⟩ := h4 i (Nat.le_refl _) (by omega)
      rw [if_neg (by rw [(num_iff _).2 g1]; simp), if_neg (fun h => by have h1 := g4 h.1; have h2 := h.2; omega), if_neg (by omega), g3, Option.bind_some, if_neg (by simp)]
      exact (ih (i + 1) (by omega)).2 ⟨h3, fun x h5 h6 => h4 x (by omega) h6⟩
theorem po_iff (L : List IP) : impl_PortsOk.f L = some true ↔ PO L := by
  have h0 := at_iff L L.length 0 (by omega)
  constructor
  · intro h
    obtain ⟨h1, h2⟩ := h0.1 h
    obtain ⟨_, _, hu⟩ := portsOk_facts L h
    refine ⟨h1, fun x hx => ?_, ?_⟩
    · obtain ⟨i, hi, rfl⟩ := List.getElem_of_mem hx
      rw [← rdIP_get L i hi]
      exact (h2 i (Nat.zero_le _) hi).1
    · rw [List.pairwise_iff_getElem]
      intro i j hi hj hij
      have := hu i j hij hj
      rw [rdIP_get L i hi, rdIP_get L j hj] at this
      exact this
  · rintro ⟨h1, h2, h3⟩
    refine h0.2 ⟨h1, fun x _ hx => ⟨by rw [rdIP_get L x hx]; exact h2 _ (List.getElem_mem hx), fun h => ?_⟩⟩
    rw [List.pairwise_iff_getElem] at h3
    rw [show (x : Int) - 1 = ((x - 1 : Nat) : Int) by omega, rdIP_get L x hx, rdIP_get L (x - 1) (by omega)]
    exact h3 (x - 1) x (by omega) hx (by omega)
/-! ### a port's row is turned -/
theorem row_iff (N : Int) (M : List IM) : impl_PortsOk.row N M = some false ↔ ∀ m ∈ M, impl_PortsOk.bad N m = some false := by
  induction M with
  | nil => exact ⟨fun _ m hm => absurd hm (by simp), fun _ => rfl⟩
  | cons x M ih =>
    rw [impl_PortsOk.row]
    constructor
    · intro h m hm
      obtain ⟨t, h1, h2⟩ := Option.bind_eq_some_iff.mp h
      cases t with
      | true => simp at h2
      | false =>
        rcases List.mem_cons.1 hm with rfl | hm
        · exact h1
        · exact ih.1 (by simpa using h2) m hm
    · intro h
      rw [h x List.mem_cons_self, Option.bind_some, if_neg (by simp)]
      exact ih.2 (fun m hm => h m (List.mem_cons_of_mem _ hm))
theorem set_map0 (L : List IP) (i : Nat) (hi : i < L.length) (a : Int) (M : List IM) (ha : (rd_T47 L (i : Int)).f0 = a) : (L.set i ⟨a, M⟩).map (fun x => x.f0) = L.map (fun x => x.f0) := by
  rw [List.map_set]
  apply List.ext_getElem?
  intro j
  rw [List.getElem?_set]
  by_cases h : i = j
  · subst h
    rw [if_pos rfl, if_pos (by simpa using hi), List.getElem?_map, List.getElem?_eq_getElem hi, ← rdIP_get L i hi, Option.map_some, ha]
  · rw [if_neg h]
theorem po_set (L : List IP) (i : Nat) (hi : i < L.length) (a : Int) (M : List IM) (ha : (rd_T47 L (i : Int)).f0 = a) (h : PO L) (hM : pOk ⟨a, M⟩) : PO (L.set i ⟨a, M⟩) := by
  obtain ⟨h1, h2, h3⟩ := h
  refine ⟨by rw [List.length_set]; exact h1, fun x hx => ?_, ?_⟩
  · rcases List.mem_or_eq_of_mem_set hx with h4 | h4
    · exact h2 x h4
    · rw [h4]; exact hM
  · have h4 := (List.pairwise_map (f := fun x : IP => x.f0) (R := fun x y : Int => x < y) (l := L)).2 h3
    rw [← set_map0 L i hi a M ha] at h4
    exact (List.pairwise_map (f := fun x : IP => x.f0)).1 h4
theorem rd_set_same (L : List IP) (i : Nat) (hi : i < L.length) (x : IP) : rd_T47 (L.set i x) (i : Int) = x := by
  rw [rdIP_get _ i (by rw [List.length_set]; exact hi), List.getElem_set_self]
theorem fromOf_ok {f t : Int} {b : List Int} {mf mg mt : Int} {md : List Int} (h : fromOf f t b = (mf, mg, mt, md, true)) : (0 ≤ mf ∧ mf ≤ 65535) ∧ (1 ≤ mg ∧ mg ≤ 255) ∧ (1 ≤ mt ∧ mt ≤ 255) ∧ (md.length : Int) ≤ 40 := by
  unfold fromOf at h
  split at h
  · rename_i c
    obtain ⟨c1, c2⟩ := c
    unfold mailOf at c2
    split at c2
    · rename_i c3
      simp only [Prod.mk.injEq] at h
      obtain ⟨rfl, rfl, rfl, rfl, _⟩ := h
      exact c3.1
    · rw [← c2] at c1
      simp at c1
  · simp at h
theorem mailOk_all (a b c : Int) (l : List Int) : impl_MailOk.f a b c l = some (decide ((0 ≤ a ∧ a ≤ 65535) ∧ (1 ≤ b ∧ b ≤ 255) ∧ (1 ≤ c ∧ c ≤ 255) ∧ (l.length : Int) ≤ 40)) := by
  simp only [impl_MailOk.f, impl_word.f, impl_portOk.f, inAll', Option.bind_some]
  by_cases h1 : 0 ≤ a ∧ a ≤ 65535 <;> by_cases h2 : 1 ≤ b ∧ b ≤ 255 <;> by_cases h3 : 1 ≤ c ∧ c ≤ 255 <;> simp [h1, h2, h3]
theorem bad_not (m : IM) (h : (0 ≤ m.f0 ∧ m.f0 ≤ 65535) ∧ (1 ≤ m.f1 ∧ m.f1 ≤ 255) ∧ (1 ≤ m.f2 ∧ m.f2 ≤ 255) ∧ (m.f3.length : Int) ≤ 40) : impl_PortsOk.bad m.f2 m = some false := by
  unfold impl_PortsOk.bad
  rw [mailOk_all, decide_eq_true h, Option.bind_some]
  simp
theorem hear_same {good : Bool} {L o : List IP} {d : Int} {m : IM} (h : hearP true good L m = (o, d)) (hd : d ≠ 1) : o = L := by
  unfold hearP at h
  split at h
  · rename_i c
    cases c
  split at h
  · injection h with h _
    exact h.symm
  split at h
  · injection h with h _
    exact h.symm
  split at h
  · injection h with h _
    exact h.symm
  · injection h with _ h
    exact absurd h.symm hd
theorem hear_one {good : Bool} {L o : List IP} {m : IM} (h : hearP true good L m = (o, 1)) : good = true ∧ L.findIdx (fun p => p.f0 == m.f2) < L.length ∧ (rd_T47 L (L.findIdx (fun p => p.f0 == m.f2) : Nat)).f1.length < 3 ∧ o = L.set (L.findIdx (fun p => p.f0 == m.f2)) ⟨(rd_T47 L (L.findIdx (fun p => p.f0 == m.f2) : Nat)).f0, (rd_T47 L (L.findIdx (fun p => p.f0 == m.f2) : Nat)).f1 ++ [m]⟩ := by
  unfold hearP at h
  split at h
  · rename_i c
    cases c
  split at h
  · injection h with _ h
    exact absurd h (by decide)
  split at h
  · injection h with _ h
    exact absurd h (by decide)
  split at h
  · injection h with _ h
    exact absurd h (by decide)
  · rename_i c1 c2 c3 c4
    injection h with h _
    exact ⟨by simpa using c2, Decidable.not_not.1 c3, Nat.lt_of_not_le c4, h.symm⟩
theorem rdPk_code {s : List Int} (hs : Code s) : rdPk s := by
  refine ⟨fun p h0 h1 => ?_, fun a f t D hm => ?_⟩
  · obtain ⟨⟨p0, p1, p2, p3, p4, p5, p6, p7, D, p'⟩, e, h2, h3, _⟩ := packet_tot (z := 2) hs (k := 1000) (by omega) h0 (by omega)
    dsimp only at h2 h3
    exact ⟨1000, p0, p1, p2, p3, p4, p5, p6, p7, D, p', e, by omega, h3⟩
  · have h3 := hm.2.2.1
    have hb := mail_bytes a f t D 3 h3
    have hl := mailOf_len a f t D 3
    exact ⟨1940 + 60, mailOf a f t D 3, specMail a f t D 3 h3 1940, by have := hm.2.1; omega, hb⟩
theorem rd_other (L : List IP) (i x : Nat) (hx : x < L.length) (hne : x ≠ i) (y : IP) : rd_T47 (L.set i y) (x : Int) = rd_T47 L (x : Int) := by
  rw [rdIP_get _ x (by rw [List.length_set]; exact hx), rdIP_get L x hx, List.getElem_set_ne (Ne.symm hne)]
theorem main : GFnPortHear.Stmt := by
  intro l hl
  obtain ⟨hl, hw⟩ := hl
  refine ⟨2000, ?_⟩
  by_cases h : l.length > 1048576
  · exact .inl h
  · obtain ⟨s, hs, hc⟩ := code_ok l hw
    refine .inr ⟨s, by omega, hs, rdPk_code hc, listen_all, hear_all, alive_true 1997, fun L p0 p1 p2 p3 p4 p5 p6 p7 D hL hDl hby => ?_⟩
    have hB := few47b_BL hL
    obtain ⟨t, t1, _⟩ := portsOk_same L hB
    obtain ⟨pk, mf, mg, mt, md, mok, q1, hQ, K1, hS⟩ := hearS_any L hB 3 p0 p1 p2 p3 p4 p5 p6 p7 D (by omega) hby t t1
    have q3 : impl_PacketOk.f p0 p1 p2 p3 p4 p5 p6 p7 D = some pk := by rw [packetOk_impl]; exact q1
    have hI := fun k hk => implMailFrom p0 3 D (by omega) hby k hk
    have hli := fromOf_len40 p0 3 D
    obtain ⟨R, hR⟩ : ∃ R, fromOf p0 3 D = R := ⟨_, rfl⟩
    rw [hR] at hI hli
    obtain ⟨nf, ng, nt, nd, nok⟩ := R
    dsimp only at hli
    have hq : hearP t (goodP pk p1 p2 p5 p6 3 mok) L ⟨mf, mg, mt, md⟩ = hearP t (goodP pk p1 p2 p5 p6 3 nok) L ⟨nf, ng, nt, nd⟩ := by
      by_cases h3 : p1 = 3
      · subst h3
        rw [hQ] at hR
        simp only [Prod.mk.injEq] at hR
        obtain ⟨rfl, rfl, rfl, rfl, rfl⟩ := hR
        rfl
      · have e1 : ∀ b, goodP pk p1 p2 p5 p6 3 b = false := fun b => by
          unfold goodP
          simp [h3]
        rw [e1, e1]
        exact hearP_any _ _ _ _
    have hfo := hearP_few t (goodP pk p1 p2 p5 p6 3 nok) L ⟨nf, ng, nt, nd⟩ t1 (by exact hli)
    obtain ⟨x, hx⟩ : ∃ x, hearP t (goodP pk p1 p2 p5 p6 3 nok) L ⟨nf, ng, nt, nd⟩ = x := ⟨_, rfl⟩
    rw [hx] at hq hfo
    rw [hq] at hS
    obtain ⟨o, d⟩ := x
    dsimp only at hfo hS
    obtain ⟨k, hk⟩ : ∃ k, k = (K1 + D.length + 10000) + 60 := ⟨_, rfl⟩
    have hI2 := hI (k - 60) (by omega)
    rw [show k - 60 + 60 = k by omega] at hI2
    refine ⟨k, o, d, t, t1, ⟨t, pk, nok, goodP pk p1 p2 p5 p6 3 nok, nf, ng, nt, nd, t1, fun h => ?_, q3, hI2, by omega, goodP_iff _ _ _ _ _ _ _, hx⟩, hS k (by omega), ⟨by have := hfo.1; omega, fun p hp => by have := (hfo.2 p hp).1; omega⟩, fun h => ?_, fun h hd => ?_, fun h hd => ?_⟩
    · subst h
      exact portsOk_small L t1
    · subst h
      rw [hearP_no] at hx
      injection hx with _ hx
      exact hx.symm
    · subst h
      exact hear_same hx hd
    · subst h
      subst hd
      obtain ⟨g1, hi, g3, ho⟩ := hear_one hx
      obtain ⟨_, _, _, _, rfl, rfl⟩ := (goodP_iff _ _ _ _ _ _ _).1 g1
      have hP := (po_iff L).1 t1
      have hm := fromOf_ok hR
      dsimp only at hi g3 ho
      obtain ⟨y, hy⟩ : ∃ y, rd_T47 L (L.findIdx (fun p => p.f0 == nt) : Nat) = y := ⟨_, rfl⟩
      obtain ⟨N, M⟩ := y
      have hN : N = nt := by
        have h1 := List.findIdx_getElem (w := hi)
        rw [← rdIP_get L _ hi, hy] at h1
        simpa using h1
      subst hN
      rw [hy] at g3 ho
      dsimp only at g3 ho
      have hpk := hP.2.1 _ (rdIP_mem L _ hi)
      rw [hy] at hpk
      obtain ⟨h5, h6, h7⟩ := hpk
      have hpo := po_set L _ hi N (M ++ [⟨nf, ng, N, nd⟩]) (by rw [hy]) hP ⟨h5, by show (M ++ [_]).length ≤ 3; rw [List.length_append, List.length_singleton]; omega, (row_iff _ _).2 (fun z hz => by
        rcases List.mem_append.1 hz with hz | hz
        · exact (row_iff _ _).1 h7 z hz
        · rw [List.mem_singleton.1 hz]
          exact bad_not ⟨nf, ng, N, nd⟩ hm)⟩
      rw [← ho] at hpo
      refine ⟨nf, ng, N, nd, L.findIdx (fun p => p.f0 == N), M, M ++ [⟨nf, ng, N, nd⟩], hI2, (po_iff o).2 hpo, by rw [ho, List.length_set], hi, hy, by rw [ho]; exact rd_set_same L _ hi _, by rw [List.length_append, List.length_singleton], by omega, ?_, fun x hx2 hne => ?_⟩
      · unfold rd_T40
        rw [Int.toNat_natCast, List.getD_eq_getElem?_getD, List.getElem?_append_right (Nat.le_refl _), Nat.sub_self]
        rfl
      · rw [ho, rd_other L _ x hx2 hne]
end FnPortHear_
theorem FnPortHear : GFnPortHear.Stmt := FnPortHear_.main
end Go.Proofs.Ytkkibccnpkbbjaa.Pure
