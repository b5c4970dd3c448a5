/- The pure law of FnPathRoom: whatever the code, the drawn way is as narrow for the program as for the reference, at most 48, and at most the room of the first route. No conditions. -/
import Derived.Test.YtkkibccnpkbbjabGFnPathRoom
namespace Go.Proofs.Ytkkibccnpkbbjab.Pure
open Go Go.RowKit Go.Proofs.Ytkkibccnpkbbjab.MFnPathRoom Go.Proofs.YtkkibccnpkbbjabV.PrintWords Go.Proofs.YtkkibccnpkbbjabV.PrintLast
set_option linter.unusedVariables false
set_option linter.unusedSimpArgs false
namespace FnPathRoom_
theorem i64_bounds {x : Int} (h : (Lit.int .i64 x).wf = true) : -9223372036854775808 ≤ x ∧ x ≤ 9223372036854775807 := by
  simpa [Lit.wf, IntKind.min, IntKind.max, IntKind.signed, IntKind.bits] using h
theorem inAll (x y z : Int) : spec_l1In.f x y z = some (decide (y ≤ x ∧ x ≤ z)) := by
  unfold spec_l1In.f
  by_cases h : x ≥ y
  · rw [if_pos h]; congr 1; simp only [decide_eq_decide]; omega
  · rw [if_neg h]; congr 1; symm; simp only [decide_eq_false_iff_not]; omega
theorem inAll' (x y z : Int) : impl_in.f x y z = some (decide (y ≤ x ∧ x ≤ z)) := inAll x y z
theorem wl {n m : Int} (h : n = m) (h0 : -9223372036854775808 ≤ m) (h1 : m ≤ 9223372036854775807) : wrap64 n = m := by
  subst h
  unfold wrap64
  omega
/-! ### a draw: a number in 0..n-1, and the place one further -/
theorem xor_nat (a b : Nat) (ha : a < 9223372036854775808) (hb : b < 9223372036854775808) : Go.bits .xor .i64 (a : Int) (b : Int) = ((a ^^^ b : Nat) : Int) := by
  have hx : a ^^^ b < 2 ^ 63 := Nat.xor_lt_two_pow (by omega) (by omega)
  have ha' : a % 2 ^ 64 = a := Nat.mod_eq_of_lt (by omega)
  have hb' : b % 2 ^ 64 = b := Nat.mod_eq_of_lt (by omega)
  have e : IntKind.i64.bits = 64 := rfl
  simp only [Go.bits, BitVec.ofInt_natCast, BitVec.toNat_xor, BitVec.toNat_ofNat, e, ha', hb']
  rw [IntKind.wrap_i64]
  omega
theorem wrap_in {n : Int} (h : -9223372036854775808 ≤ n) (h' : n ≤ 9223372036854775807) : wrap64 n = n := by
  unfold wrap64; omega
theorem u8_bounds {x : Int} (h : (Lit.int .u8 x).wf = true) : 0 ≤ x ∧ x ≤ 255 := by
  simpa [Lit.wf, IntKind.min, IntKind.max, IntKind.signed, IntKind.bits] using h
/-- The bytes of a code. -/
def Code (s : List Int) : Prop := (∀ x ∈ s, 0 ≤ x ∧ x ≤ 255) ∧ s.length ≤ 2000
theorem Code.at {s : List Int} (h : Code s) (i : Int) : 0 ≤ rd s i ∧ rd s i ≤ 255 := by
  unfold rd
  rw [List.getD_eq_getElem?_getD]
  rcases hc : s[i.toNat]? with _ | x
  · simp
  · have := h.1 x (List.mem_of_getElem? hc)
    simpa using this
theorem pick_some (k : Nat) (s : List Int) (p n : Int) (hs : Code s) (h0 : 0 ≤ p) (h1 : p ≤ 1000000000) (hn : 1 ≤ n) :
    ∃ v, spec_l20Rd_pick.f (k + 1) s p n = some (v, p + 1) ∧ 0 ≤ v ∧ v < n := by
  have hl := hs.2
  unfold spec_l20Rd_pick.f
  rw [if_neg (by omega)]
  by_cases hz : s.length = 0
  · refine ⟨0, ?_, by omega, by omega⟩
    simp only [spec_l20Rd_pick.j0]
    rw [if_pos (by simp [hz]), wrap_in (by omega) (by omega)]
  · have hz' : ((s.length : Int) == 0) = false := by simpa using hz
    rw [hz']
    simp only [spec_l20Rd_pick.j0]
    rw [if_neg (by decide), wrap_in (n := p + 1) (by omega) (by omega), show p + 1 - 1 = p by omega, wrap_in (n := p) (by omega) (by omega)]
    by_cases hp : p < (s.length : Int)
    · have hb := hs.at p
      rw [if_pos hp, if_pos h0, if_neg (by omega), wrap_in (by omega) (by omega), Int.tmod_eq_emod_of_nonneg hb.1]
      exact ⟨_, rfl, Int.emod_nonneg _ (by omega), Int.emod_lt_of_pos _ (by omega)⟩
    · rw [if_neg hp, if_neg (by omega)]
      have hL : (0 : Int) < (s.length : Int) := by omega
      rw [wrap_in (n := p * 7) (by omega) (by omega), wrap_in (n := p * 7 + 3) (by omega) (by omega)]
      rw [Int.tmod_eq_emod_of_nonneg h0, Int.tmod_eq_emod_of_nonneg (a := p * 7 + 3) (by omega)]
      have ha0 := Int.emod_nonneg p (b := (s.length : Int)) (by omega)
      have ha1 := Int.emod_lt_of_pos p (b := (s.length : Int)) (by omega)
      have hb0 := Int.emod_nonneg (p * 7 + 3) (b := (s.length : Int)) (by omega)
      have hb1 := Int.emod_lt_of_pos (p * 7 + 3) (b := (s.length : Int)) (by omega)
      rw [if_pos ha0, if_pos ha1, if_pos hb0, if_pos hb1, if_neg (by omega)]
      have hx := hs.at (p % (s.length : Int))
      have hy := hs.at ((p * 7 + 3) % (s.length : Int))
      generalize rd s (p % (s.length : Int)) = x at hx
      generalize rd s ((p * 7 + 3) % (s.length : Int)) = y at hy
      have hd0 : 0 ≤ p / (s.length : Int) := Int.ediv_nonneg h0 (by omega)
      have hd1 : p / (s.length : Int) ≤ p := Int.ediv_le_self _ h0
      rw [Int.tdiv_eq_ediv_of_nonneg h0]
      generalize p / (s.length : Int) = q at hd0 hd1
      rw [wrap_in (n := x) (by omega) (by omega), wrap_in (n := y) (by omega) (by omega), wrap_in (n := x * 131) (by omega) (by omega), wrap_in (n := y * 1117) (by omega) (by omega), wrap_in (n := x * 131 + y * 1117) (by omega) (by omega), wrap_in (n := p * 29) (by omega) (by omega), wrap_in (n := x * 131 + y * 1117 + p * 29) (by omega) (by omega), wrap_in (n := q) (by omega) (by omega), wrap_in (n := q * 53) (by omega) (by omega), wrap_in (n := x * 131 + y * 1117 + p * 29 + q * 53) (by omega) (by omega)]
      obtain ⟨z, hz⟩ : ∃ z : Nat, x * 131 + y * 1117 + p * 29 + q * 53 = (z : Int) := ⟨(x * 131 + y * 1117 + p * 29 + q * 53).toNat, by omega⟩
      rw [hz]
      have hzb : z < 1000000000000 := by omega
      rw [Int.tdiv_eq_ediv_of_nonneg (by omega), wrap_in (n := (z : Int) / 64) (by omega) (by omega)]
      rw [show ((z : Int) / 64) = ((z / 64 : Nat) : Int) by omega, xor_nat _ _ (by omega) (by omega), Int.tmod_eq_emod_of_nonneg (by omega)]
      exact ⟨_, rfl, Int.emod_nonneg _ (by omega), Int.emod_lt_of_pos _ (by omega)⟩
theorem open_some (l : List Int) (hw : ∀ x ∈ l, (Lit.int .u8 x).wf = true) : ∃ s, spec_l20Open.f l = some (s, 0) ∧ Code s := by
  unfold spec_l20Open.f
  have hb : ∀ x ∈ l, 0 ≤ x ∧ x ≤ 255 := fun x hx => u8_bounds (hw x hx)
  by_cases h : (l.length : Int) > 2000
  · rw [if_pos h, if_pos (by omega)]
    exact ⟨_, rfl, fun x hx => hb x (List.mem_of_mem_take hx), by rw [List.length_take]; omega⟩
  · rw [if_neg h]
    exact ⟨_, rfl, hb, by omega⟩
/-! ### what comes to an answer -/
def Tot {β : Type} (Q : β → Prop) (o : Option β) : Prop := ∃ b, o = some b ∧ Q b
theorem tot_some {β : Type} {Q : β → Prop} {b : β} (h : Q b) : Tot Q (some b) := ⟨b, rfl, h⟩
theorem tot_bind {α β : Type} {P : α → Prop} {Q : β → Prop} {o : Option α} {f : α → Option β} (h : Tot P o) (hf : ∀ a, P a → Tot Q (f a)) : Tot Q (o.bind f) := by
  obtain ⟨a, rfl, ha⟩ := h
  exact hf a ha
theorem tot_ite {β : Type} {Q : β → Prop} {c : Prop} [Decidable c] {x y : Option β} (h1 : c → Tot Q x) (h2 : ¬ c → Tot Q y) : Tot Q (if c then x else y) := by
  by_cases h : c
  · rw [if_pos h]; exact h1 h
  · rw [if_neg h]; exact h2 h
theorem tot_mono {β : Type} {P Q : β → Prop} {o : Option β} (h : Tot P o) (hq : ∀ b, P b → Q b) : Tot Q o := by
  obtain ⟨b, hb, hp⟩ := h
  exact ⟨b, hb, hq b hp⟩
theorem tot_none {β : Type} {Q : β → Prop} (h : False) : Tot Q none := h.elim
theorem tot_pick {β : Type} {Q : β → Prop} {F : Int × Int → Option β} {k : Nat} {s : List Int} {p n : Int} (hs : Code s) (hk : 1 ≤ k) (h0 : 0 ≤ p) (h1 : p ≤ 1000000000) (hn : 1 ≤ n)
    (h : ∀ v, 0 ≤ v → v < n → Tot Q (F (v, p + 1))) : Tot Q ((spec_l20Rd_pick.f k s p n).bind F) := by
  obtain ⟨k, rfl⟩ : ∃ m, k = m + 1 := ⟨k - 1, by omega⟩
  obtain ⟨v, hv, v0, v1⟩ := pick_some k s p n hs h0 h1 hn
  rw [hv]
  exact h v v0 v1
theorem tot_odd {β : Type} {Q : β → Prop} {F : Bool × Int → Option β} {k : Nat} {s : List Int} {p n : Int} (hs : Code s) (hk : 1 ≤ k) (h0 : 0 ≤ p) (h1 : p ≤ 1000000000)
    (h : ∀ b p', p ≤ p' → p' ≤ p + 1 → Tot Q (F (b, p'))) : Tot Q ((spec_l20Rd_odd.f k s p n).bind F) := by
  refine tot_bind (P := fun r => p ≤ r.2 ∧ r.2 ≤ p + 1) ?_ (fun a ha => h a.1 a.2 ha.1 ha.2)
  unfold spec_l20Rd_odd.f
  refine tot_ite (fun hn => ?_) (fun hn => ?_)
  · refine tot_pick hs hk h0 h1 (by omega) ?_
    intro v _ _
    exact tot_some (by dsimp only; omega)
  · exact tot_some (by dsimp only; omega)
theorem alive_true (k : Nat) : laws_alive.f (k + 3) = some true := by
  simp [laws_alive.f, impl_BytesOf.f, impl_in.f, impl_bytesOf.f, impl_bytesOf.l0, wrap64, shl, IntKind.wrap, IntKind.bits, IntKind.signed]
/-! ### copies, equality and sizes of rows of bytes -/
theorem wrap_id {n : Int} (h : -9223372036854775808 ≤ n) (h' : n ≤ 9223372036854775807) : wrap64 n = n := by
  unfold wrap64; omega
/-- A loop that fills a row, an element at a time, from the elements of another one. -/
theorem fills {α : Type} (n : Nat) (hn : n ≤ 281474976710656) (L : Nat → List α → Int → Option (List α)) (g : Nat → α)
    (h : ∀ k acc i, k < n + 1 → L (k + 1) acc i = if i < (n : Int) then (if 0 ≤ i then (if i < (acc.length : Int) then L k (acc.set i.toNat (g i.toNat)) (wrap64 (i + 1)) else none) else none) else some acc) :
    ∀ d k (i : Nat) (acc : List α), i + d = n → k = d + 1 → acc.length = n → (∀ j, j < i → acc[j]? = some (g j)) → ∃ r, L k acc (i : Int) = some r ∧ r.length = n ∧ ∀ j, j < n → r[j]? = some (g j) := by
  intro d
  induction d with
  | zero =>
    intro k i acc hi hk hl hp
    subst hk
    refine ⟨acc, ?_, hl, fun j hj => hp j (by omega)⟩
    rw [h _ _ _ (by omega), if_neg (by omega)]
  | succ d ih =>
    intro k i acc hi hk hl hp
    subst hk
    obtain ⟨r, hr, hrl, hrp⟩ := ih (d + 1) (i + 1) (acc.set i (g i)) (by omega) rfl (by simpa using hl) (fun j hj => by
      by_cases hji : j = i
      · subst hji
        simp [List.getElem?_set, hl]
        omega
      · rw [List.getElem?_set_ne (by omega)]
        exact hp j (by omega))
    refine ⟨r, ?_, hrl, hrp⟩
    rw [h _ _ _ (by omega), if_pos (by omega), if_pos (by omega), if_pos (by omega), wrap_id (by omega) (by omega)]
    simpa using hr
theorem rd_at (l : List Int) (i : Nat) (h : i < l.length) : l[i]? = some (rd l (i : Int)) := by
  unfold rd
  rw [List.getD_eq_getElem?_getD, Int.toNat_natCast, List.getElem?_eq_getElem h]
  rfl
/-! ### routes -/
theorem shl_pow (b : Int) (h0 : 0 ≤ b) (h1 : b ≤ 16) : 1 ≤ shl .i64 1 b ∧ shl .i64 1 b ≤ 65536 := by
  obtain ⟨n, rfl⟩ : ∃ n : Nat, b = (n : Int) := ⟨b.toNat, by omega⟩
  have hf : n = 0 ∨ n = 1 ∨ n = 2 ∨ n = 3 ∨ n = 4 ∨ n = 5 ∨ n = 6 ∨ n = 7 ∨ n = 8 ∨ n = 9 ∨ n = 10 ∨ n = 11 ∨ n = 12 ∨ n = 13 ∨ n = 14 ∨ n = 15 ∨ n = 16 := by omega
  rcases hf with rfl | rfl | rfl | rfl | rfl | rfl | rfl | rfl | rfl | rfl | rfl | rfl | rfl | rfl | rfl | rfl | rfl <;> decide
theorem routeOk_same (a b v r : Int) : ∃ t, spec_RouteOk.f a b v r = some t ∧ impl_RouteOk.f a b v r = some t := by
  simp only [spec_RouteOk.f, impl_RouteOk.f, spec_l6Rest.f, impl_word.f, inAll, inAll', Option.bind_some]
  by_cases c1 : 0 ≤ b ∧ b ≤ 16
  · rw [decide_eq_true c1]
    simp only [if_true]
    by_cases c2 : 0 ≤ a ∧ a ≤ 65535
    · rw [decide_eq_true c2]
      simp only [if_true]
      have e : wrap64 (16 - b) = 16 - b := by unfold wrap64; omega
      have hs := shl_pow (16 - b) (by omega) (by omega)
      rw [e]
      have g0 : 0 ≤ 16 - b := by omega
      simp only [if_pos g0, Option.bind_some]
      generalize shl .i64 1 (16 - b) = m at hs
      have g1 : ¬ m = 0 := by omega
      simp only [if_neg g1]
      by_cases c3 : a.tmod m = 0
      · simp only [if_pos c3]
        by_cases c4 : 0 ≤ v ∧ v ≤ 65535
        · rw [decide_eq_true c4]; exact ⟨_, by rw [if_pos rfl], by rw [if_pos rfl]⟩
        · rw [decide_eq_false c4]; exact ⟨false, by simp, by simp⟩
      · simp only [if_neg c3]; exact ⟨false, rfl, rfl⟩
    · rw [decide_eq_false c2]; exact ⟨false, by simp, by simp⟩
  · rw [decide_eq_false c1]; exact ⟨false, by simp, by simp⟩
theorem compare_is (a b : Int) : cmp_Compare_int.f a b = some (if a < b then -1 else if a > b then 1 else 0) := by
  simp only [cmp_Compare_int.f, cmp_isNaN_int.f, Option.bind_some, bne_self_eq_false, Bool.false_eq_true, if_false]
  by_cases h : a < b
  · rw [if_pos h, if_pos h]
  · rw [if_neg h, if_neg h]
    by_cases h' : a > b
    · rw [if_pos h', if_pos h']
    · rw [if_neg h', if_neg h']
theorem or_is (a b : Int) (k : Nat) : cmp_Or_int.f (k + 3) [a, b] = some (if a = 0 then b else a) := by
  have w1 : wrap64 (0 + 1) = 1 := by unfold wrap64; omega
  have w2 : wrap64 (1 + 1) = 2 := by unfold wrap64; omega
  simp only [cmp_Or_int.f, cmp_Or_int.l0, List.length_cons, List.length_nil, w1, w2]
  by_cases h : a = 0
  · by_cases h' : b = 0
    · simp [rd, h, h']
    · simp [rd, h, h']
  · simp [rd, h]
theorem order_is (a0 b0 v0 r0 a1 b1 v1 r1 : Int) (k : Nat) : ∃ o, impl_Route_order.f (k + 3) a0 b0 v0 r0 a1 b1 v1 r1 = some o ∧ (o ≥ 0 ↔ b0 > b1 ∨ b0 = b1 ∧ a0 ≥ a1) := by
  simp only [impl_Route_order.f, compare_is, or_is, Option.bind_some]
  refine ⟨_, rfl, ?_⟩
  by_cases h1 : b0 < b1
  · rw [if_pos h1]; simp; omega
  · rw [if_neg h1]
    by_cases h2 : b0 > b1
    · rw [if_pos h2]; simp; omega
    · rw [if_neg h2, if_pos rfl]
      by_cases h3 : a0 < a1
      · rw [if_pos h3]; simp; omega
      · rw [if_neg h3]
        by_cases h4 : a0 > a1
        · rw [if_pos h4]; simp; omega
        · rw [if_neg h4]; simp; omega
theorem routes_loops (l : List S29) (hl : l.length ≤ 1048576) :
    ∀ d k (i : Nat), i + d = l.length → d + 3 < k → ∃ t, spec_RoutesOk.l0 k l (i : Int) = some t ∧ impl_RoutesOk.l0 k l l (l.length : Int) (i : Int) = some t := by
  intro d
  induction d with
  | zero =>
    intro k i hi hk
    obtain ⟨k, rfl⟩ : ∃ m, k = m + 1 := ⟨k - 1, by omega⟩
    refine ⟨decide ((l.length : Int) ≤ 8), ?_, ?_⟩
    · rw [spec_RoutesOk.l0, if_neg (by omega)]
    · rw [impl_RoutesOk.l0, if_neg (by omega)]
  | succ d ih =>
    intro k i hi hk
    obtain ⟨k, rfl⟩ : ∃ m, k = m + 1 := ⟨k - 1, by omega⟩
    obtain ⟨t, ht1, ht2⟩ := ih k (i + 1) (by omega) (by omega)
    rw [spec_RoutesOk.l0, impl_RoutesOk.l0]
    have g1 : (i : Int) < (l.length : Int) := by omega
    have g0 : 0 ≤ (i : Int) := by omega
    simp only [if_pos g1, if_pos g0]
    have e7 : wrap64 ((i : Int) + 1) = ((i + 1 : Nat) : Int) := by unfold wrap64; omega
    have e8 : wrap64 ((i : Int) - 1) = (i : Int) - 1 := by unfold wrap64; omega
    rw [e7, e8]
    generalize rd_T29 l (i : Int) = x
    generalize rd_T29 l ((i : Int) - 1) = y
    obtain ⟨u, hu1, hu2⟩ := routeOk_same x.f0 x.f1 x.f2 x.f3
    rw [hu1, hu2, Option.bind_some, Option.bind_some]
    cases u
    · exact ⟨false, by simp, by simp⟩
    · simp only [if_true]
      by_cases c3 : (i : Int) > 0
      · have g2 : 0 ≤ (i : Int) - 1 := by omega
        have g3 : (i : Int) - 1 < (l.length : Int) := by omega
        simp only [if_pos c3, if_pos g2, if_pos g3]
        obtain ⟨k', rfl⟩ : ∃ m, k = m + 3 := ⟨k - 3, by omega⟩
        obtain ⟨o, ho, hoo⟩ := order_is y.f0 y.f1 y.f2 y.f3 x.f0 x.f1 x.f2 x.f3 k'
        rw [ho, Option.bind_some]
        by_cases c4 : y.f1 > x.f1
        · rw [if_pos c4, if_pos (hoo.2 (Or.inl c4))]; exact ⟨false, rfl, rfl⟩
        · rw [if_neg c4]
          by_cases c5 : y.f1 = x.f1
          · rw [if_pos c5]
            by_cases c6 : y.f0 ≥ x.f0
            · rw [if_pos c6, if_pos (hoo.2 (Or.inr ⟨c5, c6⟩))]; exact ⟨false, rfl, rfl⟩
            · rw [if_neg c6, if_neg (fun h => by rcases hoo.1 h with h | h <;> omega)]; exact ⟨t, ht1, ht2⟩
          · rw [if_neg c5, if_neg (fun h => by rcases hoo.1 h with h | h <;> omega)]; exact ⟨t, ht1, ht2⟩
      · rw [if_neg c3, if_neg c3]; exact ⟨t, ht1, ht2⟩
theorem routesOk_same (l : List S29) (hl : l.length ≤ 1048576) (k : Nat) (hk : l.length + 3 < k) : ∃ t, spec_RoutesOk.f k l = some t ∧ impl_RoutesOk.f k l = some t :=
  routes_loops l hl l.length k 0 (by omega) hk
/-! ### a route put into a row of routes -/
theorem put_loop (l : List S29) (hl : l.length ≤ 100) (a b c d : Int) : ∀ n k (i : Nat) (acc : List S29) (done : Bool), i + n = l.length → 2 * n + 110 < k → acc.length ≤ 2 * i →
    Tot (fun r : List S29 × Bool => r.1.length ≤ 8) (spec_RoutePut.l0 k l acc done (i : Int) a b c d) := by
  intro n
  induction n with
  | zero =>
    intro k i acc done hi hk ha
    obtain ⟨k, rfl⟩ : ∃ q, k = q + 2 := ⟨k - 2, by omega⟩
    have fin : ∀ acc : List S29, Tot (fun r : List S29 × Bool => r.1.length ≤ 8) (spec_RoutePut.j2 (k + 1) l acc a b c d) := by
      intro acc
      rw [spec_RoutePut.j2]
      obtain ⟨t, h1, _⟩ := routesOk_same l (by omega) k (by omega)
      obtain ⟨u, h2, _⟩ := routeOk_same a b c d
      rw [h1, Option.bind_some, h2, Option.bind_some]
      refine tot_ite (fun _ => tot_ite (fun _ => tot_ite (fun _ => tot_some (by simp)) (fun h => tot_some (by dsimp only; omega))) (fun _ => tot_some (by simp))) (fun _ => tot_some (by simp))
    rw [spec_RoutePut.l0, if_neg (by omega)]
    refine tot_ite (fun _ => fin _) (fun _ => ?_)
    rw [if_pos (by omega)]
    exact fin _
  | succ n ih =>
    intro k i acc done hi hk ha
    obtain ⟨k, rfl⟩ : ∃ q, k = q + 2 := ⟨k - 2, by omega⟩
    have e : wrap64 ((i : Int) + 1) = ((i + 1 : Nat) : Int) := by rw [wrap_id (by omega) (by omega)]; omega
    have go : ∀ (acc : List S29) (done : Bool), acc.length ≤ 2 * (i + 1) → Tot (fun r : List S29 × Bool => r.1.length ≤ 8) (spec_RoutePut.l0 k l acc done (wrap64 ((i : Int) + 1)) a b c d) := by
      intro acc done h
      rw [e]
      exact ih k (i + 1) acc done (by omega) (by omega) h
    have j1 : ∀ (x : Bool) (u v w z : Int), Tot (fun r : List S29 × Bool => r.1.length ≤ 8) (spec_RoutePut.j1 (k + 1) l acc done (i : Int) x a b c d u v w z) := by
      intro x u v w z
      rw [spec_RoutePut.j1]
      refine tot_ite (fun _ => ?_) (fun _ => ?_)
      · rw [if_pos (by omega), Option.bind_some]
        have h1 : (acc ++ [(⟨a, b, c, d⟩ : S29)]).length ≤ 2 * i + 1 := by simp; omega
        refine tot_ite (fun _ => tot_ite (fun _ => go _ _ (by omega)) (fun _ => ?_)) (fun _ => ?_)
        · rw [if_pos (by omega)]; exact go _ _ (by rw [List.length_append]; simp only [List.length_cons, List.length_nil]; omega)
        · rw [if_pos (by omega)]; exact go _ _ (by rw [List.length_append]; simp only [List.length_cons, List.length_nil]; omega)
      · refine tot_ite (fun _ => tot_ite (fun _ => go _ _ (by omega)) (fun _ => ?_)) (fun _ => ?_)
        · rw [if_pos (by omega)]; exact go _ _ (by rw [List.length_append]; simp only [List.length_cons, List.length_nil]; omega)
        · rw [if_pos (by omega)]; exact go _ _ (by rw [List.length_append]; simp only [List.length_cons, List.length_nil]; omega)
    rw [spec_RoutePut.l0, if_pos (by omega), if_pos (by omega)]
    exact tot_ite (fun _ => j1 _ _ _ _ _) (fun _ => tot_ite (fun _ => j1 _ _ _ _ _) (fun _ => tot_ite (fun _ => j1 _ _ _ _ _) (fun _ => j1 _ _ _ _ _)))
/-! ### nets -/
abbrev RT := S29
abbrev SN := S34
theorem routes_uni (l : List RT) (hl : l.length ≤ 1048576) :
    ∀ d (i : Nat), i + d = l.length → ∃ t, ∀ k, d + 3 < k → spec_RoutesOk.l0 k l (i : Int) = some t ∧ impl_RoutesOk.l0 k l l (l.length : Int) (i : Int) = some t := by
  intro d
  induction d with
  | zero =>
    intro i hi
    refine ⟨decide ((l.length : Int) ≤ 8), fun k hk => ?_⟩
    obtain ⟨k, rfl⟩ : ∃ m, k = m + 1 := ⟨k - 1, by omega⟩
    refine ⟨?_, ?_⟩
    · rw [spec_RoutesOk.l0, if_neg (by omega)]
    · rw [impl_RoutesOk.l0, if_neg (by omega)]
  | succ d ih =>
    intro i hi
    obtain ⟨t, ht⟩ := ih (i + 1) (by omega)
    have e7 : wrap64 ((i : Int) + 1) = ((i + 1 : Nat) : Int) := by unfold wrap64; omega
    have e8 : wrap64 ((i : Int) - 1) = (i : Int) - 1 := by unfold wrap64; omega
    generalize hx : rd_T29 l (i : Int) = x
    generalize hy : rd_T29 l ((i : Int) - 1) = y
    obtain ⟨u, hu1, hu2⟩ := routeOk_same x.f0 x.f1 x.f2 x.f3
    have g1 : (i : Int) < (l.length : Int) := by omega
    have g0 : 0 ≤ (i : Int) := by omega
    have un : ∀ m, spec_RoutesOk.l0 (m + 1) l (i : Int) = if u = true then (if (i : Int) > 0 then (if 0 ≤ (i : Int) - 1 then (if (i : Int) - 1 < (l.length : Int) then (if y.f1 > x.f1 then some false else if y.f1 = x.f1 then (if y.f0 ≥ x.f0 then some false else spec_RoutesOk.l0 m l ((i + 1 : Nat) : Int)) else spec_RoutesOk.l0 m l ((i + 1 : Nat) : Int)) else none) else none) else spec_RoutesOk.l0 m l ((i + 1 : Nat) : Int)) else some false := by
      intro m
      rw [spec_RoutesOk.l0, if_pos g1, if_pos g0, e7, e8, hx, hy, hu1, Option.bind_some]
    have im : ∀ m, impl_RoutesOk.l0 (m + 1) l l (l.length : Int) (i : Int) = if u = true then (if (i : Int) > 0 then (if 0 ≤ (i : Int) - 1 then (if (i : Int) - 1 < (l.length : Int) then ((impl_Route_order.f m y.f0 y.f1 y.f2 y.f3 x.f0 x.f1 x.f2 x.f3).bind fun o => if o ≥ 0 then some false else impl_RoutesOk.l0 m l l (l.length : Int) ((i + 1 : Nat) : Int)) else none) else none) else impl_RoutesOk.l0 m l l (l.length : Int) ((i + 1 : Nat) : Int)) else some false := by
      intro m
      rw [impl_RoutesOk.l0, if_pos g1, if_pos g0, if_pos g1, e7, e8, hx, hy, hu2, Option.bind_some]
    cases u
    · refine ⟨false, fun k hk => ?_⟩
      obtain ⟨k, rfl⟩ : ∃ m, k = m + 1 := ⟨k - 1, by omega⟩
      rw [un, im]
      exact ⟨by simp, by simp⟩
    · by_cases c3 : (i : Int) > 0
      · have g2 : 0 ≤ (i : Int) - 1 := by omega
        have g3 : (i : Int) - 1 < (l.length : Int) := by omega
        by_cases c7 : y.f1 > x.f1 ∨ y.f1 = x.f1 ∧ y.f0 ≥ x.f0
        · refine ⟨false, fun k hk => ?_⟩
          obtain ⟨k, rfl⟩ : ∃ m, k = m + 3 + 1 := ⟨k - 4, by omega⟩
          obtain ⟨o, ho, hoo⟩ := order_is y.f0 y.f1 y.f2 y.f3 x.f0 x.f1 x.f2 x.f3 k
          rw [un, im, ho, Option.bind_some, if_pos rfl, if_pos rfl, if_pos c3, if_pos c3, if_pos g2, if_pos g2, if_pos g3, if_pos g3, if_pos (hoo.2 c7)]
          refine ⟨?_, rfl⟩
          rcases c7 with h | ⟨h, h'⟩
          · rw [if_pos h]
          · rw [if_neg (by omega), if_pos h, if_pos h']
        · refine ⟨t, fun k hk => ?_⟩
          obtain ⟨k, rfl⟩ : ∃ m, k = m + 3 + 1 := ⟨k - 4, by omega⟩
          obtain ⟨o, ho, hoo⟩ := order_is y.f0 y.f1 y.f2 y.f3 x.f0 x.f1 x.f2 x.f3 k
          obtain ⟨t1, t2⟩ := ht (k + 3) (by omega)
          rw [un, im, ho, Option.bind_some, if_pos rfl, if_pos rfl, if_pos c3, if_pos c3, if_pos g2, if_pos g2, if_pos g3, if_pos g3, if_neg (fun h => c7 (hoo.1 h))]
          refine ⟨?_, t2⟩
          rw [if_neg (by omega)]
          by_cases h : y.f1 = x.f1
          · rw [if_pos h, if_neg (by omega)]; exact t1
          · rw [if_neg h]; exact t1
      · refine ⟨t, fun k hk => ?_⟩
        obtain ⟨k, rfl⟩ : ∃ m, k = m + 1 := ⟨k - 1, by omega⟩
        obtain ⟨t1, t2⟩ := ht k (by omega)
        rw [un, im, if_pos rfl, if_pos rfl, if_neg c3, if_neg c3]
        exact ⟨t1, t2⟩
theorem station_uni (a : Int) (l : List RT) (hl : l.length ≤ 1048576) : ∃ t, ∀ k, l.length + 3 < k → spec_StationOk.f k a l = some t ∧ impl_StationOk.f k a l = some t := by
  obtain ⟨t, ht⟩ := routes_uni l hl l.length 0 (by omega)
  by_cases c : 0 ≤ a ∧ a ≤ 65535
  · refine ⟨t, fun k hk => ?_⟩
    obtain ⟨h1, h2⟩ := ht k hk
    simp only [spec_StationOk.f, impl_StationOk.f, impl_word.f, inAll, inAll', Option.bind_some, decide_eq_true c, if_true]
    rw [show spec_RoutesOk.f k l = some t from h1, show impl_RoutesOk.f k l = some t from h2]
    exact ⟨rfl, rfl⟩
  · refine ⟨false, fun k hk => ?_⟩
    simp only [spec_StationOk.f, impl_StationOk.f, impl_word.f, inAll, inAll', Option.bind_some, decide_eq_false c, Bool.false_eq_true, if_false]
    exact ⟨trivial, trivial⟩
/-- A station that is ok. -/
def SOk (x : SN) : Prop := ∀ k, x.f1.length + 3 < k → impl_StationOk.f k x.f0 x.f1 = some true
def NOk (l : List SN) (i : Nat) : Prop := l.length ≤ 5 ∧ ∀ j, i ≤ j → j < l.length → SOk (rd_T34 l (j : Int)) ∧ ∀ m, m < j → (rd_T34 l (m : Int)).f0 ≠ (rd_T34 l (j : Int)).f0
theorem net_inner (l : List SN) (hl : l.length ≤ 1048576) (i : Nat) (hi : i < l.length) (a : Int) (ha : (rd_T34 l (i : Int)).f0 = a) : ∀ d j, j + d = i →
    (impl_stationAt.at_ a (l.drop j) j < (i : Int) ∧ (∃ m, j ≤ m ∧ m < i ∧ (rd_T34 l (m : Int)).f0 = a) ∧ ∀ k, d + 1 < k → spec_NetOk.l1 k l (i : Int) (j : Int) = some false) ∨
    (¬ impl_stationAt.at_ a (l.drop j) j < (i : Int) ∧ (∀ m, j ≤ m → m < i → (rd_T34 l (m : Int)).f0 ≠ a) ∧ ∀ k, spec_NetOk.l1 (k + d + 1) l (i : Int) (j : Int) = spec_NetOk.l0 k l ((i + 1 : Nat) : Int)) := by
  intro d
  induction d with
  | zero =>
    intro j hj
    obtain rfl : j = i := by omega
    right
    refine ⟨?_, fun m h1 h2 => by omega, fun k => ?_⟩
    · rw [impl_stationAt.step a l j j hi, if_pos ha]; omega
    · rw [spec_NetOk.l1, if_neg (by omega), wrap_id (n := (j : Int) + 1) (by omega) (by omega), show (j : Int) + 1 = ((j + 1 : Nat) : Int) by omega]
  | succ d ih =>
    intro j hj
    by_cases hx : (rd_T34 l (j : Int)).f0 = a
    · left
      refine ⟨?_, ⟨j, by omega, by omega, hx⟩, fun k hk => ?_⟩
      · rw [impl_stationAt.step a l j j (by omega), if_pos hx]; omega
      · obtain ⟨k, rfl⟩ : ∃ q, k = q + 1 := ⟨k - 1, by omega⟩
        rw [spec_NetOk.l1, if_pos (by omega), if_pos (by omega), if_pos (by omega), if_pos (by omega), if_pos (by omega), if_pos (by rw [hx, ha])]
    · have e1 : ∀ k, spec_NetOk.l1 (k + 1) l (i : Int) (j : Int) = spec_NetOk.l1 k l (i : Int) ((j + 1 : Nat) : Int) := by
        intro k
        rw [spec_NetOk.l1, if_pos (by omega), if_pos (by omega), if_pos (by omega), if_pos (by omega), if_pos (by omega), if_neg (by rw [ha]; exact hx), wrap_id (n := (j : Int) + 1) (by omega) (by omega), show (j : Int) + 1 = ((j + 1 : Nat) : Int) by omega]
      have e2 : impl_stationAt.at_ a (l.drop j) j = impl_stationAt.at_ a (l.drop (j + 1)) (j + 1) := by
        rw [impl_stationAt.step a l j j (by omega), if_neg hx]
      rcases ih (j + 1) (by omega) with ⟨h1, ⟨m, m1, m2, m3⟩, h3⟩ | ⟨h1, h2, h3⟩
      · left
        refine ⟨by rw [e2]; exact h1, ⟨m, by omega, m2, m3⟩, fun k hk => ?_⟩
        obtain ⟨k, rfl⟩ : ∃ q, k = q + 1 := ⟨k - 1, by omega⟩
        rw [e1]
        exact h3 k (by omega)
      · right
        refine ⟨by rw [e2]; exact h1, fun m m1 m2 => ?_, fun k => ?_⟩
        · by_cases hm : m = j
          · subst hm; exact hx
          · exact h2 m (by omega) m2
        · rw [show k + (d + 1) + 1 = (k + d + 1) + 1 by omega, e1]
          exact h3 k
theorem net_loop (l : List SN) (hl : l.length ≤ 1048576) (R : Nat) (hR : ∀ j, j < l.length → (rd_T34 l (j : Int)).f1.length ≤ R) (hR' : R ≤ 1048576) : ∀ d i, i + d = l.length →
    ∃ t, (t = true ↔ NOk l i) ∧ ∀ k, (d + 1) * (l.length + 3) + R + 10 < k → spec_NetOk.l0 k l (i : Int) = some t ∧ impl_NetOk.l0 k l l (l.length : Int) (i : Int) = some t := by
  intro d
  induction d with
  | zero =>
    intro i hi
    refine ⟨decide ((l.length : Int) ≤ 5), ?_, fun k hk => ?_⟩
    · rw [decide_eq_true_iff]
      exact ⟨fun h => ⟨by omega, fun j h1 h2 => by omega⟩, fun h => by have := h.1; omega⟩
    · obtain ⟨k, rfl⟩ : ∃ q, k = q + 1 := ⟨k - 1, by omega⟩
      rw [spec_NetOk.l0, if_neg (by omega), impl_NetOk.l0, if_neg (by omega)]
      exact ⟨rfl, rfl⟩
  | succ d ih =>
    intro i hi
    have hm : (d + 1 + 1) * (l.length + 3) = (d + 1) * (l.length + 3) + (l.length + 3) := by rw [Nat.succ_mul]
    obtain ⟨t, hn, ht⟩ := ih (i + 1) (by omega)
    have hr := hR i (by omega)
    obtain ⟨u, hu⟩ := station_uni (rd_T34 l (i : Int)).f0 (rd_T34 l (i : Int)).f1 (by omega)
    have e7 : wrap64 ((i : Int) + 1) = ((i + 1 : Nat) : Int) := by rw [wrap_id (by omega) (by omega)]; omega
    cases u
    · refine ⟨false, ⟨fun h => (by cases h), fun h => ?_⟩, fun k hk => ?_⟩
      · have := (h.2 i (Nat.le_refl _) (by omega)).1 ((rd_T34 l (i : Int)).f1.length + 4) (by omega)
        rw [(hu _ (by omega)).2] at this
        cases this
      · obtain ⟨k, rfl⟩ : ∃ q, k = q + 1 := ⟨k - 1, by omega⟩
        obtain ⟨h1, h2⟩ := hu k (by omega)
        rw [spec_NetOk.l0, if_pos (by omega), if_pos (by omega), h1, impl_NetOk.l0, if_pos (by omega), if_pos (by omega), if_pos (by omega), h2]
        exact ⟨rfl, rfl⟩
    · have hso : SOk (rd_T34 l (i : Int)) := fun k hk => (hu k hk).2
      rcases net_inner l hl i (by omega) _ rfl i 0 (by omega) with ⟨h1, ⟨m, _, m2, m3⟩, h3⟩ | ⟨h1, h2, h3⟩
      · refine ⟨false, ⟨fun h => (by cases h), fun h => absurd m3 ((h.2 i (Nat.le_refl _) (by omega)).2 m m2)⟩, fun k hk => ?_⟩
        obtain ⟨k, rfl⟩ : ∃ q, k = q + 1 := ⟨k - 1, by omega⟩
        obtain ⟨s1, s2⟩ := hu k (by omega)
        rw [List.drop_zero] at h1
        rw [spec_NetOk.l0, if_pos (by omega), if_pos (by omega), s1, impl_NetOk.l0, if_pos (by omega), if_pos (by omega), if_pos (by omega), s2]
        simp only [Option.bind_some, if_true, impl_stationAt.f]
        rw [if_pos h1]
        exact ⟨h3 k (by omega), rfl⟩
      · refine ⟨t, ?_, fun k hk => ?_⟩
        · rw [hn]
          constructor
          · intro h
            refine ⟨h.1, fun j j1 j2 => ?_⟩
            by_cases hj : j = i
            · subst hj
              exact ⟨hso, fun m hm => h2 m (by omega) hm⟩
            · exact h.2 j (by omega) j2
          · intro h
            exact ⟨h.1, fun j j1 j2 => h.2 j (by omega) j2⟩
        · obtain ⟨k, rfl⟩ : ∃ q, k = q + i + 1 + 1 := ⟨k - (i + 2), by omega⟩
          obtain ⟨s1, s2⟩ := hu (k + i + 1) (by omega)
          obtain ⟨t1, _⟩ := ht k (by omega)
          obtain ⟨_, t2⟩ := ht (k + i + 1) (by omega)
          rw [List.drop_zero] at h1
          rw [spec_NetOk.l0, if_pos (by omega), if_pos (by omega), s1, impl_NetOk.l0, if_pos (by omega), if_pos (by omega), if_pos (by omega), s2]
          simp only [Option.bind_some, if_true, impl_stationAt.f]
          rw [if_neg h1, e7]
          exact ⟨(h3 k).trans t1, t2⟩
theorem net_same (l : List SN) (hl : l.length ≤ 1048576) (R : Nat) (hR : ∀ j, j < l.length → (rd_T34 l (j : Int)).f1.length ≤ R) (hR' : R ≤ 1048576) :
    ∃ t, (t = true ↔ NOk l 0) ∧ ∀ k, (l.length + 1) * (l.length + 3) + R + 10 < k → spec_NetOk.f k l = some t ∧ impl_NetOk.f k l = some t := net_loop l hl R hR hR' l.length 0 (by omega)
/-! ### a drawn net, and where its reading ends -/
def NQ (r : List SN × Int) : Prop := (1 ≤ r.1.length ∧ r.1.length ≤ 6) ∧ (∀ x ∈ r.1, x.f1.length ≤ 8) ∧ 0 ≤ r.2 ∧ r.2 ≤ 600000000
theorem put_tot (l : List RT) (hl : l.length ≤ 8) (a b c d : Int) {k : Nat} (hk : 200 < k) : Tot (fun r : List RT × Bool => r.1.length ≤ 8) (spec_RoutePut.f k l a b c d) :=
  put_loop l (by omega) a b c d l.length k 0 [] false (by omega) (by omega) (by simp)
theorem net_l1 {s : List Int} (hs : Code s) (z m : Int) (hm : 1 ≤ m ∧ m ≤ 5) (acc : List SN) (x7 : Int) (h7 : 0 ≤ x7 ∧ x7 < m) (hacc : acc.length = x7.toNat) (hq : ∀ x ∈ acc, x.f1.length ≤ 8) (D : Nat)
    (hl0 : ∀ (k : Nat) (acc : List SN) (p : Int), 100 * D + 1000 < k → 0 ≤ p → p + 1000 * D ≤ 500000000 → acc.length = (x7 + 1).toNat → (∀ x ∈ acc, x.f1.length ≤ 8) → Tot NQ (spec_l20Net.l0 k z m acc (x7 + 1) s p)) (a : Int) :
    ∀ (d : Nat) (k : Nat) (j p : Int) (rt : List RT), j + d = m → 0 ≤ j → 4 * d + 100 * D + 1010 < k → 0 ≤ p → p + 10 * d + 20 + 1000 * D ≤ 500000000 → rt.length ≤ 8 → Tot NQ (spec_l20Net.l1 k z m acc x7 j s p a rt) := by
  intro d
  induction d with
  | zero =>
    intro k j p rt hj h0 hk p0 p1 hrt
    obtain ⟨k, rfl⟩ : ∃ q, k = q + 1 := ⟨k - 1, by omega⟩
    have e7 : wrap64 (x7 + 1) = x7 + 1 := wrap_id (by omega) (by omega)
    have fin : ∀ (rt : List RT) (p' : Int), rt.length ≤ 8 → p ≤ p' → p' ≤ p + 10 → Tot NQ (spec_l20Net.l0 k z m (acc ++ [(⟨a, rt⟩ : SN)]) (x7 + 1) s p') := by
      intro rt p' hr q0 q1
      refine hl0 k _ p' (by omega) (by omega) (by omega) (by simp; omega) (fun x hx => ?_)
      rcases List.mem_append.1 hx with hx | hx
      · exact hq x hx
      · obtain rfl : x = _ := List.mem_singleton.1 hx
        exact hr
    rw [spec_l20Net.l1, if_neg (by omega), e7]
    refine tot_pick hs (by omega) (by omega) (by omega) (by omega) ?_; intro b b0 b1; dsimp only
    refine tot_ite (fun _ => ?_) (fun _ => ?_)
    · refine tot_pick hs (by omega) (by omega) (by omega) (by omega) ?_; intro c c0 c1; dsimp only
      refine tot_bind (put_tot rt hrt _ _ _ _ (by omega)) (fun r hr => ?_)
      rw [if_pos (by omega)]
      exact fin _ _ hr (by omega) (by omega)
    · rw [if_pos (by omega)]
      exact fin _ _ hrt (by omega) (by omega)
  | succ d ih =>
    intro k j p rt hj h0 hk p0 p1 hrt
    obtain ⟨k, rfl⟩ : ∃ q, k = q + 3 := ⟨k - 3, by omega⟩
    have ej : wrap64 (j + 1) = j + 1 := wrap_id (by omega) (by omega)
    have go : ∀ (k' : Nat) (rt : List RT) (p' : Int), k ≤ k' → rt.length ≤ 8 → p ≤ p' → p' ≤ p + 10 → Tot NQ (spec_l20Net.l1 k' z m acc x7 (wrap64 (j + 1)) s p' a rt) := by
      intro k' rt p' hk' hr q0 q1
      rw [ej]
      exact ih k' (j + 1) p' rt (by omega) (by omega) (by omega) (by omega) (by omega) hr
    have g3 : ∀ (v p' : Int), p ≤ p' → p' ≤ p + 1 → Tot NQ (spec_l20Net.j3 (k + 1) z m acc x7 j v s p' a rt) := by
      intro v p' q0 q1
      rw [spec_l20Net.j3]
      refine tot_pick hs (by omega) (by omega) (by omega) (by omega) ?_; intro b b0 b1; dsimp only
      refine tot_ite (fun _ => ?_) (fun _ => ?_)
      · refine tot_pick hs (by omega) (by omega) (by omega) (by rw [wrap_id (by omega) (by omega)]; omega) ?_; intro c c0 c1; dsimp only
        refine tot_pick hs (by omega) (by omega) (by omega) (by omega) ?_; intro e e0 e1; dsimp only
        refine tot_bind (put_tot rt hrt _ _ _ _ (by omega)) (fun r hr => ?_)
        exact go k _ _ (Nat.le_refl _) hr (by omega) (by omega)
      · refine tot_pick hs (by omega) (by omega) (by omega) (by omega) ?_; intro e e0 e1; dsimp only
        refine tot_bind (put_tot rt hrt _ _ _ _ (by omega)) (fun r hr => ?_)
        exact go k _ _ (Nat.le_refl _) hr (by omega) (by omega)
    have g2 : ∀ (b : Bool) (p' : Int), p ≤ p' → p' ≤ p + 1 → Tot NQ (spec_l20Net.j2 (k + 2) z m acc x7 j b s p' a rt) := by
      intro b p' q0 q1
      rw [spec_l20Net.j2]
      exact tot_ite (fun _ => tot_ite (fun _ => g3 _ _ q0 q1) (fun _ => g3 _ _ q0 q1)) (fun _ => go (k + 1) rt p' (by omega) hrt q0 (by omega))
    rw [spec_l20Net.l1, if_pos (by omega)]
    refine tot_ite (fun _ => g2 _ _ (by omega) (by omega)) (fun _ => ?_)
    refine tot_pick hs (by omega) (by omega) (by omega) (by omega) ?_; intro b b0 b1; dsimp only
    exact g2 _ _ (by omega) (by omega)
theorem net_l0 {s : List Int} (hs : Code s) (z m : Int) (hm : 1 ≤ m ∧ m ≤ 5) : ∀ (D : Nat) (k : Nat) (x7 : Int) (acc : List SN) (p : Int), x7 + D = m → 0 ≤ x7 → 100 * D + 1000 < k → 0 ≤ p → p + 1000 * D ≤ 500000000 → acc.length = x7.toNat → (∀ x ∈ acc, x.f1.length ≤ 8) →
    Tot NQ (spec_l20Net.l0 k z m acc x7 s p) := by
  intro D
  induction D with
  | zero =>
    intro k x7 acc p h7 h0 hk p0 p1 ha hq
    obtain ⟨k, rfl⟩ : ∃ q, k = q + 1 := ⟨k - 1, by omega⟩
    rw [spec_l20Net.l0, if_neg (by omega)]
    refine tot_odd hs (by omega) (by omega) (by omega) ?_; intro o p3 q5 q6; dsimp only
    refine tot_ite (fun _ => ?_) (fun _ => tot_some ⟨by dsimp only; omega, hq, by dsimp only; omega⟩)
    rw [if_pos (by omega), if_pos (by omega)]
    refine tot_some ⟨by simp; omega, fun x hx => ?_, by dsimp only; omega⟩
    rcases List.mem_append.1 hx with hx | hx
    · exact hq x hx
    · obtain rfl : x = _ := List.mem_singleton.1 hx
      have : rd_T34 acc (0 : Int) ∈ acc := by
        have e : rd_T34 acc (0 : Int) = acc[0]'(by omega) := by simp [rd_T34, List.getD_eq_getElem?_getD, List.getElem?_eq_getElem (show 0 < acc.length by omega)]
        rw [e]
        exact List.getElem_mem _
      exact hq _ this
  | succ D ih =>
    intro k x7 acc p h7 h0 hk p0 p1 ha hq
    obtain ⟨k, rfl⟩ : ∃ q, k = q + 1 := ⟨k - 1, by omega⟩
    rw [spec_l20Net.l0, if_pos (by omega)]
    exact net_l1 hs z m hm acc x7 ⟨h0, by omega⟩ ha hq D (fun k acc p a1 a2 a3 a4 a5 => ih k (x7 + 1) acc p (by omega) (by omega) a1 a2 a3 a4 a5) _ m.toNat k 0 p [] (by omega) (by omega) (by omega) p0 (by omega) (by simp)
theorem net_tot {s : List Int} (hs : Code s) {k : Nat} (hk : 1600 < k) {p z : Int} (h0 : 0 ≤ p) (h1 : p ≤ 400000000) : Tot NQ (spec_l20Net.f k s p z) := by
  unfold spec_l20Net.f
  refine tot_pick hs (by omega) (by omega) (by omega) (by omega) ?_; intro a a0 a1; dsimp only
  rw [wrap_id (n := 1 + a) (by omega) (by omega)]
  exact net_l0 hs z (1 + a) (by omega) (1 + a).toNat k 0 [] (p + 1) (by omega) (by omega) (by omega) (by omega) (by omega) (by simp) (fun x hx => by cases hx)
/-! ### ways -/
theorem shr_div (x b : Int) (h0 : 0 ≤ b) (h1 : b ≤ 16) : shr .i64 x b = x / shl .i64 1 b := by
  obtain ⟨n, rfl⟩ : ∃ n : Nat, b = (n : Int) := ⟨b.toNat, by omega⟩
  have hf : n = 0 ∨ n = 1 ∨ n = 2 ∨ n = 3 ∨ n = 4 ∨ n = 5 ∨ n = 6 ∨ n = 7 ∨ n = 8 ∨ n = 9 ∨ n = 10 ∨ n = 11 ∨ n = 12 ∨ n = 13 ∨ n = 14 ∨ n = 15 ∨ n = 16 := by omega
  unfold shr
  congr 1
  rcases hf with rfl | rfl | rfl | rfl | rfl | rfl | rfl | rfl | rfl | rfl | rfl | rfl | rfl | rfl | rfl | rfl | rfl <;> decide
theorem routeOk_bounds (a b v r : Int) (h : impl_RouteOk.f a b v r = some true) : 0 ≤ b ∧ b ≤ 16 ∧ 0 ≤ a ∧ a ≤ 65535 := by
  simp only [impl_RouteOk.f, impl_word.f, inAll', Option.bind_some] at h
  by_cases c1 : 0 ≤ b ∧ b ≤ 16
  · by_cases c2 : 0 ≤ a ∧ a ≤ 65535
    · exact ⟨c1.1, c1.2, c2.1, c2.2⟩
    · rw [decide_eq_true c1, decide_eq_false c2] at h; simp at h
  · rw [decide_eq_false c1] at h; simp at h
theorem routeOk_room (a b v r : Int) (h : impl_RouteOk.f a b v r = some true) : 1 ≤ r ∧ r ≤ 48 := by
  obtain ⟨b0, b1, a0, a1⟩ := routeOk_bounds a b v r h
  have hm := shl_pow (16 - b) (by omega) (by omega)
  have e : wrap64 (16 - b) = 16 - b := by unfold wrap64; omega
  have g0 : 0 ≤ 16 - b := by omega
  have c1 : 0 ≤ b ∧ b ≤ 16 := ⟨b0, b1⟩
  have c2 : 0 ≤ a ∧ a ≤ 65535 := ⟨a0, a1⟩
  simp only [impl_RouteOk.f, impl_word.f, inAll', Option.bind_some, decide_eq_true c1, decide_eq_true c2, if_true, e, if_pos g0] at h
  generalize shl .i64 1 (16 - b) = m at hm h
  have g1 : ¬ m = 0 := by omega
  rw [if_neg g1] at h
  by_cases c3 : a.tmod m = 0
  · rw [if_pos c3] at h
    by_cases c4 : 0 ≤ v ∧ v ≤ 65535
    · rw [decide_eq_true c4, if_pos rfl] at h
      have := Option.some.inj h
      exact of_decide_eq_true this
    · rw [decide_eq_false c4] at h; simp at h
  · rw [if_neg c3] at h; simp at h
def ROk (x : RT) : Prop := impl_RouteOk.f x.f0 x.f1 x.f2 x.f3 = some true
theorem fits_same (x : RT) (a : Int) (ha : 0 ≤ a ∧ a ≤ 65535) (hx : ROk x) : ∃ t, spec_RouteFits.f x.f0 x.f1 x.f2 x.f3 a = some t ∧ impl_Route_fits.f x.f0 x.f1 x.f2 x.f3 a = some t ∧ x.f1 < 17 := by
  obtain ⟨b0, b1, a0, a1⟩ := routeOk_bounds _ _ _ _ hx
  have hs : spec_RouteOk.f x.f0 x.f1 x.f2 x.f3 = some true := by
    obtain ⟨t, h1, h2⟩ := routeOk_same x.f0 x.f1 x.f2 x.f3
    rw [hx] at h2
    rw [h1, ← h2]
  have e : wrap64 (16 - x.f1) = 16 - x.f1 := by unfold wrap64; omega
  have hm := shl_pow (16 - x.f1) (by omega) (by omega)
  have g0 : 0 ≤ 16 - x.f1 := by omega
  have q1 := shr_div a (16 - x.f1) (by omega) (by omega)
  have q2 := shr_div x.f0 (16 - x.f1) (by omega) (by omega)
  refine ⟨(shr .i64 a (16 - x.f1) == shr .i64 x.f0 (16 - x.f1)), ?_, ?_, by omega⟩
  · simp only [spec_RouteFits.f, hs, Option.bind_some, if_true, inAll, decide_eq_true ha, spec_l6Rest.f, e, if_pos g0]
    rw [q1, q2]
    generalize shl .i64 1 (16 - x.f1) = m at hm
    have g1 : ¬ m = 0 := by omega
    simp only [if_neg g1]
    rw [Int.tdiv_eq_ediv_of_nonneg ha.1, Int.tdiv_eq_ediv_of_nonneg a0]
    have u1 : 0 ≤ a / m := Int.ediv_nonneg ha.1 (by omega)
    have u2 : a / m ≤ a := Int.ediv_le_self _ ha.1
    have u3 : 0 ≤ x.f0 / m := Int.ediv_nonneg a0 (by omega)
    have u4 : x.f0 / m ≤ x.f0 := Int.ediv_le_self _ a0
    rw [wrap_id (n := a / m) (by omega) (by omega), wrap_id (n := x.f0 / m) (by omega) (by omega)]
  · simp only [impl_Route_fits.f, e, if_pos g0]
theorem routes_all (l : List RT) (hl : l.length ≤ 1048576) : ∀ d k (i : Nat), i + d = l.length → impl_RoutesOk.l0 k l l (l.length : Int) (i : Int) = some true → ∀ j, i ≤ j → j < l.length → ROk (rd_T29 l (j : Int)) := by
  intro d
  induction d with
  | zero => intro k i hi h j j1 j2; omega
  | succ d ih =>
    intro k i hi h j j1 j2
    cases k with
    | zero => simp [impl_RoutesOk.l0] at h
    | succ k =>
      have e7 : wrap64 ((i : Int) + 1) = ((i + 1 : Nat) : Int) := by unfold wrap64; omega
      have e8 : wrap64 ((i : Int) - 1) = (i : Int) - 1 := by unfold wrap64; omega
      obtain ⟨u, _, hu⟩ := routeOk_same (rd_T29 l (i : Int)).f0 (rd_T29 l (i : Int)).f1 (rd_T29 l (i : Int)).f2 (rd_T29 l (i : Int)).f3
      rw [impl_RoutesOk.l0, if_pos (by omega), if_pos (by omega), if_pos (by omega), hu, Option.bind_some, e7, e8] at h
      cases u
      · simp at h
      · rw [if_pos rfl] at h
        have hrec : impl_RoutesOk.l0 k l l (l.length : Int) ((i + 1 : Nat) : Int) = some true := by
          by_cases c : (i : Int) > 0
          · rw [if_pos c, if_pos (by omega), if_pos (by omega)] at h
            obtain ⟨o, _, h⟩ := Option.bind_eq_some_iff.mp h
            by_cases c4 : o ≥ 0
            · rw [if_pos c4] at h; simp at h
            · rw [if_neg c4] at h; exact h
          · rw [if_neg c] at h; exact h
        by_cases hj : j = i
        · subst hj; exact hu
        · exact ih k (i + 1) (by omega) hrec j (by omega) j2
def conv5 (p : RT × Bool) : Int × Int × Int × Int × Bool := (p.1.f0, p.1.f1, p.1.f2, p.1.f3, p.2)
theorem routeTo_go (l : List RT) (hl : l.length ≤ 1048576) (a : Int) (ha : 0 ≤ a ∧ a ≤ 65535) (K0 : Nat) (hok : ∀ k, K0 < k → spec_RoutesOk.f k l = some true) (hall : ∀ j, j < l.length → ROk (rd_T29 l (j : Int))) :
    ∀ i : Nat, i ≤ l.length → ∀ k, K0 + 2 * i + 4 < k → spec_RouteTo.l0 k l a ((i : Int) - 1) = some (conv5 (RouteTo_.rt_find a 17 l i)) := by
  intro i
  induction i with
  | zero =>
    intro hi k hk
    obtain ⟨k, rfl⟩ : ∃ m, k = m + 1 + 1 := ⟨k - 2, by omega⟩
    rw [spec_RouteTo.l0, if_neg (by omega), spec_RouteTo.j1, if_neg (by simp)]
    rfl
  | succ i ih =>
    intro hi k hk
    obtain ⟨k, rfl⟩ : ∃ m, k = m + 1 + 1 := ⟨k - 2, by omega⟩
    obtain ⟨t, h1, h2, h3⟩ := fits_same (rd_T29 l (i : Int)) a ha (hall i (by omega))
    have hh : RouteTo_.rt_hit a 17 (rd_T29 l (i : Int)) = t := by
      unfold RouteTo_.rt_hit
      rw [h2, decide_eq_true h3]
      cases t <;> rfl
    rw [show ((i + 1 : Nat) : Int) - 1 = (i : Int) by omega, spec_RouteTo.l0, if_pos (by omega), hok (k + 1) (by omega), Option.bind_some, spec_RouteTo.j1, if_pos rfl, if_pos (by omega), if_pos (by omega), h1, Option.bind_some, RouteTo_.rt_find, hh]
    cases t
    · rw [if_neg (by simp), if_neg (by simp), wrap_id (n := (i : Int) - 1) (by omega) (by omega)]
      exact ih (by omega) k (by omega)
    · rw [if_pos rfl, if_pos rfl]
      rfl
theorem find_room (l : List RT) (a : Int) (hall : ∀ j, j < l.length → ROk (rd_T29 l (j : Int))) : ∀ i : Nat, i ≤ l.length → 0 ≤ (RouteTo_.rt_find a 17 l i).1.f3 := by
  intro i
  induction i with
  | zero => intro _; exact Int.le_refl 0
  | succ i ih =>
    intro hi
    rw [RouteTo_.rt_find]
    by_cases h : RouteTo_.rt_hit a 17 (rd_T29 l (i : Int)) = true
    · rw [if_pos h]
      have := routeOk_room _ _ _ _ (hall i (by omega))
      dsimp only
      omega
    · rw [if_neg h]; exact ih (by omega)
theorem routeTo_same (l : List RT) (hl : l.length ≤ 1048576) (a : Int) (ha : 0 ≤ a ∧ a ≤ 65535) (K0 : Nat) (hok : ∀ k, K0 < k → spec_RoutesOk.f k l = some true) (hall : ∀ j, j < l.length → ROk (rd_T29 l (j : Int))) :
    ∃ r, impl_routeTo.f l a 17 = some r ∧ 0 ≤ r.2.2.2.1 ∧ ∀ k, K0 + 2 * l.length + 4 < k → spec_RouteTo.f k l a = some r := by
  refine ⟨conv5 (RouteTo_.rt_find a 17 l l.length), ?_, find_room l a hall l.length (Nat.le_refl _), fun k hk => ?_⟩
  · have hl2 : l.all (RouteTo_.rt_ok a 17) = true := by
      rw [List.all_eq_true]
      intro x hx
      obtain ⟨j, hj, rfl⟩ := List.getElem_of_mem hx
      have e : rd_T29 l (j : Int) = l[j] := by simp [rd_T29, List.getD_eq_getElem?_getD, List.getElem?_eq_getElem hj]
      obtain ⟨t, _, h2, _⟩ := fits_same _ a ha (hall j hj)
      rw [e] at h2
      unfold RouteTo_.rt_ok
      rw [h2]
      simp
    unfold impl_routeTo.f
    have hl3 : l.length ≤ 140737488355328 := by omega
    rw [if_pos (And.intro hl3 hl2)]
    rfl
  · unfold spec_RouteTo.f
    rw [wrap_id (by omega) (by omega)]
    exact routeTo_go l hl a ha K0 hok hall l.length (Nat.le_refl _) k hk
theorem at_same (l : List SN) (hl : l.length ≤ 1048576) (v : Int) : ∀ d (i : Nat), i + d = l.length → ∀ k, d < k → spec_l8At.l0 k l v (i : Int) = some (impl_stationAt.at_ v (l.drop i) i) := by
  intro d
  induction d with
  | zero =>
    intro i hi k hk
    obtain ⟨k, rfl⟩ : ∃ m, k = m + 1 := ⟨k - 1, by omega⟩
    obtain rfl : i = l.length := by omega
    rw [spec_l8At.l0, if_neg (by omega), List.drop_length]
    rfl
  | succ d ih =>
    intro i hi k hk
    obtain ⟨k, rfl⟩ : ∃ m, k = m + 1 := ⟨k - 1, by omega⟩
    rw [spec_l8At.l0, if_pos (by omega), if_pos (by omega), impl_stationAt.step v l i i (by omega)]
    by_cases h : (rd_T34 l (i : Int)).f0 = v
    · rw [if_pos h, if_pos h]
    · rw [if_neg h, if_neg h, wrap_id (by omega) (by omega)]
      exact ih (i + 1) (by omega) k (by omega)
theorem at_bound (l : List SN) (v : Int) : ∀ d (i : Nat), i + d = l.length → impl_stationAt.at_ v (l.drop i) i = -1 ∨ (0 ≤ impl_stationAt.at_ v (l.drop i) i ∧ impl_stationAt.at_ v (l.drop i) i < (l.length : Int)) := by
  intro d
  induction d with
  | zero =>
    intro i hi
    obtain rfl : i = l.length := by omega
    rw [List.drop_length]
    exact .inl rfl
  | succ d ih =>
    intro i hi
    rw [impl_stationAt.step v l i i (by omega)]
    by_cases h : (rd_T34 l (i : Int)).f0 = v
    · rw [if_pos h]; right; omega
    · rw [if_neg h]; exact ih (i + 1) (by omega)
theorem station_routes (x : SN) (hR : x.f1.length ≤ 1048576) (h : SOk x) : (∀ k, x.f1.length + 3 < k → spec_RoutesOk.f k x.f1 = some true) ∧ (∀ k, x.f1.length + 3 < k → impl_RoutesOk.f k x.f1 = some true) ∧ ∀ j, j < x.f1.length → ROk (rd_T29 x.f1 (j : Int)) := by
  obtain ⟨t, ht⟩ := routes_uni x.f1 hR x.f1.length 0 (by omega)
  have hk := h (x.f1.length + 4) (by omega)
  simp only [impl_StationOk.f, impl_word.f, inAll', Option.bind_some] at hk
  have h1 : impl_RoutesOk.f (x.f1.length + 4) x.f1 = some true := by
    by_cases c : 0 ≤ x.f0 ∧ x.f0 ≤ 65535
    · rw [decide_eq_true c, if_pos rfl] at hk
      first | exact hk | (obtain ⟨u, hu, hk⟩ := Option.bind_eq_some_iff.mp hk; rw [hu]; exact hk)
    · rw [decide_eq_false c] at hk; simp at hk
  have h2 := (ht (x.f1.length + 4) (by omega)).2
  have h1' : impl_RoutesOk.l0 (x.f1.length + 4) x.f1 x.f1 (x.f1.length : Int) ((0 : Nat) : Int) = some true := h1
  rw [h1'] at h2
  obtain rfl : true = t := Option.some.inj h2
  exact ⟨fun k hk => (ht k hk).1, fun k hk => (ht k hk).2, fun j hj => routes_all x.f1 hR x.f1.length _ 0 (by omega) h1' j (Nat.zero_le _) hj⟩
/-- What the first step says of a room that is not 0. -/
def First (l : List SN) (t : Nat) (a room r : Int) : Prop := ((rd_T34 l (t : Int)).f0 = a → r = room) ∧ ((rd_T34 l (t : Int)).f0 ≠ a → ∃ q, impl_routeTo.f (rd_T34 l (t : Int)).f1 a 17 = some q ∧ q.2.2.2.2 = true ∧ r ≤ q.2.2.2.1)
theorem walk_same (l : List SN) (hl : l.length ≤ 1048576) (hR : ∀ j, j < l.length → (rd_T34 l (j : Int)).f1.length ≤ 1048576) (hn : NOk l 0) (a : Int) (ha : 0 ≤ a ∧ a ≤ 65535) (B : Nat) (hB : 4194404 ≤ B) :
    ∀ d c : Nat, c + d = l.length + 1 → ∀ (room : Int) (t : Nat), t < l.length → 0 ≤ room → ∃ r, (0 ≤ r ∧ r ≤ room) ∧ (r ≠ 0 → First l t a room r) ∧ ∀ k, d + B < k → spec_PathRoom.l0 k l a room (t : Int) (c : Int) = some r ∧ impl_PathRoom.l0 k l a room (t : Int) ((l.length : Int) + 1) (c : Int) = some r := by
  intro d
  induction d with
  | zero =>
    intro c hc room t ht hroom
    refine ⟨0, ⟨Int.le_refl _, hroom⟩, fun h => absurd rfl h, fun k hk => ?_⟩
    obtain ⟨k, rfl⟩ : ∃ m, k = m + 1 := ⟨k - 1, by omega⟩
    rw [spec_PathRoom.l0, if_neg (by omega), impl_PathRoom.l0, if_neg (by omega)]
    exact ⟨rfl, rfl⟩
  | succ d ih =>
    intro c hc room t ht hroom
    have e7 : wrap64 ((c : Int) + 1) = ((c + 1 : Nat) : Int) := by rw [wrap_id (by omega) (by omega)]; omega
    by_cases h0 : (rd_T34 l (t : Int)).f0 = a
    · refine ⟨room, ⟨hroom, Int.le_refl _⟩, fun _ => ⟨fun _ => rfl, fun h => absurd h0 h⟩, fun k hk => ?_⟩
      obtain ⟨k, rfl⟩ : ∃ m, k = m + 1 := ⟨k - 1, by omega⟩
      rw [spec_PathRoom.l0, if_pos (by omega), if_pos (by omega), if_pos (by omega), if_pos h0, impl_PathRoom.l0, if_pos (by omega), if_neg (by omega), if_pos (by omega), if_pos (by omega), if_pos h0]
      exact ⟨rfl, rfl⟩
    · have hr := hR t ht
      obtain ⟨s1, _, s2⟩ := station_routes _ hr (hn.2 t (Nat.zero_le _) ht).1
      obtain ⟨r, q1, q3, q2⟩ := routeTo_same _ hr a ha _ s1 s2
      have un : ∀ k, d + 1 + B < k + 1 → spec_PathRoom.l0 (k + 1) l a room (t : Int) (c : Int) = if r.2.2.2.2 = true then (if impl_stationAt.at_ r.2.2.1 l 0 < 0 then some 0 else spec_PathRoom.l0 k l a (mn room r.2.2.2.1) (impl_stationAt.at_ r.2.2.1 l 0) ((c + 1 : Nat) : Int)) else some 0 := by
        intro k hk
        have h8 := at_same l hl r.2.2.1 l.length 0 (by omega) k (by omega)
        rw [List.drop_zero, Int.natCast_zero] at h8
        rw [spec_PathRoom.l0, if_pos (by omega), if_pos (by omega), if_pos (by omega), if_neg h0, q2 k (by omega), Option.bind_some, spec_l8At.f, h8, Option.bind_some, e7]
      have im : ∀ k, impl_PathRoom.l0 (k + 1) l a room (t : Int) ((l.length : Int) + 1) (c : Int) = if r.2.2.2.2 = true then impl_PathRoom.l0 k l a (mn room r.2.2.2.1) (impl_stationAt.at_ r.2.2.1 l 0) ((l.length : Int) + 1) ((c + 1 : Nat) : Int) else some 0 := by
        intro k
        rw [impl_PathRoom.l0, if_pos (by omega), if_neg (by omega), if_pos (by omega), if_pos (by omega), if_neg h0, q1, Option.bind_some, impl_stationAt.f, Option.bind_some, e7]
      by_cases c5 : r.2.2.2.2 = true
      · have hb := at_bound l r.2.2.1 l.length 0 (by omega)
        rw [List.drop_zero] at hb
        generalize impl_stationAt.at_ r.2.2.1 l 0 = v at un im hb
        by_cases c6 : v < 0
        · refine ⟨0, ⟨Int.le_refl _, hroom⟩, fun h => absurd rfl h, fun k hk => ?_⟩
          obtain ⟨k, rfl⟩ : ∃ m, k = m + 1 + 1 := ⟨k - 2, by omega⟩
          rw [un (k + 1) (by omega), im, if_pos c5, if_pos c5, if_pos c6, impl_PathRoom.l0]
          by_cases c7 : ((c + 1 : Nat) : Int) < (l.length : Int) + 1
          · rw [if_pos c7, if_pos c6]; exact ⟨rfl, rfl⟩
          · rw [if_neg c7]; exact ⟨rfl, rfl⟩
        · obtain ⟨u, rfl⟩ : ∃ u : Nat, v = (u : Int) := ⟨v.toNat, by omega⟩
          have m0 : 0 ≤ mn room r.2.2.2.1 := by unfold mn; split <;> omega
          have m1 : mn room r.2.2.2.1 ≤ room := by unfold mn; split <;> omega
          have m2 : mn room r.2.2.2.1 ≤ r.2.2.2.1 := by unfold mn; split <;> omega
          obtain ⟨q, hb2, _, hq⟩ := ih (c + 1) (by omega) (mn room r.2.2.2.1) u (by omega) m0
          refine ⟨q, ⟨hb2.1, by omega⟩, fun _ => ⟨fun h => absurd h h0, fun _ => ⟨r, q1, c5, by omega⟩⟩, fun k hk => ?_⟩
          obtain ⟨k, rfl⟩ : ∃ m, k = m + 1 := ⟨k - 1, by omega⟩
          rw [un k (by omega), im, if_pos c5, if_pos c5, if_neg c6]
          exact hq k (by omega)
      · refine ⟨0, ⟨Int.le_refl _, hroom⟩, fun h => absurd rfl h, fun k hk => ?_⟩
        obtain ⟨k, rfl⟩ : ∃ m, k = m + 1 := ⟨k - 1, by omega⟩
        rw [un k (by omega), im, if_neg c5, if_neg c5]
        exact ⟨rfl, rfl⟩
theorem pathRoom_same (l : List SN) (hl : l.length ≤ 1048576) (hR : ∀ j, j < l.length → (rd_T34 l (j : Int)).f1.length ≤ 1048576) (a1 a2 : Int) (B : Nat) (hB : 4194404 ≤ B) :
    ∃ r, (0 ≤ r ∧ r ≤ 48) ∧ (r ≠ 0 → NOk l 0 ∧ (0 ≤ a1 ∧ a1 ≤ (l.length : Int) - 1) ∧ (0 ≤ a2 ∧ a2 ≤ 65535) ∧ First l a1.toNat a2 48 r) ∧ ∀ k, (l.length + 1) * (l.length + 3) + (l.length + 1) + 1 + B + 1048576 + 10 < k → spec_PathRoom.f k l a1 a2 = some r ∧ impl_PathRoom.f k l a1 a2 = some r := by
  obtain ⟨t, hn, ht⟩ := net_same l hl 1048576 hR (Nat.le_refl _)
  have z : ∀ k, 0 < k → spec_PathRoom.j0 k l a1 a2 true = some 0 ∧ impl_PathRoom.j0 k l a1 a2 true = some 0 := by
    intro k hk
    obtain ⟨k, rfl⟩ : ∃ m, k = m + 1 := ⟨k - 1, by omega⟩
    exact ⟨by rw [spec_PathRoom.j0, if_pos rfl], by rw [impl_PathRoom.j0, if_pos rfl]⟩
  have e1 : wrap64 ((l.length : Int) - 1) = (l.length : Int) - 1 := by rw [wrap_id (by omega) (by omega)]
  have e2 : wrap64 ((l.length : Int) + 1) = (l.length : Int) + 1 := by rw [wrap_id (by omega) (by omega)]
  have un : ∀ k, (l.length + 1) * (l.length + 3) + (l.length + 1) + 1 + B + 1048576 + 10 < k → spec_PathRoom.f k l a1 a2 = if t = true then (if decide (0 ≤ a1 ∧ a1 ≤ (l.length : Int) - 1) = true then spec_PathRoom.j0 k l a1 a2 (!decide (0 ≤ a2 ∧ a2 ≤ 65535)) else spec_PathRoom.j0 k l a1 a2 true) else spec_PathRoom.j0 k l a1 a2 true := by
    intro k hk
    rw [spec_PathRoom.f, (ht k (by omega)).1, Option.bind_some, e1, inAll, inAll, Option.bind_some, Option.bind_some]
  have im : ∀ k, (l.length + 1) * (l.length + 3) + (l.length + 1) + 1 + B + 1048576 + 10 < k → impl_PathRoom.f k l a1 a2 = if t = true then (if decide (0 ≤ a1 ∧ a1 ≤ (l.length : Int) - 1) = true then impl_PathRoom.j0 k l a1 a2 (!decide (0 ≤ a2 ∧ a2 ≤ 65535)) else impl_PathRoom.j0 k l a1 a2 true) else impl_PathRoom.j0 k l a1 a2 true := by
    intro k hk
    rw [impl_PathRoom.f, (ht k (by omega)).2, Option.bind_some, e1, inAll', impl_word.f, inAll', Option.bind_some, Option.bind_some, Option.bind_some]
  cases t
  · refine ⟨0, by omega, fun h => absurd rfl h, fun k hk => ?_⟩
    rw [un k hk, im k hk, if_neg (by simp), if_neg (by simp)]
    exact z k (by omega)
  · by_cases c1 : 0 ≤ a1 ∧ a1 ≤ (l.length : Int) - 1
    · by_cases c2 : 0 ≤ a2 ∧ a2 ≤ 65535
      · obtain ⟨q, hb2, hf, hq⟩ := walk_same l hl hR (hn.1 rfl) a2 c2 B hB (l.length + 1) 0 (by omega) 48 a1.toNat (by omega) (by omega)
        refine ⟨q, hb2, fun h => ⟨hn.1 rfl, c1, c2, hf h⟩, fun k hk => ?_⟩
        obtain ⟨k, rfl⟩ : ∃ m, k = m + 1 := ⟨k - 1, by omega⟩
        have h := hq k (by omega)
        rw [Int.natCast_zero, show ((a1.toNat : Nat) : Int) = a1 by omega] at h
        rw [un _ hk, im _ hk, if_pos rfl, if_pos rfl, decide_eq_true c1, decide_eq_true c2, if_pos rfl, if_pos rfl, spec_PathRoom.j0, impl_PathRoom.j0, if_neg (by simp), if_neg (by simp), e2]
        exact h
      · refine ⟨0, by omega, fun h => absurd rfl h, fun k hk => ?_⟩
        rw [un k hk, im k hk, if_pos rfl, if_pos rfl, decide_eq_true c1, decide_eq_false c2, if_pos rfl, if_pos rfl]
        exact z k (by omega)
    · refine ⟨0, by omega, fun h => absurd rfl h, fun k hk => ?_⟩
      rw [un k hk, im k hk, if_pos rfl, if_pos rfl, decide_eq_false c1, if_neg (by simp), if_neg (by simp)]
      exact z k (by omega)
theorem draw_tot (l : List Int) (hw : ∀ x ∈ l, (Lit.int .u8 x).wf = true) {K : Nat} (hK : 1600 < K) : Tot (fun r : List SN × Int × Int => r.1.length ≤ 6 ∧ ∀ x ∈ r.1, x.f1.length ≤ 8) (spec_DrawPathRoom.f K l) := by
  obtain ⟨s, hs, hc⟩ := open_some l hw
  unfold spec_DrawPathRoom.f
  rw [hs, Option.bind_some]
  refine tot_bind (net_tot hc hK (by dsimp only; omega) (by dsimp only; omega)) (fun r hr => ?_)
  obtain ⟨⟨h1, h2⟩, h3, h4, h5⟩ := hr
  dsimp only
  refine tot_pick hc (by omega) (by omega) (by omega) (by omega) ?_; intro a a0 a1; dsimp only
  refine tot_pick hc (by omega) (by omega) (by omega) (by omega) ?_; intro b b0 b1; dsimp only
  exact tot_some ⟨h2, h3⟩
theorem mem_rd (l : List SN) (j : Nat) (h : j < l.length) : rd_T34 l (j : Int) ∈ l := by
  have e : rd_T34 l (j : Int) = l[j] := by simp [rd_T34, List.getD_eq_getElem?_getD, List.getElem?_eq_getElem h]
  rw [e]
  exact List.getElem_mem _
theorem end_true (l : List SN) (hl : l.length ≤ 6) (hr : ∀ x ∈ l, x.f1.length ≤ 8) (a1 a2 r : Int) (hb : 0 ≤ r ∧ r ≤ 48) (hf : r ≠ 0 → NOk l 0 ∧ (0 ≤ a1 ∧ a1 ≤ (l.length : Int) - 1) ∧ (0 ≤ a2 ∧ a2 ≤ 65535) ∧ First l a1.toNat a2 48 r) (k : Nat) (hk : 100 < k) :
    laws_FnPathRoom.j0 k l a1 a2 r false = some true := by
  obtain ⟨k, rfl⟩ : ∃ q, k = q + 4 := ⟨k - 4, by omega⟩
  rw [laws_FnPathRoom.j0, if_neg (by simp)]
  by_cases h0 : r = 0
  · rw [if_pos h0, alive_true k, Option.bind_some]
  · obtain ⟨hn, c1, c2, f1, f2⟩ := hf h0
    rw [if_neg h0, if_pos c1.1, if_pos (by omega)]
    obtain ⟨t, rfl⟩ : ∃ t : Nat, a1 = (t : Int) := ⟨a1.toNat, by omega⟩
    rw [Int.toNat_natCast] at f1 f2
    have hx := hr _ (mem_rd l t (by omega))
    obtain ⟨s1, s3, s2⟩ := station_routes (rd_T34 l (t : Int)) (by omega) (hn.2 t (Nat.zero_le _) (by omega)).1
    obtain ⟨q, q1, _, _⟩ := routeTo_same _ (by omega) a2 c2 _ s1 s2
    have hq : impl_RouteTo.f (k + 3) (rd_T34 l (t : Int)).f1 a2 = some q := by
      rw [impl_RouteTo.f, s3 (k + 3) (by omega), Option.bind_some, if_pos rfl, impl_word.f, inAll', Option.bind_some, decide_eq_true c2, Option.bind_some, if_pos rfl, q1, Option.bind_some]
    rw [hq, Option.bind_some]
    by_cases h1 : (rd_T34 l (t : Int)).f0 = a2
    · rw [if_pos h1, if_pos (f1 h1), alive_true k, Option.bind_some]
    · obtain ⟨q', e1, e2, e3⟩ := f2 h1
      rw [q1] at e1
      obtain rfl := Option.some.inj e1
      rw [if_neg h1, if_pos e2, if_pos e3, alive_true k, Option.bind_some]
theorem main : GFnPathRoom.Stmt := by
  intro l hl0
  obtain ⟨_, hw⟩ := hl0
  obtain ⟨B, hB⟩ : ∃ B : Nat, B = 4194404 := ⟨_, rfl⟩
  obtain ⟨K, hK⟩ : ∃ K : Nat, K = 63 + 7 + 1 + B + 1048576 + 10 + 2000 := ⟨_, rfl⟩
  refine ⟨K, ?_⟩
  unfold laws_FnPathRoom.f
  by_cases hl : (l.length : Int) > 1048576
  · rw [if_pos hl]
  · rw [if_neg hl]
    obtain ⟨⟨net, a1, a2⟩, hd, n1, n2⟩ := draw_tot l hw (K := K) (by omega)
    dsimp only at n1 n2
    obtain ⟨r, hb, hf, hq⟩ := pathRoom_same net (by omega) (fun j hj => by have := n2 _ (mem_rd net j hj); omega) a1 a2 B (by omega)
    have hm : (net.length + 1) * (net.length + 3) ≤ 7 * 9 := Nat.mul_le_mul (by omega) (by omega)
    obtain ⟨t1, t2⟩ := hq K (by omega)
    rw [hd, Option.bind_some]
    dsimp only
    rw [t2, Option.bind_some, t1, Option.bind_some, if_pos rfl, if_neg (by omega), show decide (r > 48) = false from decide_eq_false (by omega)]
    exact end_true net n1 n2 a1 a2 r hb hf K (by omega)
end FnPathRoom_
theorem FnPathRoom : GFnPathRoom.Stmt := FnPathRoom_.main
end Go.Proofs.Ytkkibccnpkbbjab.Pure
