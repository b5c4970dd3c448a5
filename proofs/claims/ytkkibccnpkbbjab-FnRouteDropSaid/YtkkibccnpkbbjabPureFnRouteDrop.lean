/- The pure law of FnRouteDrop: whatever the code, the program drops from the drawn routes what the reference drops; what is left is in order, and the route that was dropped comes back to its place. No conditions. -/
import Derived.Test.YtkkibccnpkbbjabGFnRouteDrop
namespace Go.Proofs.Ytkkibccnpkbbjab.Pure
open Go Go.RowKit Go.Proofs.Ytkkibccnpkbbjab.MFnRouteDrop Go.Proofs.YtkkibccnpkbbjabV.PrintWords Go.Proofs.YtkkibccnpkbbjabV.PrintLast
set_option linter.unusedVariables false
set_option linter.unusedSimpArgs false
namespace FnRouteDrop_
theorem i64_bounds {x : Int} (h : (Lit.int .i64 x).wf = true) : -9223372036854775808 ≤ x ∧ x ≤ 9223372036854775807 := by
  simpa [Lit.wf, IntKind.min, IntKind.max, IntKind.signed, IntKind.bits] using h
theorem inAll (x y z : Int) : spec_l1In.f x y z = some (decide (y ≤ x ∧ x ≤ z)) := by
  unfold spec_l1In.f
  by_cases h : x ≥ y
  · rw [if_pos h]; congr 1; simp only [decide_eq_decide]; omega
  · rw [if_neg h]; congr 1; symm; simp only [decide_eq_false_iff_not]; omega
theorem inAll' (x y z : Int) : impl_in.f x y z = some (decide (y ≤ x ∧ x ≤ z)) := inAll x y z
theorem wl {n m : Int} (h : n = m) (h0 : -9223372036854775808 ≤ m) (h1 : m ≤ 9223372036854775807) : wrap64 n = m := by
  subst h
  unfold wrap64
  omega
/-! ### a draw: a number in 0..n-1, and the place one further -/
theorem xor_nat (a b : Nat) (ha : a < 9223372036854775808) (hb : b < 9223372036854775808) : Go.bits .xor .i64 (a : Int) (b : Int) = ((a ^^^ b : Nat) : Int) := by
  have hx : a ^^^ b < 2 ^ 63 := Nat.xor_lt_two_pow (by omega) (by omega)
  have ha' : a % 2 ^ 64 = a := Nat.mod_eq_of_lt (by omega)
  have hb' : b % 2 ^ 64 = b := Nat.mod_eq_of_lt (by omega)
  have e : IntKind.i64.bits = 64 := rfl
  simp only [Go.bits, BitVec.ofInt_natCast, BitVec.toNat_xor, BitVec.toNat_ofNat, e, ha', hb']
  rw [IntKind.wrap_i64]
  omega
theorem wrap_in {n : Int} (h : -9223372036854775808 ≤ n) (h' : n ≤ 9223372036854775807) : wrap64 n = n := by
  unfold wrap64; omega
theorem u8_bounds {x : Int} (h : (Lit.int .u8 x).wf = true) : 0 ≤ x ∧ x ≤ 255 := by
  simpa [Lit.wf, IntKind.min, IntKind.max, IntKind.signed, IntKind.bits] using h
/-- The bytes of a code. -/
def Code (s : List Int) : Prop := (∀ x ∈ s, 0 ≤ x ∧ x ≤ 255) ∧ s.length ≤ 2000
theorem Code.at {s : List Int} (h : Code s) (i : Int) : 0 ≤ rd s i ∧ rd s i ≤ 255 := by
  unfold rd
  rw [List.getD_eq_getElem?_getD]
  rcases hc : s[i.toNat]? with _ | x
  · simp
  · have := h.1 x (List.mem_of_getElem? hc)
    simpa using this
theorem pick_some (k : Nat) (s : List Int) (p n : Int) (hs : Code s) (h0 : 0 ≤ p) (h1 : p ≤ 1000000000) (hn : 1 ≤ n) :
    ∃ v, spec_l20Rd_pick.f (k + 1) s p n = some (v, p + 1) ∧ 0 ≤ v ∧ v < n := by
  have hl := hs.2
  unfold spec_l20Rd_pick.f
  rw [if_neg (by omega)]
  by_cases hz : s.length = 0
  · refine ⟨0, ?_, by omega, by omega⟩
    simp only [spec_l20Rd_pick.j0]
    rw [if_pos (by simp [hz]), wrap_in (by omega) (by omega)]
  · have hz' : ((s.length : Int) == 0) = false := by simpa using hz
    rw [hz']
    simp only [spec_l20Rd_pick.j0]
    rw [if_neg (by decide), wrap_in (n := p + 1) (by omega) (by omega), show p + 1 - 1 = p by omega, wrap_in (n := p) (by omega) (by omega)]
    by_cases hp : p < (s.length : Int)
    · have hb := hs.at p
      rw [if_pos hp, if_pos h0, if_neg (by omega), wrap_in (by omega) (by omega), Int.tmod_eq_emod_of_nonneg hb.1]
      exact ⟨_, rfl, Int.emod_nonneg _ (by omega), Int.emod_lt_of_pos _ (by omega)⟩
    · rw [if_neg hp, if_neg (by omega)]
      have hL : (0 : Int) < (s.length : Int) := by omega
      rw [wrap_in (n := p * 7) (by omega) (by omega), wrap_in (n := p * 7 + 3) (by omega) (by omega)]
      rw [Int.tmod_eq_emod_of_nonneg h0, Int.tmod_eq_emod_of_nonneg (a := p * 7 + 3) (by omega)]
      have ha0 := Int.emod_nonneg p (b := (s.length : Int)) (by omega)
      have ha1 := Int.emod_lt_of_pos p (b := (s.length : Int)) (by omega)
      have hb0 := Int.emod_nonneg (p * 7 + 3) (b := (s.length : Int)) (by omega)
      have hb1 := Int.emod_lt_of_pos (p * 7 + 3) (b := (s.length : Int)) (by omega)
      rw [if_pos ha0, if_pos ha1, if_pos hb0, if_pos hb1, if_neg (by omega)]
      have hx := hs.at (p % (s.length : Int))
      have hy := hs.at ((p * 7 + 3) % (s.length : Int))
      generalize rd s (p % (s.length : Int)) = x at hx
      generalize rd s ((p * 7 + 3) % (s.length : Int)) = y at hy
      have hd0 : 0 ≤ p / (s.length : Int) := Int.ediv_nonneg h0 (by omega)
      have hd1 : p / (s.length : Int) ≤ p := Int.ediv_le_self _ h0
      rw [Int.tdiv_eq_ediv_of_nonneg h0]
      generalize p / (s.length : Int) = q at hd0 hd1
      rw [wrap_in (n := x) (by omega) (by omega), wrap_in (n := y) (by omega) (by omega), wrap_in (n := x * 131) (by omega) (by omega), wrap_in (n := y * 1117) (by omega) (by omega), wrap_in (n := x * 131 + y * 1117) (by omega) (by omega), wrap_in (n := p * 29) (by omega) (by omega), wrap_in (n := x * 131 + y * 1117 + p * 29) (by omega) (by omega), wrap_in (n := q) (by omega) (by omega), wrap_in (n := q * 53) (by omega) (by omega), wrap_in (n := x * 131 + y * 1117 + p * 29 + q * 53) (by omega) (by omega)]
      obtain ⟨z, hz⟩ : ∃ z : Nat, x * 131 + y * 1117 + p * 29 + q * 53 = (z : Int) := ⟨(x * 131 + y * 1117 + p * 29 + q * 53).toNat, by omega⟩
      rw [hz]
      have hzb : z < 1000000000000 := by omega
      rw [Int.tdiv_eq_ediv_of_nonneg (by omega), wrap_in (n := (z : Int) / 64) (by omega) (by omega)]
      rw [show ((z : Int) / 64) = ((z / 64 : Nat) : Int) by omega, xor_nat _ _ (by omega) (by omega), Int.tmod_eq_emod_of_nonneg (by omega)]
      exact ⟨_, rfl, Int.emod_nonneg _ (by omega), Int.emod_lt_of_pos _ (by omega)⟩
theorem open_some (l : List Int) (hw : ∀ x ∈ l, (Lit.int .u8 x).wf = true) : ∃ s, spec_l20Open.f l = some (s, 0) ∧ Code s := by
  unfold spec_l20Open.f
  have hb : ∀ x ∈ l, 0 ≤ x ∧ x ≤ 255 := fun x hx => u8_bounds (hw x hx)
  by_cases h : (l.length : Int) > 2000
  · rw [if_pos h, if_pos (by omega)]
    exact ⟨_, rfl, fun x hx => hb x (List.mem_of_mem_take hx), by rw [List.length_take]; omega⟩
  · rw [if_neg h]
    exact ⟨_, rfl, hb, by omega⟩
/-! ### what comes to an answer -/
def Tot {β : Type} (Q : β → Prop) (o : Option β) : Prop := ∃ b, o = some b ∧ Q b
theorem tot_some {β : Type} {Q : β → Prop} {b : β} (h : Q b) : Tot Q (some b) := ⟨b, rfl, h⟩
theorem tot_bind {α β : Type} {P : α → Prop} {Q : β → Prop} {o : Option α} {f : α → Option β} (h : Tot P o) (hf : ∀ a, P a → Tot Q (f a)) : Tot Q (o.bind f) := by
  obtain ⟨a, rfl, ha⟩ := h
  exact hf a ha
theorem tot_ite {β : Type} {Q : β → Prop} {c : Prop} [Decidable c] {x y : Option β} (h1 : c → Tot Q x) (h2 : ¬ c → Tot Q y) : Tot Q (if c then x else y) := by
  by_cases h : c
  · rw [if_pos h]; exact h1 h
  · rw [if_neg h]; exact h2 h
theorem tot_mono {β : Type} {P Q : β → Prop} {o : Option β} (h : Tot P o) (hq : ∀ b, P b → Q b) : Tot Q o := by
  obtain ⟨b, hb, hp⟩ := h
  exact ⟨b, hb, hq b hp⟩
theorem tot_none {β : Type} {Q : β → Prop} (h : False) : Tot Q none := h.elim
theorem tot_pick {β : Type} {Q : β → Prop} {F : Int × Int → Option β} {k : Nat} {s : List Int} {p n : Int} (hs : Code s) (hk : 1 ≤ k) (h0 : 0 ≤ p) (h1 : p ≤ 1000000000) (hn : 1 ≤ n)
    (h : ∀ v, 0 ≤ v → v < n → Tot Q (F (v, p + 1))) : Tot Q ((spec_l20Rd_pick.f k s p n).bind F) := by
  obtain ⟨k, rfl⟩ : ∃ m, k = m + 1 := ⟨k - 1, by omega⟩
  obtain ⟨v, hv, v0, v1⟩ := pick_some k s p n hs h0 h1 hn
  rw [hv]
  exact h v v0 v1
theorem tot_odd {β : Type} {Q : β → Prop} {F : Bool × Int → Option β} {k : Nat} {s : List Int} {p n : Int} (hs : Code s) (hk : 1 ≤ k) (h0 : 0 ≤ p) (h1 : p ≤ 1000000000)
    (h : ∀ b p', p ≤ p' → p' ≤ p + 1 → Tot Q (F (b, p'))) : Tot Q ((spec_l20Rd_odd.f k s p n).bind F) := by
  refine tot_bind (P := fun r => p ≤ r.2 ∧ r.2 ≤ p + 1) ?_ (fun a ha => h a.1 a.2 ha.1 ha.2)
  unfold spec_l20Rd_odd.f
  refine tot_ite (fun hn => ?_) (fun hn => ?_)
  · refine tot_pick hs hk h0 h1 (by omega) ?_
    intro v _ _
    exact tot_some (by dsimp only; omega)
  · exact tot_some (by dsimp only; omega)
theorem alive_true (k : Nat) : laws_alive.f (k + 3) = some true := by
  simp [laws_alive.f, impl_BytesOf.f, impl_in.f, impl_bytesOf.f, impl_bytesOf.l0, wrap64, shl, IntKind.wrap, IntKind.bits, IntKind.signed]
/-! ### copies, equality and sizes of rows of bytes -/
theorem wrap_id {n : Int} (h : -9223372036854775808 ≤ n) (h' : n ≤ 9223372036854775807) : wrap64 n = n := by
  unfold wrap64; omega
/-- A loop that fills a row, an element at a time, from the elements of another one. -/
theorem fills {α : Type} (n : Nat) (hn : n ≤ 281474976710656) (L : Nat → List α → Int → Option (List α)) (g : Nat → α)
    (h : ∀ k acc i, k < n + 1 → L (k + 1) acc i = if i < (n : Int) then (if 0 ≤ i then (if i < (acc.length : Int) then L k (acc.set i.toNat (g i.toNat)) (wrap64 (i + 1)) else none) else none) else some acc) :
    ∀ d k (i : Nat) (acc : List α), i + d = n → k = d + 1 → acc.length = n → (∀ j, j < i → acc[j]? = some (g j)) → ∃ r, L k acc (i : Int) = some r ∧ r.length = n ∧ ∀ j, j < n → r[j]? = some (g j) := by
  intro d
  induction d with
  | zero =>
    intro k i acc hi hk hl hp
    subst hk
    refine ⟨acc, ?_, hl, fun j hj => hp j (by omega)⟩
    rw [h _ _ _ (by omega), if_neg (by omega)]
  | succ d ih =>
    intro k i acc hi hk hl hp
    subst hk
    obtain ⟨r, hr, hrl, hrp⟩ := ih (d + 1) (i + 1) (acc.set i (g i)) (by omega) rfl (by simpa using hl) (fun j hj => by
      by_cases hji : j = i
      · subst hji
        simp [List.getElem?_set, hl]
        omega
      · rw [List.getElem?_set_ne (by omega)]
        exact hp j (by omega))
    refine ⟨r, ?_, hrl, hrp⟩
    rw [h _ _ _ (by omega), if_pos (by omega), if_pos (by omega), if_pos (by omega), wrap_id (by omega) (by omega)]
    simpa using hr
theorem rd_at (l : List Int) (i : Nat) (h : i < l.length) : l[i]? = some (rd l (i : Int)) := by
  unfold rd
  rw [List.getD_eq_getElem?_getD, Int.toNat_natCast, List.getElem?_eq_getElem h]
  rfl
/-! ### routes -/
theorem shl_pow (b : Int) (h0 : 0 ≤ b) (h1 : b ≤ 16) : 1 ≤ shl .i64 1 b ∧ shl .i64 1 b ≤ 65536 := by
  obtain ⟨n, rfl⟩ : ∃ n : Nat, b = (n : Int) := ⟨b.toNat, by omega⟩
  have hf : n = 0 ∨ n = 1 ∨ n = 2 ∨ n = 3 ∨ n = 4 ∨ n = 5 ∨ n = 6 ∨ n = 7 ∨ n = 8 ∨ n = 9 ∨ n = 10 ∨ n = 11 ∨ n = 12 ∨ n = 13 ∨ n = 14 ∨ n = 15 ∨ n = 16 := by omega
  rcases hf with rfl | rfl | rfl | rfl | rfl | rfl | rfl | rfl | rfl | rfl | rfl | rfl | rfl | rfl | rfl | rfl | rfl <;> decide
theorem routeOk_same (a b v r : Int) : ∃ t, spec_RouteOk.f a b v r = some t ∧ impl_RouteOk.f a b v r = some t := by
  simp only [spec_RouteOk.f, impl_RouteOk.f, spec_l6Rest.f, impl_word.f, inAll, inAll', Option.bind_some]
  by_cases c1 : 0 ≤ b ∧ b ≤ 16
  · rw [decide_eq_true c1]
    simp only [if_true]
    by_cases c2 : 0 ≤ a ∧ a ≤ 65535
    · rw [decide_eq_true c2]
      simp only [if_true]
      have e : wrap64 (16 - b) = 16 - b := by unfold wrap64; omega
      have hs := shl_pow (16 - b) (by omega) (by omega)
      rw [e]
      have g0 : 0 ≤ 16 - b := by omega
      simp only [if_pos g0, Option.bind_some]
      generalize shl .i64 1 (16 - b) = m at hs
      have g1 : ¬ m = 0 := by omega
      simp only [if_neg g1]
      by_cases c3 : a.tmod m = 0
      · simp only [if_pos c3]
        by_cases c4 : 0 ≤ v ∧ v ≤ 65535
        · rw [decide_eq_true c4]; exact ⟨_, by rw [if_pos rfl], by rw [if_pos rfl]⟩
        · rw [decide_eq_false c4]; exact ⟨false, by simp, by simp⟩
      · simp only [if_neg c3]; exact ⟨false, rfl, rfl⟩
    · rw [decide_eq_false c2]; exact ⟨false, by simp, by simp⟩
  · rw [decide_eq_false c1]; exact ⟨false, by simp, by simp⟩
theorem compare_is (a b : Int) : cmp_Compare_int.f a b = some (if a < b then -1 else if a > b then 1 else 0) := by
  simp only [cmp_Compare_int.f, cmp_isNaN_int.f, Option.bind_some, bne_self_eq_false, Bool.false_eq_true, if_false]
  by_cases h : a < b
  · rw [if_pos h, if_pos h]
  · rw [if_neg h, if_neg h]
    by_cases h' : a > b
    · rw [if_pos h', if_pos h']
    · rw [if_neg h', if_neg h']
theorem or_is (a b : Int) (k : Nat) : cmp_Or_int.f (k + 3) [a, b] = some (if a = 0 then b else a) := by
  have w1 : wrap64 (0 + 1) = 1 := by unfold wrap64; omega
  have w2 : wrap64 (1 + 1) = 2 := by unfold wrap64; omega
  simp only [cmp_Or_int.f, cmp_Or_int.l0, List.length_cons, List.length_nil, w1, w2]
  by_cases h : a = 0
  · by_cases h' : b = 0
    · simp [rd, h, h']
    · simp [rd, h, h']
  · simp [rd, h]
theorem order_is (a0 b0 v0 r0 a1 b1 v1 r1 : Int) (k : Nat) : ∃ o, impl_Route_order.f (k + 3) a0 b0 v0 r0 a1 b1 v1 r1 = some o ∧ (o ≥ 0 ↔ b0 > b1 ∨ b0 = b1 ∧ a0 ≥ a1) := by
  simp only [impl_Route_order.f, compare_is, or_is, Option.bind_some]
  refine ⟨_, rfl, ?_⟩
  by_cases h1 : b0 < b1
  · rw [if_pos h1]; simp; omega
  · rw [if_neg h1]
    by_cases h2 : b0 > b1
    · rw [if_pos h2]; simp; omega
    · rw [if_neg h2, if_pos rfl]
      by_cases h3 : a0 < a1
      · rw [if_pos h3]; simp; omega
      · rw [if_neg h3]
        by_cases h4 : a0 > a1
        · rw [if_pos h4]; simp; omega
        · rw [if_neg h4]; simp; omega
theorem routes_loops (l : List S29) (hl : l.length ≤ 1048576) :
    ∀ d k (i : Nat), i + d = l.length → d + 3 < k → ∃ t, spec_RoutesOk.l0 k l (i : Int) = some t ∧ impl_RoutesOk.l0 k l l (l.length : Int) (i : Int) = some t := by
  intro d
  induction d with
  | zero =>
    intro k i hi hk
    obtain ⟨k, rfl⟩ : ∃ m, k = m + 1 := ⟨k - 1, by omega⟩
    refine ⟨decide ((l.length : Int) ≤ 8), ?_, ?_⟩
    · rw [spec_RoutesOk.l0, if_neg (by omega)]
    · rw [impl_RoutesOk.l0, if_neg (by omega)]
  | succ d ih =>
    intro k i hi hk
    obtain ⟨k, rfl⟩ : ∃ m, k = m + 1 := ⟨k - 1, by omega⟩
    obtain ⟨t, ht1, ht2⟩ := ih k (i + 1) (by omega) (by omega)
    rw [spec_RoutesOk.l0, impl_RoutesOk.l0]
    have g1 : (i : Int) < (l.length : Int) := by omega
    have g0 : 0 ≤ (i : Int) := by omega
    simp only [if_pos g1, if_pos g0]
    have e7 : wrap64 ((i : Int) + 1) = ((i + 1 : Nat) : Int) := by unfold wrap64; omega
    have e8 : wrap64 ((i : Int) - 1) = (i : Int) - 1 := by unfold wrap64; omega
    rw [e7, e8]
    generalize rd_T29 l (i : Int) = x
    generalize rd_T29 l ((i : Int) - 1) = y
    obtain ⟨u, hu1, hu2⟩ := routeOk_same x.f0 x.f1 x.f2 x.f3
    rw [hu1, hu2, Option.bind_some, Option.bind_some]
    cases u
    · exact ⟨false, by simp, by simp⟩
    · simp only [if_true]
      by_cases c3 : (i : Int) > 0
      · have g2 : 0 ≤ (i : Int) - 1 := by omega
        have g3 : (i : Int) - 1 < (l.length : Int) := by omega
        simp only [if_pos c3, if_pos g2, if_pos g3]
        obtain ⟨k', rfl⟩ : ∃ m, k = m + 3 := ⟨k - 3, by omega⟩
        obtain ⟨o, ho, hoo⟩ := order_is y.f0 y.f1 y.f2 y.f3 x.f0 x.f1 x.f2 x.f3 k'
        rw [ho, Option.bind_some]
        by_cases c4 : y.f1 > x.f1
        · rw [if_pos c4, if_pos (hoo.2 (Or.inl c4))]; exact ⟨false, rfl, rfl⟩
        · rw [if_neg c4]
          by_cases c5 : y.f1 = x.f1
          · rw [if_pos c5]
            by_cases c6 : y.f0 ≥ x.f0
            · rw [if_pos c6, if_pos (hoo.2 (Or.inr ⟨c5, c6⟩))]; exact ⟨false, rfl, rfl⟩
            · rw [if_neg c6, if_neg (fun h => by rcases hoo.1 h with h | h <;> omega)]; exact ⟨t, ht1, ht2⟩
          · rw [if_neg c5, if_neg (fun h => by rcases hoo.1 h with h | h <;> omega)]; exact ⟨t, ht1, ht2⟩
      · rw [if_neg c3, if_neg c3]; exact ⟨t, ht1, ht2⟩
theorem routesOk_same (l : List S29) (hl : l.length ≤ 1048576) (k : Nat) (hk : l.length + 3 < k) : ∃ t, spec_RoutesOk.f k l = some t ∧ impl_RoutesOk.f k l = some t :=
  routes_loops l hl l.length k 0 (by omega) hk
/-! ### a route put into a row of routes -/
theorem put_loop (l : List S29) (hl : l.length ≤ 100) (a b c d : Int) : ∀ n k (i : Nat) (acc : List S29) (done : Bool), i + n = l.length → 2 * n + 110 < k → acc.length ≤ 2 * i →
    Tot (fun r : List S29 × Bool => r.1.length ≤ 8) (spec_RoutePut.l0 k l acc done (i : Int) a b c d) := by
  intro n
  induction n with
  | zero =>
    intro k i acc done hi hk ha
    obtain ⟨k, rfl⟩ : ∃ q, k = q + 2 := ⟨k - 2, by omega⟩
    have fin : ∀ acc : List S29, Tot (fun r : List S29 × Bool => r.1.length ≤ 8) (spec_RoutePut.j2 (k + 1) l acc a b c d) := by
      intro acc
      rw [spec_RoutePut.j2]
      obtain ⟨t, h1, _⟩ := routesOk_same l (by omega) k (by omega)
      obtain ⟨u, h2, _⟩ := routeOk_same a b c d
      rw [h1, Option.bind_some, h2, Option.bind_some]
      refine tot_ite (fun _ => tot_ite (fun _ => tot_ite (fun _ => tot_some (by simp)) (fun h => tot_some (by dsimp only; omega))) (fun _ => tot_some (by simp))) (fun _ => tot_some (by simp))
    rw [spec_RoutePut.l0, if_neg (by omega)]
    refine tot_ite (fun _ => fin _) (fun _ => ?_)
    rw [if_pos (by omega)]
    exact fin _
  | succ n ih =>
    intro k i acc done hi hk ha
    obtain ⟨k, rfl⟩ : ∃ q, k = q + 2 := ⟨k - 2, by omega⟩
    have e : wrap64 ((i : Int) + 1) = ((i + 1 : Nat) : Int) := by rw [wrap_id (by omega) (by omega)]; omega
    have go : ∀ (acc : List S29) (done : Bool), acc.length ≤ 2 * (i + 1) → Tot (fun r : List S29 × Bool => r.1.length ≤ 8) (spec_RoutePut.l0 k l acc done (wrap64 ((i : Int) + 1)) a b c d) := by
      intro acc done h
      rw [e]
      exact ih k (i + 1) acc done (by omega) (by omega) h
    have j1 : ∀ (x : Bool) (u v w z : Int), Tot (fun r : List S29 × Bool => r.1.length ≤ 8) (spec_RoutePut.j1 (k + 1) l acc done (i : Int) x a b c d u v w z) := by
      intro x u v w z
      rw [spec_RoutePut.j1]
      refine tot_ite (fun _ => ?_) (fun _ => ?_)
      · rw [if_pos (by omega), Option.bind_some]
        have h1 : (acc ++ [(⟨a, b, c, d⟩ : S29)]).length ≤ 2 * i + 1 := by simp; omega
        refine tot_ite (fun _ => tot_ite (fun _ => go _ _ (by omega)) (fun _ => ?_)) (fun _ => ?_)
        · rw [if_pos (by omega)]; exact go _ _ (by rw [List.length_append]; simp only [List.length_cons, List.length_nil]; omega)
        · rw [if_pos (by omega)]; exact go _ _ (by rw [List.length_append]; simp only [List.length_cons, List.length_nil]; omega)
      · refine tot_ite (fun _ => tot_ite (fun _ => go _ _ (by omega)) (fun _ => ?_)) (fun _ => ?_)
        · rw [if_pos (by omega)]; exact go _ _ (by rw [List.length_append]; simp only [List.length_cons, List.length_nil]; omega)
        · rw [if_pos (by omega)]; exact go _ _ (by rw [List.length_append]; simp only [List.length_cons, List.length_nil]; omega)
    rw [spec_RoutePut.l0, if_pos (by omega), if_pos (by omega)]
    exact tot_ite (fun _ => j1 _ _ _ _ _) (fun _ => tot_ite (fun _ => j1 _ _ _ _ _) (fun _ => tot_ite (fun _ => j1 _ _ _ _ _) (fun _ => j1 _ _ _ _ _)))
/-! ### drawn routes -/
theorem bits_at (v w : Int) (h0 : 0 ≤ v) (h1 : v < 7) (w0 : 0 ≤ w) (w1 : w < 17) : 0 ≤ rd [0, 4, 8, 8, 12, 16, w] v ∧ rd [0, 4, 8, 8, 12, 16, w] v ≤ 16 := by
  have h : v = 0 ∨ v = 1 ∨ v = 2 ∨ v = 3 ∨ v = 4 ∨ v = 5 ∨ v = 6 := by omega
  rcases h with rfl | rfl | rfl | rfl | rfl | rfl | rfl <;> simp [rd] <;> omega
theorem route_tot {s : List Int} (hs : Code s) {k : Nat} (hk : 10 ≤ k) {p n : Int} (h0 : 0 ≤ p) (h1 : p ≤ 900000000) : Tot (fun r : Int × Int × Int × Int × Int => p ≤ r.2.2.2.2 ∧ r.2.2.2.2 ≤ p + 20) (spec_l20Route.f k s p n) := by
  unfold spec_l20Route.f
  refine tot_pick hs (by omega) (by omega) (by omega) (by omega) ?_; intro a a0 a1; dsimp only
  simp only [Option.bind_some]
  refine tot_pick hs (by omega) (by omega) (by omega) (by omega) ?_; intro b b0 b1; dsimp only
  have hb := bits_at b a b0 b1 a0 a1
  rw [if_pos b0, if_pos (by simp; omega)]
  generalize rd [0, 4, 8, 8, 12, 16, a] b = B at hb
  refine tot_pick hs (by omega) (by omega) (by omega) (by omega) ?_; intro c c0 c1; dsimp only
  refine tot_pick hs (by omega) (by omega) (by omega) (by omega) ?_; intro d d0 d1; dsimp only
  have e : wrap64 (16 - B) = 16 - B := wrap_id (by omega) (by omega)
  have hp := shl_pow (16 - B) (by omega) (by omega)
  rw [if_pos d0, if_pos (by simp; omega)]
  simp only [e]
  rw [if_pos (by omega), if_neg (by omega)]
  generalize shl .i64 1 (16 - B) = M
  generalize rd _ d = D
  refine tot_pick hs (by omega) (by omega) (by omega) (by omega) ?_; intro f f0 f1; dsimp only
  refine tot_pick hs (by omega) (by omega) (by omega) (by omega) ?_; intro g g0 g1; dsimp only
  refine tot_odd hs (by omega) (by omega) (by omega) ?_; intro o p3 q5 q6; dsimp only
  have fin : ∀ (x y z w p' : Int), p ≤ p' → p' ≤ p + 20 → Tot (fun r : Int × Int × Int × Int × Int => p ≤ r.2.2.2.2 ∧ r.2.2.2.2 ≤ p + 20) (some (x, y, z, w, p')) := fun x y z w p' u v => tot_some ⟨u, v⟩
  refine tot_ite (fun _ => ?_) (fun _ => fin _ _ _ _ _ (by omega) (by omega))
  refine tot_pick hs (by omega) (by omega) (by omega) (by omega) ?_; intro t t0 t1; dsimp only
  refine tot_ite (fun _ => ?_) (fun _ => tot_ite (fun _ => ?_) (fun _ => fin _ _ _ _ _ (by omega) (by omega)))
  · refine tot_pick hs (by omega) (by omega) (by omega) (by omega) ?_; intro u u0 u1; exact fin _ _ _ _ _ (by omega) (by omega)
  · refine tot_pick hs (by omega) (by omega) (by omega) (by omega) ?_; intro u u0 u1; exact fin _ _ _ _ _ (by omega) (by omega)
theorem routes_loop {s : List Int} (hs : Code s) (m : Int) : ∀ (n k : Nat) (x : Int) (acc : List S29) (p : Int), x = (n : Int) → n ≤ 10 → n + 500 < k → acc.length ≤ 8 → 0 ≤ p → p + 20 * n ≤ 800000000 →
    Tot (fun r : List S29 × Int => r.1.length ≤ 9 ∧ p ≤ r.2 ∧ r.2 ≤ p + 20 * n + 30) (spec_l20Routes.l0 k m acc x s p) := by
  intro n
  induction n with
  | zero =>
    intro k x acc p hx _ hk ha h0 h1
    obtain ⟨k, rfl⟩ : ∃ q, k = q + 1 := ⟨k - 1, by omega⟩
    rw [spec_l20Routes.l0, if_neg (by omega)]
    refine tot_odd hs (by omega) (by omega) (by omega) ?_; intro o p3 q5 q6; dsimp only
    refine tot_ite (fun _ => ?_) (fun _ => tot_some ⟨by dsimp only; omega, by dsimp only; omega, by dsimp only; omega⟩)
    refine tot_bind (route_tot hs (by omega) (by omega) (by omega)) (fun r hr => ?_)
    rw [if_pos (by omega)]
    exact tot_some ⟨by simp; omega, by dsimp only; omega, by dsimp only; omega⟩
  | succ n ih =>
    intro k x acc p hx hn hk ha h0 h1
    obtain ⟨k, rfl⟩ : ∃ q, k = q + 1 := ⟨k - 1, by omega⟩
    rw [spec_l20Routes.l0, if_pos (by omega), wrap_id (by omega) (by omega)]
    refine tot_bind (route_tot hs (by omega) (by omega) (by omega)) (fun r hr => ?_)
    refine tot_bind (put_loop acc (by omega) _ _ _ _ acc.length k 0 [] false (by omega) (by omega) (by simp)) (fun q hq => ?_)
    refine tot_ite (fun _ => ?_) (fun _ => ?_)
    · exact tot_mono (ih k (x - 1) q.1 r.2.2.2.2 (by omega) (by omega) (by omega) hq (by omega) (by omega)) (fun b hb => ⟨hb.1, by omega, by omega⟩)
    · exact tot_mono (ih k (x - 1) acc r.2.2.2.2 (by omega) (by omega) (by omega) ha (by omega) (by omega)) (fun b hb => ⟨hb.1, by omega, by omega⟩)
theorem routes_tot {s : List Int} (hs : Code s) {k : Nat} (hk : 600 ≤ k) {p m : Int} (h0 : 0 ≤ p) (h1 : p ≤ 700000000) : Tot (fun r : List S29 × Int => r.1.length ≤ 9 ∧ p ≤ r.2 ∧ r.2 ≤ p + 200) (spec_l20Routes.f k s p m) := by
  unfold spec_l20Routes.f
  refine tot_pick hs (by omega) (by omega) (by omega) (by omega) ?_; intro a a0 a1; dsimp only
  exact tot_mono (routes_loop hs m a.toNat k a [] (p + 1) (by omega) (by omega) (by omega) (by simp) (by omega) (by omega)) (fun b hb => ⟨hb.1, by omega, by omega⟩)
/-! pure: routes in order -/
theorem order_ordI (x y : S29) (k : Nat) : impl_Route_order.f (k + 3) x.f0 x.f1 x.f2 x.f3 y.f0 y.f1 y.f2 y.f3 = some (ordI x y) := by
  simp only [impl_Route_order.f, compare_is, or_is, Option.bind_some]
  unfold ordI
  by_cases h1 : x.f1 < y.f1
  · rw [if_pos h1, if_pos h1]; rfl
  · rw [if_neg h1, if_neg h1]
    by_cases h2 : y.f1 < x.f1
    · rw [if_pos h2, if_pos h2]; rfl
    · rw [if_neg h2, if_neg h2, if_pos rfl]
def okR (x : S29) : Prop := impl_RouteOk.f x.f0 x.f1 x.f2 x.f3 = some true
theorem ok_loop (l : List S29) (hl : l.length ≤ 1048576) : ∀ d k (i : Nat), i + d = l.length → d + 3 < k → (impl_RoutesOk.l0 k l l (l.length : Int) (i : Int) = some true ↔ l.length ≤ 8 ∧ ∀ j : Nat, i ≤ j → j < l.length → okR (rd_T29 l (j : Int)) ∧ (0 < j → ordI (rd_T29 l ((j : Int) - 1)) (rd_T29 l (j : Int)) < 0)) := by
  intro d
  induction d with
  | zero =>
    intro k i hi hk
    obtain ⟨k, rfl⟩ : ∃ m, k = m + 1 := ⟨k - 1, by omega⟩
    rw [impl_RoutesOk.l0, if_neg (by omega)]
    constructor
    · intro h
      exact ⟨by have := of_decide_eq_true (Option.some.inj h); omega, fun j h1 h2 => by omega⟩
    · rintro ⟨h, -⟩
      rw [decide_eq_true (by omega)]
  | succ d ih =>
    intro k i hi hk
    obtain ⟨k, rfl⟩ : ∃ m, k = m + 4 := ⟨k - 4, by omega⟩
    have hih := ih (k + 3) (i + 1) (by omega) (by omega)
    have e7 : wrap64 ((i : Int) + 1) = ((i + 1 : Nat) : Int) := by unfold wrap64; omega
    have e8 : wrap64 ((i : Int) - 1) = (i : Int) - 1 := by unfold wrap64; omega
    obtain ⟨u, hu1, hu2⟩ := routeOk_same (rd_T29 l (i : Int)).f0 (rd_T29 l (i : Int)).f1 (rd_T29 l (i : Int)).f2 (rd_T29 l (i : Int)).f3
    have step : (l.length ≤ 8 ∧ ∀ j : Nat, i ≤ j → j < l.length → okR (rd_T29 l (j : Int)) ∧ (0 < j → ordI (rd_T29 l ((j : Int) - 1)) (rd_T29 l (j : Int)) < 0)) ↔ (okR (rd_T29 l (i : Int)) ∧ (0 < i → ordI (rd_T29 l ((i : Int) - 1)) (rd_T29 l (i : Int)) < 0)) ∧ (l.length ≤ 8 ∧ ∀ j : Nat, i + 1 ≤ j → j < l.length → okR (rd_T29 l (j : Int)) ∧ (0 < j → ordI (rd_T29 l ((j : Int) - 1)) (rd_T29 l (j : Int)) < 0)) := by
      constructor
      · rintro ⟨h1, h2⟩
        exact ⟨h2 i (Nat.le_refl _) (by omega), h1, fun j h3 h4 => h2 j (by omega) h4⟩
      · rintro ⟨h1, h2, h3⟩
        refine ⟨h2, fun j h4 h5 => ?_⟩
        rcases Nat.eq_or_lt_of_le h4 with rfl | h6
        · exact h1
        · exact h3 j h6 h5
    rw [step, ← hih, impl_RoutesOk.l0, if_pos (by omega), if_pos (by omega), if_pos (by omega), e7, e8, hu2, Option.bind_some]
    have ho : okR (rd_T29 l (i : Int)) ↔ u = true := by unfold okR; rw [hu2]; simp
    rw [ho]
    cases u with
    | false => simp
    | true =>
      rw [if_pos rfl]
      by_cases c3 : 0 < i
      · rw [if_pos (by omega), if_pos (by omega), if_pos (by omega), order_ordI, Option.bind_some]
        by_cases c4 : ordI (rd_T29 l ((i : Int) - 1)) (rd_T29 l (i : Int)) < 0
        · rw [if_neg (by omega)]; simp [c4]
        · rw [if_pos (by omega)]; simp [c3, c4]
      · rw [if_neg (by omega)]; simp [c3]
theorem ordI_lt (x y : S29) : ordI x y < 0 ↔ x.f1 < y.f1 ∨ x.f1 = y.f1 ∧ x.f0 < y.f0 := by
  unfold ordI
  by_cases h1 : x.f1 < y.f1
  · rw [if_pos h1]; omega
  · rw [if_neg h1]
    by_cases h2 : y.f1 < x.f1
    · rw [if_pos h2]; omega
    · rw [if_neg h2]
      by_cases h3 : x.f0 < y.f0
      · rw [if_pos h3]; omega
      · rw [if_neg h3]
        by_cases h4 : y.f0 < x.f0
        · rw [if_pos h4]; omega
        · rw [if_neg h4]; omega
theorem ordI_gt (x y : S29) : 0 < ordI x y ↔ y.f1 < x.f1 ∨ y.f1 = x.f1 ∧ y.f0 < x.f0 := by
  unfold ordI
  by_cases h1 : x.f1 < y.f1
  · rw [if_pos h1]; omega
  · rw [if_neg h1]
    by_cases h2 : y.f1 < x.f1
    · rw [if_pos h2]; omega
    · rw [if_neg h2]
      by_cases h3 : x.f0 < y.f0
      · rw [if_pos h3]; omega
      · rw [if_neg h3]
        by_cases h4 : y.f0 < x.f0
        · rw [if_pos h4]; omega
        · rw [if_neg h4]; omega
theorem ordI_trans {x y z : S29} (h1 : ordI x y < 0) (h2 : ordI y z < 0) : ordI x z < 0 := by
  rw [ordI_lt] at h1 h2 ⊢
  omega
/-- Routes that are in order. -/
def RO (l : List S29) : Prop := l.length ≤ 8 ∧ (∀ x ∈ l, okR x) ∧ l.Pairwise (fun x y => ordI x y < 0)
theorem chain_all (l : List S29) (h : ∀ j (h1 : 0 < j) (h2 : j < l.length), ordI (l[j - 1]'(by omega)) l[j] < 0) : ∀ d i (h1 : i + d + 1 < l.length), ordI (l[i]'(by omega)) (l[i + d + 1]'h1) < 0 := by
  intro d
  induction d with
  | zero => intro i h1; exact h (i + 1) (by omega) h1
  | succ d ih =>
    intro i h1
    exact ordI_trans (ih i (by omega)) (h (i + d + 1 + 1) (by omega) h1)
theorem ro_iff (l : List S29) (hl : l.length ≤ 1048576) (k : Nat) (hk : l.length + 3 < k) : impl_RoutesOk.f k l = some true ↔ RO l := by
  have e : impl_RoutesOk.f k l = impl_RoutesOk.l0 k l l (l.length : Int) ((0 : Nat) : Int) := rfl
  rw [e, ok_loop l hl l.length k 0 (by omega) hk]
  constructor
  · rintro ⟨h1, h2⟩
    refine ⟨h1, fun x hx => ?_, ?_⟩
    · obtain ⟨j, hj, rfl⟩ := List.mem_iff_getElem.1 hx
      have := (h2 j (Nat.zero_le _) hj).1
      rwa [rd29_get l j hj] at this
    · rw [List.pairwise_iff_getElem]
      intro i j hi hj hij
      have hc := chain_all l (fun j h3 h4 => by
        have := (h2 j (Nat.zero_le _) h4).2 h3
        rw [show (j : Int) - 1 = ((j - 1 : Nat) : Int) by omega, rd29_get l j h4, rd29_get l (j - 1) (by omega)] at this
        exact this) (j - i - 1) i (by omega)
      have e2 : i + (j - i - 1) + 1 = j := by omega
      simp only [e2] at hc
      exact hc
  · rintro ⟨h1, h2, h3⟩
    refine ⟨h1, fun j _ hj => ⟨?_, fun h4 => ?_⟩⟩
    · rw [rd29_get l j hj]
      exact h2 _ (List.getElem_mem _)
    · rw [show (j : Int) - 1 = ((j - 1 : Nat) : Int) by omega, rd29_get l j hj, rd29_get l (j - 1) (by omega)]
      exact List.pairwise_iff_getElem.1 h3 (j - 1) j (by omega) hj (by omega)
theorem ro_keep (N B : Int) {l : List S29} (h : RO l) : RO (keepR N B l) :=
  ⟨Nat.le_trans (List.length_filter_le _ _) h.1, fun x hx => h.2.1 x (List.mem_filter.1 hx).1, h.2.2.filter _⟩
theorem parts (L : List S29) (i : Nat) (hi : i < L.length) : L.take i ++ L[i] :: L.drop (i + 1) = L := by
  rw [List.getElem_cons_drop, List.take_append_drop]
theorem keep_id (N B : Int) (l : List S29) (h : ∀ x ∈ l, hit N B x = false) : keepR N B l = l := by
  unfold keepR
  rw [List.filter_eq_self]
  intro a ha
  rw [h a ha]
  rfl
theorem hit_ne (N B : Int) (x y : S29) (h : hit N B x = true) (hx : ordI x y < 0 ∨ 0 < ordI x y ∨ ordI y x < 0) : hit N B y = false := by
  rw [ordI_lt, ordI_gt, ordI_lt] at hx
  unfold hit at h ⊢
  simp only [Bool.and_eq_true, beq_iff_eq] at h
  obtain ⟨h1, h2⟩ := h
  by_cases h3 : y.f0 = N
  · have h4 : ¬ y.f1 = B := by omega
    simp [h4]
  · simp [h3]
theorem drop_one (N B : Int) (L : List S29) (h : RO L) (i : Nat) (hi : i < L.length) (hh : hit N B L[i] = true) :
    keepR N B L = L.take i ++ L.drop (i + 1) ∧ (∀ x ∈ L.take i, ordI x L[i] < 0) ∧ (∀ x ∈ L.drop (i + 1), 0 < ordI x L[i]) := by
  obtain ⟨-, -, h3⟩ := h
  have e := parts L i hi
  have h4 := h3
  rw [← e, List.pairwise_append, List.pairwise_cons] at h4
  obtain ⟨-, ⟨h5, -⟩, h6⟩ := h4
  have a : ∀ x ∈ L.take i, ordI x L[i] < 0 := fun x hx => h6 x hx _ List.mem_cons_self
  refine ⟨?_, a, fun x hx => ?_⟩
  · have e1 : keepR N B L = keepR N B (L.take i ++ L[i] :: L.drop (i + 1)) := by rw [e]
    rw [e1]
    have f1 := keep_id N B (L.take i) (fun x hx => hit_ne N B _ _ hh (.inr (.inr (a x hx))))
    have f2 := keep_id N B (L.drop (i + 1)) (fun x hx => hit_ne N B _ _ hh (.inl (h5 x hx)))
    unfold keepR at f1 f2 ⊢
    rw [List.filter_append, List.filter_cons, if_neg (by rw [hh]; simp), f1, f2]
  · have := (ordI_lt _ _).1 (h5 x hx)
    exact (ordI_gt _ _).2 this
theorem same_loop (l : List S29) (hl : l.length ≤ 1048576) : ∀ d k (i : Nat), i + d = l.length → d < k → laws_sameRoutes.l0 k l l (i : Int) = some true := by
  intro d
  induction d with
  | zero =>
    intro k i hi hk
    obtain ⟨k, rfl⟩ : ∃ q, k = q + 1 := ⟨k - 1, by omega⟩
    rw [laws_sameRoutes.l0, if_neg (by omega)]
  | succ d ih =>
    intro k i hi hk
    obtain ⟨k, rfl⟩ : ∃ q, k = q + 1 := ⟨k - 1, by omega⟩
    rw [laws_sameRoutes.l0, if_pos (by omega), if_pos (by omega), if_pos (by omega)]
    rw [if_neg (by simp), wl (n := (i : Int) + 1) (m := ((i + 1 : Nat) : Int)) (by omega) (by omega) (by omega)]
    exact ih k (i + 1) (by omega) (by omega)
theorem same_self (l : List S29) (hl : l.length ≤ 1048576) (k : Nat) (hk : l.length < k) : laws_sameRoutes.f k l l = some true := by
  unfold laws_sameRoutes.f
  rw [if_pos rfl]
  exact same_loop l hl l.length k 0 (by omega) hk
theorem drop_loop (L : List S29) (hL : L.length ≤ 9) (N B : Int) (h : ∀ k, 20 ≤ k → spec_RoutesOk.f k L = some true) : ∀ d k (i : Nat) (acc : List S29) (b : Bool), i + d = L.length → 2 * d + 30 < k → acc = keepR N B (L.take i) → b = decide (acc.length < i) →
    spec_RouteDrop.l0 k L N B acc b (i : Int) = some (keepR N B L, decide ((keepR N B L).length < L.length)) := by
  intro d
  induction d with
  | zero =>
    intro k i acc b hi hk ha hb
    obtain ⟨k, rfl⟩ : ∃ q, k = q + 2 := ⟨k - 2, by omega⟩
    obtain rfl : i = L.length := by omega
    rw [List.take_length] at ha
    subst ha hb
    rw [spec_RouteDrop.l0, if_neg (by omega), spec_RouteDrop.j1, if_neg (by simp)]
  | succ d ih =>
    intro k i acc b hi hk ha hb
    obtain ⟨k, rfl⟩ : ∃ q, k = q + 2 := ⟨k - 2, by omega⟩
    have hi2 : i < L.length := by omega
    have hl : acc.length ≤ i := by
      rw [ha]
      exact Nat.le_trans (List.length_filter_le _ _) (by rw [List.length_take]; omega)
    have hk2 : keepR N B (L.take (i + 1)) = acc ++ keepR N B [rd_T29 L (i : Int)] := by
      rw [ha, rd29_get L i hi2, List.take_succ_eq_append_getElem hi2]
      exact List.filter_append ..
    have hgo : ∀ (acc' : List S29) (b' : Bool), acc' = keepR N B (L.take (i + 1)) → b' = decide (acc'.length < i + 1) → spec_RouteDrop.l0 k L N B acc' b' (wrap64 ((i : Int) + 1)) = some (keepR N B L, decide ((keepR N B L).length < L.length)) := by
      intro acc' b' h1 h2
      rw [wl (n := (i : Int) + 1) (m := ((i + 1 : Nat) : Int)) (by omega) (by omega) (by omega)]
      exact ih k (i + 1) acc' b' (by omega) (by omega) h1 h2
    rw [spec_RouteDrop.l0, if_pos (by omega), h (k + 1) (by omega), Option.bind_some, spec_RouteDrop.j1, if_pos rfl, if_pos (by omega), if_pos (by omega)]
    generalize rd_T29 L (i : Int) = x at hk2
    have hno : hit N B x = false → spec_RouteDrop.l0 k L N B (acc ++ [(⟨x.f0, x.f1, x.f2, x.f3⟩ : S29)]) b (wrap64 ((i : Int) + 1)) = some (keepR N B L, decide ((keepR N B L).length < L.length)) := fun hx => by
      refine hgo _ _ ?_ ?_
      · rw [hk2]
        unfold keepR
        rw [List.filter_cons, if_pos (by rw [hx]; rfl), List.filter_nil]
      · rw [hb, List.length_append]
        simp only [List.length_cons, List.length_nil]
        exact decide_eq_decide.2 (by omega)
    by_cases h1 : x.f0 = N
    · rw [if_pos h1]
      by_cases h2 : x.f1 = B
      · rw [if_pos h2]
        have hx : hit N B x = true := by unfold hit; simp [h1, h2]
        refine hgo _ _ ?_ ?_
        · rw [hk2]
          unfold keepR
          rw [List.filter_cons, if_neg (by rw [hx]; simp), List.filter_nil, List.append_nil]
        · exact (decide_eq_true (by omega)).symm
      · rw [if_neg h2, if_pos (by omega)]
        exact hno (by unfold hit; simp [h2])
    · rw [if_neg h1, if_pos (by omega)]
      exact hno (by unfold hit; simp [h1])
theorem spec_drop (L : List S29) (hL : L.length ≤ 9) (N B : Int) (r : Bool) (k : Nat) (hk : 60 ≤ k) (h : spec_RoutesOk.f k L = some r) : spec_RouteDrop.f k L N B = some (dropP r N B L) := by
  have hall : ∀ m, 20 ≤ m → spec_RoutesOk.f m L = some r := by
    intro m hm
    have mono : ∀ a c, spec_RoutesOk.f a L = some r → spec_RoutesOk.f (a + c) L = some r := by
      intro a c ha
      induction c with
      | zero => exact ha
      | succ c ih => exact spec_RoutesOk.mono L (a + c) _ ih
    obtain ⟨t, h1, -⟩ := routesOk_same L (by omega) m (by omega)
    have h2 : some t = some r := by
      rcases Nat.le_total m k with h3 | h3
      · obtain ⟨c, rfl⟩ := Nat.exists_eq_add_of_le h3
        rw [← h]
        have : ∀ a c, spec_RoutesOk.f a L = some t → spec_RoutesOk.f (a + c) L = some t := by
          intro a c ha
          induction c with
          | zero => exact ha
          | succ c ih => exact spec_RoutesOk.mono L (a + c) _ ih
        exact (this m c h1).symm
      · obtain ⟨c, rfl⟩ := Nat.exists_eq_add_of_le h3
        rw [← h1]
        exact mono k c h
    rw [h1, h2]
  show spec_RouteDrop.l0 k L N B [] false ((0 : Nat) : Int) = _
  unfold dropP
  cases r with
  | false =>
    rw [if_pos rfl]
    obtain ⟨k, rfl⟩ : ∃ q, k = q + 2 := ⟨k - 2, by omega⟩
    rw [spec_RouteDrop.l0]
    by_cases h0 : (((0 : Nat) : Int) < (L.length : Int))
    · rw [if_pos h0, hall (k + 1) (by omega), Option.bind_some, spec_RouteDrop.j1, if_neg (by simp)]
    · rw [if_neg h0, spec_RouteDrop.j1, if_neg (by simp)]
  | true =>
    rw [if_neg (by simp)]
    exact drop_loop L hL N B hall L.length k 0 [] false (by omega) (by omega) rfl rfl
theorem draw_tot (l : List Int) (hw : ∀ x ∈ l, (Lit.int .u8 x).wf = true) {K : Nat} (hK : 1600 < K) : Tot (fun r : List S29 × Int × Int => r.1.length ≤ 9) (spec_DrawRouteDrop.f K l) := by
  obtain ⟨s, hs, hc⟩ := open_some l hw
  unfold spec_DrawRouteDrop.f
  rw [hs, Option.bind_some]
  refine tot_bind (routes_tot hc (by omega) (by dsimp only; omega) (by dsimp only; omega)) (fun r hr => ?_)
  obtain ⟨h1, h2, h3⟩ := hr
  dsimp only at h2 h3
  refine tot_bind (route_tot hc (by omega) (by omega) (by omega)) (fun q hq => ?_)
  have hf : ∀ a b : Int, Tot (fun r : List S29 × Int × Int => r.1.length ≤ 9) (some (r.1, a, b)) := fun a b => tot_some h1
  refine tot_ite (fun c1 => ?_) (fun _ => hf _ _)
  refine tot_pick hc (by omega) (by omega) (by omega) (by omega) ?_; intro a a0 a1; dsimp only
  refine tot_ite (fun _ => ?_) (fun _ => hf _ _)
  refine tot_pick hc (by omega) (by omega) (by omega) (by omega) ?_; intro b b0 b1; dsimp only
  rw [if_pos b0, if_pos b1]
  exact hf _ _
theorem at_law (L : List S29) (hL : L.length ≤ 9) (N B : Int) : law9_at L N B := by
  obtain ⟨r, h1, h2⟩ := routesOk_same L (by omega) 2000 (by omega)
  have hsp := spec_drop L (by omega) N B r 2000 (by omega) h1
  have hD : (dropP r N B L).1.length ≤ L.length := by
    unfold dropP
    split
    · exact Nat.zero_le _
    · exact List.length_filter_le _ _
  obtain ⟨x, hd⟩ : ∃ x, dropP r N B L = x := ⟨_, rfl⟩
  obtain ⟨D, b⟩ := x
  rw [hd] at hD hsp
  dsimp only at hD
  refine ⟨2000, D, r, b, h2, fun _ => by omega, hd, hsp, same_self D (by omega) _ (by omega), fun hb hr => ?_, fun hb => ?_⟩
  · subst hb hr
    unfold dropP at hd
    rw [if_neg (by simp)] at hd
    injection hd with e1 e2
    have h3 : ¬ (keepR N B L).length < L.length := of_decide_eq_false e2
    rw [← e1]
    exact (List.filter_sublist (l := L)).eq_of_length (Nat.le_antisymm (List.length_filter_le _ _) (by unfold keepR at h3; omega))
  · subst hb
    cases r with
    | false => simp [dropP] at hd
    | true =>
    unfold dropP at hd
    rw [if_neg (by simp)] at hd
    injection hd with e1 e2
    have h3 : (keepR N B L).length < L.length := of_decide_eq_true e2
    have hR : RO L := (ro_iff L (by omega) 2000 (by omega)).1 h2
    have hi : L.findIdx (hit N B) < L.length := by
      rw [List.findIdx_lt_length]
      refine Classical.byContradiction fun h => ?_
      rw [keep_id N B L (fun x hx => by
        cases hc : hit N B x with
        | false => rfl
        | true => exact absurd ⟨x, hx, hc⟩ h)] at h3
      omega
    have hh : hit N B (L[L.findIdx (hit N B)]'hi) = true := List.findIdx_getElem (w := hi)
    have hb : ∀ x : Nat, x < L.findIdx (hit N B) → hit N B (rd_T29 L (x : Int)) = false := fun x hx => by
      rw [rd29_get L x (by omega)]
      have := List.not_of_lt_findIdx hx
      simpa using this
    generalize L.findIdx (hit N B) = i at hi hh hb
    obtain ⟨k1, k2, k3⟩ := drop_one N B L hR i hi hh
    have hp := parts L i hi
    have hok := hR.2.1 _ (List.getElem_mem hi)
    obtain ⟨y, hy⟩ : ∃ y, L[i]'hi = y := ⟨_, rfl⟩
    rw [hy] at hh k2 k3 hp hok
    rw [e1] at k1
    have hDR : RO D := by rw [← e1]; exact ro_keep N B hR
    subst k1
    have hn : (L.take i).length = i := by rw [List.length_take]; omega
    have hlen : (L.take i ++ L.drop (i + 1)).length = L.length - 1 := by rw [List.length_append, hn, List.length_drop]; omega
    have hL8 := hR.1
    obtain ⟨y0, y1, y2, y3⟩ := y
    refine ⟨i, y0, y1, y2, y3, hi, by rw [rd29_get L i hi, hy], hh, hb, (ro_iff _ (by omega) 2000 (by omega)).2 hDR, hok, by omega, fun x => order_ordI x ⟨y0, y1, y2, y3⟩ 1997, by omega, fun x hx => ?_, fun x hx hx2 => ?_, ?_, same_self L (by omega) _ (by omega)⟩
    · rw [rd29_get _ x (by omega), List.getElem_append_left (by omega)]
      exact k2 _ (List.getElem_mem _)
    · rw [rd29_get _ x hx2, List.getElem_append_right (by omega)]
      exact k3 _ (List.getElem_mem _)
    · rw [List.take_left' hn, List.drop_left' hn, List.append_assoc]
      exact hp
theorem main : GFnRouteDrop.Stmt := by
  intro l hl
  obtain ⟨hl, hw⟩ := hl
  refine ⟨2000, ?_⟩
  by_cases h : l.length > 1048576
  · exact .inl h
  · obtain ⟨⟨L, N, B⟩, hd, hL⟩ := draw_tot l hw (K := 2000) (by omega)
    exact .inr ⟨by omega, alive_true 1997, L, N, B, hd, at_law L hL N B⟩
end FnRouteDrop_
theorem FnRouteDrop : GFnRouteDrop.Stmt := FnRouteDrop_.main
end Go.Proofs.Ytkkibccnpkbbjab.Pure
