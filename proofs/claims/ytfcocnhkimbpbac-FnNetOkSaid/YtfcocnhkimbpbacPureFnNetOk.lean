/- The pure law of FnNetOk: whatever the code, the drawn stations are a net for the program just if they are for the reference; if they are, so are the first ones of them; and so is none. No conditions. -/
import Derived.Test.YtfcocnhkimbpbacGFnNetOk
namespace Go.Proofs.Ytfcocnhkimbpbac.Pure
open Go Go.RowKit Go.Proofs.Ytfcocnhkimbpbac.MFnNetOk Go.Proofs.YtfcocnhkimbpbacV.PrintWords Go.Proofs.YtfcocnhkimbpbacV.PrintLast
set_option linter.unusedVariables false
set_option linter.unusedSimpArgs false
namespace FnNetOk_
theorem i64_bounds {x : Int} (h : (Lit.int .i64 x).wf = true) : -9223372036854775808 ≤ x ∧ x ≤ 9223372036854775807 := by
  simpa [Lit.wf, IntKind.min, IntKind.max, IntKind.signed, IntKind.bits] using h
theorem inAll (x y z : Int) : spec_l1In.f x y z = some (decide (y ≤ x ∧ x ≤ z)) := by
  unfold spec_l1In.f
  by_cases h : x ≥ y
  · rw [if_pos h]; congr 1; simp only [decide_eq_decide]; omega
  · rw [if_neg h]; congr 1; symm; simp only [decide_eq_false_iff_not]; omega
theorem inAll' (x y z : Int) : impl_in.f x y z = some (decide (y ≤ x ∧ x ≤ z)) := inAll x y z
theorem wl {n m : Int} (h : n = m) (h0 : -9223372036854775808 ≤ m) (h1 : m ≤ 9223372036854775807) : wrap64 n = m := by
  subst h
  unfold wrap64
  omega
/-! ### a draw: a number in 0..n-1, and the place one further -/
theorem xor_nat (a b : Nat) (ha : a < 9223372036854775808) (hb : b < 9223372036854775808) : Go.bits .xor .i64 (a : Int) (b : Int) = ((a ^^^ b : Nat) : Int) := by
  have hx : a ^^^ b < 2 ^ 63 := Nat.xor_lt_two_pow (by omega) (by omega)
  have ha' : a % 2 ^ 64 = a := Nat.mod_eq_of_lt (by omega)
  have hb' : b % 2 ^ 64 = b := Nat.mod_eq_of_lt (by omega)
  have e : IntKind.i64.bits = 64 := rfl
  simp only [Go.bits, BitVec.ofInt_natCast, BitVec.toNat_xor, BitVec.toNat_ofNat, e, ha', hb']
  rw [IntKind.wrap_i64]
  omega
theorem wrap_in {n : Int} (h : -9223372036854775808 ≤ n) (h' : n ≤ 9223372036854775807) : wrap64 n = n := by
  unfold wrap64; omega
theorem u8_bounds {x : Int} (h : (Lit.int .u8 x).wf = true) : 0 ≤ x ∧ x ≤ 255 := by
  simpa [Lit.wf, IntKind.min, IntKind.max, IntKind.signed, IntKind.bits] using h
/-- The bytes of a code. -/
def Code (s : List Int) : Prop := (∀ x ∈ s, 0 ≤ x ∧ x ≤ 255) ∧ s.length ≤ 2000
theorem Code.at {s : List Int} (h : Code s) (i : Int) : 0 ≤ rd s i ∧ rd s i ≤ 255 := by
  unfold rd
  rw [List.getD_eq_getElem?_getD]
  rcases hc : s[i.toNat]? with _ | x
  · simp
  · have := h.1 x (List.mem_of_getElem? hc)
    simpa using this
theorem pick_some (k : Nat) (s : List Int) (p n : Int) (hs : Code s) (h0 : 0 ≤ p) (h1 : p ≤ 1000000000) (hn : 1 ≤ n) :
    ∃ v, spec_l20Rd_pick.f (k + 1) s p n = some (v, p + 1) ∧ 0 ≤ v ∧ v < n := by
  have hl := hs.2
  unfold spec_l20Rd_pick.f
  rw [if_neg (by omega)]
  by_cases hz : s.length = 0
  · refine ⟨0, ?_, by omega, by omega⟩
    simp only [spec_l20Rd_pick.j0]
    rw [if_pos (by simp [hz]), wrap_in (by omega) (by omega)]
  · have hz' : ((s.length : Int) == 0) = false := by simpa using hz
    rw [hz']
    simp only [spec_l20Rd_pick.j0]
    rw [if_neg (by decide), wrap_in (n := p + 1) (by omega) (by omega), show p + 1 - 1 = p by omega, wrap_in (n := p) (by omega) (by omega)]
    by_cases hp : p < (s.length : Int)
    · have hb := hs.at p
      rw [if_pos hp, if_pos h0, if_neg (by omega), wrap_in (by omega) (by omega), Int.tmod_eq_emod_of_nonneg hb.1]
      exact ⟨_, rfl, Int.emod_nonneg _ (by omega), Int.emod_lt_of_pos _ (by omega)⟩
    · rw [if_neg hp, if_neg (by omega)]
      have hL : (0 : Int) < (s.length : Int) := by omega
      rw [wrap_in (n := p * 7) (by omega) (by omega), wrap_in (n := p * 7 + 3) (by omega) (by omega)]
      rw [Int.tmod_eq_emod_of_nonneg h0, Int.tmod_eq_emod_of_nonneg (a := p * 7 + 3) (by omega)]
      have ha0 := Int.emod_nonneg p (b := (s.length : Int)) (by omega)
      have ha1 := Int.emod_lt_of_pos p (b := (s.length : Int)) (by omega)
      have hb0 := Int.emod_nonneg (p * 7 + 3) (b := (s.length : Int)) (by omega)
      have hb1 := Int.emod_lt_of_pos (p * 7 + 3) (b := (s.length : Int)) (by omega)
      rw [if_pos ha0, if_pos ha1, if_pos hb0, if_pos hb1, if_neg (by omega)]
      have hx := hs.at (p % (s.length : Int))
      have hy := hs.at ((p * 7 + 3) % (s.length : Int))
      generalize rd s (p % (s.length : Int)) = x at hx
      generalize rd s ((p * 7 + 3) % (s.length : Int)) = y at hy
      have hd0 : 0 ≤ p / (s.length : Int) := Int.ediv_nonneg h0 (by omega)
      have hd1 : p / (s.length : Int) ≤ p := Int.ediv_le_self _ h0
      rw [Int.tdiv_eq_ediv_of_nonneg h0]
      generalize p / (s.length : Int) = q at hd0 hd1
      rw [wrap_in (n := x) (by omega) (by omega), wrap_in (n := y) (by omega) (by omega), wrap_in (n := x * 131) (by omega) (by omega), wrap_in (n := y * 1117) (by omega) (by omega), wrap_in (n := x * 131 + y * 1117) (by omega) (by omega), wrap_in (n := p * 29) (by omega) (by omega), wrap_in (n := x * 131 + y * 1117 + p * 29) (by omega) (by omega), wrap_in (n := q) (by omega) (by omega), wrap_in (n := q * 53) (by omega) (by omega), wrap_in (n := x * 131 + y * 1117 + p * 29 + q * 53) (by omega) (by omega)]
      obtain ⟨z, hz⟩ : ∃ z : Nat, x * 131 + y * 1117 + p * 29 + q * 53 = (z : Int) := ⟨(x * 131 + y * 1117 + p * 29 + q * 53).toNat, by omega⟩
      rw [hz]
      have hzb : z < 1000000000000 := by omega
      rw [Int.tdiv_eq_ediv_of_nonneg (by omega), wrap_in (n := (z : Int) / 64) (by omega) (by omega)]
      rw [show ((z : Int) / 64) = ((z / 64 : Nat) : Int) by omega, xor_nat _ _ (by omega) (by omega), Int.tmod_eq_emod_of_nonneg (by omega)]
      exact ⟨_, rfl, Int.emod_nonneg _ (by omega), Int.emod_lt_of_pos _ (by omega)⟩
theorem open_some (l : List Int) (hw : ∀ x ∈ l, (Lit.int .u8 x).wf = true) : ∃ s, spec_l20Open.f l = some (s, 0) ∧ Code s := by
  unfold spec_l20Open.f
  have hb : ∀ x ∈ l, 0 ≤ x ∧ x ≤ 255 := fun x hx => u8_bounds (hw x hx)
  by_cases h : (l.length : Int) > 2000
  · rw [if_pos h, if_pos (by omega)]
    exact ⟨_, rfl, fun x hx => hb x (List.mem_of_mem_take hx), by rw [List.length_take]; omega⟩
  · rw [if_neg h]
    exact ⟨_, rfl, hb, by omega⟩
/-! ### what comes to an answer -/
def Tot {β : Type} (Q : β → Prop) (o : Option β) : Prop := ∃ b, o = some b ∧ Q b
theorem tot_some {β : Type} {Q : β → Prop} {b : β} (h : Q b) : Tot Q (some b) := ⟨b, rfl, h⟩
theorem tot_bind {α β : Type} {P : α → Prop} {Q : β → Prop} {o : Option α} {f : α → Option β} (h : Tot P o) (hf : ∀ a, P a → Tot Q (f a)) : Tot Q (o.bind f) := by
  obtain ⟨a, rfl, ha⟩ := h
  exact hf a ha
theorem tot_ite {β : Type} {Q : β → Prop} {c : Prop} [Decidable c] {x y : Option β} (h1 : c → Tot Q x) (h2 : ¬ c → Tot Q y) : Tot Q (if c then x else y) := by
  by_cases h : c
  · rw [if_pos h]; exact h1 h
  · rw [if_neg h]; exact h2 h
theorem tot_mono {β : Type} {P Q : β → Prop} {o : Option β} (h : Tot P o) (hq : ∀ b, P b → Q b) : Tot Q o := by
  obtain ⟨b, hb, hp⟩ := h
  exact ⟨b, hb, hq b hp⟩
theorem tot_none {β : Type} {Q : β → Prop} (h : False) : Tot Q none := h.elim
theorem tot_pick {β : Type} {Q : β → Prop} {F : Int × Int → Option β} {k : Nat} {s : List Int} {p n : Int} (hs : Code s) (hk : 1 ≤ k) (h0 : 0 ≤ p) (h1 : p ≤ 1000000000) (hn : 1 ≤ n)
    (h : ∀ v, 0 ≤ v → v < n → Tot Q (F (v, p + 1))) : Tot Q ((spec_l20Rd_pick.f k s p n).bind F) := by
  obtain ⟨k, rfl⟩ : ∃ m, k = m + 1 := ⟨k - 1, by omega⟩
  obtain ⟨v, hv, v0, v1⟩ := pick_some k s p n hs h0 h1 hn
  rw [hv]
  exact h v v0 v1
theorem tot_odd {β : Type} {Q : β → Prop} {F : Bool × Int → Option β} {k : Nat} {s : List Int} {p n : Int} (hs : Code s) (hk : 1 ≤ k) (h0 : 0 ≤ p) (h1 : p ≤ 1000000000)
    (h : ∀ b p', p ≤ p' → p' ≤ p + 1 → Tot Q (F (b, p'))) : Tot Q ((spec_l20Rd_odd.f k s p n).bind F) := by
  refine tot_bind (P := fun r => p ≤ r.2 ∧ r.2 ≤ p + 1) ?_ (fun a ha => h a.1 a.2 ha.1 ha.2)
  unfold spec_l20Rd_odd.f
  refine tot_ite (fun hn => ?_) (fun hn => ?_)
  · refine tot_pick hs hk h0 h1 (by omega) ?_
    intro v _ _
    exact tot_some (by dsimp only; omega)
  · exact tot_some (by dsimp only; omega)
theorem alive_true (k : Nat) : laws_alive.f (k + 3) = some true := by
  simp [laws_alive.f, impl_BytesOf.f, impl_in.f, impl_bytesOf.f, impl_bytesOf.l0, wrap64, shl, IntKind.wrap, IntKind.bits, IntKind.signed]
/-! ### copies, equality and sizes of rows of bytes -/
theorem wrap_id {n : Int} (h : -9223372036854775808 ≤ n) (h' : n ≤ 9223372036854775807) : wrap64 n = n := by
  unfold wrap64; omega
/-- A loop that fills a row, an element at a time, from the elements of another one. -/
theorem fills {α : Type} (n : Nat) (hn : n ≤ 281474976710656) (L : Nat → List α → Int → Option (List α)) (g : Nat → α)
    (h : ∀ k acc i, k < n + 1 → L (k + 1) acc i = if i < (n : Int) then (if 0 ≤ i then (if i < (acc.length : Int) then L k (acc.set i.toNat (g i.toNat)) (wrap64 (i + 1)) else none) else none) else some acc) :
    ∀ d k (i : Nat) (acc : List α), i + d = n → k = d + 1 → acc.length = n → (∀ j, j < i → acc[j]? = some (g j)) → ∃ r, L k acc (i : Int) = some r ∧ r.length = n ∧ ∀ j, j < n → r[j]? = some (g j) := by
  intro d
  induction d with
  | zero =>
    intro k i acc hi hk hl hp
    subst hk
    refine ⟨acc, ?_, hl, fun j hj => hp j (by omega)⟩
    rw [h _ _ _ (by omega), if_neg (by omega)]
  | succ d ih =>
    intro k i acc hi hk hl hp
    subst hk
    obtain ⟨r, hr, hrl, hrp⟩ := ih (d + 1) (i + 1) (acc.set i (g i)) (by omega) rfl (by simpa using hl) (fun j hj => by
      by_cases hji : j = i
      · subst hji
        simp [List.getElem?_set, hl]
        omega
      · rw [List.getElem?_set_ne (by omega)]
        exact hp j (by omega))
    refine ⟨r, ?_, hrl, hrp⟩
    rw [h _ _ _ (by omega), if_pos (by omega), if_pos (by omega), if_pos (by omega), wrap_id (by omega) (by omega)]
    simpa using hr
theorem rd_at (l : List Int) (i : Nat) (h : i < l.length) : l[i]? = some (rd l (i : Int)) := by
  unfold rd
  rw [List.getD_eq_getElem?_getD, Int.toNat_natCast, List.getElem?_eq_getElem h]
  rfl
/-! ### routes -/
theorem shl_pow (b : Int) (h0 : 0 ≤ b) (h1 : b ≤ 16) : 1 ≤ shl .i64 1 b ∧ shl .i64 1 b ≤ 65536 := by
  obtain ⟨n, rfl⟩ : ∃ n : Nat, b = (n : Int) := ⟨b.toNat, by omega⟩
  have hf : n = 0 ∨ n = 1 ∨ n = 2 ∨ n = 3 ∨ n = 4 ∨ n = 5 ∨ n = 6 ∨ n = 7 ∨ n = 8 ∨ n = 9 ∨ n = 10 ∨ n = 11 ∨ n = 12 ∨ n = 13 ∨ n = 14 ∨ n = 15 ∨ n = 16 := by omega
  rcases hf with rfl | rfl | rfl | rfl | rfl | rfl | rfl | rfl | rfl | rfl | rfl | rfl | rfl | rfl | rfl | rfl | rfl <;> decide
theorem routeOk_same (a b v r : Int) : ∃ t, spec_RouteOk.f a b v r = some t ∧ impl_RouteOk.f a b v r = some t := by
  simp only [spec_RouteOk.f, impl_RouteOk.f, spec_l6Rest.f, impl_word.f, inAll, inAll', Option.bind_some]
  by_cases c1 : 0 ≤ b ∧ b ≤ 16
  · rw [decide_eq_true c1]
    simp only [if_true]
    by_cases c2 : 0 ≤ a ∧ a ≤ 65535
    · rw [decide_eq_true c2]
      simp only [if_true]
      have e : wrap64 (16 - b) = 16 - b := by unfold wrap64; omega
      have hs := shl_pow (16 - b) (by omega) (by omega)
      rw [e]
      have g0 : 0 ≤ 16 - b := by omega
      simp only [if_pos g0, Option.bind_some]
      generalize shl .i64 1 (16 - b) = m at hs
      have g1 : ¬ m = 0 := by omega
      simp only [if_neg g1]
      by_cases c3 : a.tmod m = 0
      · simp only [if_pos c3]
        by_cases c4 : 0 ≤ v ∧ v ≤ 65535
        · rw [decide_eq_true c4]; exact ⟨_, by rw [if_pos rfl], by rw [if_pos rfl]⟩
        · rw [decide_eq_false c4]; exact ⟨false, by simp, by simp⟩
      · simp only [if_neg c3]; exact ⟨false, rfl, rfl⟩
    · rw [decide_eq_false c2]; exact ⟨false, by simp, by simp⟩
  · rw [decide_eq_false c1]; exact ⟨false, by simp, by simp⟩
theorem compare_is (a b : Int) : cmp_Compare_int.f a b = some (if a < b then -1 else if a > b then 1 else 0) := by
  simp only [cmp_Compare_int.f, cmp_isNaN_int.f, Option.bind_some, bne_self_eq_false, Bool.false_eq_true, if_false]
  by_cases h : a < b
  · rw [if_pos h, if_pos h]
  · rw [if_neg h, if_neg h]
    by_cases h' : a > b
    · rw [if_pos h', if_pos h']
    · rw [if_neg h', if_neg h']
theorem or_is (a b : Int) (k : Nat) : cmp_Or_int.f (k + 3) [a, b] = some (if a = 0 then b else a) := by
  have w1 : wrap64 (0 + 1) = 1 := by unfold wrap64; omega
  have w2 : wrap64 (1 + 1) = 2 := by unfold wrap64; omega
  simp only [cmp_Or_int.f, cmp_Or_int.l0, List.length_cons, List.length_nil, w1, w2]
  by_cases h : a = 0
  · by_cases h' : b = 0
    · simp [rd, h, h']
    · simp [rd, h, h']
  · simp [rd, h]
theorem order_is (a0 b0 v0 r0 a1 b1 v1 r1 : Int) (k : Nat) : ∃ o, impl_Route_order.f (k + 3) a0 b0 v0 r0 a1 b1 v1 r1 = some o ∧ (o ≥ 0 ↔ b0 > b1 ∨ b0 = b1 ∧ a0 ≥ a1) := by
  simp only [impl_Route_order.f, compare_is, or_is, Option.bind_some]
  refine ⟨_, rfl, ?_⟩
  by_cases h1 : b0 < b1
  · rw [if_pos h1]; simp; omega
  · rw [if_neg h1]
    by_cases h2 : b0 > b1
    · rw [if_pos h2]; simp; omega
    · rw [if_neg h2, if_pos rfl]
      by_cases h3 : a0 < a1
      · rw [if_pos h3]; simp; omega
      · rw [if_neg h3]
        by_cases h4 : a0 > a1
        · rw [if_pos h4]; simp; omega
        · rw [if_neg h4]; simp; omega
theorem routes_loops (l : List S118) (hl : l.length ≤ 1048576) :
    ∀ d k (i : Nat), i + d = l.length → d + 3 < k → ∃ t, spec_RoutesOk.l0 k l (i : Int) = some t ∧ impl_RoutesOk.l0 k l l (l.length : Int) (i : Int) = some t := by
  intro d
  induction d with
  | zero =>
    intro k i hi hk
    obtain ⟨k, rfl⟩ : ∃ m, k = m + 1 := ⟨k - 1, by omega⟩
    refine ⟨decide ((l.length : Int) ≤ 8), ?_, ?_⟩
    · rw [spec_RoutesOk.l0, if_neg (by omega)]
    · rw [impl_RoutesOk.l0, if_neg (by omega)]
  | succ d ih =>
    intro k i hi hk
    obtain ⟨k, rfl⟩ : ∃ m, k = m + 1 := ⟨k - 1, by omega⟩
    obtain ⟨t, ht1, ht2⟩ := ih k (i + 1) (by omega) (by omega)
    rw [spec_RoutesOk.l0, impl_RoutesOk.l0]
    have g1 : (i : Int) < (l.length : Int) := by omega
    have g0 : 0 ≤ (i : Int) := by omega
    simp only [if_pos g1, if_pos g0]
    have e7 : wrap64 ((i : Int) + 1) = ((i + 1 : Nat) : Int) := by unfold wrap64; omega
    have e8 : wrap64 ((i : Int) - 1) = (i : Int) - 1 := by unfold wrap64; omega
    rw [e7, e8]
    generalize rd_T118 l (i : Int) = x
    generalize rd_T118 l ((i : Int) - 1) = y
    obtain ⟨u, hu1, hu2⟩ := routeOk_same x.f0 x.f1 x.f2 x.f3
    rw [hu1, hu2, Option.bind_some, Option.bind_some]
    cases u
    · exact ⟨false, by simp, by simp⟩
    · simp only [if_true]
      by_cases c3 : (i : Int) > 0
      · have g2 : 0 ≤ (i : Int) - 1 := by omega
        have g3 : (i : Int) - 1 < (l.length : Int) := by omega
        simp only [if_pos c3, if_pos g2, if_pos g3]
        obtain ⟨k', rfl⟩ : ∃ m, k = m + 3 := ⟨k - 3, by omega⟩
        obtain ⟨o, ho, hoo⟩ := order_is y.f0 y.f1 y.f2 y.f3 x.f0 x.f1 x.f2 x.f3 k'
        rw [ho, Option.bind_some]
        by_cases c4 : y.f1 > x.f1
        · rw [if_pos c4, if_pos (hoo.2 (Or.inl c4))]; exact ⟨false, rfl, rfl⟩
        · rw [if_neg c4]
          by_cases c5 : y.f1 = x.f1
          · rw [if_pos c5]
            by_cases c6 : y.f0 ≥ x.f0
            · rw [if_pos c6, if_pos (hoo.2 (Or.inr ⟨c5, c6⟩))]; exact ⟨false, rfl, rfl⟩
            · rw [if_neg c6, if_neg (fun h => by rcases hoo.1 h with h | h <;> omega)]; exact ⟨t, ht1, ht2⟩
          · rw [if_neg c5, if_neg (fun h => by rcases hoo.1 h with h | h <;> omega)]; exact ⟨t, ht1, ht2⟩
      · rw [if_neg c3, if_neg c3]; exact ⟨t, ht1, ht2⟩
theorem routesOk_same (l : List S118) (hl : l.length ≤ 1048576) (k : Nat) (hk : l.length + 3 < k) : ∃ t, spec_RoutesOk.f k l = some t ∧ impl_RoutesOk.f k l = some t :=
  routes_loops l hl l.length k 0 (by omega) hk
/-! ### a route put into a row of routes -/
theorem put_loop (l : List S118) (hl : l.length ≤ 100) (a b c d : Int) : ∀ n k (i : Nat) (acc : List S118) (done : Bool), i + n = l.length → 2 * n + 110 < k → acc.length ≤ 2 * i →
    Tot (fun r : List S118 × Bool => r.1.length ≤ 8) (spec_RoutePut.l0 k l acc done (i : Int) a b c d) := by
  intro n
  induction n with
  | zero =>
    intro k i acc done hi hk ha
    obtain ⟨k, rfl⟩ : ∃ q, k = q + 2 := ⟨k - 2, by omega⟩
    have fin : ∀ acc : List S118, Tot (fun r : List S118 × Bool => r.1.length ≤ 8) (spec_RoutePut.j2 (k + 1) l acc a b c d) := by
      intro acc
      rw [spec_RoutePut.j2]
      obtain ⟨t, h1, _⟩ := routesOk_same l (by omega) k (by omega)
      obtain ⟨u, h2, _⟩ := routeOk_same a b c d
      rw [h1, Option.bind_some, h2, Option.bind_some]
      refine tot_ite (fun _ => tot_ite (fun _ => tot_ite (fun _ => tot_some (by simp)) (fun h => tot_some (by dsimp only; omega))) (fun _ => tot_some (by simp))) (fun _ => tot_some (by simp))
    rw [spec_RoutePut.l0, if_neg (by omega)]
    refine tot_ite (fun _ => fin _) (fun _ => ?_)
    rw [if_pos (by omega)]
    exact fin _
  | succ n ih =>
    intro k i acc done hi hk ha
    obtain ⟨k, rfl⟩ : ∃ q, k = q + 2 := ⟨k - 2, by omega⟩
    have e : wrap64 ((i : Int) + 1) = ((i + 1 : Nat) : Int) := by rw [wrap_id (by omega) (by omega)]; omega
    have go : ∀ (acc : List S118) (done : Bool), acc.length ≤ 2 * (i + 1) → Tot (fun r : List S118 × Bool => r.1.length ≤ 8) (spec_RoutePut.l0 k l acc done (wrap64 ((i : Int) + 1)) a b c d) := by
      intro acc done h
      rw [e]
      exact ih k (i + 1) acc done (by omega) (by omega) h
    have j1 : ∀ (x : Bool) (u v w z : Int), Tot (fun r : List S118 × Bool => r.1.length ≤ 8) (spec_RoutePut.j1 (k + 1) l acc done (i : Int) x a b c d u v w z) := by
      intro x u v w z
      rw [spec_RoutePut.j1]
      refine tot_ite (fun _ => ?_) (fun _ => ?_)
      · rw [if_pos (by omega), Option.bind_some]
        have h1 : (acc ++ [(⟨a, b, c, d⟩ : S118)]).length ≤ 2 * i + 1 := by simp; omega
        refine tot_ite (fun _ => tot_ite (fun _ => go _ _ (by omega)) (fun _ => ?_)) (fun _ => ?_)
        · rw [if_pos (by omega)]; exact go _ _ (by rw [List.length_append]; simp only [List.length_cons, List.length_nil]; omega)
        · rw [if_pos (by omega)]; exact go _ _ (by rw [List.length_append]; simp only [List.length_cons, List.length_nil]; omega)
      · refine tot_ite (fun _ => tot_ite (fun _ => go _ _ (by omega)) (fun _ => ?_)) (fun _ => ?_)
        · rw [if_pos (by omega)]; exact go _ _ (by rw [List.length_append]; simp only [List.length_cons, List.length_nil]; omega)
        · rw [if_pos (by omega)]; exact go _ _ (by rw [List.length_append]; simp only [List.length_cons, List.length_nil]; omega)
    rw [spec_RoutePut.l0, if_pos (by omega), if_pos (by omega)]
    exact tot_ite (fun _ => j1 _ _ _ _ _) (fun _ => tot_ite (fun _ => j1 _ _ _ _ _) (fun _ => tot_ite (fun _ => j1 _ _ _ _ _) (fun _ => j1 _ _ _ _ _)))
/-! ### nets -/
abbrev RT := S118
abbrev SN := S79
theorem routes_uni (l : List RT) (hl : l.length ≤ 1048576) :
    ∀ d (i : Nat), i + d = l.length → ∃ t, ∀ k, d + 3 < k → spec_RoutesOk.l0 k l (i : Int) = some t ∧ impl_RoutesOk.l0 k l l (l.length : Int) (i : Int) = some t := by
  intro d
  induction d with
  | zero =>
    intro i hi
    refine ⟨decide ((l.length : Int) ≤ 8), fun k hk => ?_⟩
    obtain ⟨k, rfl⟩ : ∃ m, k = m + 1 := ⟨k - 1, by omega⟩
    refine ⟨?_, ?_⟩
    · rw [spec_RoutesOk.l0, if_neg (by omega)]
    · rw [impl_RoutesOk.l0, if_neg (by omega)]
  | succ d ih =>
    intro i hi
    obtain ⟨t, ht⟩ := ih (i + 1) (by omega)
    have e7 : wrap64 ((i : Int) + 1) = ((i + 1 : Nat) : Int) := by unfold wrap64; omega
    have e8 : wrap64 ((i : Int) - 1) = (i : Int) - 1 := by unfold wrap64; omega
    generalize hx : rd_T118 l (i : Int) = x
    generalize hy : rd_T118 l ((i : Int) - 1) = y
    obtain ⟨u, hu1, hu2⟩ := routeOk_same x.f0 x.f1 x.f2 x.f3
    have g1 : (i : Int) < (l.length : Int) := by omega
    have g0 : 0 ≤ (i : Int) := by omega
    have un : ∀ m, spec_RoutesOk.l0 (m + 1) l (i : Int) = if u = true then (if (i : Int) > 0 then (if 0 ≤ (i : Int) - 1 then (if (i : Int) - 1 < (l.length : Int) then (if y.f1 > x.f1 then some false else if y.f1 = x.f1 then (if y.f0 ≥ x.f0 then some false else spec_RoutesOk.l0 m l ((i + 1 : Nat) : Int)) else spec_RoutesOk.l0 m l ((i + 1 : Nat) : Int)) else none) else none) else spec_RoutesOk.l0 m l ((i + 1 : Nat) : Int)) else some false := by
      intro m
      rw [spec_RoutesOk.l0, if_pos g1, if_pos g0, e7, e8, hx, hy, hu1, Option.bind_some]
    have im : ∀ m, impl_RoutesOk.l0 (m + 1) l l (l.length : Int) (i : Int) = if u = true then (if (i : Int) > 0 then (if 0 ≤ (i : Int) - 1 then (if (i : Int) - 1 < (l.length : Int) then ((impl_Route_order.f m y.f0 y.f1 y.f2 y.f3 x.f0 x.f1 x.f2 x.f3).bind fun o => if o ≥ 0 then some false else impl_RoutesOk.l0 m l l (l.length : Int) ((i + 1 : Nat) : Int)) else none) else none) else impl_RoutesOk.l0 m l l (l.length : Int) ((i + 1 : Nat) : Int)) else some false := by
      intro m
      rw [impl_RoutesOk.l0, if_pos g1, if_pos g0, if_pos g1, e7, e8, hx, hy, hu2, Option.bind_some]
    cases u
    · refine ⟨false, fun k hk => ?_⟩
      obtain ⟨k, rfl⟩ : ∃ m, k = m + 1 := ⟨k - 1, by omega⟩
      rw [un, im]
      exact ⟨by simp, by simp⟩
    · by_cases c3 : (i : Int) > 0
      · have g2 : 0 ≤ (i : Int) - 1 := by omega
        have g3 : (i : Int) - 1 < (l.length : Int) := by omega
        by_cases c7 : y.f1 > x.f1 ∨ y.f1 = x.f1 ∧ y.f0 ≥ x.f0
        · refine ⟨false, fun k hk => ?_⟩
          obtain ⟨k, rfl⟩ : ∃ m, k = m + 3 + 1 := ⟨k - 4, by omega⟩
          obtain ⟨o, ho, hoo⟩ := order_is y.f0 y.f1 y.f2 y.f3 x.f0 x.f1 x.f2 x.f3 k
          rw [un, im, ho, Option.bind_some, if_pos rfl, if_pos rfl, if_pos c3, if_pos c3, if_pos g2, if_pos g2, if_pos g3, if_pos g3, if_pos (hoo.2 c7)]
          refine ⟨?_, rfl⟩
          rcases c7 with h | ⟨h, h'⟩
          · rw [if_pos h]
          · rw [if_neg (by omega), if_pos h, if_pos h']
        · refine ⟨t, fun k hk => ?_⟩
          obtain ⟨k, rfl⟩ : ∃ m, k = m + 3 + 1 := ⟨k - 4, by omega⟩
          obtain ⟨o, ho, hoo⟩ := order_is y.f0 y.f1 y.f2 y.f3 x.f0 x.f1 x.f2 x.f3 k
          obtain ⟨t1, t2⟩ := ht (k + 3) (by omega)
          rw [un, im, ho, Option.bind_some, if_pos rfl, if_pos rfl, if_pos c3, if_pos c3, if_pos g2, if_pos g2, if_pos g3, if_pos g3, if_neg (fun h => c7 (hoo.1 h))]
          refine ⟨?_, t2⟩
          rw [if_neg (by omega)]
          by_cases h : y.f1 = x.f1
          · rw [if_pos h, if_neg (by omega)]; exact t1
          · rw [if_neg h]; exact t1
      · refine ⟨t, fun k hk => ?_⟩
        obtain ⟨k, rfl⟩ : ∃ m, k = m + 1 := ⟨k - 1, by omega⟩
        obtain ⟨t1, t2⟩ := ht k (by omega)
        rw [un, im, if_pos rfl, if_pos rfl, if_neg c3, if_neg c3]
        exact ⟨t1, t2⟩
theorem station_uni (a : Int) (l : List RT) (hl : l.length ≤ 1048576) : ∃ t, ∀ k, l.length + 3 < k → spec_StationOk.f k a l = some t ∧ impl_StationOk.f k a l = some t := by
  obtain ⟨t, ht⟩ := routes_uni l hl l.length 0 (by omega)
  by_cases c : 0 ≤ a ∧ a ≤ 65535
  · refine ⟨t, fun k hk => ?_⟩
    obtain ⟨h1, h2⟩ := ht k hk
    simp only [spec_StationOk.f, impl_StationOk.f, impl_word.f, inAll, inAll', Option.bind_some, decide_eq_true c, if_true]
    rw [show spec_RoutesOk.f k l = some t from h1, show impl_RoutesOk.f k l = some t from h2]
    exact ⟨rfl, rfl⟩
  · refine ⟨false, fun k hk => ?_⟩
    simp only [spec_StationOk.f, impl_StationOk.f, impl_word.f, inAll, inAll', Option.bind_some, decide_eq_false c, Bool.false_eq_true, if_false]
    exact ⟨trivial, trivial⟩
/-- A station that is ok. -/
def SOk (x : SN) : Prop := ∀ k, x.f1.length + 3 < k → impl_StationOk.f k x.f0 x.f1 = some true
def NOk (l : List SN) (i : Nat) : Prop := l.length ≤ 5 ∧ ∀ j, i ≤ j → j < l.length → SOk (rd_T79 l (j : Int)) ∧ ∀ m, m < j → (rd_T79 l (m : Int)).f0 ≠ (rd_T79 l (j : Int)).f0
theorem net_inner (l : List SN) (hl : l.length ≤ 1048576) (i : Nat) (hi : i < l.length) (a : Int) (ha : (rd_T79 l (i : Int)).f0 = a) : ∀ d j, j + d = i →
    (impl_stationAt.at_ a (l.drop j) j < (i : Int) ∧ (∃ m, j ≤ m ∧ m < i ∧ (rd_T79 l (m : Int)).f0 = a) ∧ ∀ k, d + 1 < k → spec_NetOk.l1 k l (i : Int) (j : Int) = some false) ∨
    (¬ impl_stationAt.at_ a (l.drop j) j < (i : Int) ∧ (∀ m, j ≤ m → m < i → (rd_T79 l (m : Int)).f0 ≠ a) ∧ ∀ k, spec_NetOk.l1 (k + d + 1) l (i : Int) (j : Int) = spec_NetOk.l0 k l ((i + 1 : Nat) : Int)) := by
  intro d
  induction d with
  | zero =>
    intro j hj
    obtain rfl : j = i := by omega
    right
    refine ⟨?_, fun m h1 h2 => by omega, fun k => ?_⟩
    · rw [impl_stationAt.step a l j j hi, if_pos ha]; omega
    · rw [spec_NetOk.l1, if_neg (by omega), wrap_id (n := (j : Int) + 1) (by omega) (by omega), show (j : Int) + 1 = ((j + 1 : Nat) : Int) by omega]
  | succ d ih =>
    intro j hj
    by_cases hx : (rd_T79 l (j : Int)).f0 = a
    · left
      refine ⟨?_, ⟨j, by omega, by omega, hx⟩, fun k hk => ?_⟩
      · rw [impl_stationAt.step a l j j (by omega), if_pos hx]; omega
      · obtain ⟨k, rfl⟩ : ∃ q, k = q + 1 := ⟨k - 1, by omega⟩
        rw [spec_NetOk.l1, if_pos (by omega), if_pos (by omega), if_pos (by omega), if_pos (by omega), if_pos (by omega), if_pos (by rw [hx, ha])]
    · have e1 : ∀ k, spec_NetOk.l1 (k + 1) l (i : Int) (j : Int) = spec_NetOk.l1 k l (i : Int) ((j + 1 : Nat) : Int) := by
        intro k
        rw [spec_NetOk.l1, if_pos (by omega), if_pos (by omega), if_pos (by omega), if_pos (by omega), if_pos (by omega), if_neg (by rw [ha]; exact hx), wrap_id (n := (j : Int) + 1) (by omega) (by omega), show (j : Int) + 1 = ((j + 1 : Nat) : Int) by omega]
      have e2 : impl_stationAt.at_ a (l.drop j) j = impl_stationAt.at_ a (l.drop (j + 1)) (j + 1) := by
        rw [impl_stationAt.step a l j j (by omega), if_neg hx]
      rcases ih (j + 1) (by omega) with ⟨h1, ⟨m, m1, m2, m3⟩, h3⟩ | ⟨h1, h2, h3⟩
      · left
        refine ⟨by rw [e2]; exact h1, ⟨m, by omega, m2, m3⟩, fun k hk => ?_⟩
        obtain ⟨k, rfl⟩ : ∃ q, k = q + 1 := ⟨k - 1, by omega⟩
        rw [e1]
        exact h3 k (by omega)
      · right
        refine ⟨by rw [e2]; exact h1, fun m m1 m2 => ?_, fun k => ?_⟩
        · by_cases hm : m = j
          · subst hm; exact hx
          · exact h2 m (by omega) m2
        · rw [show k + (d + 1) + 1 = (k + d + 1) + 1 by omega, e1]
          exact h3 k
theorem net_loop (l : List SN) (hl : l.length ≤ 1048576) (R : Nat) (hR : ∀ j, j < l.length → (rd_T79 l (j : Int)).f1.length ≤ R) (hR' : R ≤ 1048576) : ∀ d i, i + d = l.length →
    ∃ t, (t = true ↔ NOk l i) ∧ ∀ k, (d + 1) * (l.length + 3) + R + 10 < k → spec_NetOk.l0 k l (i : Int) = some t ∧ impl_NetOk.l0 k l l (l.length : Int) (i : Int) = some t := by
  intro d
  induction d with
  | zero =>
    intro i hi
    refine ⟨decide ((l.length : Int) ≤ 5), ?_, fun k hk => ?_⟩
    · rw [decide_eq_true_iff]
      exact ⟨fun h => ⟨by omega, fun j h1 h2 => by omega⟩, fun h => by have := h.1; omega⟩
    · obtain ⟨k, rfl⟩ : ∃ q, k = q + 1 := ⟨k - 1, by omega⟩
      rw [spec_NetOk.l0, if_neg (by omega), impl_NetOk.l0, if_neg (by omega)]
      exact ⟨rfl, rfl⟩
  | succ d ih =>
    intro i hi
    have hm : (d + 1 + 1) * (l.length + 3) = (d + 1) * (l.length + 3) + (l.length + 3) := by rw [Nat.succ_mul]
    obtain ⟨t, hn, ht⟩ := ih (i + 1) (by omega)
    have hr := hR i (by omega)
    obtain ⟨u, hu⟩ := station_uni (rd_T79 l (i : Int)).f0 (rd_T79 l (i : Int)).f1 (by omega)
    have e7 : wrap64 ((i : Int) + 1) = ((i + 1 : Nat) : Int) := by rw [wrap_id (by omega) (by omega)]; omega
    cases u
    · refine ⟨false, ⟨fun h => (by cases h), fun h => ?_⟩, fun k hk => ?_⟩
      · have := (h.2 i (Nat.le_refl _) (by omega)).1 ((rd_T79 l (i : Int)).f1.length + 4) (by omega)
        rw [(hu _ (by omega)).2] at this
        cases this
      · obtain ⟨k, rfl⟩ : ∃ q, k = q + 1 := ⟨k - 1, by omega⟩
        obtain ⟨h1, h2⟩ := hu k (by omega)
        rw [spec_NetOk.l0, if_pos (by omega), if_pos (by omega), h1, impl_NetOk.l0, if_pos (by omega), if_pos (by omega), if_pos (by omega), h2]
        exact ⟨rfl, rfl⟩
    · have hso : SOk (rd_T79 l (i : Int)) := fun k hk => (hu k hk).2
      rcases net_inner l hl i (by omega) _ rfl i 0 (by omega) with ⟨h1, ⟨m, _, m2, m3⟩, h3⟩ | ⟨h1, h2, h3⟩
      · refine ⟨false, ⟨fun h => (by cases h), fun h => absurd m3 ((h.2 i (Nat.le_refl _) (by omega)).2 m m2)⟩, fun k hk => ?_⟩
        obtain ⟨k, rfl⟩ : ∃ q, k = q + 1 := ⟨k - 1, by omega⟩
        obtain ⟨s1, s2⟩ := hu k (by omega)
        rw [List.drop_zero] at h1
        rw [spec_NetOk.l0, if_pos (by omega), if_pos (by omega), s1, impl_NetOk.l0, if_pos (by omega), if_pos (by omega), if_pos (by omega), s2]
        simp only [Option.bind_some, if_true, impl_stationAt.f]
        rw [if_pos h1]
        exact ⟨h3 k (by omega), rfl⟩
      · refine ⟨t, ?_, fun k hk => ?_⟩
        · rw [hn]
          constructor
          · intro h
            refine ⟨h.1, fun j j1 j2 => ?_⟩
            by_cases hj : j = i
            · subst hj
              exact ⟨hso, fun m hm => h2 m (by omega) hm⟩
            · exact h.2 j (by omega) j2
          · intro h
            exact ⟨h.1, fun j j1 j2 => h.2 j (by omega) j2⟩
        · obtain ⟨k, rfl⟩ : ∃ q, k = q + i + 1 + 1 := ⟨k - (i + 2), by omega⟩
          obtain ⟨s1, s2⟩ := hu (k + i + 1) (by omega)
          obtain ⟨t1, _⟩ := ht k (by omega)
          obtain ⟨_, t2⟩ := ht (k + i + 1) (by omega)
          rw [List.drop_zero] at h1
          rw [spec_NetOk.l0, if_pos (by omega), if_pos (by omega), s1, impl_NetOk.l0, if_pos (by omega), if_pos (by omega), if_pos (by omega), s2]
          simp only [Option.bind_some, if_true, impl_stationAt.f]
          rw [if_neg h1, e7]
          exact ⟨(h3 k).trans t1, t2⟩
theorem net_same (l : List SN) (hl : l.length ≤ 1048576) (R : Nat) (hR : ∀ j, j < l.length → (rd_T79 l (j : Int)).f1.length ≤ R) (hR' : R ≤ 1048576) :
    ∃ t, (t = true ↔ NOk l 0) ∧ ∀ k, (l.length + 1) * (l.length + 3) + R + 10 < k → spec_NetOk.f k l = some t ∧ impl_NetOk.f k l = some t := net_loop l hl R hR hR' l.length 0 (by omega)
/-! ### a drawn net -/
def NQ (r : List SN × Int) : Prop := r.1.length ≤ 6 ∧ ∀ x ∈ r.1, x.f1.length ≤ 8
theorem put_tot (l : List RT) (hl : l.length ≤ 8) (a b c d : Int) {k : Nat} (hk : 200 < k) : Tot (fun r : List RT × Bool => r.1.length ≤ 8) (spec_RoutePut.f k l a b c d) :=
  put_loop l (by omega) a b c d l.length k 0 [] false (by omega) (by omega) (by simp)
theorem net_l1 {s : List Int} (hs : Code s) (z m : Int) (hm : 1 ≤ m ∧ m ≤ 5) (acc : List SN) (x7 : Int) (h7 : 0 ≤ x7 ∧ x7 < m) (hacc : acc.length = x7.toNat) (hq : ∀ x ∈ acc, x.f1.length ≤ 8) (D : Nat)
    (hl0 : ∀ (k : Nat) (acc : List SN) (p : Int), 100 * D + 1000 < k → 0 ≤ p → p + 1000 * D ≤ 500000000 → acc.length = (x7 + 1).toNat → (∀ x ∈ acc, x.f1.length ≤ 8) → Tot NQ (spec_l20Net.l0 k z m acc (x7 + 1) s p)) (a : Int) :
    ∀ (d : Nat) (k : Nat) (j p : Int) (rt : List RT), j + d = m → 0 ≤ j → 4 * d + 100 * D + 1010 < k → 0 ≤ p → p + 10 * d + 20 + 1000 * D ≤ 500000000 → rt.length ≤ 8 → Tot NQ (spec_l20Net.l1 k z m acc x7 j s p a rt) := by
  intro d
  induction d with
  | zero =>
    intro k j p rt hj h0 hk p0 p1 hrt
    obtain ⟨k, rfl⟩ : ∃ q, k = q + 1 := ⟨k - 1, by omega⟩
    have e7 : wrap64 (x7 + 1) = x7 + 1 := wrap_id (by omega) (by omega)
    have fin : ∀ (rt : List RT) (p' : Int), rt.length ≤ 8 → p ≤ p' → p' ≤ p + 10 → Tot NQ (spec_l20Net.l0 k z m (acc ++ [(⟨a, rt⟩ : SN)]) (x7 + 1) s p') := by
      intro rt p' hr q0 q1
      refine hl0 k _ p' (by omega) (by omega) (by omega) (by simp; omega) (fun x hx => ?_)
      rcases List.mem_append.1 hx with hx | hx
      · exact hq x hx
      · obtain rfl : x = _ := List.mem_singleton.1 hx
        exact hr
    rw [spec_l20Net.l1, if_neg (by omega), e7]
    refine tot_pick hs (by omega) (by omega) (by omega) (by omega) ?_; intro b b0 b1; dsimp only
    refine tot_ite (fun _ => ?_) (fun _ => ?_)
    · refine tot_pick hs (by omega) (by omega) (by omega) (by omega) ?_; intro c c0 c1; dsimp only
      refine tot_bind (put_tot rt hrt _ _ _ _ (by omega)) (fun r hr => ?_)
      rw [if_pos (by omega)]
      exact fin _ _ hr (by omega) (by omega)
    · rw [if_pos (by omega)]
      exact fin _ _ hrt (by omega) (by omega)
  | succ d ih =>
    intro k j p rt hj h0 hk p0 p1 hrt
    obtain ⟨k, rfl⟩ : ∃ q, k = q + 3 := ⟨k - 3, by omega⟩
    have ej : wrap64 (j + 1) = j + 1 := wrap_id (by omega) (by omega)
    have go : ∀ (k' : Nat) (rt : List RT) (p' : Int), k ≤ k' → rt.length ≤ 8 → p ≤ p' → p' ≤ p + 10 → Tot NQ (spec_l20Net.l1 k' z m acc x7 (wrap64 (j + 1)) s p' a rt) := by
      intro k' rt p' hk' hr q0 q1
      rw [ej]
      exact ih k' (j + 1) p' rt (by omega) (by omega) (by omega) (by omega) (by omega) hr
    have g3 : ∀ (v p' : Int), p ≤ p' → p' ≤ p + 1 → Tot NQ (spec_l20Net.j3 (k + 1) z m acc x7 j v s p' a rt) := by
      intro v p' q0 q1
      rw [spec_l20Net.j3]
      refine tot_pick hs (by omega) (by omega) (by omega) (by omega) ?_; intro b b0 b1; dsimp only
      refine tot_ite (fun _ => ?_) (fun _ => ?_)
      · refine tot_pick hs (by omega) (by omega) (by omega) (by rw [wrap_id (by omega) (by omega)]; omega) ?_; intro c c0 c1; dsimp only
        refine tot_pick hs (by omega) (by omega) (by omega) (by omega) ?_; intro e e0 e1; dsimp only
        refine tot_bind (put_tot rt hrt _ _ _ _ (by omega)) (fun r hr => ?_)
        exact go k _ _ (Nat.le_refl _) hr (by omega) (by omega)
      · refine tot_pick hs (by omega) (by omega) (by omega) (by omega) ?_; intro e e0 e1; dsimp only
        refine tot_bind (put_tot rt hrt _ _ _ _ (by omega)) (fun r hr => ?_)
        exact go k _ _ (Nat.le_refl _) hr (by omega) (by omega)
    have g2 : ∀ (b : Bool) (p' : Int), p ≤ p' → p' ≤ p + 1 → Tot NQ (spec_l20Net.j2 (k + 2) z m acc x7 j b s p' a rt) := by
      intro b p' q0 q1
      rw [spec_l20Net.j2]
      exact tot_ite (fun _ => tot_ite (fun _ => g3 _ _ q0 q1) (fun _ => g3 _ _ q0 q1)) (fun _ => go (k + 1) rt p' (by omega) hrt q0 (by omega))
    rw [spec_l20Net.l1, if_pos (by omega)]
    refine tot_ite (fun _ => g2 _ _ (by omega) (by omega)) (fun _ => ?_)
    refine tot_pick hs (by omega) (by omega) (by omega) (by omega) ?_; intro b b0 b1; dsimp only
    exact g2 _ _ (by omega) (by omega)
theorem net_l0 {s : List Int} (hs : Code s) (z m : Int) (hm : 1 ≤ m ∧ m ≤ 5) : ∀ (D : Nat) (k : Nat) (x7 : Int) (acc : List SN) (p : Int), x7 + D = m → 0 ≤ x7 → 100 * D + 1000 < k → 0 ≤ p → p + 1000 * D ≤ 500000000 → acc.length = x7.toNat → (∀ x ∈ acc, x.f1.length ≤ 8) →
    Tot NQ (spec_l20Net.l0 k z m acc x7 s p) := by
  intro D
  induction D with
  | zero =>
    intro k x7 acc p h7 h0 hk p0 p1 ha hq
    obtain ⟨k, rfl⟩ : ∃ q, k = q + 1 := ⟨k - 1, by omega⟩
    rw [spec_l20Net.l0, if_neg (by omega)]
    refine tot_odd hs (by omega) (by omega) (by omega) ?_; intro o p3 q5 q6; dsimp only
    refine tot_ite (fun _ => ?_) (fun _ => tot_some ⟨by dsimp only; omega, hq⟩)
    rw [if_pos (by omega), if_pos (by omega)]
    refine tot_some ⟨by simp; omega, fun x hx => ?_⟩
    rcases List.mem_append.1 hx with hx | hx
    · exact hq x hx
    · obtain rfl : x = _ := List.mem_singleton.1 hx
      have : rd_T79 acc (0 : Int) ∈ acc := by
        have e : rd_T79 acc (0 : Int) = acc[0]'(by omega) := by simp [rd_T79, List.getD_eq_getElem?_getD, List.getElem?_eq_getElem (show 0 < acc.length by omega)]
        rw [e]
        exact List.getElem_mem _
      exact hq _ this
  | succ D ih =>
    intro k x7 acc p h7 h0 hk p0 p1 ha hq
    obtain ⟨k, rfl⟩ : ∃ q, k = q + 1 := ⟨k - 1, by omega⟩
    rw [spec_l20Net.l0, if_pos (by omega)]
    exact net_l1 hs z m hm acc x7 ⟨h0, by omega⟩ ha hq D (fun k acc p a1 a2 a3 a4 a5 => ih k (x7 + 1) acc p (by omega) (by omega) a1 a2 a3 a4 a5) _ m.toNat k 0 p [] (by omega) (by omega) (by omega) p0 (by omega) (by simp)
theorem net_tot {s : List Int} (hs : Code s) {k : Nat} (hk : 1600 < k) {p z : Int} (h0 : 0 ≤ p) (h1 : p ≤ 400000000) : Tot NQ (spec_l20Net.f k s p z) := by
  unfold spec_l20Net.f
  refine tot_pick hs (by omega) (by omega) (by omega) (by omega) ?_; intro a a0 a1; dsimp only
  rw [wrap_id (n := 1 + a) (by omega) (by omega)]
  exact net_l0 hs z (1 + a) (by omega) (1 + a).toNat k 0 [] (p + 1) (by omega) (by omega) (by omega) (by omega) (by omega) (by simp) (fun x hx => by cases hx)
theorem draw_tot (l : List Int) (hw : ∀ x ∈ l, (Lit.int .u8 x).wf = true) : Tot (fun r : List SN => r.length ≤ 6 ∧ ∀ x ∈ r, x.f1.length ≤ 8) (spec_DrawNetOk.f 2000 l) := by
  obtain ⟨s, hs, hc⟩ := open_some l hw
  unfold spec_DrawNetOk.f
  rw [hs, Option.bind_some]
  exact tot_bind (net_tot hc (by omega) (by dsimp only; omega) (by dsimp only; omega)) (fun r hr => tot_some hr)
theorem rd_take (l : List SN) (n j : Nat) (h : j < n) (hn : n ≤ l.length) : rd_T79 (l.take n) (j : Int) = rd_T79 l (j : Int) := by
  simp [rd_T79, List.getD_eq_getElem?_getD, List.getElem?_take, h]
theorem nok_take (l : List SN) (n : Nat) (hn : n ≤ l.length) (h : NOk l 0) : NOk (l.take n) 0 := by
  have hl : (l.take n).length = n := by rw [List.length_take]; omega
  refine ⟨by have := h.1; omega, fun j _ j2 => ?_⟩
  rw [hl] at j2
  obtain ⟨h1, h2⟩ := h.2 j (Nat.zero_le _) (by omega)
  rw [rd_take l n j j2 hn]
  refine ⟨h1, fun m hm => ?_⟩
  rw [rd_take l n m (by omega) hn]
  exact h2 m hm
theorem mem_rd (l : List SN) (j : Nat) (h : j < l.length) : rd_T79 l (j : Int) ∈ l := by
  have e : rd_T79 l (j : Int) = l[j] := by simp [rd_T79, List.getD_eq_getElem?_getD, List.getElem?_eq_getElem h]
  rw [e]
  exact List.getElem_mem _
theorem small (l : List SN) (hl : l.length ≤ 6) (hr : ∀ x ∈ l, x.f1.length ≤ 8) : ∃ t, (t = true ↔ NOk l 0) ∧ ∀ k, 100 < k → spec_NetOk.f k l = some t ∧ impl_NetOk.f k l = some t := by
  obtain ⟨t, h1, h2⟩ := net_same l (by omega) 8 (fun j hj => hr _ (mem_rd l j hj)) (by omega)
  refine ⟨t, h1, fun k hk => h2 k ?_⟩
  have : (l.length + 1) * (l.length + 3) ≤ 7 * 9 := Nat.mul_le_mul (by omega) (by omega)
  omega
theorem law_loop (l : List SN) (hl : l.length ≤ 6) (hr : ∀ x ∈ l, x.f1.length ≤ 8) (t : Bool) (ht : t = true → NOk l 0) : ∀ d (i k : Nat), i + d = l.length → 2 * d + 200 < k → laws_FnNetOk.l0 k l t (i : Int) = some true := by
  have hend : ∀ (k : Nat) (i : Int), 150 < k → laws_FnNetOk.j1 k l t i false = some true := by
    intro k i hk
    obtain ⟨k, rfl⟩ : ∃ q, k = q + 4 := ⟨k - 4, by omega⟩
    obtain ⟨u, h1, h2⟩ := small [] (by simp) (fun x hx => by cases hx)
    have hu : u = true := h1.2 ⟨by simp, fun j _ hj => by simp at hj⟩
    rw [laws_FnNetOk.j1, if_neg (by simp), (h2 (k + 3) (by omega)).2, hu, Option.bind_some, if_pos rfl, alive_true k, Option.bind_some]
  intro d
  induction d with
  | zero =>
    intro i k hi hk
    obtain ⟨k, rfl⟩ : ∃ q, k = q + 1 := ⟨k - 1, by omega⟩
    rw [laws_FnNetOk.l0, if_neg (by omega)]
    exact hend k _ (by omega)
  | succ d ih =>
    intro i k hi hk
    obtain ⟨k, rfl⟩ : ∃ q, k = q + 2 := ⟨k - 2, by omega⟩
    rw [laws_FnNetOk.l0, if_pos (by omega)]
    cases t
    · exact hend (k + 1) _ (by omega)
    · have hN := nok_take l i (by omega) (ht rfl)
      have hlt : (l.take i).length = i := by rw [List.length_take]; omega
      obtain ⟨u, h1, h2⟩ := small (l.take i) (by omega) (fun x hx => hr x (List.mem_of_mem_take hx))
      have hu : u = true := h1.2 hN
      rw [laws_FnNetOk.j1, if_pos rfl, Option.bind_some, if_pos (by omega), if_pos (by omega), Option.bind_some, Int.toNat_natCast, List.length_nil, if_pos (by omega), List.nil_append, (h2 k (by omega)).2, hu, Option.bind_some, if_pos rfl, wrap_id (by omega) (by omega), show (i : Int) + 1 = ((i + 1 : Nat) : Int) by omega]
      exact ih (i + 1) k (by omega) (by omega)
theorem main : GFnNetOk.Stmt := by
  intro l hl0
  obtain ⟨_, hw⟩ := hl0
  refine ⟨2000, ?_⟩
  unfold laws_FnNetOk.f
  by_cases hl : (l.length : Int) > 1048576
  · rw [if_pos hl]
  · rw [if_neg hl]
    obtain ⟨r, hd, hr1, hr2⟩ := draw_tot l hw
    obtain ⟨t, h1, h2⟩ := small r hr1 hr2
    obtain ⟨s1, s2⟩ := h2 2000 (by omega)
    rw [hd, Option.bind_some, s2, Option.bind_some, s1, Option.bind_some, if_neg (by simp)]
    exact law_loop r hr1 hr2 t h1.1 r.length 0 2000 (by omega) (by omega)
end FnNetOk_
theorem FnNetOk : GFnNetOk.Stmt := FnNetOk_.main
end Go.Proofs.Ytfcocnhkimbpbac.Pure
