/- The pure law of FnStationOk: whatever the code, the drawn station is ok for the program just if it is for the reference; if it is, it is without its routes, too, and so is the bare station 7. No conditions. -/
import Derived.Test.YtfcocnhkimbpbaaGFnStationOk
namespace Go.Proofs.Ytfcocnhkimbpbaa.Pure
open Go Go.RowKit Go.Proofs.Ytfcocnhkimbpbaa.MFnStationOk Go.Proofs.YtfcocnhkimbpbaaV.PrintWords Go.Proofs.YtfcocnhkimbpbaaV.PrintLast
set_option linter.unusedVariables false
set_option linter.unusedSimpArgs false
namespace FnStationOk_
theorem i64_bounds {x : Int} (h : (Lit.int .i64 x).wf = true) : -9223372036854775808 ≤ x ∧ x ≤ 9223372036854775807 := by
  simpa [Lit.wf, IntKind.min, IntKind.max, IntKind.signed, IntKind.bits] using h
theorem inAll (x y z : Int) : spec_l1In.f x y z = some (decide (y ≤ x ∧ x ≤ z)) := by
  unfold spec_l1In.f
  by_cases h : x ≥ y
  · rw [if_pos h]; congr 1; simp only [decide_eq_decide]; omega
  · rw [if_neg h]; congr 1; symm; simp only [decide_eq_false_iff_not]; omega
theorem inAll' (x y z : Int) : impl_in.f x y z = some (decide (y ≤ x ∧ x ≤ z)) := inAll x y z
theorem wl {n m : Int} (h : n = m) (h0 : -9223372036854775808 ≤ m) (h1 : m ≤ 9223372036854775807) : wrap64 n = m := by
  subst h
  unfold wrap64
  omega
/-! ### a draw: a number in 0..n-1, and the place one further -/
theorem xor_nat (a b : Nat) (ha : a < 9223372036854775808) (hb : b < 9223372036854775808) : Go.bits .xor .i64 (a : Int) (b : Int) = ((a ^^^ b : Nat) : Int) := by
  have hx : a ^^^ b < 2 ^ 63 := Nat.xor_lt_two_pow (by omega) (by omega)
  have ha' : a % 2 ^ 64 = a := Nat.mod_eq_of_lt (by omega)
  have hb' : b % 2 ^ 64 = b := Nat.mod_eq_of_lt (by omega)
  have e : IntKind.i64.bits = 64 := rfl
  simp only [Go.bits, BitVec.ofInt_natCast, BitVec.toNat_xor, BitVec.toNat_ofNat, e, ha', hb']
  rw [IntKind.wrap_i64]
  omega
theorem wrap_in {n : Int} (h : -9223372036854775808 ≤ n) (h' : n ≤ 9223372036854775807) : wrap64 n = n := by
  unfold wrap64; omega
theorem u8_bounds {x : Int} (h : (Lit.int .u8 x).wf = true) : 0 ≤ x ∧ x ≤ 255 := by
  simpa [Lit.wf, IntKind.min, IntKind.max, IntKind.signed, IntKind.bits] using h
/-- The bytes of a code. -/
def Code (s : List Int) : Prop := (∀ x ∈ s, 0 ≤ x ∧ x ≤ 255) ∧ s.length ≤ 2000
theorem Code.at {s : List Int} (h : Code s) (i : Int) : 0 ≤ rd s i ∧ rd s i ≤ 255 := by
  unfold rd
  rw [List.getD_eq_getElem?_getD]
  rcases hc : s[i.toNat]? with _ | x
  · simp
  · have := h.1 x (List.mem_of_getElem? hc)
    simpa using this
theorem pick_some (k : Nat) (s : List Int) (p n : Int) (hs : Code s) (h0 : 0 ≤ p) (h1 : p ≤ 1000000000) (hn : 1 ≤ n) :
    ∃ v, spec_l20Rd_pick.f (k + 1) s p n = some (v, p + 1) ∧ 0 ≤ v ∧ v < n := by
  have hl := hs.2
  unfold spec_l20Rd_pick.f
  rw [if_neg (by omega)]
  by_cases hz : s.length = 0
  · refine ⟨0, ?_, by omega, by omega⟩
    simp only [spec_l20Rd_pick.j0]
    rw [if_pos (by simp [hz]), wrap_in (by omega) (by omega)]
  · have hz' : ((s.length : Int) == 0) = false := by simpa using hz
    rw [hz']
    simp only [spec_l20Rd_pick.j0]
    rw [if_neg (by decide), wrap_in (n := p + 1) (by omega) (by omega), show p + 1 - 1 = p by omega, wrap_in (n := p) (by omega) (by omega)]
    by_cases hp : p < (s.length : Int)
    · have hb := hs.at p
      rw [if_pos hp, if_pos h0, if_neg (by omega), wrap_in (by omega) (by omega), Int.tmod_eq_emod_of_nonneg hb.1]
      exact ⟨_, rfl, Int.emod_nonneg _ (by omega), Int.emod_lt_of_pos _ (by omega)⟩
    · rw [if_neg hp, if_neg (by omega)]
      have hL : (0 : Int) < (s.length : Int) := by omega
      rw [wrap_in (n := p * 7) (by omega) (by omega), wrap_in (n := p * 7 + 3) (by omega) (by omega)]
      rw [Int.tmod_eq_emod_of_nonneg h0, Int.tmod_eq_emod_of_nonneg (a := p * 7 + 3) (by omega)]
      have ha0 := Int.emod_nonneg p (b := (s.length : Int)) (by omega)
      have ha1 := Int.emod_lt_of_pos p (b := (s.length : Int)) (by omega)
      have hb0 := Int.emod_nonneg (p * 7 + 3) (b := (s.length : Int)) (by omega)
      have hb1 := Int.emod_lt_of_pos (p * 7 + 3) (b := (s.length : Int)) (by omega)
      rw [if_pos ha0, if_pos ha1, if_pos hb0, if_pos hb1, if_neg (by omega)]
      have hx := hs.at (p % (s.length : Int))
      have hy := hs.at ((p * 7 + 3) % (s.length : Int))
      generalize rd s (p % (s.length : Int)) = x at hx
      generalize rd s ((p * 7 + 3) % (s.length : Int)) = y at hy
      have hd0 : 0 ≤ p / (s.length : Int) := Int.ediv_nonneg h0 (by omega)
      have hd1 : p / (s.length : Int) ≤ p := Int.ediv_le_self _ h0
      rw [Int.tdiv_eq_ediv_of_nonneg h0]
      generalize p / (s.length : Int) = q at hd0 hd1
      rw [wrap_in (n := x) (by omega) (by omega), wrap_in (n := y) (by omega) (by omega), wrap_in (n := x * 131) (by omega) (by omega), wrap_in (n := y * 1117) (by omega) (by omega), wrap_in (n := x * 131 + y * 1117) (by omega) (by omega), wrap_in (n := p * 29) (by omega) (by omega), wrap_in (n := x * 131 + y * 1117 + p * 29) (by omega) (by omega), wrap_in (n := q) (by omega) (by omega), wrap_in (n := q * 53) (by omega) (by omega), wrap_in (n := x * 131 + y * 1117 + p * 29 + q * 53) (by omega) (by omega)]
      obtain ⟨z, hz⟩ : ∃ z : Nat, x * 131 + y * 1117 + p * 29 + q * 53 = (z : Int) := ⟨(x * 131 + y * 1117 + p * 29 + q * 53).toNat, by omega⟩
      rw [hz]
      have hzb : z < 1000000000000 := by omega
      rw [Int.tdiv_eq_ediv_of_nonneg (by omega), wrap_in (n := (z : Int) / 64) (by omega) (by omega)]
      rw [show ((z : Int) / 64) = ((z / 64 : Nat) : Int) by omega, xor_nat _ _ (by omega) (by omega), Int.tmod_eq_emod_of_nonneg (by omega)]
      exact ⟨_, rfl, Int.emod_nonneg _ (by omega), Int.emod_lt_of_pos _ (by omega)⟩
theorem open_some (l : List Int) (hw : ∀ x ∈ l, (Lit.int .u8 x).wf = true) : ∃ s, spec_l20Open.f l = some (s, 0) ∧ Code s := by
  unfold spec_l20Open.f
  have hb : ∀ x ∈ l, 0 ≤ x ∧ x ≤ 255 := fun x hx => u8_bounds (hw x hx)
  by_cases h : (l.length : Int) > 2000
  · rw [if_pos h, if_pos (by omega)]
    exact ⟨_, rfl, fun x hx => hb x (List.mem_of_mem_take hx), by rw [List.length_take]; omega⟩
  · rw [if_neg h]
    exact ⟨_, rfl, hb, by omega⟩
/-! ### what comes to an answer -/
def Tot {β : Type} (Q : β → Prop) (o : Option β) : Prop := ∃ b, o = some b ∧ Q b
theorem tot_some {β : Type} {Q : β → Prop} {b : β} (h : Q b) : Tot Q (some b) := ⟨b, rfl, h⟩
theorem tot_bind {α β : Type} {P : α → Prop} {Q : β → Prop} {o : Option α} {f : α → Option β} (h : Tot P o) (hf : ∀ a, P a → Tot Q (f a)) : Tot Q (o.bind f) := by
  obtain ⟨a, rfl, ha⟩ := h
  exact hf a ha
theorem tot_ite {β : Type} {Q : β → Prop} {c : Prop} [Decidable c] {x y : Option β} (h1 : c → Tot Q x) (h2 : ¬ c → Tot Q y) : Tot Q (if c then x else y) := by
  by_cases h : c
  · rw [if_pos h]; exact h1 h
  · rw [if_neg h]; exact h2 h
theorem tot_mono {β : Type} {P Q : β → Prop} {o : Option β} (h : Tot P o) (hq : ∀ b, P b → Q b) : Tot Q o := by
  obtain ⟨b, hb, hp⟩ := h
  exact ⟨b, hb, hq b hp⟩
theorem tot_none {β : Type} {Q : β → Prop} (h : False) : Tot Q none := h.elim
theorem tot_pick {β : Type} {Q : β → Prop} {F : Int × Int → Option β} {k : Nat} {s : List Int} {p n : Int} (hs : Code s) (hk : 1 ≤ k) (h0 : 0 ≤ p) (h1 : p ≤ 1000000000) (hn : 1 ≤ n)
    (h : ∀ v, 0 ≤ v → v < n → Tot Q (F (v, p + 1))) : Tot Q ((spec_l20Rd_pick.f k s p n).bind F) := by
  obtain ⟨k, rfl⟩ : ∃ m, k = m + 1 := ⟨k - 1, by omega⟩
  obtain ⟨v, hv, v0, v1⟩ := pick_some k s p n hs h0 h1 hn
  rw [hv]
  exact h v v0 v1
theorem tot_odd {β : Type} {Q : β → Prop} {F : Bool × Int → Option β} {k : Nat} {s : List Int} {p n : Int} (hs : Code s) (hk : 1 ≤ k) (h0 : 0 ≤ p) (h1 : p ≤ 1000000000)
    (h : ∀ b p', p ≤ p' → p' ≤ p + 1 → Tot Q (F (b, p'))) : Tot Q ((spec_l20Rd_odd.f k s p n).bind F) := by
  refine tot_bind (P := fun r => p ≤ r.2 ∧ r.2 ≤ p + 1) ?_ (fun a ha => h a.1 a.2 ha.1 ha.2)
  unfold spec_l20Rd_odd.f
  refine tot_ite (fun hn => ?_) (fun hn => ?_)
  · refine tot_pick hs hk h0 h1 (by omega) ?_
    intro v _ _
    exact tot_some (by dsimp only; omega)
  · exact tot_some (by dsimp only; omega)
theorem alive_true (k : Nat) : laws_alive.f (k + 3) = some true := by
  simp [laws_alive.f, impl_BytesOf.f, impl_in.f, impl_bytesOf.f, impl_bytesOf.l0, wrap64, shl, IntKind.wrap, IntKind.bits, IntKind.signed]
/-! ### copies, equality and sizes of rows of bytes -/
theorem wrap_id {n : Int} (h : -9223372036854775808 ≤ n) (h' : n ≤ 9223372036854775807) : wrap64 n = n := by
  unfold wrap64; omega
/-- A loop that fills a row, an element at a time, from the elements of another one. -/
theorem fills {α : Type} (n : Nat) (hn : n ≤ 281474976710656) (L : Nat → List α → Int → Option (List α)) (g : Nat → α)
    (h : ∀ k acc i, k < n + 1 → L (k + 1) acc i = if i < (n : Int) then (if 0 ≤ i then (if i < (acc.length : Int) then L k (acc.set i.toNat (g i.toNat)) (wrap64 (i + 1)) else none) else none) else some acc) :
    ∀ d k (i : Nat) (acc : List α), i + d = n → k = d + 1 → acc.length = n → (∀ j, j < i → acc[j]? = some (g j)) → ∃ r, L k acc (i : Int) = some r ∧ r.length = n ∧ ∀ j, j < n → r[j]? = some (g j) := by
  intro d
  induction d with
  | zero =>
    intro k i acc hi hk hl hp
    subst hk
    refine ⟨acc, ?_, hl, fun j hj => hp j (by omega)⟩
    rw [h _ _ _ (by omega), if_neg (by omega)]
  | succ d ih =>
    intro k i acc hi hk hl hp
    subst hk
    obtain ⟨r, hr, hrl, hrp⟩ := ih (d + 1) (i + 1) (acc.set i (g i)) (by omega) rfl (by simpa using hl) (fun j hj => by
      by_cases hji : j = i
      · subst hji
        simp [List.getElem?_set, hl]
        omega
      · rw [List.getElem?_set_ne (by omega)]
        exact hp j (by omega))
    refine ⟨r, ?_, hrl, hrp⟩
    rw [h _ _ _ (by omega), if_pos (by omega), if_pos (by omega), if_pos (by omega), wrap_id (by omega) (by omega)]
    simpa using hr
theorem rd_at (l : List Int) (i : Nat) (h : i < l.length) : l[i]? = some (rd l (i : Int)) := by
  unfold rd
  rw [List.getD_eq_getElem?_getD, Int.toNat_natCast, List.getElem?_eq_getElem h]
  rfl
/-! ### routes -/
theorem shl_pow (b : Int) (h0 : 0 ≤ b) (h1 : b ≤ 16) : 1 ≤ shl .i64 1 b ∧ shl .i64 1 b ≤ 65536 := by
  obtain ⟨n, rfl⟩ : ∃ n : Nat, b = (n : Int) := ⟨b.toNat, by omega⟩
  have hf : n = 0 ∨ n = 1 ∨ n = 2 ∨ n = 3 ∨ n = 4 ∨ n = 5 ∨ n = 6 ∨ n = 7 ∨ n = 8 ∨ n = 9 ∨ n = 10 ∨ n = 11 ∨ n = 12 ∨ n = 13 ∨ n = 14 ∨ n = 15 ∨ n = 16 := by omega
  rcases hf with rfl | rfl | rfl | rfl | rfl | rfl | rfl | rfl | rfl | rfl | rfl | rfl | rfl | rfl | rfl | rfl | rfl <;> decide
theorem routeOk_same (a b v r : Int) : ∃ t, spec_RouteOk.f a b v r = some t ∧ impl_RouteOk.f a b v r = some t := by
  simp only [spec_RouteOk.f, impl_RouteOk.f, spec_l6Rest.f, impl_word.f, inAll, inAll', Option.bind_some]
  by_cases c1 : 0 ≤ b ∧ b ≤ 16
  · rw [decide_eq_true c1]
    simp only [if_true]
    by_cases c2 : 0 ≤ a ∧ a ≤ 65535
    · rw [decide_eq_true c2]
      simp only [if_true]
      have e : wrap64 (16 - b) = 16 - b := by unfold wrap64; omega
      have hs := shl_pow (16 - b) (by omega) (by omega)
      rw [e]
      have g0 : 0 ≤ 16 - b := by omega
      simp only [if_pos g0, Option.bind_some]
      generalize shl .i64 1 (16 - b) = m at hs
      have g1 : ¬ m = 0 := by omega
      simp only [if_neg g1]
      by_cases c3 : a.tmod m = 0
      · simp only [if_pos c3]
        by_cases c4 : 0 ≤ v ∧ v ≤ 65535
        · rw [decide_eq_true c4]; exact ⟨_, by rw [if_pos rfl], by rw [if_pos rfl]⟩
        · rw [decide_eq_false c4]; exact ⟨false, by simp, by simp⟩
      · simp only [if_neg c3]; exact ⟨false, rfl, rfl⟩
    · rw [decide_eq_false c2]; exact ⟨false, by simp, by simp⟩
  · rw [decide_eq_false c1]; exact ⟨false, by simp, by simp⟩
theorem compare_is (a b : Int) : cmp_Compare_int.f a b = some (if a < b then -1 else if a > b then 1 else 0) := by
  simp only [cmp_Compare_int.f, cmp_isNaN_int.f, Option.bind_some, bne_self_eq_false, Bool.false_eq_true, if_false]
  by_cases h : a < b
  · rw [if_pos h, if_pos h]
  · rw [if_neg h, if_neg h]
    by_cases h' : a > b
    · rw [if_pos h', if_pos h']
    · rw [if_neg h', if_neg h']
theorem or_is (a b : Int) (k : Nat) : cmp_Or_int.f (k + 3) [a, b] = some (if a = 0 then b else a) := by
  have w1 : wrap64 (0 + 1) = 1 := by unfold wrap64; omega
  have w2 : wrap64 (1 + 1) = 2 := by unfold wrap64; omega
  simp only [cmp_Or_int.f, cmp_Or_int.l0, List.length_cons, List.length_nil, w1, w2]
  by_cases h : a = 0
  · by_cases h' : b = 0
    · simp [rd, h, h']
    · simp [rd, h, h']
  · simp [rd, h]
theorem order_is (a0 b0 v0 r0 a1 b1 v1 r1 : Int) (k : Nat) : ∃ o, impl_Route_order.f (k + 3) a0 b0 v0 r0 a1 b1 v1 r1 = some o ∧ (o ≥ 0 ↔ b0 > b1 ∨ b0 = b1 ∧ a0 ≥ a1) := by
  simp only [impl_Route_order.f, compare_is, or_is, Option.bind_some]
  refine ⟨_, rfl, ?_⟩
  by_cases h1 : b0 < b1
  · rw [if_pos h1]; simp; omega
  · rw [if_neg h1]
    by_cases h2 : b0 > b1
    · rw [if_pos h2]; simp; omega
    · rw [if_neg h2, if_pos rfl]
      by_cases h3 : a0 < a1
      · rw [if_pos h3]; simp; omega
      · rw [if_neg h3]
        by_cases h4 : a0 > a1
        · rw [if_pos h4]; simp; omega
        · rw [if_neg h4]; simp; omega
theorem routes_loops (l : List S88) (hl : l.length ≤ 1048576) :
    ∀ d k (i : Nat), i + d = l.length → d + 3 < k → ∃ t, spec_RoutesOk.l0 k l (i : Int) = some t ∧ impl_RoutesOk.l0 k l l (l.length : Int) (i : Int) = some t := by
  intro d
  induction d with
  | zero =>
    intro k i hi hk
    obtain ⟨k, rfl⟩ : ∃ m, k = m + 1 := ⟨k - 1, by omega⟩
    refine ⟨decide ((l.length : Int) ≤ 8), ?_, ?_⟩
    · rw [spec_RoutesOk.l0, if_neg (by omega)]
    · rw [impl_RoutesOk.l0, if_neg (by omega)]
  | succ d ih =>
    intro k i hi hk
    obtain ⟨k, rfl⟩ : ∃ m, k = m + 1 := ⟨k - 1, by omega⟩
    obtain ⟨t, ht1, ht2⟩ := ih k (i + 1) (by omega) (by omega)
    rw [spec_RoutesOk.l0, impl_RoutesOk.l0]
    have g1 : (i : Int) < (l.length : Int) := by omega
    have g0 : 0 ≤ (i : Int) := by omega
    simp only [if_pos g1, if_pos g0]
    have e7 : wrap64 ((i : Int) + 1) = ((i + 1 : Nat) : Int) := by unfold wrap64; omega
    have e8 : wrap64 ((i : Int) - 1) = (i : Int) - 1 := by unfold wrap64; omega
    rw [e7, e8]
    generalize rd_T88 l (i : Int) = x
    generalize rd_T88 l ((i : Int) - 1) = y
    obtain ⟨u, hu1, hu2⟩ := routeOk_same x.f0 x.f1 x.f2 x.f3
    rw [hu1, hu2, Option.bind_some, Option.bind_some]
    cases u
    · exact ⟨false, by simp, by simp⟩
    · simp only [if_true]
      by_cases c3 : (i : Int) > 0
      · have g2 : 0 ≤ (i : Int) - 1 := by omega
        have g3 : (i : Int) - 1 < (l.length : Int) := by omega
        simp only [if_pos c3, if_pos g2, if_pos g3]
        obtain ⟨k', rfl⟩ : ∃ m, k = m + 3 := ⟨k - 3, by omega⟩
        obtain ⟨o, ho, hoo⟩ := order_is y.f0 y.f1 y.f2 y.f3 x.f0 x.f1 x.f2 x.f3 k'
        rw [ho, Option.bind_some]
        by_cases c4 : y.f1 > x.f1
        · rw [if_pos c4, if_pos (hoo.2 (Or.inl c4))]; exact ⟨false, rfl, rfl⟩
        · rw [if_neg c4]
          by_cases c5 : y.f1 = x.f1
          · rw [if_pos c5]
            by_cases c6 : y.f0 ≥ x.f0
            · rw [if_pos c6, if_pos (hoo.2 (Or.inr ⟨c5, c6⟩))]; exact ⟨false, rfl, rfl⟩
            · rw [if_neg c6, if_neg (fun h => by rcases hoo.1 h with h | h <;> omega)]; exact ⟨t, ht1, ht2⟩
          · rw [if_neg c5, if_neg (fun h => by rcases hoo.1 h with h | h <;> omega)]; exact ⟨t, ht1, ht2⟩
      · rw [if_neg c3, if_neg c3]; exact ⟨t, ht1, ht2⟩
theorem routesOk_same (l : List S88) (hl : l.length ≤ 1048576) (k : Nat) (hk : l.length + 3 < k) : ∃ t, spec_RoutesOk.f k l = some t ∧ impl_RoutesOk.f k l = some t :=
  routes_loops l hl l.length k 0 (by omega) hk
/-! ### drawn routes -/
theorem addr_tot {s : List Int} (hs : Code s) {k : Nat} (hk : 10 ≤ k) {p : Int} (h0 : 0 ≤ p) (h1 : p ≤ 900000000) : Tot (fun r : Int × Int => p ≤ r.2 ∧ r.2 ≤ p + 10) (spec_l20Addr.f k s p) := by
  unfold spec_l20Addr.f
  refine tot_pick hs (by omega) (by omega) (by omega) (by omega) ?_; intro a a0 a1; dsimp only
  refine tot_pick hs (by omega) (by omega) (by omega) (by omega) ?_; intro b b0 b1; dsimp only
  refine tot_pick hs (by omega) (by omega) (by omega) (by omega) ?_; intro c c0 c1; dsimp only
  refine tot_pick hs (by omega) (by omega) (by omega) (by omega) ?_; intro d d0 d1; dsimp only
  simp only [Option.bind_some]
  refine tot_pick hs (by omega) (by omega) (by omega) (by omega) ?_; intro e e0 e1; dsimp only
  rw [if_pos e0, if_pos (by simp; omega)]
  exact tot_some ⟨by dsimp only; omega, by dsimp only; omega⟩
theorem bits_at (v w : Int) (h0 : 0 ≤ v) (h1 : v < 7) (w0 : 0 ≤ w) (w1 : w < 17) : 0 ≤ rd [0, 4, 8, 8, 12, 16, w] v ∧ rd [0, 4, 8, 8, 12, 16, w] v ≤ 16 := by
  have h : v = 0 ∨ v = 1 ∨ v = 2 ∨ v = 3 ∨ v = 4 ∨ v = 5 ∨ v = 6 := by omega
  rcases h with rfl | rfl | rfl | rfl | rfl | rfl | rfl <;> simp [rd] <;> omega
theorem route_tot {s : List Int} (hs : Code s) {k : Nat} (hk : 10 ≤ k) {p n : Int} (h0 : 0 ≤ p) (h1 : p ≤ 900000000) : Tot (fun r : Int × Int × Int × Int × Int => p ≤ r.2.2.2.2 ∧ r.2.2.2.2 ≤ p + 20) (spec_l20Route.f k s p n) := by
  unfold spec_l20Route.f
  refine tot_pick hs (by omega) (by omega) (by omega) (by omega) ?_; intro a a0 a1; dsimp only
  simp only [Option.bind_some]
  refine tot_pick hs (by omega) (by omega) (by omega) (by omega) ?_; intro b b0 b1; dsimp only
  have hb := bits_at b a b0 b1 a0 a1
  rw [if_pos b0, if_pos (by simp; omega)]
  generalize rd [0, 4, 8, 8, 12, 16, a] b = B at hb
  refine tot_pick hs (by omega) (by omega) (by omega) (by omega) ?_; intro c c0 c1; dsimp only
  refine tot_pick hs (by omega) (by omega) (by omega) (by omega) ?_; intro d d0 d1; dsimp only
  have e : wrap64 (16 - B) = 16 - B := wrap_id (by omega) (by omega)
  have hp := shl_pow (16 - B) (by omega) (by omega)
  rw [if_pos d0, if_pos (by simp; omega)]
  simp only [e]
  rw [if_pos (by omega), if_neg (by omega)]
  generalize shl .i64 1 (16 - B) = M
  generalize rd _ d = D
  refine tot_pick hs (by omega) (by omega) (by omega) (by omega) ?_; intro f f0 f1; dsimp only
  refine tot_pick hs (by omega) (by omega) (by omega) (by omega) ?_; intro g g0 g1; dsimp only
  refine tot_odd hs (by omega) (by omega) (by omega) ?_; intro o p3 q5 q6; dsimp only
  have fin : ∀ (x y z w p' : Int), p ≤ p' → p' ≤ p + 20 → Tot (fun r : Int × Int × Int × Int × Int => p ≤ r.2.2.2.2 ∧ r.2.2.2.2 ≤ p + 20) (some (x, y, z, w, p')) := fun x y z w p' u v => tot_some ⟨u, v⟩
  refine tot_ite (fun _ => ?_) (fun _ => fin _ _ _ _ _ (by omega) (by omega))
  refine tot_pick hs (by omega) (by omega) (by omega) (by omega) ?_; intro t t0 t1; dsimp only
  refine tot_ite (fun _ => ?_) (fun _ => tot_ite (fun _ => ?_) (fun _ => fin _ _ _ _ _ (by omega) (by omega)))
  · refine tot_pick hs (by omega) (by omega) (by omega) (by omega) ?_; intro u u0 u1; exact fin _ _ _ _ _ (by omega) (by omega)
  · refine tot_pick hs (by omega) (by omega) (by omega) (by omega) ?_; intro u u0 u1; exact fin _ _ _ _ _ (by omega) (by omega)
theorem put_loop (l : List S88) (hl : l.length ≤ 100) (a b c d : Int) : ∀ n k (i : Nat) (acc : List S88) (done : Bool), i + n = l.length → 2 * n + 110 < k → acc.length ≤ 2 * i →
    Tot (fun r : List S88 × Bool => r.1.length ≤ 8) (spec_RoutePut.l0 k l acc done (i : Int) a b c d) := by
  intro n
  induction n with
  | zero =>
    intro k i acc done hi hk ha
    obtain ⟨k, rfl⟩ : ∃ q, k = q + 2 := ⟨k - 2, by omega⟩
    have fin : ∀ acc : List S88, Tot (fun r : List S88 × Bool => r.1.length ≤ 8) (spec_RoutePut.j2 (k + 1) l acc a b c d) := by
      intro acc
      rw [spec_RoutePut.j2]
      obtain ⟨t, h1, _⟩ := routesOk_same l (by omega) k (by omega)
      obtain ⟨u, h2, _⟩ := routeOk_same a b c d
      rw [h1, Option.bind_some, h2, Option.bind_some]
      refine tot_ite (fun _ => tot_ite (fun _ => tot_ite (fun _ => tot_some (by simp)) (fun h => tot_some (by dsimp only; omega))) (fun _ => tot_some (by simp))) (fun _ => tot_some (by simp))
    rw [spec_RoutePut.l0, if_neg (by omega)]
    refine tot_ite (fun _ => fin _) (fun _ => ?_)
    rw [if_pos (by omega)]
    exact fin _
  | succ n ih =>
    intro k i acc done hi hk ha
    obtain ⟨k, rfl⟩ : ∃ q, k = q + 2 := ⟨k - 2, by omega⟩
    have e : wrap64 ((i : Int) + 1) = ((i + 1 : Nat) : Int) := by rw [wrap_id (by omega) (by omega)]; omega
    have go : ∀ (acc : List S88) (done : Bool), acc.length ≤ 2 * (i + 1) → Tot (fun r : List S88 × Bool => r.1.length ≤ 8) (spec_RoutePut.l0 k l acc done (wrap64 ((i : Int) + 1)) a b c d) := by
      intro acc done h
      rw [e]
      exact ih k (i + 1) acc done (by omega) (by omega) h
    have j1 : ∀ (x : Bool) (u v w z : Int), Tot (fun r : List S88 × Bool => r.1.length ≤ 8) (spec_RoutePut.j1 (k + 1) l acc done (i : Int) x a b c d u v w z) := by
      intro x u v w z
      rw [spec_RoutePut.j1]
      refine tot_ite (fun _ => ?_) (fun _ => ?_)
      · rw [if_pos (by omega), Option.bind_some]
        have h1 : (acc ++ [(⟨a, b, c, d⟩ : S88)]).length ≤ 2 * i + 1 := by simp; omega
        refine tot_ite (fun _ => tot_ite (fun _ => go _ _ (by omega)) (fun _ => ?_)) (fun _ => ?_)
        · rw [if_pos (by omega)]; exact go _ _ (by rw [List.length_append]; simp only [List.length_cons, List.length_nil]; omega)
        · rw [if_pos (by omega)]; exact go _ _ (by rw [List.length_append]; simp only [List.length_cons, List.length_nil]; omega)
      · refine tot_ite (fun _ => tot_ite (fun _ => go _ _ (by omega)) (fun _ => ?_)) (fun _ => ?_)
        · rw [if_pos (by omega)]; exact go _ _ (by rw [List.length_append]; simp only [List.length_cons, List.length_nil]; omega)
        · rw [if_pos (by omega)]; exact go _ _ (by rw [List.length_append]; simp only [List.length_cons, List.length_nil]; omega)
    rw [spec_RoutePut.l0, if_pos (by omega), if_pos (by omega)]
    exact tot_ite (fun _ => j1 _ _ _ _ _) (fun _ => tot_ite (fun _ => j1 _ _ _ _ _) (fun _ => tot_ite (fun _ => j1 _ _ _ _ _) (fun _ => j1 _ _ _ _ _)))
theorem routes_loop {s : List Int} (hs : Code s) (m : Int) : ∀ (n k : Nat) (x : Int) (acc : List S88) (p : Int), x = (n : Int) → n ≤ 10 → n + 500 < k → acc.length ≤ 8 → 0 ≤ p → p + 20 * n ≤ 800000000 →
    Tot (fun r : List S88 × Int => r.1.length ≤ 9 ∧ p ≤ r.2 ∧ r.2 ≤ p + 20 * n + 30) (spec_l20Routes.l0 k m acc x s p) := by
  intro n
  induction n with
  | zero =>
    intro k x acc p hx _ hk ha h0 h1
    obtain ⟨k, rfl⟩ : ∃ q, k = q + 1 := ⟨k - 1, by omega⟩
    rw [spec_l20Routes.l0, if_neg (by omega)]
    refine tot_odd hs (by omega) (by omega) (by omega) ?_; intro o p3 q5 q6; dsimp only
    refine tot_ite (fun _ => ?_) (fun _ => tot_some ⟨by dsimp only; omega, by dsimp only; omega, by dsimp only; omega⟩)
    refine tot_bind (route_tot hs (by omega) (by omega) (by omega)) (fun r hr => ?_)
    rw [if_pos (by omega)]
    exact tot_some ⟨by simp; omega, by dsimp only; omega, by dsimp only; omega⟩
  | succ n ih =>
    intro k x acc p hx hn hk ha h0 h1
    obtain ⟨k, rfl⟩ : ∃ q, k = q + 1 := ⟨k - 1, by omega⟩
    rw [spec_l20Routes.l0, if_pos (by omega), wrap_id (by omega) (by omega)]
    refine tot_bind (route_tot hs (by omega) (by omega) (by omega)) (fun r hr => ?_)
    refine tot_bind (put_loop acc (by omega) _ _ _ _ acc.length k 0 [] false (by omega) (by omega) (by simp)) (fun q hq => ?_)
    refine tot_ite (fun _ => ?_) (fun _ => ?_)
    · exact tot_mono (ih k (x - 1) q.1 r.2.2.2.2 (by omega) (by omega) (by omega) hq (by omega) (by omega)) (fun b hb => ⟨hb.1, by omega, by omega⟩)
    · exact tot_mono (ih k (x - 1) acc r.2.2.2.2 (by omega) (by omega) (by omega) ha (by omega) (by omega)) (fun b hb => ⟨hb.1, by omega, by omega⟩)
theorem routes_tot {s : List Int} (hs : Code s) {k : Nat} (hk : 600 ≤ k) {p m : Int} (h0 : 0 ≤ p) (h1 : p ≤ 700000000) : Tot (fun r : List S88 × Int => r.1.length ≤ 9 ∧ p ≤ r.2 ∧ r.2 ≤ p + 200) (spec_l20Routes.f k s p m) := by
  unfold spec_l20Routes.f
  refine tot_pick hs (by omega) (by omega) (by omega) (by omega) ?_; intro a a0 a1; dsimp only
  exact tot_mono (routes_loop hs m a.toNat k a [] (p + 1) (by omega) (by omega) (by omega) (by simp) (by omega) (by omega)) (fun b hb => ⟨hb.1, by omega, by omega⟩)
theorem draw_tot (l : List Int) (hw : ∀ x ∈ l, (Lit.int .u8 x).wf = true) : Tot (fun r : Int × List S88 => r.2.length ≤ 9) (spec_DrawStationOk.f 2000 l) := by
  obtain ⟨s, hs, hc⟩ := open_some l hw
  unfold spec_DrawStationOk.f
  rw [hs, Option.bind_some]
  refine tot_bind (addr_tot hc (by omega) (by dsimp only; omega) (by dsimp only; omega)) (fun r hr => ?_)
  dsimp only at hr ⊢
  refine tot_bind (routes_tot hc (by omega) (by omega) (by omega)) (fun q hq => ?_)
  exact tot_some hq.1
theorem same_ok (a : Int) (l : List S88) (hl : l.length ≤ 9) : ∃ t, spec_StationOk.f 2000 a l = some t ∧ impl_StationOk.f 2000 a l = some t ∧ (t = true → 0 ≤ a ∧ a ≤ 65535) := by
  obtain ⟨t, h1, h2⟩ := routesOk_same l (by omega) 2000 (by omega)
  simp only [spec_StationOk.f, impl_StationOk.f, impl_word.f, inAll, inAll', h1, h2, Option.bind_some]
  by_cases c : 0 ≤ a ∧ a ≤ 65535
  · rw [decide_eq_true c]; exact ⟨t, by simp, by simp, fun _ => c⟩
  · rw [decide_eq_false c]; exact ⟨false, by simp, by simp, fun h => by cases h⟩
theorem bare_ok (k : Nat) (a : Int) (h : 0 ≤ a ∧ a ≤ 65535) : impl_StationOk.f (k + 1) a [] = some true := by
  simp only [impl_StationOk.f, impl_word.f, inAll', Option.bind_some, decide_eq_true h, if_true, impl_RoutesOk.f, impl_RoutesOk.l0, List.length_nil]
  simp
theorem main : GFnStationOk.Stmt := by
  intro l hl0
  obtain ⟨_, hw⟩ := hl0
  refine ⟨2000, ?_⟩
  unfold laws_FnStationOk.f
  by_cases hl : (l.length : Int) > 1048576
  · rw [if_pos hl]
  · rw [if_neg hl]
    obtain ⟨⟨a, r⟩, hd, hr⟩ := draw_tot l hw
    obtain ⟨t, h1, h2, h3⟩ := same_ok a r hr
    simp only [hd, Option.bind_some, h1, h2, beq_self_eq_true, if_true, bare_ok 1999 7 (by omega), alive_true 1997]
    cases t
    · simp
    · simp [bare_ok 1999 a (h3 rfl)]
end FnStationOk_
theorem FnStationOk : GFnStationOk.Stmt := FnStationOk_.main
end Go.Proofs.Ytfcocnhkimbpbaa.Pure
