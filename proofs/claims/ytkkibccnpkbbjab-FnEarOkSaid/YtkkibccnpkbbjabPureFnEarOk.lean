/- The pure law of FnEarOk: whatever the code, the drawn ear is one for the program just if it is for the reference; if it is, no more is kept than there is room for, and without what came early it is an ear, too. No conditions. -/
import Derived.Test.YtkkibccnpkbbjabGFnEarOk
namespace Go.Proofs.Ytkkibccnpkbbjab.Pure
open Go Go.RowKit Go.Proofs.Ytkkibccnpkbbjab.MFnEarOk Go.Proofs.YtkkibccnpkbbjabV.PrintWords Go.Proofs.YtkkibccnpkbbjabV.PrintLast
set_option linter.unusedVariables false
set_option linter.unusedSimpArgs false
namespace FnEarOk_
theorem i64_bounds {x : Int} (h : (Lit.int .i64 x).wf = true) : -9223372036854775808 ≤ x ∧ x ≤ 9223372036854775807 := by
  simpa [Lit.wf, IntKind.min, IntKind.max, IntKind.signed, IntKind.bits] using h
theorem inAll (x y z : Int) : spec_l1In.f x y z = some (decide (y ≤ x ∧ x ≤ z)) := by
  unfold spec_l1In.f
  by_cases h : x ≥ y
  · rw [if_pos h]; congr 1; simp only [decide_eq_decide]; omega
  · rw [if_neg h]; congr 1; symm; simp only [decide_eq_false_iff_not]; omega
theorem inAll' (x y z : Int) : impl_in.f x y z = some (decide (y ≤ x ∧ x ≤ z)) := inAll x y z
theorem wl {n m : Int} (h : n = m) (h0 : -9223372036854775808 ≤ m) (h1 : m ≤ 9223372036854775807) : wrap64 n = m := by
  subst h
  unfold wrap64
  omega
/-! ### a draw: a number in 0..n-1, and the place one further -/
theorem xor_nat (a b : Nat) (ha : a < 9223372036854775808) (hb : b < 9223372036854775808) : Go.bits .xor .i64 (a : Int) (b : Int) = ((a ^^^ b : Nat) : Int) := by
  have hx : a ^^^ b < 2 ^ 63 := Nat.xor_lt_two_pow (by omega) (by omega)
  have ha' : a % 2 ^ 64 = a := Nat.mod_eq_of_lt (by omega)
  have hb' : b % 2 ^ 64 = b := Nat.mod_eq_of_lt (by omega)
  have e : IntKind.i64.bits = 64 := rfl
  simp only [Go.bits, BitVec.ofInt_natCast, BitVec.toNat_xor, BitVec.toNat_ofNat, e, ha', hb']
  rw [IntKind.wrap_i64]
  omega
theorem wrap_in {n : Int} (h : -9223372036854775808 ≤ n) (h' : n ≤ 9223372036854775807) : wrap64 n = n := by
  unfold wrap64; omega
theorem u8_bounds {x : Int} (h : (Lit.int .u8 x).wf = true) : 0 ≤ x ∧ x ≤ 255 := by
  simpa [Lit.wf, IntKind.min, IntKind.max, IntKind.signed, IntKind.bits] using h
/-- The bytes of a code. -/
def Code (s : List Int) : Prop := (∀ x ∈ s, 0 ≤ x ∧ x ≤ 255) ∧ s.length ≤ 2000
theorem Code.at {s : List Int} (h : Code s) (i : Int) : 0 ≤ rd s i ∧ rd s i ≤ 255 := by
  unfold rd
  rw [List.getD_eq_getElem?_getD]
  rcases hc : s[i.toNat]? with _ | x
  · simp
  · have := h.1 x (List.mem_of_getElem? hc)
    simpa using this
theorem pick_some (k : Nat) (s : List Int) (p n : Int) (hs : Code s) (h0 : 0 ≤ p) (h1 : p ≤ 1000000000) (hn : 1 ≤ n) :
    ∃ v, spec_l20Rd_pick.f (k + 1) s p n = some (v, p + 1) ∧ 0 ≤ v ∧ v < n := by
  have hl := hs.2
  unfold spec_l20Rd_pick.f
  rw [if_neg (by omega)]
  by_cases hz : s.length = 0
  · refine ⟨0, ?_, by omega, by omega⟩
    simp only [spec_l20Rd_pick.j0]
    rw [if_pos (by simp [hz]), wrap_in (by omega) (by omega)]
  · have hz' : ((s.length : Int) == 0) = false := by simpa using hz
    rw [hz']
    simp only [spec_l20Rd_pick.j0]
    rw [if_neg (by decide), wrap_in (n := p + 1) (by omega) (by omega), show p + 1 - 1 = p by omega, wrap_in (n := p) (by omega) (by omega)]
    by_cases hp : p < (s.length : Int)
    · have hb := hs.at p
      rw [if_pos hp, if_pos h0, if_neg (by omega), wrap_in (by omega) (by omega), Int.tmod_eq_emod_of_nonneg hb.1]
      exact ⟨_, rfl, Int.emod_nonneg _ (by omega), Int.emod_lt_of_pos _ (by omega)⟩
    · rw [if_neg hp, if_neg (by omega)]
      have hL : (0 : Int) < (s.length : Int) := by omega
      rw [wrap_in (n := p * 7) (by omega) (by omega), wrap_in (n := p * 7 + 3) (by omega) (by omega)]
      rw [Int.tmod_eq_emod_of_nonneg h0, Int.tmod_eq_emod_of_nonneg (a := p * 7 + 3) (by omega)]
      have ha0 := Int.emod_nonneg p (b := (s.length : Int)) (by omega)
      have ha1 := Int.emod_lt_of_pos p (b := (s.length : Int)) (by omega)
      have hb0 := Int.emod_nonneg (p * 7 + 3) (b := (s.length : Int)) (by omega)
      have hb1 := Int.emod_lt_of_pos (p * 7 + 3) (b := (s.length : Int)) (by omega)
      rw [if_pos ha0, if_pos ha1, if_pos hb0, if_pos hb1, if_neg (by omega)]
      have hx := hs.at (p % (s.length : Int))
      have hy := hs.at ((p * 7 + 3) % (s.length : Int))
      generalize rd s (p % (s.length : Int)) = x at hx
      generalize rd s ((p * 7 + 3) % (s.length : Int)) = y at hy
      have hd0 : 0 ≤ p / (s.length : Int) := Int.ediv_nonneg h0 (by omega)
      have hd1 : p / (s.length : Int) ≤ p := Int.ediv_le_self _ h0
      rw [Int.tdiv_eq_ediv_of_nonneg h0]
      generalize p / (s.length : Int) = q at hd0 hd1
      rw [wrap_in (n := x) (by omega) (by omega), wrap_in (n := y) (by omega) (by omega), wrap_in (n := x * 131) (by omega) (by omega), wrap_in (n := y * 1117) (by omega) (by omega), wrap_in (n := x * 131 + y * 1117) (by omega) (by omega), wrap_in (n := p * 29) (by omega) (by omega), wrap_in (n := x * 131 + y * 1117 + p * 29) (by omega) (by omega), wrap_in (n := q) (by omega) (by omega), wrap_in (n := q * 53) (by omega) (by omega), wrap_in (n := x * 131 + y * 1117 + p * 29 + q * 53) (by omega) (by omega)]
      obtain ⟨z, hz⟩ : ∃ z : Nat, x * 131 + y * 1117 + p * 29 + q * 53 = (z : Int) := ⟨(x * 131 + y * 1117 + p * 29 + q * 53).toNat, by omega⟩
      rw [hz]
      have hzb : z < 1000000000000 := by omega
      rw [Int.tdiv_eq_ediv_of_nonneg (by omega), wrap_in (n := (z : Int) / 64) (by omega) (by omega)]
      rw [show ((z : Int) / 64) = ((z / 64 : Nat) : Int) by omega, xor_nat _ _ (by omega) (by omega), Int.tmod_eq_emod_of_nonneg (by omega)]
      exact ⟨_, rfl, Int.emod_nonneg _ (by omega), Int.emod_lt_of_pos _ (by omega)⟩
theorem open_some (l : List Int) (hw : ∀ x ∈ l, (Lit.int .u8 x).wf = true) : ∃ s, spec_l20Open.f l = some (s, 0) ∧ Code s := by
  unfold spec_l20Open.f
  have hb : ∀ x ∈ l, 0 ≤ x ∧ x ≤ 255 := fun x hx => u8_bounds (hw x hx)
  by_cases h : (l.length : Int) > 2000
  · rw [if_pos h, if_pos (by omega)]
    exact ⟨_, rfl, fun x hx => hb x (List.mem_of_mem_take hx), by rw [List.length_take]; omega⟩
  · rw [if_neg h]
    exact ⟨_, rfl, hb, by omega⟩
/-! ### what comes to an answer -/
def Tot {β : Type} (Q : β → Prop) (o : Option β) : Prop := ∃ b, o = some b ∧ Q b
theorem tot_some {β : Type} {Q : β → Prop} {b : β} (h : Q b) : Tot Q (some b) := ⟨b, rfl, h⟩
theorem tot_bind {α β : Type} {P : α → Prop} {Q : β → Prop} {o : Option α} {f : α → Option β} (h : Tot P o) (hf : ∀ a, P a → Tot Q (f a)) : Tot Q (o.bind f) := by
  obtain ⟨a, rfl, ha⟩ := h
  exact hf a ha
theorem tot_ite {β : Type} {Q : β → Prop} {c : Prop} [Decidable c] {x y : Option β} (h1 : c → Tot Q x) (h2 : ¬ c → Tot Q y) : Tot Q (if c then x else y) := by
  by_cases h : c
  · rw [if_pos h]; exact h1 h
  · rw [if_neg h]; exact h2 h
theorem tot_mono {β : Type} {P Q : β → Prop} {o : Option β} (h : Tot P o) (hq : ∀ b, P b → Q b) : Tot Q o := by
  obtain ⟨b, hb, hp⟩ := h
  exact ⟨b, hb, hq b hp⟩
theorem tot_none {β : Type} {Q : β → Prop} (h : False) : Tot Q none := h.elim
theorem tot_pick {β : Type} {Q : β → Prop} {F : Int × Int → Option β} {k : Nat} {s : List Int} {p n : Int} (hs : Code s) (hk : 1 ≤ k) (h0 : 0 ≤ p) (h1 : p ≤ 1000000000) (hn : 1 ≤ n)
    (h : ∀ v, 0 ≤ v → v < n → Tot Q (F (v, p + 1))) : Tot Q ((spec_l20Rd_pick.f k s p n).bind F) := by
  obtain ⟨k, rfl⟩ : ∃ m, k = m + 1 := ⟨k - 1, by omega⟩
  obtain ⟨v, hv, v0, v1⟩ := pick_some k s p n hs h0 h1 hn
  rw [hv]
  exact h v v0 v1
theorem tot_odd {β : Type} {Q : β → Prop} {F : Bool × Int → Option β} {k : Nat} {s : List Int} {p n : Int} (hs : Code s) (hk : 1 ≤ k) (h0 : 0 ≤ p) (h1 : p ≤ 1000000000)
    (h : ∀ b p', p ≤ p' → p' ≤ p + 1 → Tot Q (F (b, p'))) : Tot Q ((spec_l20Rd_odd.f k s p n).bind F) := by
  refine tot_bind (P := fun r => p ≤ r.2 ∧ r.2 ≤ p + 1) ?_ (fun a ha => h a.1 a.2 ha.1 ha.2)
  unfold spec_l20Rd_odd.f
  refine tot_ite (fun hn => ?_) (fun hn => ?_)
  · refine tot_pick hs hk h0 h1 (by omega) ?_
    intro v _ _
    exact tot_some (by dsimp only; omega)
  · exact tot_some (by dsimp only; omega)
theorem alive_true (k : Nat) : laws_alive.f (k + 3) = some true := by
  simp [laws_alive.f, impl_BytesOf.f, impl_in.f, impl_bytesOf.f, impl_bytesOf.l0, wrap64, shl, IntKind.wrap, IntKind.bits, IntKind.signed]
/-! ### copies, equality and sizes of rows of bytes -/
theorem wrap_id {n : Int} (h : -9223372036854775808 ≤ n) (h' : n ≤ 9223372036854775807) : wrap64 n = n := by
  unfold wrap64; omega
/-- A loop that fills a row, an element at a time, from the elements of another one. -/
theorem fills {α : Type} (n : Nat) (hn : n ≤ 281474976710656) (L : Nat → List α → Int → Option (List α)) (g : Nat → α)
    (h : ∀ k acc i, k < n + 1 → L (k + 1) acc i = if i < (n : Int) then (if 0 ≤ i then (if i < (acc.length : Int) then L k (acc.set i.toNat (g i.toNat)) (wrap64 (i + 1)) else none) else none) else some acc) :
    ∀ d k (i : Nat) (acc : List α), i + d = n → k = d + 1 → acc.length = n → (∀ j, j < i → acc[j]? = some (g j)) → ∃ r, L k acc (i : Int) = some r ∧ r.length = n ∧ ∀ j, j < n → r[j]? = some (g j) := by
  intro d
  induction d with
  | zero =>
    intro k i acc hi hk hl hp
    subst hk
    refine ⟨acc, ?_, hl, fun j hj => hp j (by omega)⟩
    rw [h _ _ _ (by omega), if_neg (by omega)]
  | succ d ih =>
    intro k i acc hi hk hl hp
    subst hk
    obtain ⟨r, hr, hrl, hrp⟩ := ih (d + 1) (i + 1) (acc.set i (g i)) (by omega) rfl (by simpa using hl) (fun j hj => by
      by_cases hji : j = i
      · subst hji
        simp [List.getElem?_set, hl]
        omega
      · rw [List.getElem?_set_ne (by omega)]
        exact hp j (by omega))
    refine ⟨r, ?_, hrl, hrp⟩
    rw [h _ _ _ (by omega), if_pos (by omega), if_pos (by omega), if_pos (by omega), wrap_id (by omega) (by omega)]
    simpa using hr
theorem rd_at (l : List Int) (i : Nat) (h : i < l.length) : l[i]? = some (rd l (i : Int)) := by
  unfold rd
  rw [List.getD_eq_getElem?_getD, Int.toNat_natCast, List.getElem?_eq_getElem h]
  rfl
/-! ### ears -/
theorem far_loops (nx rm : Int) (got : List Int) (far : List S68) (h0 : 0 ≤ nx) (h1 : nx ≤ 1000000) (r0 : 1 ≤ rm) (r1 : rm ≤ 32) (hg : (got.length : Int) ≤ rm) (hf : far.length ≤ 1048576)
    (hw : ∀ x ∈ far, -9223372036854775808 ≤ x.f0 ∧ x.f0 ≤ 9223372036854775807) :
    ∀ d k (i : Nat), i + d = far.length → d < k → ∃ t, spec_EarOk.l0 k (i : Int) nx rm got far = some t ∧ impl_EarOk.l0 k far (far.length : Int) (i : Int) nx rm got far = some t := by
  intro d
  induction d with
  | zero =>
    intro k i hi hk
    obtain ⟨k, rfl⟩ : ∃ m, k = m + 1 := ⟨k - 1, by omega⟩
    refine ⟨true, ?_, ?_⟩
    · rw [spec_EarOk.l0, if_neg (by omega)]
    · rw [impl_EarOk.l0, if_neg (by omega)]
  | succ d ih =>
    intro k i hi hk
    obtain ⟨k, rfl⟩ : ∃ m, k = m + 1 := ⟨k - 1, by omega⟩
    obtain ⟨t, ht1, ht2⟩ := ih k (i + 1) (by omega) (by omega)
    have hx : -9223372036854775808 ≤ (rd_T68 far (i : Int)).f0 ∧ (rd_T68 far (i : Int)).f0 ≤ 9223372036854775807 := by
      unfold rd_T68
      rw [List.getD_eq_getElem?_getD, Int.toNat_natCast, List.getElem?_eq_getElem (by omega)]
      exact hw _ (List.getElem_mem _)
    rw [spec_EarOk.l0, impl_EarOk.l0]
    simp only [impl_Ear_free.f, inAll', Option.bind_some]
    have g1 : (i : Int) < (far.length : Int) := by omega
    have g0 : 0 ≤ (i : Int) := by omega
    simp only [if_pos g1, if_pos g0]
    have e1 : wrap64 (nx + rm) = nx + rm := wrap_id (by omega) (by omega)
    have e2 : wrap64 (nx + rm - (got.length : Int)) = nx + rm - (got.length : Int) := wrap_id (by omega) (by omega)
    have e3 : wrap64 (rm - (got.length : Int)) = rm - (got.length : Int) := wrap_id (by omega) (by omega)
    have e4 : wrap64 (nx + 1) = nx + 1 := wrap_id (by omega) (by omega)
    have e5 : wrap64 (nx + (rm - (got.length : Int))) = nx + (rm - (got.length : Int)) := wrap_id (by omega) (by omega)
    have e6 : wrap64 (nx + (rm - (got.length : Int)) - 1) = nx + (rm - (got.length : Int)) - 1 := wrap_id (by omega) (by omega)
    have e7 : wrap64 ((i : Int) + 1) = ((i + 1 : Nat) : Int) := by rw [wrap_id (by omega) (by omega)]; omega
    rw [e1, e2, e3, e4, e5, e6, e7]
    clear e1 e2 e3 e4 e5 e6 e7
    generalize (rd_T68 far (i : Int)).f0 = a at hx
    clear hx hw
    by_cases c1 : a ≤ nx
    · refine ⟨false, by rw [if_pos c1], ?_⟩
      rw [decide_eq_false (by omega)]; rfl
    · rw [if_neg c1]
      by_cases c2 : a ≥ nx + rm - (got.length : Int)
      · refine ⟨false, by rw [if_pos c2], ?_⟩
        rw [decide_eq_false (by omega)]; rfl
      · rw [if_neg c2, decide_eq_true (by omega)]
        simp only [if_true]
        by_cases c3 : (i : Int) > 0
        · rw [if_pos c3, if_pos c3, wrap_id (n := (i : Int) - 1) (by omega) (by omega)]
          have g2 : 0 ≤ (i : Int) - 1 := by omega
          have g3 : (i : Int) - 1 < (far.length : Int) := by omega
          simp only [if_pos g2, if_pos g3]
          by_cases c4 : (rd_T68 far ((i : Int) - 1)).f0 ≥ a
          · rw [if_pos c4, if_pos c4]; exact ⟨false, rfl, rfl⟩
          · rw [if_neg c4, if_neg c4]; exact ⟨t, ht1, ht2⟩
        · rw [if_neg c3, if_neg c3]; exact ⟨t, ht1, ht2⟩
theorem earOk_same (nx rm : Int) (got : List Int) (far : List S68) (hg : got.length ≤ 1048576) (hf : far.length ≤ 1048576) (hr : -9223372036854775808 ≤ rm ∧ rm ≤ 9223372036854775807)
    (hw : ∀ x ∈ far, -9223372036854775808 ≤ x.f0 ∧ x.f0 ≤ 9223372036854775807) (k : Nat) (hk : far.length + 1 < k) :
    ∃ t, spec_EarOk.f k nx rm got far = some t ∧ impl_EarOk.f k nx rm got far = some t ∧ (t = true → (1 ≤ rm ∧ rm ≤ 32) ∧ (got.length : Int) ≤ rm) := by
  obtain ⟨k, rfl⟩ : ∃ m, k = m + 1 := ⟨k - 1, by omega⟩
  simp only [spec_EarOk.f, impl_EarOk.f, impl_Ear_free.f, inAll, inAll', Option.bind_some]
  by_cases c1 : 0 ≤ nx ∧ nx ≤ 1000000
  · rw [decide_eq_true c1]
    simp only [if_true]
    by_cases c2 : 1 ≤ rm ∧ rm ≤ 32
    · rw [decide_eq_true c2]
      simp only [if_true]
      rw [wrap_id (n := rm - (got.length : Int)) (by omega) (by omega)]
      by_cases c3 : (got.length : Int) > rm
      · rw [decide_eq_true c3, decide_eq_true (by omega)]
        exact ⟨false, by simp [spec_EarOk.j0], by simp [impl_EarOk.j0], by simp⟩
      · rw [decide_eq_false c3, decide_eq_false (by omega)]
        obtain ⟨t, h1, h2⟩ := far_loops nx rm got far c1.1 c1.2 c2.1 c2.2 (by omega) hf hw far.length k 0 (by omega) (by omega)
        exact ⟨t, by simpa [spec_EarOk.j0] using h1, by simpa [impl_EarOk.j0] using h2, fun _ => ⟨c2, by omega⟩⟩
    · rw [decide_eq_false c2]
      exact ⟨false, by simp [spec_EarOk.j0], by simp [impl_EarOk.j0], by simp⟩
  · rw [decide_eq_false c1]
    exact ⟨false, by simp [spec_EarOk.j0], by simp [impl_EarOk.j0], by simp⟩
/-! ### ranges of early bytes -/
def At (far : List S68) (i : Nat) : Int := (rd_T68 far (i : Int)).f0
/-- What an ear that is ok has in order. -/
def Rising (nx top : Int) (far : List S68) : Prop := (∀ i, i < far.length → nx < At far i ∧ At far i < top) ∧ ∀ i, i + 1 < far.length → At far i < At far (i + 1)
theorem ear_rising_loop (nx rm : Int) (got : List Int) (far : List S68) (h0 : 0 ≤ nx) (h1 : nx ≤ 1000000) (r0 : 1 ≤ rm) (r1 : rm ≤ 32) (hg : (got.length : Int) ≤ rm) (hf : far.length ≤ 1048576) :
    ∀ d k (i : Nat), i + d = far.length → d < k → spec_EarOk.l0 k (i : Int) nx rm got far = some true →
      (∀ j, i ≤ j → j < far.length → nx < At far j ∧ At far j < nx + rm - got.length) ∧ ∀ j, i ≤ j + 1 → j + 1 < far.length → At far j < At far (j + 1) := by
  intro d
  induction d with
  | zero =>
    intro k i hi hk _
    exact ⟨fun j hj hj' => by omega, fun j hj hj' => by omega⟩
  | succ d ih =>
    intro k i hi hk h
    obtain ⟨k, rfl⟩ : ∃ m, k = m + 1 := ⟨k - 1, by omega⟩
    rw [spec_EarOk.l0] at h
    have g1 : (i : Int) < (far.length : Int) := by omega
    have g0 : 0 ≤ (i : Int) := by omega
    have e1 : wrap64 (nx + rm) = nx + rm := wrap_id (by omega) (by omega)
    have e2 : wrap64 (nx + rm - (got.length : Int)) = nx + rm - (got.length : Int) := wrap_id (by omega) (by omega)
    have e7 : wrap64 ((i : Int) + 1) = ((i + 1 : Nat) : Int) := by rw [wrap_id (by omega) (by omega)]; omega
    simp only [if_pos g1, if_pos g0, e1, e2, e7] at h
    by_cases c1 : (rd_T68 far (i : Int)).f0 ≤ nx
    · rw [if_pos c1] at h; simp at h
    · rw [if_neg c1] at h
      by_cases c2 : (rd_T68 far (i : Int)).f0 ≥ nx + rm - (got.length : Int)
      · rw [if_pos c2] at h; simp at h
      · rw [if_neg c2] at h
        have hi' : nx < At far i ∧ At far i < nx + rm - got.length := by unfold At; omega
        by_cases c3 : (i : Int) > 0
        · rw [if_pos c3, wrap_id (n := (i : Int) - 1) (by omega) (by omega), if_pos (by omega), if_pos (by omega)] at h
          by_cases c4 : (rd_T68 far ((i : Int) - 1)).f0 ≥ (rd_T68 far (i : Int)).f0
          · rw [if_pos c4] at h; simp at h
          · rw [if_neg c4] at h
            obtain ⟨a1, a2⟩ := ih k (i + 1) (by omega) (by omega) h
            refine ⟨fun j hj hj' => ?_, fun j hj hj' => ?_⟩
            · by_cases e : j = i
              · subst e; exact hi'
              · exact a1 j (by omega) hj'
            · by_cases e : j + 1 = i
              · subst e
                unfold At
                rw [show ((j + 1 : Nat) : Int) - 1 = (j : Int) by omega] at c4
                omega
              · exact a2 j (by omega) hj'
        · rw [if_neg c3] at h
          obtain ⟨a1, a2⟩ := ih k (i + 1) (by omega) (by omega) h
          refine ⟨fun j hj hj' => ?_, fun j hj hj' => a2 j (by omega) hj'⟩
          by_cases e : j = i
          · subst e; exact hi'
          · exact a1 j (by omega) hj'
/-! ### a drawn ear -/
abbrev E1 := S68
abbrev ER := Int × Int × List Int × List E1
def InE (y : E1) : Prop := -1000000 ≤ y.f0 ∧ y.f0 ≤ 1000000
theorem rdE_mem (l : List E1) (i : Nat) (h : i < l.length) : rd_T68 l (i : Int) ∈ l := by
  have e : rd_T68 l (i : Int) = l[i] := by simp [rd_T68, List.getD_eq_getElem?_getD, List.getElem?_eq_getElem h]
  rw [e]
  exact List.getElem_mem _
theorem inE_snoc {l : List E1} {x : E1} (h : ∀ y ∈ l, InE y) (hx : InE x) : ∀ y ∈ l ++ [x], InE y := fun y hy => by
  rcases List.mem_append.1 hy with hy | hy
  · exact h y hy
  · rw [List.mem_singleton.1 hy]; exact hx
theorem inE_wide {l : List E1} (h : ∀ y ∈ l, InE y) : ∀ y ∈ l, -9223372036854775808 ≤ y.f0 ∧ y.f0 ≤ 9223372036854775807 := fun y hy => by
  have := h y hy
  unfold InE at this
  omega
theorem put_loop (l : List E1) (a b : Int) (hl : l.length ≤ 1000) (hP : ∀ y ∈ l, InE y) (ha : InE ⟨a, b⟩) : ∀ d k (i : Nat) (acc : List E1) (done : Bool), i + d = l.length → 2 * d + 2 ≤ k → acc.length ≤ i + (if done = true then 1 else 0) → (∀ y ∈ acc, InE y) →
    Tot (fun r => r.length ≤ l.length + 1 ∧ ∀ y ∈ r, InE y) (spec_l12Put.l0 k l acc done (i : Int) a b) := by
  intro d
  induction d with
  | zero =>
    intro k i acc done hi hk hc hA
    obtain ⟨k, rfl⟩ : ∃ q, k = q + 1 := ⟨k - 1, by omega⟩
    rw [spec_l12Put.l0, if_neg (by omega)]
    cases done with
    | true =>
      rw [if_pos rfl]
      rw [if_pos rfl] at hc
      exact tot_some ⟨by omega, hA⟩
    | false =>
      rw [if_neg (by simp)] at hc
      rw [if_neg (by simp), if_pos (by omega)]
      exact tot_some ⟨by simp; omega, inE_snoc hA ha⟩
  | succ d ih =>
    intro k i acc done hi hk hc hA
    obtain ⟨k, rfl⟩ : ∃ q, k = q + 2 := ⟨k - 2, by omega⟩
    have hx : InE ⟨(rd_T68 l (i : Int)).f0, (rd_T68 l (i : Int)).f1⟩ := hP _ (rdE_mem l i (by omega))
    have hc1 : acc.length ≤ i + 1 := by split at hc <;> omega
    have ew : wrap64 ((i : Int) + 1) = ((i + 1 : Nat) : Int) := by rw [wrap_id (by omega) (by omega)]; omega
    have g0 : 0 ≤ (i : Int) := by omega
    have g1 : (i : Int) < (l.length : Int) := by omega
    have step : ∀ (acc : List E1) (done : Bool), acc.length ≤ i + (if done = true then 1 else 0) → (∀ y ∈ acc, InE y) →
        Tot (fun r : List E1 => r.length ≤ l.length + 1 ∧ ∀ y ∈ r, InE y) (if acc.length < 8796093022208 then spec_l12Put.l0 k l (acc ++ [(⟨(rd_T68 l (i : Int)).f0, (rd_T68 l (i : Int)).f1⟩ : E1)]) done (wrap64 ((i : Int) + 1)) a b else none) := by
      intro acc done hc hA
      rw [if_pos (by split at hc <;> omega), ew]
      exact ih k (i + 1) _ done (by omega) (by omega) (by rw [List.length_append, List.length_singleton]; generalize (if done = true then 1 else 0) = c at hc ⊢; omega) (inE_snoc hA hx)
    have j1 : ∀ ins : Bool, (ins = true → done = false) → Tot (fun r : List E1 => r.length ≤ l.length + 1 ∧ ∀ y ∈ r, InE y) (spec_l12Put.j1 (k + 1) l acc done (i : Int) ins a b) := by
      intro ins hins
      rw [spec_l12Put.j1]
      cases ins with
      | true =>
        obtain rfl := hins rfl
        rw [if_neg (by simp)] at hc
        rw [if_pos rfl, if_pos (by omega), Option.bind_some, if_pos g0, if_pos g1]
        have hs := step (acc ++ [⟨a, b⟩]) true (by rw [if_pos rfl, List.length_append, List.length_singleton]; omega) (inE_snoc hA ha)
        split
        · exact hs
        · exact hs
      | false =>
        rw [if_neg (by simp), if_pos g0, if_pos g1]
        split
        · exact step acc true (by rw [if_pos rfl]; exact hc1) hA
        · exact step acc done hc hA
    rw [spec_l12Put.l0, if_pos g1]
    cases done with
    | true => rw [if_pos rfl]; exact j1 false (by simp)
    | false => rw [if_neg (by simp), if_pos g0]; exact j1 _ (fun _ => rfl)
theorem put_tot (l : List E1) (a b : Int) (hl : l.length ≤ 1000) (hP : ∀ y ∈ l, InE y) (ha : InE ⟨a, b⟩) (k : Nat) (hk : 2 * l.length + 2 ≤ k) : Tot (fun r => r.length ≤ l.length + 1 ∧ ∀ y ∈ r, InE y) (spec_l12Put.f k l a b) := by
  have h := put_loop l a b hl hP ha l.length k 0 [] false (by omega) hk (by simp) (fun y hy => by cases hy)
  unfold spec_l12Put.f
  rw [Int.natCast_zero] at h
  exact h
/-- What an ear is behind what it heard: no further than so many places, and no more bytes than so many. -/
def HQ (top : Int) (rm : Int) (n : Nat) (r : ER) : Prop := 0 ≤ r.1 ∧ r.1 ≤ top ∧ (r.2.1 = rm ∨ r.2.1 = 0) ∧ r.2.2.1.length + r.2.2.2.length ≤ n ∧ ∀ y ∈ r.2.2.2, InE y
theorem hq_zero {top rm : Int} {n : Nat} (h : 0 ≤ top) : HQ top rm n (0, 0, [], []) := ⟨Int.le_refl _, h, .inr rfl, Nat.zero_le _, fun y hy => by cases hy⟩
theorem hear1 (rm : Int) (far : List E1) (hf : far.length ≤ 1000) (hP : ∀ y ∈ far, InE y) (top : Int) (n : Nat) (hn : n ≤ 2000) : ∀ d k (i : Nat) (nx : Int) (got : List Int), i + d = far.length → d < k → 0 ≤ nx → nx + d ≤ top → top ≤ 100000 → got.length + d ≤ n →
    Tot (HQ top rm n) (spec_EarHear.l1 k far (i : Int) nx rm got) := by
  intro d
  induction d with
  | zero =>
    intro k i nx got hi hk h0 h1 h2 h3
    obtain ⟨k, rfl⟩ : ∃ q, k = q + 1 := ⟨k - 1, by omega⟩
    rw [spec_EarHear.l1, if_neg (by omega), if_pos (by omega), if_pos (by omega), if_neg (by omega)]
    refine tot_some ⟨h0, by omega, .inl rfl, ?_, fun y hy => hP y (List.mem_of_mem_drop hy)⟩
    simp only [List.length_drop, Int.toNat_natCast]
    omega
  | succ d ih =>
    intro k i nx got hi hk h0 h1 h2 h3
    obtain ⟨k, rfl⟩ : ∃ q, k = q + 1 := ⟨k - 1, by omega⟩
    rw [spec_EarHear.l1, if_pos (by omega), if_pos (by omega)]
    split
    · rw [if_pos (by omega), wrap_id (n := (i : Int) + 1) (by omega) (by omega), wrap_id (n := nx + 1) (by omega) (by omega), show (i : Int) + 1 = ((i + 1 : Nat) : Int) by omega]
      exact ih k (i + 1) (nx + 1) _ (by omega) (by omega) (by omega) (by omega) h2 (by rw [List.length_append, List.length_singleton]; omega)
    · rw [if_pos (by omega), if_neg (by omega)]
      refine tot_some ⟨h0, by omega, .inl rfl, ?_, fun y hy => hP y (List.mem_of_mem_drop hy)⟩
      simp only [List.length_drop, Int.toNat_natCast]
      omega
theorem hear0 (at_ : Int) (data : List Int) (v nx rm : Int) (got : List Int) (ofar : List E1) (a0 : -100 ≤ at_) (a1 : at_ ≤ 10000) (hd : data.length ≤ 10) (h0 : 0 ≤ nx) (top : Int) (n : Nat) (hn : n ≤ 2000) (ht : top ≤ 100000) :
    ∀ d k (i : Nat) (far : List E1), i + d = data.length → 300 + d ≤ k → far.length + d ≤ 90 → (∀ y ∈ far, InE y) → nx + far.length + d ≤ top → got.length + far.length + d ≤ n →
    Tot (HQ top rm n) (spec_EarHear.l0 k at_ data v far (i : Int) nx rm got ofar) := by
  intro d
  induction d with
  | zero =>
    intro k i far hi hk hf hP ht1 hn1
    obtain ⟨k, rfl⟩ : ∃ q, k = q + 1 := ⟨k - 1, by omega⟩
    rw [spec_EarHear.l0, if_neg (by omega), Option.bind_some, if_pos (by simp; omega), List.nil_append]
    have h := hear1 rm far (by omega) hP top n hn far.length k 0 nx got (by omega) (by omega) h0 (by omega) ht (by omega)
    rw [Int.natCast_zero] at h
    exact h
  | succ d ih =>
    intro k i far hi hk hf hP ht1 hn1
    obtain ⟨k, rfl⟩ : ∃ q, k = q + 1 := ⟨k - 1, by omega⟩
    rw [spec_EarHear.l0, if_pos (by omega), wrap_id (n := at_ + (i : Int)) (by omega) (by omega), wrap_id (n := (i : Int) + 1) (by omega) (by omega), show (i : Int) + 1 = ((i + 1 : Nat) : Int) by omega]
    have go : Tot (HQ top rm n) (spec_EarHear.l0 k at_ data v far ((i + 1 : Nat) : Int) nx rm got ofar) := ih k (i + 1) far (by omega) (by omega) (by omega) hP (by omega) (by omega)
    refine tot_ite (fun _ => tot_ite (fun _ => ?_) (fun _ => go)) (fun _ => go)
    rw [if_pos (by omega)]
    refine tot_bind (put_tot far (at_ + (i : Int)) (rd data (i : Int)) (by omega) hP ⟨by dsimp only; omega, by dsimp only; omega⟩ k (by omega)) (fun f hf' => ?_)
    exact ih k (i + 1) f (by omega) (by omega) (by omega) hf'.2 (by omega) (by omega)
theorem earOk_tot (nx rm : Int) (got : List Int) (far : List E1) (hg : got.length ≤ 1000) (hf : far.length ≤ 100) (r0 : -1000 ≤ rm) (r1 : rm ≤ 1000) (hP : ∀ y ∈ far, InE y) (k : Nat) (hk : 110 ≤ k) : Tot (fun _ => True) (spec_EarOk.f k nx rm got far) := by
  obtain ⟨t, h, _, _⟩ := earOk_same nx rm got far (by omega) (by omega) ⟨by omega, by omega⟩ (inE_wide hP) k (by omega)
  exact ⟨t, h, trivial⟩
theorem hear_tot (nx rm : Int) (got : List Int) (far : List E1) (at_ : Int) (data : List Int) (a0 : -100 ≤ at_) (a1 : at_ ≤ 10000) (hd : data.length ≤ 10) (h0 : 0 ≤ nx) (h1 : nx ≤ 1000) (r0 : -1000 ≤ rm) (r1 : rm ≤ 1000) (hg : got.length ≤ 1000) (hf : far.length ≤ 50) (hP : ∀ y ∈ far, InE y) (k : Nat) (hk : 500 ≤ k) :
    Tot (HQ (nx + far.length + data.length) rm (got.length + far.length + data.length)) (spec_EarHear.f k nx rm got far at_ data) := by
  obtain ⟨k', hk'⟩ : ∃ q, k = q + 1 := ⟨k - 1, by omega⟩
  have jt : Tot (HQ (nx + far.length + data.length) rm (got.length + far.length + data.length)) (spec_EarHear.j0 k at_ data true nx rm got far) := by
    subst hk'
    rw [spec_EarHear.j0, if_pos rfl]
    exact tot_some (hq_zero (by omega))
  have jf : Tot (HQ (nx + far.length + data.length) rm (got.length + far.length + data.length)) (spec_EarHear.j0 k at_ data false nx rm got far) := by
    subst hk'
    rw [spec_EarHear.j0, if_neg (by simp)]
    have hv : Tot (fun _ => True) (spec_EarFree.f k' nx rm got far) := by
      unfold spec_EarFree.f
      refine tot_bind (earOk_tot nx rm got far hg (by omega) r0 r1 hP k' (by omega)) (fun t _ => ?_)
      exact tot_ite (fun _ => tot_some trivial) (fun _ => tot_some trivial)
    refine tot_bind hv (fun v _ => ?_)
    rw [Option.bind_some, if_pos (by simp; omega), List.nil_append]
    have h := hear0 at_ data v nx rm got far a0 a1 hd h0 (nx + far.length + data.length) (got.length + far.length + data.length) (by omega) (by omega) data.length k' 0 far (by omega) (by omega) (by omega) hP (by omega) (by omega)
    rw [Int.natCast_zero] at h
    exact h
  unfold spec_EarHear.f
  refine tot_bind (earOk_tot nx rm got far hg (by omega) r0 r1 hP k (by omega)) (fun t _ => tot_ite (fun _ => ?_) (fun _ => jt))
  rw [inAll, Option.bind_some]
  cases decide (0 ≤ at_ ∧ at_ ≤ 1000000) with
  | true => exact jf
  | false => exact jt
theorem read_tot (nx rm : Int) (got : List Int) (far : List E1) (a : Int) (h0 : 0 ≤ nx) (r0 : -1000 ≤ rm) (r1 : rm ≤ 1000) (hg : got.length ≤ 1000) (hf : far.length ≤ 100) (hP : ∀ y ∈ far, InE y) (k : Nat) (hk : 500 ≤ k) :
    Tot (fun r : Int × Int × List Int × List E1 × List Int => 0 ≤ r.1 ∧ r.1 ≤ nx ∧ (r.2.1 = rm ∨ r.2.1 = 0) ∧ r.2.2.1.length + r.2.2.2.1.length ≤ got.length + far.length ∧ ∀ y ∈ r.2.2.2.1, InE y) (spec_EarRead.f k nx rm got far a) := by
  unfold spec_EarRead.f
  refine tot_bind (earOk_tot nx rm got far hg (by omega) r0 r1 hP k (by omega)) (fun t _ => tot_ite (fun _ => tot_ite (fun _ => ?_) (fun c => ?_)) (fun _ => ?_))
  · exact tot_some ⟨by simp, by simpa using h0, .inr rfl, by simp, fun y hy => by cases hy⟩
  · have hm : 0 ≤ mn a (got.length : Int) ∧ mn a (got.length : Int) ≤ (got.length : Int) := by
      unfold mn
      split <;> omega
    rw [Option.bind_some, if_pos hm.1, if_pos hm.2, if_pos (by simp; omega), Option.bind_some, if_pos (by simp; omega), Option.bind_some, if_pos (by simp; omega)]
    exact tot_some ⟨h0, Int.le_refl _, .inl rfl, by first | (simp; done) | (simp; omega), by simpa using hP⟩
  · exact tot_some ⟨by simp, by simpa using h0, .inr rfl, by simp, fun y hy => by cases hy⟩
theorem heard_loop (a : Int) (n : Int) (hn : n ≤ 10) (a0 : -100 ≤ a) (a1 : a ≤ 10000) : ∀ (d k i : Nat) (acc : List Int), (i : Int) + d = n → d < k → acc.length = i → Tot (fun r => (r.length : Int) = n) (spec_l20Heard.l0 k a n acc (i : Int)) := by
  intro d
  induction d with
  | zero =>
    intro k i acc hi hk ha
    obtain ⟨k, rfl⟩ : ∃ q, k = q + 1 := ⟨k - 1, by omega⟩
    rw [spec_l20Heard.l0, if_neg (by omega)]
    exact tot_some (by omega)
  | succ d ih =>
    intro k i acc hi hk ha
    obtain ⟨k, rfl⟩ : ∃ q, k = q + 1 := ⟨k - 1, by omega⟩
    rw [spec_l20Heard.l0, if_pos (by omega), spec_l20Stream.f, Option.bind_some, if_pos (by omega), wrap_id (n := (i : Int) + 1) (by omega) (by omega), show (i : Int) + 1 = ((i + 1 : Nat) : Int) by omega]
    exact ih k (i + 1) _ (by omega) (by omega) (by simp; omega)
theorem heard_tot (a n : Int) (h0 : 0 ≤ n) (hn : n ≤ 10) (a0 : -100 ≤ a) (a1 : a ≤ 10000) (k : Nat) (hk : 20 ≤ k) : Tot (fun r => (r.length : Int) = n) (spec_l20Heard.f k a n) := by
  have h := heard_loop a n hn a0 a1 n.toNat k 0 [] (by omega) (by omega) rfl
  rw [Int.natCast_zero] at h
  unfold spec_l20Heard.f
  exact h
/-- A drawn ear, ok or not. -/
def Fin (r : Int × Int × List Int × List E1 × Int) : Prop := -1 ≤ r.1 ∧ r.1 ≤ 1000 ∧ 0 ≤ r.2.1 ∧ r.2.1 ≤ 40 ∧ r.2.2.1.length ≤ 100 ∧ r.2.2.2.1.length ≤ 50 ∧ ∀ y ∈ r.2.2.2.1, InE y
theorem ear_end {s : List Int} (hs : Code s) (z : Int) (k : Nat) (p nx rm : Int) (got : List Int) (far : List E1) (hk : 100 ≤ k) (p0 : 0 ≤ p) (p1 : p ≤ 10000) (h0 : 0 ≤ nx) (h1 : nx ≤ 400) (r0 : 0 ≤ rm) (r1 : rm ≤ 23) (hl : got.length + far.length ≤ 20) (hP : ∀ y ∈ far, InE y) :
    Tot Fin (spec_l20Ear.l0 k z 0 s p nx rm got far) := by
  obtain ⟨k, rfl⟩ : ∃ q, k = q + 1 := ⟨k - 1, by omega⟩
  rw [spec_l20Ear.l0, if_neg (by omega)]
  refine tot_odd hs (by omega) (by omega) (by omega) ?_; intro o p3 q5 q6; dsimp only
  have fin : ∀ (nx rm : Int) (got : List Int) (far : List E1) (p : Int), -1 ≤ nx → nx ≤ 1000 → 0 ≤ rm → rm ≤ 40 → got.length ≤ 100 → far.length ≤ 50 → (∀ y ∈ far, InE y) → Tot Fin (some (nx, rm, got, far, p)) := fun _ _ _ _ _ a b c d e f g => tot_some ⟨a, b, c, d, e, f, g⟩
  refine tot_ite (fun _ => ?_) (fun _ => fin _ _ _ _ _ (by omega) (by omega) r0 (by omega) (by omega) (by omega) hP)
  refine tot_pick hs (by omega) (by omega) (by omega) (by omega) ?_; intro c c0 c1; dsimp only
  refine tot_ite (fun _ => ?_) (fun _ => tot_ite (fun _ => fin _ _ _ _ _ (by omega) (by omega) r0 (by omega) (by omega) (by omega) hP) (fun _ => tot_ite (fun _ => ?_) (fun _ => ?_)))
  · refine tot_pick hs (by omega) (by omega) (by omega) (by omega) ?_; intro e e0 e1; dsimp only
    have ew : wrap64 (e * 33) = e * 33 := wrap_id (by omega) (by omega)
    rw [ew]
    exact fin _ _ _ _ _ (by omega) (by omega) (by omega) (by omega) (by omega) (by omega) hP
  · refine tot_pick hs (by omega) (by omega) (by omega) (by omega) ?_; intro e e0 e1; dsimp only
    rw [if_pos (by omega), wrap_id (n := nx + e) (by omega) (by omega), wrap_id (n := nx + e - 3) (by omega) (by omega)]
    exact fin _ _ _ _ _ (by omega) (by omega) r0 (by omega) (by omega) (by simp; omega) (inE_snoc hP ⟨by dsimp only; omega, by dsimp only; omega⟩)
  · rw [if_pos (by omega)]
    exact fin _ _ _ _ _ (by omega) (by omega) r0 (by omega) (by simp; omega) (by omega) hP
theorem ear_loop {s : List Int} (hs : Code s) (z : Int) : ∀ (m : Nat) (j : Nat) (k : Nat) (p nx rm : Int) (got : List Int) (far : List E1), m + j ≤ 5 → 600 + m ≤ k → 0 ≤ p → p ≤ 1000 + 10 * (j : Int) → 0 ≤ nx → nx ≤ 180 + 30 * (j : Int) → 0 ≤ rm → rm ≤ 23 → got.length + far.length ≤ 4 * j → (∀ y ∈ far, InE y) →
    Tot Fin (spec_l20Ear.l0 k z (m : Int) s p nx rm got far) := by
  intro m
  induction m with
  | zero =>
    intro j k p nx rm got far hj hk p0 p1 h0 h1 r0 r1 hl hP
    exact ear_end hs z k p nx rm got far (by omega) p0 (by omega) h0 (by omega) r0 r1 (by omega) hP
  | succ m ih =>
    intro j k p nx rm got far hj hk p0 p1 h0 h1 r0 r1 hl hP
    obtain ⟨k, rfl⟩ : ∃ q, k = q + 1 := ⟨k - 1, by omega⟩
    have em : wrap64 (((m + 1 : Nat) : Int) - 1) = (m : Int) := by rw [wrap_id (by omega) (by omega)]; omega
    rw [spec_l20Ear.l0, if_pos (by omega), em]
    refine tot_pick hs (by omega) (by omega) (by omega) (by omega) ?_; intro a a0 a1; dsimp only
    refine tot_pick hs (by omega) (by omega) (by omega) (by omega) ?_; intro b b0 b1; dsimp only
    rw [wrap_id (n := nx + a) (by omega) (by omega), wrap_id (n := nx + a - 4) (by omega) (by omega)]
    refine tot_bind (heard_tot (nx + a - 4) b b0 (by omega) (by omega) (by omega) k (by omega)) (fun data hd => ?_)
    refine tot_bind (hear_tot nx rm got far (nx + a - 4) data (by omega) (by omega) (by omega) h0 (by omega) (by omega) (by omega) (by omega) (by omega) hP k (by omega)) (fun r hr => ?_)
    obtain ⟨q1, q2, q3, q4, q5⟩ := hr
    refine tot_pick hs (by omega) (by omega) (by omega) (by omega) ?_; intro c c0 c1; dsimp only
    have rr : 0 ≤ r.2.1 ∧ r.2.1 ≤ 23 := by rcases q3 with q3 | q3 <;> omega
    refine tot_ite (fun _ => ?_) (fun _ => ?_)
    · refine tot_pick hs (by omega) (by omega) (by omega) (by omega) ?_; intro e e0 e1; dsimp only
      refine tot_bind (read_tot r.1 r.2.1 r.2.2.1 r.2.2.2 e q1 (by omega) (by omega) (by omega) (by omega) q5 k (by omega)) (fun u hu => ?_)
      obtain ⟨u1, u2, u3, u4, u5⟩ := hu
      have ur : 0 ≤ u.2.1 ∧ u.2.1 ≤ 23 := by rcases u3 with u3 | u3 <;> omega
      exact ih (j + 1) k _ _ _ _ _ (by omega) (by omega) (by omega) (by omega) u1 (by omega) ur.1 ur.2 (by omega) u5
    · exact ih (j + 1) k _ _ _ _ _ (by omega) (by omega) (by omega) (by omega) q1 (by omega) rr.1 rr.2 (by omega) q5
theorem ear_tot {s : List Int} (hs : Code s) (z : Int) (k : Nat) (hk : 700 ≤ k) : Tot Fin (spec_l20Ear.f k s 0 z) := by
  unfold spec_l20Ear.f
  refine tot_pick hs (by omega) (by omega) (by omega) (by omega) ?_; intro a a0 a1; dsimp only
  refine tot_pick hs (by omega) (by omega) (by omega) (by omega) ?_; intro b b0 b1; dsimp only
  refine tot_pick hs (by omega) (by omega) (by omega) (by omega) ?_; intro c c0 c1; dsimp only
  rw [wrap_id (n := a * 40) (by omega) (by omega), wrap_id (n := 100 + a * 40) (by omega) (by omega), wrap_id (n := 4 + b) (by omega) (by omega)]
  obtain ⟨m, rfl⟩ : ∃ m : Nat, c = (m : Int) := ⟨c.toNat, by omega⟩
  exact ear_loop hs z m 0 k _ _ _ [] [] (by omega) (by omega) (by omega) (by omega) (by omega) (by omega) (by omega) (by omega) (by simp) (fun y hy => by cases hy)
theorem draw_tot (l : List Int) (hw : ∀ x ∈ l, (Lit.int .u8 x).wf = true) : Tot (fun r : ER => Fin (r.1, r.2.1, r.2.2.1, r.2.2.2, 0)) (spec_DrawEarOk.f 2000 l) := by
  obtain ⟨s, hs, hc⟩ := open_some l hw
  unfold spec_DrawEarOk.f
  rw [hs, Option.bind_some]
  exact tot_bind (ear_tot hc 2 2000 (by omega)) (fun r hr => tot_some hr)
theorem ear_empty (nx rm : Int) (got : List Int) (c1 : 0 ≤ nx ∧ nx ≤ 1000000) (c2 : 1 ≤ rm ∧ rm ≤ 32) (c3 : (got.length : Int) ≤ rm) (k : Nat) : impl_EarOk.f (k + 2) nx rm got [] = some true := by
  simp only [impl_EarOk.f, impl_Ear_free.f, inAll', Option.bind_some, decide_eq_true c1, decide_eq_true c2, if_true]
  rw [wrap_id (by omega) (by omega), decide_eq_false (by omega)]
  simp [impl_EarOk.j0, impl_EarOk.l0]
theorem ear_full (nx rm : Int) (got : List Int) (far : List E1) (hf : far.length ≤ 1048576) (k : Nat) (hk : far.length + 1 < k) (h : spec_EarOk.f k nx rm got far = some true) : (0 ≤ nx ∧ nx ≤ 1000000) ∧ (∀ j, j < far.length → nx < (rd_T68 far (j : Int)).f0 ∧ (rd_T68 far (j : Int)).f0 < nx + rm - (got.length : Int)) ∧ ∀ j, j + 1 < far.length → (rd_T68 far (j : Int)).f0 < (rd_T68 far ((j + 1 : Nat) : Int)).f0 := by
  obtain ⟨k, rfl⟩ : ∃ m, k = m + 1 := ⟨k - 1, by omega⟩
  simp only [spec_EarOk.f, inAll, Option.bind_some] at h
  by_cases c1 : 0 ≤ nx ∧ nx ≤ 1000000
  · rw [decide_eq_true c1] at h
    simp only [if_true] at h
    by_cases c2 : 1 ≤ rm ∧ rm ≤ 32
    · rw [decide_eq_true c2] at h
      simp only [if_true] at h
      by_cases c3 : (got.length : Int) > rm
      · rw [decide_eq_true c3] at h; simp [spec_EarOk.j0] at h
      · rw [decide_eq_false c3] at h
        have h' : spec_EarOk.l0 k 0 nx rm got far = some true := by simpa [spec_EarOk.j0] using h
        obtain ⟨a1, a2⟩ := ear_rising_loop nx rm got far c1.1 c1.2 c2.1 c2.2 (by omega) hf far.length k 0 (by omega) (by omega) h'
        exact ⟨c1, fun j hj => a1 j (by omega) hj, fun j hj => a2 j (by omega) hj⟩
    · rw [decide_eq_false c2] at h; simp [spec_EarOk.j0] at h
  · rw [decide_eq_false c1] at h; simp [spec_EarOk.j0] at h
theorem rising_room (nx top : Int) (far : List E1) (h : ∀ j, j < far.length → nx < (rd_T68 far (j : Int)).f0 ∧ (rd_T68 far (j : Int)).f0 < top) (hs : ∀ j, j + 1 < far.length → (rd_T68 far (j : Int)).f0 < (rd_T68 far ((j + 1 : Nat) : Int)).f0) (h0 : nx ≤ top) : (far.length : Int) ≤ top - nx := by
  have key : ∀ j, j < far.length → nx + 1 + (j : Int) ≤ (rd_T68 far (j : Int)).f0 := by
    intro j
    induction j with
    | zero => intro hj; have := (h 0 hj).1; omega
    | succ j ih => intro hj; have := ih (by omega); have := hs j hj; omega
  by_cases hz : far.length = 0
  · omega
  · have a := key (far.length - 1) (by omega)
    have b := (h (far.length - 1) (by omega)).2
    omega
theorem main : GFnEarOk.Stmt := by
  intro l hl0
  obtain ⟨_, hw⟩ := hl0
  refine ⟨2000, ?_⟩
  unfold laws_FnEarOk.f
  by_cases hl : (l.length : Int) > 1048576
  · rw [if_pos hl]
  · rw [if_neg hl]
    obtain ⟨⟨nx, rm, got, far⟩, hd, f1, f2, f3, f4, f5, f6, f7⟩ := draw_tot l hw
    dsimp only at f1 f2 f3 f4 f5 f6 f7
    rw [hd, Option.bind_some]
    dsimp only
    obtain ⟨t, s1, s2, s3⟩ := earOk_same nx rm got far (by omega) (by omega) ⟨by omega, by omega⟩ (inE_wide f7) 2000 (by omega)
    rw [s2, Option.bind_some, s1, Option.bind_some, if_neg (by simp)]
    have one : impl_EarOk.f 2000 0 1 [] [] = some true := ear_empty 0 1 [] (by omega) (by omega) (by simp) 1998
    cases t with
    | false => rw [if_neg (by simp), one, Option.bind_some, if_pos rfl, alive_true 1997, Option.bind_some]
    | true =>
      obtain ⟨g1, g2, g3⟩ := ear_full nx rm got far (by omega) 2000 (by omega) s1
      have hroom := rising_room nx (nx + rm - (got.length : Int)) far g2 g3 (by have := s3 rfl; omega)
      rw [if_pos rfl, wrap_id (by omega) (by omega), if_pos (by omega), ear_empty nx rm got g1 (s3 rfl).1 (s3 rfl).2 1998, Option.bind_some, if_pos rfl, one, Option.bind_some, if_pos rfl, alive_true 1997, Option.bind_some]
end FnEarOk_
theorem FnEarOk : GFnEarOk.Stmt := FnEarOk_.main
end Go.Proofs.Ytkkibccnpkbbjab.Pure
