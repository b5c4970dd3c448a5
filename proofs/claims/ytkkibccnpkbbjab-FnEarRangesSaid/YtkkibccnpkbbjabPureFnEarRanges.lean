/- The pure law of FnEarRanges: whatever the code, the ranges that the program tells of the drawn ear are the reference's; each place in one of them is that of an early byte, they are behind Next, in order, with gaps between them, at most two, and there is one just if something came early. No conditions. -/
import Derived.Test.YtkkibccnpkbbjabGFnEarRanges
namespace Go.Proofs.Ytkkibccnpkbbjab.Pure
open Go Go.RowKit Go.Proofs.Ytkkibccnpkbbjab.MFnEarRanges Go.Proofs.YtkkibccnpkbbjabV.PrintWords Go.Proofs.YtkkibccnpkbbjabV.PrintLast
set_option linter.unusedVariables false
set_option linter.unusedSimpArgs false
namespace FnEarRanges_
theorem i64_bounds {x : Int} (h : (Lit.int .i64 x).wf = true) : -9223372036854775808 ≤ x ∧ x ≤ 9223372036854775807 := by
  simpa [Lit.wf, IntKind.min, IntKind.max, IntKind.signed, IntKind.bits] using h
theorem inAll (x y z : Int) : spec_l1In.f x y z = some (decide (y ≤ x ∧ x ≤ z)) := by
  unfold spec_l1In.f
  by_cases h : x ≥ y
  · rw [if_pos h]; congr 1; simp only [decide_eq_decide]; omega
  · rw [if_neg h]; congr 1; symm; simp only [decide_eq_false_iff_not]; omega
theorem inAll' (x y z : Int) : impl_in.f x y z = some (decide (y ≤ x ∧ x ≤ z)) := inAll x y z
theorem wl {n m : Int} (h : n = m) (h0 : -9223372036854775808 ≤ m) (h1 : m ≤ 9223372036854775807) : wrap64 n = m := by
  subst h
  unfold wrap64
  omega
/-! ### a draw: a number in 0..n-1, and the place one further -/
theorem xor_nat (a b : Nat) (ha : a < 9223372036854775808) (hb : b < 9223372036854775808) : Go.bits .xor .i64 (a : Int) (b : Int) = ((a ^^^ b : Nat) : Int) := by
  have hx : a ^^^ b < 2 ^ 63 := Nat.xor_lt_two_pow (by omega) (by omega)
  have ha' : a % 2 ^ 64 = a := Nat.mod_eq_of_lt (by omega)
  have hb' : b % 2 ^ 64 = b := Nat.mod_eq_of_lt (by omega)
  have e : IntKind.i64.bits = 64 := rfl
  simp only [Go.bits, BitVec.ofInt_natCast, BitVec.toNat_xor, BitVec.toNat_ofNat, e, ha', hb']
  rw [IntKind.wrap_i64]
  omega
theorem wrap_in {n : Int} (h : -9223372036854775808 ≤ n) (h' : n ≤ 9223372036854775807) : wrap64 n = n := by
  unfold wrap64; omega
theorem u8_bounds {x : Int} (h : (Lit.int .u8 x).wf = true) : 0 ≤ x ∧ x ≤ 255 := by
  simpa [Lit.wf, IntKind.min, IntKind.max, IntKind.signed, IntKind.bits] using h
/-- The bytes of a code. -/
def Code (s : List Int) : Prop := (∀ x ∈ s, 0 ≤ x ∧ x ≤ 255) ∧ s.length ≤ 2000
theorem Code.at {s : List Int} (h : Code s) (i : Int) : 0 ≤ rd s i ∧ rd s i ≤ 255 := by
  unfold rd
  rw [List.getD_eq_getElem?_getD]
  rcases hc : s[i.toNat]? with _ | x
  · simp
  · have := h.1 x (List.mem_of_getElem? hc)
    simpa using this
theorem pick_some (k : Nat) (s : List Int) (p n : Int) (hs : Code s) (h0 : 0 ≤ p) (h1 : p ≤ 1000000000) (hn : 1 ≤ n) :
    ∃ v, spec_l20Rd_pick.f (k + 1) s p n = some (v, p + 1) ∧ 0 ≤ v ∧ v < n := by
  have hl := hs.2
  unfold spec_l20Rd_pick.f
  rw [if_neg (by omega)]
  by_cases hz : s.length = 0
  · refine ⟨0, ?_, by omega, by omega⟩
    simp only [spec_l20Rd_pick.j0]
    rw [if_pos (by simp [hz]), wrap_in (by omega) (by omega)]
  · have hz' : ((s.length : Int) == 0) = false := by simpa using hz
    rw [hz']
    simp only [spec_l20Rd_pick.j0]
    rw [if_neg (by decide), wrap_in (n := p + 1) (by omega) (by omega), show p + 1 - 1 = p by omega, wrap_in (n := p) (by omega) (by omega)]
    by_cases hp : p < (s.length : Int)
    · have hb := hs.at p
      rw [if_pos hp, if_pos h0, if_neg (by omega), wrap_in (by omega) (by omega), Int.tmod_eq_emod_of_nonneg hb.1]
      exact ⟨_, rfl, Int.emod_nonneg _ (by omega), Int.emod_lt_of_pos _ (by omega)⟩
    · rw [if_neg hp, if_neg (by omega)]
      have hL : (0 : Int) < (s.length : Int) := by omega
      rw [wrap_in (n := p * 7) (by omega) (by omega), wrap_in (n := p * 7 + 3) (by omega) (by omega)]
      rw [Int.tmod_eq_emod_of_nonneg h0, Int.tmod_eq_emod_of_nonneg (a := p * 7 + 3) (by omega)]
      have ha0 := Int.emod_nonneg p (b := (s.length : Int)) (by omega)
      have ha1 := Int.emod_lt_of_pos p (b := (s.length : Int)) (by omega)
      have hb0 := Int.emod_nonneg (p * 7 + 3) (b := (s.length : Int)) (by omega)
      have hb1 := Int.emod_lt_of_pos (p * 7 + 3) (b := (s.length : Int)) (by omega)
      rw [if_pos ha0, if_pos ha1, if_pos hb0, if_pos hb1, if_neg (by omega)]
      have hx := hs.at (p % (s.length : Int))
      have hy := hs.at ((p * 7 + 3) % (s.length : Int))
      generalize rd s (p % (s.length : Int)) = x at hx
      generalize rd s ((p * 7 + 3) % (s.length : Int)) = y at hy
      have hd0 : 0 ≤ p / (s.length : Int) := Int.ediv_nonneg h0 (by omega)
      have hd1 : p / (s.length : Int) ≤ p := Int.ediv_le_self _ h0
      rw [Int.tdiv_eq_ediv_of_nonneg h0]
      generalize p / (s.length : Int) = q at hd0 hd1
      rw [wrap_in (n := x) (by omega) (by omega), wrap_in (n := y) (by omega) (by omega), wrap_in (n := x * 131) (by omega) (by omega), wrap_in (n := y * 1117) (by omega) (by omega), wrap_in (n := x * 131 + y * 1117) (by omega) (by omega), wrap_in (n := p * 29) (by omega) (by omega), wrap_in (n := x * 131 + y * 1117 + p * 29) (by omega) (by omega), wrap_in (n := q) (by omega) (by omega), wrap_in (n := q * 53) (by omega) (by omega), wrap_in (n := x * 131 + y * 1117 + p * 29 + q * 53) (by omega) (by omega)]
      obtain ⟨z, hz⟩ : ∃ z : Nat, x * 131 + y * 1117 + p * 29 + q * 53 = (z : Int) := ⟨(x * 131 + y * 1117 + p * 29 + q * 53).toNat, by omega⟩
      rw [hz]
      have hzb : z < 1000000000000 := by omega
      rw [Int.tdiv_eq_ediv_of_nonneg (by omega), wrap_in (n := (z : Int) / 64) (by omega) (by omega)]
      rw [show ((z : Int) / 64) = ((z / 64 : Nat) : Int) by omega, xor_nat _ _ (by omega) (by omega), Int.tmod_eq_emod_of_nonneg (by omega)]
      exact ⟨_, rfl, Int.emod_nonneg _ (by omega), Int.emod_lt_of_pos _ (by omega)⟩
theorem open_some (l : List Int) (hw : ∀ x ∈ l, (Lit.int .u8 x).wf = true) : ∃ s, spec_l20Open.f l = some (s, 0) ∧ Code s := by
  unfold spec_l20Open.f
  have hb : ∀ x ∈ l, 0 ≤ x ∧ x ≤ 255 := fun x hx => u8_bounds (hw x hx)
  by_cases h : (l.length : Int) > 2000
  · rw [if_pos h, if_pos (by omega)]
    exact ⟨_, rfl, fun x hx => hb x (List.mem_of_mem_take hx), by rw [List.length_take]; omega⟩
  · rw [if_neg h]
    exact ⟨_, rfl, hb, by omega⟩
/-! ### what comes to an answer -/
def Tot {β : Type} (Q : β → Prop) (o : Option β) : Prop := ∃ b, o = some b ∧ Q b
theorem tot_some {β : Type} {Q : β → Prop} {b : β} (h : Q b) : Tot Q (some b) := ⟨b, rfl, h⟩
theorem tot_bind {α β : Type} {P : α → Prop} {Q : β → Prop} {o : Option α} {f : α → Option β} (h : Tot P o) (hf : ∀ a, P a → Tot Q (f a)) : Tot Q (o.bind f) := by
  obtain ⟨a, rfl, ha⟩ := h
  exact hf a ha
theorem tot_ite {β : Type} {Q : β → Prop} {c : Prop} [Decidable c] {x y : Option β} (h1 : c → Tot Q x) (h2 : ¬ c → Tot Q y) : Tot Q (if c then x else y) := by
  by_cases h : c
  · rw [if_pos h]; exact h1 h
  · rw [if_neg h]; exact h2 h
theorem tot_mono {β : Type} {P Q : β → Prop} {o : Option β} (h : Tot P o) (hq : ∀ b, P b → Q b) : Tot Q o := by
  obtain ⟨b, hb, hp⟩ := h
  exact ⟨b, hb, hq b hp⟩
theorem tot_none {β : Type} {Q : β → Prop} (h : False) : Tot Q none := h.elim
theorem tot_pick {β : Type} {Q : β → Prop} {F : Int × Int → Option β} {k : Nat} {s : List Int} {p n : Int} (hs : Code s) (hk : 1 ≤ k) (h0 : 0 ≤ p) (h1 : p ≤ 1000000000) (hn : 1 ≤ n)
    (h : ∀ v, 0 ≤ v → v < n → Tot Q (F (v, p + 1))) : Tot Q ((spec_l20Rd_pick.f k s p n).bind F) := by
  obtain ⟨k, rfl⟩ : ∃ m, k = m + 1 := ⟨k - 1, by omega⟩
  obtain ⟨v, hv, v0, v1⟩ := pick_some k s p n hs h0 h1 hn
  rw [hv]
  exact h v v0 v1
theorem tot_odd {β : Type} {Q : β → Prop} {F : Bool × Int → Option β} {k : Nat} {s : List Int} {p n : Int} (hs : Code s) (hk : 1 ≤ k) (h0 : 0 ≤ p) (h1 : p ≤ 1000000000)
    (h : ∀ b p', p ≤ p' → p' ≤ p + 1 → Tot Q (F (b, p'))) : Tot Q ((spec_l20Rd_odd.f k s p n).bind F) := by
  refine tot_bind (P := fun r => p ≤ r.2 ∧ r.2 ≤ p + 1) ?_ (fun a ha => h a.1 a.2 ha.1 ha.2)
  unfold spec_l20Rd_odd.f
  refine tot_ite (fun hn => ?_) (fun hn => ?_)
  · refine tot_pick hs hk h0 h1 (by omega) ?_
    intro v _ _
    exact tot_some (by dsimp only; omega)
  · exact tot_some (by dsimp only; omega)
theorem alive_true (k : Nat) : laws_alive.f (k + 3) = some true := by
  simp [laws_alive.f, impl_BytesOf.f, impl_in.f, impl_bytesOf.f, impl_bytesOf.l0, wrap64, shl, IntKind.wrap, IntKind.bits, IntKind.signed]
/-! ### copies, equality and sizes of rows of bytes -/
theorem wrap_id {n : Int} (h : -9223372036854775808 ≤ n) (h' : n ≤ 9223372036854775807) : wrap64 n = n := by
  unfold wrap64; omega
/-- A loop that fills a row, an element at a time, from the elements of another one. -/
theorem fills {α : Type} (n : Nat) (hn : n ≤ 281474976710656) (L : Nat → List α → Int → Option (List α)) (g : Nat → α)
    (h : ∀ k acc i, k < n + 1 → L (k + 1) acc i = if i < (n : Int) then (if 0 ≤ i then (if i < (acc.length : Int) then L k (acc.set i.toNat (g i.toNat)) (wrap64 (i + 1)) else none) else none) else some acc) :
    ∀ d k (i : Nat) (acc : List α), i + d = n → k = d + 1 → acc.length = n → (∀ j, j < i → acc[j]? = some (g j)) → ∃ r, L k acc (i : Int) = some r ∧ r.length = n ∧ ∀ j, j < n → r[j]? = some (g j) := by
  intro d
  induction d with
  | zero =>
    intro k i acc hi hk hl hp
    subst hk
    refine ⟨acc, ?_, hl, fun j hj => hp j (by omega)⟩
    rw [h _ _ _ (by omega), if_neg (by omega)]
  | succ d ih =>
    intro k i acc hi hk hl hp
    subst hk
    obtain ⟨r, hr, hrl, hrp⟩ := ih (d + 1) (i + 1) (acc.set i (g i)) (by omega) rfl (by simpa using hl) (fun j hj => by
      by_cases hji : j = i
      · subst hji
        simp [List.getElem?_set, hl]
        omega
      · rw [List.getElem?_set_ne (by omega)]
        exact hp j (by omega))
    refine ⟨r, ?_, hrl, hrp⟩
    rw [h _ _ _ (by omega), if_pos (by omega), if_pos (by omega), if_pos (by omega), wrap_id (by omega) (by omega)]
    simpa using hr
theorem rd_at (l : List Int) (i : Nat) (h : i < l.length) : l[i]? = some (rd l (i : Int)) := by
  unfold rd
  rw [List.getD_eq_getElem?_getD, Int.toNat_natCast, List.getElem?_eq_getElem h]
  rfl
/-! ### ears -/
theorem far_loops (nx rm : Int) (got : List Int) (far : List S68) (h0 : 0 ≤ nx) (h1 : nx ≤ 1000000) (r0 : 1 ≤ rm) (r1 : rm ≤ 32) (hg : (got.length : Int) ≤ rm) (hf : far.length ≤ 1048576)
    (hw : ∀ x ∈ far, -9223372036854775808 ≤ x.f0 ∧ x.f0 ≤ 9223372036854775807) :
    ∀ d k (i : Nat), i + d = far.length → d < k → ∃ t, spec_EarOk.l0 k (i : Int) nx rm got far = some t ∧ impl_EarOk.l0 k far (far.length : Int) (i : Int) nx rm got far = some t := by
  intro d
  induction d with
  | zero =>
    intro k i hi hk
    obtain ⟨k, rfl⟩ : ∃ m, k = m + 1 := ⟨k - 1, by omega⟩
    refine ⟨true, ?_, ?_⟩
    · rw [spec_EarOk.l0, if_neg (by omega)]
    · rw [impl_EarOk.l0, if_neg (by omega)]
  | succ d ih =>
    intro k i hi hk
    obtain ⟨k, rfl⟩ : ∃ m, k = m + 1 := ⟨k - 1, by omega⟩
    obtain ⟨t, ht1, ht2⟩ := ih k (i + 1) (by omega) (by omega)
    have hx : -9223372036854775808 ≤ (rd_T68 far (i : Int)).f0 ∧ (rd_T68 far (i : Int)).f0 ≤ 9223372036854775807 := by
      unfold rd_T68
      rw [List.getD_eq_getElem?_getD, Int.toNat_natCast, List.getElem?_eq_getElem (by omega)]
      exact hw _ (List.getElem_mem _)
    rw [spec_EarOk.l0, impl_EarOk.l0]
    simp only [impl_Ear_free.f, inAll', Option.bind_some]
    have g1 : (i : Int) < (far.length : Int) := by omega
    have g0 : 0 ≤ (i : Int) := by omega
    simp only [if_pos g1, if_pos g0]
    have e1 : wrap64 (nx + rm) = nx + rm := wrap_id (by omega) (by omega)
    have e2 : wrap64 (nx + rm - (got.length : Int)) = nx + rm - (got.length : Int) := wrap_id (by omega) (by omega)
    have e3 : wrap64 (rm - (got.length : Int)) = rm - (got.length : Int) := wrap_id (by omega) (by omega)
    have e4 : wrap64 (nx + 1) = nx + 1 := wrap_id (by omega) (by omega)
    have e5 : wrap64 (nx + (rm - (got.length : Int))) = nx + (rm - (got.length : Int)) := wrap_id (by omega) (by omega)
    have e6 : wrap64 (nx + (rm - (got.length : Int)) - 1) = nx + (rm - (got.length : Int)) - 1 := wrap_id (by omega) (by omega)
    have e7 : wrap64 ((i : Int) + 1) = ((i + 1 : Nat) : Int) := by rw [wrap_id (by omega) (by omega)]; omega
    rw [e1, e2, e3, e4, e5, e6, e7]
    clear e1 e2 e3 e4 e5 e6 e7
    generalize (rd_T68 far (i : Int)).f0 = a at hx
    clear hx hw
    by_cases c1 : a ≤ nx
    · refine ⟨false, by rw [if_pos c1], ?_⟩
      rw [decide_eq_false (by omega)]; rfl
    · rw [if_neg c1]
      by_cases c2 : a ≥ nx + rm - (got.length : Int)
      · refine ⟨false, by rw [if_pos c2], ?_⟩
        rw [decide_eq_false (by omega)]; rfl
      · rw [if_neg c2, decide_eq_true (by omega)]
        simp only [if_true]
        by_cases c3 : (i : Int) > 0
        · rw [if_pos c3, if_pos c3, wrap_id (n := (i : Int) - 1) (by omega) (by omega)]
          have g2 : 0 ≤ (i : Int) - 1 := by omega
          have g3 : (i : Int) - 1 < (far.length : Int) := by omega
          simp only [if_pos g2, if_pos g3]
          by_cases c4 : (rd_T68 far ((i : Int) - 1)).f0 ≥ a
          · rw [if_pos c4, if_pos c4]; exact ⟨false, rfl, rfl⟩
          · rw [if_neg c4, if_neg c4]; exact ⟨t, ht1, ht2⟩
        · rw [if_neg c3, if_neg c3]; exact ⟨t, ht1, ht2⟩
theorem earOk_same (nx rm : Int) (got : List Int) (far : List S68) (hg : got.length ≤ 1048576) (hf : far.length ≤ 1048576) (hr : -9223372036854775808 ≤ rm ∧ rm ≤ 9223372036854775807)
    (hw : ∀ x ∈ far, -9223372036854775808 ≤ x.f0 ∧ x.f0 ≤ 9223372036854775807) (k : Nat) (hk : far.length + 1 < k) :
    ∃ t, spec_EarOk.f k nx rm got far = some t ∧ impl_EarOk.f k nx rm got far = some t ∧ (t = true → (1 ≤ rm ∧ rm ≤ 32) ∧ (got.length : Int) ≤ rm) := by
  obtain ⟨k, rfl⟩ : ∃ m, k = m + 1 := ⟨k - 1, by omega⟩
  simp only [spec_EarOk.f, impl_EarOk.f, impl_Ear_free.f, inAll, inAll', Option.bind_some]
  by_cases c1 : 0 ≤ nx ∧ nx ≤ 1000000
  · rw [decide_eq_true c1]
    simp only [if_true]
    by_cases c2 : 1 ≤ rm ∧ rm ≤ 32
    · rw [decide_eq_true c2]
      simp only [if_true]
      rw [wrap_id (n := rm - (got.length : Int)) (by omega) (by omega)]
      by_cases c3 : (got.length : Int) > rm
      · rw [decide_eq_true c3, decide_eq_true (by omega)]
        exact ⟨false, by simp [spec_EarOk.j0], by simp [impl_EarOk.j0], by simp⟩
      · rw [decide_eq_false c3, decide_eq_false (by omega)]
        obtain ⟨t, h1, h2⟩ := far_loops nx rm got far c1.1 c1.2 c2.1 c2.2 (by omega) hf hw far.length k 0 (by omega) (by omega)
        exact ⟨t, by simpa [spec_EarOk.j0] using h1, by simpa [impl_EarOk.j0] using h2, fun _ => ⟨c2, by omega⟩⟩
    · rw [decide_eq_false c2]
      exact ⟨false, by simp [spec_EarOk.j0], by simp [impl_EarOk.j0], by simp⟩
  · rw [decide_eq_false c1]
    exact ⟨false, by simp [spec_EarOk.j0], by simp [impl_EarOk.j0], by simp⟩
/-! ### ranges of early bytes -/
def At (far : List S68) (i : Nat) : Int := (rd_T68 far (i : Int)).f0
/-- What an ear that is ok has in order. -/
def Rising (nx top : Int) (far : List S68) : Prop := (∀ i, i < far.length → nx < At far i ∧ At far i < top) ∧ ∀ i, i + 1 < far.length → At far i < At far (i + 1)
theorem ear_rising_loop (nx rm : Int) (got : List Int) (far : List S68) (h0 : 0 ≤ nx) (h1 : nx ≤ 1000000) (r0 : 1 ≤ rm) (r1 : rm ≤ 32) (hg : (got.length : Int) ≤ rm) (hf : far.length ≤ 1048576) :
    ∀ d k (i : Nat), i + d = far.length → d < k → spec_EarOk.l0 k (i : Int) nx rm got far = some true →
      (∀ j, i ≤ j → j < far.length → nx < At far j ∧ At far j < nx + rm - got.length) ∧ ∀ j, i ≤ j + 1 → j + 1 < far.length → At far j < At far (j + 1) := by
  intro d
  induction d with
  | zero =>
    intro k i hi hk _
    exact ⟨fun j hj hj' => by omega, fun j hj hj' => by omega⟩
  | succ d ih =>
    intro k i hi hk h
    obtain ⟨k, rfl⟩ : ∃ m, k = m + 1 := ⟨k - 1, by omega⟩
    rw [spec_EarOk.l0] at h
    have g1 : (i : Int) < (far.length : Int) := by omega
    have g0 : 0 ≤ (i : Int) := by omega
    have e1 : wrap64 (nx + rm) = nx + rm := wrap_id (by omega) (by omega)
    have e2 : wrap64 (nx + rm - (got.length : Int)) = nx + rm - (got.length : Int) := wrap_id (by omega) (by omega)
    have e7 : wrap64 ((i : Int) + 1) = ((i + 1 : Nat) : Int) := by rw [wrap_id (by omega) (by omega)]; omega
    simp only [if_pos g1, if_pos g0, e1, e2, e7] at h
    by_cases c1 : (rd_T68 far (i : Int)).f0 ≤ nx
    · rw [if_pos c1] at h; simp at h
    · rw [if_neg c1] at h
      by_cases c2 : (rd_T68 far (i : Int)).f0 ≥ nx + rm - (got.length : Int)
      · rw [if_pos c2] at h; simp at h
      · rw [if_neg c2] at h
        have hi' : nx < At far i ∧ At far i < nx + rm - got.length := by unfold At; omega
        by_cases c3 : (i : Int) > 0
        · rw [if_pos c3, wrap_id (n := (i : Int) - 1) (by omega) (by omega), if_pos (by omega), if_pos (by omega)] at h
          by_cases c4 : (rd_T68 far ((i : Int) - 1)).f0 ≥ (rd_T68 far (i : Int)).f0
          · rw [if_pos c4] at h; simp at h
          · rw [if_neg c4] at h
            obtain ⟨a1, a2⟩ := ih k (i + 1) (by omega) (by omega) h
            refine ⟨fun j hj hj' => ?_, fun j hj hj' => ?_⟩
            · by_cases e : j = i
              · subst e; exact hi'
              · exact a1 j (by omega) hj'
            · by_cases e : j + 1 = i
              · subst e
                unfold At
                rw [show ((j + 1 : Nat) : Int) - 1 = (j : Int) by omega] at c4
                omega
              · exact a2 j (by omega) hj'
        · rw [if_neg c3] at h
          obtain ⟨a1, a2⟩ := ih k (i + 1) (by omega) (by omega) h
          refine ⟨fun j hj hj' => ?_, fun j hj hj' => a2 j (by omega) hj'⟩
          by_cases e : j = i
          · subst e; exact hi'
          · exact a1 j (by omega) hj'
theorem ear_rising (nx rm : Int) (got : List Int) (far : List S68) (hf : far.length ≤ 1048576) (k : Nat) (hk : far.length + 1 < k) (h : spec_EarOk.f k nx rm got far = some true) : 0 ≤ nx ∧ nx ≤ 1000000 ∧ Rising nx (nx + 32) far := by
  obtain ⟨k, rfl⟩ : ∃ m, k = m + 1 := ⟨k - 1, by omega⟩
  simp only [spec_EarOk.f, inAll, Option.bind_some] at h
  by_cases c1 : 0 ≤ nx ∧ nx ≤ 1000000
  · rw [decide_eq_true c1] at h
    simp only [if_true] at h
    by_cases c2 : 1 ≤ rm ∧ rm ≤ 32
    · rw [decide_eq_true c2] at h
      simp only [if_true] at h
      by_cases c3 : (got.length : Int) > rm
      · rw [decide_eq_true c3] at h; simp [spec_EarOk.j0] at h
      · rw [decide_eq_false c3] at h
        have h' : spec_EarOk.l0 k 0 nx rm got far = some true := by simpa [spec_EarOk.j0] using h
        obtain ⟨a1, a2⟩ := ear_rising_loop nx rm got far c1.1 c1.2 c2.1 c2.2 (by omega) hf far.length k 0 (by omega) (by omega) h'
        refine ⟨c1.1, c1.2, fun j hj => ?_, fun j hj => a2 j (by omega) hj⟩
        have := a1 j (by omega) hj
        omega
    · rw [decide_eq_false c2] at h; simp [spec_EarOk.j0] at h
  · rw [decide_eq_false c1] at h; simp [spec_EarOk.j0] at h
/-- One more place told: what the program does with its ranges, however many. -/
def more (xs : List S66) (a : Int) : List S66 := match xs.reverse with
  | [] => [⟨a, a + 1⟩]
  | x :: r => if x.f1 = a then (⟨x.f0, a + 1⟩ :: r).reverse else xs ++ [⟨a, a + 1⟩]
theorem last_rd (xs : List S66) (y : S66) : rd_T66 (xs ++ [y]) (((xs ++ [y]).length : Int) - 1) = y := by
  unfold rd_T66
  rw [List.getD_eq_getElem?_getD]
  have : (((xs ++ [y]).length : Int) - 1).toNat = xs.length := by simp
  rw [this]
  simp
theorem last_set (xs : List S66) (y z : S66) : (xs ++ [y]).set (((xs ++ [y]).length : Int) - 1).toNat z = xs ++ [z] := by
  have : (((xs ++ [y]).length : Int) - 1).toNat = xs.length := by simp
  rw [this]
  simp
theorem more_nil (a : Int) : more [] a = [⟨a, a + 1⟩] := rfl
theorem more_snoc (xs : List S66) (y : S66) (a : Int) : more (xs ++ [y]) a = if y.f1 = a then xs ++ [⟨y.f0, a + 1⟩] else xs ++ [y] ++ [⟨a, a + 1⟩] := by
  unfold more
  rw [List.reverse_append]
  simp
/-- The program's ranges behind the first i places. -/
def told (far : List S68) : Nat → List S66
  | 0 => []
  | i + 1 => more (told far i) (At far i)
theorem told_len (far : List S68) (i : Nat) : (told far i).length ≤ i := by
  induction i with
  | zero => simp [told]
  | succ i ih =>
    simp only [told]
    rcases List.eq_nil_or_concat (told far i) with h | ⟨xs, y, h⟩
    · rw [h, more_nil]; simp
    · rw [List.concat_eq_append] at h
      rw [h, more_snoc]
      rw [h] at ih
      simp at ih
      split <;> simp <;> omega
theorem impl_loop (nx : Int) (far : List S68) (h0 : 0 ≤ nx) (h1 : nx ≤ 1000000) (hr : Rising nx (nx + 32) far) (hf : far.length ≤ 1048576) : ∀ d k (i : Nat), i + d = far.length → d < k →
    impl_Ear_ranges.l0 k (told far i) far (far.length : Int) (i : Int) = some ((told far far.length).take 2) := by
  intro d
  induction d with
  | zero =>
    intro k i hi hk
    obtain ⟨k, rfl⟩ : ∃ m, k = m + 1 := ⟨k - 1, by omega⟩
    obtain rfl : i = far.length := by omega
    have hl := told_len far far.length
    simp only [impl_Ear_ranges.l0]
    have hmn : ∀ x : Int, mn x 2 = if x ≤ 2 then x else 2 := fun x => by unfold mn; split <;> split <;> omega
    have hm : 0 ≤ mn ((told far far.length).length : Int) 2 ∧ mn ((told far far.length).length : Int) 2 ≤ ((told far far.length).length : Int) := by rw [hmn]; split <;> omega
    have ht : (told far far.length).take (mn ((told far far.length).length : Int) 2).toNat = (told far far.length).take 2 := by
      rw [hmn]
      split
      · have q1 : (told far far.length).take ((told far far.length).length : Int).toNat = told far far.length := List.take_of_length_le (by omega)
        have q2 : (told far far.length).take 2 = told far far.length := List.take_of_length_le (by omega)
        rw [q1, q2]
      · rfl
    rw [if_neg (by omega), if_pos hm.1, if_pos hm.2, ht]
    simp only [impl_Range_114.f]
    rw [if_pos (by simp; omega)]
    rfl
  | succ d ih =>
    intro k i hi hk
    obtain ⟨k, rfl⟩ : ∃ m, k = m + 1 := ⟨k - 1, by omega⟩
    have ha := hr.1 i (by omega)
    have hn := ih k (i + 1) (by omega) (by omega)
    have hl := told_len far i
    rw [told] at hn
    rw [impl_Ear_ranges.l0, if_pos (by omega), if_pos (by omega), if_pos (by omega)]
    have e7 : wrap64 ((i : Int) + 1) = ((i + 1 : Nat) : Int) := by rw [wrap_id (by omega) (by omega)]; omega
    have e8 : (rd_T68 far (i : Int)).f0 = At far i := rfl
    rw [e7, e8, wrap_id (n := At far i + 1) (by omega) (by omega)]
    rcases List.eq_nil_or_concat (told far i) with h | ⟨xs, y, h⟩
    · rw [h, more_nil] at hn
      rw [h, if_neg (by simp), if_pos (by simp)]
      exact hn
    · rw [List.concat_eq_append] at h
      rw [h] at hl
      rw [h, more_snoc] at hn
      rw [h, wrap_id (n := ((xs ++ [y]).length : Int) - 1) (by omega) (by omega), last_rd, last_set]
      rw [if_pos (by simp), if_pos (by simp), if_pos (by omega)]
      by_cases c : y.f1 = At far i
      · rw [if_pos c, c, wrap_id (n := At far i + 1) (by omega) (by omega)]
        rw [if_pos c] at hn
        exact hn
      · rw [if_neg c, if_pos (by omega)]
        rw [if_neg c] at hn
        exact hn
theorem told_inv (nx : Int) (far : List S68) (hr : Rising nx (nx + 32) far) : ∀ i, i < far.length → ∃ xs y, told far (i + 1) = xs ++ [y] ∧ y.f1 = At far i + 1 ∧ ∀ x, xs[1]? = some x → x.f1 ≤ At far i := by
  intro i
  induction i with
  | zero => intro _; exact ⟨[], ⟨At far 0, At far 0 + 1⟩, rfl, rfl, fun x hx => by simp at hx⟩
  | succ i ih =>
    intro hi
    obtain ⟨xs, y, h1, h2, h3⟩ := ih (by omega)
    have hlt := hr.2 i (by omega)
    have e : told far (i + 1 + 1) = more (told far (i + 1)) (At far (i + 1)) := rfl
    rw [h1, more_snoc] at e
    by_cases c : y.f1 = At far (i + 1)
    · rw [if_pos c] at e
      exact ⟨xs, _, e, rfl, fun x hx => by have := h3 x hx; omega⟩
    · rw [if_neg c] at e
      refine ⟨xs ++ [y], _, e, rfl, fun x hx => ?_⟩
      by_cases hl : 1 < xs.length
      · rw [List.getElem?_append_left hl] at hx
        have := h3 x hx
        omega
      · rw [List.getElem?_append_right (by omega)] at hx
        have : x = y := by
          have h0 : 1 - xs.length = 0 ∨ 1 - xs.length = 1 := by omega
          rcases h0 with h0 | h0 <;> rw [h0] at hx <;> simp at hx
          exact hx.symm
        subst this
        omega
theorem step0 (k : Nat) (far : List S68) (i i' a a0 a1 : Int) (got : List Int) (g0 : 0 ≤ i) (g1 : i < (far.length : Int)) (ha : (rd_T68 far i).f0 = a) (ea : wrap64 (a + 1) = a + 1) (ei : wrap64 (i + 1) = i') :
    spec_EarRanges.l0 (k + 2) [] i a0 a1 got far = spec_EarRanges.l0 k [⟨a, a + 1⟩] i' a0 a1 got far := by
  have wm : wrap64 (-1) = -1 := wl rfl (by decide) (by decide)
  rw [spec_EarRanges.l0, if_pos g1]
  simp only [List.length_nil, show ((0 : Nat) : Int) - 1 = -1 from rfl, wm]
  rw [if_neg (by decide), spec_EarRanges.j1, if_neg (by decide), if_pos (by decide), if_pos g0, if_pos g1, if_pos (by decide), ha, ea, ei]
  rfl
theorem step1 (k : Nat) (far : List S68) (y : S66) (i i' a a0 a1 : Int) (got : List Int) (g0 : 0 ≤ i) (g1 : i < (far.length : Int)) (ha : (rd_T68 far i).f0 = a) (ea : wrap64 (a + 1) = a + 1) (ei : wrap64 (i + 1) = i') :
    spec_EarRanges.l0 (k + 2) [y] i a0 a1 got far = spec_EarRanges.l0 k (if y.f1 = a then [⟨y.f0, a + 1⟩] else [y, ⟨a, a + 1⟩]) i' a0 a1 got far := by
  have w0 : wrap64 0 = 0 := wl rfl (by decide) (by decide)
  have hr1 : rd_T66 [y] 0 = y := rfl
  rw [spec_EarRanges.l0, if_pos g1]
  simp only [List.length_singleton, show ((1 : Nat) : Int) - 1 = 0 from rfl, w0, hr1, ha]
  rw [if_pos (by decide), if_pos (by decide), if_pos (by decide), if_pos g0, spec_EarRanges.j1]
  by_cases c : y.f1 = a
  · rw [if_pos c, if_pos (by simp [c]), if_pos (by decide), if_pos (by simp), hr1, c, ea, ei]
    rfl
  · rw [if_neg c, if_neg (by simp [c]), if_pos (by simp), if_pos g0, if_pos g1, if_pos (by simp), ha, ea, ei]
    rfl
theorem step2 (k : Nat) (far : List S68) (x y : S66) (i i' a a0 a1 : Int) (got : List Int) (g0 : 0 ≤ i) (g1 : i < (far.length : Int)) (ha : (rd_T68 far i).f0 = a) (ea : wrap64 (a + 1) = a + 1) (ei : wrap64 (i + 1) = i') :
    spec_EarRanges.l0 (k + 2) [x, y] i a0 a1 got far = spec_EarRanges.l0 k (if y.f1 = a then [x, ⟨y.f0, a + 1⟩] else [x, y]) i' a0 a1 got far := by
  have w1 : wrap64 1 = 1 := wl rfl (by decide) (by decide)
  have hr1 : rd_T66 [x, y] 1 = y := rfl
  rw [spec_EarRanges.l0, if_pos g1]
  simp only [List.length_cons, List.length_nil, show ((0 + 1 + 1 : Nat) : Int) - 1 = 1 from rfl, w1, hr1, ha]
  rw [if_pos (by decide), if_pos (by decide), if_pos (by decide), if_pos g0, spec_EarRanges.j1]
  by_cases c : y.f1 = a
  · rw [if_pos c, if_pos (by simp [c]), if_pos (by decide), if_pos (by simp), hr1, c, ea, ei]
    rfl
  · rw [if_neg c, if_neg (by simp [c]), if_neg (by simp), ei]
theorem spec_step (nx : Int) (far : List S68) (h0 : 0 ≤ nx) (h1 : nx ≤ 1000000) (hr : Rising nx (nx + 32) far) (hf : far.length ≤ 1048576) (i : Nat) (hi : i < far.length) (k : Nat) (a0 a1 : Int) (got : List Int) :
    spec_EarRanges.l0 (k + 2) ((told far i).take 2) (i : Int) a0 a1 got far = spec_EarRanges.l0 k ((told far (i + 1)).take 2) ((i + 1 : Nat) : Int) a0 a1 got far := by
  have ha := hr.1 i hi
  have e7 : wrap64 ((i : Int) + 1) = ((i + 1 : Nat) : Int) := by rw [wrap_id (by omega) (by omega)]; omega
  have e8 : (rd_T68 far (i : Int)).f0 = At far i := rfl
  have e9 : wrap64 (At far i + 1) = At far i + 1 := wrap_id (by omega) (by omega)
  have g0 : 0 ≤ (i : Int) := by omega
  have g1 : (i : Int) < (far.length : Int) := by omega
  have e : told far (i + 1) = more (told far i) (At far i) := rfl
  rw [e]
  cases i with
  | zero => exact step0 k far _ _ _ a0 a1 got g0 g1 e8 e9 e7
  | succ i =>
    obtain ⟨xs, y, t1, t2, t3⟩ := told_inv nx far hr i (Nat.lt_of_succ_lt hi)
    have hlt := hr.2 i hi
    rw [t1, more_snoc]
    match xs, t3 with
    | [], _ =>
      show spec_EarRanges.l0 (k + 2) [y] _ a0 a1 got far = _
      rw [step1 k far y _ _ _ a0 a1 got g0 g1 e8 e9 e7]
      split <;> rfl
    | [x], _ =>
      show spec_EarRanges.l0 (k + 2) [x, y] _ a0 a1 got far = _
      rw [step2 k far x y _ _ _ a0 a1 got g0 g1 e8 e9 e7]
      split <;> rfl
    | x :: x2 :: r, t3 =>
      have h2 := t3 x2 rfl
      show spec_EarRanges.l0 (k + 2) [x, x2] _ a0 a1 got far = _
      rw [step2 k far x x2 _ _ _ a0 a1 got g0 g1 e8 e9 e7, if_neg (by omega)]
      split <;> rfl
theorem spec_loop (nx : Int) (far : List S68) (h0 : 0 ≤ nx) (h1 : nx ≤ 1000000) (hr : Rising nx (nx + 32) far) (hf : far.length ≤ 1048576) (a0 a1 : Int) (got : List Int) : ∀ d k (i : Nat), i + d = far.length → 2 * d < k →
    spec_EarRanges.l0 k ((told far i).take 2) (i : Int) a0 a1 got far = some ((told far far.length).take 2) := by
  intro d
  induction d with
  | zero =>
    intro k i hi hk
    obtain ⟨k, rfl⟩ : ∃ m, k = m + 1 := ⟨k - 1, by omega⟩
    obtain rfl : i = far.length := by omega
    rw [spec_EarRanges.l0, if_neg (by omega)]
  | succ d ih =>
    intro k i hi hk
    obtain ⟨k, rfl⟩ : ∃ m, k = m + 2 := ⟨k - 2, by omega⟩
    rw [spec_step nx far h0 h1 hr hf i (by omega)]
    exact ih k (i + 1) (by omega) (by omega)
theorem ranges_same (nx rm : Int) (got : List Int) (far : List S68) (hg : got.length ≤ 1048576) (hf : far.length ≤ 1048576) (hr : -9223372036854775808 ≤ rm ∧ rm ≤ 9223372036854775807)
    (hw : ∀ x ∈ far, -9223372036854775808 ≤ x.f0 ∧ x.f0 ≤ 9223372036854775807) :
    ∃ Y, Y.length ≤ 2 ∧ ∀ k, 2 * far.length + 2 < k → spec_EarRanges.f k nx rm got far = some Y ∧ impl_EarRanges.f k nx rm got far = some Y := by
  obtain ⟨t, s1, s2, _⟩ := earOk_same nx rm got far hg hf hr hw (far.length + 2) (by omega)
  have hsame : ∀ k, 2 * far.length + 2 < k → spec_EarOk.f k nx rm got far = some t ∧ impl_EarOk.f k nx rm got far = some t := by
    intro k hk
    obtain ⟨t', s1', s2', _⟩ := earOk_same nx rm got far hg hf hr hw k (by omega)
    obtain ⟨d, rfl⟩ : ∃ d, k = far.length + 2 + d := ⟨k - (far.length + 2), by omega⟩
    have : spec_EarOk.f (far.length + 2 + d) nx rm got far = some t := by
      clear s1' s2' hk
      induction d with
      | zero => exact s1
      | succ d ih => exact spec_EarOk.mono nx rm got far _ _ ih
    rw [this] at s1'
    obtain rfl := Option.some.inj s1'
    exact ⟨this, s2'⟩
  cases t with
  | false =>
    refine ⟨[], by simp, fun k hk => ?_⟩
    obtain ⟨u1, u2⟩ := hsame k hk
    simp [spec_EarRanges.f, impl_EarRanges.f, u1, u2]
  | true =>
    obtain ⟨n0, n1, hri⟩ := ear_rising nx rm got far hf (far.length + 2) (by omega) s1
    refine ⟨(told far far.length).take 2, by simp; omega, fun k hk => ?_⟩
    obtain ⟨u1, u2⟩ := hsame k hk
    have q1 := spec_loop nx far n0 n1 hri hf nx rm got far.length k 0 (by omega) (by omega)
    have q2 := impl_loop nx far n0 n1 hri hf far.length k 0 (by omega) (by omega)
    simp only [spec_EarRanges.f, impl_EarRanges.f, impl_Ear_ranges.f, u1, u2, Option.bind_some, if_true]
    exact ⟨q1, by rw [show impl_Ear_ranges.l0 k [] far (far.length : Int) 0 = _ from q2]; rfl⟩
/-! ### a drawn ear -/
abbrev E1 := S68
abbrev ER := Int × Int × List Int × List E1
def InE (y : E1) : Prop := -1000000 ≤ y.f0 ∧ y.f0 ≤ 1000000
theorem rdE_mem (l : List E1) (i : Nat) (h : i < l.length) : rd_T68 l (i : Int) ∈ l := by
  have e : rd_T68 l (i : Int) = l[i] := by simp [rd_T68, List.getD_eq_getElem?_getD, List.getElem?_eq_getElem h]
  rw [e]
  exact List.getElem_mem _
theorem inE_snoc {l : List E1} {x : E1} (h : ∀ y ∈ l, InE y) (hx : InE x) : ∀ y ∈ l ++ [x], InE y := fun y hy => by
  rcases List.mem_append.1 hy with hy | hy
  · exact h y hy
  · rw [List.mem_singleton.1 hy]; exact hx
theorem inE_wide {l : List E1} (h : ∀ y ∈ l, InE y) : ∀ y ∈ l, -9223372036854775808 ≤ y.f0 ∧ y.f0 ≤ 9223372036854775807 := fun y hy => by
  have := h y hy
  unfold InE at this
  omega
theorem put_loop (l : List E1) (a b : Int) (hl : l.length ≤ 1000) (hP : ∀ y ∈ l, InE y) (ha : InE ⟨a, b⟩) : ∀ d k (i : Nat) (acc : List E1) (done : Bool), i + d = l.length → 2 * d + 2 ≤ k → acc.length ≤ i + (if done = true then 1 else 0) → (∀ y ∈ acc, InE y) →
    Tot (fun r => r.length ≤ l.length + 1 ∧ ∀ y ∈ r, InE y) (spec_l12Put.l0 k l acc done (i : Int) a b) := by
  intro d
  induction d with
  | zero =>
    intro k i acc done hi hk hc hA
    obtain ⟨k, rfl⟩ : ∃ q, k = q + 1 := ⟨k - 1, by omega⟩
    rw [spec_l12Put.l0, if_neg (by omega)]
    cases done with
    | true =>
      rw [if_pos rfl]
      rw [if_pos rfl] at hc
      exact tot_some ⟨by omega, hA⟩
    | false =>
      rw [if_neg (by simp)] at hc
      rw [if_neg (by simp), if_pos (by omega)]
      exact tot_some ⟨by simp; omega, inE_snoc hA ha⟩
  | succ d ih =>
    intro k i acc done hi hk hc hA
    obtain ⟨k, rfl⟩ : ∃ q, k = q + 2 := ⟨k - 2, by omega⟩
    have hx : InE ⟨(rd_T68 l (i : Int)).f0, (rd_T68 l (i : Int)).f1⟩ := hP _ (rdE_mem l i (by omega))
    have hc1 : acc.length ≤ i + 1 := by split at hc <;> omega
    have ew : wrap64 ((i : Int) + 1) = ((i + 1 : Nat) : Int) := by rw [wrap_id (by omega) (by omega)]; omega
    have g0 : 0 ≤ (i : Int) := by omega
    have g1 : (i : Int) < (l.length : Int) := by omega
    have step : ∀ (acc : List E1) (done : Bool), acc.length ≤ i + (if done = true then 1 else 0) → (∀ y ∈ acc, InE y) →
        Tot (fun r : List E1 => r.length ≤ l.length + 1 ∧ ∀ y ∈ r, InE y) (if acc.length < 8796093022208 then spec_l12Put.l0 k l (acc ++ [(⟨(rd_T68 l (i : Int)).f0, (rd_T68 l (i : Int)).f1⟩ : E1)]) done (wrap64 ((i : Int) + 1)) a b else none) := by
      intro acc done hc hA
      rw [if_pos (by split at hc <;> omega), ew]
      exact ih k (i + 1) _ done (by omega) (by omega) (by rw [List.length_append, List.length_singleton]; generalize (if done = true then 1 else 0) = c at hc ⊢; omega) (inE_snoc hA hx)
    have j1 : ∀ ins : Bool, (ins = true → done = false) → Tot (fun r : List E1 => r.length ≤ l.length + 1 ∧ ∀ y ∈ r, InE y) (spec_l12Put.j1 (k + 1) l acc done (i : Int) ins a b) := by
      intro ins hins
      rw [spec_l12Put.j1]
      cases ins with
      | true =>
        obtain rfl := hins rfl
        rw [if_neg (by simp)] at hc
        rw [if_pos rfl, if_pos (by omega), Option.bind_some, if_pos g0, if_pos g1]
        have hs := step (acc ++ [⟨a, b⟩]) true (by rw [if_pos rfl, List.length_append, List.length_singleton]; omega) (inE_snoc hA ha)
        split
        · exact hs
        · exact hs
      | false =>
        rw [if_neg (by simp), if_pos g0, if_pos g1]
        split
        · exact step acc true (by rw [if_pos rfl]; exact hc1) hA
        · exact step acc done hc hA
    rw [spec_l12Put.l0, if_pos g1]
    cases done with
    | true => rw [if_pos rfl]; exact j1 false (by simp)
    | false => rw [if_neg (by simp), if_pos g0]; exact j1 _ (fun _ => rfl)
theorem put_tot (l : List E1) (a b : Int) (hl : l.length ≤ 1000) (hP : ∀ y ∈ l, InE y) (ha : InE ⟨a, b⟩) (k : Nat) (hk : 2 * l.length + 2 ≤ k) : Tot (fun r => r.length ≤ l.length + 1 ∧ ∀ y ∈ r, InE y) (spec_l12Put.f k l a b) := by
  have h := put_loop l a b hl hP ha l.length k 0 [] false (by omega) hk (by simp) (fun y hy => by cases hy)
  unfold spec_l12Put.f
  rw [Int.natCast_zero] at h
  exact h
/-- What an ear is behind what it heard: no further than so many places, and no more bytes than so many. -/
def HQ (top : Int) (rm : Int) (n : Nat) (r : ER) : Prop := 0 ≤ r.1 ∧ r.1 ≤ top ∧ (r.2.1 = rm ∨ r.2.1 = 0) ∧ r.2.2.1.length + r.2.2.2.length ≤ n ∧ ∀ y ∈ r.2.2.2, InE y
theorem hq_zero {top rm : Int} {n : Nat} (h : 0 ≤ top) : HQ top rm n (0, 0, [], []) := ⟨Int.le_refl _, h, .inr rfl, Nat.zero_le _, fun y hy => by cases hy⟩
theorem hear1 (rm : Int) (far : List E1) (hf : far.length ≤ 1000) (hP : ∀ y ∈ far, InE y) (top : Int) (n : Nat) (hn : n ≤ 2000) : ∀ d k (i : Nat) (nx : Int) (got : List Int), i + d = far.length → d < k → 0 ≤ nx → nx + d ≤ top → top ≤ 100000 → got.length + d ≤ n →
    Tot (HQ top rm n) (spec_EarHear.l1 k far (i : Int) nx rm got) := by
  intro d
  induction d with
  | zero =>
    intro k i nx got hi hk h0 h1 h2 h3
    obtain ⟨k, rfl⟩ : ∃ q, k = q + 1 := ⟨k - 1, by omega⟩
    rw [spec_EarHear.l1, if_neg (by omega), if_pos (by omega), if_pos (by omega), if_neg (by omega)]
    refine tot_some ⟨h0, by omega, .inl rfl, ?_, fun y hy => hP y (List.mem_of_mem_drop hy)⟩
    simp only [List.length_drop, Int.toNat_natCast]
    omega
  | succ d ih =>
    intro k i nx got hi hk h0 h1 h2 h3
    obtain ⟨k, rfl⟩ : ∃ q, k = q + 1 := ⟨k - 1, by omega⟩
    rw [spec_EarHear.l1, if_pos (by omega), if_pos (by omega)]
    split
    · rw [if_pos (by omega), wrap_id (n := (i : Int) + 1) (by omega) (by omega), wrap_id (n := nx + 1) (by omega) (by omega), show (i : Int) + 1 = ((i + 1 : Nat) : Int) by omega]
      exact ih k (i + 1) (nx + 1) _ (by omega) (by omega) (by omega) (by omega) h2 (by rw [List.length_append, List.length_singleton]; omega)
    · rw [if_pos (by omega), if_neg (by omega)]
      refine tot_some ⟨h0, by omega, .inl rfl, ?_, fun y hy => hP y (List.mem_of_mem_drop hy)⟩
      simp only [List.length_drop, Int.toNat_natCast]
      omega
theorem hear0 (at_ : Int) (data : List Int) (v nx rm : Int) (got : List Int) (ofar : List E1) (a0 : -100 ≤ at_) (a1 : at_ ≤ 10000) (hd : data.length ≤ 10) (h0 : 0 ≤ nx) (top : Int) (n : Nat) (hn : n ≤ 2000) (ht : top ≤ 100000) :
    ∀ d k (i : Nat) (far : List E1), i + d = data.length → 300 + d ≤ k → far.length + d ≤ 90 → (∀ y ∈ far, InE y) → nx + far.length + d ≤ top → got.length + far.length + d ≤ n →
    Tot (HQ top rm n) (spec_EarHear.l0 k at_ data v far (i : Int) nx rm got ofar) := by
  intro d
  induction d with
  | zero =>
    intro k i far hi hk hf hP ht1 hn1
    obtain ⟨k, rfl⟩ : ∃ q, k = q + 1 := ⟨k - 1, by omega⟩
    rw [spec_EarHear.l0, if_neg (by omega), Option.bind_some, if_pos (by simp; omega), List.nil_append]
    have h := hear1 rm far (by omega) hP top n hn far.length k 0 nx got (by omega) (by omega) h0 (by omega) ht (by omega)
    rw [Int.natCast_zero] at h
    exact h
  | succ d ih =>
    intro k i far hi hk hf hP ht1 hn1
    obtain ⟨k, rfl⟩ : ∃ q, k = q + 1 := ⟨k - 1, by omega⟩
    rw [spec_EarHear.l0, if_pos (by omega), wrap_id (n := at_ + (i : Int)) (by omega) (by omega), wrap_id (n := (i : Int) + 1) (by omega) (by omega), show (i : Int) + 1 = ((i + 1 : Nat) : Int) by omega]
    have go : Tot (HQ top rm n) (spec_EarHear.l0 k at_ data v far ((i + 1 : Nat) : Int) nx rm got ofar) := ih k (i + 1) far (by omega) (by omega) (by omega) hP (by omega) (by omega)
    refine tot_ite (fun _ => tot_ite (fun _ => ?_) (fun _ => go)) (fun _ => go)
    rw [if_pos (by omega)]
    refine tot_bind (put_tot far (at_ + (i : Int)) (rd data (i : Int)) (by omega) hP ⟨by dsimp only; omega, by dsimp only; omega⟩ k (by omega)) (fun f hf' => ?_)
    exact ih k (i + 1) f (by omega) (by omega) (by omega) hf'.2 (by omega) (by omega)
theorem earOk_tot (nx rm : Int) (got : List Int) (far : List E1) (hg : got.length ≤ 1000) (hf : far.length ≤ 100) (r0 : -1000 ≤ rm) (r1 : rm ≤ 1000) (hP : ∀ y ∈ far, InE y) (k : Nat) (hk : 110 ≤ k) : Tot (fun _ => True) (spec_EarOk.f k nx rm got far) := by
  obtain ⟨t, h, _, _⟩ := earOk_same nx rm got far (by omega) (by omega) ⟨by omega, by omega⟩ (inE_wide hP) k (by omega)
  exact ⟨t, h, trivial⟩
theorem hear_tot (nx rm : Int) (got : List Int) (far : List E1) (at_ : Int) (data : List Int) (a0 : -100 ≤ at_) (a1 : at_ ≤ 10000) (hd : data.length ≤ 10) (h0 : 0 ≤ nx) (h1 : nx ≤ 1000) (r0 : -1000 ≤ rm) (r1 : rm ≤ 1000) (hg : got.length ≤ 1000) (hf : far.length ≤ 50) (hP : ∀ y ∈ far, InE y) (k : Nat) (hk : 500 ≤ k) :
    Tot (HQ (nx + far.length + data.length) rm (got.length + far.length + data.length)) (spec_EarHear.f k nx rm got far at_ data) := by
  obtain ⟨k', hk'⟩ : ∃ q, k = q + 1 := ⟨k - 1, by omega⟩
  have jt : Tot (HQ (nx + far.length + data.length) rm (got.length + far.length + data.length)) (spec_EarHear.j0 k at_ data true nx rm got far) := by
    subst hk'
    rw [spec_EarHear.j0, if_pos rfl]
    exact tot_some (hq_zero (by omega))
  have jf : Tot (HQ (nx + far.length + data.length) rm (got.length + far.length + data.length)) (spec_EarHear.j0 k at_ data false nx rm got far) := by
    subst hk'
    rw [spec_EarHear.j0, if_neg (by simp)]
    have hv : Tot (fun _ => True) (spec_EarFree.f k' nx rm got far) := by
      unfold spec_EarFree.f
      refine tot_bind (earOk_tot nx rm got far hg (by omega) r0 r1 hP k' (by omega)) (fun t _ => ?_)
      exact tot_ite (fun _ => tot_some trivial) (fun _ => tot_some trivial)
    refine tot_bind hv (fun v _ => ?_)
    rw [Option.bind_some, if_pos (by simp; omega), List.nil_append]
    have h := hear0 at_ data v nx rm got far a0 a1 hd h0 (nx + far.length + data.length) (got.length + far.length + data.length) (by omega) (by omega) data.length k' 0 far (by omega) (by omega) (by omega) hP (by omega) (by omega)
    rw [Int.natCast_zero] at h
    exact h
  unfold spec_EarHear.f
  refine tot_bind (earOk_tot nx rm got far hg (by omega) r0 r1 hP k (by omega)) (fun t _ => tot_ite (fun _ => ?_) (fun _ => jt))
  rw [inAll, Option.bind_some]
  cases decide (0 ≤ at_ ∧ at_ ≤ 1000000) with
  | true => exact jf
  | false => exact jt
theorem read_tot (nx rm : Int) (got : List Int) (far : List E1) (a : Int) (h0 : 0 ≤ nx) (r0 : -1000 ≤ rm) (r1 : rm ≤ 1000) (hg : got.length ≤ 1000) (hf : far.length ≤ 100) (hP : ∀ y ∈ far, InE y) (k : Nat) (hk : 500 ≤ k) :
    Tot (fun r : Int × Int × List Int × List E1 × List Int => 0 ≤ r.1 ∧ r.1 ≤ nx ∧ (r.2.1 = rm ∨ r.2.1 = 0) ∧ r.2.2.1.length + r.2.2.2.1.length ≤ got.length + far.length ∧ ∀ y ∈ r.2.2.2.1, InE y) (spec_EarRead.f k nx rm got far a) := by
  unfold spec_EarRead.f
  refine tot_bind (earOk_tot nx rm got far hg (by omega) r0 r1 hP k (by omega)) (fun t _ => tot_ite (fun _ => tot_ite (fun _ => ?_) (fun c => ?_)) (fun _ => ?_))
  · exact tot_some ⟨by simp, by simpa using h0, .inr rfl, by simp, fun y hy => by cases hy⟩
  · have hm : 0 ≤ mn a (got.length : Int) ∧ mn a (got.length : Int) ≤ (got.length : Int) := by
      unfold mn
      split <;> omega
    rw [Option.bind_some, if_pos hm.1, if_pos hm.2, if_pos (by simp; omega), Option.bind_some, if_pos (by simp; omega), Option.bind_some, if_pos (by simp; omega)]
    exact tot_some ⟨h0, Int.le_refl _, .inl rfl, by first | (simp; done) | (simp; omega), by simpa using hP⟩
  · exact tot_some ⟨by simp, by simpa using h0, .inr rfl, by simp, fun y hy => by cases hy⟩
theorem heard_loop (a : Int) (n : Int) (hn : n ≤ 10) (a0 : -100 ≤ a) (a1 : a ≤ 10000) : ∀ (d k i : Nat) (acc : List Int), (i : Int) + d = n → d < k → acc.length = i → Tot (fun r => (r.length : Int) = n) (spec_l20Heard.l0 k a n acc (i : Int)) := by
  intro d
  induction d with
  | zero =>
    intro k i acc hi hk ha
    obtain ⟨k, rfl⟩ : ∃ q, k = q + 1 := ⟨k - 1, by omega⟩
    rw [spec_l20Heard.l0, if_neg (by omega)]
    exact tot_some (by omega)
  | succ d ih =>
    intro k i acc hi hk ha
    obtain ⟨k, rfl⟩ : ∃ q, k = q + 1 := ⟨k - 1, by omega⟩
    rw [spec_l20Heard.l0, if_pos (by omega), spec_l20Stream.f, Option.bind_some, if_pos (by omega), wrap_id (n := (i : Int) + 1) (by omega) (by omega), show (i : Int) + 1 = ((i + 1 : Nat) : Int) by omega]
    exact ih k (i + 1) _ (by omega) (by omega) (by simp; omega)
theorem heard_tot (a n : Int) (h0 : 0 ≤ n) (hn : n ≤ 10) (a0 : -100 ≤ a) (a1 : a ≤ 10000) (k : Nat) (hk : 20 ≤ k) : Tot (fun r => (r.length : Int) = n) (spec_l20Heard.f k a n) := by
  have h := heard_loop a n hn a0 a1 n.toNat k 0 [] (by omega) (by omega) rfl
  rw [Int.natCast_zero] at h
  unfold spec_l20Heard.f
  exact h
/-- A drawn ear, ok or not. -/
def Fin (r : Int × Int × List Int × List E1 × Int) : Prop := -1 ≤ r.1 ∧ r.1 ≤ 1000 ∧ 0 ≤ r.2.1 ∧ r.2.1 ≤ 40 ∧ r.2.2.1.length ≤ 100 ∧ r.2.2.2.1.length ≤ 50 ∧ ∀ y ∈ r.2.2.2.1, InE y
theorem ear_end {s : List Int} (hs : Code s) (z : Int) (k : Nat) (p nx rm : Int) (got : List Int) (far : List E1) (hk : 100 ≤ k) (p0 : 0 ≤ p) (p1 : p ≤ 10000) (h0 : 0 ≤ nx) (h1 : nx ≤ 400) (r0 : 0 ≤ rm) (r1 : rm ≤ 23) (hl : got.length + far.length ≤ 20) (hP : ∀ y ∈ far, InE y) :
    Tot Fin (spec_l20Ear.l0 k z 0 s p nx rm got far) := by
  obtain ⟨k, rfl⟩ : ∃ q, k = q + 1 := ⟨k - 1, by omega⟩
  rw [spec_l20Ear.l0, if_neg (by omega)]
  refine tot_odd hs (by omega) (by omega) (by omega) ?_; intro o p3 q5 q6; dsimp only
  have fin : ∀ (nx rm : Int) (got : List Int) (far : List E1) (p : Int), -1 ≤ nx → nx ≤ 1000 → 0 ≤ rm → rm ≤ 40 → got.length ≤ 100 → far.length ≤ 50 → (∀ y ∈ far, InE y) → Tot Fin (some (nx, rm, got, far, p)) := fun _ _ _ _ _ a b c d e f g => tot_some ⟨a, b, c, d, e, f, g⟩
  refine tot_ite (fun _ => ?_) (fun _ => fin _ _ _ _ _ (by omega) (by omega) r0 (by omega) (by omega) (by omega) hP)
  refine tot_pick hs (by omega) (by omega) (by omega) (by omega) ?_; intro c c0 c1; dsimp only
  refine tot_ite (fun _ => ?_) (fun _ => tot_ite (fun _ => fin _ _ _ _ _ (by omega) (by omega) r0 (by omega) (by omega) (by omega) hP) (fun _ => tot_ite (fun _ => ?_) (fun _ => ?_)))
  · refine tot_pick hs (by omega) (by omega) (by omega) (by omega) ?_; intro e e0 e1; dsimp only
    have ew : wrap64 (e * 33) = e * 33 := wrap_id (by omega) (by omega)
    rw [ew]
    exact fin _ _ _ _ _ (by omega) (by omega) (by omega) (by omega) (by omega) (by omega) hP
  · refine tot_pick hs (by omega) (by omega) (by omega) (by omega) ?_; intro e e0 e1; dsimp only
    rw [if_pos (by omega), wrap_id (n := nx + e) (by omega) (by omega), wrap_id (n := nx + e - 3) (by omega) (by omega)]
    exact fin _ _ _ _ _ (by omega) (by omega) r0 (by omega) (by omega) (by simp; omega) (inE_snoc hP ⟨by dsimp only; omega, by dsimp only; omega⟩)
  · rw [if_pos (by omega)]
    exact fin _ _ _ _ _ (by omega) (by omega) r0 (by omega) (by simp; omega) (by omega) hP
theorem ear_loop {s : List Int} (hs : Code s) (z : Int) : ∀ (m : Nat) (j : Nat) (k : Nat) (p nx rm : Int) (got : List Int) (far : List E1), m + j ≤ 5 → 600 + m ≤ k → 0 ≤ p → p ≤ 1000 + 10 * (j : Int) → 0 ≤ nx → nx ≤ 180 + 30 * (j : Int) → 0 ≤ rm → rm ≤ 23 → got.length + far.length ≤ 4 * j → (∀ y ∈ far, InE y) →
    Tot Fin (spec_l20Ear.l0 k z (m : Int) s p nx rm got far) := by
  intro m
  induction m with
  | zero =>
    intro j k p nx rm got far hj hk p0 p1 h0 h1 r0 r1 hl hP
    exact ear_end hs z k p nx rm got far (by omega) p0 (by omega) h0 (by omega) r0 r1 (by omega) hP
  | succ m ih =>
    intro j k p nx rm got far hj hk p0 p1 h0 h1 r0 r1 hl hP
    obtain ⟨k, rfl⟩ : ∃ q, k = q + 1 := ⟨k - 1, by omega⟩
    have em : wrap64 (((m + 1 : Nat) : Int) - 1) = (m : Int) := by rw [wrap_id (by omega) (by omega)]; omega
    rw [spec_l20Ear.l0, if_pos (by omega), em]
    refine tot_pick hs (by omega) (by omega) (by omega) (by omega) ?_; intro a a0 a1; dsimp only
    refine tot_pick hs (by omega) (by omega) (by omega) (by omega) ?_; intro b b0 b1; dsimp only
    rw [wrap_id (n := nx + a) (by omega) (by omega), wrap_id (n := nx + a - 4) (by omega) (by omega)]
    refine tot_bind (heard_tot (nx + a - 4) b b0 (by omega) (by omega) (by omega) k (by omega)) (fun data hd => ?_)
    refine tot_bind (hear_tot nx rm got far (nx + a - 4) data (by omega) (by omega) (by omega) h0 (by omega) (by omega) (by omega) (by omega) (by omega) hP k (by omega)) (fun r hr => ?_)
    obtain ⟨q1, q2, q3, q4, q5⟩ := hr
    refine tot_pick hs (by omega) (by omega) (by omega) (by omega) ?_; intro c c0 c1; dsimp only
    have rr : 0 ≤ r.2.1 ∧ r.2.1 ≤ 23 := by rcases q3 with q3 | q3 <;> omega
    refine tot_ite (fun _ => ?_) (fun _ => ?_)
    · refine tot_pick hs (by omega) (by omega) (by omega) (by omega) ?_; intro e e0 e1; dsimp only
      refine tot_bind (read_tot r.1 r.2.1 r.2.2.1 r.2.2.2 e q1 (by omega) (by omega) (by omega) (by omega) q5 k (by omega)) (fun u hu => ?_)
      obtain ⟨u1, u2, u3, u4, u5⟩ := hu
      have ur : 0 ≤ u.2.1 ∧ u.2.1 ≤ 23 := by rcases u3 with u3 | u3 <;> omega
      exact ih (j + 1) k _ _ _ _ _ (by omega) (by omega) (by omega) (by omega) u1 (by omega) ur.1 ur.2 (by omega) u5
    · exact ih (j + 1) k _ _ _ _ _ (by omega) (by omega) (by omega) (by omega) q1 (by omega) rr.1 rr.2 (by omega) q5
theorem ear_tot {s : List Int} (hs : Code s) (z : Int) (k : Nat) (hk : 700 ≤ k) : Tot Fin (spec_l20Ear.f k s 0 z) := by
  unfold spec_l20Ear.f
  refine tot_pick hs (by omega) (by omega) (by omega) (by omega) ?_; intro a a0 a1; dsimp only
  refine tot_pick hs (by omega) (by omega) (by omega) (by omega) ?_; intro b b0 b1; dsimp only
  refine tot_pick hs (by omega) (by omega) (by omega) (by omega) ?_; intro c c0 c1; dsimp only
  rw [wrap_id (n := a * 40) (by omega) (by omega), wrap_id (n := 100 + a * 40) (by omega) (by omega), wrap_id (n := 4 + b) (by omega) (by omega)]
  obtain ⟨m, rfl⟩ : ∃ m : Nat, c = (m : Int) := ⟨c.toNat, by omega⟩
  exact ear_loop hs z m 0 k _ _ _ [] [] (by omega) (by omega) (by omega) (by omega) (by omega) (by omega) (by omega) (by omega) (by simp) (fun y hy => by cases hy)
abbrev RG := S66
theorem ev_step {α : Type} {g : Nat → Option α} (f : Nat → Option α) {r : α} (h : ∀ k, g (k + 1) = f k) (k : Ev f r) : Ev g r := Ev.step h k
theorem ev_bind {α β : Type} {g : Nat → Option α} {f : Nat → α → Option β} {a : α} {r : β} (h : Ev g a) (k : Ev (fun n => f n a) r) : Ev (fun n => (g n).bind (f n)) r := Ev.bind h k
theorem ev_eq {α : Type} {g : Nat → Option α} (f : Nat → Option α) {r : α} (h : ∀ k, g k = f k) (k : Ev f r) : Ev g r := Ev.congr h k
theorem alive_ev : Ev (fun k => (laws_alive.f k).bind fun t => some t) true := ⟨3, fun k hk => by
  obtain ⟨q, rfl⟩ : ∃ q, k = q + 3 := ⟨k - 3, by omega⟩
  show (laws_alive.f (q + 3)).bind _ = _
  rw [alive_true q]
  rfl⟩
theorem draw_tot (l : List Int) (hw : ∀ x ∈ l, (Lit.int .u8 x).wf = true) : Tot (fun r : ER => Fin (r.1, r.2.1, r.2.2.1, r.2.2.2, 0)) (spec_DrawEarRanges.f 2000 l) := by
  obtain ⟨s, hs, hc⟩ := open_some l hw
  unfold spec_DrawEarRanges.f
  rw [hs, Option.bind_some]
  exact tot_bind (ear_tot hc 9 2000 (by omega)) (fun r hr => tot_some hr)
/-- A range that is told: behind Next, not empty, and each of its places is an early byte's. -/
def RIn (nx : Int) (far : List E1) (x : RG) : Prop := nx < x.f0 ∧ x.f0 < x.f1 ∧ x.f1 ≤ nx + 40 ∧ ∀ p, x.f0 ≤ p → p < x.f1 → ∃ j, j < far.length ∧ At far j = p
def Good (nx : Int) (far : List E1) (xs : List RG) : Prop := (∀ x ∈ xs, RIn nx far x) ∧ xs.Pairwise (fun x y => x.f1 < y.f0)
theorem told_good (nx : Int) (far : List E1) (hr : Rising nx (nx + 32) far) : ∀ i, i ≤ far.length → Good nx far (told far i) ∧ (0 < i → ∃ xs y, told far i = xs ++ [y] ∧ y.f1 = At far (i - 1) + 1) := by
  intro i
  induction i with
  | zero => intro _; exact ⟨⟨(fun x hx => by cases hx), List.Pairwise.nil⟩, fun h => by omega⟩
  | succ i ih =>
    intro hi
    obtain ⟨⟨g1, g2⟩, g3⟩ := ih (by omega)
    have hb := hr.1 i (by omega)
    have one : RIn nx far ⟨At far i, At far i + 1⟩ := ⟨by dsimp only; omega, by dsimp only; omega, by dsimp only; omega, fun p p0 p1 => ⟨i, by omega, by dsimp only at p0 p1; omega⟩⟩
    rcases Nat.eq_zero_or_pos i with h0 | h0
    · subst h0
      rw [show told far (0 + 1) = [⟨At far 0, At far 0 + 1⟩] from rfl]
      exact ⟨⟨fun x hx => by rw [List.mem_singleton.1 hx]; exact one, List.pairwise_singleton _ _⟩, fun _ => ⟨[], _, rfl, rfl⟩⟩
    · obtain ⟨xs, y, e, hy⟩ := g3 h0
      have hs := hr.2 (i - 1) (by omega)
      rw [show i - 1 + 1 = i by omega] at hs
      rw [e] at g1 g2
      have gy := g1 y (by simp)
      rw [List.pairwise_append] at g2
      obtain ⟨p1, _, p3⟩ := g2
      rw [show told far (i + 1) = more (told far i) (At far i) from rfl, e, more_snoc]
      by_cases c : y.f1 = At far i
      · rw [if_pos c]
        refine ⟨⟨fun x hx => ?_, ?_⟩, fun _ => ⟨xs, _, rfl, rfl⟩⟩
        · rcases List.mem_append.1 hx with hx | hx
          · exact g1 x (by simp [hx])
          · rw [List.mem_singleton.1 hx]
            refine ⟨gy.1, by dsimp only; have := gy.2.1; omega, by dsimp only; omega, fun p q0 q1 => ?_⟩
            dsimp only at q0 q1
            by_cases hp : p < y.f1
            · exact gy.2.2.2 p q0 hp
            · exact ⟨i, by omega, by omega⟩
        · rw [List.pairwise_append]
          exact ⟨p1, List.pairwise_singleton _ _, fun a ha b hb' => by rw [List.mem_singleton.1 hb']; exact p3 a ha y (by simp)⟩
      · rw [if_neg c]
        refine ⟨⟨fun x hx => ?_, ?_⟩, fun _ => ⟨xs ++ [y], _, rfl, rfl⟩⟩
        · rcases List.mem_append.1 hx with hx | hx
          · exact g1 x hx
          · rw [List.mem_singleton.1 hx]; exact one
        · rw [List.pairwise_append]
          refine ⟨by rw [List.pairwise_append]; exact ⟨p1, List.pairwise_singleton _ _, p3⟩, List.pairwise_singleton _ _, fun a ha b hb' => ?_⟩
          rw [List.mem_singleton.1 hb']
          dsimp only
          rcases List.mem_append.1 ha with ha | ha
          · have := p3 a ha y (by simp)
            have := gy.2.1
            omega
          · rw [List.mem_singleton.1 ha]
            omega
theorem rdR_at (Y : List RG) (i : Nat) (h : i < Y.length) : rd_T66 Y (i : Int) = Y[i] := by simp [rd_T66, List.getD_eq_getElem?_getD, List.getElem?_eq_getElem h]
section
variable (Y : List RG) (nx rm : Int) (got : List Int) (far : List E1)
theorem found_ev (hf : far.length ≤ 1000) (q : Nat) (p : Int) (hn : Ev (fun k => laws_FnEarRanges.l1 k Y (q : Int) (wrap64 (p + 1)) nx rm got far) true) : ∀ d (i : Nat) (b : Bool), i + d = far.length → (b = true ∨ ∃ j, i ≤ j ∧ j < far.length ∧ At far j = p) →
    Ev (fun k => laws_FnEarRanges.l2 k Y (q : Int) p b (i : Int) nx rm got far) true := by
  intro d
  induction d with
  | zero =>
    intro i b hi hb
    have hb' : b = true := by
      rcases hb with hb | ⟨j, j0, j1, _⟩
      · exact hb
      · omega
    subst hb'
    refine ev_step _ (fun k => ?_) hn
    rw [laws_FnEarRanges.l2, if_neg (by omega), if_pos rfl]
  | succ d ih =>
    intro i b hi hb
    cases b with
    | true =>
      refine ev_step _ (fun k => ?_) (ih (i + 1) true (by omega) (.inl rfl))
      rw [laws_FnEarRanges.l2, if_pos (by omega), if_pos rfl, wrap_id (n := (i : Int) + 1) (by omega) (by omega), show (i : Int) + 1 = ((i + 1 : Nat) : Int) by omega]
    | false =>
      have hj : ∃ j, i ≤ j ∧ j < far.length ∧ At far j = p := by
        rcases hb with hb | hb
        · cases hb
        · exact hb
      have hn' : ((rd_T68 far (i : Int)).f0 == p) = true ∨ ∃ j, i + 1 ≤ j ∧ j < far.length ∧ At far j = p := by
        obtain ⟨j, j0, j1, j2⟩ := hj
        by_cases e : j = i
        · subst e; exact .inl (by simpa [At] using j2)
        · exact .inr ⟨j, by omega, j1, j2⟩
      refine ev_step _ (fun k => ?_) (ih (i + 1) _ (by omega) hn')
      rw [laws_FnEarRanges.l2, if_pos (by omega), if_neg (by simp), if_pos (by omega), wrap_id (n := (i : Int) + 1) (by omega) (by omega), show (i : Int) + 1 = ((i + 1 : Nat) : Int) by omega]
theorem places_ev (hf : far.length ≤ 1000) (h0 : 0 ≤ nx) (h1 : nx ≤ 1000000) (q : Nat) (hq : q < Y.length) (hx : RIn nx far Y[q]) (hq2 : Y.length ≤ 2) (hn : Ev (fun k => laws_FnEarRanges.l0 k Y ((q + 1 : Nat) : Int) nx rm got far) true) : ∀ (m : Nat) (p : Int), p + m = Y[q].f1 → Y[q].f0 ≤ p →
    Ev (fun k => laws_FnEarRanges.l1 k Y (q : Int) p nx rm got far) true := by
  obtain ⟨x1, x2, x3, x4⟩ := hx
  intro m
  induction m with
  | zero =>
    intro p hp h2
    refine ev_step _ (fun k => ?_) hn
    rw [laws_FnEarRanges.l1, if_pos (by omega), if_pos (by omega), rdR_at Y q hq, if_neg (by omega), wrap_id (n := (q : Int) + 1) (by omega) (by omega), show (q : Int) + 1 = ((q + 1 : Nat) : Int) by omega]
  | succ m ih =>
    intro p hp h2
    have hw : wrap64 (p + 1) = p + 1 := wrap_id (by omega) (by omega)
    have hi := ih (p + 1) (by omega) (by omega)
    obtain ⟨j, j0, j1⟩ := x4 p h2 (by omega)
    have hl := found_ev Y nx rm got far hf q p (by rw [hw]; exact hi) far.length 0 false (by omega) (.inr ⟨j, Nat.zero_le _, j0, j1⟩)
    refine ev_step _ (fun k => ?_) hl
    rw [laws_FnEarRanges.l1, if_pos (by omega), if_pos (by omega), rdR_at Y q hq, if_pos (by omega)]
    rfl
theorem ranges_ev (hf : far.length ≤ 1000) (h0 : 0 ≤ nx) (h1 : nx ≤ 1000000) (hg : Good nx far Y) (hy : Y.length ≤ 2) (he : (decide ((Y.length : Int) > 0) == decide ((far.length : Int) > 0)) = true) : ∀ d (q : Nat), q + d = Y.length → Ev (fun k => laws_FnEarRanges.l0 k Y (q : Int) nx rm got far) true := by
  intro d
  induction d with
  | zero =>
    intro q hq
    refine ev_step _ (fun k => ?_) alive_ev
    rw [laws_FnEarRanges.l0, if_neg (by omega), if_pos he, if_pos (by omega)]
  | succ d ih =>
    intro q hq
    have hql : q < Y.length := by omega
    have hx := hg.1 Y[q] (List.getElem_mem hql)
    have hl := places_ev Y nx rm got far hf h0 h1 q hql hx hy (ih (q + 1) (by omega)) (Y[q].f1 - Y[q].f0).toNat Y[q].f0 (by have := hx.2.1; omega) (Int.le_refl _)
    have hj : Ev (fun k => laws_FnEarRanges.j1 k Y (q : Int) false nx rm got far) true := by
      refine ev_step _ (fun k => ?_) hl
      rw [laws_FnEarRanges.j1, if_neg (by simp), if_pos (by omega), if_pos (by omega), rdR_at Y q hql]
    refine ev_step _ (fun k => ?_) hj
    have hx1 := hx.1
    rw [laws_FnEarRanges.l0, if_pos (by omega), if_pos (by omega), rdR_at Y q hql, if_neg (by omega)]
    by_cases c : (q : Int) > 0
    · have hw : wrap64 ((q : Int) - 1) = ((q - 1 : Nat) : Int) := by rw [wrap_id (by omega) (by omega)]; omega
      have hp := List.pairwise_iff_getElem.1 hg.2 (q - 1) q (by omega) hql (by omega)
      rw [if_pos c, hw, if_pos (by omega), if_pos (by omega), rdR_at Y (q - 1) (by omega), decide_eq_false (by omega)]
    · rw [if_neg c]
end
theorem same_ev (Y : List RG) (hy : Y.length ≤ 2) : ∀ d (i : Nat), i + d = Y.length → Ev (fun k => laws_sameRanges.l0 k Y Y (i : Int)) true := by
  intro d
  induction d with
  | zero =>
    intro i hi
    refine ev_step (fun _ => some true) (fun k => ?_) (Ev.now _)
    rw [laws_sameRanges.l0, if_neg (by omega)]
  | succ d ih =>
    intro i hi
    refine ev_step _ (fun k => ?_) (ih (i + 1) (by omega))
    rw [laws_sameRanges.l0, if_pos (by omega), if_pos (by omega), if_pos (by omega), if_neg (by simp), wrap_id (n := (i : Int) + 1) (by omega) (by omega), show (i : Int) + 1 = ((i + 1 : Nat) : Int) by omega]
theorem main : GFnEarRanges.Stmt := by
  intro l hl0
  obtain ⟨_, hw⟩ := hl0
  refine Ev.rounds (r := true) ?_
  by_cases hl : (l.length : Int) > 1048576
  · exact ⟨0, fun k _ => by show laws_FnEarRanges.f k l = some true; unfold laws_FnEarRanges.f; rw [if_pos hl]⟩
  · obtain ⟨⟨nx, rm, got, far⟩, hd, f1, f2, f3, f4, f5, f6, f7⟩ := draw_tot l hw
    dsimp only at f1 f2 f3 f4 f5 f6 f7
    obtain ⟨t, s1, s2, _⟩ := earOk_same nx rm got far (by omega) (by omega) ⟨by omega, by omega⟩ (inE_wide f7) (far.length + 2) (by omega)
    have evOk : Ev (fun k => impl_EarOk.f k nx rm got far) t := Ev.of (fun k => impl_EarOk.mono nx rm got far k) s2
    have key : ∃ Y : List RG, Y.length ≤ 2 ∧ Ev (fun k => impl_EarRanges.f k nx rm got far) Y ∧ Ev (fun k => spec_EarRanges.f k nx rm got far) Y ∧ (if t = true then Good nx far Y ∧ (decide ((Y.length : Int) > 0) == decide ((far.length : Int) > 0)) = true ∧ 0 ≤ nx ∧ nx ≤ 1000000 else Y = []) := by
      have sameOk : ∀ k, 2 * far.length + 2 < k → spec_EarOk.f k nx rm got far = some t ∧ impl_EarOk.f k nx rm got far = some t := by
        intro k hk
        obtain ⟨d, rfl⟩ : ∃ d, k = far.length + 2 + d := ⟨k - (far.length + 2), by omega⟩
        exact ⟨at_rounds (fun q => spec_EarOk.mono nx rm got far q) (by omega) s1, at_rounds (fun q => impl_EarOk.mono nx rm got far q) (by omega) s2⟩
      cases t with
      | false =>
        refine ⟨[], by simp, ⟨2 * far.length + 3, fun k hk => ?_⟩, ⟨2 * far.length + 3, fun k hk => ?_⟩, by simp⟩
        · obtain ⟨u1, u2⟩ := sameOk k (by omega)
          simp [impl_EarRanges.f, u2]
        · obtain ⟨u1, u2⟩ := sameOk k (by omega)
          simp [spec_EarRanges.f, u1]
      | true =>
        obtain ⟨n0, n1, hri⟩ := ear_rising nx rm got far (by omega) (far.length + 2) (by omega) s1
        obtain ⟨g1, g2⟩ := told_good nx far hri far.length (Nat.le_refl _)
        refine ⟨(told far far.length).take 2, by simp; omega, ⟨2 * far.length + 3, fun k hk => ?_⟩, ⟨2 * far.length + 3, fun k hk => ?_⟩, ?_⟩
        · obtain ⟨u1, u2⟩ := sameOk k (by omega)
          have q2 := impl_loop nx far n0 n1 hri (by omega) far.length k 0 (by omega) (by omega)
          simp only [impl_EarRanges.f, impl_Ear_ranges.f, u2, Option.bind_some, if_true]
          rw [show impl_Ear_ranges.l0 k [] far (far.length : Int) 0 = _ from q2]
          rfl
        · obtain ⟨u1, u2⟩ := sameOk k (by omega)
          have q1 := spec_loop nx far n0 n1 hri (by omega) nx rm got far.length k 0 (by omega) (by omega)
          simp only [spec_EarRanges.f, u1, Option.bind_some, if_true]
          exact q1
        · rw [if_pos rfl]
          refine ⟨⟨fun x hx => g1.1 x (List.mem_of_mem_take hx), g1.2.sublist (List.take_sublist _ _)⟩, ?_, n0, n1⟩
          rcases Nat.eq_zero_or_pos far.length with hz | hz
          · have : told far far.length = [] := by rw [hz]; rfl
            rw [this, hz]
            rfl
          · obtain ⟨xs, y, e, _⟩ := g2 hz
            have : 0 < ((told far far.length).take 2).length := by rw [e]; simp; omega
            rw [decide_eq_true (by omega), decide_eq_true (by omega)]
            rfl
    obtain ⟨Y, hy, i1, i2, hY⟩ := key
    have hsame : Ev (fun k => laws_sameRanges.f k Y Y) true := by
      refine ev_eq _ (fun k => ?_) (same_ev Y hy Y.length 0 (by omega))
      unfold laws_sameRanges.f
      rw [if_pos rfl]
      rfl
    have evD : Ev (fun k => spec_DrawEarRanges.f k l) (nx, rm, got, far) := Ev.of (fun k => spec_DrawEarRanges.mono l k) hd
    refine ev_eq _ (fun k => by unfold laws_FnEarRanges.f; rw [if_neg hl]) ?_
    refine ev_bind evD (ev_bind i1 (ev_bind i2 (ev_bind hsame (ev_eq _ (fun k => if_pos rfl) (ev_bind evOk ?_)))))
    cases t with
    | false =>
      rw [if_neg (by simp)] at hY
      subst hY
      exact ev_eq _ (fun k => by rw [if_neg (by simp), if_pos (by simp)]) alive_ev
    | true =>
      rw [if_pos rfl] at hY
      obtain ⟨y1, y2, y3, y4⟩ := hY
      exact ev_eq _ (fun k => if_pos rfl) (ranges_ev Y nx rm got far (by omega) y3 y4 y1 hy y2 Y.length 0 (by omega))
end FnEarRanges_
theorem FnEarRanges : GFnEarRanges.Stmt := FnEarRanges_.main
end Go.Proofs.Ytkkibccnpkbbjab.Pure
