/- The pure law of FnSegmentLong: whatever the code, the drawn segment is as long for the program as for the reference; it is 0 just if there is nothing in it; what it heard does not count; and a byte more counts one. No conditions. -/
import Derived.Test.YtfcocnhkimbpbabGFnSegmentLong
namespace Go.Proofs.Ytfcocnhkimbpbab.Pure
open Go Go.RowKit Go.Proofs.Ytfcocnhkimbpbab.MFnSegmentLong Go.Proofs.YtfcocnhkimbpbabV.PrintWords Go.Proofs.YtfcocnhkimbpbabV.PrintLast
set_option linter.unusedVariables false
set_option linter.unusedSimpArgs false
namespace FnSegmentLong_
theorem i64_bounds {x : Int} (h : (Lit.int .i64 x).wf = true) : -9223372036854775808 ≤ x ∧ x ≤ 9223372036854775807 := by
  simpa [Lit.wf, IntKind.min, IntKind.max, IntKind.signed, IntKind.bits] using h
theorem wl {n m : Int} (h : n = m) (h0 : -9223372036854775808 ≤ m) (h1 : m ≤ 9223372036854775807) : wrap64 n = m := by
  subst h
  unfold wrap64
  omega
/-! ### a draw: a number in 0..n-1, and the place one further -/
theorem xor_nat (a b : Nat) (ha : a < 9223372036854775808) (hb : b < 9223372036854775808) : Go.bits .xor .i64 (a : Int) (b : Int) = ((a ^^^ b : Nat) : Int) := by
  have hx : a ^^^ b < 2 ^ 63 := Nat.xor_lt_two_pow (by omega) (by omega)
  have ha' : a % 2 ^ 64 = a := Nat.mod_eq_of_lt (by omega)
  have hb' : b % 2 ^ 64 = b := Nat.mod_eq_of_lt (by omega)
  have e : IntKind.i64.bits = 64 := rfl
  simp only [Go.bits, BitVec.ofInt_natCast, BitVec.toNat_xor, BitVec.toNat_ofNat, e, ha', hb']
  rw [IntKind.wrap_i64]
  omega
theorem wrap_in {n : Int} (h : -9223372036854775808 ≤ n) (h' : n ≤ 9223372036854775807) : wrap64 n = n := by
  unfold wrap64; omega
theorem u8_bounds {x : Int} (h : (Lit.int .u8 x).wf = true) : 0 ≤ x ∧ x ≤ 255 := by
  simpa [Lit.wf, IntKind.min, IntKind.max, IntKind.signed, IntKind.bits] using h
/-- The bytes of a code. -/
def Code (s : List Int) : Prop := (∀ x ∈ s, 0 ≤ x ∧ x ≤ 255) ∧ s.length ≤ 2000
theorem Code.at {s : List Int} (h : Code s) (i : Int) : 0 ≤ rd s i ∧ rd s i ≤ 255 := by
  unfold rd
  rw [List.getD_eq_getElem?_getD]
  rcases hc : s[i.toNat]? with _ | x
  · simp
  · have := h.1 x (List.mem_of_getElem? hc)
    simpa using this
theorem pick_some (k : Nat) (s : List Int) (p n : Int) (hs : Code s) (h0 : 0 ≤ p) (h1 : p ≤ 1000000000) (hn : 1 ≤ n) :
    ∃ v, spec_l20Rd_pick.f (k + 1) s p n = some (v, p + 1) ∧ 0 ≤ v ∧ v < n := by
  have hl := hs.2
  unfold spec_l20Rd_pick.f
  rw [if_neg (by omega)]
  by_cases hz : s.length = 0
  · refine ⟨0, ?_, by omega, by omega⟩
    simp only [spec_l20Rd_pick.j0]
    rw [if_pos (by simp [hz]), wrap_in (by omega) (by omega)]
  · have hz' : ((s.length : Int) == 0) = false := by simpa using hz
    rw [hz']
    simp only [spec_l20Rd_pick.j0]
    rw [if_neg (by decide), wrap_in (n := p + 1) (by omega) (by omega), show p + 1 - 1 = p by omega, wrap_in (n := p) (by omega) (by omega)]
    by_cases hp : p < (s.length : Int)
    · have hb := hs.at p
      rw [if_pos hp, if_pos h0, if_neg (by omega), wrap_in (by omega) (by omega), Int.tmod_eq_emod_of_nonneg hb.1]
      exact ⟨_, rfl, Int.emod_nonneg _ (by omega), Int.emod_lt_of_pos _ (by omega)⟩
    · rw [if_neg hp, if_neg (by omega)]
      have hL : (0 : Int) < (s.length : Int) := by omega
      rw [wrap_in (n := p * 7) (by omega) (by omega), wrap_in (n := p * 7 + 3) (by omega) (by omega)]
      rw [Int.tmod_eq_emod_of_nonneg h0, Int.tmod_eq_emod_of_nonneg (a := p * 7 + 3) (by omega)]
      have ha0 := Int.emod_nonneg p (b := (s.length : Int)) (by omega)
      have ha1 := Int.emod_lt_of_pos p (b := (s.length : Int)) (by omega)
      have hb0 := Int.emod_nonneg (p * 7 + 3) (b := (s.length : Int)) (by omega)
      have hb1 := Int.emod_lt_of_pos (p * 7 + 3) (b := (s.length : Int)) (by omega)
      rw [if_pos ha0, if_pos ha1, if_pos hb0, if_pos hb1, if_neg (by omega)]
      have hx := hs.at (p % (s.length : Int))
      have hy := hs.at ((p * 7 + 3) % (s.length : Int))
      generalize rd s (p % (s.length : Int)) = x at hx
      generalize rd s ((p * 7 + 3) % (s.length : Int)) = y at hy
      have hd0 : 0 ≤ p / (s.length : Int) := Int.ediv_nonneg h0 (by omega)
      have hd1 : p / (s.length : Int) ≤ p := Int.ediv_le_self _ h0
      rw [Int.tdiv_eq_ediv_of_nonneg h0]
      generalize p / (s.length : Int) = q at hd0 hd1
      rw [wrap_in (n := x) (by omega) (by omega), wrap_in (n := y) (by omega) (by omega), wrap_in (n := x * 131) (by omega) (by omega), wrap_in (n := y * 1117) (by omega) (by omega), wrap_in (n := x * 131 + y * 1117) (by omega) (by omega), wrap_in (n := p * 29) (by omega) (by omega), wrap_in (n := x * 131 + y * 1117 + p * 29) (by omega) (by omega), wrap_in (n := q) (by omega) (by omega), wrap_in (n := q * 53) (by omega) (by omega), wrap_in (n := x * 131 + y * 1117 + p * 29 + q * 53) (by omega) (by omega)]
      obtain ⟨z, hz⟩ : ∃ z : Nat, x * 131 + y * 1117 + p * 29 + q * 53 = (z : Int) := ⟨(x * 131 + y * 1117 + p * 29 + q * 53).toNat, by omega⟩
      rw [hz]
      have hzb : z < 1000000000000 := by omega
      rw [Int.tdiv_eq_ediv_of_nonneg (by omega), wrap_in (n := (z : Int) / 64) (by omega) (by omega)]
      rw [show ((z : Int) / 64) = ((z / 64 : Nat) : Int) by omega, xor_nat _ _ (by omega) (by omega), Int.tmod_eq_emod_of_nonneg (by omega)]
      exact ⟨_, rfl, Int.emod_nonneg _ (by omega), Int.emod_lt_of_pos _ (by omega)⟩
theorem open_some (l : List Int) (hw : ∀ x ∈ l, (Lit.int .u8 x).wf = true) : ∃ s, spec_l20Open.f l = some (s, 0) ∧ Code s := by
  unfold spec_l20Open.f
  have hb : ∀ x ∈ l, 0 ≤ x ∧ x ≤ 255 := fun x hx => u8_bounds (hw x hx)
  by_cases h : (l.length : Int) > 2000
  · rw [if_pos h, if_pos (by omega)]
    exact ⟨_, rfl, fun x hx => hb x (List.mem_of_mem_take hx), by rw [List.length_take]; omega⟩
  · rw [if_neg h]
    exact ⟨_, rfl, hb, by omega⟩
/-! ### what comes to an answer -/
def Tot {β : Type} (Q : β → Prop) (o : Option β) : Prop := ∃ b, o = some b ∧ Q b
theorem tot_some {β : Type} {Q : β → Prop} {b : β} (h : Q b) : Tot Q (some b) := ⟨b, rfl, h⟩
theorem tot_bind {α β : Type} {P : α → Prop} {Q : β → Prop} {o : Option α} {f : α → Option β} (h : Tot P o) (hf : ∀ a, P a → Tot Q (f a)) : Tot Q (o.bind f) := by
  obtain ⟨a, rfl, ha⟩ := h
  exact hf a ha
theorem tot_ite {β : Type} {Q : β → Prop} {c : Prop} [Decidable c] {x y : Option β} (h1 : c → Tot Q x) (h2 : ¬ c → Tot Q y) : Tot Q (if c then x else y) := by
  by_cases h : c
  · rw [if_pos h]; exact h1 h
  · rw [if_neg h]; exact h2 h
theorem tot_mono {β : Type} {P Q : β → Prop} {o : Option β} (h : Tot P o) (hq : ∀ b, P b → Q b) : Tot Q o := by
  obtain ⟨b, hb, hp⟩ := h
  exact ⟨b, hb, hq b hp⟩
theorem tot_none {β : Type} {Q : β → Prop} (h : False) : Tot Q none := h.elim
theorem tot_pick {β : Type} {Q : β → Prop} {F : Int × Int → Option β} {k : Nat} {s : List Int} {p n : Int} (hs : Code s) (hk : 1 ≤ k) (h0 : 0 ≤ p) (h1 : p ≤ 1000000000) (hn : 1 ≤ n)
    (h : ∀ v, 0 ≤ v → v < n → Tot Q (F (v, p + 1))) : Tot Q ((spec_l20Rd_pick.f k s p n).bind F) := by
  obtain ⟨k, rfl⟩ : ∃ m, k = m + 1 := ⟨k - 1, by omega⟩
  obtain ⟨v, hv, v0, v1⟩ := pick_some k s p n hs h0 h1 hn
  rw [hv]
  exact h v v0 v1
theorem tot_odd {β : Type} {Q : β → Prop} {F : Bool × Int → Option β} {k : Nat} {s : List Int} {p n : Int} (hs : Code s) (hk : 1 ≤ k) (h0 : 0 ≤ p) (h1 : p ≤ 1000000000)
    (h : ∀ b p', p ≤ p' → p' ≤ p + 1 → Tot Q (F (b, p'))) : Tot Q ((spec_l20Rd_odd.f k s p n).bind F) := by
  refine tot_bind (P := fun r => p ≤ r.2 ∧ r.2 ≤ p + 1) ?_ (fun a ha => h a.1 a.2 ha.1 ha.2)
  unfold spec_l20Rd_odd.f
  refine tot_ite (fun hn => ?_) (fun hn => ?_)
  · refine tot_pick hs hk h0 h1 (by omega) ?_
    intro v _ _
    exact tot_some (by dsimp only; omega)
  · exact tot_some (by dsimp only; omega)
theorem tot_seq {β : Type} {Q : β → Prop} {F : Int × Int → Option β} {k : Nat} {s : List Int} {p : Int} (hs : Code s) (hk : 1 ≤ k) (h0 : 0 ≤ p) (h1 : p ≤ 900000000)
    (h : ∀ v p', 0 ≤ v → v ≤ 65535 → p ≤ p' → p' ≤ p + 6 → Tot Q (F (v, p'))) : Tot Q ((spec_l20Rd_seq.f k s p).bind F) := by
  refine tot_bind (P := fun r => 0 ≤ r.1 ∧ r.1 ≤ 65535 ∧ p ≤ r.2 ∧ r.2 ≤ p + 6) ?_ (fun a ha => h a.1 a.2 ha.1 ha.2.1 ha.2.2.1 ha.2.2.2)
  unfold spec_l20Rd_seq.f
  refine tot_pick hs hk (by omega) (by omega) (by omega) ?_; intro a a0 a1; dsimp only
  refine tot_pick hs hk (by omega) (by omega) (by omega) ?_; intro b b0 b1; dsimp only
  refine tot_pick hs hk (by omega) (by omega) (by omega) ?_; intro c c0 c1; dsimp only
  refine tot_pick hs hk (by omega) (by omega) (by omega) ?_; intro d d0 d1; dsimp only
  refine tot_pick hs hk (by omega) (by omega) (by omega) ?_; intro e e0 e1; dsimp only
  rw [Option.bind_some]
  refine tot_pick hs hk (by omega) (by omega) (by omega) ?_; intro f f0 f1; dsimp only
  rw [if_pos f0, if_pos (by simpa using f1)]
  refine tot_some ⟨?_, ?_, by omega, by omega⟩
  all_goals
    have hf : f = 0 ∨ f = 1 ∨ f = 2 ∨ f = 3 := by omega
    rcases hf with rfl | rfl | rfl | rfl <;> simp [rd, wrap64] <;> omega
theorem bytes_loop (s : List Int) (hs : Code s) : ∀ (d : Nat) (k : Nat) (n : Int) (acc : List Int) (p : Int), n = (d : Int) → d < k → d ≤ 1000000 → acc.length + d ≤ 1000000 → 0 ≤ p → p + 2 * n ≤ 900000000 → (∀ x ∈ acc, 0 ≤ x ∧ x ≤ 255) →
    Tot (fun r => r.1.length = acc.length + d ∧ (∀ x ∈ r.1, 0 ≤ x ∧ x ≤ 255) ∧ p ≤ r.2 ∧ r.2 ≤ p + 2 * n) (spec_l20Rd_bytes.l0 k n acc s p) := by
  intro d
  induction d with
  | zero =>
    intro k n acc p hn hk hd hl h0 h1 ha
    obtain ⟨k, rfl⟩ : ∃ m, k = m + 1 := ⟨k - 1, by omega⟩
    simp only [spec_l20Rd_bytes.l0]
    rw [if_neg (by omega)]
    exact tot_some ⟨by simp, ha, by omega, by omega⟩
  | succ d ih =>
    intro k n acc p hn hk hd hl h0 h1 ha
    obtain ⟨k, rfl⟩ : ∃ m, k = m + 1 := ⟨k - 1, by omega⟩
    simp only [spec_l20Rd_bytes.l0]
    rw [if_pos (by omega)]
    have key : ∀ (x p' : Int), 0 ≤ x → x ≤ 255 → p ≤ p' → p' ≤ p + 2 → Tot (fun r : List Int × Int => r.1.length = acc.length + (d + 1) ∧ (∀ x ∈ r.1, 0 ≤ x ∧ x ≤ 255) ∧ p ≤ r.2 ∧ r.2 ≤ p + 2 * n) (if acc.length < 140737488355328 then spec_l20Rd_bytes.l0 k (wrap64 (n - 1)) (acc ++ [x]) s p' else none) := by
      intro x p' x0 x1 hp hp'
      rw [if_pos (by omega), show wrap64 (n - 1) = n - 1 by unfold wrap64; omega]
      refine tot_mono (ih k (n - 1) (acc ++ [x]) p' (by omega) (by omega) (by omega) (by simp; omega) (by omega) (by omega) (fun y hy => ?_)) (fun r hr => ?_)
      · rcases List.mem_append.1 hy with hy | hy
        · exact ha y hy
        · obtain rfl := List.mem_singleton.1 hy
          exact ⟨x0, x1⟩
      · obtain ⟨h1, h2, h3, h4⟩ := hr
        refine ⟨?_, h2, by omega, by omega⟩
        rw [h1, List.length_append, List.length_singleton]
        omega
    refine tot_pick hs (by omega) h0 (by omega) (by omega) ?_
    intro v v0 v1
    dsimp only
    refine tot_ite (fun _ => ?_) (fun _ => ?_)
    · refine tot_pick hs (by omega) (by omega) (by omega) (by omega) ?_
      intro u u0 u1
      dsimp only
      refine key _ _ ?_ ?_ (by omega) (by omega) <;> first | omega | (simp only [IntKind.wrap_u8, wrap64]; omega)
    · refine tot_pick hs (by omega) (by omega) (by omega) (by omega) ?_
      intro u u0 u1
      dsimp only
      refine key _ _ ?_ ?_ (by omega) (by omega) <;> first | omega | (simp only [IntKind.wrap_u8, wrap64]; omega)
theorem tot_bytes {β : Type} {Q : β → Prop} {F : List Int × Int → Option β} {k : Nat} {s : List Int} {p n : Int} (hs : Code s) (hk : 1000 ≤ k) (h0 : 0 ≤ p) (h1 : p ≤ 800000000) (n0 : 0 ≤ n) (n1 : n < 1000)
    (h : ∀ l p', l.length = n.toNat → (∀ x ∈ l, 0 ≤ x ∧ x ≤ 255) → p ≤ p' → p' ≤ p + 2 * n → Tot Q (F (l, p'))) : Tot Q ((spec_l20Rd_bytes.f k s p n).bind F) := by
  unfold spec_l20Rd_bytes.f
  refine tot_bind (bytes_loop s hs n.toNat k n [] p (by omega) (by omega) (by omega) (by simp; omega) h0 (by omega) (fun x hx => by cases hx)) (fun a ha => ?_)
  obtain ⟨h1, h2, h3, h4⟩ := ha
  exact h a.1 a.2 (by simpa using h1) h2 h3 h4
/-! ### copies, equality and sizes of rows of bytes -/
theorem wrap_id {n : Int} (h : -9223372036854775808 ≤ n) (h' : n ≤ 9223372036854775807) : wrap64 n = n := by
  unfold wrap64; omega
/-- A loop that fills a row, an element at a time, from the elements of another one. -/
theorem fills {α : Type} (n : Nat) (hn : n ≤ 281474976710656) (L : Nat → List α → Int → Option (List α)) (g : Nat → α)
    (h : ∀ k acc i, k < n + 1 → L (k + 1) acc i = if i < (n : Int) then (if 0 ≤ i then (if i < (acc.length : Int) then L k (acc.set i.toNat (g i.toNat)) (wrap64 (i + 1)) else none) else none) else some acc) :
    ∀ d k (i : Nat) (acc : List α), i + d = n → k = d + 1 → acc.length = n → (∀ j, j < i → acc[j]? = some (g j)) → ∃ r, L k acc (i : Int) = some r ∧ r.length = n ∧ ∀ j, j < n → r[j]? = some (g j) := by
  intro d
  induction d with
  | zero =>
    intro k i acc hi hk hl hp
    subst hk
    refine ⟨acc, ?_, hl, fun j hj => hp j (by omega)⟩
    rw [h _ _ _ (by omega), if_neg (by omega)]
  | succ d ih =>
    intro k i acc hi hk hl hp
    subst hk
    obtain ⟨r, hr, hrl, hrp⟩ := ih (d + 1) (i + 1) (acc.set i (g i)) (by omega) rfl (by simpa using hl) (fun j hj => by
      by_cases hji : j = i
      · subst hji
        simp [List.getElem?_set, hl]
        omega
      · rw [List.getElem?_set_ne (by omega)]
        exact hp j (by omega))
    refine ⟨r, ?_, hrl, hrp⟩
    rw [h _ _ _ (by omega), if_pos (by omega), if_pos (by omega), if_pos (by omega), wrap_id (by omega) (by omega)]
    simpa using hr
theorem rd_at (l : List Int) (i : Nat) (h : i < l.length) : l[i]? = some (rd l (i : Int)) := by
  unfold rd
  rw [List.getD_eq_getElem?_getD, Int.toNat_natCast, List.getElem?_eq_getElem h]
  rfl
/-! ### a drawn segment -/
abbrev ST := Int × Int × Int × Int × Int × Bool × Bool × Bool × Bool × List S42 × List Int × Int
def SQ (r : ST) : Prop := r.2.2.2.2.2.2.2.2.2.1.length ≤ 10 ∧ r.2.2.2.2.2.2.2.2.2.2.1.length ≤ 100
theorem seg_j2 {s : List Int} (hs : Code s) (z : Int) {k : Nat} (hk : 10 ≤ k) {p : Int} (h0 : 0 ≤ p) (h1 : p ≤ 800000000) (a0 a1 a2 a3 a4 : Int) (b5 b6 b7 b8 : Bool) (e : List S42) (l : List Int) (he : e.length ≤ 10) (hl : l.length ≤ 100) :
    Tot SQ (spec_l20Segment.j2 k z s p a0 a1 a2 a3 a4 b5 b6 b7 b8 e l) := by
  obtain ⟨k, rfl⟩ : ∃ q, k = q + 1 := ⟨k - 1, by omega⟩
  have fin : ∀ (a0 a1 a2 a3 a4 : Int) (b5 b6 b7 b8 : Bool) (l : List Int) (p' : Int), l.length ≤ 100 → Tot SQ (some (a0, a1, a2, a3, a4, b5, b6, b7, b8, e, l, p')) := fun _ _ _ _ _ _ _ _ _ _ _ h => tot_some ⟨he, h⟩
  rw [spec_l20Segment.j2]
  refine tot_odd hs (by omega) (by omega) (by omega) ?_; intro o p3 q5 q6; dsimp only
  refine tot_ite (fun _ => ?_) (fun _ => fin _ _ _ _ _ _ _ _ _ _ _ hl)
  refine tot_pick hs (by omega) (by omega) (by omega) (by omega) ?_; intro b b0 b1; dsimp only
  refine tot_ite (fun _ => ?_) (fun _ => tot_ite (fun _ => ?_) (fun _ => tot_ite (fun _ => fin _ _ _ _ _ _ _ _ _ _ _ hl) (fun _ => ?_)))
  · refine tot_pick hs (by omega) (by omega) (by omega) (by omega) ?_; intro f f0 f1; exact fin _ _ _ _ _ _ _ _ _ _ _ hl
  · refine tot_pick hs (by omega) (by omega) (by omega) (by omega) ?_; intro f f0 f1; exact fin _ _ _ _ _ _ _ _ _ _ _ hl
  · refine tot_pick hs (by omega) (by omega) (by omega) (by omega) ?_; intro f f0 f1; dsimp only
    rw [if_pos f0, if_pos (by omega)]
    exact fin _ _ _ _ _ _ _ _ _ _ _ (by simp; omega)
theorem seg_j1 {s : List Int} (hs : Code s) (z : Int) {k : Nat} (hk : 20 ≤ k) {p : Int} (h0 : 0 ≤ p) (h1 : p ≤ 700000000) (a0 a1 a2 a3 a4 : Int) (b5 b6 b7 b8 : Bool) (e : List S42) (l : List Int) (he : e.length ≤ 10) (hl : l.length ≤ 100) :
    Tot SQ (spec_l20Segment.j1 k z s p a0 a1 a2 a3 a4 b5 b6 b7 b8 e l) := by
  obtain ⟨k, rfl⟩ : ∃ q, k = q + 1 := ⟨k - 1, by omega⟩
  rw [spec_l20Segment.j1]
  refine tot_pick hs (by omega) (by omega) (by omega) (by omega) ?_; intro b b0 b1; dsimp only
  exact tot_ite (fun _ => seg_j2 hs z (by omega) (by omega) (by omega) _ _ _ _ _ _ _ _ _ _ _ he (by simp)) (fun _ => seg_j2 hs z (by omega) (by omega) (by omega) _ _ _ _ _ _ _ _ _ _ _ he hl)
theorem seg_l0 {s : List Int} (hs : Code s) (z : Int) (a0 a1 a2 a3 a4 : Int) (b5 b6 b7 b8 : Bool) (l : List Int) (hl : l.length ≤ 100) : ∀ (n k : Nat) (x p : Int) (e : List S42), x = (n : Int) → n ≤ 4 → n + 1200 < k → 0 ≤ p → p + 1000 * n ≤ 600000000 → e.length + n ≤ 4 →
    Tot SQ (spec_l20Segment.l0 k z x s p a0 a1 a2 a3 a4 b5 b6 b7 b8 e l) := by
  intro n
  induction n with
  | zero =>
    intro k x p e hx hn hk h0 h1 he
    obtain ⟨k, rfl⟩ : ∃ q, k = q + 1 := ⟨k - 1, by omega⟩
    rw [spec_l20Segment.l0, if_neg (by omega)]
    exact seg_j1 hs z (by omega) h0 (by omega) _ _ _ _ _ _ _ _ _ _ _ (by omega) hl
  | succ n ih =>
    intro k x p e hx hn hk h0 h1 he
    obtain ⟨k, rfl⟩ : ∃ q, k = q + 1 := ⟨k - 1, by omega⟩
    rw [spec_l20Segment.l0, if_pos (by omega), wrap_id (n := x - 1) (by omega) (by omega)]
    refine tot_seq hs (by omega) (by omega) (by omega) ?_; intro a p1 q1 q2 q3 q4; dsimp only
    refine tot_seq hs (by omega) (by omega) (by omega) ?_; intro b p2 q1' q2' q3' q4'; dsimp only
    rw [if_pos (by omega)]
    exact ih k (x - 1) p2 _ (by omega) (by omega) (by omega) (by omega) (by omega) (by simp; omega)
theorem seg_tot {s : List Int} (hs : Code s) {k : Nat} (hk : 1500 < k) {p z : Int} (h0 : 0 ≤ p) (h1 : p ≤ 500000000) : Tot SQ (spec_l20Segment.f k s p z) := by
  unfold spec_l20Segment.f
  refine tot_pick hs (by omega) (by omega) (by omega) (by omega) ?_; intro a a0 a1; dsimp only
  refine tot_pick hs (by omega) (by omega) (by omega) (by omega) ?_; intro b b0 b1; dsimp only
  refine tot_seq hs (by omega) (by omega) (by omega) ?_; intro c p1 q1 q2 q3 q4; dsimp only
  refine tot_pick hs (by omega) (by omega) (by omega) (by omega) ?_; intro d d0 d1; dsimp only
  refine tot_bytes hs (by omega) (by omega) (by omega) (by omega) (by omega) ?_; intro l p2 l0 l1 q5 q6; dsimp only
  refine tot_pick hs (by omega) (by omega) (by omega) (by omega) ?_; intro f f0 f1; dsimp only
  refine tot_pick hs (by omega) (by omega) (by omega) (by omega) ?_; intro g g0 g1; dsimp only
  refine tot_pick hs (by omega) (by omega) (by omega) (by omega) ?_; intro h h0' h1'; dsimp only
  refine tot_ite (fun _ => ?_) (fun _ => seg_j1 hs z (by omega) (by omega) (by omega) _ _ _ _ _ _ _ _ _ _ _ (by simp) (by omega))
  refine tot_seq hs (by omega) (by omega) (by omega) ?_; intro t p3 r1 r2 r3 r4; dsimp only
  refine tot_pick hs (by omega) (by omega) (by omega) (by omega) ?_; intro u u0 u1; dsimp only
  refine tot_pick hs (by omega) (by omega) (by omega) (by omega) ?_; intro v v0 v1; dsimp only
  exact seg_l0 hs z _ _ _ _ _ _ _ _ _ _ (by omega) v.toNat k v _ [] (by omega) (by omega) (by omega) (by omega) (by omega) (by simp; omega)
theorem draw_tot (l : List Int) (hw : ∀ x ∈ l, (Lit.int .u8 x).wf = true) : Tot (fun r : Int × Int × Int × Int × Int × Bool × Bool × Bool × Bool × List S42 × List Int => r.2.2.2.2.2.2.2.2.2.2.length ≤ 100) (spec_DrawSegmentLong.f 2000 l) := by
  obtain ⟨s, hs, hc⟩ := open_some l hw
  unfold spec_DrawSegmentLong.f
  rw [hs, Option.bind_some]
  exact tot_bind (seg_tot hc (by omega) (by dsimp only; omega) (by dsimp only; omega)) (fun r hr => tot_some hr.2)
theorem long_i (a b c d e : Int) (f1 f2 f3 f4 : Bool) (rs : List S42) (l : List Int) (hl : l.length ≤ 1000) : impl_SegmentLong.f a b c d e f1 f2 f3 f4 rs l = some ((l.length : Int) + (if f1 = true then 1 else 0) + (if f3 = true then 1 else 0)) := by
  simp only [impl_SegmentLong.f, impl_bit.f]
  cases f1 <;> cases f3 <;> simp only [if_true, Bool.false_eq_true, if_false, Option.bind_some] <;> congr 1 <;> unfold wrap64 <;> omega
theorem long_s (a b c d e : Int) (f1 f2 f3 f4 : Bool) (rs : List S42) (l : List Int) (hl : l.length ≤ 1000) : spec_SegmentLong.f a b c d e f1 f2 f3 f4 rs l = some ((l.length : Int) + (if f1 = true then 1 else 0) + (if f3 = true then 1 else 0)) := by
  simp only [spec_SegmentLong.f]
  cases f1 <;> cases f3 <;> simp only [if_true, Bool.false_eq_true, if_false] <;> congr 1 <;> (try unfold wrap64) <;> omega
theorem main : GFnSegmentLong.Stmt := by
  intro l hl0
  obtain ⟨_, hw⟩ := hl0
  refine ⟨2000, ?_⟩
  unfold laws_FnSegmentLong.f
  by_cases hl : (l.length : Int) > 1048576
  · rw [if_pos hl]
  · rw [if_neg hl]
    obtain ⟨⟨a, b, c, d, e, f1, f2, f3, f4, rs, m⟩, hD, hm⟩ := draw_tot l hw
    dsimp only at hm
    rw [hD, Option.bind_some]
    have hi : ∀ (d e : Int) (f2 : Bool), impl_SegmentLong.f a b c d e f1 f2 f3 f4 rs m = _ := fun d e f2 => long_i a b c d e f1 f2 f3 f4 rs m (by omega)
    have hs := long_s a b c d e f1 f2 f3 f4 rs m (by omega)
    have hmore := long_i a b c d e f1 f2 f3 f4 rs (m ++ [1]) (by simp; omega)
    have hlen : (((m ++ [1]).length : Nat) : Int) = (m.length : Int) + 1 := by simp
    rw [hlen] at hmore
    simp only [hi, hs, Option.bind_some, if_true, List.length_nil, Nat.zero_add, List.nil_append]
    rw [if_pos (by omega), if_pos (by omega)]
    simp only [hmore, Option.bind_some]
    have w : ∀ v : Int, 0 ≤ v → v ≤ 1000 → wrap64 (v + 1) = v + 1 := fun v _ _ => wrap_id (by omega) (by omega)
    have w0 : wrap64 1 = 1 := wrap_id (by omega) (by omega)
    have w2 : wrap64 2 = 2 := wrap_id (by omega) (by omega)
    have w3 : wrap64 3 = 3 := wrap_id (by omega) (by omega)
    generalize hn : (m.length : Int) = n at *
    have h0 : 0 ≤ n := by omega
    have h1 : n ≤ 100 := by omega
    by_cases hz : n = 0
    · subst hz
      cases f1 <;> cases f3 <;> simp [w, w0, w2, w3]
    · have hz1 : (n == 0) = false := by simpa using hz
      have hz2 : (n + 1 == 0) = false := by simp; omega
      have hz3 : (n + 1 + 1 == 0) = false := by simp; omega
      rw [if_neg hz]
      cases f1 <;> cases f3 <;> simp [hz, hz1, hz2, hz3, w n h0 (by omega), w (n + 1) (by omega) (by omega), w (n + 1 + 1) (by omega) (by omega)] <;> omega
end FnSegmentLong_
theorem FnSegmentLong : GFnSegmentLong.Stmt := FnSegmentLong_.main
end Go.Proofs.Ytfcocnhkimbpbab.Pure
