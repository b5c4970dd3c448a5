/- The pure law of FnNoteAbout: whatever the code, the program tells of the drawn packet what the reference tells; what is told is a packet to the one who sent it, that tells a fault, about which nothing is told, and which is not echoed. No conditions. -/
import Derived.Test.YtkkibccnpkbbjabGFnNoteAbout
namespace Go.Proofs.Ytkkibccnpkbbjab.Pure
open Go Go.RowKit Go.Proofs.Ytkkibccnpkbbjab.MFnNoteAbout Go.Proofs.YtkkibccnpkbbjabV.PrintWords Go.Proofs.YtkkibccnpkbbjabV.PrintLast
set_option linter.unusedVariables false
set_option linter.unusedSimpArgs false
namespace FnNoteAbout_
theorem i64_bounds {x : Int} (h : (Lit.int .i64 x).wf = true) : -9223372036854775808 ≤ x ∧ x ≤ 9223372036854775807 := by
  simpa [Lit.wf, IntKind.min, IntKind.max, IntKind.signed, IntKind.bits] using h
theorem inAll (x y z : Int) : spec_l1In.f x y z = some (decide (y ≤ x ∧ x ≤ z)) := by
  unfold spec_l1In.f
  by_cases h : x ≥ y
  · rw [if_pos h]; congr 1; simp only [decide_eq_decide]; omega
  · rw [if_neg h]; congr 1; symm; simp only [decide_eq_false_iff_not]; omega
theorem inAll' (x y z : Int) : impl_in.f x y z = some (decide (y ≤ x ∧ x ≤ z)) := inAll x y z
theorem wl {n m : Int} (h : n = m) (h0 : -9223372036854775808 ≤ m) (h1 : m ≤ 9223372036854775807) : wrap64 n = m := by
  subst h
  unfold wrap64
  omega
/-! ### bytes put side by side -/
theorem or256 (a b : Int) (ha : 0 ≤ a) (ha' : a ≤ 10000000000) (hb : 0 ≤ b) (hb' : b ≤ 255) : Go.bits .or .i64 (a * 256) b = a * 256 + b := by
  obtain ⟨n, rfl⟩ : ∃ n : Nat, a = n := ⟨a.toNat, by omega⟩
  obtain ⟨m, rfl⟩ : ∃ m : Nat, b = m := ⟨b.toNat, by omega⟩
  have h2 : n * 256 ||| m = n * 256 + m := by
    have := Nat.two_pow_add_eq_or_of_lt (i := 8) (show m < 2 ^ 8 by omega) n
    rw [show 2 ^ 8 * n = n * 256 by omega] at this
    exact this.symm
  have e1 : BitVec.ofInt 64 ((n : Int) * 256) = BitVec.ofNat 64 (n * 256) := by
    rw [show (n : Int) * 256 = ((n * 256 : Nat) : Int) by omega]
    exact BitVec.ofInt_natCast ..
  have e2 : BitVec.ofInt 64 (m : Int) = BitVec.ofNat 64 m := BitVec.ofInt_natCast ..
  have e : (BitVec.ofInt 64 ((n : Int) * 256) ||| BitVec.ofInt 64 (m : Int)).toNat = n * 256 + m := by
    rw [e1, e2, BitVec.toNat_or, BitVec.toNat_ofNat, BitVec.toNat_ofNat, Nat.mod_eq_of_lt (by omega), Nat.mod_eq_of_lt (by omega), h2]
  show IntKind.i64.wrap ((BitVec.ofInt 64 ((n : Int) * 256) ||| BitVec.ofInt 64 (m : Int)).toNat : Int) = _
  rw [e]
  simp only [IntKind.wrap, IntKind.bits, IntKind.signed]
  simp
  omega
/-! ### a draw: a number in 0..n-1, and the place one further -/
theorem xor_nat (a b : Nat) (ha : a < 9223372036854775808) (hb : b < 9223372036854775808) : Go.bits .xor .i64 (a : Int) (b : Int) = ((a ^^^ b : Nat) : Int) := by
  have hx : a ^^^ b < 2 ^ 63 := Nat.xor_lt_two_pow (by omega) (by omega)
  have ha' : a % 2 ^ 64 = a := Nat.mod_eq_of_lt (by omega)
  have hb' : b % 2 ^ 64 = b := Nat.mod_eq_of_lt (by omega)
  have e : IntKind.i64.bits = 64 := rfl
  simp only [Go.bits, BitVec.ofInt_natCast, BitVec.toNat_xor, BitVec.toNat_ofNat, e, ha', hb']
  rw [IntKind.wrap_i64]
  omega
theorem wrap_in {n : Int} (h : -9223372036854775808 ≤ n) (h' : n ≤ 9223372036854775807) : wrap64 n = n := by
  unfold wrap64; omega
theorem u8_bounds {x : Int} (h : (Lit.int .u8 x).wf = true) : 0 ≤ x ∧ x ≤ 255 := by
  simpa [Lit.wf, IntKind.min, IntKind.max, IntKind.signed, IntKind.bits] using h
/-- The bytes of a code. -/
def Code (s : List Int) : Prop := (∀ x ∈ s, 0 ≤ x ∧ x ≤ 255) ∧ s.length ≤ 2000
theorem Code.at {s : List Int} (h : Code s) (i : Int) : 0 ≤ rd s i ∧ rd s i ≤ 255 := by
  unfold rd
  rw [List.getD_eq_getElem?_getD]
  rcases hc : s[i.toNat]? with _ | x
  · simp
  · have := h.1 x (List.mem_of_getElem? hc)
    simpa using this
theorem pick_some (k : Nat) (s : List Int) (p n : Int) (hs : Code s) (h0 : 0 ≤ p) (h1 : p ≤ 1000000000) (hn : 1 ≤ n) :
    ∃ v, spec_l20Rd_pick.f (k + 1) s p n = some (v, p + 1) ∧ 0 ≤ v ∧ v < n := by
  have hl := hs.2
  unfold spec_l20Rd_pick.f
  rw [if_neg (by omega)]
  by_cases hz : s.length = 0
  · refine ⟨0, ?_, by omega, by omega⟩
    simp only [spec_l20Rd_pick.j0]
    rw [if_pos (by simp [hz]), wrap_in (by omega) (by omega)]
  · have hz' : ((s.length : Int) == 0) = false := by simpa using hz
    rw [hz']
    simp only [spec_l20Rd_pick.j0]
    rw [if_neg (by decide), wrap_in (n := p + 1) (by omega) (by omega), show p + 1 - 1 = p by omega, wrap_in (n := p) (by omega) (by omega)]
    by_cases hp : p < (s.length : Int)
    · have hb := hs.at p
      rw [if_pos hp, if_pos h0, if_neg (by omega), wrap_in (by omega) (by omega), Int.tmod_eq_emod_of_nonneg hb.1]
      exact ⟨_, rfl, Int.emod_nonneg _ (by omega), Int.emod_lt_of_pos _ (by omega)⟩
    · rw [if_neg hp, if_neg (by omega)]
      have hL : (0 : Int) < (s.length : Int) := by omega
      rw [wrap_in (n := p * 7) (by omega) (by omega), wrap_in (n := p * 7 + 3) (by omega) (by omega)]
      rw [Int.tmod_eq_emod_of_nonneg h0, Int.tmod_eq_emod_of_nonneg (a := p * 7 + 3) (by omega)]
      have ha0 := Int.emod_nonneg p (b := (s.length : Int)) (by omega)
      have ha1 := Int.emod_lt_of_pos p (b := (s.length : Int)) (by omega)
      have hb0 := Int.emod_nonneg (p * 7 + 3) (b := (s.length : Int)) (by omega)
      have hb1 := Int.emod_lt_of_pos (p * 7 + 3) (b := (s.length : Int)) (by omega)
      rw [if_pos ha0, if_pos ha1, if_pos hb0, if_pos hb1, if_neg (by omega)]
      have hx := hs.at (p % (s.length : Int))
      have hy := hs.at ((p * 7 + 3) % (s.length : Int))
      generalize rd s (p % (s.length : Int)) = x at hx
      generalize rd s ((p * 7 + 3) % (s.length : Int)) = y at hy
      have hd0 : 0 ≤ p / (s.length : Int) := Int.ediv_nonneg h0 (by omega)
      have hd1 : p / (s.length : Int) ≤ p := Int.ediv_le_self _ h0
      rw [Int.tdiv_eq_ediv_of_nonneg h0]
      generalize p / (s.length : Int) = q at hd0 hd1
      rw [wrap_in (n := x) (by omega) (by omega), wrap_in (n := y) (by omega) (by omega), wrap_in (n := x * 131) (by omega) (by omega), wrap_in (n := y * 1117) (by omega) (by omega), wrap_in (n := x * 131 + y * 1117) (by omega) (by omega), wrap_in (n := p * 29) (by omega) (by omega), wrap_in (n := x * 131 + y * 1117 + p * 29) (by omega) (by omega), wrap_in (n := q) (by omega) (by omega), wrap_in (n := q * 53) (by omega) (by omega), wrap_in (n := x * 131 + y * 1117 + p * 29 + q * 53) (by omega) (by omega)]
      obtain ⟨z, hz⟩ : ∃ z : Nat, x * 131 + y * 1117 + p * 29 + q * 53 = (z : Int) := ⟨(x * 131 + y * 1117 + p * 29 + q * 53).toNat, by omega⟩
      rw [hz]
      have hzb : z < 1000000000000 := by omega
      rw [Int.tdiv_eq_ediv_of_nonneg (by omega), wrap_in (n := (z : Int) / 64) (by omega) (by omega)]
      rw [show ((z : Int) / 64) = ((z / 64 : Nat) : Int) by omega, xor_nat _ _ (by omega) (by omega), Int.tmod_eq_emod_of_nonneg (by omega)]
      exact ⟨_, rfl, Int.emod_nonneg _ (by omega), Int.emod_lt_of_pos _ (by omega)⟩
theorem open_some (l : List Int) (hw : ∀ x ∈ l, (Lit.int .u8 x).wf = true) : ∃ s, spec_l20Open.f l = some (s, 0) ∧ Code s := by
  unfold spec_l20Open.f
  have hb : ∀ x ∈ l, 0 ≤ x ∧ x ≤ 255 := fun x hx => u8_bounds (hw x hx)
  by_cases h : (l.length : Int) > 2000
  · rw [if_pos h, if_pos (by omega)]
    exact ⟨_, rfl, fun x hx => hb x (List.mem_of_mem_take hx), by rw [List.length_take]; omega⟩
  · rw [if_neg h]
    exact ⟨_, rfl, hb, by omega⟩
/-! ### what comes to an answer -/
def Tot {β : Type} (Q : β → Prop) (o : Option β) : Prop := ∃ b, o = some b ∧ Q b
theorem tot_some {β : Type} {Q : β → Prop} {b : β} (h : Q b) : Tot Q (some b) := ⟨b, rfl, h⟩
theorem tot_bind {α β : Type} {P : α → Prop} {Q : β → Prop} {o : Option α} {f : α → Option β} (h : Tot P o) (hf : ∀ a, P a → Tot Q (f a)) : Tot Q (o.bind f) := by
  obtain ⟨a, rfl, ha⟩ := h
  exact hf a ha
theorem tot_ite {β : Type} {Q : β → Prop} {c : Prop} [Decidable c] {x y : Option β} (h1 : c → Tot Q x) (h2 : ¬ c → Tot Q y) : Tot Q (if c then x else y) := by
  by_cases h : c
  · rw [if_pos h]; exact h1 h
  · rw [if_neg h]; exact h2 h
theorem tot_mono {β : Type} {P Q : β → Prop} {o : Option β} (h : Tot P o) (hq : ∀ b, P b → Q b) : Tot Q o := by
  obtain ⟨b, hb, hp⟩ := h
  exact ⟨b, hb, hq b hp⟩
theorem tot_none {β : Type} {Q : β → Prop} (h : False) : Tot Q none := h.elim
theorem tot_pick {β : Type} {Q : β → Prop} {F : Int × Int → Option β} {k : Nat} {s : List Int} {p n : Int} (hs : Code s) (hk : 1 ≤ k) (h0 : 0 ≤ p) (h1 : p ≤ 1000000000) (hn : 1 ≤ n)
    (h : ∀ v, 0 ≤ v → v < n → Tot Q (F (v, p + 1))) : Tot Q ((spec_l20Rd_pick.f k s p n).bind F) := by
  obtain ⟨k, rfl⟩ : ∃ m, k = m + 1 := ⟨k - 1, by omega⟩
  obtain ⟨v, hv, v0, v1⟩ := pick_some k s p n hs h0 h1 hn
  rw [hv]
  exact h v v0 v1
theorem tot_odd {β : Type} {Q : β → Prop} {F : Bool × Int → Option β} {k : Nat} {s : List Int} {p n : Int} (hs : Code s) (hk : 1 ≤ k) (h0 : 0 ≤ p) (h1 : p ≤ 1000000000)
    (h : ∀ b p', p ≤ p' → p' ≤ p + 1 → Tot Q (F (b, p'))) : Tot Q ((spec_l20Rd_odd.f k s p n).bind F) := by
  refine tot_bind (P := fun r => p ≤ r.2 ∧ r.2 ≤ p + 1) ?_ (fun a ha => h a.1 a.2 ha.1 ha.2)
  unfold spec_l20Rd_odd.f
  refine tot_ite (fun hn => ?_) (fun hn => ?_)
  · refine tot_pick hs hk h0 h1 (by omega) ?_
    intro v _ _
    exact tot_some (by dsimp only; omega)
  · exact tot_some (by dsimp only; omega)
theorem tot_word {β : Type} {Q : β → Prop} {F : Int × Int → Option β} {k : Nat} {s : List Int} {p : Int} (hs : Code s) (hk : 1 ≤ k) (h0 : 0 ≤ p) (h1 : p ≤ 900000000)
    (h : ∀ v p', 0 ≤ v → v ≤ 65535 → p ≤ p' → p' ≤ p + 3 → Tot Q (F (v, p'))) : Tot Q ((spec_l20Rd_word.f k s p).bind F) := by
  refine tot_bind (P := fun r => 0 ≤ r.1 ∧ r.1 ≤ 65535 ∧ p ≤ r.2 ∧ r.2 ≤ p + 3) ?_ (fun a ha => h a.1 a.2 ha.1 ha.2.1 ha.2.2.1 ha.2.2.2)
  unfold spec_l20Rd_word.f
  refine tot_pick hs hk h0 (by omega) (by omega) ?_
  intro v _ _
  refine tot_ite (fun _ => ?_) (fun _ => tot_ite (fun _ => ?_) (fun _ => ?_))
  · refine tot_pick hs hk (by dsimp only; omega) (by dsimp only; omega) (by omega) ?_
    intro v _ _
    exact tot_some (by dsimp only; omega)
  · refine tot_pick hs hk (by dsimp only; omega) (by dsimp only; omega) (by omega) ?_
    intro v _ _
    exact tot_some (by dsimp only; unfold wrap64; omega)
  · refine tot_pick hs hk (by dsimp only; omega) (by dsimp only; omega) (by omega) ?_
    intro v _ _
    refine tot_pick hs hk (by dsimp only; omega) (by dsimp only; omega) (by omega) ?_
    intro v' _ _
    exact tot_some (by dsimp only; unfold wrap64; omega)
theorem bytes_loop (s : List Int) (hs : Code s) : ∀ (d : Nat) (k : Nat) (n : Int) (acc : List Int) (p : Int), n = (d : Int) → d < k → d ≤ 1000000 → acc.length + d ≤ 1000000 → 0 ≤ p → p + 2 * n ≤ 900000000 → (∀ x ∈ acc, 0 ≤ x ∧ x ≤ 255) →
    Tot (fun r => r.1.length = acc.length + d ∧ (∀ x ∈ r.1, 0 ≤ x ∧ x ≤ 255) ∧ p ≤ r.2 ∧ r.2 ≤ p + 2 * n) (spec_l20Rd_bytes.l0 k n acc s p) := by
  intro d
  induction d with
  | zero =>
    intro k n acc p hn hk hd hl h0 h1 ha
    obtain ⟨k, rfl⟩ : ∃ m, k = m + 1 := ⟨k - 1, by omega⟩
    simp only [spec_l20Rd_bytes.l0]
    rw [if_neg (by omega)]
    exact tot_some ⟨by simp, ha, by omega, by omega⟩
  | succ d ih =>
    intro k n acc p hn hk hd hl h0 h1 ha
    obtain ⟨k, rfl⟩ : ∃ m, k = m + 1 := ⟨k - 1, by omega⟩
    simp only [spec_l20Rd_bytes.l0]
    rw [if_pos (by omega)]
    have key : ∀ (x p' : Int), 0 ≤ x → x ≤ 255 → p ≤ p' → p' ≤ p + 2 → Tot (fun r : List Int × Int => r.1.length = acc.length + (d + 1) ∧ (∀ x ∈ r.1, 0 ≤ x ∧ x ≤ 255) ∧ p ≤ r.2 ∧ r.2 ≤ p + 2 * n) (if acc.length < 140737488355328 then spec_l20Rd_bytes.l0 k (wrap64 (n - 1)) (acc ++ [x]) s p' else none) := by
      intro x p' x0 x1 hp hp'
      rw [if_pos (by omega), show wrap64 (n - 1) = n - 1 by unfold wrap64; omega]
      refine tot_mono (ih k (n - 1) (acc ++ [x]) p' (by omega) (by omega) (by omega) (by simp; omega) (by omega) (by omega) (fun y hy => ?_)) (fun r hr => ?_)
      · rcases List.mem_append.1 hy with hy | hy
        · exact ha y hy
        · obtain rfl := List.mem_singleton.1 hy
          exact ⟨x0, x1⟩
      · obtain ⟨h1, h2, h3, h4⟩ := hr
        refine ⟨?_, h2, by omega, by omega⟩
        rw [h1, List.length_append, List.length_singleton]
        omega
    refine tot_pick hs (by omega) h0 (by omega) (by omega) ?_
    intro v v0 v1
    dsimp only
    refine tot_ite (fun _ => ?_) (fun _ => ?_)
    · refine tot_pick hs (by omega) (by omega) (by omega) (by omega) ?_
      intro u u0 u1
      dsimp only
      refine key _ _ ?_ ?_ (by omega) (by omega) <;> first | omega | (simp only [IntKind.wrap_u8, wrap64]; omega)
    · refine tot_pick hs (by omega) (by omega) (by omega) (by omega) ?_
      intro u u0 u1
      dsimp only
      refine key _ _ ?_ ?_ (by omega) (by omega) <;> first | omega | (simp only [IntKind.wrap_u8, wrap64]; omega)
theorem tot_bytes {β : Type} {Q : β → Prop} {F : List Int × Int → Option β} {k : Nat} {s : List Int} {p n : Int} (hs : Code s) (hk : 1000 ≤ k) (h0 : 0 ≤ p) (h1 : p ≤ 800000000) (n0 : 0 ≤ n) (n1 : n < 1000)
    (h : ∀ l p', l.length = n.toNat → (∀ x ∈ l, 0 ≤ x ∧ x ≤ 255) → p ≤ p' → p' ≤ p + 2 * n → Tot Q (F (l, p'))) : Tot Q ((spec_l20Rd_bytes.f k s p n).bind F) := by
  unfold spec_l20Rd_bytes.f
  refine tot_bind (bytes_loop s hs n.toNat k n [] p (by omega) (by omega) (by omega) (by simp; omega) h0 (by omega) (fun x hx => by cases hx)) (fun a ha => ?_)
  obtain ⟨h1, h2, h3, h4⟩ := ha
  exact h a.1 a.2 (by simpa using h1) h2 h3 h4
theorem alive_true (k : Nat) : laws_alive.f (k + 3) = some true := by
  simp [laws_alive.f, impl_BytesOf.f, impl_in.f, impl_bytesOf.f, impl_bytesOf.l0, wrap64, shl, IntKind.wrap, IntKind.bits, IntKind.signed]
/-! ### copies, equality and sizes of rows of bytes -/
theorem wrap_id {n : Int} (h : -9223372036854775808 ≤ n) (h' : n ≤ 9223372036854775807) : wrap64 n = n := by
  unfold wrap64; omega
/-- A loop that fills a row, an element at a time, from the elements of another one. -/
theorem fills {α : Type} (n : Nat) (hn : n ≤ 281474976710656) (L : Nat → List α → Int → Option (List α)) (g : Nat → α)
    (h : ∀ k acc i, k < n + 1 → L (k + 1) acc i = if i < (n : Int) then (if 0 ≤ i then (if i < (acc.length : Int) then L k (acc.set i.toNat (g i.toNat)) (wrap64 (i + 1)) else none) else none) else some acc) :
    ∀ d k (i : Nat) (acc : List α), i + d = n → k = d + 1 → acc.length = n → (∀ j, j < i → acc[j]? = some (g j)) → ∃ r, L k acc (i : Int) = some r ∧ r.length = n ∧ ∀ j, j < n → r[j]? = some (g j) := by
  intro d
  induction d with
  | zero =>
    intro k i acc hi hk hl hp
    subst hk
    refine ⟨acc, ?_, hl, fun j hj => hp j (by omega)⟩
    rw [h _ _ _ (by omega), if_neg (by omega)]
  | succ d ih =>
    intro k i acc hi hk hl hp
    subst hk
    obtain ⟨r, hr, hrl, hrp⟩ := ih (d + 1) (i + 1) (acc.set i (g i)) (by omega) rfl (by simpa using hl) (fun j hj => by
      by_cases hji : j = i
      · subst hji
        simp [List.getElem?_set, hl]
        omega
      · rw [List.getElem?_set_ne (by omega)]
        exact hp j (by omega))
    refine ⟨r, ?_, hrl, hrp⟩
    rw [h _ _ _ (by omega), if_pos (by omega), if_pos (by omega), if_pos (by omega), wrap_id (by omega) (by omega)]
    simpa using hr
theorem rd_at (l : List Int) (i : Nat) (h : i < l.length) : l[i]? = some (rd l (i : Int)) := by
  unfold rd
  rw [List.getD_eq_getElem?_getD, Int.toNat_natCast, List.getElem?_eq_getElem h]
  rfl
theorem eqSl_loop (a b : List Int) (hl : a.length = b.length) (hb : a.length ≤ 281474976710656) : ∀ d k (i : Nat), i + d = a.length → d < k →
    slices_Equal_byte_byte.l0 k a b (a.length : Int) (i : Int) = some (decide (a.drop i = b.drop i)) := by
  intro d
  induction d with
  | zero =>
    intro k i hi hk
    obtain ⟨k, rfl⟩ : ∃ m, k = m + 1 := ⟨k - 1, by omega⟩
    simp only [slices_Equal_byte_byte.l0]
    rw [if_neg (by omega), List.drop_eq_nil_of_le (by omega), List.drop_eq_nil_of_le (by omega)]
    rfl
  | succ d ih =>
    intro k i hi hk
    obtain ⟨k, rfl⟩ : ∃ m, k = m + 1 := ⟨k - 1, by omega⟩
    simp only [slices_Equal_byte_byte.l0]
    rw [if_pos (by omega), if_pos (by omega), if_pos (by omega), if_pos (by omega), wrap_id (by omega) (by omega)]
    have h1 := rd_at a i (by omega)
    have h2 := rd_at b i (by omega)
    have e1 : a.drop i = rd a (i : Int) :: a.drop (i + 1) := by
      rw [List.drop_eq_getElem_cons (by omega)]
      congr 1
      rw [List.getElem?_eq_getElem (by omega)] at h1
      exact Option.some.inj h1
    have e2 : b.drop i = rd b (i : Int) :: b.drop (i + 1) := by
      rw [List.drop_eq_getElem_cons (by omega)]
      congr 1
      rw [List.getElem?_eq_getElem (by omega)] at h2
      exact Option.some.inj h2
    have hr := ih k (i + 1) (by omega) (by omega)
    rw [e1, e2]
    by_cases he : rd a (i : Int) = rd b (i : Int)
    · rw [if_pos he, show ((i : Int) + 1) = ((i + 1 : Nat) : Int) by omega, hr, he]
      simp
    · rw [if_neg he]
      simp [he]
theorem eqSl (a b : List Int) (hb : a.length ≤ 281474976710656) (k : Nat) (hk : a.length < k) : slices_Equal_byte_byte.f k a b = some (decide (a = b)) := by
  unfold slices_Equal_byte_byte.f
  by_cases h : a.length = b.length
  · rw [if_pos (by omega)]
    have := eqSl_loop a b h hb a.length k 0 (by omega) hk
    simpa using this
  · rw [if_neg (by omega)]
    have : a ≠ b := fun e => h (by rw [e])
    simp [this]
/-! ### two bytes of a number -/
theorem specBytes2 (v : Int) (h0 : 0 ≤ v) (h1 : v ≤ 65535) (k : Nat) : spec_BytesOf.f (k + 6) v 2 = some [v / 256 % 256, v % 256] := by
  have e : (8 : Int) * 2 = 16 := rfl
  have hm : ∀ x : Int, 0 ≤ x → Int.tmod x 256 = x % 256 := fun x hx => Int.tmod_eq_emod_of_nonneg hx
  have hs : shr .i64 v 8 = v / 256 := by simp [shr, IntKind.bits]
  have hs0 : shr .i64 v 0 = v := by simp [shr, IntKind.bits]
  have hw : shl .i64 1 16 - 1 = 65535 := by simp [shl, IntKind.wrap, IntKind.bits, IntKind.signed]
  simp only [spec_BytesOf.f, inAll, Option.bind_some]
  simp only [show wrap64 (8 * 2) = 16 from wl (by omega) (by omega) (by omega), hw, show wrap64 65535 = 65535 from wl (by omega) (by omega) (by omega)]
  simp only [show (decide ((1 : Int) ≤ 2 ∧ (2 : Int) ≤ 4)) = true by decide, if_true, show (0 : Int) ≤ 16 by omega, show decide (0 ≤ v ∧ v ≤ 65535) = true by simp [h0, h1]]
  simp only [Bool.not_true, spec_BytesOf.j0, Bool.false_eq_true, if_false, show wrap64 (2 - 1) = 1 from wl (by omega) (by omega) (by omega)]
  rw [spec_BytesOf.l0]
  simp only [show (1 : Int) ≥ 0 by omega, if_true, show wrap64 (8 * 1) = 8 from wl (by omega) (by omega) (by omega), show (0 : Int) ≤ 8 by omega, List.length_nil, show 0 < 140737488355328 by omega, hs, show wrap64 (1 - 1) = 0 from wl (by omega) (by omega) (by omega)]
  rw [spec_BytesOf.l0]
  simp only [show (0 : Int) ≥ 0 by omega, if_true, show wrap64 (8 * 0) = 0 from wl (by omega) (by omega) (by omega), Int.le_refl, hs0, show wrap64 (0 - 1) = -1 from wl (by omega) (by omega) (by omega)]
  rw [if_pos (by simp)]
  rw [spec_BytesOf.l0]
  simp only [show ¬ ((-1 : Int) ≥ 0) by omega, if_false]
  rw [hm _ (by omega), hm _ h0]
  simp
/-! ### two bytes of a number, the program's -/
theorem implBytes2 (v : Int) (k : Nat) : impl_bytesOf.f (k + 4) v 2 = some [v / 256 % 256, v % 256] := by
  simp only [impl_bytesOf.f, show (0 : Int) ≤ 2 by omega, if_true, show (2 : Int).toNat = 2 by rfl, show 2 ≤ 281474976710656 by omega, show wrap64 (2 - 1) = 1 from wl (by omega) (by omega) (by omega)]
  rw [impl_bytesOf.l0]
  simp only [show (1 : Int) ≥ 0 by omega, if_true, show (0 : Int) ≤ 1 by omega, show wrap64 (1 - 1) = 0 from wl (by omega) (by omega) (by omega)]
  rw [if_pos (by simp), impl_bytesOf.l0]
  simp only [show (0 : Int) ≥ 0 by omega, if_true, Int.le_refl, show wrap64 (0 - 1) = -1 from wl (by omega) (by omega) (by omega)]
  rw [if_pos (by simp), impl_bytesOf.l0]
  simp only [show ¬ ((-1 : Int) ≥ 0) by omega, if_false]
  rfl
/-! ### a row's first elements -/
theorem rd_cons0 (a : Int) (l : List Int) : rd (a :: l) 0 = a := by simp [rd]
theorem rd_cons1 (a b : Int) (l : List Int) : rd (a :: b :: l) 1 = b := by simp [rd]
theorem rd_cons2 (a b c : Int) (l : List Int) : rd (a :: b :: c :: l) 2 = c := by simp [rd]
theorem rd_cons3 (a b c d : Int) (l : List Int) : rd (a :: b :: c :: d :: l) 3 = d := by simp [rd]
/-! ### the number of two bytes -/
theorem specNum2 (a b c d : Int) (l : List Int) (hl : l.length ≤ 1048576) (hb : 0 ≤ b ∧ b ≤ 255) (hc : 0 ≤ c ∧ c ≤ 255) (k : Nat) : spec_NumberAt.f (k + 4) (a :: b :: c :: d :: l) 1 2 = some (b * 256 + c) := by
  simp only [spec_NumberAt.f, inAll, Option.bind_some, show decide ((1 : Int) ≤ 2 ∧ (2 : Int) ≤ 4) = true by decide, if_true]
  rw [wl (n := ((a :: b :: c :: d :: l).length : Int) - 2) (m := (l.length : Int) + 2) (by simp; omega) (by omega) (by omega)]
  rw [decide_eq_true (show (0 : Int) ≤ 1 ∧ (1 : Int) ≤ (l.length : Int) + 2 by omega)]
  simp only [Bool.not_true, spec_NumberAt.j0, Bool.false_eq_true, if_false]
  rw [spec_NumberAt.l0]
  simp only [show (0 : Int) < 2 by omega, if_true, show wrap64 (1 + 0) = 1 from wl (by omega) (by omega) (by omega), show (0 : Int) ≤ 1 by omega, rd_cons1]
  rw [if_pos (by simp; omega), wl (n := b) rfl (by omega) (by omega), wl (n := 0 * 256) (m := 0) (by omega) (by omega) (by omega), wl (n := 0 + b) (m := b) (by omega) (by omega) (by omega), wl (n := 0 + 1) (m := 1) (by omega) (by omega) (by omega)]
  rw [spec_NumberAt.l0]
  simp only [show (1 : Int) < 2 by omega, if_true, show wrap64 (1 + 1) = 2 from wl (by omega) (by omega) (by omega), show (0 : Int) ≤ 2 by omega, rd_cons2]
  rw [if_pos (by simp; omega), wl (n := c) rfl (by omega) (by omega), wl (n := b * 256) rfl (by omega) (by omega), wl (n := b * 256 + c) rfl (by omega) (by omega)]
  rw [spec_NumberAt.l0, if_neg (by omega)]
/-! ### the number of two bytes, the program's -/
theorem implNum2 (a b c d : Int) (l : List Int) (hl : l.length ≤ 1048576) (hb : 0 ≤ b ∧ b ≤ 255) (hc : 0 ≤ c ∧ c ≤ 255) (k : Nat) : impl_NumberAt.f (k + 4) (a :: b :: c :: d :: l) 1 2 = some (b * 256 + c) := by
  simp only [impl_NumberAt.f, inAll', Option.bind_some, show decide ((1 : Int) ≤ 2 ∧ (2 : Int) ≤ 4) = true by decide, if_true]
  rw [wl (n := ((a :: b :: c :: d :: l).length : Int) - 2) (m := (l.length : Int) + 2) (by simp; omega) (by omega) (by omega)]
  rw [if_neg (by omega), decide_eq_false (show ¬ ((1 : Int) > (l.length : Int) + 2) by omega)]
  simp only [impl_NumberAt.j0, Bool.false_eq_true, if_false, show wrap64 (1 + 2) = 3 from wl (by omega) (by omega) (by omega), show (0 : Int) ≤ 1 by omega, show (1 : Int) ≤ 3 by omega, if_true]
  rw [if_pos (by simp; omega)]
  have e : ((a :: b :: c :: d :: l).take (3 : Int).toNat).drop (1 : Int).toNat = [b, c] := by simp
  rw [e, impl_NumberAt.l0]
  simp only [show (0 : Int) < (([b, c] : List Int).length : Int) by simp, if_true, Int.le_refl, rd_cons0, rd_cons1]
  rw [wl (n := b) rfl (by omega) (by omega), wl (n := 0 * 256) (m := 0 * 256) rfl (by omega) (by omega), or256 0 b (by omega) (by omega) hb.1 hb.2, show (0 : Int) * 256 + b = b by omega, wl (n := 0 + 1) (m := 1) (by omega) (by omega) (by omega)]
  rw [impl_NumberAt.l0]
  simp only [show (1 : Int) < (([b, c] : List Int).length : Int) by simp, if_true, show (0 : Int) ≤ 1 by omega, rd_cons0, rd_cons1]
  rw [wl (n := c) rfl (by omega) (by omega), wl (n := b * 256) rfl (by omega) (by omega), or256 b c hb.1 (by omega) hc.1 hc.2, wl (n := 1 + 1) (m := 2) (by omega) (by omega) (by omega)]
  rw [impl_NumberAt.l0, if_neg (by simp)]
/-! ### the bytes of a note -/
theorem specNote (a b : Int) (l : List Int) (hl : l.length ≤ 1048576) (k : Nat) : spec_NoteBytes.f (k + 6) a b l = some (if (1 ≤ a ∧ a ≤ 6) ∧ (0 ≤ b ∧ b ≤ 65535) ∧ (l.length : Int) ≤ 20 then a % 256 :: b / 256 % 256 :: b % 256 :: (l.length : Int) % 256 :: l else []) := by
  simp only [spec_NoteBytes.f, spec_NoteOk.f, inAll, Option.bind_some]
  by_cases h1 : 1 ≤ a ∧ a ≤ 6
  · by_cases h2 : 0 ≤ b ∧ b ≤ 65535
    · by_cases h3 : (l.length : Int) ≤ 20
      · rw [specBytes2 b h2.1 h2.2 k]
        simp [h1, h2, h3]
        omega
      · simp [h1, h2, h3]
    · simp [h1, h2]
  · simp [h1]
/-! ### the bytes of a note, the program's -/
theorem implNote (a b : Int) (l : List Int) (hl : l.length ≤ 1048576) (k : Nat) : impl_NoteBytes.f (k + 6) a b l = some (if (1 ≤ a ∧ a ≤ 6) ∧ (0 ≤ b ∧ b ≤ 65535) ∧ (l.length : Int) ≤ 20 then a % 256 :: b / 256 % 256 :: b % 256 :: (l.length : Int) % 256 :: l else []) := by
  simp only [impl_NoteBytes.f, impl_NoteOk.f, impl_word.f, inAll', Option.bind_some]
  by_cases h1 : 1 ≤ a ∧ a ≤ 6
  · by_cases h2 : 0 ≤ b ∧ b ≤ 65535
    · by_cases h3 : (l.length : Int) ≤ 20
      · rw [implBytes2 b (k + 2)]
        simp [h1, h2, h3, slices_Concat_byte_byte.f]
        omega
      · simp [h1, h2, h3]
    · simp [h1, h2]
  · simp [h1]
/-! ### the note of bytes -/
def noteOf (l : List Int) : Int × Int × List Int × Bool := match l with
  | a :: b :: c :: d :: m => if (1 ≤ a ∧ a ≤ 6) ∧ (m.length : Int) ≤ 20 ∧ d = (m.length : Int) then (a, b * 256 + c, m, true) else (0, 0, [], false)
  | _ => (0, 0, [], false)
theorem noteOf_len (l : List Int) : (noteOf l).2.2.1.length ≤ l.length := by
  unfold noteOf
  split
  · split
    · simp; omega
    · simp
  · simp
theorem byte_of {l : List Int} (hw : ∀ x ∈ l, (Lit.int .u8 x).wf = true) (x : Int) (hx : x ∈ l) : 0 ≤ x ∧ x ≤ 255 := by
  have := hw x hx
  simpa [Lit.wf, IntKind.min, IntKind.max, IntKind.signed, IntKind.bits] using this
/-! ### the note of bytes, the reference's -/
theorem specFrom (l : List Int) (hl : l.length ≤ 1048576) (hw : ∀ x ∈ l, (Lit.int .u8 x).wf = true) (k : Nat) : spec_NoteFrom.f (k + 4) l = some (noteOf l) := by
  match l with
  | [] => simp [spec_NoteFrom.f, noteOf]
  | [_] => simp [spec_NoteFrom.f, noteOf]
  | [_, _] => simp [spec_NoteFrom.f, noteOf]
  | [_, _, _] => simp [spec_NoteFrom.f, noteOf]
  | a :: b :: c :: d :: m =>
    have hm : m.length ≤ 1048576 := by simp at hl; omega
    have ha := byte_of hw a (by simp)
    have hb := byte_of hw b (by simp)
    have hc := byte_of hw c (by simp)
    have hd := byte_of hw d (by simp)
    simp only [spec_NoteFrom.f, specNum2 a b c d m hm hb hc k, Option.bind_some, rd_cons0, rd_cons3, spec_NoteOk.f, inAll, List.drop_succ_cons, List.drop_zero, List.nil_append]
    rw [if_neg (by simp; omega), if_pos (by simp; omega), if_pos (by simp; omega), if_pos (by simp; omega), wl (n := a) rfl (by omega) (by omega), wl (n := d) rfl (by omega) (by omega)]
    simp only [noteOf]
    have hn : 0 ≤ b * 256 + c ∧ b * 256 + c ≤ 65535 := by omega
    rw [decide_eq_true hn]
    have h3 : (3 : Int) < ((a :: b :: c :: d :: m).length : Int) := by simp; omega
    rw [if_pos h3]
    by_cases h1 : 1 ≤ a ∧ a ≤ 6 <;> by_cases h2 : (m.length : Int) ≤ 20 <;> by_cases h4 : d = (m.length : Int) <;> simp [h1, h2, h4]
/-! ### the note of bytes, the program's -/
theorem implFrom (l : List Int) (hl : l.length ≤ 1048576) (hw : ∀ x ∈ l, (Lit.int .u8 x).wf = true) (k : Nat) (hk : l.length < k) : impl_NoteFrom.f (k + 6) l = some (noteOf l) := by
  match l with
  | [] => simp [impl_NoteFrom.f, noteOf]
  | [_] => simp [impl_NoteFrom.f, noteOf]
  | [_, _] => simp [impl_NoteFrom.f, noteOf]
  | [_, _, _] => simp [impl_NoteFrom.f, noteOf]
  | a :: b :: c :: d :: m =>
    have hm : m.length ≤ 1048576 := by simp at hl; omega
    have hk' : m.length + 4 < k := by simpa using hk
    have ha := byte_of hw a (by simp)
    have hb := byte_of hw b (by simp)
    have hc := byte_of hw c (by simp)
    have hd := byte_of hw d (by simp)
    have hn : 0 ≤ b * 256 + c ∧ b * 256 + c ≤ 65535 := by omega
    simp only [impl_NoteFrom.f, implNum2 a b c d m hm hb hc (k + 2), Option.bind_some, rd_cons0, List.drop_succ_cons, List.drop_zero, impl_clone_byte.f]
    rw [if_neg (by simp; omega), if_pos (by simp; omega), if_pos (by simp; omega), if_pos (by omega), wl (n := a) rfl (by omega) (by omega)]
    simp only [Option.bind_some, implNote a (b * 256 + c) m hm k]
    by_cases h1 : (1 ≤ a ∧ a ≤ 6) ∧ (0 ≤ b * 256 + c ∧ b * 256 + c ≤ 65535) ∧ (m.length : Int) ≤ 20
    · rw [if_pos h1, eqSl _ _ (by simp; omega) _ (by simp; omega)]
      simp only [Option.bind_some, noteOf]
      rw [show a % 256 = a by omega, show (b * 256 + c) / 256 % 256 = b by omega, show (b * 256 + c) % 256 = c by omega, show (m.length : Int) % 256 = m.length by omega]
      by_cases h2 : d = (m.length : Int)
      · simp [h1, ← h2]
        omega
      · have : ¬ (m.length : Int) = d := fun e => h2 e.symm
        simp [h2, this]
    · rw [if_neg h1, eqSl _ _ (by simp) _ (by simp)]
      simp only [noteOf]
      rw [if_neg (fun h => h1 ⟨h.1, hn, h.2.1⟩)]
      simp
/-! ### a drawn note -/
theorem note_tot {s : List Int} (hs : Code s) {k : Nat} (hk : 1000 ≤ k) {p n : Int} (h0 : 0 ≤ p) (h1 : p ≤ 700000000) : Tot (fun r : Int × Int × List Int × Int => r.2.2.1.length ≤ 100 ∧ (∀ x ∈ r.2.2.1, 0 ≤ x ∧ x ≤ 255) ∧ p ≤ r.2.2.2 ∧ r.2.2.2 ≤ p + 100) (spec_l20Note.f k s p n) := by
  unfold spec_l20Note.f
  refine tot_pick hs (by omega) (by omega) (by omega) (by omega) ?_; intro a a0 a1; dsimp only
  refine tot_word hs (by omega) (by omega) (by omega) ?_; intro b p1 b0 b1 q1 q2; dsimp only
  refine tot_pick hs (by omega) (by omega) (by omega) (by omega) ?_; intro c c0 c1; dsimp only
  refine tot_bytes hs (by omega) (by omega) (by omega) (by omega) (by omega) ?_; intro d p2 d0 d1 q3 q4; dsimp only
  refine tot_odd hs (by omega) (by omega) (by omega) ?_; intro e p3 q5 q6; dsimp only
  refine tot_ite (fun _ => ?_) (fun _ => tot_some ⟨by dsimp only; omega, d1, by dsimp only; omega, by dsimp only; omega⟩)
  refine tot_pick hs (by omega) (by omega) (by omega) (by omega) ?_; intro f f0 f1; dsimp only
  refine tot_ite (fun _ => ?_) (fun _ => tot_ite (fun _ => ?_) (fun _ => tot_ite (fun _ => tot_some ⟨by simp, fun x hx => by simp at hx; omega, by dsimp only; omega, by dsimp only; omega⟩) (fun h => absurd h (by omega))))
  · refine tot_pick hs (by omega) (by omega) (by omega) (by omega) ?_; intro g g0 g1; exact tot_some ⟨by dsimp only; omega, d1, by dsimp only; omega, by dsimp only; omega⟩
  · refine tot_pick hs (by omega) (by omega) (by omega) (by omega) ?_; intro g g0 g1; exact tot_some ⟨by dsimp only; omega, d1, by dsimp only; omega, by dsimp only; omega⟩
theorem sameBytes_refl (l : List Int) : laws_sameBytes.f l l = some true := by simp [laws_sameBytes.f]
theorem wf_byte {l : List Int} (h : ∀ x ∈ l, 0 ≤ x ∧ x ≤ 255) (x : Int) (hx : x ∈ l) : (Lit.int .u8 x).wf = true := by
  have := h x hx
  simp [Lit.wf, IntKind.min, IntKind.max, IntKind.signed, IntKind.bits]
  omega
/-! ### a drawn packet -/
abbrev PT := Int × Int × Int × Int × Int × Int × Bool × Bool × List Int × Int
theorem packet_j0 {s : List Int} (hs : Code s) (z : Int) {k : Nat} (hk : 10 ≤ k) {p : Int} (h0 : 0 ≤ p) (h1 : p ≤ 800000000) (a b c d e f : Int) (g h : Bool) (l : List Int) (hl : l.length ≤ 100) (hb : ∀ x ∈ l, 0 ≤ x ∧ x ≤ 255) :
    Tot (fun r : PT => r.2.2.2.2.2.2.2.2.1.length ≤ 100 ∧ (∀ x ∈ r.2.2.2.2.2.2.2.2.1, 0 ≤ x ∧ x ≤ 255) ∧ p ≤ r.2.2.2.2.2.2.2.2.2 ∧ r.2.2.2.2.2.2.2.2.2 ≤ p + 10) (spec_l20Packet.j0 k z s p a b c d e f g h l) := by
  obtain ⟨k, rfl⟩ : ∃ q, k = q + 1 := ⟨k - 1, by omega⟩
  have fin : ∀ (a b c d e f : Int) (g h : Bool) (l : List Int) (p' : Int), l.length ≤ 100 → (∀ x ∈ l, 0 ≤ x ∧ x ≤ 255) → p ≤ p' → p' ≤ p + 10 → Tot (fun r : PT => r.2.2.2.2.2.2.2.2.1.length ≤ 100 ∧ (∀ x ∈ r.2.2.2.2.2.2.2.2.1, 0 ≤ x ∧ x ≤ 255) ∧ p ≤ r.2.2.2.2.2.2.2.2.2 ∧ r.2.2.2.2.2.2.2.2.2 ≤ p + 10) (some (a, b, c, d, e, f, g, h, l, p')) := fun _ _ _ _ _ _ _ _ _ _ u v x y => tot_some ⟨u, v, x, y⟩
  rw [spec_l20Packet.j0]
  refine tot_odd hs (by omega) (by omega) (by omega) ?_; intro o p3 q5 q6; dsimp only
  refine tot_ite (fun _ => ?_) (fun _ => fin _ _ _ _ _ _ _ _ _ _ hl hb (by omega) (by omega))
  refine tot_pick hs (by omega) (by omega) (by omega) (by omega) ?_; intro t t0 t1; dsimp only
  refine tot_ite (fun _ => ?_) (fun _ => tot_ite (fun _ => ?_) (fun _ => tot_ite (fun _ => ?_) (fun _ => tot_ite (fun _ => fin _ _ _ _ _ _ _ _ _ _ (by simp) (fun x hx => by cases hx) (by omega) (by omega)) (fun _ => fin _ _ _ _ _ _ _ _ _ _ hl hb (by omega) (by omega)))))
  · refine tot_pick hs (by omega) (by omega) (by omega) (by omega) ?_; intro u u0 u1; exact fin _ _ _ _ _ _ _ _ _ _ hl hb (by dsimp only; omega) (by dsimp only; omega)
  · refine tot_pick hs (by omega) (by omega) (by omega) (by omega) ?_; intro u u0 u1; exact fin _ _ _ _ _ _ _ _ _ _ hl hb (by dsimp only; omega) (by dsimp only; omega)
  · rw [if_pos (by omega)]
    exact fin _ _ _ _ _ _ _ _ _ _ (by simp) (fun x hx => by simp at hx; omega) (by omega) (by omega)
theorem packet_tot {s : List Int} (hs : Code s) {k : Nat} (hk : 1000 ≤ k) {p z : Int} (h0 : 0 ≤ p) (h1 : p ≤ 700000000) :
    Tot (fun r : PT => r.2.2.2.2.2.2.2.2.1.length ≤ 100 ∧ (∀ x ∈ r.2.2.2.2.2.2.2.2.1, 0 ≤ x ∧ x ≤ 255) ∧ p ≤ r.2.2.2.2.2.2.2.2.2 ∧ r.2.2.2.2.2.2.2.2.2 ≤ p + 100) (spec_l20Packet.f k s p z) := by
  unfold spec_l20Packet.f
  refine tot_pick hs (by omega) (by omega) (by omega) (by omega) ?_; intro a a0 a1; dsimp only
  refine tot_pick hs (by omega) (by omega) (by omega) (by omega) ?_; intro b b0 b1; dsimp only
  refine tot_pick hs (by omega) (by omega) (by omega) (by omega) ?_; intro c c0 c1; dsimp only
  refine tot_pick hs (by omega) (by omega) (by omega) (by omega) ?_; intro d d0 d1; dsimp only
  refine tot_pick hs (by omega) (by omega) (by omega) (by omega) ?_; intro e e0 e1; dsimp only
  refine tot_pick hs (by omega) (by omega) (by omega) (by omega) ?_; intro f f0 f1; dsimp only
  refine tot_bytes hs (by omega) (by omega) (by omega) (by omega) (by omega) ?_; intro l p2 l0 l1 q3 q4; dsimp only
  refine tot_pick hs (by omega) (by omega) (by omega) (by omega) ?_; intro g g0 g1; dsimp only
  have go : ∀ (f : Int) (g h : Bool) (p' : Int), p ≤ p' → p' ≤ p + 60 → Tot (fun r : PT => r.2.2.2.2.2.2.2.2.1.length ≤ 100 ∧ (∀ x ∈ r.2.2.2.2.2.2.2.2.1, 0 ≤ x ∧ x ≤ 255) ∧ p ≤ r.2.2.2.2.2.2.2.2.2 ∧ r.2.2.2.2.2.2.2.2.2 ≤ p + 100) (spec_l20Packet.j0 k z s p' a b c d e f g h l) :=
    fun f g h p' u v => tot_mono (packet_j0 hs z (by omega) (by omega) (by omega) a b c d e f g h l (by omega) l1) (fun r hr => ⟨hr.1, hr.2.1, by omega, by omega⟩)
  refine tot_ite (fun _ => go _ _ _ _ (by omega) (by omega)) (fun _ => tot_ite (fun _ => ?_) (fun _ => go _ _ _ _ (by omega) (by omega)))
  refine tot_pick hs (by omega) (by omega) (by omega) (by omega) ?_; intro t t0 t1; dsimp only
  refine tot_ite (fun _ => ?_) (fun _ => go _ _ _ _ (by omega) (by omega))
  refine tot_pick hs (by omega) (by omega) (by omega) (by omega) ?_; intro u u0 u1; exact go _ _ _ _ (by dsimp only; omega) (by dsimp only; omega)
theorem note_bytes_byte {a b : Int} {l : List Int} (hb : ∀ x ∈ l, 0 ≤ x ∧ x ≤ 255) : ∀ x ∈ (if (1 ≤ a ∧ a ≤ 6) ∧ (0 ≤ b ∧ b ≤ 65535) ∧ (l.length : Int) ≤ 20 then a % 256 :: b / 256 % 256 :: b % 256 :: (l.length : Int) % 256 :: l else []), 0 ≤ x ∧ x ≤ 255 := by
  intro x hx
  split at hx
  · simp only [List.mem_cons] at hx
    rcases hx with rfl | rfl | rfl | rfl | hx
    · omega
    · omega
    · omega
    · omega
    · exact hb x hx
  · cases hx
theorem noted_tot {s : List Int} (hs : Code s) {k : Nat} (hk : 1000 ≤ k) {p z : Int} (h0 : 0 ≤ p) (h1 : p ≤ 600000000) :
    Tot (fun r : PT => r.2.2.2.2.2.2.2.2.1.length ≤ 200 ∧ (∀ x ∈ r.2.2.2.2.2.2.2.2.1, 0 ≤ x ∧ x ≤ 255) ∧ p ≤ r.2.2.2.2.2.2.2.2.2 ∧ r.2.2.2.2.2.2.2.2.2 ≤ p + 300) (spec_l20Noted.f k s p z) := by
  obtain ⟨k', hk'⟩ : ∃ q, k = q + 6 := ⟨k - 6, by omega⟩
  unfold spec_l20Noted.f
  refine tot_bind (packet_tot hs hk h0 (by omega)) (fun r hr => ?_)
  obtain ⟨r1, r2, r3, r4⟩ := hr
  refine tot_pick hs (by omega) (by omega) (by omega) (by omega) ?_; intro a a0 a1; dsimp only
  refine tot_ite (fun _ => ?_) (fun _ => tot_some ⟨by dsimp only; omega, r2, by dsimp only; omega, by dsimp only; omega⟩)
  refine tot_bind (note_tot hs hk (by omega) (by omega)) (fun q hq => ?_)
  obtain ⟨q1, q2, q3, q4⟩ := hq
  refine tot_pick hs (by omega) (by omega) (by omega) (by omega) ?_; intro b b0 b1; dsimp only
  refine tot_ite (fun _ => ?_) (fun _ => ?_)
  · subst hk'
    rw [specNote 1 q.2.1 q.2.2.1 (by omega) k', Option.bind_some]
    refine tot_some ⟨?_, note_bytes_byte q2, by dsimp only; omega, by dsimp only; omega⟩
    dsimp only
    split
    · simp only [List.length_cons]; omega
    · simp
  · subst hk'
    rw [specNote q.1 q.2.1 q.2.2.1 (by omega) k', Option.bind_some]
    refine tot_some ⟨?_, note_bytes_byte q2, by dsimp only; omega, by dsimp only; omega⟩
    dsimp only
    split
    · simp only [List.length_cons]; omega
    · simp
/-! ### packets -/
theorem packetOk_impl (a b c d e f : Int) (g h : Bool) (l : List Int) : impl_PacketOk.f a b c d e f g h l = spec_PacketOk.f a b c d e f g h l := by
  simp only [impl_PacketOk.f, spec_PacketOk.f, impl_word.f, inAll, inAll', Option.bind_some]
theorem packetOk_some (a b c d e f : Int) (g h : Bool) (l : List Int) : ∃ t, spec_PacketOk.f a b c d e f g h l = some t ∧ (t = true → 0 ≤ f) := by
  by_cases hf : 0 ≤ f ∧ f ≤ 255
  · have : ∃ t, spec_PacketOk.f a b c d e f g h l = some t := by
      simp only [spec_PacketOk.f, inAll, Option.bind_some]
      repeat' split
      all_goals exact ⟨_, rfl⟩
    obtain ⟨t, ht⟩ := this
    exact ⟨t, ht, fun _ => hf.1⟩
  · refine ⟨false, ?_, fun h => by cases h⟩
    simp only [spec_PacketOk.f, inAll, Option.bind_some]
    rw [decide_eq_false hf]
    simp
/-! ### the sum of bytes -/
theorem rd_mem (l : List Int) (i : Nat) (h : i < l.length) : rd l (i : Int) ∈ l := List.mem_of_getElem? (rd_at l i h)
def sW (l : List Int) (j : Nat) : Int := if h : 0 < l.length then SumOf_.so_sumW l (SumOf_.so_evens l.length h j) else 0
theorem sW_zero (l : List Int) : sW l 0 = 0 := by
  unfold sW
  split
  · rfl
  · rfl
theorem addW_val (s a b : Int) (hs : 0 ≤ s ∧ s ≤ 65535) (ha : 0 ≤ a ∧ a ≤ 255) (hb : 0 ≤ b ∧ b ≤ 255) :
    SumOf_.so_addW s (a * 256 + b) = if s + (a * 256 + b) > 65535 then s + (a * 256 + b) - 65535 else s + (a * 256 + b) := by
  have h1 : SumOf_.so_one 0 s = s := by
    unfold SumOf_.so_one
    rw [wrap_id (n := 0 + s) (by omega) (by omega), if_neg (by omega)]
    omega
  unfold SumOf_.so_addW
  rw [h1]
  unfold SumOf_.so_one
  rw [wrap_id (n := s + (a * 256 + b)) (by omega) (by omega)]
  split
  · rw [wrap_id (by omega) (by omega)]
  · rfl
theorem nAt_val (l : List Int) (hb : ∀ x ∈ l, 0 ≤ x ∧ x ≤ 255) (i : Nat) (hi : i < l.length) :
    SumOf_.so_nAt l i = rd l (i : Int) * 256 + (if i + 1 < l.length then rd l ((i + 1 : Nat) : Int) else 0) := by
  have h1 := hb _ (rd_mem l i hi)
  unfold SumOf_.so_nAt
  by_cases h2 : i + 1 < l.length
  · have h3 := hb _ (rd_mem l (i + 1) h2)
    rw [if_pos h2, if_pos h2, wrap_id (n := rd l (i : Int)) (by omega) (by omega), wrap_id (by omega) (by omega), wrap_id (by omega) (by omega)]
    exact or256 _ _ h1.1 (by omega) h3.1 h3.2
  · rw [if_neg h2, if_neg h2, wrap_id (n := rd l (i : Int)) (by omega) (by omega), wrap_id (by omega) (by omega)]
    omega
theorem sW_succ (l : List Int) (j : Nat) (h : 2 * j < l.length) : sW l (j + 1) = SumOf_.so_addW (sW l j) (SumOf_.so_nAt l (2 * j)) := by
  have h0 : 0 < l.length := by omega
  unfold sW
  rw [dif_pos h0, dif_pos h0, SumOf_.so_evens_succ _ _ _ h, SumOf_.so_sumW_snoc]
theorem sW_range (l : List Int) (hb : ∀ x ∈ l, 0 ≤ x ∧ x ≤ 255) : ∀ j, 2 * j ≤ l.length + 1 → 0 ≤ sW l j ∧ sW l j ≤ 65535 := by
  intro j
  induction j with
  | zero => intro _; rw [sW_zero]; omega
  | succ j ih =>
    intro hj
    have h1 := ih (by omega)
    have h2 := hb _ (rd_mem l (2 * j) (by omega))
    rw [sW_succ l j (by omega), nAt_val l hb (2 * j) (by omega)]
    by_cases h3 : 2 * j + 1 < l.length
    · have h4 := hb _ (rd_mem l (2 * j + 1) h3)
      rw [if_pos h3, addW_val _ _ _ h1 h2 h4]
      split <;> omega
    · rw [if_neg h3, addW_val _ _ _ h1 h2 (by omega)]
      split <;> omega
theorem l1Sum_loop (l : List Int) (hb : ∀ x ∈ l, 0 ≤ x ∧ x ≤ 255) (hl : l.length ≤ 1000000000) : ∀ d j k, 2 * j + 2 * d = l.length + l.length % 2 → 2 * d < k →
    spec_l1Sum.l0 k l (sW l j) ((2 * j : Nat) : Int) = some (sW l ((l.length + 1) / 2)) := by
  intro d
  induction d with
  | zero =>
    intro j k hj hk
    obtain ⟨k, rfl⟩ : ∃ q, k = q + 1 := ⟨k - 1, by omega⟩
    have e : j = (l.length + 1) / 2 := by omega
    simp only [spec_l1Sum.l0]
    rw [if_neg (by omega), e]
  | succ d ih =>
    intro j k hj hk
    obtain ⟨k, rfl⟩ : ∃ q, k = q + 1 + 1 := ⟨k - 2, by omega⟩
    have h0 : 2 * j < l.length := by omega
    have hr := sW_range l hb j (by omega)
    have h2 := hb _ (rd_mem l (2 * j) h0)
    have hi := ih (j + 1) 
    rw [sW_succ l j h0, nAt_val l hb (2 * j) h0] at hi
    have e1 : wrap64 (wrap64 (rd l ((2 * j : Nat) : Int)) * 256) = rd l ((2 * j : Nat) : Int) * 256 := by
      rw [wrap_id (n := rd l _) (by omega) (by omega), wrap_id (by omega) (by omega)]
    have e2 : wrap64 (((2 * j : Nat) : Int) + 1) = ((2 * j + 1 : Nat) : Int) := by rw [wrap_id (by omega) (by omega)]; omega
    have ht : Int.tmod ((2 * j : Nat) : Int) 2 = 0 := by rw [Int.tmod_eq_emod_of_nonneg (by omega)]; omega
    have ht1 : ¬ Int.tmod ((2 * j + 1 : Nat) : Int) 2 = 0 := by rw [Int.tmod_eq_emod_of_nonneg (by omega)]; omega
    have e3 : wrap64 (((2 * j + 1 : Nat) : Int) + 1) = ((2 * (j + 1) : Nat) : Int) := by rw [wrap_id (by omega) (by omega)]; omega
    have hw : ∀ z : Int, z = sW l j + rd l ((2 * j : Nat) : Int) * 256 ∨ z = sW l j + rd l ((2 * j : Nat) : Int) * 256 - 65535 → wrap64 z = z := by
      intro z hz
      exact wrap_id (by omega) (by omega)
    rw [spec_l1Sum.l0]
    rw [if_pos (by omega), if_pos ht, if_pos (by omega), e1, e2, hw _ (.inl rfl), hw _ (.inr rfl)]
    by_cases h3 : 2 * j + 1 < l.length
    · have h4 := hb _ (rd_mem l (2 * j + 1) h3)
      rw [if_pos h3, addW_val _ _ _ hr h2 h4] at hi
      have e4 : wrap64 (rd l ((2 * j + 1 : Nat) : Int)) = rd l ((2 * j + 1 : Nat) : Int) := wrap_id (by omega) (by omega)
      split
      · rename_i hc
        rw [spec_l1Sum.l0, if_pos (by omega), if_neg ht1, if_pos (by omega), e4, e3, wrap_id (by omega) (by omega), if_neg (by omega)]
        rw [← hi k (by omega) (by omega), if_pos (by omega)]
        congr 1; omega
      · rename_i hc
        rw [spec_l1Sum.l0, if_pos (by omega), if_neg ht1, if_pos (by omega), e4, e3, wrap_id (n := sW l j + rd l ((2 * j : Nat) : Int) * 256 + rd l ((2 * j + 1 : Nat) : Int)) (by omega) (by omega)]
        split
        · rename_i hd
          rw [wrap_id (by omega) (by omega), ← hi k (by omega) (by omega), if_pos (by omega)]
          congr 1; omega
        · rename_i hd
          rw [← hi k (by omega) (by omega), if_neg (by omega)]
          congr 1; omega
    · have hd0 : d = 0 := by omega
      rw [if_neg h3, addW_val _ _ _ hr h2 (by omega)] at hi
      have he := hi 1 (by omega) (by omega)
      rw [spec_l1Sum.l0, if_neg (by omega)] at he
      split
      · rename_i hc
        rw [spec_l1Sum.l0, if_neg (by omega), ← he, if_pos (by omega)]
        congr 1; omega
      · rename_i hc
        rw [spec_l1Sum.l0, if_neg (by omega), ← he, if_neg (by omega)]
        congr 1; omega
theorem specSum (l : List Int) (hb : ∀ x ∈ l, 0 ≤ x ∧ x ≤ 255) (hl : l.length ≤ 1000000000) (k : Nat) (hk : l.length + 1 < k) : spec_SumOf.f k l = some (65535 - sW l ((l.length + 1) / 2)) := by
  have hr := sW_range l hb ((l.length + 1) / 2) (by omega)
  have h0 := l1Sum_loop l hb hl ((l.length + 1) / 2) 0 k (by omega) (by omega)
  rw [sW_zero] at h0
  simp only [spec_SumOf.f, spec_l1Sum.f]
  rw [show (0 : Int) = ((2 * 0 : Nat) : Int) from rfl] 
  rw [show spec_l1Sum.l0 k l ((2 * 0 : Nat) : Int) ((2 * 0 : Nat) : Int) = _ from h0, Option.bind_some, wrap_id (by omega) (by omega)]
theorem implSum (l : List Int) (hb : ∀ x ∈ l, 0 ≤ x ∧ x ≤ 255) (hl : l.length ≤ 1000000000) : impl_sumOf.f l = some (65535 - sW l ((l.length + 1) / 2)) := by
  have hr := sW_range l hb ((l.length + 1) / 2) (by omega)
  have e : SumOf_.so_sumAll l = sW l ((l.length + 1) / 2) := by
    unfold SumOf_.so_sumAll sW
    by_cases h : 0 < l.length
    · simp only [dif_pos h]
    · simp only [dif_neg h]
  rw [← e] at hr
  rw [impl_sumOf.f, if_pos (by omega), e, wrap_id (by omega) (by omega)]
/-! ### a packet as bytes, and the note about it -/
theorem pok_cond {a b c d e f : Int} {g h : Bool} {l : List Int} (ht : spec_PacketOk.f a b c d e f g h l = some true) : (0 ≤ a ∧ a ≤ 65535) ∧ (0 ≤ b ∧ b ≤ 65535) ∧ (0 ≤ f ∧ f ≤ 255) ∧ (l.length : Int) ≤ 48 := by
  simp only [spec_PacketOk.f, inAll, Option.bind_some] at ht
  by_cases c1 : 0 ≤ a ∧ a ≤ 65535
  · by_cases c2 : 0 ≤ b ∧ b ≤ 65535
    · by_cases c3 : 0 ≤ f ∧ f ≤ 255
      · refine ⟨c1, c2, c3, ?_⟩
        by_cases c4 : (l.length : Int) ≤ 48
        · exact c4
        · exfalso
          simp [c1, c2, c3, c4] at ht
      · exfalso
        simp [c1, c2, c3] at ht
    · exfalso
      simp [c1, c2] at ht
  · exfalso
    simp [c1] at ht
def flags (g h : Bool) : Int := (if g = true then 1 else 0) + (if h = true then 2 else 0)
def pHead (a b c d e f : Int) (g h : Bool) (l : List Int) : List Int := [a / 256 % 256, a % 256, b / 256 % 256, b % 256, c % 256, d % 256, e % 256, f % 256, flags g h % 256, (l.length : Int) % 256]
def pBytes (a b c d e f : Int) (g h : Bool) (l : List Int) : List Int := pHead a b c d e f g h l ++ [(65535 - sW (pHead a b c d e f g h l) 5) / 256 % 256, (65535 - sW (pHead a b c d e f g h l) 5) % 256] ++ l
theorem pHead_byte (a b c d e f : Int) (g h : Bool) (l : List Int) : ∀ x ∈ pHead a b c d e f g h l, 0 ≤ x ∧ x ≤ 255 := by
  intro x hx
  simp only [pHead, List.mem_cons, List.not_mem_nil, or_false] at hx
  rcases hx with rfl | rfl | rfl | rfl | rfl | rfl | rfl | rfl | rfl | rfl <;> omega
theorem pHead_sum (a b c d e f : Int) (g h : Bool) (l : List Int) : 0 ≤ 65535 - sW (pHead a b c d e f g h l) 5 ∧ 65535 - sW (pHead a b c d e f g h l) 5 ≤ 65535 := by
  have := sW_range _ (pHead_byte a b c d e f g h l) 5 (by simp [pHead])
  omega
theorem specPBytes (a b c d e f : Int) (g h : Bool) (l : List Int) (t : Bool) (ht : spec_PacketOk.f a b c d e f g h l = some t) (k : Nat) : spec_PacketBytes.f (k + 20) a b c d e f g h l = some (if t = true then pBytes a b c d e f g h l else []) := by
  unfold spec_PacketBytes.f
  rw [ht, Option.bind_some]
  cases t
  · rw [if_neg (by simp), if_neg (by simp)]
  · rw [if_pos rfl, if_pos rfl]
    obtain ⟨ca, cb, _, cl⟩ := pok_cond ht
    have hfl : spec_l4Flags.f a b c d e f g h l = some (flags g h) := by cases g <;> cases h <;> rfl
    have hh : spec_l4Head.f (k + 20) a b c d e f g h l = some (pHead a b c d e f g h l) := by
      unfold spec_l4Head.f
      rw [specBytes2 a ca.1 ca.2 (k + 14), Option.bind_some, specBytes2 b cb.1 cb.2 (k + 14), Option.bind_some, if_pos (by simp), Option.bind_some, hfl, Option.bind_some, Option.bind_some, if_pos (by simp)]
      rfl
    have hs := specSum _ (pHead_byte a b c d e f g h l) (by simp [pHead]) (k + 20) (by simp [pHead])
    rw [show (pHead a b c d e f g h l).length = 10 from rfl] at hs
    have hr := pHead_sum a b c d e f g h l
    rw [hh, Option.bind_some, hs, Option.bind_some, specBytes2 _ hr.1 hr.2 (k + 14), Option.bind_some, if_pos (by simp [pHead]), Option.bind_some, if_pos (by simp [pHead]; omega)]
    rfl
theorem implPBytes (a b c d e f : Int) (g h : Bool) (l : List Int) (hl : (l.length : Int) ≤ 48) (k : Nat) : impl_packetBytes.f (k + 20) a b c d e f g h l = some (pBytes a b c d e f g h l) := by
  have hb : ∃ p q, impl_bit.f g 1 = some p ∧ impl_bit.f h 2 = some q ∧ wrap64 (p + q) = flags g h := by
    refine ⟨if g = true then 1 else 0, if h = true then 2 else 0, ?_, ?_, ?_⟩
    · cases g <;> rfl
    · cases h <;> rfl
    · cases g <;> cases h <;> simp [flags, wrap64]
  obtain ⟨p, q, b1, b2, b3⟩ := hb
  have hc : slices_Concat_byte_byte.f [[a / 256 % 256, a % 256], [b / 256 % 256, b % 256], [c % 256, d % 256, e % 256, f % 256, flags g h % 256, (l.length : Int) % 256]] = some (pHead a b c d e f g h l) := rfl
  have hs := implSum _ (pHead_byte a b c d e f g h l) (by simp [pHead])
  rw [show (pHead a b c d e f g h l).length = 10 from rfl] at hs
  unfold impl_packetBytes.f
  rw [implBytes2 a (k + 16), Option.bind_some, implBytes2 b (k + 16), Option.bind_some, b1, Option.bind_some, b2, Option.bind_some, b3, hc, Option.bind_some, hs, Option.bind_some, implBytes2 _ (k + 16), Option.bind_some]
  simp only [slices_Concat_byte_byte.f]
  rw [if_pos (by simp [pHead]; omega)]
  simp [pBytes]
theorem mn20 (n : Nat) : ∃ m : Nat, mn (n : Int) 20 = (m : Int) ∧ m ≤ n ∧ m ≤ 20 := by
  unfold mn
  split
  · exact ⟨20, rfl, by omega, Nat.le_refl _⟩
  · exact ⟨n, rfl, Nat.le_refl _, by omega⟩
abbrev AT := Int × Int × Int × Int × Int × Int × Bool × Bool × List Int × Bool
theorem about_told (a b c d e f : Int) (g h : Bool) (l : List Int) (own kind n : Int) (hl : l.length ≤ 1048576) (hw : ∀ x ∈ l, (Lit.int .u8 x).wf = true) : ∃ R : AT, R.2.2.2.2.2.2.2.2.1.length ≤ 24 ∧ (∀ k, l.length < k → (spec_NoteAbout.f (k + 20) a b c d e f g h l own kind n = some R ∧ impl_NoteAbout.f (k + 20) a b c d e f g h l own kind n = some R)) ∧
    (R = (0, 0, 0, 0, 0, 0, false, false, [], false) ∨ ∃ L : List Int, R = (own, a, 1, 64, e, 0, false, false, kind % 256 :: n / 256 % 256 :: n % 256 :: (L.length : Int) % 256 :: L, true) ∧ spec_PacketOk.f a b c d e f g h l = some true ∧ (0 ≤ own ∧ own ≤ 65535) ∧ (3 ≤ kind ∧ kind ≤ 6) ∧ (0 ≤ n ∧ n ≤ 65535) ∧ L.length ≤ 20 ∧ ∀ x ∈ L, 0 ≤ x ∧ x ≤ 255) := by
  obtain ⟨t, ht, _⟩ := packetOk_some a b c d e f g h l
  have hti : impl_PacketOk.f a b c d e f g h l = some t := (packetOk_impl a b c d e f g h l).trans ht
  have hnf : ∀ k, l.length < k → ∃ u, u = (if (noteOf l).2.2.2 = true then (if c = 1 then decide ((noteOf l).1 ≥ 3) else false) else false) ∧ spec_NoteFault.f (k + 20) a b c d e f g h l = some u ∧ impl_NoteFault.f (k + 20) a b c d e f g h l = some u := by
    intro k hk
    refine ⟨_, rfl, ?_, ?_⟩
    · unfold spec_NoteFault.f
      rw [specFrom l hl hw (k + 16), Option.bind_some]
      split
      · split <;> rfl
      · rfl
    · unfold impl_NoteFault.f
      rw [implFrom l hl hw (k + 14) (by omega), Option.bind_some]
      split
      · split <;> rfl
      · rfl
  generalize hB : (if t = true then pBytes a b c d e f g h l else []) = B
  obtain ⟨m, hm, m1, m2⟩ := mn20 B.length
  have hBl : (B.take m).length = m := by rw [List.length_take]; omega
  have hNs : ∀ k, spec_NoteBytes.f (k + 20) kind n (B.take m) = _ := fun k => specNote kind n (B.take m) (by omega) (k + 14)
  have hNi : ∀ k, impl_NoteBytes.f (k + 20) kind n (B.take m) = _ := fun k => implNote kind n (B.take m) (by omega) (k + 14)
  generalize hN : (if (1 ≤ kind ∧ kind ≤ 6) ∧ (0 ≤ n ∧ n ≤ 65535) ∧ ((B.take m).length : Int) ≤ 20 then kind % 256 :: n / 256 % 256 :: n % 256 :: ((B.take m).length : Int) % 256 :: B.take m else []) = N at hNs hNi
  have hNl : N.length ≤ 24 := by
    rw [← hN]
    split
    · simp only [List.length_cons]; omega
    · simp
  have hNe : (N.length : Int) = 0 ↔ ¬ ((1 ≤ kind ∧ kind ≤ 6) ∧ 0 ≤ n ∧ n ≤ 65535) := by
    rw [← hN]
    by_cases hc : (1 ≤ kind ∧ kind ≤ 6) ∧ (0 ≤ n ∧ n ≤ 65535)
    · rw [if_pos ⟨hc.1, hc.2, by omega⟩]
      simp only [List.length_cons]
      exact ⟨fun x => by omega, fun x => absurd hc x⟩
    · rw [if_neg (fun x => hc ⟨x.1, x.2.1⟩)]
      exact ⟨fun _ => hc, fun _ => rfl⟩
  have hspec : ∀ k u, spec_NoteFault.f (k + 20) a b c d e f g h l = some u → spec_NoteAbout.f (k + 20) a b c d e f g h l own kind n = some (if t = true ∧ (0 ≤ own ∧ own ≤ 65535) ∧ (3 ≤ kind ∧ kind ≤ 6) ∧ ¬ (N.length : Int) = 0 ∧ u = false ∧ ¬ f > 0 then (own, a, 1, 64, e, 0, false, false, N, true) else (0, 0, 0, 0, 0, 0, false, false, [], false)) := by
    intro k u hu
    unfold spec_NoteAbout.f
    rw [specPBytes a b c d e f g h l t ht k, Option.bind_some, hB, hm, if_pos (by omega), if_pos (by omega), Int.toNat_natCast, hNs, Option.bind_some, ht, Option.bind_some]
    simp only [inAll, Option.bind_some, hu]
    cases t
    · simp
    · by_cases c1 : 0 ≤ own ∧ own ≤ 65535
      · by_cases c2 : 3 ≤ kind ∧ kind ≤ 6
        · by_cases c3 : (N.length : Int) = 0
          · rw [if_pos rfl, decide_eq_true c1, if_pos rfl, decide_eq_true c2, if_pos rfl, if_pos c3, if_neg (fun x => x.2.2.2.1 c3)]
          · rw [if_pos rfl, decide_eq_true c1, if_pos rfl, decide_eq_true c2, if_pos rfl, if_neg c3]
            cases u
            · by_cases c5 : f > 0
              · rw [if_neg (by simp), if_pos c5, if_neg (fun x => x.2.2.2.2.2 c5)]
              · rw [if_neg (by simp), if_neg c5, if_pos ⟨rfl, c1, c2, c3, rfl, c5⟩]
            · rw [if_pos rfl, if_neg (fun x => by cases x.2.2.2.2.1)]
        · rw [if_pos rfl, decide_eq_true c1, if_pos rfl, decide_eq_false c2, if_neg (by simp), if_neg (fun x => c2 x.2.2.1)]
      · rw [if_pos rfl, decide_eq_false c1, if_neg (by simp), if_neg (fun x => c1 x.2.1)]
  have himpl : ∀ k u, impl_NoteFault.f (k + 20 + 1) a b c d e f g h l = some u → impl_NoteAbout.f (k + 20 + 1) a b c d e f g h l own kind n = some (if t = true ∧ (0 ≤ own ∧ own ≤ 65535) ∧ (3 ≤ kind ∧ kind ≤ 6) ∧ ¬ (N.length : Int) = 0 ∧ u = false ∧ ¬ f > 0 then (own, a, 1, 64, e, 0, false, false, N, true) else (0, 0, 0, 0, 0, 0, false, false, [], false)) := by
    intro k u hu
    have jt : impl_NoteAbout.j0 (k + 20 + 1) own kind n true a b c d e f g h l = some (0, 0, 0, 0, 0, 0, false, false, [], false) := by rw [impl_NoteAbout.j0, if_pos rfl]
    unfold impl_NoteAbout.f
    rw [hti, Option.bind_some]
    simp only [impl_word.f, inAll', Option.bind_some, hu, jt]
    cases t
    · simp
    · obtain ⟨_, _, cf, cl⟩ := pok_cond ht
      have jf : impl_NoteAbout.j0 (k + 20 + 1) own kind n false a b c d e f g h l = some (own, a, 1, 64, e, 0, false, false, N, true) := by
        rw [impl_NoteAbout.j0, if_neg (by simp), implPBytes a b c d e f g h l cl k, Option.bind_some]
        rw [if_pos rfl] at hB
        rw [hB, hm, if_pos (by omega), if_pos (by omega), Int.toNat_natCast]
        unfold impl_noted.f
        rw [hNi, Option.bind_some, Option.bind_some]
      by_cases c1 : 0 ≤ own ∧ own ≤ 65535
      · by_cases c5 : f = 0
        · cases u
          · by_cases c2 : 3 ≤ kind ∧ kind ≤ 6
            · by_cases c4 : 0 ≤ n ∧ n ≤ 65535
              · have c3 : ¬ (N.length : Int) = 0 := fun x => hNe.1 x ⟨⟨by omega, by omega⟩, c4⟩
                rw [if_pos rfl, decide_eq_true c1, if_pos rfl, if_pos c5, if_neg (by simp), decide_eq_true c2, if_pos rfl, decide_eq_true c4]
                rw [show (!true) = false from rfl, jf, if_pos ⟨rfl, c1, c2, c3, rfl, by omega⟩]
              · have c3 : (N.length : Int) = 0 := hNe.2 (fun x => c4 x.2)
                rw [if_pos rfl, decide_eq_true c1, if_pos rfl, if_pos c5, if_neg (by simp), decide_eq_true c2, if_pos rfl, decide_eq_false c4]
                rw [show (!false) = true from rfl, jt, if_neg (fun x => x.2.2.2.1 c3)]
            · rw [if_pos rfl, decide_eq_true c1, if_pos rfl, if_pos c5, if_neg (by simp), decide_eq_false c2, if_neg (by simp), if_neg (fun x => c2 x.2.2.1)]
          · rw [if_pos rfl, decide_eq_true c1, if_pos rfl, if_pos c5, if_pos rfl, if_neg (fun x => by cases x.2.2.2.2.1)]
        · rw [if_pos rfl, decide_eq_true c1, if_pos rfl, if_neg c5, if_neg (fun x => x.2.2.2.2.2 (by omega))]
      · rw [if_pos rfl, decide_eq_false c1, if_neg (by simp), if_neg (fun x => c1 x.2.1)]
  refine ⟨if t = true ∧ (0 ≤ own ∧ own ≤ 65535) ∧ (3 ≤ kind ∧ kind ≤ 6) ∧ ¬ (N.length : Int) = 0 ∧ (if (noteOf l).2.2.2 = true then (if c = 1 then decide ((noteOf l).1 ≥ 3) else false) else false) = false ∧ ¬ f > 0 then (own, a, 1, 64, e, 0, false, false, N, true) else (0, 0, 0, 0, 0, 0, false, false, [], false), ?_, fun k hk => ?_, ?_⟩
  · have key : ∀ (P : Prop) [Decidable P], (if P then ((own, a, 1, 64, e, 0, false, false, N, true) : AT) else (0, 0, 0, 0, 0, 0, false, false, [], false)).2.2.2.2.2.2.2.2.1.length ≤ 24 := by
      intro P _
      by_cases hP : P
      · rw [if_pos hP]; exact hNl
      · rw [if_neg hP]; simp
    exact key _
  · obtain ⟨k, rfl⟩ : ∃ q, k = q + 1 := ⟨k - 1, by omega⟩
    obtain ⟨u, hu, u1, u2⟩ := hnf (k + 1) hk
    rw [← hu]
    exact ⟨hspec (k + 1) u u1, himpl k u u2⟩
  · by_cases hP : t = true ∧ (0 ≤ own ∧ own ≤ 65535) ∧ (3 ≤ kind ∧ kind ≤ 6) ∧ ¬ (N.length : Int) = 0 ∧ (if (noteOf l).2.2.2 = true then (if c = 1 then decide ((noteOf l).1 ≥ 3) else false) else false) = false ∧ ¬ f > 0
    · obtain ⟨rfl, p2, p3, p4, p5, p6⟩ := hP
      refine .inr ⟨B.take m, ?_, ht, p2, p3, ?_, by omega, ?_⟩
      · have hc : (1 ≤ kind ∧ kind ≤ 6) ∧ (0 ≤ n ∧ n ≤ 65535) := by
          by_cases hc : (1 ≤ kind ∧ kind ≤ 6) ∧ (0 ≤ n ∧ n ≤ 65535)
          · exact hc
          · exact absurd (hNe.2 hc) p4
        rw [if_pos ⟨rfl, p2, p3, p4, p5, p6⟩, ← hN, if_pos ⟨hc.1, hc.2, by omega⟩]
      · by_cases hc : (1 ≤ kind ∧ kind ≤ 6) ∧ (0 ≤ n ∧ n ≤ 65535)
        · exact hc.2
        · exact absurd (hNe.2 hc) p4
      · intro x hx
        replace hx := List.mem_of_mem_take hx
        rw [← hB, if_pos rfl, pBytes, List.mem_append, List.mem_append] at hx
        rcases hx with (hx | hx) | hx
        · exact pHead_byte _ _ _ _ _ _ _ _ _ x hx
        · simp only [List.mem_cons, List.not_mem_nil, or_false] at hx
          rcases hx with rfl | rfl <;> omega
        · exact byte_of hw x hx
    · exact .inl (if_neg hP)
theorem about_same (a b c d e f : Int) (g h : Bool) (l : List Int) (own kind n : Int) (hl : l.length ≤ 1048576) (hw : ∀ x ∈ l, (Lit.int .u8 x).wf = true) : ∃ R : AT, R.2.2.2.2.2.2.2.2.1.length ≤ 24 ∧ ∀ k, l.length < k → spec_NoteAbout.f (k + 20) a b c d e f g h l own kind n = some R ∧ impl_NoteAbout.f (k + 20) a b c d e f g h l own kind n = some R :=
  let ⟨R, h1, h2, _⟩ := about_told a b c d e f g h l own kind n hl hw
  ⟨R, h1, h2⟩
/-! ### a note told and read -/
theorem note_back (x y : Int) (z : List Int) (h1 : 1 ≤ x ∧ x ≤ 6) (h2 : 0 ≤ y ∧ y ≤ 65535) (h3 : (z.length : Int) ≤ 20) : noteOf (x % 256 :: y / 256 % 256 :: y % 256 :: (z.length : Int) % 256 :: z) = (x, y, z, true) := by
  have e1 : x % 256 = x := by omega
  have e2 : y / 256 % 256 * 256 + y % 256 = y := by omega
  have e3 : (z.length : Int) % 256 = z.length := by omega
  simp only [noteOf, e1, e2, e3]
  simp [h1, h3]
theorem noteOf_ok (l : List Int) (hb : ∀ x ∈ l, 0 ≤ x ∧ x ≤ 255) (x y : Int) (z : List Int) (h : noteOf l = (x, y, z, true)) : (1 ≤ x ∧ x ≤ 6) ∧ (0 ≤ y ∧ y ≤ 65535) ∧ (z.length : Int) ≤ 20 ∧ ∀ b ∈ z, 0 ≤ b ∧ b ≤ 255 := by
  match l with
  | [] => simp [noteOf] at h
  | [_] => simp [noteOf] at h
  | [_, _] => simp [noteOf] at h
  | [_, _, _] => simp [noteOf] at h
  | a :: b :: c :: d :: m =>
    have b1 := hb b (by simp)
    have b2 := hb c (by simp)
    simp only [noteOf] at h
    by_cases hc : (1 ≤ a ∧ a ≤ 6) ∧ (m.length : Int) ≤ 20 ∧ d = (m.length : Int)
    · rw [if_pos hc] at h
      simp only [Prod.mk.injEq, and_true] at h
      obtain ⟨rfl, rfl, rfl⟩ := h
      exact ⟨hc.1, by omega, hc.2.1, fun q hq => hb q (by simp [hq])⟩
    · rw [if_neg hc] at h
      simp at h
theorem pok_all {a b c d e f : Int} {g h : Bool} {l : List Int} (ht : spec_PacketOk.f a b c d e f g h l = some true) : (0 ≤ a ∧ a ≤ 65535) ∧ (0 ≤ b ∧ b ≤ 65535) ∧ (0 ≤ e ∧ e ≤ 255) := by
  simp only [spec_PacketOk.f, inAll, Option.bind_some] at ht
  by_cases c1 : 0 ≤ a ∧ a ≤ 65535
  · by_cases c2 : 0 ≤ b ∧ b ≤ 65535
    · refine ⟨c1, c2, ?_⟩
      by_cases c3 : 0 ≤ e ∧ e ≤ 255
      · exact c3
      · exfalso
        by_cases c4 : 0 ≤ c ∧ c ≤ 255
        · by_cases c5 : 0 ≤ d ∧ d ≤ 255
          · simp [c1, c2, c3, c4, c5] at ht
          · simp [c1, c2, c4, c5] at ht
        · simp [c1, c2, c4] at ht
    · exfalso
      simp [c1, c2] at ht
  · exfalso
    simp [c1] at ht
theorem pok_mk {a b e : Int} {l : List Int} (ha : 0 ≤ a ∧ a ≤ 65535) (hb : 0 ≤ b ∧ b ≤ 65535) (he : 0 ≤ e ∧ e ≤ 255) (hl : (l.length : Int) ≤ 48) : spec_PacketOk.f a b 1 64 e 0 false false l = some true := by
  simp only [spec_PacketOk.f, inAll, Option.bind_some]
  simp [ha, hb, he, hl]
theorem samePacket_refl (a b c d e f : Int) (g h : Bool) (l : List Int) : laws_samePacket.f a b c d e f g h l a b c d e f g h l = some true := by
  simp [laws_samePacket.f, sameBytes_refl]
abbrev DT := Int × Int × Int × Int × Int × Int × Bool × Bool × List Int × Int × Int × Int
theorem draw_tot (l : List Int) (hw : ∀ x ∈ l, (Lit.int .u8 x).wf = true) : Tot (fun r : DT => r.2.2.2.2.2.2.2.2.1.length ≤ 200 ∧ ∀ x ∈ r.2.2.2.2.2.2.2.2.1, 0 ≤ x ∧ x ≤ 255) (spec_DrawNoteAbout.f 2000 l) := by
  obtain ⟨s, hs, hc⟩ := open_some l hw
  unfold spec_DrawNoteAbout.f
  rw [hs, Option.bind_some]
  refine tot_bind (noted_tot hc (by omega) (by dsimp only; omega) (by dsimp only; omega)) (fun r hr => ?_)
  obtain ⟨r1, r2, r3, r4⟩ := hr
  dsimp only at r1 r2 r3 r4 ⊢
  refine tot_pick hc (by omega) (by omega) (by omega) (by omega) ?_; intro a a0 a1; dsimp only
  refine tot_pick hc (by omega) (by omega) (by omega) (by omega) ?_; intro b b0 b1; dsimp only
  refine tot_pick hc (by omega) (by omega) (by omega) (by omega) ?_; intro d d0 d1; dsimp only
  refine tot_word hc (by omega) (by omega) (by omega) ?_; intro e p1 e0 e1 q1 q2; dsimp only
  refine tot_pick hc (by omega) (by omega) (by omega) (by omega) ?_; intro f f0 f1; exact tot_some ⟨r1, r2⟩
theorem end_true (own a e kind n : Int) (L : List Int) (ho : 0 ≤ own ∧ own ≤ 65535) (ha : 0 ≤ a ∧ a ≤ 65535) (he : 0 ≤ e ∧ e ≤ 255) (hk : 3 ≤ kind ∧ kind ≤ 6) (hn : 0 ≤ n ∧ n ≤ 65535) (hL : L.length ≤ 20) (hb : ∀ x ∈ L, 0 ≤ x ∧ x ≤ 255) (b c d e' f : Int) (g h : Bool) (m : List Int) :
    laws_FnNoteAbout.j0 2000 own true false a b c d e' f g h m own a 1 64 e 0 false false (kind % 256 :: n / 256 % 256 :: n % 256 :: (L.length : Int) % 256 :: L) = some true := by
  have hN := note_back kind n L (by omega) hn (by omega)
  have hNb : ∀ x ∈ (kind % 256 :: n / 256 % 256 :: n % 256 :: (L.length : Int) % 256 :: L), 0 ≤ x ∧ x ≤ 255 := by
    intro x hx
    simp only [List.mem_cons] at hx
    rcases hx with rfl | rfl | rfl | rfl | hx
    · omega
    · omega
    · omega
    · omega
    · exact hb x hx
  have hNl : (kind % 256 :: n / 256 % 256 :: n % 256 :: (L.length : Int) % 256 :: L).length ≤ 24 := by simp only [List.length_cons]; omega
  generalize kind % 256 :: n / 256 % 256 :: n % 256 :: (L.length : Int) % 256 :: L = N at hN hNb hNl
  have q2 : impl_NoteFrom.f 1999 N = some (kind, n, L, true) := by rw [implFrom N (by omega) (wf_byte hNb) 1993 (by omega), hN]
  have hp := pok_mk (a := own) (b := a) (e := e) (l := N) ho ha he (by omega)
  have q5 : impl_PacketOk.f own a 1 64 e 0 false false N = some true := (packetOk_impl _ _ _ _ _ _ _ _ _).trans hp
  have q3 : impl_NoteEchoed.f 1999 own a 1 64 e 0 false false N a = some (0, 0, 0, 0, 0, 0, false, false, [], false) := by
    simp only [impl_NoteEchoed.f, q2, q5, Option.bind_some, if_true, Bool.false_eq_true, if_false]
    rw [if_neg (by omega)]
  have q6 : impl_NoteFault.f 1999 own a 1 64 e 0 false false N = some true := by
    unfold impl_NoteFault.f
    rw [q2, Option.bind_some, if_pos rfl, if_pos rfl]
    exact congrArg some (decide_eq_true hk.1)
  have q7 : impl_NoteAbout.f 1999 own a 1 64 e 0 false false N a 3 0 = some (0, 0, 0, 0, 0, 0, false, false, [], false) := by
    unfold impl_NoteAbout.f
    rw [q5, Option.bind_some, if_pos rfl, impl_word.f, inAll', Option.bind_some, decide_eq_true ha, Option.bind_some, if_pos rfl, if_pos rfl, q6, Option.bind_some, if_pos rfl]
    rw [impl_NoteAbout.j0, if_pos rfl]
  simp only [laws_FnNoteAbout.j0, Bool.false_eq_true, if_false, if_true, q3, q5, q6, q7, Option.bind_some, Bool.not_false]
theorem main : GFnNoteAbout.Stmt := by
  intro l hl0
  obtain ⟨_, hw⟩ := hl0
  refine ⟨2000, ?_⟩
  unfold laws_FnNoteAbout.f
  by_cases hl : (l.length : Int) > 1048576
  · rw [if_pos hl]
  · rw [if_neg hl]
    obtain ⟨⟨a, b, c, d, e, f, g, h, m, own, kind, n⟩, hd, hm, hb⟩ := draw_tot l hw
    dsimp only at hm hb
    rw [hd, Option.bind_some]
    dsimp only
    obtain ⟨R, _, hq, hR⟩ := about_told a b c d e f g h m own kind n (by omega) (wf_byte hb)
    obtain ⟨q1, q2⟩ := hq 1980 (by omega)
    rw [q2, Option.bind_some, q1, Option.bind_some, samePacket_refl, Option.bind_some]
    rw [if_neg (by simp)]
    rcases hR with rfl | ⟨L, rfl, ht, ho, hk, hn, hL, hLb⟩
    · simp only [laws_FnNoteAbout.j0, Bool.not_true, Bool.false_eq_true, if_false, alive_true 1996, Option.bind_some]
    · obtain ⟨p1, p2, p3⟩ := pok_all ht
      exact end_true own a e kind n L ho p1 p3 hk hn hL hLb b c d e f g h m
end FnNoteAbout_
theorem FnNoteAbout : GFnNoteAbout.Stmt := FnNoteAbout_.main
end Go.Proofs.Ytkkibccnpkbbjab.Pure
