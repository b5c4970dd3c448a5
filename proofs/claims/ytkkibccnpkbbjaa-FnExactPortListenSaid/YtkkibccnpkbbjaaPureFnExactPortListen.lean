/- The law FnExactPortListen over numbers and lists: the program's PortListen answers as the reference's, and what it hands back can be marked and held against its marks. No conditions but the kinds' ranges. -/
import Derived.Test.YtkkibccnpkbbjaaGFnExactPortListen
namespace Go.Proofs.Ytkkibccnpkbbjaa.Pure
open Go Go.RowKit Go.Proofs.Ytkkibccnpkbbjaa.MFnExactPortTake Go.Proofs.YtkkibccnpkbbjaaV.PrintWords Go.Proofs.YtkkibccnpkbbjaaV.PrintLast
set_option linter.unusedVariables false
set_option linter.unusedSimpArgs false
namespace FnExactPortListen_
theorem i64_bounds {x : Int} (h : (Lit.int .i64 x).wf = true) : -9223372036854775808 ≤ x ∧ x ≤ 9223372036854775807 := by
  simpa [Lit.wf, IntKind.min, IntKind.max, IntKind.signed, IntKind.bits] using h
theorem inAll (x y z : Int) : spec_l1In.f x y z = some (decide (y ≤ x ∧ x ≤ z)) := by
  unfold spec_l1In.f
  by_cases h : x ≥ y
  · rw [if_pos h]; congr 1; simp only [decide_eq_decide]; omega
  · rw [if_neg h]; congr 1; symm; simp only [decide_eq_false_iff_not]; omega
theorem inAll' (x y z : Int) : impl_in.f x y z = some (decide (y ≤ x ∧ x ≤ z)) := inAll x y z
theorem wl {n m : Int} (h : n = m) (h0 : -9223372036854775808 ≤ m) (h1 : m ≤ 9223372036854775807) : wrap64 n = m := by
  subst h
  unfold wrap64
  omega
/-! ### copies, equality and sizes of rows of bytes -/
theorem wrap_id {n : Int} (h : -9223372036854775808 ≤ n) (h' : n ≤ 9223372036854775807) : wrap64 n = n := by
  unfold wrap64; omega
/-- A loop that fills a row, an element at a time, from the elements of another one. -/
theorem fills {α : Type} (n : Nat) (hn : n ≤ 281474976710656) (L : Nat → List α → Int → Option (List α)) (g : Nat → α)
    (h : ∀ k acc i, k < n + 1 → L (k + 1) acc i = if i < (n : Int) then (if 0 ≤ i then (if i < (acc.length : Int) then L k (acc.set i.toNat (g i.toNat)) (wrap64 (i + 1)) else none) else none) else some acc) :
    ∀ d k (i : Nat) (acc : List α), i + d = n → k = d + 1 → acc.length = n → (∀ j, j < i → acc[j]? = some (g j)) → ∃ r, L k acc (i : Int) = some r ∧ r.length = n ∧ ∀ j, j < n → r[j]? = some (g j) := by
  intro d
  induction d with
  | zero =>
    intro k i acc hi hk hl hp
    subst hk
    refine ⟨acc, ?_, hl, fun j hj => hp j (by omega)⟩
    rw [h _ _ _ (by omega), if_neg (by omega)]
  | succ d ih =>
    intro k i acc hi hk hl hp
    subst hk
    obtain ⟨r, hr, hrl, hrp⟩ := ih (d + 1) (i + 1) (acc.set i (g i)) (by omega) rfl (by simpa using hl) (fun j hj => by
      by_cases hji : j = i
      · subst hji
        simp [List.getElem?_set, hl]
        omega
      · rw [List.getElem?_set_ne (by omega)]
        exact hp j (by omega))
    refine ⟨r, ?_, hrl, hrp⟩
    rw [h _ _ _ (by omega), if_pos (by omega), if_pos (by omega), if_pos (by omega), wrap_id (by omega) (by omega)]
    simpa using hr
theorem rd_at (l : List Int) (i : Nat) (h : i < l.length) : l[i]? = some (rd l (i : Int)) := by
  unfold rd
  rw [List.getD_eq_getElem?_getD, Int.toNat_natCast, List.getElem?_eq_getElem h]
  rfl
theorem toBytes_exact (l : List Int) (hl : l.length ≤ 281474976710656) : laws_toByteS.f (l.length + 1) l = some l := by
  unfold laws_toByteS.f
  rw [if_pos (by omega), if_pos (by omega)]
  obtain ⟨r, hr, hrl, hrp⟩ := fills l.length hl (fun k acc i => laws_toByteS.l0 k l acc i) (fun i => rd l (i : Int)) (fun k acc i hk => by
    simp only [laws_toByteS.l0]
    by_cases hi : i < (l.length : Int)
    · rw [if_pos hi, if_pos hi]
      by_cases h0 : 0 ≤ i
      · rw [if_pos h0, if_pos h0]
        by_cases h1 : i < (acc.length : Int)
        · rw [if_pos h1, if_pos h1, show ((i.toNat : Nat) : Int) = i by omega]
        · rw [if_neg h1, if_neg h1]
      · rw [if_neg h0, if_neg h0]
    · rw [if_neg hi, if_neg hi]) l.length (l.length + 1) 0 (List.replicate l.length 0) (by omega) rfl (by simp) (fun j hj => by omega)
  rw [show (l.length : Int).toNat = l.length by omega]
  show laws_toByteS.l0 _ _ _ _ = _
  have hr' : laws_toByteS.l0 (l.length + 1) l (List.replicate l.length 0) 0 = some r := hr
  rw [hr']
  congr 1
  apply List.ext_getElem?
  intro j
  by_cases hj : j < l.length
  · rw [hrp j hj, rd_at l j hj]
  · rw [List.getElem?_eq_none (by omega), List.getElem?_eq_none (by omega)]
theorem toBytes_le (l : List Int) (hl : l.length ≤ 281474976710656) (k : Nat) (hk : l.length < k) : laws_toByteS.f k l = some l := by
  obtain ⟨d, rfl⟩ : ∃ d, k = l.length + 1 + d := ⟨k - (l.length + 1), by omega⟩
  induction d with
  | zero => exact toBytes_exact l hl
  | succ d ih => exact laws_toByteS.mono l _ _ (ih (by omega))
theorem szBytes (l : List Int) (a : Int) (hl : l.length ≤ maxLen) (ha : 0 ≤ a) (ha' : a ≤ 1048576) : laws_szByteS.f l a = some (if a < (l.length : Int) then -1 else a - (l.length : Int)) := by
  unfold laws_szByteS.f
  unfold maxLen at hl
  rw [wrap_id (by omega) (by omega)]
  by_cases h : a < (l.length : Int)
  · rw [if_pos (by omega), if_pos h]
  · rw [if_neg (by omega), if_neg h]
theorem eqBytes_loop (a b : List Int) (hl : a.length = b.length) (hb : a.length ≤ 281474976710656) : ∀ d k (i : Nat), i + d = a.length → d < k →
    laws_eqByteS.l0 k a b (i : Int) = some (decide (a.drop i = b.drop i)) := by
  intro d
  induction d with
  | zero =>
    intro k i hi hk
    obtain ⟨k, rfl⟩ : ∃ m, k = m + 1 := ⟨k - 1, by omega⟩
    simp only [laws_eqByteS.l0]
    rw [if_neg (by omega), List.drop_eq_nil_of_le (by omega), List.drop_eq_nil_of_le (by omega)]
    rfl
  | succ d ih =>
    intro k i hi hk
    obtain ⟨k, rfl⟩ : ∃ m, k = m + 1 := ⟨k - 1, by omega⟩
    simp only [laws_eqByteS.l0]
    rw [if_pos (by omega), if_pos (by omega), if_pos (by omega), wrap_id (by omega) (by omega)]
    have h1 := rd_at a i (by omega)
    have h2 := rd_at b i (by omega)
    have e1 : a.drop i = rd a (i : Int) :: a.drop (i + 1) := by
      rw [List.drop_eq_getElem_cons (by omega)]
      congr 1
      rw [List.getElem?_eq_getElem (by omega)] at h1
      exact Option.some.inj h1
    have e2 : b.drop i = rd b (i : Int) :: b.drop (i + 1) := by
      rw [List.drop_eq_getElem_cons (by omega)]
      congr 1
      rw [List.getElem?_eq_getElem (by omega)] at h2
      exact Option.some.inj h2
    have hr := ih k (i + 1) (by omega) (by omega)
    rw [e1, e2]
    by_cases he : rd a (i : Int) = rd b (i : Int)
    · rw [if_pos he, show ((i : Int) + 1) = ((i + 1 : Nat) : Int) by omega, hr, he]
      simp
    · rw [if_neg he]
      simp [he]
theorem eqBytes (a b : List Int) (hb : a.length ≤ 281474976710656) (k : Nat) (hk : a.length < k) : laws_eqByteS.f k a b = some (decide (a = b)) := by
  unfold laws_eqByteS.f
  by_cases h : a.length = b.length
  · rw [if_pos (by omega)]
    have := eqBytes_loop a b h hb a.length k 0 (by omega) hk
    simpa using this
  · rw [if_neg (by omega)]
    have : a ≠ b := fun e => h (by rw [e])
    simp [this]
/-! ### rows of messages: sized, copied, compared; told from some number of rounds on -/
abbrev LM := S105
abbrev IM := S40
def convM (x : LM) : IM := ⟨x.f0, x.f1, x.f2, x.f3⟩
theorem ev_step {α : Type} {g : Nat → Option α} (f : Nat → Option α) {r : α} (h : ∀ k, g (k + 1) = f k) (k : Ev f r) : Ev g r := Ev.step h k
theorem ev_bind {α β : Type} {g : Nat → Option α} {f : Nat → α → Option β} {a : α} {r : β} (h : Ev g a) (k : Ev (fun n => f n a) r) : Ev (fun n => (g n).bind (f n)) r := Ev.bind h k
theorem ev_eq {α : Type} {g : Nat → Option α} (f : Nat → Option α) {r : α} (h : ∀ k, g k = f k) (k : Ev f r) : Ev g r := Ev.congr h k
theorem ev_some {α : Type} {o : Option α} {r : α} (h : o = some r) : Ev (fun _ => o) r := ⟨0, fun _ _ => h⟩
theorem toBytes_ev (l : List Int) (hl : l.length ≤ 1048576) : Ev (fun k => laws_toByteS.f k l) l := ⟨l.length + 1, fun k hk => toBytes_le l (by omega) k (by omega)⟩
theorem rdLM_at (l : List LM) (i : Nat) (h : i < l.length) : l[i]? = some (rd_T105 l (i : Int)) := by
  simp [rd_T105, List.getD_eq_getElem?_getD, List.getElem?_eq_getElem h]
theorem rdIM_at (l : List IM) (i : Nat) (h : i < l.length) : l[i]? = some (rd_T40 l (i : Int)) := by
  simp [rd_T40, List.getD_eq_getElem?_getD, List.getElem?_eq_getElem h]
theorem rdLM_mem (l : List LM) (i : Nat) (h : i < l.length) : rd_T105 l (i : Int) ∈ l := List.mem_of_getElem? (rdLM_at l i h)
theorem rdIM_mem (l : List IM) (i : Nat) (h : i < l.length) : rd_T40 l (i : Int) ∈ l := List.mem_of_getElem? (rdIM_at l i h)
theorem szMail_at (x y z : Int) (l : List Int) (a : Int) (hl : l.length ≤ maxLen) (h0 : 0 ≤ a) (h1 : a ≤ 1048576) : laws_szMail.f x y z l a = some (if a < (l.length : Int) then -1 else a - (l.length : Int)) := by
  unfold laws_szMail.f
  rw [szBytes l a hl h0 h1, Option.bind_some]
  by_cases c : a < (l.length : Int)
  · rw [if_pos c, if_pos (by omega)]
  · rw [if_neg c, if_neg (by omega)]
theorem szMailS_loop (l : List LM) (hl : l.length ≤ 1048576) (hm : ∀ x ∈ l, x.f3.length ≤ maxLen) : ∀ d (i : Nat) (a : Int), i + d = l.length → 0 ≤ a → a ≤ 1048576 →
    ∃ r, Ev (fun k => laws_szMailS.l0 k l a (i : Int)) r ∧ (r = -1 ∨ (0 ≤ r ∧ r ≤ a ∧ ∀ j : Nat, i ≤ j → j < l.length → (rd_T105 l (j : Int)).f3.length ≤ 1048576)) := by
  intro d
  induction d with
  | zero =>
    intro i a hi h0 h1
    refine ⟨a, ev_step (fun _ => some a) (fun k => ?_) (Ev.now a), .inr ⟨h0, Int.le_refl _, fun j j1 j2 => by omega⟩⟩
    rw [laws_szMailS.l0, if_neg (by omega)]
  | succ d ih =>
    intro i a hi h0 h1
    have hx := hm _ (rdLM_mem l i (by omega))
    by_cases c : a < ((rd_T105 l (i : Int)).f3.length : Int)
    · refine ⟨-1, ev_step (fun _ => some (-1)) (fun k => ?_) (Ev.now _), .inl rfl⟩
      rw [laws_szMailS.l0, if_pos (by omega), if_pos (by omega), szMail_at _ _ _ _ _ hx h0 h1, Option.bind_some, if_pos c, if_pos (by omega)]
    · obtain ⟨r, h2, h3⟩ := ih (i + 1) (a - ((rd_T105 l (i : Int)).f3.length : Int)) (by omega) (by omega) (by omega)
      refine ⟨r, ev_step _ (fun k => ?_) h2, ?_⟩
      · rw [laws_szMailS.l0, if_pos (by omega), if_pos (by omega), szMail_at _ _ _ _ _ hx h0 h1, Option.bind_some, if_neg c, if_neg (by omega), wrap_id (n := (i : Int) + 1) (by omega) (by omega), show (i : Int) + 1 = ((i + 1 : Nat) : Int) by omega]
      · rcases h3 with h3 | ⟨r0, r1, r2⟩
        · exact .inl h3
        · refine .inr ⟨r0, by omega, fun j j1 j2 => ?_⟩
          by_cases hj : j = i
          · subst hj; omega
          · exact r2 j (by omega) j2
theorem szMailS_at (l : List LM) (hl : l.length ≤ maxLen) (hm : ∀ x ∈ l, x.f3.length ≤ maxLen) (a : Int) (h0 : 0 ≤ a) (h1 : a ≤ 1048576) :
    ∃ r, Ev (fun k => laws_szMailS.f k l a) r ∧ (r = -1 ∨ (0 ≤ r ∧ r ≤ a ∧ l.length ≤ 1048576 ∧ ∀ x ∈ l, x.f3.length ≤ 1048576)) := by
  unfold maxLen at hl
  by_cases c : a < (l.length : Int)
  · refine ⟨-1, ⟨0, fun k _ => ?_⟩, .inl rfl⟩
    show laws_szMailS.f k l a = some (-1)
    unfold laws_szMailS.f
    rw [wrap_id (by omega) (by omega), if_pos (by omega)]
  · obtain ⟨r, h2, h3⟩ := szMailS_loop l (by omega) hm l.length 0 (a - (l.length : Int)) (by omega) (by omega) (by omega)
    refine ⟨r, ev_eq _ (fun k => ?_) h2, ?_⟩
    · unfold laws_szMailS.f
      rw [wrap_id (by omega) (by omega), if_neg (by omega)]
      rfl
    · rcases h3 with h3 | ⟨r0, r1, r2⟩
      · exact .inl h3
      · refine .inr ⟨r0, by omega, by omega, fun x hx => ?_⟩
        obtain ⟨j, hj, rfl⟩ := List.getElem_of_mem hx
        have e := rdLM_at l j hj
        rw [List.getElem?_eq_getElem hj] at e
        rw [Option.some.inj e]
        exact r2 j (Nat.zero_le _) hj
theorem toMail_ev (x y z : Int) (l : List Int) (hl : l.length ≤ 1048576) : Ev (fun k => laws_toMail.f k x y z l) (x, y, z, l) := ev_bind (f := fun _ t => some (x, y, z, t)) (toBytes_ev l hl) (Ev.now _)
theorem toMailS_loop (l : List LM) (hl : l.length ≤ 1048576) (hm : ∀ x ∈ l, x.f3.length ≤ 1048576) : ∀ d (i : Nat) (acc : List IM), i + d = l.length → acc.length = l.length → (∀ j, j < i → acc[j]? = some (convM (rd_T105 l (j : Int)))) →
    Ev (fun k => laws_toMailS.l0 k l acc (i : Int)) (l.map convM) := by
  intro d
  induction d with
  | zero =>
    intro i acc hi ha hp
    refine ev_step (fun _ => some acc) (fun k => ?_) (ev_some ?_)
    · rw [laws_toMailS.l0, if_neg (by omega)]
    · congr 1
      apply List.ext_getElem?
      intro j
      by_cases hj : j < l.length
      · rw [hp j (by omega), List.getElem?_map, rdLM_at l j hj]; rfl
      · rw [List.getElem?_eq_none (by omega), List.getElem?_eq_none (by simp; omega)]
  | succ d ih =>
    intro i acc hi ha hp
    have hx := hm _ (rdLM_mem l i (by omega))
    have h2 := ih (i + 1) (acc.set i (convM (rd_T105 l (i : Int)))) (by omega) (by simpa using ha) (fun j hj => by
      by_cases hji : j = i
      · subst hji
        rw [List.getElem?_set_self (by omega)]
      · rw [List.getElem?_set_ne (by omega)]
        exact hp j (by omega))
    refine ev_step _ (fun k => ?_) (ev_bind (f := fun k _ => laws_toMailS.l0 k l (acc.set i (convM (rd_T105 l (i : Int)))) ((i + 1 : Nat) : Int)) (toMail_ev (rd_T105 l (i : Int)).f0 (rd_T105 l (i : Int)).f1 (rd_T105 l (i : Int)).f2 (rd_T105 l (i : Int)).f3 hx) h2)
    rw [laws_toMailS.l0, if_pos (by omega), if_pos (by omega)]
    cases hk : laws_toMail.f k (rd_T105 l (i : Int)).f0 (rd_T105 l (i : Int)).f1 (rd_T105 l (i : Int)).f2 (rd_T105 l (i : Int)).f3 with
    | none => rfl
    | some v =>
      obtain rfl : v = ((rd_T105 l (i : Int)).f0, (rd_T105 l (i : Int)).f1, (rd_T105 l (i : Int)).f2, (rd_T105 l (i : Int)).f3) := by
        obtain ⟨K, hK⟩ := toMail_ev (rd_T105 l (i : Int)).f0 (rd_T105 l (i : Int)).f1 (rd_T105 l (i : Int)).f2 (rd_T105 l (i : Int)).f3 hx
        have e1 := hK (k + K) (by omega)
        have e2 := at_rounds (fun q => laws_toMail.mono _ _ _ _ q) (show k ≤ k + K by omega) hk
        exact Option.some.inj (e2.symm.trans e1)
      rw [Option.bind_some, Option.bind_some, if_pos (by omega), wrap_id (n := (i : Int) + 1) (by omega) (by omega), show (i : Int) + 1 = ((i + 1 : Nat) : Int) by omega, Int.toNat_natCast]
      rfl
theorem toMailS_ev (l : List LM) (hl : l.length ≤ 1048576) (hm : ∀ x ∈ l, x.f3.length ≤ 1048576) : Ev (fun k => laws_toMailS.f k l) (l.map convM) := by
  refine ev_eq _ (fun k => ?_) (toMailS_loop l hl hm l.length 0 (List.replicate ((l.length : Int)).toNat z40) (by omega) (by simp) (fun j hj => by omega))
  unfold laws_toMailS.f
  rw [if_pos (by omega), if_pos (by omega)]
  rfl
theorem eqMail_ev (x : IM) (hx : x.f3.length ≤ 1048576) : Ev (fun k => laws_eqMail.f k x.f0 x.f1 x.f2 x.f3 x.f0 x.f1 x.f2 x.f3) true := by
  refine ev_eq (fun k => (laws_eqByteS.f k x.f3 x.f3).bind fun t => if t = true then some true else some false) (fun k => ?_) (ev_bind (a := true) (f := fun _ t => if t = true then some true else some false) ⟨x.f3.length + 1, fun k hk => by show laws_eqByteS.f k x.f3 x.f3 = some true; rw [eqBytes x.f3 x.f3 (by omega) k (by omega)]; simp⟩ (ev_some rfl))
  unfold laws_eqMail.f
  rw [if_pos rfl, if_pos rfl, if_pos rfl]
theorem eqMailS_loop (l : List IM) (hl : l.length ≤ 1048576) (hm : ∀ x ∈ l, x.f3.length ≤ 1048576) : ∀ d (i : Nat), i + d = l.length → Ev (fun k => laws_eqMailS.l0 k l l (i : Int)) true := by
  intro d
  induction d with
  | zero =>
    intro i hi
    refine ev_step (fun _ => some true) (fun k => ?_) (Ev.now _)
    rw [laws_eqMailS.l0, if_neg (by omega)]
  | succ d ih =>
    intro i hi
    refine ev_step _ (fun k => ?_) (ev_bind (a := true) (f := fun k t => if t = true then laws_eqMailS.l0 k l l ((i + 1 : Nat) : Int) else some false) (eqMail_ev _ (hm _ (rdIM_mem l i (by omega)))) (ev_eq _ (fun k => if_pos rfl) (ih (i + 1) (by omega))))
    rw [laws_eqMailS.l0, if_pos (by omega), if_pos (by omega), if_pos (by omega), wrap_id (n := (i : Int) + 1) (by omega) (by omega), show (i : Int) + 1 = ((i + 1 : Nat) : Int) by omega]
theorem eqMailS_ev (l : List IM) (hl : l.length ≤ 1048576) (hm : ∀ x ∈ l, x.f3.length ≤ 1048576) : Ev (fun k => laws_eqMailS.f k l l) true := by
  refine ev_eq _ (fun k => ?_) (eqMailS_loop l hl hm l.length 0 (by omega))
  unfold laws_eqMailS.f
  rw [if_pos rfl]
  rfl
/-! ### rows of ports: sized, copied, compared -/
abbrev LP := S64
abbrev IP := S47
def convP (x : LP) : IP := ⟨x.f0, x.f1.map convM⟩
/-- Ports of which each row is short enough to be reckoned with. -/
def BP (x : IP) : Prop := x.f1.length ≤ 1048576 ∧ ∀ y ∈ x.f1, y.f3.length ≤ 1048576
def BL (l : List IP) : Prop := l.length ≤ 1048576 ∧ ∀ x ∈ l, BP x
theorem rdLP_at (l : List LP) (i : Nat) (h : i < l.length) : l[i]? = some (rd_T64 l (i : Int)) := by
  simp [rd_T64, List.getD_eq_getElem?_getD, List.getElem?_eq_getElem h]
theorem rdIP_at (l : List IP) (i : Nat) (h : i < l.length) : l[i]? = some (rd_T47 l (i : Int)) := by
  simp [rd_T47, List.getD_eq_getElem?_getD, List.getElem?_eq_getElem h]
theorem rdLP_mem (l : List LP) (i : Nat) (h : i < l.length) : rd_T64 l (i : Int) ∈ l := List.mem_of_getElem? (rdLP_at l i h)
theorem rdIP_mem (l : List IP) (i : Nat) (h : i < l.length) : rd_T47 l (i : Int) ∈ l := List.mem_of_getElem? (rdIP_at l i h)
theorem szPort_at (x : LP) (hl : x.f1.length ≤ maxLen) (hm : ∀ y ∈ x.f1, y.f3.length ≤ maxLen) (a : Int) (h0 : 0 ≤ a) (h1 : a ≤ 1048576) :
    ∃ r, Ev (fun k => laws_szPort.f k x.f0 x.f1 a) r ∧ (r = -1 ∨ (0 ≤ r ∧ r ≤ a ∧ x.f1.length ≤ 1048576 ∧ ∀ y ∈ x.f1, y.f3.length ≤ 1048576)) := by
  obtain ⟨r, h2, h3⟩ := szMailS_at x.f1 hl hm a h0 h1
  refine ⟨r, ev_bind (f := fun _ t => if t < 0 then some (-1) else some t) h2 (ev_some ?_), h3⟩
  rcases h3 with rfl | ⟨r0, _⟩
  · rfl
  · rw [if_neg (by omega)]
theorem szPortS_loop (l : List LP) (hl : l.length ≤ 1048576) (hm : ∀ x ∈ l, x.f1.length ≤ maxLen ∧ ∀ y ∈ x.f1, y.f3.length ≤ maxLen) : ∀ d (i : Nat) (a : Int), i + d = l.length → 0 ≤ a → a ≤ 1048576 →
    ∃ r, Ev (fun k => laws_szPortS.l0 k l a (i : Int)) r ∧ (r = -1 ∨ (0 ≤ r ∧ r ≤ a ∧ ∀ j : Nat, i ≤ j → j < l.length → (rd_T64 l (j : Int)).f1.length ≤ 1048576 ∧ ∀ y ∈ (rd_T64 l (j : Int)).f1, y.f3.length ≤ 1048576)) := by
  intro d
  induction d with
  | zero =>
    intro i a hi h0 h1
    refine ⟨a, ev_step (fun _ => some a) (fun k => ?_) (Ev.now a), .inr ⟨h0, Int.le_refl _, fun j j1 j2 => by omega⟩⟩
    rw [laws_szPortS.l0, if_neg (by omega)]
  | succ d ih =>
    intro i a hi h0 h1
    have hx := hm _ (rdLP_mem l i (by omega))
    obtain ⟨m, m1, m2⟩ := szPort_at _ hx.1 hx.2 a h0 h1
    have un : ∀ k, laws_szPortS.l0 (k + 1) l a (i : Int) = (laws_szPort.f k (rd_T64 l (i : Int)).f0 (rd_T64 l (i : Int)).f1 a).bind fun t => if t < 0 then some (-1) else laws_szPortS.l0 k l t ((i + 1 : Nat) : Int) := fun k => by
      rw [laws_szPortS.l0, if_pos (by omega), if_pos (by omega), wrap_id (n := (i : Int) + 1) (by omega) (by omega), show (i : Int) + 1 = ((i + 1 : Nat) : Int) by omega]
    rcases m2 with rfl | ⟨n0, n1, n2⟩
    · exact ⟨-1, ev_step _ un (ev_bind (f := fun k t => if t < 0 then some (-1) else laws_szPortS.l0 k l t ((i + 1 : Nat) : Int)) m1 ⟨0, fun k _ => rfl⟩), .inl rfl⟩
    · obtain ⟨r, h2, h3⟩ := ih (i + 1) m (by omega) n0 (by omega)
      refine ⟨r, ev_step _ un (ev_bind (f := fun k t => if t < 0 then some (-1) else laws_szPortS.l0 k l t ((i + 1 : Nat) : Int)) m1 (ev_eq _ (fun k => if_neg (by omega)) h2)), ?_⟩
      rcases h3 with h3 | ⟨r0, r1, r2⟩
      · exact .inl h3
      · refine .inr ⟨r0, by omega, fun j j1 j2 => ?_⟩
        by_cases hj : j = i
        · subst hj; exact n2
        · exact r2 j (by omega) j2
theorem szPortS_at (l : List LP) (hl : l.length ≤ maxLen) (hm : ∀ x ∈ l, x.f1.length ≤ maxLen ∧ ∀ y ∈ x.f1, y.f3.length ≤ maxLen) (a : Int) (h0 : 0 ≤ a) (h1 : a ≤ 1048576) :
    ∃ r, Ev (fun k => laws_szPortS.f k l a) r ∧ (r = -1 ∨ (0 ≤ r ∧ r ≤ a ∧ l.length ≤ 1048576 ∧ ∀ x ∈ l, x.f1.length ≤ 1048576 ∧ ∀ y ∈ x.f1, y.f3.length ≤ 1048576)) := by
  unfold maxLen at hl
  by_cases c : a < (l.length : Int)
  · refine ⟨-1, ⟨0, fun k _ => ?_⟩, .inl rfl⟩
    show laws_szPortS.f k l a = some (-1)
    unfold laws_szPortS.f
    rw [wrap_id (by omega) (by omega), if_pos (by omega)]
  · obtain ⟨r, h2, h3⟩ := szPortS_loop l (by omega) hm l.length 0 (a - (l.length : Int)) (by omega) (by omega) (by omega)
    refine ⟨r, ev_eq _ (fun k => ?_) h2, ?_⟩
    · unfold laws_szPortS.f
      rw [wrap_id (by omega) (by omega), if_neg (by omega)]
      rfl
    · rcases h3 with h3 | ⟨r0, r1, r2⟩
      · exact .inl h3
      · refine .inr ⟨r0, by omega, by omega, fun x hx => ?_⟩
        obtain ⟨j, hj, rfl⟩ := List.getElem_of_mem hx
        have e := rdLP_at l j hj
        rw [List.getElem?_eq_getElem hj] at e
        rw [Option.some.inj e]
        exact r2 j (Nat.zero_le _) hj
theorem toPort_ev (x : LP) (hl : x.f1.length ≤ 1048576) (hm : ∀ y ∈ x.f1, y.f3.length ≤ 1048576) : Ev (fun k => laws_toPort.f k x.f0 x.f1) (x.f0, x.f1.map convM) := ev_bind (f := fun _ t => some (x.f0, t)) (toMailS_ev x.f1 hl hm) (Ev.now _)
theorem toPortS_loop (l : List LP) (hl : l.length ≤ 1048576) (hm : ∀ x ∈ l, x.f1.length ≤ 1048576 ∧ ∀ y ∈ x.f1, y.f3.length ≤ 1048576) : ∀ d (i : Nat) (acc : List IP), i + d = l.length → acc.length = l.length → (∀ j, j < i → acc[j]? = some (convP (rd_T64 l (j : Int)))) →
    Ev (fun k => laws_toPortS.l0 k l acc (i : Int)) (l.map convP) := by
  intro d
  induction d with
  | zero =>
    intro i acc hi ha hp
    refine ev_step (fun _ => some acc) (fun k => ?_) (ev_some ?_)
    · rw [laws_toPortS.l0, if_neg (by omega)]
    · congr 1
      apply List.ext_getElem?
      intro j
      by_cases hj : j < l.length
      · rw [hp j (by omega), List.getElem?_map, rdLP_at l j hj]; rfl
      · rw [List.getElem?_eq_none (by omega), List.getElem?_eq_none (by simp; omega)]
  | succ d ih =>
    intro i acc hi ha hp
    have hx := hm _ (rdLP_mem l i (by omega))
    have h2 := ih (i + 1) (acc.set i (convP (rd_T64 l (i : Int)))) (by omega) (by simpa using ha) (fun j hj => by
      by_cases hji : j = i
      · subst hji
        rw [List.getElem?_set_self (by omega)]
      · rw [List.getElem?_set_ne (by omega)]
        exact hp j (by omega))
    have hv := toPort_ev _ hx.1 hx.2
    refine ev_step _ (fun k => ?_) (ev_bind (f := fun k _ => laws_toPortS.l0 k l (acc.set i (convP (rd_T64 l (i : Int)))) ((i + 1 : Nat) : Int)) hv h2)
    rw [laws_toPortS.l0, if_pos (by omega), if_pos (by omega)]
    cases hk : laws_toPort.f k (rd_T64 l (i : Int)).f0 (rd_T64 l (i : Int)).f1 with
    | none => rfl
    | some v =>
      obtain rfl : v = ((rd_T64 l (i : Int)).f0, (rd_T64 l (i : Int)).f1.map convM) := by
        obtain ⟨K, hK⟩ := hv
        have e1 := hK (k + K) (by omega)
        have e2 := at_rounds (fun q => laws_toPort.mono _ _ q) (show k ≤ k + K by omega) hk
        exact Option.some.inj (e2.symm.trans e1)
      rw [Option.bind_some, Option.bind_some, if_pos (by omega), wrap_id (n := (i : Int) + 1) (by omega) (by omega), show (i : Int) + 1 = ((i + 1 : Nat) : Int) by omega, Int.toNat_natCast]
      rfl
theorem toPortS_ev (l : List LP) (hl : l.length ≤ 1048576) (hm : ∀ x ∈ l, x.f1.length ≤ 1048576 ∧ ∀ y ∈ x.f1, y.f3.length ≤ 1048576) : Ev (fun k => laws_toPortS.f k l) (l.map convP) := by
  refine ev_eq _ (fun k => ?_) (toPortS_loop l hl hm l.length 0 (List.replicate ((l.length : Int)).toNat z47) (by omega) (by simp) (fun j hj => by omega))
  unfold laws_toPortS.f
  rw [if_pos (by omega), if_pos (by omega)]
  rfl
theorem convP_BL (l : List LP) (hl : l.length ≤ 1048576) (hm : ∀ x ∈ l, x.f1.length ≤ 1048576 ∧ ∀ y ∈ x.f1, y.f3.length ≤ 1048576) : BL (l.map convP) := by
  refine ⟨by simpa using hl, fun x hx => ?_⟩
  obtain ⟨a, ha, rfl⟩ := List.mem_map.1 hx
  refine ⟨by simpa [convP] using (hm a ha).1, fun y hy => ?_⟩
  obtain ⟨b, hb, rfl⟩ := List.mem_map.1 hy
  exact (hm a ha).2 b hb
theorem eqPort_ev (x : IP) (hx : BP x) : Ev (fun k => laws_eqPort.f k x.f0 x.f1 x.f0 x.f1) true := by
  refine ev_eq (fun k => (laws_eqMailS.f k x.f1 x.f1).bind fun t => if t = true then some true else some false) (fun k => ?_) (ev_bind (a := true) (f := fun _ t => if t = true then some true else some false) (eqMailS_ev x.f1 hx.1 hx.2) (ev_some rfl))
  unfold laws_eqPort.f
  rw [if_pos rfl]
theorem eqPortS_loop (l : List IP) (hl : BL l) : ∀ d (i : Nat), i + d = l.length → Ev (fun k => laws_eqPortS.l0 k l l (i : Int)) true := by
  have hl1 := hl.1
  intro d
  induction d with
  | zero =>
    intro i hi
    refine ev_step (fun _ => some true) (fun k => ?_) (Ev.now _)
    rw [laws_eqPortS.l0, if_neg (by omega)]
  | succ d ih =>
    intro i hi
    refine ev_step _ (fun k => ?_) (ev_bind (a := true) (f := fun k t => if t = true then laws_eqPortS.l0 k l l ((i + 1 : Nat) : Int) else some false) (eqPort_ev _ (hl.2 _ (rdIP_mem l i (by omega)))) (ev_eq _ (fun k => if_pos rfl) (ih (i + 1) (by omega))))
    rw [laws_eqPortS.l0, if_pos (by omega), if_pos (by omega), if_pos (by omega), wrap_id (n := (i : Int) + 1) (by omega) (by omega), show (i : Int) + 1 = ((i + 1 : Nat) : Int) by omega]
theorem eqPortS_ev (l : List IP) (hl : BL l) : Ev (fun k => laws_eqPortS.f k l l) true := by
  refine ev_eq _ (fun k => ?_) (eqPortS_loop l hl l.length 0 (by omega))
  unfold laws_eqPortS.f
  rw [if_pos rfl]
  rfl
/-! ### are they ports? -/
theorem mailOk_same (x : IM) : ∃ t, spec_MailOk.f x.f0 x.f1 x.f2 x.f3 = some t ∧ impl_MailOk.f x.f0 x.f1 x.f2 x.f3 = some t := by
  simp only [spec_MailOk.f, impl_MailOk.f, impl_word.f, impl_portOk.f, inAll, inAll', Option.bind_some]
  repeat' split
  all_goals first | exact ⟨_, rfl, rfl⟩ | simp_all
theorem portsRow_same (L : List IP) (hl : L.length ≤ 1048576) (p : Nat) (hp : p < L.length) (hr : (rd_T47 L (p : Int)).f1.length ≤ 1048576) (r : Bool) (hn : Ev (fun k => spec_PortsOk.l0 k L ((p + 1 : Nat) : Int)) r) : ∀ d (i : Nat), i + d = (rd_T47 L (p : Int)).f1.length →
    ∃ u, impl_PortsOk.row (rd_T47 L (p : Int)).f0 ((rd_T47 L (p : Int)).f1.drop i) = some u ∧ Ev (fun k => spec_PortsOk.l1 k L (p : Int) (i : Int)) (if u = true then false else r) := by
  intro d
  induction d with
  | zero =>
    intro i hi
    refine ⟨false, by rw [List.drop_eq_nil_of_le (by omega)]; rfl, ev_step _ (fun k => ?_) hn⟩
    rw [spec_PortsOk.l1, if_pos (by omega), if_pos (by omega), if_neg (by omega), wrap_id (n := (p : Int) + 1) (by omega) (by omega), show (p : Int) + 1 = ((p + 1 : Nat) : Int) by omega]
  | succ d ih =>
    intro i hi
    obtain ⟨u, u1, u2⟩ := ih (i + 1) (by omega)
    obtain ⟨t, t1, t2⟩ := mailOk_same (rd_T40 (rd_T47 L (p : Int)).f1 (i : Int))
    have hs := impl_PortsOk.row_step (rd_T47 L (p : Int)).f0 (rd_T47 L (p : Int)).f1 i (by omega)
    rw [impl_PortsOk.bad, t2, Option.bind_some, Option.bind_some] at hs
    have un : ∀ k, spec_PortsOk.l1 (k + 1) L (p : Int) (i : Int) = if t = true then (if (rd_T40 (rd_T47 L (p : Int)).f1 (i : Int)).f2 = (rd_T47 L (p : Int)).f0 then spec_PortsOk.l1 k L (p : Int) ((i + 1 : Nat) : Int) else some false) else some false := fun k => by
      rw [spec_PortsOk.l1, if_pos (by omega), if_pos (by omega), if_pos (by omega), if_pos (by omega), t1, Option.bind_some, wrap_id (n := (i : Int) + 1) (by omega) (by omega), show (i : Int) + 1 = ((i + 1 : Nat) : Int) by omega]
    cases t with
    | false => exact ⟨true, by rw [hs]; rfl, ev_step _ un ⟨0, fun k _ => rfl⟩⟩
    | true =>
      by_cases hN : (rd_T40 (rd_T47 L (p : Int)).f1 (i : Int)).f2 = (rd_T47 L (p : Int)).f0
      · refine ⟨u, by rw [hs, if_neg (by simp [hN]), u1], ev_step _ un (ev_eq _ (fun k => ?_) u2)⟩
        rw [if_pos rfl, if_pos hN]
      · exact ⟨true, by rw [hs, if_pos (by simp [hN])], ev_step _ un ⟨0, fun k _ => by show (if true = true then _ else _) = _; rw [if_pos rfl, if_neg hN]; rfl⟩⟩
theorem portsOk_from (L : List IP) (hl : BL L) : ∀ d (p : Nat), p + d = L.length → ∃ t, impl_PortsOk.at_ L d p = some t ∧ Ev (fun k => spec_PortsOk.l0 k L (p : Int)) t := by
  have hl1 := hl.1
  intro d
  induction d with
  | zero =>
    intro p hp
    refine ⟨_, rfl, ev_step (fun _ => some (decide (L.length ≤ 4))) (fun k => ?_) (Ev.now _)⟩
    rw [spec_PortsOk.l0, if_neg (by omega)]
    congr 1
    simp only [decide_eq_decide]
    omega
  | succ d ih =>
    intro p hp
    obtain ⟨r, r1, r2⟩ := ih (p + 1) (by omega)
    have hb := (hl.2 _ (rdIP_mem L p (by omega))).1
    obtain ⟨u, u1, u2⟩ := portsRow_same L hl1 p (by omega) hb r r2 (rd_T47 L (p : Int)).f1.length 0 (by omega)
    rw [List.drop_zero] at u1
    have un : ∀ k, spec_PortsOk.l0 (k + 1) L (p : Int) = if (1 ≤ (rd_T47 L (p : Int)).f0 ∧ (rd_T47 L (p : Int)).f0 ≤ 255) then (if (p : Int) > 0 then (if (rd_T47 L ((p : Int) - 1)).f0 ≥ (rd_T47 L (p : Int)).f0 then spec_PortsOk.j1 k L (p : Int) true else spec_PortsOk.j1 k L (p : Int) (decide (((rd_T47 L (p : Int)).f1.length : Int) > 3))) else spec_PortsOk.j1 k L (p : Int) (decide (((rd_T47 L (p : Int)).f1.length : Int) > 3))) else spec_PortsOk.j1 k L (p : Int) true := fun k => by
      rw [spec_PortsOk.l0, if_pos (by omega), if_pos (by omega), inAll, Option.bind_some]
      by_cases c1 : 1 ≤ (rd_T47 L (p : Int)).f0 ∧ (rd_T47 L (p : Int)).f0 ≤ 255
      · rw [decide_eq_true c1, if_pos rfl, if_pos c1]
        by_cases c2 : (p : Int) > 0
        · rw [if_pos c2, if_pos c2, wrap_id (n := (p : Int) - 1) (by omega) (by omega), if_pos (by omega), if_pos (by omega)]
        · rw [if_neg c2, if_neg c2]
      · rw [decide_eq_false c1, if_neg (by simp), if_neg c1]
    have jt : ∀ k, spec_PortsOk.j1 (k + 1) L (p : Int) true = some false := fun k => by rw [spec_PortsOk.j1, if_pos rfl]
    have jf : ∀ k, spec_PortsOk.j1 (k + 1) L (p : Int) false = spec_PortsOk.l1 k L (p : Int) ((0 : Nat) : Int) := fun k => by rw [spec_PortsOk.j1, if_neg (by simp)]; rfl
    have ejt : Ev (fun k => spec_PortsOk.j1 k L (p : Int) true) false := ev_step _ jt (Ev.now _)
    have ejf : Ev (fun k => spec_PortsOk.j1 k L (p : Int) false) (if u = true then false else r) := ev_step _ jf u2
    have ejl : (3 < (rd_T47 L (p : Int)).f1.length → Ev (fun k => spec_PortsOk.j1 k L (p : Int) (decide (((rd_T47 L (p : Int)).f1.length : Int) > 3))) false) := fun h => by rw [decide_eq_true (show ((rd_T47 L (p : Int)).f1.length : Int) > 3 by omega)]; exact ejt
    have ejl' : (¬ 3 < (rd_T47 L (p : Int)).f1.length → Ev (fun k => spec_PortsOk.j1 k L (p : Int) (decide (((rd_T47 L (p : Int)).f1.length : Int) > 3))) (if u = true then false else r)) := fun h => by rw [decide_eq_false (show ¬ ((rd_T47 L (p : Int)).f1.length : Int) > 3 by omega)]; exact ejf
    have hrow : ((impl_PortsOk.row (rd_T47 L (p : Int)).f0 (rd_T47 L (p : Int)).f1).bind fun t => if t = true then some false else impl_PortsOk.at_ L d (p + 1)) = some (if u = true then false else r) := by
      rw [u1, Option.bind_some, r1]
      cases u <;> rfl
    rw [impl_PortsOk.at_]
    by_cases c1 : 1 ≤ (rd_T47 L (p : Int)).f0 ∧ (rd_T47 L (p : Int)).f0 ≤ 255
    · have n1 : ¬ impl_PortsOk.num (rd_T47 L (p : Int)).f0 = false := by simp [impl_PortsOk.num, c1.1, c1.2]
      rw [if_neg n1]
      by_cases c2 : 0 < p
      · by_cases c3 : (rd_T47 L ((p : Int) - 1)).f0 ≥ (rd_T47 L (p : Int)).f0
        · rw [if_pos ⟨c2, c3⟩]
          exact ⟨_, rfl, ev_step _ un (ev_eq _ (fun k => by rw [if_pos c1, if_pos (by omega), if_pos c3]) ejt)⟩
        · rw [if_neg (fun h => c3 h.2)]
          by_cases c4 : 3 < (rd_T47 L (p : Int)).f1.length
          · rw [if_pos c4]
            exact ⟨_, rfl, ev_step _ un (ev_eq _ (fun k => by rw [if_pos c1, if_pos (by omega), if_neg c3]) (ejl c4))⟩
          · rw [if_neg c4, hrow]
            exact ⟨_, rfl, ev_step _ un (ev_eq _ (fun k => by rw [if_pos c1, if_pos (by omega), if_neg c3]) (ejl' c4))⟩
      · rw [if_neg (fun h => c2 h.1)]
        by_cases c4 : 3 < (rd_T47 L (p : Int)).f1.length
        · rw [if_pos c4]
          exact ⟨_, rfl, ev_step _ un (ev_eq _ (fun k => by rw [if_pos c1, if_neg (by omega)]) (ejl c4))⟩
        · rw [if_neg c4, hrow]
          exact ⟨_, rfl, ev_step _ un (ev_eq _ (fun k => by rw [if_pos c1, if_neg (by omega)]) (ejl' c4))⟩
    · have n1 : impl_PortsOk.num (rd_T47 L (p : Int)).f0 = false := by
        simp only [impl_PortsOk.num, Bool.and_eq_false_iff, decide_eq_false_iff_not]
        omega
      rw [if_pos n1]
      exact ⟨_, rfl, ev_step _ un (ev_eq _ (fun k => by rw [if_neg c1]) ejt)⟩
theorem portsOk_same (L : List IP) (hl : BL L) : ∃ t, impl_PortsOk.f L = some t ∧ Ev (fun k => spec_PortsOk.f k L) t := portsOk_from L hl L.length 0 (by omega)
/-! ### marks -/
theorem mark_loop (m : Int) (n : Nat) (hm : 0 ≤ m) (hb : m + n ≤ 1000000000) : ∀ d k (i : Nat) (acc : List Int), i + d = n → d < k → acc.length = n → (∀ j, j < i → acc[j]? = some ((m + j) % 256)) →
    ∃ r, laws_markByteS.l0 k acc (m + i) (i : Int) = some (m + n, r) ∧ r.length = n ∧ ∀ j, j < n → r[j]? = some ((m + j) % 256) := by
  intro d
  induction d with
  | zero =>
    intro k i acc hi hk hl hp
    obtain ⟨k, rfl⟩ : ∃ q, k = q + 1 := ⟨k - 1, by omega⟩
    refine ⟨acc, ?_, hl, fun j hj => hp j (by omega)⟩
    simp only [laws_markByteS.l0]
    rw [if_neg (by omega), show i = n by omega]
  | succ d ih =>
    intro k i acc hi hk hl hp
    obtain ⟨k, rfl⟩ : ∃ q, k = q + 1 := ⟨k - 1, by omega⟩
    obtain ⟨r, hr, hrl, hrp⟩ := ih k (i + 1) (acc.set i ((m + i) % 256)) (by omega) (by omega) (by simpa using hl) (fun j hj => by
      by_cases hji : j = i
      · subst hji
        simp [List.getElem?_set, hl]
        omega
      · rw [List.getElem?_set_ne (by omega)]
        exact hp j (by omega))
    refine ⟨r, ?_, hrl, hrp⟩
    simp only [laws_markByteS.l0]
    rw [if_pos (by omega), if_pos (by omega), wrap_id (by omega) (by omega), wrap_id (by omega) (by omega), Int.toNat_natCast]
    rw [show m + (i : Int) + 1 = m + ((i + 1 : Nat) : Int) by omega, show (i : Int) + 1 = ((i + 1 : Nat) : Int) by omega]
    exact hr
theorem held_loop (m : Int) (n : Nat) (hm : 0 ≤ m) (hb : m + n ≤ 1000000000) (r : List Int) (hl : r.length = n) (hp : ∀ j, j < n → r[j]? = some ((m + j) % 256)) : ∀ d k (i : Nat), i + d = n → d < k →
    laws_heldByteS.l0 k r (m + i) (i : Int) = some (m + n) := by
  intro d
  induction d with
  | zero =>
    intro k i hi hk
    obtain ⟨k, rfl⟩ : ∃ q, k = q + 1 := ⟨k - 1, by omega⟩
    simp only [laws_heldByteS.l0]
    rw [if_neg (by omega), show i = n by omega]
  | succ d ih =>
    intro k i hi hk
    obtain ⟨k, rfl⟩ : ∃ q, k = q + 1 := ⟨k - 1, by omega⟩
    have h1 := rd_at r i (by omega)
    rw [hp i (by omega)] at h1
    have h2 := Option.some.inj h1
    simp only [laws_heldByteS.l0]
    rw [if_pos (by omega), if_pos (by omega), if_pos h2.symm, wrap_id (by omega) (by omega), wrap_id (by omega) (by omega)]
    rw [show m + (i : Int) + 1 = m + ((i + 1 : Nat) : Int) by omega, show (i : Int) + 1 = ((i + 1 : Nat) : Int) by omega]
    exact ih k (i + 1) (by omega) (by omega)
theorem markBytes (l : List Int) (m : Int) (hm : 0 ≤ m) (hb : m + l.length ≤ 1000000000) (k : Nat) (hk : l.length < k) :
    ∃ r, laws_markByteS.f k l m = some (m + l.length, r) ∧ r.length = l.length ∧ ∀ k', l.length < k' → laws_heldByteS.f k' r m = some (m + l.length) := by
  obtain ⟨r, h1, h2, h3⟩ := mark_loop m l.length hm hb l.length k 0 l (by omega) hk rfl (fun j hj => by omega)
  refine ⟨r, ?_, h2, fun k' hk' => ?_⟩
  · have := h1
    rw [show m + ((0 : Nat) : Int) = m by omega] at this
    exact this
  · have := held_loop m l.length hm hb r h2 h3 l.length k' 0 (by omega) hk'
    rw [show m + ((0 : Nat) : Int) = m by omega] at this
    exact this
/-! ### sizes, and what they come to in all -/
def sumB (l : List LM) : Nat := (l.map fun x => x.f3.length).sum
def sumP (l : List LP) : Nat := (l.map fun x => x.f1.length + sumB x.f1).sum
theorem sumB_cons (x : LM) (l : List LM) : sumB (x :: l) = x.f3.length + sumB l := by simp [sumB]
theorem sumP_cons (x : LP) (l : List LP) : sumP (x :: l) = x.f1.length + sumB x.f1 + sumP l := by simp [sumP]
theorem rdLM_drop (l : List LM) (i : Nat) (h : i < l.length) : l.drop i = rd_T105 l (i : Int) :: l.drop (i + 1) := by
  have e := rdLM_at l i h
  rw [List.getElem?_eq_getElem h] at e
  rw [List.drop_eq_getElem_cons h, Option.some.inj e]
theorem rdLP_drop (l : List LP) (i : Nat) (h : i < l.length) : l.drop i = rd_T64 l (i : Int) :: l.drop (i + 1) := by
  have e := rdLP_at l i h
  rw [List.getElem?_eq_getElem h] at e
  rw [List.drop_eq_getElem_cons h, Option.some.inj e]
theorem szMailS_sum_loop (l : List LM) (hl : l.length ≤ 1048576) (hm : ∀ x ∈ l, x.f3.length ≤ maxLen) : ∀ d (i : Nat) (a : Int), i + d = l.length → 0 ≤ a → a ≤ 1048576 →
    ∃ r, Ev (fun k => laws_szMailS.l0 k l a (i : Int)) r ∧ (r = -1 ∨ (0 ≤ r ∧ r + sumB (l.drop i) ≤ a)) := by
  intro d
  induction d with
  | zero =>
    intro i a hi h0 h1
    refine ⟨a, ev_step (fun _ => some a) (fun k => ?_) (Ev.now a), .inr ⟨h0, ?_⟩⟩
    · rw [laws_szMailS.l0, if_neg (by omega)]
    · rw [List.drop_eq_nil_of_le (by omega)]
      simp [sumB]
  | succ d ih =>
    intro i a hi h0 h1
    have hx := hm _ (rdLM_mem l i (by omega))
    by_cases c : a < ((rd_T105 l (i : Int)).f3.length : Int)
    · refine ⟨-1, ev_step (fun _ => some (-1)) (fun k => ?_) (Ev.now _), .inl rfl⟩
      rw [laws_szMailS.l0, if_pos (by omega), if_pos (by omega), szMail_at _ _ _ _ _ hx h0 h1, Option.bind_some, if_pos c, if_pos (by omega)]
    · obtain ⟨r, h2, h3⟩ := ih (i + 1) (a - ((rd_T105 l (i : Int)).f3.length : Int)) (by omega) (by omega) (by omega)
      refine ⟨r, ev_step _ (fun k => ?_) h2, ?_⟩
      · rw [laws_szMailS.l0, if_pos (by omega), if_pos (by omega), szMail_at _ _ _ _ _ hx h0 h1, Option.bind_some, if_neg c, if_neg (by omega), wrap_id (n := (i : Int) + 1) (by omega) (by omega), show (i : Int) + 1 = ((i + 1 : Nat) : Int) by omega]
      · rcases h3 with h3 | ⟨r0, r1⟩
        · exact .inl h3
        · refine .inr ⟨r0, ?_⟩
          rw [rdLM_drop l i (by omega), sumB_cons]
          omega
theorem szMailS_sum (l : List LM) (hl : l.length ≤ maxLen) (hm : ∀ x ∈ l, x.f3.length ≤ maxLen) (a : Int) (h0 : 0 ≤ a) (h1 : a ≤ 1048576) :
    ∃ r, Ev (fun k => laws_szMailS.f k l a) r ∧ (r = -1 ∨ (0 ≤ r ∧ r + l.length + sumB l ≤ a)) := by
  unfold maxLen at hl
  by_cases c : a < (l.length : Int)
  · refine ⟨-1, ⟨0, fun k _ => ?_⟩, .inl rfl⟩
    show laws_szMailS.f k l a = some (-1)
    unfold laws_szMailS.f
    rw [wrap_id (by omega) (by omega), if_pos (by omega)]
  · obtain ⟨r, h2, h3⟩ := szMailS_sum_loop l (by omega) hm l.length 0 (a - (l.length : Int)) (by omega) (by omega) (by omega)
    refine ⟨r, ev_eq _ (fun k => ?_) h2, ?_⟩
    · unfold laws_szMailS.f
      rw [wrap_id (by omega) (by omega), if_neg (by omega)]
      rfl
    · rcases h3 with h3 | ⟨r0, r1⟩
      · exact .inl h3
      · rw [List.drop_zero] at r1
        exact .inr ⟨r0, by omega⟩
theorem szPort_sum (x : LP) (hl : x.f1.length ≤ maxLen) (hm : ∀ y ∈ x.f1, y.f3.length ≤ maxLen) (a : Int) (h0 : 0 ≤ a) (h1 : a ≤ 1048576) :
    ∃ r, Ev (fun k => laws_szPort.f k x.f0 x.f1 a) r ∧ (r = -1 ∨ (0 ≤ r ∧ r + x.f1.length + sumB x.f1 ≤ a)) := by
  obtain ⟨r, h2, h3⟩ := szMailS_sum x.f1 hl hm a h0 h1
  refine ⟨r, ev_bind (f := fun _ t => if t < 0 then some (-1) else some t) h2 (ev_some ?_), h3⟩
  rcases h3 with rfl | ⟨r0, _⟩
  · rfl
  · rw [if_neg (by omega)]
theorem szPortS_sum_loop (l : List LP) (hl : l.length ≤ 1048576) (hm : ∀ x ∈ l, x.f1.length ≤ maxLen ∧ ∀ y ∈ x.f1, y.f3.length ≤ maxLen) : ∀ d (i : Nat) (a : Int), i + d = l.length → 0 ≤ a → a ≤ 1048576 →
    ∃ r, Ev (fun k => laws_szPortS.l0 k l a (i : Int)) r ∧ (r = -1 ∨ (0 ≤ r ∧ r + sumP (l.drop i) ≤ a)) := by
  intro d
  induction d with
  | zero =>
    intro i a hi h0 h1
    refine ⟨a, ev_step (fun _ => some a) (fun k => ?_) (Ev.now a), .inr ⟨h0, ?_⟩⟩
    · rw [laws_szPortS.l0, if_neg (by omega)]
    · rw [List.drop_eq_nil_of_le (by omega)]
      simp [sumP]
  | succ d ih =>
    intro i a hi h0 h1
    have hx := hm _ (rdLP_mem l i (by omega))
    obtain ⟨m, m1, m2⟩ := szPort_sum _ hx.1 hx.2 a h0 h1
    have un : ∀ k, laws_szPortS.l0 (k + 1) l a (i : Int) = (laws_szPort.f k (rd_T64 l (i : Int)).f0 (rd_T64 l (i : Int)).f1 a).bind fun t => if t < 0 then some (-1) else laws_szPortS.l0 k l t ((i + 1 : Nat) : Int) := fun k => by
      rw [laws_szPortS.l0, if_pos (by omega), if_pos (by omega), wrap_id (n := (i : Int) + 1) (by omega) (by omega), show (i : Int) + 1 = ((i + 1 : Nat) : Int) by omega]
    rcases m2 with rfl | ⟨n0, n1⟩
    · exact ⟨-1, ev_step _ un (ev_bind (f := fun k t => if t < 0 then some (-1) else laws_szPortS.l0 k l t ((i + 1 : Nat) : Int)) m1 ⟨0, fun k _ => rfl⟩), .inl rfl⟩
    · obtain ⟨r, h2, h3⟩ := ih (i + 1) m (by omega) n0 (by omega)
      refine ⟨r, ev_step _ un (ev_bind (f := fun k t => if t < 0 then some (-1) else laws_szPortS.l0 k l t ((i + 1 : Nat) : Int)) m1 (ev_eq _ (fun k => if_neg (by omega)) h2)), ?_⟩
      rcases h3 with h3 | ⟨r0, r1⟩
      · exact .inl h3
      · refine .inr ⟨r0, ?_⟩
        rw [rdLP_drop l i (by omega), sumP_cons]
        omega
theorem sumB_mem {l : List LM} {x : LM} (h : x ∈ l) : x.f3.length ≤ sumB l := by
  induction l with
  | nil => cases h
  | cons y l ih =>
    rw [sumB_cons]
    rcases List.mem_cons.1 h with rfl | h
    · omega
    · have := ih h; omega
theorem sumP_mem {l : List LP} {x : LP} (h : x ∈ l) : x.f1.length + sumB x.f1 ≤ sumP l := by
  induction l with
  | nil => cases h
  | cons y l ih =>
    rw [sumP_cons]
    rcases List.mem_cons.1 h with rfl | h
    · omega
    · have := ih h; omega
theorem szPortS_sum (l : List LP) (hl : l.length ≤ maxLen) (hm : ∀ x ∈ l, x.f1.length ≤ maxLen ∧ ∀ y ∈ x.f1, y.f3.length ≤ maxLen) (a : Int) (h0 : 0 ≤ a) (h1 : a ≤ 1048576) :
    ∃ r, Ev (fun k => laws_szPortS.f k l a) r ∧ (r = -1 ∨ (0 ≤ r ∧ r + l.length + sumP l ≤ a)) := by
  unfold maxLen at hl
  by_cases c : a < (l.length : Int)
  · refine ⟨-1, ⟨0, fun k _ => ?_⟩, .inl rfl⟩
    show laws_szPortS.f k l a = some (-1)
    unfold laws_szPortS.f
    rw [wrap_id (by omega) (by omega), if_pos (by omega)]
  · obtain ⟨r, h2, h3⟩ := szPortS_sum_loop l (by omega) hm l.length 0 (a - (l.length : Int)) (by omega) (by omega) (by omega)
    refine ⟨r, ev_eq _ (fun k => ?_) h2, ?_⟩
    · unfold laws_szPortS.f
      rw [wrap_id (by omega) (by omega), if_neg (by omega)]
      rfl
    · rcases h3 with h3 | ⟨r0, r1⟩
      · exact .inl h3
      · rw [List.drop_zero] at r1
        exact .inr ⟨r0, by omega⟩
theorem totM_conv (l : List LM) : totM (l.map convM_) = 3 * l.length + sumB l := by
  induction l with
  | nil => simp [totM, sumB]
  | cons x l ih =>
    have : totM ((x :: l).map convM_) = 3 + x.f3.length + totM (l.map convM_) := by simp [totM, convM_]
    rw [this, ih, sumB_cons, List.length_cons]
    omega
theorem totP_conv (l : List LP) : totP (l.map convP_) ≤ l.length + 3 * sumP l := by
  induction l with
  | nil => simp [totP, sumP]
  | cons x l ih =>
    have : totP ((x :: l).map convP_) = 1 + totM (x.f1.map convM_) + totP (l.map convP_) := by simp [totP, convP_]
    rw [this, sumP_cons, List.length_cons, totM_conv]
    omega
theorem ev_mem {α β : Type} (l : List α) (g : Nat → α → Option β) (v : α → β) (h : ∀ x ∈ l, Ev (fun k => g k x) (v x)) : ∃ K, ∀ k, K ≤ k → ∀ x ∈ l, g k x = some (v x) := by
  induction l with
  | nil => exact ⟨0, fun _ _ x hx => by cases hx⟩
  | cons y l ih =>
    obtain ⟨K1, h1⟩ := ih (fun x hx => h x (List.mem_cons_of_mem _ hx))
    obtain ⟨K2, h2⟩ := h y List.mem_cons_self
    refine ⟨K1 + K2, fun k hk x hx => ?_⟩
    rcases List.mem_cons.1 hx with rfl | hx
    · exact h2 k (by omega)
    · exact h1 k (by omega) x hx
/-! ### marks that are held -/
theorem heldB_loop (m : Int) (n : Nat) (hm : 0 ≤ m) (hb : m + n ≤ 1000000000) (r : List Int) (hl : r.length = n) (hp : heldB m r) (k : Nat) (hk : n < k) : laws_heldByteS.f k r m = some (m + n) := by
  have := held_loop m n hm hb r hl (fun j hj => hp j (by omega)) n k 0 (by omega) hk
  rw [show m + ((0 : Nat) : Int) = m by omega] at this
  exact this
theorem rdIM_drop (l : List IM) (i : Nat) (h : i < l.length) : l.drop i = rd_T40 l (i : Int) :: l.drop (i + 1) := by
  have e := rdIM_at l i h
  rw [List.getElem?_eq_getElem h] at e
  rw [List.drop_eq_getElem_cons h, Option.some.inj e]
theorem rdIP_drop (l : List IP) (i : Nat) (h : i < l.length) : l.drop i = rd_T47 l (i : Int) :: l.drop (i + 1) := by
  have e := rdIP_at l i h
  rw [List.getElem?_eq_getElem h] at e
  rw [List.drop_eq_getElem_cons h, Option.some.inj e]
theorem heldM_le {k k' : Int} {l : List IM} (h : heldM k l k') : k + 3 * l.length ≤ k' ∧ ∀ x ∈ l, k + x.f3.length ≤ k' := by
  induction l generalizing k with
  | nil =>
    have h : k = k' := h
    exact ⟨by simp; omega, fun x hx => by cases hx⟩
  | cons y l ih =>
    obtain ⟨_, _, _, _, h5⟩ := h
    obtain ⟨a, b⟩ := ih h5
    refine ⟨by rw [List.length_cons]; omega, fun x hx => ?_⟩
    rcases List.mem_cons.1 hx with rfl | hx
    · omega
    · have := b x hx; omega
theorem heldP_le {k k' : Int} {l : List IP} (h : heldP k l k') : k + l.length ≤ k' := by
  induction l generalizing k with
  | nil =>
    have h : k = k' := h
    simp
    omega
  | cons y l ih =>
    obtain ⟨_, k1, h2, h3⟩ := h
    have a := (heldM_le h2).1
    have b := ih h3
    rw [List.length_cons]
    omega
theorem heldMailS_loop (l : List IM) (t : Int) (ht : t ≤ 1000000000) (hl : l.length ≤ 1000000000) : ∀ d k (i : Nat) (m : Int), i + d = l.length → 0 ≤ m → heldM m (l.drop i) t → t.toNat + d < k → laws_heldMailS.l0 k l m (i : Int) = some t := by
  intro d
  induction d with
  | zero =>
    intro k i m hi hm h hk
    obtain ⟨k, rfl⟩ : ∃ q, k = q + 1 := ⟨k - 1, by omega⟩
    rw [List.drop_eq_nil_of_le (by omega)] at h
    have h : m = t := h
    rw [laws_heldMailS.l0, if_neg (by omega), h]
  | succ d ih =>
    intro k i m hi hm h hk
    obtain ⟨k, rfl⟩ : ∃ q, k = q + 1 := ⟨k - 1, by omega⟩
    rw [rdIM_drop l i (by omega)] at h
    obtain ⟨h1, h2, h3, h4, h5⟩ := h
    have hle := (heldM_le h5).1
    have e := heldB_loop (m + 3) _ (by omega) (by omega) _ rfl h4 k (by omega)
    rw [laws_heldMailS.l0, if_pos (by omega), if_pos (by omega), if_pos h1, wrap_id (n := m + 1) (by omega) (by omega), if_pos h2, wrap_id (n := m + 1 + 1) (by omega) (by omega), if_pos (by omega), wrap_id (n := m + 1 + 1 + 1) (by omega) (by omega), show m + 1 + 1 + 1 = m + 3 by omega, e, Option.bind_some, if_neg (by omega), wrap_id (n := (i : Int) + 1) (by omega) (by omega), show (i : Int) + 1 = ((i + 1 : Nat) : Int) by omega]
    exact ih k (i + 1) _ (by omega) (by omega) h5 (by omega)
theorem heldPortS_loop (l : List IP) (t : Int) (ht : t ≤ 1000000000) (hl : l.length ≤ 1000000000) : ∀ d k (i : Nat) (m : Int), i + d = l.length → 0 ≤ m → heldP m (l.drop i) t → 3 * t.toNat + d < k → laws_heldPortS.l0 k l m (i : Int) = some t := by
  intro d
  induction d with
  | zero =>
    intro k i m hi hm h hk
    obtain ⟨k, rfl⟩ : ∃ q, k = q + 1 := ⟨k - 1, by omega⟩
    rw [List.drop_eq_nil_of_le (by omega)] at h
    have h : m = t := h
    rw [laws_heldPortS.l0, if_neg (by omega), h]
  | succ d ih =>
    intro k i m hi hm h hk
    obtain ⟨k, rfl⟩ : ∃ q, k = q + 1 := ⟨k - 1, by omega⟩
    rw [rdIP_drop l i (by omega)] at h
    obtain ⟨h1, k1, h2, h3⟩ := h
    have hle := (heldM_le h2).1
    have hle2 := heldP_le h3
    have e := heldMailS_loop (rd_T47 l (i : Int)).f1 k1 (by omega) (by omega) (rd_T47 l (i : Int)).f1.length k 0 (m + 1) (by omega) (by omega) (by rw [List.drop_zero]; exact h2) (by omega)
    rw [laws_heldPortS.l0, if_pos (by omega), if_pos (by omega), if_pos h1, wrap_id (n := m + 1) (by omega) (by omega), show laws_heldMailS.f k (rd_T47 l (i : Int)).f1 (m + 1) = some k1 from e, Option.bind_some, if_neg (by omega), wrap_id (n := (i : Int) + 1) (by omega) (by omega), show (i : Int) + 1 = ((i + 1 : Nat) : Int) by omega]
    exact ih k (i + 1) _ (by omega) (by omega) h3 (by omega)
theorem heldPortS_at (l : List IP) (t : Int) (ht : t ≤ 1000000000) (h : heldP 1 l t) (k : Nat) (hk : 4 * t.toNat < k) : laws_heldPortS.f k l 1 = some t := by
  have hle := heldP_le h
  exact heldPortS_loop l t ht (by omega) l.length k 0 1 (by omega) (by omega) (by rw [List.drop_zero]; exact h) (by omega)
theorem markB_at (D : List Int) (m : Int) (hm : 0 ≤ m) (hb : m + D.length ≤ 1000000000) (k : Nat) (hk : D.length < k) : ∃ r, laws_markByteS.f k D m = some (m + D.length, r) ∧ r.length = D.length ∧ heldB m r := by
  obtain ⟨r, h1, h2, h3⟩ := mark_loop m D.length hm hb D.length k 0 D (by omega) hk rfl (fun j hj => by omega)
  rw [show m + ((0 : Nat) : Int) = m by omega] at h1
  exact ⟨r, h1, h2, fun j hj => h3 j (by omega)⟩
/-! ### what ports are -/
theorem mailOk_len {x : IM} (h : impl_MailOk.f x.f0 x.f1 x.f2 x.f3 = some true) : x.f3.length ≤ 40 := by
  simp only [impl_MailOk.f, impl_word.f, impl_portOk.f, inAll', Option.bind_some] at h
  by_cases c : ((x.f3.length : Int)) ≤ 40
  · omega
  · exfalso
    revert h
    repeat' split
    all_goals simp_all
theorem portsRow_small (N : Int) (L : List IM) (h : impl_PortsOk.row N L = some false) : ∀ m ∈ L, m.f3.length ≤ 40 := by
  induction L with
  | nil => intro m hm; cases hm
  | cons y L ih =>
    rw [impl_PortsOk.row] at h
    obtain ⟨t, h1, h2⟩ := Option.bind_eq_some_iff.mp h
    cases t with
    | true => simp at h2
    | false =>
      have h2 : impl_PortsOk.row N L = some false := by simpa using h2
      intro m hm
      rcases List.mem_cons.1 hm with rfl | hm
      · obtain ⟨u, h3, h4⟩ := Option.bind_eq_some_iff.mp h1
        have hu : u = true := by
          cases u with
          | true => rfl
          | false => simp at h4
        subst hu
        exact mailOk_len h3
      · exact ih h2 m hm
theorem portsAt_facts (l : List IP) : ∀ d i : Nat, i + d = l.length → impl_PortsOk.at_ l d i = some true → l.length ≤ 4 ∧ (∀ x : Nat, i ≤ x → x < l.length → (rd_T47 l (x : Int)).f1.length ≤ 3 ∧ (∀ m ∈ (rd_T47 l (x : Int)).f1, m.f3.length ≤ 40) ∧ (0 < x → (rd_T47 l ((x : Int) - 1)).f0 < (rd_T47 l (x : Int)).f0)) := by
  intro d
  induction d with
  | zero =>
    intro i hi h
    rw [impl_PortsOk.at_] at h
    exact ⟨by simpa using h, fun x h1 h2 => by omega⟩
  | succ d ih =>
    intro i hi h
    rw [impl_PortsOk.at_] at h
    by_cases c1 : impl_PortsOk.num (rd_T47 l (i : Int)).f0 = false
    · rw [if_pos c1] at h; cases h
    rw [if_neg c1] at h
    by_cases c2 : 0 < i ∧ (rd_T47 l ((i : Int) - 1)).f0 ≥ (rd_T47 l (i : Int)).f0
    · rw [if_pos c2] at h; cases h
    rw [if_neg c2] at h
    by_cases c3 : 3 < (rd_T47 l (i : Int)).f1.length
    · rw [if_pos c3] at h; cases h
    rw [if_neg c3] at h
    obtain ⟨t, h1, h2⟩ := Option.bind_eq_some_iff.mp h
    cases t with
    | true => simp at h2
    | false =>
      have h2 : impl_PortsOk.at_ l d (i + 1) = some true := by simpa using h2
      obtain ⟨h3, h4⟩ := ih (i + 1) (by omega) h2
      refine ⟨h3, fun x h5 h6 => ?_⟩
      by_cases hx : x = i
      · subst hx
        exact ⟨by omega, portsRow_small _ _ h1, fun h0 => by
          have := fun h => c2 ⟨h0, h⟩
          omega⟩
      · exact h4 x (by omega) h6
theorem portsOk_facts (l : List IP) (h : impl_PortsOk.f l = some true) : l.length ≤ 4 ∧ (∀ p ∈ l, p.f1.length ≤ 3 ∧ ∀ m ∈ p.f1, m.f3.length ≤ 40) ∧ up47 l := by
  obtain ⟨h1, h2⟩ := portsAt_facts l l.length 0 (by omega) h
  refine ⟨h1, fun p hp => ?_, fun i j hij => ?_⟩
  · obtain ⟨x, hx, rfl⟩ := List.getElem_of_mem hp
    have e := rdIP_at l x hx
    rw [List.getElem?_eq_getElem hx] at e
    rw [Option.some.inj e]
    obtain ⟨a, b, _⟩ := h2 x (Nat.zero_le _) hx
    exact ⟨a, b⟩
  · induction j with
    | zero => omega
    | succ j ih =>
      intro hj
      obtain ⟨_, _, h3⟩ := h2 (j + 1) (Nat.zero_le _) hj
      have h4 := h3 (by omega)
      rw [show ((j + 1 : Nat) : Int) - 1 = (j : Int) by omega] at h4
      by_cases hij2 : i = j
      · subst hij2; exact h4
      · have := ih (by omega) (by omega)
        omega
theorem portsOk_small (l : List IP) (h : impl_PortsOk.f l = some true) : small47 l ∧ up47 l := by
  obtain ⟨h1, h2, h3⟩ := portsOk_facts l h
  exact ⟨⟨by omega, fun p hp => ⟨by have := (h2 p hp).1; omega, fun m hm => by have := (h2 p hp).2 m hm; omega⟩⟩, h3⟩
/-! ### PortTake: the reference -/
theorem l9Copy_mail (L : List IP) (hL : BL L) (p : Nat) (hp : p < L.length) (acc : List IP) (r : List IP)
    (hn : ∀ row, row = (rd_T47 L (p : Int)).f1 → Ev (fun k => spec_l9Copy.l0 k L (acc ++ [⟨(rd_T47 L (p : Int)).f0, row⟩]) ((p + 1 : Nat) : Int)) r) (ha : acc.length ≤ 1048576) :
    ∀ d (i : Nat), i + d = (rd_T47 L (p : Int)).f1.length → Ev (fun k => spec_l9Copy.l1 k L acc (p : Int) (i : Int) (rd_T47 L (p : Int)).f0 ((rd_T47 L (p : Int)).f1.take i)) r := by
  have hb := hL.2 _ (rdIP_mem L p hp)
  have hLl := hL.1
  intro d
  induction d with
  | zero =>
    intro i hi
    refine ev_step (fun k => spec_l9Copy.l0 k L (acc ++ [⟨(rd_T47 L (p : Int)).f0, (rd_T47 L (p : Int)).f1⟩]) ((p + 1 : Nat) : Int)) (fun k => ?_) (hn _ rfl)
    rw [spec_l9Copy.l1, if_pos (by omega), if_pos (by omega), if_neg (by omega), if_pos (by omega), wrap_id (n := (p : Int) + 1) (by omega) (by omega), show (p : Int) + 1 = ((p + 1 : Nat) : Int) by omega, List.take_of_length_le (by omega)]
  | succ d ih =>
    intro i hi
    have hbl := hb.1
    have hm := hb.2 _ (rdIM_mem _ i (by omega))
    refine ev_step _ (fun k => ?_) (ih (i + 1) (by omega))
    have e := rdIM_at (rd_T47 L (p : Int)).f1 i (by omega)
    have et : (rd_T47 L (p : Int)).f1.take (i + 1) = (rd_T47 L (p : Int)).f1.take i ++ [rd_T40 (rd_T47 L (p : Int)).f1 (i : Int)] := by
      rw [List.take_add_one, e]
      rfl
    rw [spec_l9Copy.l1, if_pos (by omega), if_pos (by omega), if_pos (by omega), if_pos (by omega), Option.bind_some, if_pos (by simp; omega), if_pos (by rw [List.length_take]; omega), wrap_id (n := (i : Int) + 1) (by omega) (by omega), show (i : Int) + 1 = ((i + 1 : Nat) : Int) by omega, et, List.nil_append]
theorem l9Copy_from (L : List IP) (hL : BL L) : ∀ d (p : Nat), p + d = L.length → Ev (fun k => spec_l9Copy.l0 k L (L.take p) (p : Int)) L := by
  have hLl := hL.1
  intro d
  induction d with
  | zero =>
    intro p hp
    refine ev_step (fun _ => some L) (fun k => ?_) (Ev.now _)
    rw [spec_l9Copy.l0, if_neg (by omega), List.take_of_length_le (by omega)]
  | succ d ih =>
    intro p hp
    have h1 := l9Copy_mail L hL p (by omega) (L.take p) L (fun row hr => by
      subst hr
      have e := rdIP_at L p (by omega)
      have et : L.take (p + 1) = L.take p ++ [rd_T47 L (p : Int)] := by
        rw [List.take_add_one, e]
        rfl
      rw [show (⟨(rd_T47 L (p : Int)).f0, (rd_T47 L (p : Int)).f1⟩ : IP) = rd_T47 L (p : Int) from rfl, ← et]
      exact ih (p + 1) (by omega)) (by rw [List.length_take]; omega) (rd_T47 L (p : Int)).f1.length 0 (by omega)
    rw [List.take_zero] at h1
    refine ev_step _ (fun k => ?_) h1
    rw [spec_l9Copy.l0, if_pos (by omega), if_pos (by omega)]
    rfl
theorem l9Copy_ev (L : List IP) (hL : BL L) : Ev (fun k => spec_l9Copy.f k L) L := by
  have := l9Copy_from L hL L.length 0 (by omega)
  rw [List.take_zero] at this
  exact this
/-- The place of a port, or -1. -/
def atI (L : List IP) (a : Int) : Int := if L.findIdx (fun p => p.f0 == a) < L.length then (L.findIdx (fun p => p.f0 == a) : Int) else -1
theorem findIdx_drop (L : List IP) (a : Int) (i : Nat) (h : ∀ j : Nat, j < i → j < L.length → (rd_T47 L (j : Int)).f0 ≠ a) (hi : i < L.length) (he : (rd_T47 L (i : Int)).f0 = a) : L.findIdx (fun p => p.f0 == a) = i := by
  rw [List.findIdx_eq hi]
  have e : ∀ x : Nat, (hx : x < L.length) → rd_T47 L (x : Int) = L[x] := fun x hx => by
    have e := rdIP_at L x hx
    rw [List.getElem?_eq_getElem hx] at e
    exact (Option.some.inj e).symm
  refine ⟨by rw [← e i hi, he]; simp, fun j hj => ?_⟩
  have := h j hj (by omega)
  rw [e j (by omega)] at this
  simpa using this
theorem l9At_from (L : List IP) (hl : L.length ≤ 1048576) (a : Int) : ∀ d (i : Nat), i + d = L.length → (∀ j : Nat, j < i → j < L.length → (rd_T47 L (j : Int)).f0 ≠ a) → Ev (fun k => spec_l9At.l0 k L a (i : Int)) (atI L a) := by
  intro d
  induction d with
  | zero =>
    intro i hi h
    have hn : ¬ L.findIdx (fun p => p.f0 == a) < L.length := by
      intro hlt
      have h1 := List.findIdx_getElem (w := hlt)
      have e := rdIP_at L _ hlt
      rw [List.getElem?_eq_getElem hlt] at e
      rw [Option.some.inj e] at h1
      exact h _ (by omega) hlt (by simpa using h1)
    refine ev_step (fun _ => some (-1)) (fun k => ?_) ?_
    · rw [spec_l9At.l0, if_neg (by omega)]
    · unfold atI
      rw [if_neg hn]
      exact Ev.now _
  | succ d ih =>
    intro i hi h
    by_cases c : (rd_T47 L (i : Int)).f0 = a
    · have hf := findIdx_drop L a i h (by omega) c
      refine ev_step (fun _ => some (i : Int)) (fun k => ?_) ?_
      · rw [spec_l9At.l0, if_pos (by omega), if_pos (by omega), if_pos c]
      · unfold atI
        rw [hf, if_pos (by omega)]
        exact Ev.now _
    · refine ev_step _ (fun k => ?_) (ih (i + 1) (by omega) (fun j h1 h2 => ?_))
      · rw [spec_l9At.l0, if_pos (by omega), if_pos (by omega), if_neg c, wrap_id (n := (i : Int) + 1) (by omega) (by omega), show (i : Int) + 1 = ((i + 1 : Nat) : Int) by omega]
      · by_cases hj : j = i
        · subst hj; exact c
        · exact h j (by omega) h2
theorem l9At_ev (L : List IP) (hl : L.length ≤ 1048576) (a : Int) : Ev (fun k => spec_l9At.f k L a) (atI L a) := l9At_from L hl a L.length 0 (by omega) (fun j h => by omega)
theorem totM_le (l : List IM) (h : ∀ m ∈ l, m.f3.length ≤ 40) : totM l ≤ 43 * l.length := by
  induction l with
  | nil => simp [totM]
  | cons x l ih =>
    have e : totM (x :: l) = 3 + x.f3.length + totM l := by simp [totM]
    have h1 := h x List.mem_cons_self
    have h2 := ih (fun m hm => h m (List.mem_cons_of_mem _ hm))
    rw [e, List.length_cons]
    omega
theorem totP_le (l : List IP) (h : ∀ p ∈ l, p.f1.length ≤ 4 ∧ ∀ m ∈ p.f1, m.f3.length ≤ 40) : totP l ≤ 173 * l.length := by
  induction l with
  | nil => simp [totP]
  | cons x l ih =>
    have e : totP (x :: l) = 1 + totM x.f1 + totP l := by simp [totP]
    have h1 := h x List.mem_cons_self
    have h2 := ih (fun m hm => h m (List.mem_cons_of_mem _ hm))
    have h3 := totM_le x.f1 h1.2
    rw [e, List.length_cons]
    omega
/-- Few ports, of few messages of few bytes. -/
def few (l : List IP) : Prop := l.length ≤ 5 ∧ ∀ p ∈ l, p.f1.length ≤ 4 ∧ ∀ m ∈ p.f1, m.f3.length ≤ 40
theorem few_BL {l : List IP} (h : few l) : BL l := ⟨by have := h.1; omega, fun p hp => ⟨by have := (h.2 p hp).1; omega, fun m hm => by have := (h.2 p hp).2 m hm; omega⟩⟩
theorem few_tot {l : List IP} (h : few l) : totP l ≤ 865 := by
  have := totP_le l h.2
  have := h.1
  omega
theorem few_ok {l : List IP} (h : impl_PortsOk.f l = some true) : few l := by
  obtain ⟨h1, h2, _⟩ := portsOk_facts l h
  exact ⟨by omega, fun p hp => ⟨by have := (h2 p hp).1; omega, (h2 p hp).2⟩⟩
theorem takeP_few (r : Bool) (l : List IP) (a : Int) (h : impl_PortsOk.f l = some r) : few (takeP r l a).1 ∧ (takeP r l a).2.1.f3.length ≤ 40 := by
  cases r with
  | false => exact ⟨⟨by simp [takeP], fun p hp => by simp [takeP] at hp⟩, by simp [takeP, z40]⟩
  | true =>
    have hf := few_ok h
    unfold takeP
    rw [if_neg (by simp)]
    split
    · rename_i hc
      generalize l.findIdx (fun p => p.f0 == a) = i at hc ⊢
      have h1 := hf.2 _ (rdIP_mem l i hc.1)
      refine ⟨⟨by rw [List.length_set]; exact hf.1, fun p hp => ?_⟩, ?_⟩
      · rcases List.mem_or_eq_of_mem_set hp with h3 | h3
        · exact hf.2 p h3
        · subst h3
          exact ⟨by show (List.drop 1 _).length ≤ 4; rw [List.length_drop]; have := h1.1; omega, fun m hm => h1.2 m (List.mem_of_mem_drop hm)⟩
      · exact h1.2 _ (rdIM_mem _ 0 hc.2)
    · exact ⟨hf, by simp [z40]⟩
theorem eqMail_self (x : IM) (hx : x.f3.length ≤ 1048576) : Ev (fun k => laws_eqMail.f k x.f0 x.f1 x.f2 x.f3 x.f0 x.f1 x.f2 x.f3) true := eqMail_ev x hx
theorem listenP_few (r : Bool) (l : List IP) (a : Int) (h : impl_PortsOk.f l = some r) : few (listenP r l a).1 := by
  have hn : few [] := ⟨by simp, fun p hp => by cases hp⟩
  cases r with
  | false =>
    unfold listenP
    rw [if_pos (.inl rfl)]
    exact hn
  | true =>
    have hf := few_ok h
    obtain ⟨h4, _⟩ := portsOk_facts l h
    unfold listenP
    split
    · exact hn
    · split
      · exact hf
      · generalize l.findIdx (fun p => decide (a < p.f0)) = i
        refine ⟨by simp only [List.length_append, List.length_take, List.length_drop, List.length_singleton]; omega, fun p hp => ?_⟩
        rcases List.mem_append.1 hp with hp | hp
        · rcases List.mem_append.1 hp with hp | hp
          · exact hf.2 p (List.mem_of_mem_take hp)
          · rw [List.mem_singleton.1 hp]
            exact ⟨by simp, fun m hm => by simp at hm⟩
        · exact hf.2 p (List.mem_of_mem_drop hp)
theorem main : GFnExactPortListen.Stmt := by
  intro l a hl _
  obtain ⟨hl, hg⟩ := hl
  have hm : ∀ x ∈ l, x.f1.length ≤ maxLen ∧ ∀ y ∈ x.f1, y.f3.length ≤ maxLen := fun x hx => ⟨(hg x hx).2.1, fun y hy => ((hg x hx).2.2 y hy).2.2.2.1⟩
  obtain ⟨s, h1, h2⟩ := szPortS_sum l hl hm 1048576 (by omega) (by omega)
  rcases h2 with rfl | ⟨s0, s1⟩
  · obtain ⟨K, hK⟩ := h1
    exact ⟨K, -1, hK K (Nat.le_refl _), .inl (by omega)⟩
  · have hbl : l.length ≤ 1048576 := by omega
    have hb2 : ∀ x ∈ l, x.f1.length ≤ 1048576 ∧ ∀ y ∈ x.f1, y.f3.length ≤ 1048576 := fun x hx => by
      have h3 := sumP_mem hx
      exact ⟨by omega, fun y hy => by have := sumB_mem hy; omega⟩
    have hB := convP_BL l hbl hb2
    have hC : l.map convP = l.map convP_ := rfl
    obtain ⟨t, t1, t2⟩ := portsOk_same (l.map convP) hB
    have hfo := listenP_few t (l.map convP) a t1
    have htL := totP_conv l
    rw [← hC] at htL
    generalize l.map convP = L at hB t1 t2 hfo hC htL
    obtain ⟨x, hx⟩ : ∃ x, listenP t L a = x := ⟨_, rfl⟩
    obtain ⟨o, b⟩ := x
    rw [hx] at hfo
    dsimp only at hfo
    have hto := few_tot hfo
    obtain ⟨K1, k1⟩ := h1
    obtain ⟨K2, k2⟩ := ev_mem l (fun k x => laws_toPort.f k x.f0 x.f1) (fun x => (x.f0, x.f1.map convM)) (fun x hx => toPort_ev x (hb2 x hx).1 (hb2 x hx).2)
    obtain ⟨K3, k3⟩ := t2
    obtain ⟨K4, k4⟩ := eqPortS_ev o (few_BL hfo)
    obtain ⟨K5, k5⟩ := eqPortS_ev L hB
    obtain ⟨K6, k6⟩ := l9At_ev L hB.1 a
    obtain ⟨k, hk⟩ : ∃ k, k = K1 + K2 + K3 + K4 + K5 + K6 + totP L + 10000 := ⟨_, rfl⟩
    refine ⟨k, s, k1 k (by omega), .inr ⟨atI L a, L, o, b, t, 1 + (totP L : Int), 1 + (totP o : Int), s0, hbl, k2 k (by omega), hC.symm, t1, k3 k (by omega), fun h => ?_, fun _ => k6 k (by omega), ?_, hx, k4 k (by omega), k5 k (by omega), ⟨rfl, by omega⟩, ⟨rfl, by omega⟩, fun D m g1 g2 g3 => markB_at D m g2 g3 k (by omega), fun D m g1 g2 g3 => markB_at D m g2 g3 k (by omega), fun l' g1 => heldPortS_at l' _ (by omega) g1 k (by omega)⟩⟩
    · subst h
      obtain ⟨q1, q2⟩ := portsOk_small L t1
      exact ⟨q1, q2, (portsOk_facts L t1).1⟩
    · unfold atI
      split
      · rename_i h
        exact ⟨fun _ => h, fun _ => by omega⟩
      · rename_i h
        exact ⟨fun h0 => absurd h0 (by omega), fun h0 => absurd h0 h⟩
end FnExactPortListen_
theorem FnExactPortListen : GFnExactPortListen.Stmt := FnExactPortListen_.main
end Go.Proofs.Ytkkibccnpkbbjaa.Pure
