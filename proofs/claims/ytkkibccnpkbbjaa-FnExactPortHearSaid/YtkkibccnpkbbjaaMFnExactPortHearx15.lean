/- Functions that the law FnExactPortHear reaches, typed by hand: marks in rows that lie apart, and the walk of the law FnExactPortHear; no conditions but those that each theorem states. -/
import Derived.Test.YtkkibccnpkbbjaaMFnExactPortHearx14
import Derived.StillTailTactics
import Derived.IntWalk
import Derived.Deep.RegionHeld3
import Derived.Deep.RegionLaw
namespace Go.Proofs.Ytkkibccnpkbbjaa.MFnExactPortHear
open Go.RowKit Go.Proofs.YtkkibccnpkbbjaaV.PrintWords Go.Proofs.YtkkibccnpkbbjaaV.PrintLast Go.Proofs.YtkkibccnpkbbjaaV.PrintMore
attribute [local go_sem] max2_int min2_int max_two min_two max_three min_three max_four min_four
set_option linter.unusedVariables false
set_option linter.unusedSimpArgs false
/-! ### laws.toPortS: rows apart -/
theorem port_cells {W : World} {base g n cap : Nat} {ok : Nat → Prop} {l : List S47} (h : Kd.S k47S 47 W base ok (.slice (some ⟨g, 0, none⟩) n cap) l) (i : Nat) (hi : i < n) :
    ∃ v, W.cell? ⟨g, i * 2, none⟩ = some (.int .i64 (rd_T47 l (i : Int)).f0) ∧ W.cell? ⟨g, i * 2 + 1, none⟩ = some v ∧ W.frozen? ⟨g, i * 2, none⟩ = false ∧ W.frozen? ⟨g, i * 2 + 1, none⟩ = false := by
  obtain ⟨A, c, _, h1, h2, h3, h4, _⟩ := take_cut h i hi
  exact ⟨_, h1, h2, h3, h4⟩
theorem port_put {W : World} {base g n cap B : Nat} {l : List S47} (h : Kd.S k47S 47 W base (fun k => True ∧ ¬ B ≤ k) (.slice (some ⟨g, 0, none⟩) n cap) l) (i : Nat) (hi : i < n) {v : Value} {L : List S40} (hr : Kd.S k40 40 W base (fun k => B ≤ k) v L) (N : Int) :
    Kd.S k47S 47 ((W.setCell ⟨g, i * 2, none⟩ (.int .i64 N)).setCell ⟨g, i * 2 + 1, none⟩ v) base (fun _ => True) (.slice (some ⟨g, 0, none⟩) n cap) (l.set i ⟨N, L⟩) ∧ W.grownBy ((W.setCell ⟨g, i * 2, none⟩ (.int .i64 N)).setCell ⟨g, i * 2 + 1, none⟩ v) (some g) := by
  have hg : ¬ B ≤ g := ((Kd.S_R h).1 g rfl).2
  obtain ⟨oki, c, hcl, hM, hcc, hfr, hoki, hH⟩ := Kd.S_elem h z47 (i : Int) (by omega) (by omega)
  have hM' : k47S.M W base oki (rd_T47 l (i : Int)) c := hM
  obtain ⟨v1, rfl, g1⟩ := k47S_openM hM'
  have := Kd.S_seg (okg := fun k => B ≤ k) hH (by omega) (by omega) (seg := [.int .i64 N, v]) (j := 0) (Nat.le_refl 2) (x' := ⟨N, L⟩) (okp := fun k => B ≤ k) (k47S_mkM _ _ _ ⟨N, L⟩ hr) (fun k hk => .inr hk) (fun k hk => ⟨trivial, fun e => by rw [e] at hk; exact hg hk⟩)
  rw [Int.toNat_natCast] at this
  exact this
def convM_ (x : S105) : S40 := ⟨x.f0, x.f1, x.f2, x.f3⟩
def convP_ (x : S64) : S47 := ⟨x.f0, x.f1.map convM_⟩
def tp (l : List S64) : Nat → List S47
  | 0 => List.replicate l.length z47
  | i + 1 => (tp l i).set i (convP_ (rd_T64 l (i : Int)))
theorem tp_length (l : List S64) (i : Nat) : (tp l i).length = l.length := by
  induction i with
  | zero => simp [tp]
  | succ i ih => simp [tp, ih]
theorem tp_get (l : List S64) (i : Nat) (hi : i ≤ l.length) : ∀ j, j < i → (tp l i)[j]? = some (convP_ (rd_T64 l (j : Int))) := by
  induction i with
  | zero => intro j hj; omega
  | succ i ih =>
    intro j hj
    rw [tp]
    by_cases h : j = i
    · subst h
      rw [List.getElem?_set_self (by rw [tp_length]; omega)]
    · rw [List.getElem?_set_ne (by omega)]
      exact ih (by omega) j (by omega)
theorem tp_all (l : List S64) : tp l l.length = l.map convP_ := by
  apply List.ext_getElem?
  intro j
  by_cases h : j < l.length
  · rw [tp_get l l.length (Nat.le_refl _) j h, List.getElem?_map, List.getElem?_eq_getElem h]
    unfold rd_T64
    rw [Int.toNat_natCast, List.getD_eq_getElem?_getD, List.getElem?_eq_getElem h]
    rfl
  · rw [List.getElem?_eq_none (by rw [tp_length]; omega), List.getElem?_eq_none (by rw [List.length_map]; omega)]
set_option maxHeartbeats 2000000 in
set_option maxRecDepth 100000 in
theorem toPortS_apart (k : Nat) (A0 : Option Addr) (c0 : Nat) (l0 : List S64) (w : World) (hr0 : Kd.C k64 w A0 l0.length l0) (hl : l0.length ≤ 1048576) (hk : ∀ x ∈ l0, laws_toPort.f k x.f0 x.f1 = some (x.f0, x.f1.map convM_)) :
    Calls Try.prog 13 #[.slice A0 l0.length c0] w fun e w' => ∃ v0_ : Value, e = .returned (v0_) ∧ Kd.S k47S 47 w' w.heap.size (fun _ => True) v0_ (l0.map convP_) ∧ Below w.heap.size w w' := by
  have hu64 := Try.underlying64
  have hu47 := Try.underlying47
  have HI47 := mk_ info47
  have HR := mk_ hr0
  have HL := mk_ hl
  have HK := mk_ hk
  clear hr0 hl hk
  go_enter Try.func13, Try.ntmps13
  go_wp2_with (first | ((with_reducible refine gate_dst (N := 7) rfl ?_); refine Kd.S_make k47S (w0 := w) w.heap.size 47 rfl (N := 7) rfl 25 _ _ rfl (l0.length : Int) rfl rfl Try.underlying25 (.agg #[(.int .i64 0), (.slice none 0 0)]) 32 HI47.out rfl (by decide) (by omega) z47 (ok := fun _ => True) (okp := fun _ => True) (k47S_mkM _ _ _ z47 (Kd.S_nil _ _ _ _ _)) (fun _ hk => hk) trivial (Int.natCast_nonneg _) (by have := HL.out; rw [Int.toNat_natCast]; omega) (Below.refl _ _) (Nat.le_refl _) ?_; intro v1 w1 ho hb hg hnew; rw [Int.toNat_natCast] at ho; obtain ⟨A1, c1, hv1⟩ := Kd.S_slice ho; rw [List.length_replicate] at hv1; subst hv1; have HO := mk_ ho; have HB := mk_ hb; clear ho hb hg hnew))
  go_loopw [4] (fun i wr => ∃ q : Nat, q ≤ l0.length ∧ i = .int .i64 q ∧ Aside0 (Kd.S k47S 47 wr w.heap.size (fun _ => True) (.slice A1 l0.length c1) (tp l0 q)) ∧ Aside0 (Below w.heap.size w wr)) (fun i _ => l0.length - (intOf i).toNat)
  case atStart => exact ⟨0, Nat.zero_le _, rfl, HO, HB⟩
  case round =>
    obtain ⟨q, hq, rfl, HO, HB⟩ := hrel
    by_cases hlt : q < l0.length
    · obtain ⟨ad, A2, c2, e, hx0, hx1, hx2, hx3⟩ := at_T64 HR.out (q : Int) (by omega) (by omega)
      cases e
      replace hx0 := (HB.out.cell (lc_ w _ hx0)).trans hx0
      replace hx1 := (HB.out.cell (lc_ w _ hx1)).trans hx1
      rw [Int.toNat_natCast] at hx0 hx1
      have HX2 := mk_ hx2
      have HX3 := mk_ (Kd.C_below hx3 HB.out)
      have hmem : rd_T64 l0 (q : Int) ∈ l0 := by
        unfold rd_T64
        rw [Int.toNat_natCast, List.getD_eq_getElem?_getD, List.getElem?_eq_getElem hlt]
        exact List.getElem_mem hlt
      obtain ⟨R2, hR2⟩ : ∃ R2, (rd_T64 l0 (q : Int)).f1.map convM_ = R2 := ⟨_, rfl⟩
      have HKQ := mk_ (HK.out _ hmem)
      rw [hR2] at HKQ
      have HTP := mk_ (show (tp l0 q).set q ⟨(rd_T64 l0 (q : Int)).f0, R2⟩ = tp l0 (q + 1) from by rw [← hR2]; rfl)
      obtain ⟨g1, cap1, hv, hgw, hgl, _⟩ := Kd.S_form HO.out (by rw [tp_length]; omega)
      rw [tp_length] at hv
      injection hv with hv1 hv2 hv3
      subst hv1
      have HQ1 := mk_ (show q + 1 ≤ l0.length from hlt)
      have HG1 := mk_ hgw
      clear hgw
      clear hx2 hx3 hmem hv2 hv3 hgl hR2
      go_wp2_with (go_at_call 42; (with_reducible refine (laws_toPort.calls k (rd_T64 l0 (q : Int)).f0 _ _ (rd_T64 l0 (q : Int)).f1 _ _ _ ?s1 ?s2 HKQ.out).mono ?_); (case s1 => exact HX3.out); (case s2 => exact HX2.out); rintro e w2 ⟨v2, rfl, ho, hb⟩; have HO1 := mk_ (Kd.S_mono (Kd.S_below (Kd.S_elder HO.out) hb) (fun k hk => (⟨trivial, by have := hk.2; omega⟩ : True ∧ ¬ wr.heap.size ≤ k))); obtain ⟨v3, hy0, hy1, hy2, hy3⟩ := port_cells HO1.out q hlt; have HV := mk_ (Kd.S_lower (Kd.S_mono (Kd.S_fresh ho) (fun k hk => hk.2)) HB.out.size); obtain ⟨A5, c5, hv5⟩ := Kd.S_slice ho; subst hv5; have HB2 := mk_ (below_step HB.out hb); clear ho hb)
      have hput := port_put HO1.out q hlt HV.out (rd_T64 l0 (q : Int)).f0
      go_roundw
      case rel => exact ⟨q + 1, HQ1.out, by rw [wrap_next q (by have := HL.out; have := HQ1.out; omega)], ⟨by rw [← HTP.out]; exact hput.1⟩, ⟨bs_ (bs_ HB2.out HG1.out) HG1.out⟩⟩
      case measure => have h1_ := HL.out; have h2_ := HQ1.out; rw [wrap_next q (by omega)]; simp only [intOf, Int.toNat_natCast]; omega
    · obtain rfl : q = l0.length := by omega
      have HO2 := HO.out
      rw [tp_all] at HO2
      have HO3 := mk_ HO2
      clear HO2 HO
      go_wp2
      go_ret
      exact ⟨_, rfl, HO3.out, HB.out⟩
/-! ### marks in rows that lie apart -/
def heldB (m : Int) (D : List Int) : Prop := ∀ j : Nat, j < D.length → D[j]? = some ((m + j) % 256)
def heldM : Int → List S40 → Int → Prop
  | k, [], k' => k = k'
  | k, x :: xs, k' => x.f0 = k ∧ x.f1 = k + 1 ∧ x.f2 = k + 2 ∧ heldB (k + 3) x.f3 ∧ heldM (k + 3 + x.f3.length) xs k'
theorem heldM_snoc {k kq : Int} {A : List S40} {x : S40} (h : heldM k A kq) (h0 : x.f0 = kq) (h1 : x.f1 = kq + 1) (h2 : x.f2 = kq + 2) (h3 : heldB (kq + 3) x.f3) : heldM k (A ++ [x]) (kq + 3 + x.f3.length) := by
  induction A generalizing k with
  | nil =>
    have h : k = kq := h
    subst h
    exact ⟨h0, h1, h2, h3, rfl⟩
  | cons y A ih => exact ⟨h.1, h.2.1, h.2.2.1, h.2.2.2.1, ih h.2.2.2.2⟩
def totM (l : List S40) : Nat := (l.map fun x => 3 + x.f3.length).sum
theorem totM_snoc (l : List S40) (x : S40) : totM (l ++ [x]) = totM l + (3 + x.f3.length) := by simp [totM]
theorem totM_take (l : List S40) (q : Nat) : totM (l.take q) ≤ totM l := by
  have h := congrArg totM (List.take_append_drop q l)
  unfold totM at h ⊢
  rw [List.map_append, List.sum_append] at h
  omega
theorem set_take {α : Type} (X : List α) (q : Nat) (x : α) (h : q < X.length) : (X.set q x).take (q + 1) = X.take q ++ [x] := by
  rw [List.take_succ_eq_append_getElem (by rw [List.length_set]; exact h), List.take_set_of_le (Nat.le_refl q)]
  simp
theorem set_drop {α : Type} (X : List α) (q : Nat) (x : α) : (X.set q x).drop (q + 1) = X.drop (q + 1) := by
  rw [List.drop_set_of_lt (Nat.lt_succ_self q)]
theorem drop_rd40 {X l : List S40} {q : Nat} (h : X.drop q = l.drop q) (hl : q < l.length) (hX : q < X.length) : rd_T40 X (q : Int) = rd_T40 l (q : Int) := by
  have := congrArg (fun y => y[0]?) h
  simp only [List.getElem?_drop, Nat.add_zero] at this
  unfold rd_T40
  rw [Int.toNat_natCast, List.getD_eq_getElem?_getD, List.getD_eq_getElem?_getD, this]
theorem drop_next {α : Type} {X l : List α} {q : Nat} (h : X.drop q = l.drop q) : X.drop (q + 1) = l.drop (q + 1) := by
  rw [← List.drop_drop, ← List.drop_drop, h]
/-- Element q of a row of messages: its cells, its bytes; and the row with the element marked, once its bytes are. -/
theorem mail_mark {W : World} {base g n cap : Nat} {ok : Nat → Prop} {X : List S40} (h : Kd.S k40 40 W base ok (.slice (some ⟨g, 0, none⟩) n cap) X) (q : Nat) (hq : q < n) :
    ∃ (oki : Nat → Prop) (A : Option Addr) (c : Nat), W.cell? ⟨g, q * 4, none⟩ = some (.int .i64 (rd_T40 X (q : Int)).f0) ∧ W.cell? ⟨g, q * 4 + 1, none⟩ = some (.int .i64 (rd_T40 X (q : Int)).f1) ∧ W.cell? ⟨g, q * 4 + 2, none⟩ = some (.int .i64 (rd_T40 X (q : Int)).f2) ∧ W.cell? ⟨g, q * 4 + 3, none⟩ = some (.slice A (rd_T40 X (q : Int)).f3.length c) ∧
      W.frozen? ⟨g, q * 4, none⟩ = false ∧ W.frozen? ⟨g, q * 4 + 1, none⟩ = false ∧ W.frozen? ⟨g, q * 4 + 2, none⟩ = false ∧ (∀ k, oki k → ok k ∧ k ≠ g) ∧
      ∀ k0 k1 k2 : Int, (Kd.int .u8).R 5 (((W.setCell ⟨g, q * 4, none⟩ (.int .i64 k0)).setCell ⟨g, q * 4 + 1, none⟩ (.int .i64 k1)).setCell ⟨g, q * 4 + 2, none⟩ (.int .i64 k2)) base oki (.slice A (rd_T40 X (q : Int)).f3.length c) (rd_T40 X (q : Int)).f3 ∧
        ∀ (w4 : World) (D : List Int) (okd : Nat → Prop), Kept (((W.setCell ⟨g, q * 4, none⟩ (.int .i64 k0)).setCell ⟨g, q * 4 + 1, none⟩ (.int .i64 k1)).setCell ⟨g, q * 4 + 2, none⟩ (.int .i64 k2)) w4 (fun k => oki k) → (Kd.int .u8).R 5 w4 base okd (.slice A (rd_T40 X (q : Int)).f3.length c) D →
          Kd.S k40 40 w4 base ok (.slice (some ⟨g, 0, none⟩) n cap) (X.set q ⟨k0, k1, k2, D⟩) := by
  obtain ⟨oki, c, hcl, hM, hcc, hfr, hoki, hH⟩ := Kd.S_elem h z40 (q : Int) (by omega) (by omega)
  have hM' : k40.M W base oki (rd_T40 X (q : Int)) c := hM
  obtain ⟨v3, rfl, g3⟩ := k40_openM hM'
  obtain ⟨A, c3, hv3⟩ := Kd.R_slice g3
  subst hv3
  rw [Int.toNat_natCast] at hcc hfr
  refine ⟨oki, A, c3, hcc 0 _ rfl, hcc 1 _ rfl, hcc 2 _ rfl, hcc 3 _ rfl, hfr 0, hfr 1, hfr 2, hoki, fun k0 k1 k2 => ?_⟩
  have hne : ∀ k, oki k → k ≠ g := fun k hk => (hoki k hk).2
  have hg3 := Kd.R_far (p := ⟨g, q * 4 + 2, none⟩) (Kd.R_far (p := ⟨g, q * 4 + 1, none⟩) (Kd.R_far (p := ⟨g, q * 4, none⟩) g3 hne (.int .i64 k0)) hne (.int .i64 k1)) hne (.int .i64 k2)
  refine ⟨hg3, fun w4 D okd hk hD => ?_⟩
  have hs := (Kd.H_seg hH (by omega) (by omega) (seg := [.int .i64 k0, .int .i64 k1, .int .i64 k2]) (j := 0) (Nat.le_succ 3) (fun u hu => by
    rcases List.mem_cons.1 hu with rfl | hu
    · rfl
    · rcases List.mem_cons.1 hu with rfl | hu
      · rfl
      · rw [List.mem_singleton.1 hu]; rfl)).1
  rw [Int.toNat_natCast] at hs
  have hs2 : Kd.H k40 40 (((W.setCell ⟨g, q * 4, none⟩ (.int .i64 k0)).setCell ⟨g, q * 4 + 1, none⟩ (.int .i64 k1)).setCell ⟨g, q * 4 + 2, none⟩ (.int .i64 k2)) base ok (.slice (some ⟨g, 0, none⟩) n cap) X (q : Int) oki [.int .i64 k0, .int .i64 k1, .int .i64 k2, .slice A (rd_T40 X (q : Int)).f3.length c3] := hs
  have hs3 := Kd.H_kept hs2 hk (fun k _ h2 h3 => h2 h3)
  have hb := Kd.H_back hs3 (x' := ⟨k0, k1, k2, D⟩) (okp := fun k => some k = (Value.slice A (rd_T40 X (q : Int)).f3.length c3).ownBlock) (k40_mkM _ _ _ ⟨k0, k1, k2, D⟩ (Kd.R_tight rfl hD)) (fun k hk2 => g3.1 k hk2.symm)
  rw [Int.toNat_natCast] at hb
  exact hb
theorem wrapI (n : Int) (h : 0 ≤ n) (h' : n ≤ 1000000000) : wrap64 (n + 1) = n + 1 := by
  unfold wrap64
  omega
theorem len_totM (l : List S40) : l.length ≤ totM l := by
  induction l with
  | nil => simp
  | cons x l ih =>
    have : totM (x :: l) = 3 + x.f3.length + totM l := by simp [totM]
    rw [List.length_cons, this]
    omega
set_option maxHeartbeats 4000000 in
set_option maxRecDepth 100000 in
theorem markMailS_apart (kf : Nat) (u : Value) (l : List S40) (a1 : Int) (ok : Nat → Prop) (w0 w : World) (hB : Below w0.heap.size w0 w) (h : Kd.S k40 40 w w0.heap.size ok u l) (h0 : 0 ≤ a1) (h1 : a1 + totM l ≤ 1000000000)
    (hb : ∀ (D : List Int) (m : Int), D.length ≤ totM l → 0 ≤ m → m + D.length ≤ 1000000000 → ∃ r, laws_markByteS.f kf D m = some (m + D.length, r) ∧ r.length = D.length ∧ heldB m r) :
    Calls Try.prog 56 #[u, .int .i64 a1] w fun e w' => e = .returned (.int .i64 (a1 + totM l)) ∧ (∃ l', l'.length = l.length ∧ heldM a1 l' (a1 + totM l) ∧ Kd.S k40 40 w' w0.heap.size ok u l') ∧ Below w0.heap.size w0 w' ∧ Kept w w' ok := by
  have hu40 := Try.underlying40
  have HS := mk_ h
  have H0 := mk_ h0
  have H1 := mk_ h1
  have HMB := mk_ hb
  have HB0 := mk_ hB
  obtain ⟨A, c, hv⟩ := Kd.S_slice h
  subst hv
  have HMX := mk_ (Kd.S_reads' h).2.2.2.1
  clear h h0 h1 hb hB
  go_enter Try.func56, Try.ntmps56
  go_wp2
  go_loopw [1, 5] (fun kk i wr => ∃ (q : Nat) (X : List S40), q ≤ l.length ∧ X.length = l.length ∧ i = .int .i64 q ∧ kk = .int .i64 (a1 + totM (l.take q)) ∧ Aside0 (heldM a1 (X.take q) (a1 + totM (l.take q)) ∧ X.drop q = l.drop q) ∧ Aside0 (Kd.S k40 40 wr w0.heap.size ok (.slice A l.length c) X) ∧ Aside0 (Below w0.heap.size w0 wr) ∧ Aside0 (Kept w wr ok)) (fun _ i _ => l.length - (intOf i).toNat)
  case atStart => exact ⟨0, l, Nat.zero_le _, rfl, rfl, by simp [totM], ⟨(Int.add_zero a1).symm ▸ rfl, rfl⟩, HS, HB0, ⟨Kept.refl _ _⟩⟩
  case round =>
    obtain ⟨q, X, hq, hX, rfl, rfl, HF, HX, HB, HK⟩ := hrel
    by_cases hlt : q < l.length
    · obtain ⟨g, cap, hv, hgw, hgl, _⟩ := Kd.S_form HX.out (by omega)
      rw [hX] at hv
      injection hv with hv1 hv2 hv3
      subst hv1
      subst hv3
      obtain ⟨oki, Ad, cd, hc0, hc1, hc2, hc3, hf0, hf1, hf2, hoki, hmk⟩ := mail_mark HX.out q hlt
      have hrd := drop_rd40 HF.out.2 hlt (by omega)
      have htk := take40 l q hlt
      have hok := (Kd.S_R HX.out).1 g rfl
      rw [hrd] at hc0 hc1 hc2 hc3 hmk
      obtain ⟨P, hP⟩ : ∃ P, rd_T40 l (q : Int) = P := ⟨_, rfl⟩
      obtain ⟨b0, b1, b2, D⟩ := P
      rw [hP] at hc0 hc1 hc2 hc3 hmk htk
      dsimp only at hc0 hc1 hc2 hc3 hmk
      have htt := totM_take l (q + 1)
      rw [htk, totM_snoc] at htt
      dsimp only at htt
      have hts : totM (l.take (q + 1)) = totM (l.take q) + (3 + D.length) := by rw [htk, totM_snoc]
      obtain ⟨kq, hkq⟩ : ∃ kq : Int, a1 + totM (l.take q) = kq := ⟨_, rfl⟩
      have hF1 := HF.out.1
      rw [hkq] at hF1 ⊢
      have hk0 : 0 ≤ kq := by have := H0.out; omega
      have hk1 : kq + 3 + D.length ≤ 1000000000 := by have := H1.out; omega
      have hw1 := wrapI kq hk0 (by omega)
      have hw2 := wrapI (kq + 1) (by omega) (by omega)
      have hw3 := wrapI (kq + 1 + 1) (by omega) (by omega)
      obtain ⟨rb, hr1, hr2, hr3⟩ := HMB.out D (kq + 1 + 1 + 1) (by omega) (by omega) (by omega)
      obtain ⟨hR3, hbk⟩ := hmk kq (kq + 1) (kq + 1 + 1)
      have HR3 := mk_ hR3
      have HBK := mk_ hbk
      have HR1 := mk_ hr1
      have HFF := mk_ (And.intro hF1 (And.intro HF.out.2 (And.intro hr2 (And.intro hr3 (And.intro hts hkq)))))
      have HNM := mk_ (And.intro hk0 hk1)
      have HOI := mk_ (And.intro hok (And.intro hoki hgw))
      have HQ := mk_ (show q + 1 ≤ l.length from hlt)
      have HXL := mk_ hX
      clear hR3 hbk hr1 hF1 hr2 hr3 hts hkq hk0 hk1 hmk htt htk hP hrd hok hoki hgw hgl hv2 hX
      go_wp2_with (go_at_call 60; (with_reducible refine (laws_markByteS.calls kf (fun k => oki k) (.slice Ad D.length cd) D (kq + 1 + 1 + 1) _ rb w0 _ ?s1 ?s2 HR1.out).mono ?_); (case s1 => exact bs_ (bs_ (bs_ HB.out HOI.out.2.2) HOI.out.2.2) HOI.out.2.2); (case s2 => exact HR3.out); rintro e w4 ⟨rfl, ho, hb, hk⟩; have HS4 := mk_ (HBK.out w4 rb _ hk ho); have HB4 := mk_ hb; have HK4 := mk_ (Kept.then_ (Kept.setCell (Kept.setCell (Kept.setCell HK.out (.inl HOI.out.1) _) (.inl HOI.out.1) _) (.inl HOI.out.1) _) hk (fun k hk2 => .inl (HOI.out.2.1 k hk2).1)); clear ho hb hk)
      have hq9 : q ≤ 1000000000 := by have h1_ := len_totM l; have h2_ := H1.out; have h3_ := H0.out; have h4_ := HQ.out; omega
      go_roundw
      case rel =>
        obtain ⟨f1, f2, f3, f4, f5, f6⟩ := HFF.out
        have hXL := HXL.out
        have hQ := HQ.out
        have e : kq + 1 + 1 + 1 + (D.length : Int) = a1 + totM (l.take (q + 1)) := by rw [f5]; omega
        refine ⟨q + 1, X.set q ⟨kq, kq + 1, kq + 1 + 1, rb⟩, hQ, by rw [List.length_set]; exact hXL, by rw [wrap_next q hq9], by rw [e], ⟨?_, by rw [set_drop]; exact drop_next f2⟩, HS4, HB4, HK4⟩
        rw [set_take X q _ (by omega), ← e, ← f3]
        have := heldM_snoc (x := ⟨kq, kq + 1, kq + 1 + 1, rb⟩) f1 rfl rfl (by show kq + 1 + 1 = kq + 2; omega) (by rw [show kq + 3 = kq + 1 + 1 + 1 by omega]; exact f4)
        rw [show kq + 3 = kq + 1 + 1 + 1 by omega] at this
        exact this
      case measure => have h2_ := HQ.out; rw [wrap_next q hq9]; simp only [intOf, Int.toNat_natCast]; omega
    · obtain rfl : q = l.length := by omega
      have HF2 := HF.out
      rw [List.take_length] at HF2
      rw [show X.take l.length = X from by rw [← hX, List.take_length]] at HF2
      have HF3 := mk_ HF2
      rw [List.take_length]
      have HXL := mk_ hX
      clear HF2 HF hX
      go_wp2
      go_ret
      exact ⟨rfl, ⟨X, HXL.out, HF3.out.1, HX.out⟩, HB.out, HK.out⟩
def heldP : Int → List S47 → Int → Prop
  | k, [], k' => k = k'
  | k, x :: xs, k' => x.f0 = k ∧ ∃ k1, heldM (k + 1) x.f1 k1 ∧ heldP k1 xs k'
theorem heldP_snoc {k kq k1 : Int} {A : List S47} {x : S47} (h : heldP k A kq) (h0 : x.f0 = kq) (h1 : heldM (kq + 1) x.f1 k1) : heldP k (A ++ [x]) k1 := by
  induction A generalizing k with
  | nil =>
    have h : k = kq := h
    subst h
    exact ⟨h0, k1, h1, rfl⟩
  | cons y A ih =>
    obtain ⟨h2, k2, h3, h4⟩ := h
    exact ⟨h2, k2, h3, ih h4⟩
def totP (l : List S47) : Nat := (l.map fun x => 1 + totM x.f1).sum
theorem totP_snoc (l : List S47) (x : S47) : totP (l ++ [x]) = totP l + (1 + totM x.f1) := by simp [totP]
theorem totP_take (l : List S47) (q : Nat) : totP (l.take q) ≤ totP l := by
  have h := congrArg totP (List.take_append_drop q l)
  unfold totP at h ⊢
  rw [List.map_append, List.sum_append] at h
  omega
theorem len_totP (l : List S47) : l.length ≤ totP l := by
  induction l with
  | nil => simp
  | cons x l ih =>
    have : totP (x :: l) = 1 + totM x.f1 + totP l := by simp [totP]
    rw [List.length_cons, this]
    omega
theorem drop_rd47 {X l : List S47} {q : Nat} (h : X.drop q = l.drop q) (hl : q < l.length) (hX : q < X.length) : rd_T47 X (q : Int) = rd_T47 l (q : Int) := by
  have := congrArg (fun y => y[0]?) h
  simp only [List.getElem?_drop, Nat.add_zero] at this
  unfold rd_T47
  rw [Int.toNat_natCast, List.getD_eq_getElem?_getD, List.getD_eq_getElem?_getD, this]
/-- Element q of ports: its cells, its row; and the ports with the element marked, once its row is. -/
theorem port_mark {W : World} {base g n cap : Nat} {ok : Nat → Prop} {X : List S47} (h : Kd.S k47S 47 W base ok (.slice (some ⟨g, 0, none⟩) n cap) X) (q : Nat) (hq : q < n) :
    ∃ (oki : Nat → Prop) (A : Option Addr) (c : Nat), W.cell? ⟨g, q * 2, none⟩ = some (.int .i64 (rd_T47 X (q : Int)).f0) ∧ W.cell? ⟨g, q * 2 + 1, none⟩ = some (.slice A (rd_T47 X (q : Int)).f1.length c) ∧ W.frozen? ⟨g, q * 2, none⟩ = false ∧ (∀ k, oki k → ok k ∧ k ≠ g) ∧
      ∀ k0 : Int, Kd.S k40 40 (W.setCell ⟨g, q * 2, none⟩ (.int .i64 k0)) base oki (.slice A (rd_T47 X (q : Int)).f1.length c) (rd_T47 X (q : Int)).f1 ∧
        ∀ (w4 : World) (L : List S40), Kept (W.setCell ⟨g, q * 2, none⟩ (.int .i64 k0)) w4 oki → Kd.S k40 40 w4 base oki (.slice A (rd_T47 X (q : Int)).f1.length c) L →
          Kd.S k47S 47 w4 base ok (.slice (some ⟨g, 0, none⟩) n cap) (X.set q ⟨k0, L⟩) := by
  obtain ⟨oki, c, hcl, hM, hcc, hfr, hoki, hH⟩ := Kd.S_elem h z47 (q : Int) (by omega) (by omega)
  have hM' : k47S.M W base oki (rd_T47 X (q : Int)) c := hM
  obtain ⟨v1, rfl, g1⟩ := k47S_openM hM'
  obtain ⟨A, c1, hv1⟩ := Kd.S_slice g1
  subst hv1
  rw [Int.toNat_natCast] at hcc hfr
  refine ⟨oki, A, c1, hcc 0 _ rfl, hcc 1 _ rfl, hfr 0, hoki, fun k0 => ?_⟩
  have hne : ∀ k, oki k → k ≠ g := fun k hk => (hoki k hk).2
  refine ⟨Kd.S_far (p := ⟨g, q * 2, none⟩) g1 hne (.int .i64 k0), fun w4 L hk hL => ?_⟩
  have hs := (Kd.H_seg hH (by omega) (by omega) (seg := [.int .i64 k0]) (j := 0) (Nat.le_succ 1) (fun u hu => by rw [List.mem_singleton.1 hu]; rfl)).1
  rw [Int.toNat_natCast] at hs
  have hs2 : Kd.H k47S 47 (W.setCell ⟨g, q * 2, none⟩ (.int .i64 k0)) base ok (.slice (some ⟨g, 0, none⟩) n cap) X (q : Int) oki [.int .i64 k0, .slice A (rd_T47 X (q : Int)).f1.length c1] := hs
  have hs3 := Kd.H_kept hs2 hk (fun k _ h2 h3 => h2 h3)
  have hb := Kd.H_back hs3 (x' := ⟨k0, L⟩) (okp := oki) (k47S_mkM _ _ _ ⟨k0, L⟩ hL) (fun k hk2 => hk2)
  rw [Int.toNat_natCast] at hb
  exact hb
set_option maxHeartbeats 4000000 in
set_option maxRecDepth 100000 in
theorem markPortS_apart (kf : Nat) (u : Value) (l : List S47) (a1 : Int) (ok : Nat → Prop) (w0 w : World) (hB : Below w0.heap.size w0 w) (h : Kd.S k47S 47 w w0.heap.size ok u l) (h0 : 0 ≤ a1) (h1 : a1 + totP l ≤ 1000000000)
    (hb : ∀ (D : List Int) (m : Int), D.length ≤ totP l → 0 ≤ m → m + D.length ≤ 1000000000 → ∃ r, laws_markByteS.f kf D m = some (m + D.length, r) ∧ r.length = D.length ∧ heldB m r) :
    Calls Try.prog 20 #[u, .int .i64 a1] w fun e w' => e = .returned (.int .i64 (a1 + totP l)) ∧ (∃ l', l'.length = l.length ∧ heldP a1 l' (a1 + totP l) ∧ Kd.S k47S 47 w' w0.heap.size ok u l') ∧ Below w0.heap.size w0 w' ∧ Kept w w' ok := by
  have hu47 := Try.underlying47
  have HS := mk_ h
  have H0 := mk_ h0
  have H1 := mk_ h1
  have HMB := mk_ hb
  have HB0 := mk_ hB
  obtain ⟨A, c, hv⟩ := Kd.S_slice h
  subst hv
  clear h h0 h1 hb hB
  go_enter Try.func20, Try.ntmps20
  go_wp2
  go_loopw [1, 5] (fun kk i wr => ∃ (q : Nat) (X : List S47), q ≤ l.length ∧ X.length = l.length ∧ i = .int .i64 q ∧ kk = .int .i64 (a1 + totP (l.take q)) ∧ Aside0 (heldP a1 (X.take q) (a1 + totP (l.take q)) ∧ X.drop q = l.drop q) ∧ Aside0 (Kd.S k47S 47 wr w0.heap.size ok (.slice A l.length c) X) ∧ Aside0 (Below w0.heap.size w0 wr) ∧ Aside0 (Kept w wr ok)) (fun _ i _ => l.length - (intOf i).toNat)
  case atStart => exact ⟨0, l, Nat.zero_le _, rfl, rfl, by simp [totP], ⟨(Int.add_zero a1).symm ▸ rfl, rfl⟩, HS, HB0, ⟨Kept.refl _ _⟩⟩
  case round =>
    obtain ⟨q, X, hq, hX, rfl, rfl, HF, HX, HB, HK⟩ := hrel
    by_cases hlt : q < l.length
    · obtain ⟨g, cap, hv, hgw, hgl, _⟩ := Kd.S_form HX.out (by omega)
      rw [hX] at hv
      injection hv with hv1 hv2 hv3
      subst hv1
      subst hv3
      obtain ⟨oki, Ad, cd, hc0, hc1, hf0, hoki, hmk⟩ := port_mark HX.out q hlt
      have hrd := drop_rd47 HF.out.2 hlt (by omega)
      have htk := take47 l q hlt
      have hok := (Kd.S_R HX.out).1 g rfl
      rw [hrd] at hc0 hc1 hmk
      obtain ⟨P, hP⟩ : ∃ P, rd_T47 l (q : Int) = P := ⟨_, rfl⟩
      obtain ⟨N, L⟩ := P
      rw [hP] at hc0 hc1 hmk htk
      dsimp only at hc0 hc1 hmk
      have htt := totP_take l (q + 1)
      rw [htk, totP_snoc] at htt
      dsimp only at htt
      have hts : totP (l.take (q + 1)) = totP (l.take q) + (1 + totM L) := by rw [htk, totP_snoc]
      obtain ⟨kq, hkq⟩ : ∃ kq : Int, a1 + totP (l.take q) = kq := ⟨_, rfl⟩
      have hF1 := HF.out.1
      rw [hkq] at hF1 ⊢
      have hk0 : 0 ≤ kq := by have := H0.out; omega
      have hk1 : kq + 1 + totM L ≤ 1000000000 := by have := H1.out; omega
      have hw1 := wrapI kq hk0 (by omega)
      obtain ⟨hR3, hbk⟩ := hmk kq
      have HR3 := mk_ hR3
      have HBK := mk_ hbk
      have HFF := mk_ (And.intro hF1 (And.intro HF.out.2 (And.intro hts hkq)))
      have HNM := mk_ (And.intro hk0 (And.intro hk1 (show totM L ≤ totP l from by omega)))
      have HOI := mk_ (And.intro hok (And.intro hoki hgw))
      have HQ := mk_ (show q + 1 ≤ l.length from hlt)
      have HXL := mk_ hX
      clear hR3 hbk hF1 hts hkq hk0 hk1 hmk htt htk hP hrd hok hoki hgw hgl hv2 hX
      go_wp2_with (go_at_call 56; (with_reducible refine (markMailS_apart kf (.slice Ad L.length cd) L (kq + 1) oki w0 _ ?s1 ?s2 ?s3 ?s4 ?s5).mono ?_); (case s1 => exact bs_ HB.out HOI.out.2.2); (case s2 => exact HR3.out); (case s3 => have := HNM.out.1; omega); (case s4 => exact HNM.out.2.1); (case s5 => exact fun D m h1 h2 h3 => HMB.out D m (Nat.le_trans h1 HNM.out.2.2) h2 h3); rintro e w4 ⟨rfl, ⟨l', hl', hh', ho⟩, hb, hk⟩; have HS4 := mk_ (HBK.out w4 l' hk ho); have HB4 := mk_ hb; have HH4 := mk_ hh'; have HK4 := mk_ (Kept.then_ (Kept.setCell HK.out (.inl HOI.out.1) _) hk (fun k hk2 => .inl (HOI.out.2.1 k hk2).1)); clear ho hb hk hl' hh')
      have hq9 : q ≤ 1000000000 := by have h1_ := len_totP l; have h2_ := H1.out; have h3_ := H0.out; have h4_ := HQ.out; omega
      go_roundw
      case rel =>
        obtain ⟨f1, f2, f5, f6⟩ := HFF.out
        have hXL := HXL.out
        have hQ := HQ.out
        have e : kq + 1 + (totM L : Int) = a1 + totP (l.take (q + 1)) := by rw [f5]; omega
        refine ⟨q + 1, X.set q ⟨kq, l'⟩, hQ, by rw [List.length_set]; exact hXL, by rw [wrap_next q hq9], by rw [e], ⟨?_, by rw [set_drop]; exact drop_next f2⟩, HS4, HB4, HK4⟩
        rw [set_take X q _ (by omega), ← e]
        exact heldP_snoc (x := ⟨kq, l'⟩) f1 rfl HH4.out
      case measure => have h2_ := HQ.out; rw [wrap_next q hq9]; simp only [intOf, Int.toNat_natCast]; omega
    · obtain rfl : q = l.length := by omega
      have HF2 := HF.out
      rw [List.take_length] at HF2
      rw [show X.take l.length = X from by rw [← hX, List.take_length]] at HF2
      have HF3 := mk_ HF2
      rw [List.take_length]
      have HXL := mk_ hX
      clear HF2 HF hX
      go_wp2
      go_ret
      exact ⟨rfl, ⟨X, HXL.out, HF3.out.1, HX.out⟩, HB.out, HK.out⟩
/-! ### the law's calls over ports -/
theorem mark47_at (kf : Nat) (A : Option Addr) (n c : Nat) (l : List S47) (t : Int) (ok : Nat → Prop) (w0 w : World) (hB : Below w0.heap.size w0 w) (hn : n = l.length) (h : Kd.S k47S 47 w w0.heap.size ok (.slice A n c) l) (ht : 1 + (totP l : Int) = t) (h1 : t ≤ 1000000000)
    (hb : ∀ (D : List Int) (m : Int), D.length ≤ totP l → 0 ≤ m → m + D.length ≤ 1000000000 → ∃ r, laws_markByteS.f kf D m = some (m + D.length, r) ∧ r.length = D.length ∧ heldB m r) :
    Calls Try.prog 20 #[.slice A n c, .int .i64 1] w fun e w' => e = .returned (.int .i64 t) ∧ (∃ l', l'.length = n ∧ heldP 1 l' t ∧ Kd.S k47S 47 w' w0.heap.size ok (.slice A n c) l') ∧ Below w0.heap.size w0 w' ∧ Kept w w' ok := by
  subst ht
  subst hn
  exact markPortS_apart kf _ l 1 ok w0 w hB h (by omega) h1 hb
theorem eq47_at (k : Nat) (A0 : Option Addr) (n0 c0 : Nat) (l : List S47) (A1 : Option Addr) (n1 c1 : Nat) (w : World) (h0 : n0 = l.length) (h1 : n1 = l.length) (hr0 : Kd.C k47 w A0 l.length l) (hc0 : l.length ≤ c0) (hr1 : Kd.C k47 w A1 l.length l) (hc1 : l.length ≤ c1) (h : laws_eqPortS.f k l l = some true) :
    Calls Try.prog 15 #[.slice A0 n0 c0, .slice A1 n1 c1] w fun e w' => e = .returned (.bool true) ∧ Below w.heap.size w w' := by
  subst h0
  subst h1
  exact laws_eqPortS.calls k A0 c0 l A1 c1 l true w hr0 hc0 hr1 hc1 h
theorem held47_at (k : Nat) (A : Option Addr) (n c : Nat) (l : List S47) (t : Int) (w : World) (hn : n = l.length) (hr : Kd.C k47 w A l.length l) (hc : l.length ≤ c) (h : laws_heldPortS.f k l 1 = some t) :
    Calls Try.prog 21 #[.slice A n c, .int .i64 1] w fun e w' => e = .returned (.int .i64 t) ∧ Below w.heap.size w w' := by
  subst hn
  refine (laws_heldPortS.calls k A c l 1 t w hr hc h).mono ?_
  rintro e w' ⟨he, hd⟩
  exact ⟨he, hd.below⟩
theorem topS_at (k : Nat) (A0 : Option Addr) (c0 : Nat) (l0 : List S64) (L : List S47) (w : World) (hr0 : Kd.C k64 w A0 l0.length l0) (hl : l0.length ≤ 1048576) (hk : ∀ x ∈ l0, laws_toPort.f k x.f0 x.f1 = some (x.f0, x.f1.map convM_)) (hL : l0.map convP_ = L) :
    Calls Try.prog 13 #[.slice A0 l0.length c0] w fun e w' => ∃ (A1 : Option Addr) (c1 : Nat), e = .returned (.slice A1 L.length c1) ∧ Kd.S k47S 47 w' w.heap.size (fun _ => True) (.slice A1 L.length c1) L ∧ Below w.heap.size w w' := by
  subst hL
  refine (toPortS_apart k A0 c0 l0 w hr0 hl hk).mono ?_
  rintro e w' ⟨v0, rfl, h, hb⟩
  obtain ⟨A1, c1, rfl⟩ := Kd.S_slice h
  exact ⟨A1, c1, rfl, h, hb⟩
end Go.Proofs.Ytkkibccnpkbbjaa.MFnExactPortHear
