/- Functions that the law FnExactPortTake reaches, typed by hand: marks in rows that lie apart, and the walk of the law FnExactPortTake; no conditions but those that each theorem states. -/
import Derived.Test.YtkkibccnpkbbjaaMFnExactPortTakex8
import Derived.StillTailTactics
import Derived.IntWalk
import Derived.Deep.RegionHeld3
namespace Go.Proofs.Ytkkibccnpkbbjaa.MFnExactPortTake
open Go.RowKit Go.Proofs.YtkkibccnpkbbjaaV.PrintWords Go.Proofs.YtkkibccnpkbbjaaV.PrintLast Go.Proofs.YtkkibccnpkbbjaaV.PrintMore
attribute [local go_sem] max2_int min2_int max_two min_two max_three min_three max_four min_four
set_option linter.unusedVariables false
set_option linter.unusedSimpArgs false
/-! ### laws.toPortS: rows apart -/
theorem port_cells {W : World} {base g n cap : Nat} {ok : Nat → Prop} {l : List S47} (h : Kd.S k47S 47 W base ok (.slice (some ⟨g, 0, none⟩) n cap) l) (i : Nat) (hi : i < n) :
    ∃ v, W.cell? ⟨g, i * 2, none⟩ = some (.int .i64 (rd_T47 l (i : Int)).f0) ∧ W.cell? ⟨g, i * 2 + 1, none⟩ = some v ∧ W.frozen? ⟨g, i * 2, none⟩ = false ∧ W.frozen? ⟨g, i * 2 + 1, none⟩ = false := by
  obtain ⟨A, c, _, h1, h2, h3, h4, _⟩ := take_cut h i hi
  exact ⟨_, h1, h2, h3, h4⟩
theorem port_put {W : World} {base g n cap B : Nat} {l : List S47} (h : Kd.S k47S 47 W base (fun k => True ∧ ¬ B ≤ k) (.slice (some ⟨g, 0, none⟩) n cap) l) (i : Nat) (hi : i < n) {v : Value} {L : List S40} (hr : Kd.S k40 40 W base (fun k => B ≤ k) v L) (N : Int) :
    Kd.S k47S 47 ((W.setCell ⟨g, i * 2, none⟩ (.int .i64 N)).setCell ⟨g, i * 2 + 1, none⟩ v) base (fun _ => True) (.slice (some ⟨g, 0, none⟩) n cap) (l.set i ⟨N, L⟩) ∧ W.grownBy ((W.setCell ⟨g, i * 2, none⟩ (.int .i64 N)).setCell ⟨g, i * 2 + 1, none⟩ v) (some g) := by
  have hg : ¬ B ≤ g := ((Kd.S_R h).1 g rfl).2
  obtain ⟨oki, c, hcl, hM, hcc, hfr, hoki, hH⟩ := Kd.S_elem h z47 (i : Int) (by omega) (by omega)
  have hM' : k47S.M W base oki (rd_T47 l (i : Int)) c := hM
  obtain ⟨v1, rfl, g1⟩ := k47S_openM hM'
  have := Kd.S_seg (okg := fun k => B ≤ k) hH (by omega) (by omega) (seg := [.int .i64 N, v]) (j := 0) (Nat.le_refl 2) (x' := ⟨N, L⟩) (okp := fun k => B ≤ k) (k47S_mkM _ _ _ ⟨N, L⟩ hr) (fun k hk => .inr hk) (fun k hk => ⟨trivial, fun e => by rw [e] at hk; exact hg hk⟩)
  rw [Int.toNat_natCast] at this
  exact this
def convM_ (x : S105) : S40 := ⟨x.f0, x.f1, x.f2, x.f3⟩
def convP_ (x : S64) : S47 := ⟨x.f0, x.f1.map convM_⟩
def tp (l : List S64) : Nat → List S47
  | 0 => List.replicate l.length z47
  | i + 1 => (tp l i).set i (convP_ (rd_T64 l (i : Int)))
theorem tp_length (l : List S64) (i : Nat) : (tp l i).length = l.length := by
  induction i with
  | zero => simp [tp]
  | succ i ih => simp [tp, ih]
theorem tp_get (l : List S64) (i : Nat) (hi : i ≤ l.length) : ∀ j, j < i → (tp l i)[j]? = some (convP_ (rd_T64 l (j : Int))) := by
  induction i with
  | zero => intro j hj; omega
  | succ i ih =>
    intro j hj
    rw [tp]
    by_cases h : j = i
    · subst h
      rw [List.getElem?_set_self (by rw [tp_length]; omega)]
    · rw [List.getElem?_set_ne (by omega)]
      exact ih (by omega) j (by omega)
theorem tp_all (l : List S64) : tp l l.length = l.map convP_ := by
  apply List.ext_getElem?
  intro j
  by_cases h : j < l.length
  · rw [tp_get l l.length (Nat.le_refl _) j h, List.getElem?_map, List.getElem?_eq_getElem h]
    unfold rd_T64
    rw [Int.toNat_natCast, List.getD_eq_getElem?_getD, List.getElem?_eq_getElem h]
    rfl
  · rw [List.getElem?_eq_none (by rw [tp_length]; omega), List.getElem?_eq_none (by rw [List.length_map]; omega)]
set_option maxHeartbeats 2000000 in
set_option maxRecDepth 100000 in
theorem toPortS_apart (k : Nat) (A0 : Option Addr) (c0 : Nat) (l0 : List S64) (w : World) (hr0 : Kd.C k64 w A0 l0.length l0) (hl : l0.length ≤ 1048576) (hk : ∀ x ∈ l0, laws_toPort.f k x.f0 x.f1 = some (x.f0, x.f1.map convM_)) :
    Calls Try.prog 13 #[.slice A0 l0.length c0] w fun e w' => ∃ v0_ : Value, e = .returned (v0_) ∧ Kd.S k47S 47 w' w.heap.size (fun _ => True) v0_ (l0.map convP_) ∧ Below w.heap.size w w' := by
  have hu64 := Try.underlying64
  have hu47 := Try.underlying47
  have HI47 := mk_ info47
  have HR := mk_ hr0
  have HL := mk_ hl
  have HK := mk_ hk
  clear hr0 hl hk
  go_enter Try.func13, Try.ntmps13
  go_wp2_with (first | ((with_reducible refine gate_dst (N := 7) rfl ?_); refine Kd.S_make k47S (w0 := w) w.heap.size 47 rfl (N := 7) rfl 25 _ _ rfl (l0.length : Int) rfl rfl Try.underlying25 (.agg #[(.int .i64 0), (.slice none 0 0)]) 32 HI47.out rfl (by decide) (by omega) z47 (ok := fun _ => True) (okp := fun _ => True) (k47S_mkM _ _ _ z47 (Kd.S_nil _ _ _ _ _)) (fun _ hk => hk) trivial (Int.natCast_nonneg _) (by have := HL.out; rw [Int.toNat_natCast]; omega) (Below.refl _ _) (Nat.le_refl _) ?_; intro v1 w1 ho hb hg hnew; rw [Int.toNat_natCast] at ho; obtain ⟨A1, c1, hv1⟩ := Kd.S_slice ho; rw [List.length_replicate] at hv1; subst hv1; have HO := mk_ ho; have HB := mk_ hb; clear ho hb hg hnew))
  go_loopw [4] (fun i wr => ∃ q : Nat, q ≤ l0.length ∧ i = .int .i64 q ∧ Aside0 (Kd.S k47S 47 wr w.heap.size (fun _ => True) (.slice A1 l0.length c1) (tp l0 q)) ∧ Aside0 (Below w.heap.size w wr)) (fun i _ => l0.length - (intOf i).toNat)
  case atStart => exact ⟨0, Nat.zero_le _, rfl, HO, HB⟩
  case round =>
    obtain ⟨q, hq, rfl, HO, HB⟩ := hrel
    by_cases hlt : q < l0.length
    · obtain ⟨ad, A2, c2, e, hx0, hx1, hx2, hx3⟩ := at_T64 HR.out (q : Int) (by omega) (by omega)
      cases e
      replace hx0 := (HB.out.cell (lc_ w _ hx0)).trans hx0
      replace hx1 := (HB.out.cell (lc_ w _ hx1)).trans hx1
      rw [Int.toNat_natCast] at hx0 hx1
      have HX2 := mk_ hx2
      have HX3 := mk_ (Kd.C_below hx3 HB.out)
      have hmem : rd_T64 l0 (q : Int) ∈ l0 := by
        unfold rd_T64
        rw [Int.toNat_natCast, List.getD_eq_getElem?_getD, List.getElem?_eq_getElem hlt]
        exact List.getElem_mem hlt
      obtain ⟨R2, hR2⟩ : ∃ R2, (rd_T64 l0 (q : Int)).f1.map convM_ = R2 := ⟨_, rfl⟩
      have HKQ := mk_ (HK.out _ hmem)
      rw [hR2] at HKQ
      have HTP := mk_ (show (tp l0 q).set q ⟨(rd_T64 l0 (q : Int)).f0, R2⟩ = tp l0 (q + 1) from by rw [← hR2]; rfl)
      obtain ⟨g1, cap1, hv, hgw, hgl, _⟩ := Kd.S_form HO.out (by rw [tp_length]; omega)
      rw [tp_length] at hv
      injection hv with hv1 hv2 hv3
      subst hv1
      have HQ1 := mk_ (show q + 1 ≤ l0.length from hlt)
      have HG1 := mk_ hgw
      clear hgw
      clear hx2 hx3 hmem hv2 hv3 hgl hR2
      go_wp2_with (go_at_call 42; (with_reducible refine (laws_toPort.calls k (rd_T64 l0 (q : Int)).f0 _ _ (rd_T64 l0 (q : Int)).f1 _ _ _ ?s1 ?s2 HKQ.out).mono ?_); (case s1 => exact HX3.out); (case s2 => exact HX2.out); rintro e w2 ⟨v2, rfl, ho, hb⟩; have HO1 := mk_ (Kd.S_mono (Kd.S_below (Kd.S_elder HO.out) hb) (fun k hk => (⟨trivial, by have := hk.2; omega⟩ : True ∧ ¬ wr.heap.size ≤ k))); obtain ⟨v3, hy0, hy1, hy2, hy3⟩ := port_cells HO1.out q hlt; have HV := mk_ (Kd.S_lower (Kd.S_mono (Kd.S_fresh ho) (fun k hk => hk.2)) HB.out.size); obtain ⟨A5, c5, hv5⟩ := Kd.S_slice ho; subst hv5; have HB2 := mk_ (below_step HB.out hb); clear ho hb)
      have hput := port_put HO1.out q hlt HV.out (rd_T64 l0 (q : Int)).f0
      go_roundw
      case rel => exact ⟨q + 1, HQ1.out, by rw [wrap_next q (by have := HL.out; have := HQ1.out; omega)], ⟨by rw [← HTP.out]; exact hput.1⟩, ⟨bs_ (bs_ HB2.out HG1.out) HG1.out⟩⟩
      case measure => have h1_ := HL.out; have h2_ := HQ1.out; rw [wrap_next q (by omega)]; simp only [intOf, Int.toNat_natCast]; omega
    · obtain rfl : q = l0.length := by omega
      have HO2 := HO.out
      rw [tp_all] at HO2
      have HO3 := mk_ HO2
      clear HO2 HO
      go_wp2
      go_ret
      exact ⟨_, rfl, HO3.out, HB.out⟩
/-! ### marks in rows that lie apart -/
def heldB (m : Int) (D : List Int) : Prop := ∀ j : Nat, j < D.length → D[j]? = some ((m + j) % 256)
def heldM : Int → List S40 → Int → Prop
  | k, [], k' => k = k'
  | k, x :: xs, k' => x.f0 = k ∧ x.f1 = k + 1 ∧ x.f2 = k + 2 ∧ heldB (k + 3) x.f3 ∧ heldM (k + 3 + x.f3.length) xs k'
theorem heldM_snoc {k kq : Int} {A : List S40} {x : S40} (h : heldM k A kq) (h0 : x.f0 = kq) (h1 : x.f1 = kq + 1) (h2 : x.f2 = kq + 2) (h3 : heldB (kq + 3) x.f3) : heldM k (A ++ [x]) (kq + 3 + x.f3.length) := by
  induction A generalizing k with
  | nil =>
    have h : k = kq := h
    subst h
    exact ⟨h0, h1, h2, h3, rfl⟩
  | cons y A ih => exact ⟨h.1, h.2.1, h.2.2.1, h.2.2.2.1, ih h.2.2.2.2⟩
def totM (l : List S40) : Nat := (l.map fun x => 3 + x.f3.length).sum
theorem totM_snoc (l : List S40) (x : S40) : totM (l ++ [x]) = totM l + (3 + x.f3.length) := by simp [totM]
theorem totM_take (l : List S40) (q : Nat) : totM (l.take q) ≤ totM l := by
  have h := congrArg totM (List.take_append_drop q l)
  unfold totM at h ⊢
  rw [List.map_append, List.sum_append] at h
  omega
theorem set_take {α : Type} (X : List α) (q : Nat) (x : α) (h : q < X.length) : (X.set q x).take (q + 1) = X.take q ++ [x] := by
  rw [List.take_succ_eq_append_getElem (by rw [List.length_set]; exact h), List.take_set_of_le (Nat.le_refl q)]
  simp
theorem set_drop {α : Type} (X : List α) (q : Nat) (x : α) : (X.set q x).drop (q + 1) = X.drop (q + 1) := by
  rw [List.drop_set_of_lt (Nat.lt_succ_self q)]
theorem drop_rd40 {X l : List S40} {q : Nat} (h : X.drop q = l.drop q) (hl : q < l.length) (hX : q < X.length) : rd_T40 X (q : Int) = rd_T40 l (q : Int) := by
  have := congrArg (fun y => y[0]?) h
  simp only [List.getElem?_drop, Nat.add_zero] at this
  unfold rd_T40
  rw [Int.toNat_natCast, List.getD_eq_getElem?_getD, List.getD_eq_getElem?_getD, this]
theorem drop_next {α : Type} {X l : List α} {q : Nat} (h : X.drop q = l.drop q) : X.drop (q + 1) = l.drop (q + 1) := by
  rw [← List.drop_drop, ← List.drop_drop, h]
/-- Element q of a row of messages: its cells, its bytes; and the row with the element marked, once its bytes are. -/
theorem mail_mark {W : World} {base g n cap : Nat} {ok : Nat → Prop} {X : List S40} (h : Kd.S k40 40 W base ok (.slice (some ⟨g, 0, none⟩) n cap) X) (q : Nat) (hq : q < n) :
    ∃ (oki : Nat → Prop) (A : Option Addr) (c : Nat), W.cell? ⟨g, q * 4, none⟩ = some (.int .i64 (rd_T40 X (q : Int)).f0) ∧ W.cell? ⟨g, q * 4 + 1, none⟩ = some (.int .i64 (rd_T40 X (q : Int)).f1) ∧ W.cell? ⟨g, q * 4 + 2, none⟩ = some (.int .i64 (rd_T40 X (q : Int)).f2) ∧ W.cell? ⟨g, q * 4 + 3, none⟩ = some (.slice A (rd_T40 X (q : Int)).f3.length c) ∧
      W.frozen? ⟨g, q * 4, none⟩ = false ∧ W.frozen? ⟨g, q * 4 + 1, none⟩ = false ∧ W.frozen? ⟨g, q * 4 + 2, none⟩ = false ∧ (∀ k, oki k → ok k ∧ k ≠ g) ∧
      ∀ k0 k1 k2 : Int, (Kd.int .u8).R 5 (((W.setCell ⟨g, q * 4, none⟩ (.int .i64 k0)).setCell ⟨g, q * 4 + 1, none⟩ (.int .i64 k1)).setCell ⟨g, q * 4 + 2, none⟩ (.int .i64 k2)) base oki (.slice A (rd_T40 X (q : Int)).f3.length c) (rd_T40 X (q : Int)).f3 ∧
        ∀ (w4 : World) (D : List Int) (okd : Nat → Prop), Kept (((W.setCell ⟨g, q * 4, none⟩ (.int .i64 k0)).setCell ⟨g, q * 4 + 1, none⟩ (.int .i64 k1)).setCell ⟨g, q * 4 + 2, none⟩ (.int .i64 k2)) w4 (fun k => oki k) → (Kd.int .u8).R 5 w4 base okd (.slice A (rd_T40 X (q : Int)).f3.length c) D →
          Kd.S k40 40 w4 base ok (.slice (some ⟨g, 0, none⟩) n cap) (X.set q ⟨k0, k1, k2, D⟩) := by
  obtain ⟨oki, c, hcl, hM, hcc, hfr, hoki, hH⟩ := Kd.S_elem h z40 (q : Int) (by omega) (by omega)
  have hM' : k40.M W base oki (rd_T40 X (q : Int)) c := hM
  obtain ⟨v3, rfl, g3⟩ := k40_openM hM'
  obtain ⟨A, c3, hv3⟩ := Kd.R_slice g3
  subst hv3
  rw [Int.toNat_natCast] at hcc hfr
  refine ⟨oki, A, c3, hcc 0 _ rfl, hcc 1 _ rfl, hcc 2 _ rfl, hcc 3 _ rfl, hfr 0, hfr 1, hfr 2, hoki, fun k0 k1 k2 => ?_⟩
  have hne : ∀ k, oki k → k ≠ g := fun k hk => (hoki k hk).2
  have hg3 := Kd.R_far (p := ⟨g, q * 4 + 2, none⟩) (Kd.R_far (p := ⟨g, q * 4 + 1, none⟩) (Kd.R_far (p := ⟨g, q * 4, none⟩) g3 hne (.int .i64 k0)) hne (.int .i64 k1)) hne (.int .i64 k2)
  refine ⟨hg3, fun w4 D okd hk hD => ?_⟩
  have hs := (Kd.H_seg hH (by omega) (by omega) (seg := [.int .i64 k0, .int .i64 k1, .int .i64 k2]) (j := 0) (Nat.le_succ 3) (fun u hu => by
    rcases List.mem_cons.1 hu with rfl | hu
    · rfl
    · rcases List.mem_cons.1 hu with rfl | hu
      · rfl
      · rw [List.mem_singleton.1 hu]; rfl)).1
  rw [Int.toNat_natCast] at hs
  have hs2 : Kd.H k40 40 (((W.setCell ⟨g, q * 4, none⟩ (.int .i64 k0)).setCell ⟨g, q * 4 + 1, none⟩ (.int .i64 k1)).setCell ⟨g, q * 4 + 2, none⟩ (.int .i64 k2)) base ok (.slice (some ⟨g, 0, none⟩) n cap) X (q : Int) oki [.int .i64 k0, .int .i64 k1, .int .i64 k2, .slice A (rd_T40 X (q : Int)).f3.length c3] := hs
  have hs3 := Kd.H_kept hs2 hk (fun k _ h2 h3 => h2 h3)
  have hb := Kd.H_back hs3 (x' := ⟨k0, k1, k2, D⟩) (okp := fun k => some k = (Value.slice A (rd_T40 X (q : Int)).f3.length c3).ownBlock) (k40_mkM _ _ _ ⟨k0, k1, k2, D⟩ (Kd.R_tight rfl hD)) (fun k hk2 => g3.1 k hk2.symm)
  rw [Int.toNat_natCast] at hb
  exact hb
theorem wrapI (n : Int) (h : 0 ≤ n) (h' : n ≤ 1000000000) : wrap64 (n + 1) = n + 1 := by
  unfold wrap64
  omega
theorem len_totM (l : List S40) : l.length ≤ totM l := by
  induction l with
  | nil => simp
  | cons x l ih =>
    have : totM (x :: l) = 3 + x.f3.length + totM l := by simp [totM]
    rw [List.length_cons, this]
    omega
set_option maxHeartbeats 4000000 in
set_option maxRecDepth 100000 in
theorem markMailS_apart (kf : Nat) (u : Value) (l : List S40) (a1 : Int) (ok : Nat → Prop) (w0 w : World) (hB : Below w0.heap.size w0 w) (h : Kd.S k40 40 w w0.heap.size ok u l) (h0 : 0 ≤ a1) (h1 : a1 + totM l ≤ 1000000000)
    (hb : ∀ (D : List Int) (m : Int), D.length ≤ totM l → 0 ≤ m → m + D.length ≤ 1000000000 → ∃ r, laws_markByteS.f kf D m = some (m + D.length, r) ∧ r.length = D.length ∧ heldB m r) :
    Calls Try.prog 56 #[u, .int .i64 a1] w fun e w' => e = .returned (.int .i64 (a1 + totM l)) ∧ (∃ l', l'.length = l.length ∧ heldM a1 l' (a1 + totM l) ∧ Kd.S k40 40 w' w0.heap.size ok u l') ∧ Below w0.heap.size w0 w' ∧ Kept w w' ok := by
  have hu40 := Try.underlying40
  have HS := mk_ h
  have H0 := mk_ h0
  have H1 := mk_ h1
  have HMB := mk_ hb
  have HB0 := mk_ hB
  obtain ⟨A, c, hv⟩ := Kd.S_slice h
  subst hv
  have HMX := mk_ (Kd.S_reads' h).2.2.2.1
  clear h h0 h1 hb hB
  go_enter Try.func56, Try.ntmps56
  go_wp2
  go_loopw [1, 5] (fun kk i wr => ∃ (q : Nat) (X : List S40), q ≤ l.length ∧ X.length = l.length ∧ i = .int .i64 q ∧ kk = .int .i64 (a1 + totM (l.take q)) ∧ Aside0 (heldM a1 (X.take q) (a1 + totM (l.take q)) ∧ X.drop q = l.drop q) ∧ Aside0 (Kd.S k40 40 wr w0.heap.size ok (.slice A l.length c) X) ∧ Aside0 (Below w0.heap.size w0 wr) ∧ Aside0 (Kept w wr ok)) (fun _ i _ => l.length - (intOf i).toNat)
  case atStart => exact ⟨0, l, Nat.zero_le _, rfl, rfl, by simp [totM], ⟨(Int.add_zero a1).symm ▸ rfl, rfl⟩, HS, HB0, ⟨Kept.refl _ _⟩⟩
  case round =>
    obtain ⟨q, X, hq, hX, rfl, rfl, HF, HX, HB, HK⟩ := hrel
    by_cases hlt : q < l.length
    · obtain ⟨g, cap, hv, hgw, hgl, _⟩ := Kd.S_form HX.out (by omega)
      rw [hX] at hv
      injection hv with hv1 hv2 hv3
      subst hv1
      subst hv3
      obtain ⟨oki, Ad, cd, hc0, hc1, hc2, hc3, hf0, hf1, hf2, hoki, hmk⟩ := mail_mark HX.out q hlt
      have hrd := drop_rd40 HF.out.2 hlt (by omega)
      have htk := take40 l q hlt
      have hok := (Kd.S_R HX.out).1 g rfl
      rw [hrd] at hc0 hc1 hc2 hc3 hmk
      obtain ⟨P, hP⟩ : ∃ P, rd_T40 l (q : Int) = P := ⟨_, rfl⟩
      obtain ⟨b0, b1, b2, D⟩ := P
      rw [hP] at hc0 hc1 hc2 hc3 hmk htk
      dsimp only at hc0 hc1 hc2 hc3 hmk
      have htt := totM_take l (q + 1)
      rw [htk, totM_snoc] at htt
      dsimp only at htt
      have hts : totM (l.take (q + 1)) = totM (l.take q) + (3 + D.length) := by rw [htk, totM_snoc]
      obtain ⟨kq, hkq⟩ : ∃ kq : Int, a1 + totM (l.take q) = kq := ⟨_, rfl⟩
      have hF1 := HF.out.1
      rw [hkq] at hF1 ⊢
      have hk0 : 0 ≤ kq := by have := H0.out; omega
      have hk1 : kq + 3 + D.length ≤ 1000000000 := by have := H1.out; omega
      have hw1 := wrapI kq hk0 (by omega)
      have hw2 := wrapI (kq + 1) (by omega) (by omega)
      have hw3 := wrapI (kq + 1 + 1) (by omega) (by omega)
      obtain ⟨rb, hr1, hr2, hr3⟩ := HMB.out D (kq + 1 + 1 + 1) (by omega) (by omega) (by omega)
      obtain ⟨hR3, hbk⟩ := hmk kq (kq + 1) (kq + 1 + 1)
      have HR3 := mk_ hR3
      have HBK := mk_ hbk
      have HR1 := mk_ hr1
      have HFF := mk_ (And.intro hF1 (And.intro HF.out.2 (And.intro hr2 (And.intro hr3 (And.intro hts hkq)))))
      have HNM := mk_ (And.intro hk0 hk1)
      have HOI := mk_ (And.intro hok (And.intro hoki hgw))
      have HQ := mk_ (show q + 1 ≤ l.length from hlt)
      have HXL := mk_ hX
      clear hR3 hbk hr1 hF1 hr2 hr3 hts hkq hk0 hk1 hmk htt htk hP hrd hok hoki hgw hgl hv2 hX
      go_wp2_with (go_at_call 60; (with_reducible refine (laws_markByteS.calls kf (fun k => oki k) (.slice Ad D.length cd) D (kq + 1 + 1 + 1) _ rb w0 _ ?s1 ?s2 HR1.out).mono ?_); (case s1 => exact bs_ (bs_ (bs_ HB.out HOI.out.2.2) HOI.out.2.2) HOI.out.2.2); (case s2 => exact HR3.out); rintro e w4 ⟨rfl, ho, hb, hk⟩; have HS4 := mk_ (HBK.out w4 rb _ hk ho); have HB4 := mk_ hb; have HK4 := mk_ (Kept.then_ (Kept.setCell (Kept.setCell (Kept.setCell HK.out (.inl HOI.out.1) _) (.inl HOI.out.1) _) (.inl HOI.out.1) _) hk (fun k hk2 => .inl (HOI.out.2.1 k hk2).1)); clear ho hb hk)
      have hq9 : q ≤ 1000000000 := by have h1_ := len_totM l; have h2_ := H1.out; have h3_ := H0.out; have h4_ := HQ.out; omega
      go_roundw
      case rel =>
        obtain ⟨f1, f2, f3, f4, f5, f6⟩ := HFF.out
        have hXL := HXL.out
        have hQ := HQ.out
        have e : kq + 1 + 1 + 1 + (D.length : Int) = a1 + totM (l.take (q + 1)) := by rw [f5]; omega
        refine ⟨q + 1, X.set q ⟨kq, kq + 1, kq + 1 + 1, rb⟩, hQ, by rw [List.length_set]; exact hXL, by rw [wrap_next q hq9], by rw [e], ⟨?_, by rw [set_drop]; exact drop_next f2⟩, HS4, HB4, HK4⟩
        rw [set_take X q _ (by omega), ← e, ← f3]
        have := heldM_snoc (x := ⟨kq, kq + 1, kq + 1 + 1, rb⟩) f1 rfl rfl (by show kq + 1 + 1 = kq + 2; omega) (by rw [show kq + 3 = kq + 1 + 1 + 1 by omega]; exact f4)
        rw [show kq + 3 = kq + 1 + 1 + 1 by omega] at this
        exact this
      case measure => have h2_ := HQ.out; rw [wrap_next q hq9]; simp only [intOf, Int.toNat_natCast]; omega
    · obtain rfl : q = l.length := by omega
      have HF2 := HF.out
      rw [List.take_length] at HF2
      rw [show X.take l.length = X from by rw [← hX, List.take_length]] at HF2
      have HF3 := mk_ HF2
      rw [List.take_length]
      have HXL := mk_ hX
      clear HF2 HF hX
      go_wp2
      go_ret
      exact ⟨rfl, ⟨X, HXL.out, HF3.out.1, HX.out⟩, HB.out, HK.out⟩
def heldP : Int → List S47 → Int → Prop
  | k, [], k' => k = k'
  | k, x :: xs, k' => x.f0 = k ∧ ∃ k1, heldM (k + 1) x.f1 k1 ∧ heldP k1 xs k'
theorem heldP_snoc {k kq k1 : Int} {A : List S47} {x : S47} (h : heldP k A kq) (h0 : x.f0 = kq) (h1 : heldM (kq + 1) x.f1 k1) : heldP k (A ++ [x]) k1 := by
  induction A generalizing k with
  | nil =>
    have h : k = kq := h
    subst h
    exact ⟨h0, k1, h1, rfl⟩
  | cons y A ih =>
    obtain ⟨h2, k2, h3, h4⟩ := h
    exact ⟨h2, k2, h3, ih h4⟩
def totP (l : List S47) : Nat := (l.map fun x => 1 + totM x.f1).sum
theorem totP_snoc (l : List S47) (x : S47) : totP (l ++ [x]) = totP l + (1 + totM x.f1) := by simp [totP]
theorem totP_take (l : List S47) (q : Nat) : totP (l.take q) ≤ totP l := by
  have h := congrArg totP (List.take_append_drop q l)
  unfold totP at h ⊢
  rw [List.map_append, List.sum_append] at h
  omega
theorem len_totP (l : List S47) : l.length ≤ totP l := by
  induction l with
  | nil => simp
  | cons x l ih =>
    have : totP (x :: l) = 1 + totM x.f1 + totP l := by simp [totP]
    rw [List.length_cons, this]
    omega
theorem drop_rd47 {X l : List S47} {q : Nat} (h : X.drop q = l.drop q) (hl : q < l.length) (hX : q < X.length) : rd_T47 X (q : Int) = rd_T47 l (q : Int) := by
  have := congrArg (fun y => y[0]?) h
  simp only [List.getElem?_drop, Nat.add_zero] at this
  unfold rd_T47
  rw [Int.toNat_natCast, List.getD_eq_getElem?_getD, List.getD_eq_getElem?_getD, this]
/-- Element q of ports: its cells, its row; and the ports with the element marked, once its row is. -/
theorem port_mark {W : World} {base g n cap : Nat} {ok : Nat → Prop} {X : List S47} (h : Kd.S k47S 47 W base ok (.slice (some ⟨g, 0, none⟩) n cap) X) (q : Nat) (hq : q < n) :
    ∃ (oki : Nat → Prop) (A : Option Addr) (c : Nat), W.cell? ⟨g, q * 2, none⟩ = some (.int .i64 (rd_T47 X (q : Int)).f0) ∧ W.cell? ⟨g, q * 2 + 1, none⟩ = some (.slice A (rd_T47 X (q : Int)).f1.length c) ∧ W.frozen? ⟨g, q * 2, none⟩ = false ∧ (∀ k, oki k → ok k ∧ k ≠ g) ∧
      ∀ k0 : Int, Kd.S k40 40 (W.setCell ⟨g, q * 2, none⟩ (.int .i64 k0)) base oki (.slice A (rd_T47 X (q : Int)).f1.length c) (rd_T47 X (q : Int)).f1 ∧
        ∀ (w4 : World) (L : List S40), Kept (W.setCell ⟨g, q * 2, none⟩ (.int .i64 k0)) w4 oki → Kd.S k40 40 w4 base oki (.slice A (rd_T47 X (q : Int)).f1.length c) L →
          Kd.S k47S 47 w4 base ok (.slice (some ⟨g, 0, none⟩) n cap) (X.set q ⟨k0, L⟩) := by
  obtain ⟨oki, c, hcl, hM, hcc, hfr, hoki, hH⟩ := Kd.S_elem h z47 (q : Int) (by omega) (by omega)
  have hM' : k47S.M W base oki (rd_T47 X (q : Int)) c := hM
  obtain ⟨v1, rfl, g1⟩ := k47S_openM hM'
  obtain ⟨A, c1, hv1⟩ := Kd.S_slice g1
  subst hv1
  rw [Int.toNat_natCast] at hcc hfr
  refine ⟨oki, A, c1, hcc 0 _ rfl, hcc 1 _ rfl, hfr 0, hoki, fun k0 => ?_⟩
  have hne : ∀ k, oki k → k ≠ g := fun k hk => (hoki k hk).2
  refine ⟨Kd.S_far (p := ⟨g, q * 2, none⟩) g1 hne (.int .i64 k0), fun w4 L hk hL => ?_⟩
  have hs := (Kd.H_seg hH (by omega) (by omega) (seg := [.int .i64 k0]) (j := 0) (Nat.le_succ 1) (fun u hu => by rw [List.mem_singleton.1 hu]; rfl)).1
  rw [Int.toNat_natCast] at hs
  have hs2 : Kd.H k47S 47 (W.setCell ⟨g, q * 2, none⟩ (.int .i64 k0)) base ok (.slice (some ⟨g, 0, none⟩) n cap) X (q : Int) oki [.int .i64 k0, .slice A (rd_T47 X (q : Int)).f1.length c1] := hs
  have hs3 := Kd.H_kept hs2 hk (fun k _ h2 h3 => h2 h3)
  have hb := Kd.H_back hs3 (x' := ⟨k0, L⟩) (okp := oki) (k47S_mkM _ _ _ ⟨k0, L⟩ hL) (fun k hk2 => hk2)
  rw [Int.toNat_natCast] at hb
  exact hb
set_option maxHeartbeats 4000000 in
set_option maxRecDepth 100000 in
theorem markPortS_apart (kf : Nat) (u : Value) (l : List S47) (a1 : Int) (ok : Nat → Prop) (w0 w : World) (hB : Below w0.heap.size w0 w) (h : Kd.S k47S 47 w w0.heap.size ok u l) (h0 : 0 ≤ a1) (h1 : a1 + totP l ≤ 1000000000)
    (hb : ∀ (D : List Int) (m : Int), D.length ≤ totP l → 0 ≤ m → m + D.length ≤ 1000000000 → ∃ r, laws_markByteS.f kf D m = some (m + D.length, r) ∧ r.length = D.length ∧ heldB m r) :
    Calls Try.prog 20 #[u, .int .i64 a1] w fun e w' => e = .returned (.int .i64 (a1 + totP l)) ∧ (∃ l', l'.length = l.length ∧ heldP a1 l' (a1 + totP l) ∧ Kd.S k47S 47 w' w0.heap.size ok u l') ∧ Below w0.heap.size w0 w' ∧ Kept w w' ok := by
  have hu47 := Try.underlying47
  have HS := mk_ h
  have H0 := mk_ h0
  have H1 := mk_ h1
  have HMB := mk_ hb
  have HB0 := mk_ hB
  obtain ⟨A, c, hv⟩ := Kd.S_slice h
  subst hv
  clear h h0 h1 hb hB
  go_enter Try.func20, Try.ntmps20
  go_wp2
  go_loopw [1, 5] (fun kk i wr => ∃ (q : Nat) (X : List S47), q ≤ l.length ∧ X.length = l.length ∧ i = .int .i64 q ∧ kk = .int .i64 (a1 + totP (l.take q)) ∧ Aside0 (heldP a1 (X.take q) (a1 + totP (l.take q)) ∧ X.drop q = l.drop q) ∧ Aside0 (Kd.S k47S 47 wr w0.heap.size ok (.slice A l.length c) X) ∧ Aside0 (Below w0.heap.size w0 wr) ∧ Aside0 (Kept w wr ok)) (fun _ i _ => l.length - (intOf i).toNat)
  case atStart => exact ⟨0, l, Nat.zero_le _, rfl, rfl, by simp [totP], ⟨(Int.add_zero a1).symm ▸ rfl, rfl⟩, HS, HB0, ⟨Kept.refl _ _⟩⟩
  case round =>
    obtain ⟨q, X, hq, hX, rfl, rfl, HF, HX, HB, HK⟩ := hrel
    by_cases hlt : q < l.length
    · obtain ⟨g, cap, hv, hgw, hgl, _⟩ := Kd.S_form HX.out (by omega)
      rw [hX] at hv
      injection hv with hv1 hv2 hv3
      subst hv1
      subst hv3
      obtain ⟨oki, Ad, cd, hc0, hc1, hf0, hoki, hmk⟩ := port_mark HX.out q hlt
      have hrd := drop_rd47 HF.out.2 hlt (by omega)
      have htk := take47 l q hlt
      have hok := (Kd.S_R HX.out).1 g rfl
      rw [hrd] at hc0 hc1 hmk
      obtain ⟨P, hP⟩ : ∃ P, rd_T47 l (q : Int) = P := ⟨_, rfl⟩
      obtain ⟨N, L⟩ := P
      rw [hP] at hc0 hc1 hmk htk
      dsimp only at hc0 hc1 hmk
      have htt := totP_take l (q + 1)
      rw [htk, totP_snoc] at htt
      dsimp only at htt
      have hts : totP (l.take (q + 1)) = totP (l.take q) + (1 + totM L) := by rw [htk, totP_snoc]
      obtain ⟨kq, hkq⟩ : ∃ kq : Int, a1 + totP (l.take q) = kq := ⟨_, rfl⟩
      have hF1 := HF.out.1
      rw [hkq] at hF1 ⊢
      have hk0 : 0 ≤ kq := by have := H0.out; omega
      have hk1 : kq + 1 + totM L ≤ 1000000000 := by have := H1.out; omega
      have hw1 := wrapI kq hk0 (by omega)
      obtain ⟨hR3, hbk⟩ := hmk kq
      have HR3 := mk_ hR3
      have HBK := mk_ hbk
      have HFF := mk_ (And.intro hF1 (And.intro HF.out.2 (And.intro hts hkq)))
      have HNM := mk_ (And.intro hk0 (And.intro hk1 (show totM L ≤ totP l from by omega)))
      have HOI := mk_ (And.intro hok (And.intro hoki hgw))
      have HQ := mk_ (show q + 1 ≤ l.length from hlt)
      have HXL := mk_ hX
      clear hR3 hbk hF1 hts hkq hk0 hk1 hmk htt htk hP hrd hok hoki hgw hgl hv2 hX
      go_wp2_with (go_at_call 56; (with_reducible refine (markMailS_apart kf (.slice Ad L.length cd) L (kq + 1) oki w0 _ ?s1 ?s2 ?s3 ?s4 ?s5).mono ?_); (case s1 => exact bs_ HB.out HOI.out.2.2); (case s2 => exact HR3.out); (case s3 => have := HNM.out.1; omega); (case s4 => exact HNM.out.2.1); (case s5 => exact fun D m h1 h2 h3 => HMB.out D m (Nat.le_trans h1 HNM.out.2.2) h2 h3); rintro e w4 ⟨rfl, ⟨l', hl', hh', ho⟩, hb, hk⟩; have HS4 := mk_ (HBK.out w4 l' hk ho); have HB4 := mk_ hb; have HH4 := mk_ hh'; have HK4 := mk_ (Kept.then_ (Kept.setCell HK.out (.inl HOI.out.1) _) hk (fun k hk2 => .inl (HOI.out.2.1 k hk2).1)); clear ho hb hk hl' hh')
      have hq9 : q ≤ 1000000000 := by have h1_ := len_totP l; have h2_ := H1.out; have h3_ := H0.out; have h4_ := HQ.out; omega
      go_roundw
      case rel =>
        obtain ⟨f1, f2, f5, f6⟩ := HFF.out
        have hXL := HXL.out
        have hQ := HQ.out
        have e : kq + 1 + (totM L : Int) = a1 + totP (l.take (q + 1)) := by rw [f5]; omega
        refine ⟨q + 1, X.set q ⟨kq, l'⟩, hQ, by rw [List.length_set]; exact hXL, by rw [wrap_next q hq9], by rw [e], ⟨?_, by rw [set_drop]; exact drop_next f2⟩, HS4, HB4, HK4⟩
        rw [set_take X q _ (by omega), ← e]
        exact heldP_snoc (x := ⟨kq, l'⟩) f1 rfl HH4.out
      case measure => have h2_ := HQ.out; rw [wrap_next q hq9]; simp only [intOf, Int.toNat_natCast]; omega
    · obtain rfl : q = l.length := by omega
      have HF2 := HF.out
      rw [List.take_length] at HF2
      rw [show X.take l.length = X from by rw [← hX, List.take_length]] at HF2
      have HF3 := mk_ HF2
      rw [List.take_length]
      have HXL := mk_ hX
      clear HF2 HF hX
      go_wp2
      go_ret
      exact ⟨rfl, ⟨X, HXL.out, HF3.out.1, HX.out⟩, HB.out, HK.out⟩
/-! ### the law: wrappers -/
theorem take_at (A0 : Option Addr) (n c0 : Nat) (l0 : List S47) (a1 : Int) (r : Bool) (o : List S47) (m0 m1 m2 : Int) (m3 : List Int) (b : Bool) (w : World) (hn : n = l0.length) (hr0 : Kd.C k47 w A0 l0.length l0) (hc0 : l0.length ≤ c0) (hok : impl_PortsOk.f l0 = some r) (hs : r = true → small47 l0 ∧ up47 l0) (ht : takeP r l0 a1 = (o, ⟨m0, m1, m2, m3⟩, b)) :
    Calls Try.prog 25 #[.slice A0 n c0, .int .i64 a1] w fun e w' => ∃ (A1 : Option Addr) (c1 : Nat) (A4 : Option Addr) (c4 C : Nat), e = .returned (.tuple #[.slice A1 o.length c1, .agg #[.int .i64 m0, .int .i64 m1, .int .i64 m2, .slice A4 m3.length c4], .bool b]) ∧ Kd.S k47S 47 w' w.heap.size (fun k => C ≤ k) (.slice A1 o.length c1) o ∧ (Kd.int .u8).R 5 w' w.heap.size (fun k => k < C) (.slice A4 m3.length c4) m3 ∧ Below w.heap.size w w' := by
  subst hn
  refine (impl_PortTake.calls A0 c0 l0 a1 r w hr0 hc0 hok hs).mono ?_
  rw [ht]
  rintro e w' ⟨v0, v4, C, rfl, h0, h4, hb⟩
  obtain ⟨A1, c1, rfl⟩ := Kd.S_slice h0
  obtain ⟨A4, c4, rfl⟩ := Kd.R_slice h4
  exact ⟨A1, c1, A4, c4, C, rfl, h0, h4, hb⟩
theorem mark47_at (kf : Nat) (A : Option Addr) (n c : Nat) (l : List S47) (t : Int) (ok : Nat → Prop) (w0 w : World) (hB : Below w0.heap.size w0 w) (hn : n = l.length) (h : Kd.S k47S 47 w w0.heap.size ok (.slice A n c) l) (ht : 1 + (totP l : Int) = t) (h1 : t ≤ 1000000000)
    (hb : ∀ (D : List Int) (m : Int), D.length ≤ totP l → 0 ≤ m → m + D.length ≤ 1000000000 → ∃ r, laws_markByteS.f kf D m = some (m + D.length, r) ∧ r.length = D.length ∧ heldB m r) :
    Calls Try.prog 20 #[.slice A n c, .int .i64 1] w fun e w' => e = .returned (.int .i64 t) ∧ (∃ l', l'.length = n ∧ heldP 1 l' t ∧ Kd.S k47S 47 w' w0.heap.size ok (.slice A n c) l') ∧ Below w0.heap.size w0 w' ∧ Kept w w' ok := by
  subst ht
  subst hn
  exact markPortS_apart kf _ l 1 ok w0 w hB h (by omega) h1 hb
theorem eq47_at (k : Nat) (A0 : Option Addr) (n0 c0 : Nat) (l : List S47) (A1 : Option Addr) (n1 c1 : Nat) (w : World) (h0 : n0 = l.length) (h1 : n1 = l.length) (hr0 : Kd.C k47 w A0 l.length l) (hc0 : l.length ≤ c0) (hr1 : Kd.C k47 w A1 l.length l) (hc1 : l.length ≤ c1) (h : laws_eqPortS.f k l l = some true) :
    Calls Try.prog 15 #[.slice A0 n0 c0, .slice A1 n1 c1] w fun e w' => e = .returned (.bool true) ∧ Below w.heap.size w w' := by
  subst h0
  subst h1
  exact laws_eqPortS.calls k A0 c0 l A1 c1 l true w hr0 hc0 hr1 hc1 h
theorem held47_at (k : Nat) (A : Option Addr) (n c : Nat) (l : List S47) (t : Int) (w : World) (hn : n = l.length) (hr : Kd.C k47 w A l.length l) (hc : l.length ≤ c) (h : laws_heldPortS.f k l 1 = some t) :
    Calls Try.prog 21 #[.slice A n c, .int .i64 1] w fun e w' => e = .returned (.int .i64 t) ∧ Below w.heap.size w w' := by
  subst hn
  refine (laws_heldPortS.calls k A c l 1 t w hr hc h).mono ?_
  rintro e w' ⟨he, hd⟩
  exact ⟨he, hd.below⟩
theorem eq40_at (k : Nat) (m0 m1 m2 : Int) (m3 : List Int) (A0 : Option Addr) (c0 : Nat) (A1 : Option Addr) (c1 : Nat) (w : World) (hr0 : Kd.C (Kd.int .u8) w A0 m3.length m3) (hc0 : m3.length ≤ c0) (hr1 : Kd.C (Kd.int .u8) w A1 m3.length m3) (hc1 : m3.length ≤ c1) (h : laws_eqMail.f k m0 m1 m2 m3 m0 m1 m2 m3 = some true) :
    Calls Try.prog 26 #[.agg #[.int .i64 m0, .int .i64 m1, .int .i64 m2, .slice A0 m3.length c0], .agg #[.int .i64 m0, .int .i64 m1, .int .i64 m2, .slice A1 m3.length c1]] w fun e w' => e = .returned (.bool true) ∧ Below w.heap.size w w' :=
  laws_eqMail.calls k m0 m1 m2 A0 c0 m3 m0 m1 m2 A1 c1 m3 true w hr0 hc0 hr1 hc1 h
theorem held40_at (k : Nat) (m0 m1 m2 : Int) (m3 : List Int) (A : Option Addr) (n c : Nat) (t u : Int) (w : World) (hn : n = m3.length) (hr : Kd.C (Kd.int .u8) w A m3.length m3) (hc : m3.length ≤ c) (h : laws_heldMail.f k m0 m1 m2 m3 t = some u) :
    Calls Try.prog 28 #[.agg #[.int .i64 m0, .int .i64 m1, .int .i64 m2, .slice A n c], .int .i64 t] w fun e w' => e = .returned (.int .i64 u) ∧ Below w.heap.size w w' := by
  subst hn
  exact laws_heldMail.calls k m0 m1 m2 A c m3 t u w hr hc h
theorem spt_at (k : Nat) (A0 : Option Addr) (n c0 : Nat) (l0 : List S47) (a1 : Int) (o : List S47) (m0 m1 m2 : Int) (m3 : List Int) (b : Bool) (w : World) (hn : n = l0.length) (hr0 : Kd.C k47 w A0 l0.length l0) (hc0 : l0.length ≤ c0) (h : spec_PortTake.f k l0 a1 = some (o, m0, m1, m2, m3, b)) :
    Calls Try.prog 24 #[.slice A0 n c0, .int .i64 a1] w fun e w' => ∃ (A1 : Option Addr) (c1 : Nat) (A4 : Option Addr) (c4 : Nat), e = .returned (.tuple #[.slice A1 o.length c1, .agg #[.int .i64 m0, .int .i64 m1, .int .i64 m2, .slice A4 m3.length c4], .bool b]) ∧ (Kd.C k47 w' A1 o.length o ∧ o.length ≤ c1) ∧ (Kd.C (Kd.int .u8) w' A4 m3.length m3 ∧ m3.length ≤ c4) ∧ Below w.heap.size w w' := by
  subst hn
  refine (spec_PortTake.calls k A0 c0 l0 a1 o m0 m1 m2 m3 b w hr0 hc0 h).mono ?_
  rintro e w' ⟨v0, v4, rfl, hN, ⟨A4, c4, rfl, h4, hF⟩, hb⟩
  obtain ⟨A1, c1, rfl, h1, hC⟩ := Kd.N_reads hN
  exact ⟨A1, c1, A4, c4, rfl, ⟨hC, h1⟩, ⟨Kd.F_now hF, h4⟩, hb⟩
theorem topS_at (k : Nat) (A0 : Option Addr) (c0 : Nat) (l0 : List S64) (L : List S47) (w : World) (hr0 : Kd.C k64 w A0 l0.length l0) (hl : l0.length ≤ 1048576) (hk : ∀ x ∈ l0, laws_toPort.f k x.f0 x.f1 = some (x.f0, x.f1.map convM_)) (hL : l0.map convP_ = L) :
    Calls Try.prog 13 #[.slice A0 l0.length c0] w fun e w' => ∃ (A1 : Option Addr) (c1 : Nat), e = .returned (.slice A1 L.length c1) ∧ Kd.S k47S 47 w' w.heap.size (fun _ => True) (.slice A1 L.length c1) L ∧ Below w.heap.size w w' := by
  subst hL
  refine (toPortS_apart k A0 c0 l0 w hr0 hl hk).mono ?_
  rintro e w' ⟨v0, rfl, h, hb⟩
  obtain ⟨A1, c1, rfl⟩ := Kd.S_slice h
  exact ⟨A1, c1, rfl, h, hb⟩
theorem markM_at (k : Nat) (m0 m1 m2 : Int) (m3 r2 : List Int) (A : Option Addr) (c : Nat) (P0 : Nat → Prop) (t u : Int) (w0 w : World) (hB : Below w0.heap.size w0 w) (hr : (Kd.int .u8).R 5 w w0.heap.size P0 (.slice A m3.length c) m3) (h : laws_markMail.f k m0 m1 m2 m3 t = some (u, r2)) :
    Calls Try.prog 27 #[.agg #[.int .i64 m0, .int .i64 m1, .int .i64 m2, .slice A m3.length c], .int .i64 t] w fun e w' => e = .returned (.int .i64 u) ∧ (Kd.C (Kd.int .u8) w' A r2.length r2 ∧ r2.length ≤ c ∧ m3.length = r2.length) ∧ Below w0.heap.size w0 w' ∧ Kept w w' P0 := by
  refine (laws_markMail.calls k m0 m1 m2 P0 _ m3 t u r2 w0 w hB hr h).mono ?_
  rintro e w' ⟨he, hR, hb, hk⟩
  obtain ⟨h1, h2, h3⟩ := Kd.R_reads' hR
  exact ⟨he, ⟨h3, by omega, h1⟩, hb, hk⟩
set_option maxHeartbeats 8000000 in
set_option maxRecDepth 100000 in
theorem law_walk (k : Nat) (A0 : Option Addr) (c0 : Nat) (l0 : List S64) (a1 s : Int) (L o : List S47) (m0 m1 m2 : Int) (m3 r2 : List Int) (b r : Bool) (T1 T2 T3 : Int) (w : World) (hr0 : Kd.C k64 w A0 l0.length l0) (hc0 : l0.length ≤ c0)
    (hsz : laws_szPortS.f k l0 1048576 = some s) (hs0 : 0 ≤ s) (hl : l0.length ≤ 1048576) (hk : ∀ x ∈ l0, laws_toPort.f k x.f0 x.f1 = some (x.f0, x.f1.map convM_)) (hL : l0.map convP_ = L)
    (hok : impl_PortsOk.f L = some r) (hsm : r = true → small47 L ∧ up47 L) (ht : takeP r L a1 = (o, ⟨m0, m1, m2, m3⟩, b)) (hsp : spec_PortTake.f k L a1 = some (o, m0, m1, m2, m3, b))
    (heo : laws_eqPortS.f k o o = some true) (hel : laws_eqPortS.f k L L = some true) (hem : laws_eqMail.f k m0 m1 m2 m3 m0 m1 m2 m3 = some true)
    (ht1 : 1 + (totP L : Int) = T1 ∧ T1 ≤ 1000000000) (ht2 : 1 + (totP o : Int) = T2 ∧ T2 ≤ 1000000000)
    (hmb : ∀ (D : List Int) (m : Int), D.length ≤ totP L → 0 ≤ m → m + D.length ≤ 1000000000 → ∃ r, laws_markByteS.f k D m = some (m + D.length, r) ∧ r.length = D.length ∧ heldB m r)
    (hmo : ∀ (D : List Int) (m : Int), D.length ≤ totP o → 0 ≤ m → m + D.length ≤ 1000000000 → ∃ r, laws_markByteS.f k D m = some (m + D.length, r) ∧ r.length = D.length ∧ heldB m r)
    (hhp : ∀ l', heldP 1 l' T2 → laws_heldPortS.f k l' 1 = some T2) (hmm : laws_markMail.f k m0 m1 m2 m3 T2 = some (T3, r2)) (hhm : laws_heldMail.f k m0 m1 m2 r2 T2 = some T3) (ht3 : 0 ≤ T3) :
    Calls Try.prog 7 #[.slice A0 l0.length c0, .int .i64 a1] w fun e w' => e = .returned (.bool true) ∧ Below w.heap.size w w' := by
  have hu47 := Try.underlying47
  have hu40 := Try.underlying40
  have b1 : decide (s < 0) = false := decide_eq_false (by omega)
  have b2 : decide (T1 < 0) = false := decide_eq_false (by have := ht1.1; omega)
  have b3 : decide (T2 < 0) = false := decide_eq_false (by have := ht2.1; omega)
  have b4 : decide (T3 < 0) = false := decide_eq_false (by omega)
  have HR := mk_ hr0
  have HC0 := mk_ hc0
  have HSZ := mk_ hsz
  have HLN := mk_ hl
  have HK := mk_ hk
  have HLL := mk_ hL
  have HOK := mk_ hok
  have HSM := mk_ hsm
  have HTK := mk_ ht
  have HSP := mk_ hsp
  have HEO := mk_ heo
  have HEL := mk_ hel
  have HEM := mk_ hem
  have HT1 := mk_ ht1
  have HT2 := mk_ ht2
  have HMB := mk_ hmb
  have HMO := mk_ hmo
  have HHP := mk_ hhp
  have HMM := mk_ hmm
  have HHM := mk_ hhm
  have Z0 := mk_ trivial
  clear hr0 hc0 hsz hs0 hl hk hL hok hsm ht hsp heo hel hem ht1 ht2 hmb hmo hhp hmm hhm ht3
  go_enter Try.func7, Try.ntmps7
  go_wp2_with (first | (go_at_call 11; clear Z0; (with_reducible refine (laws_szPortS.calls k A0 c0 l0 1048576 s _ ?s0 ?s1 HSZ.out).mono ?_); (case s0 => exact HR.out); (case s1 => exact HC0.out); rintro e w1 ⟨rfl, hb⟩; have HB1 := mk_ hb; clear hb; have Z1 := mk_ trivial) | (go_at_call 13; clear Z1; (with_reducible refine (topS_at k A0 c0 l0 L _ ?s0 ?s1 ?s2 HLL.out).mono ?_); (case s0 => exact Kd.C_below HR.out HB1.out); (case s1 => exact HLN.out); (case s2 => exact HK.out); rintro e w2 ⟨At, ct, rfl, ho, hb⟩; have HT := mk_ (Kd.S_reads' ho).2; have HB2 := mk_ (below_step HB1.out hb); clear ho hb; have Z2 := mk_ trivial) | (go_at_call 24; clear Z2; (with_reducible refine (spt_at k At L.length ct L a1 o m0 m1 m2 m3 b _ rfl ?s0 ?s1 HSP.out).mono ?_); (case s0 => exact k47S_C HT.out.2); (case s1 => exact HT.out.1); rintro e w3 ⟨Aw, cw, A4w, c4w, rfl, hC, hM, hb⟩; have HCW := mk_ hC; have HMW := mk_ hM; have HB3 := mk_ (below_step HB2.out hb); clear hC hM hb; have Z3 := mk_ trivial) | ((with_reducible refine gate_dst (N := 7) rfl ?_); refine box_event ?hg (N := 7) ?hd (cs := #[.int .i64 0, .int .i64 0, .int .i64 0, .slice none 0 0]) (t := 40) ?hr ?_; (case hd => rfl); (case hg => rfl); (case hr => first | (go_simp; done) | (go_simp; rfl)); intro g7 hg_ w4 hbox_ hb_; have HX7 := mk_ hbox_; have HB4 := mk_ hb_; have HG7 := mk_ (show w3.heap.size ≤ g7 from Nat.le_of_eq hg_.symm); have ge7 := ge_ HG7.out; obtain ⟨_, _, _, _, _, _, _, _⟩ := cells4_ hbox_; clear hg_ hbox_ hb_) | (go_at_call 13; clear Z3; (with_reducible refine (topS_at k A0 c0 l0 L _ ?s0 ?s1 ?s2 HLL.out).mono ?_); (case s0 => exact Kd.C_below HR.out (below_step HB3.out (below_box4 HB4.out HG7.out _ _ _ _))); (case s1 => exact HLN.out); (case s2 => exact HK.out); rintro e w6 ⟨Ax, cx, rfl, ho, hb⟩; have hx_ := inn47_box4 HX7.out (a := m0) (f := m1) (t := m2) (v3 := .slice A4w m3.length c4w); have hlt_ := blk_lt hx_; have hb5_ : Below w3.heap.size w3 ((((w4.setCell ⟨g7, 0, none⟩ (.int .i64 m0)).setCell ⟨g7, 1, none⟩ (.int .i64 m1)).setCell ⟨g7, 2, none⟩ (.int .i64 m2)).setCell ⟨g7, 3, none⟩ (.slice A4w m3.length c4w)) := below_box4 HB4.out HG7.out _ _ _ _; have HX76 := mk_ (blk_below hx_ hb); have HXS := mk_ (Kd.S_mono (Kd.S_lower (Kd.S_elder (Kd.S_fresh ho)) hb5_.size) (fun kk hk => (⟨Nat.lt_of_lt_of_le hlt_ hk.1.2, hk.2⟩ : g7 < kk ∧ kk < w6.heap.size))); have HXL := mk_ (Kd.S_reads' ho).2; have HB6 := mk_ (below_step hb5_ hb); clear ho hb hx_ hlt_ hb5_; have Z4 := mk_ trivial) | (go_at_call 25; clear Z4; (with_reducible refine (take_at Ax L.length cx L a1 r o m0 m1 m2 m3 b _ rfl ?s0 ?s1 HOK.out HSM.out HTK.out).mono ?_); (case s0 => exact k47S_C HXL.out.2); (case s1 => exact HXL.out.1); rintro e w8 ⟨Ag, cg, A4g, c4g, Cg, rfl, h0, h4, hb⟩; have HG0 := mk_ (Kd.S_mono (Kd.S_elder (Kd.S_fresh h0)) (fun kk hk => (⟨hk.1.1, hk.1.2, hk.2⟩ : Cg ≤ kk ∧ w6.heap.size ≤ kk ∧ kk < w8.heap.size))); have HG1 := mk_ (Kd.R_mono (Kd.R_elder0 (Kd.R_fresh h4)) (fun kk hk => (⟨hk.1.1, hk.1.2, hk.2⟩ : kk < Cg ∧ w6.heap.size ≤ kk ∧ kk < w8.heap.size))); have HB8 := mk_ hb; have HX78 := mk_ (blk_below HX76.out hb); clear h0 h4 hb; have Z5 := mk_ trivial) | ((with_reducible refine gate_dst (N := 11) rfl ?_); refine box_event ?hg (N := 11) ?hd (cs := #[.int .i64 0, .int .i64 0, .int .i64 0, .slice none 0 0]) (t := 40) ?hr ?_; (case hd => rfl); (case hg => rfl); (case hr => first | (go_simp; done) | (go_simp; rfl)); intro g11 hg_ w9 hbox_ hb_; have HX11 := mk_ hbox_; have HB9 := mk_ hb_; have HG11 := mk_ (show w8.heap.size ≤ g11 from Nat.le_of_eq hg_.symm); have ge11 := ge_ HG11.out; have HX79 := mk_ (blk_below HX78.out hb_); have HNE := mk_ (show g7 ≠ g11 from Nat.ne_of_lt (Nat.lt_of_lt_of_le (blk_lt HX78.out) (Nat.le_of_eq hg_.symm))); obtain ⟨_, _, _, _, _, _, _, _⟩ := cells4_ hbox_; clear hg_ hbox_ hb_) | (go_at_call 15; clear Z5; (with_reducible refine (eq47_at k Ag o.length cg o Aw o.length cw _ rfl rfl ?s0 ?s1 ?s2 ?s3 HEO.out).mono ?_); (case s0 => exact Kd.C_below (k47S_C (Kd.S_reads' HG0.out).2.2) (below_box4 HB9.out HG11.out _ _ _ _)); (case s1 => exact (Kd.S_reads' HG0.out).2.1); (case s2 => exact Kd.C_below HCW.out.1 (below_step (below_step HB6.out HB8.out) (below_box4 HB9.out HG11.out _ _ _ _))); (case s3 => exact HCW.out.2); rintro e w11 ⟨rfl, hb⟩; have hba_ : Below w8.heap.size w8 ((((w9.setCell ⟨g11, 0, none⟩ (.int .i64 m0)).setCell ⟨g11, 1, none⟩ (.int .i64 m1)).setCell ⟨g11, 2, none⟩ (.int .i64 m2)).setCell ⟨g11, 3, none⟩ (.slice A4g m3.length c4g)) := below_box4 HB9.out HG11.out _ _ _ _; have HBA := mk_ (below_step hba_ hb); have HX1B := mk_ (blk_below (inn47_box4 HX11.out (a := m0) (f := m1) (t := m2) (v3 := .slice A4g m3.length c4g)) hb); have HX7B := mk_ (blk_below (box_far4 HX79.out HNE.out (.int .i64 m0) (.int .i64 m1) (.int .i64 m2) (.slice A4g m3.length c4g)) hb); obtain ⟨_, _, _, _, _, _, _, _⟩ := cells4_ HX1B.out; obtain ⟨_, _, _, _, _, _, _, _⟩ := cells4_ HX7B.out; clear hb hba_; have Z6 := mk_ trivial) | (go_at_call 26; clear Z6; (with_reducible refine (eq40_at k m0 m1 m2 m3 A4g c4g A4w c4w _ ?s0 ?s1 ?s2 ?s3 HEM.out).mono ?_); (case s0 => exact Kd.C_below (Kd.R_reads' HG1.out).2.2 HBA.out); (case s1 => exact (Kd.R_reads' HG1.out).2.1); (case s2 => exact Kd.C_below HMW.out.1 (below_step (below_step HB6.out HB8.out) HBA.out)); (case s3 => exact HMW.out.2); rintro e w12 ⟨rfl, hb⟩; have HBC := mk_ (below_step HBA.out hb); have HX1C := mk_ (blk_below HX1B.out hb); have HX7C := mk_ (blk_below HX7B.out hb); clear hb; have Z7 := mk_ trivial) | (go_at_call 13; clear Z7; (with_reducible refine (topS_at k A0 c0 l0 L _ ?s0 ?s1 ?s2 HLL.out).mono ?_); (case s0 => exact Kd.C_below HR.out (below_step (below_step HB3.out (below_step HB6.out HB8.out)) HBC.out)); (case s1 => exact HLN.out); (case s2 => exact HK.out); rintro e w13 ⟨Ay, cy, rfl, ho, hb⟩; have HYT := mk_ (Kd.S_reads' ho).2; have HBD := mk_ (below_step HBC.out hb); have HX1D := mk_ (blk_below HX1C.out hb); have HX7D := mk_ (blk_below HX7C.out hb); clear ho hb; have Z8 := mk_ trivial) | (go_at_call 15; clear Z8; (with_reducible refine (eq47_at k Ax L.length cx L Ay L.length cy _ rfl rfl ?s0 ?s1 ?s2 ?s3 HEL.out).mono ?_); (case s0 => exact Kd.C_below (k47S_C HXL.out.2) (below_step HB8.out HBD.out)); (case s1 => exact HXL.out.1); (case s2 => exact k47S_C HYT.out.2); (case s3 => exact HYT.out.1); rintro e w14 ⟨rfl, hb⟩; have HBE := mk_ (below_step HBD.out hb); have HX1E := mk_ (blk_below HX1D.out hb); have HX7E := mk_ (blk_below HX7D.out hb); clear hb; have Z9 := mk_ trivial) | (go_at_call 20; clear Z9; (with_reducible refine (mark47_at k Ax L.length cx L T1 (fun kk => g7 < kk ∧ kk < w6.heap.size) w3 _ ?s0 rfl ?s1 HT1.out.1 HT1.out.2 HMB.out).mono ?_); (case s0 => exact below_step (below_step HB6.out HB8.out) HBE.out); (case s1 => exact Kd.S_below (Kd.S_below HXS.out HB8.out) HBE.out); rintro e w15 ⟨rfl, ⟨lx, hlx, hhx, hsx⟩, hb, hk⟩; have HBF := mk_ hb; have HG0F := mk_ (Kd.S_kept (Kd.S_below HG0.out HBE.out) hk (fun kk h1_ h2_ => by have h3_ := h1_.2.1; have h4_ := h2_.2; omega)); have HG1F := mk_ (Kd.R_kept (Kd.R_below HG1.out HBE.out) hk (fun kk h1_ h2_ => by have h3_ := h1_.2.1; have h4_ := h2_.2; omega)); have HX1F := mk_ (blk_kept HX1E.out hk (fun h1_ => by have h2_ := h1_.2; have h3_ := HG11.out; have h4_ := HB8.out.size; omega)); have HX7F := mk_ (blk_kept HX7E.out hk (fun h1_ => by have h2_ := h1_.1; omega)); clear hb hk hlx hhx hsx; have Z10 := mk_ trivial) | (go_at_call 15; clear Z10; (with_reducible refine (eq47_at k Ag o.length cg o Aw o.length cw _ rfl rfl ?s0 ?s1 ?s2 ?s3 HEO.out).mono ?_); (case s0 => exact k47S_C (Kd.S_reads' HG0F.out).2.2); (case s1 => exact (Kd.S_reads' HG0F.out).2.1); (case s2 => exact Kd.C_below HCW.out.1 HBF.out); (case s3 => exact HCW.out.2); rintro e w16 ⟨rfl, hb⟩; have HBG := mk_ hb; have HX1G := mk_ (blk_below HX1F.out hb); have HX7G := mk_ (blk_below HX7F.out hb); obtain ⟨_, _, _, _, _, _, _, _⟩ := cells4_ HX1G.out; obtain ⟨_, _, _, _, _, _, _, _⟩ := cells4_ HX7G.out; clear hb; have Z11 := mk_ trivial) | (go_at_call 26; clear Z11; (with_reducible refine (eq40_at k m0 m1 m2 m3 A4g c4g A4w c4w _ ?s0 ?s1 ?s2 ?s3 HEM.out).mono ?_); (case s0 => exact Kd.C_below (Kd.R_reads' HG1F.out).2.2 HBG.out); (case s1 => exact (Kd.R_reads' HG1F.out).2.1); (case s2 => exact Kd.C_below HMW.out.1 (below_step HBF.out HBG.out)); (case s3 => exact HMW.out.2); rintro e w17 ⟨rfl, hb⟩; have HBH := mk_ (below_step HBG.out hb); have HX1H := mk_ (blk_below HX1G.out hb); have HX7H := mk_ (blk_below HX7G.out hb); clear hb; have Z12 := mk_ trivial) | (go_at_call 20; clear Z12; (with_reducible refine (mark47_at k Ag o.length cg o T2 (fun kk => Cg ≤ kk ∧ w6.heap.size ≤ kk ∧ kk < w8.heap.size) w3 _ ?s0 rfl ?s1 HT2.out.1 HT2.out.2 HMO.out).mono ?_); (case s0 => exact below_step HBF.out HBH.out); (case s1 => exact Kd.S_lower (Kd.S_below HG0F.out HBH.out) HB6.out.size); rintro e w18 ⟨rfl, ⟨lg, hlg, hhg, hsg⟩, hb, hk⟩; have HBI := mk_ hb; have HSG := mk_ hsg; have HLG := mk_ hlg; have HHG := mk_ (HHP.out lg hhg); have HX7I := mk_ (blk_kept HX7H.out hk (fun h1_ => by have h2_ := h1_.2.1; have h3_ := blk_lt HX76.out; omega)); have HG1I := mk_ (Kd.R_kept (Kd.R_below HG1F.out HBH.out) hk (fun kk h1_ h2_ => by have h3_ := h1_.1; have h4_ := h2_.1; omega)); have HX1I := mk_ (blk_kept HX1H.out hk (fun h1_ => by have h2_ := h1_.2.2; have h3_ := HG11.out; omega)); obtain ⟨_, _, _, _, _, _, _, _⟩ := cells4_ HX1I.out; clear hb hk hlg hhg hsg; have Z13 := mk_ trivial) | (go_at_call 27; clear Z13; (with_reducible refine (markM_at k m0 m1 m2 m3 r2 A4g c4g (fun kk => kk < Cg ∧ w6.heap.size ≤ kk ∧ kk < w8.heap.size) T2 T3 w3 _ ?s0 ?s1 HMM.out).mono ?_); (case s0 => exact HBI.out); (case s1 => exact Kd.R_lower HG1I.out HB6.out.size); rintro e w19 ⟨rfl, hR, hb, hk⟩; have HBJ := mk_ hb; have HRG := mk_ hR; have HX7J := mk_ (blk_kept HX7I.out hk (fun h1_ => by have h2_ := h1_.2.1; have h3_ := blk_lt HX76.out; omega)); have HSJ := mk_ (Kd.S_kept HSG.out hk (fun kk h1_ h2_ => by have h3_ := h1_.1; have h4_ := h2_.1; omega)); have HX1J := mk_ (blk_kept HX1I.out hk (fun h1_ => by have h2_ := h1_.2.2; have h3_ := HG11.out; omega)); clear hb hk hR; have Z14 := mk_ trivial) | (go_at_call 21; clear Z14; (with_reducible refine (held47_at k Ag o.length cg lg T2 _ ?s0 ?s1 ?s2 HHG.out).mono ?_); (case s0 => exact HLG.out.symm); (case s1 => exact k47S_C (Kd.S_reads' HSJ.out).2.2); (case s2 => have h1_ := (Kd.S_reads' HSJ.out).2.1; have h2_ := HLG.out; omega); rintro e w20 ⟨rfl, hb⟩; have HBK := mk_ hb; have HX1K := mk_ (blk_below HX1J.out hb); obtain ⟨_, _, _, _, _, _, _, _⟩ := cells4_ HX1K.out; clear hb; have Z15 := mk_ trivial) | (go_at_call 28; clear Z15; (with_reducible refine (held40_at k m0 m1 m2 r2 A4g m3.length c4g T2 T3 _ ?s0 ?s1 ?s2 HHM.out).mono ?_); (case s0 => exact HRG.out.2.2); (case s1 => exact Kd.C_below HRG.out.1 HBK.out); (case s2 => exact HRG.out.2.1); rintro e w21 ⟨rfl, hb⟩; have HBL := mk_ (below_step HBK.out hb); have HX1L := mk_ (blk_below HX1K.out hb); clear hb; have Z16 := mk_ trivial) | (go_at_call 13; clear Z16; (with_reducible refine (topS_at k A0 c0 l0 L _ ?s0 ?s1 ?s2 HLL.out).mono ?_); (case s0 => exact Kd.C_below HR.out (below_step (below_step HB3.out HBJ.out) HBL.out)); (case s1 => exact HLN.out); (case s2 => exact HK.out); rintro e w22 ⟨Az, cz, rfl, ho, hb⟩; have HZL := mk_ (Kd.S_reads' ho).2; have HBM := mk_ (below_step HBL.out hb); have HX1M := mk_ (blk_below HX1L.out hb); clear ho hb; have Z17 := mk_ trivial) | (go_at_call 25; clear Z17; (with_reducible refine (take_at Az L.length cz L a1 r o m0 m1 m2 m3 b _ rfl ?s0 ?s1 HOK.out HSM.out HTK.out).mono ?_); (case s0 => exact k47S_C HZL.out.2); (case s1 => exact HZL.out.1); rintro e w23 ⟨Ah, ch, A4h, c4h, Ch, rfl, h0, h4, hb⟩; have HH0 := mk_ (Kd.S_reads' h0).2; have HH1 := mk_ (Kd.R_reads' h4).2; have HBN := mk_ (below_step HBM.out hb); have HX1N := mk_ (blk_below HX1M.out hb); clear h0 h4 hb; have Z18 := mk_ trivial) | ((with_reducible refine gate_dst (N := 17) rfl ?_); refine box_event ?hg (N := 17) ?hd (cs := #[.int .i64 0, .int .i64 0, .int .i64 0, .slice none 0 0]) (t := 40) ?hr ?_; (case hd => rfl); (case hg => rfl); (case hr => first | (go_simp; done) | (go_simp; rfl)); intro g17 hg_ w24 hbox_ hb_; have HX17 := mk_ hbox_; have HBO := mk_ hb_; have HG17 := mk_ (show w23.heap.size ≤ g17 from Nat.le_of_eq hg_.symm); have ge17 := ge_ HG17.out; have HX1O := mk_ (blk_below HX1N.out hb_); have HN1 := mk_ (show g11 ≠ g17 from Nat.ne_of_lt (Nat.lt_of_lt_of_le (blk_lt HX1N.out) (Nat.le_of_eq hg_.symm))); obtain ⟨_, _, _, _, _, _, _, _⟩ := cells4_ hbox_; clear hg_ hbox_ hb_) | (go_at_call 15; clear Z18; (with_reducible refine (eq47_at k Ah o.length ch o Aw o.length cw _ rfl rfl ?s0 ?s1 ?s2 ?s3 HEO.out).mono ?_); (case s0 => exact Kd.C_below (k47S_C HH0.out.2) (below_box4 HBO.out HG17.out _ _ _ _)); (case s1 => exact HH0.out.1); (case s2 => exact Kd.C_below HCW.out.1 (below_step (below_step HBJ.out HBN.out) (below_box4 HBO.out HG17.out _ _ _ _))); (case s3 => exact HCW.out.2); rintro e w26 ⟨rfl, hb⟩; have hbp_ : Below w23.heap.size w23 ((((w24.setCell ⟨g17, 0, none⟩ (.int .i64 m0)).setCell ⟨g17, 1, none⟩ (.int .i64 m1)).setCell ⟨g17, 2, none⟩ (.int .i64 m2)).setCell ⟨g17, 3, none⟩ (.slice A4h m3.length c4h)) := below_box4 HBO.out HG17.out _ _ _ _; have HBP := mk_ (below_step hbp_ hb); have HX1P := mk_ (blk_below (box_far4 HX1O.out HN1.out (.int .i64 m0) (.int .i64 m1) (.int .i64 m2) (.slice A4h m3.length c4h)) hb); have HX17P := mk_ (blk_below (inn47_box4 HX17.out (a := m0) (f := m1) (t := m2) (v3 := .slice A4h m3.length c4h)) hb); have HX7P := mk_ (blk_below (blk_below HX7J.out HBN.out) (below_step hbp_ hb)); obtain ⟨_, _, _, _, _, _, _, _⟩ := cells4_ HX17P.out; obtain ⟨_, _, _, _, _, _, _, _⟩ := cells4_ HX7P.out; clear hb hbp_; have Z19 := mk_ trivial) | (go_at_call 26; clear Z19; (with_reducible refine (eq40_at k m0 m1 m2 m3 A4h c4h A4w c4w _ ?s0 ?s1 ?s2 ?s3 HEM.out).mono ?_); (case s0 => exact Kd.C_below HH1.out.2 HBP.out); (case s1 => exact HH1.out.1); (case s2 => exact Kd.C_below HMW.out.1 (below_step (below_step HBJ.out HBN.out) HBP.out)); (case s3 => exact HMW.out.2); rintro e w27 ⟨rfl, hb⟩; have HBQ := mk_ (below_step HBP.out hb); have HX1Q := mk_ (blk_below HX1P.out hb); clear hb; have Z20 := mk_ trivial) | (go_at_call 21; clear Z20; (with_reducible refine (held47_at k Ag o.length cg lg T2 _ ?s0 ?s1 ?s2 HHG.out).mono ?_); (case s0 => exact HLG.out.symm); (case s1 => exact k47S_C (Kd.S_reads' (Kd.S_below (Kd.S_below HSJ.out HBN.out) HBQ.out)).2.2); (case s2 => have h1_ := (Kd.S_reads' HSJ.out).2.1; have h2_ := HLG.out; omega); rintro e w28 ⟨rfl, hb⟩; have HBR := mk_ (below_step HBQ.out hb); have HX1R := mk_ (blk_below HX1Q.out hb); obtain ⟨_, _, _, _, _, _, _, _⟩ := cells4_ HX1R.out; clear hb; have Z21 := mk_ trivial) | (go_at_call 28; clear Z21; (with_reducible refine (held40_at k m0 m1 m2 r2 A4g m3.length c4g T2 T3 _ ?s0 ?s1 ?s2 HHM.out).mono ?_); (case s0 => exact HRG.out.2.2); (case s1 => exact Kd.C_below (Kd.C_below HRG.out.1 HBN.out) HBR.out); (case s2 => exact HRG.out.2.1); rintro e w29 ⟨rfl, hb⟩; have HBS := mk_ (below_step HBR.out hb); clear hb; have Z22 := mk_ trivial))
  go_ret
  exact ⟨rfl, below_step (below_step HB3.out HBJ.out) (below_step HBN.out HBS.out)⟩
set_option maxHeartbeats 2000000 in
theorem law_walk0 (k : Nat) (A0 : Option Addr) (c0 : Nat) (l0 : List S64) (a1 s : Int) (w : World) (hr0 : Kd.C k64 w A0 l0.length l0) (hc0 : l0.length ≤ c0) (hsz : laws_szPortS.f k l0 1048576 = some s) (hs0 : s < 0) :
    Calls Try.prog 7 #[.slice A0 l0.length c0, .int .i64 a1] w fun e w' => e = .returned (.bool true) ∧ Below w.heap.size w w' := by
  have b1 : decide (s < 0) = true := decide_eq_true hs0
  have HR := mk_ hr0
  have HC0 := mk_ hc0
  have HSZ := mk_ hsz
  clear hr0 hc0 hsz hs0
  go_enter Try.func7, Try.ntmps7
  go_wp2_with (go_at_call 11; (with_reducible refine (laws_szPortS.calls k A0 c0 l0 1048576 s _ ?s0 ?s1 HSZ.out).mono ?_); (case s0 => exact HR.out); (case s1 => exact HC0.out); rintro e w1 ⟨rfl, hb⟩; have HB1 := mk_ hb; clear hb)
  go_ret
  exact ⟨rfl, HB1.out⟩
/-- What the law's walk leans on: what the functions that it calls answer at these ports. -/
def laws_FnExactPortTake.ok (k : Nat) (l0 : List S64) (a1 : Int) : Prop :=
  ∃ s, laws_szPortS.f k l0 1048576 = some s ∧ (s < 0 ∨ 0 ≤ s ∧ ∃ (L o : List S47) (m0 m1 m2 : Int) (m3 r2 : List Int) (b r : Bool) (T1 T2 T3 : Int),
    l0.length ≤ 1048576 ∧ (∀ x ∈ l0, laws_toPort.f k x.f0 x.f1 = some (x.f0, x.f1.map convM_)) ∧ l0.map convP_ = L ∧
    impl_PortsOk.f L = some r ∧ (r = true → small47 L ∧ up47 L) ∧ takeP r L a1 = (o, ⟨m0, m1, m2, m3⟩, b) ∧ spec_PortTake.f k L a1 = some (o, m0, m1, m2, m3, b) ∧
    laws_eqPortS.f k o o = some true ∧ laws_eqPortS.f k L L = some true ∧ laws_eqMail.f k m0 m1 m2 m3 m0 m1 m2 m3 = some true ∧
    (1 + (totP L : Int) = T1 ∧ T1 ≤ 1000000000) ∧ (1 + (totP o : Int) = T2 ∧ T2 ≤ 1000000000) ∧
    (∀ (D : List Int) (m : Int), D.length ≤ totP L → 0 ≤ m → m + D.length ≤ 1000000000 → ∃ r, laws_markByteS.f k D m = some (m + D.length, r) ∧ r.length = D.length ∧ heldB m r) ∧
    (∀ (D : List Int) (m : Int), D.length ≤ totP o → 0 ≤ m → m + D.length ≤ 1000000000 → ∃ r, laws_markByteS.f k D m = some (m + D.length, r) ∧ r.length = D.length ∧ heldB m r) ∧
    (∀ l', heldP 1 l' T2 → laws_heldPortS.f k l' 1 = some T2) ∧ laws_markMail.f k m0 m1 m2 m3 T2 = some (T3, r2) ∧ laws_heldMail.f k m0 m1 m2 r2 T2 = some T3 ∧ 0 ≤ T3)
theorem laws_FnExactPortTake.calls (k : Nat) (A0 : Option Addr) (c0 : Nat) (l0 : List (S64)) (a1 : Int) (r : Bool) (w : World) (hr0 : Kd.C k64 w A0 l0.length l0) (hc0 : l0.length ≤ c0) (h : laws_FnExactPortTake.ok k l0 a1 ∧ r = true) :
  Calls Try.prog 7 #[.slice A0 l0.length c0, .int .i64 a1] w fun e w' => e = .returned (.bool r) ∧ Below w.heap.size w w' := by
  obtain ⟨⟨s, h1, h2⟩, rfl⟩ := h
  rcases h2 with h2 | ⟨h2, L, o, m0, m1, m2, m3, r2, b, r, T1, T2, T3, h3, h4, h5, h6, h7, h8, h9, h10, h11, h12, h13, h14, h15, h16, h17, h18, h19, h20⟩
  · exact law_walk0 k A0 c0 l0 a1 s w hr0 hc0 h1 h2
  · exact law_walk k A0 c0 l0 a1 s L o m0 m1 m2 m3 r2 b r T1 T2 T3 w hr0 hc0 h1 h2 h3 h4 h5 h6 h7 h8 h9 h10 h11 h12 h13 h14 h15 h16 h17 h18 h19 h20
end Go.Proofs.Ytkkibccnpkbbjaa.MFnExactPortTake
