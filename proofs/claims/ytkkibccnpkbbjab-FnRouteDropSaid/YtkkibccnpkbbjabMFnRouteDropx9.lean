/- Functions that the law FnRouteDrop reaches, typed by hand: slices.Clone, DeleteFunc and IndexFunc at routes; no conditions but those that each theorem states. -/
import Derived.Test.YtkkibccnpkbbjabMFnRouteDropx0
import Derived.StillTailTactics
import Derived.IntWalk
import Derived.Deep.RegionHeld3
import Derived.Deep.RegionLaw
import Derived.Shelf.Spec.SlicesInsertGrow
import Derived.Shelf.Spec.SlicesInsert
import Derived.Deep.QuietTactic
import Derived.BigQuiet
namespace Go.Proofs.Ytkkibccnpkbbjab.MFnRouteDrop
open Go.RowKit Go.Proofs.YtkkibccnpkbbjabV.PrintWords Go.Proofs.YtkkibccnpkbbjabV.PrintLast Go.Proofs.YtkkibccnpkbbjabV.PrintMore
attribute [local go_sem] max2_int min2_int max_two min_two max_three min_three max_four min_four
set_option linter.unusedVariables false
set_option linter.unusedSimpArgs false
/-! ### slices.Clone at routes -/
theorem k29_KM {w W : World} {base : Nat} {ok : Nat → Prop} {x : S29} {cs : List Value} (h : k29.K w x cs) : k29.M W base ok x cs := by
  rw [k29_open h]
  exact k29_mkM _ _ _ x
theorem bytes29 {n : Nat} (h : n ≤ 1000) : (([] : List S29).length + n) * 32 ≤ 140737488355328 := by
  rw [List.length_nil, Nat.zero_add]
  omega
theorem own_none29 {v : Value} {n : Nat} (hn : ∃ b, v.ownBlock = some b ∧ n ≤ b) (k : Nat) (hk : k < 0) : True ∧ some k ≠ v.ownBlock := absurd hk (Nat.not_lt_zero k)
set_option maxHeartbeats 1000000 in
set_option maxRecDepth 100000 in
theorem clone81 (A0 : Option Addr) (c0 : Nat) (l0 : List S29) (w : World) (hr0 : Kd.C k29 w A0 l0.length l0) (hc0 : l0.length ≤ c0) (hs : l0.length ≤ 1000) :
    Calls Try.prog 81 #[.slice A0 l0.length c0] w fun e w' => ∃ (A : Option Addr) (c : Nat), e = .returned (.slice A l0.length c) ∧ Kd.R k29 29 w' w.heap.size (fun _ => True) (.slice A l0.length c) l0 ∧ Below w.heap.size w w' := by
  have hu32 := Try.underlying32
  have HI := mk_ info29
  have hq : ∀ (w : World) (a : Option Addr) (n c n' c' : Nat), (binOp .eql 32 (.slice a n c) (.slice none n' c')).run Try.prog w = .ok (.bool a.isNone) w := fun w a n c n' c' => Lib.run_eql_slice_nil w _ _ a n c n' c' hu32
  cases A0 with
  | none =>
    have hl : l0 = [] := by
      cases l0 with
      | nil => rfl
      | cons x l =>
        obtain ⟨ad, h, _⟩ := hr0.2.2 (by simp)
        cases h
    subst hl
    clear hr0
    go_enter Try.func81, Try.ntmps81
    go_wp2
    go_ret
    exact ⟨none, 0, rfl, Kd.R_nil _ _ _ _ _, Below.refl _ _⟩
  | some ad =>
    have HR := mk_ hr0
    have HS := mk_ hs
    clear hr0 hs
    go_enter Try.func81, Try.ntmps81
    go_wp2_with (first | ((with_reducible refine gate_dst (N := 5) rfl ?_); refine Kd.R_lit k29 (w0 := w) w.heap.size 29 ?hg (N := 5) ?hd (xs := ([] : List S29)) (inner := []) (ok := fun _ => True) (okp := fun _ => True) ?hr ?hp (fun _ hk => hk) trivial (Below.refl _ _) (Nat.le_refl _) (by simp) ?_; (case hd => rfl); (case hg => rfl); (case hr => first | (go_simp; done) | (go_simp; rfl)); (case hp => exact (Reps.none _ _)); intro v5 w1 ho hb hg_ hnew_; obtain ⟨A5, c5, rfl⟩ := Kd.R_slice ho; have HV1 := mk_ ho; have HB1 := mk_ hb; have HC1 := mk_ (Kd.C_below HR.out hb); have HN1 := mk_ hnew_; clear ho hb hg_ hnew_) | ((with_reducible refine gate_builtin (b := .append) (xs := #[.tmp 5, .tmp 6]) rfl ?_); at_builtin; refine Kd.R_append_rows k29 (w0 := w) w.heap.size rfl (.tmp 5) (.tmp 6) 32 29 (.agg #[(.int .i64 0), (.int .i64 0), (.int .i64 0), (.int .i64 0)]) 32 rfl hu32 HI.out rfl (by decide) (by omega) (.slice A5 ([] : List S29).length c5) [] l0 (some ad) l0.length c0 (fun _ => True) (fun k => k < 0) rfl rfl HV1.out HC1.out (fun _ _ h => k29_KM h) (own_none29 HN1.out) (fun _ _ => trivial) HB1.out HB1.out.size (bytes29 HS.out) ?_; intro v7 w2 ho hb hg_ hnew_; rw [List.nil_append] at ho; obtain ⟨A7, c7, rfl⟩ := Kd.R_slice ho; have HV2 := mk_ ho; have HB2 := mk_ hb; clear ho hb hg_ hnew_))
    go_ret
    exact ⟨A7, c7, rfl, HV2.out, HB2.out⟩
theorem up_m29 {n j : Nat} (h : j < n) (hw : wrap64 ((j : Int) + 1) = ((j + 1 : Nat) : Int)) : n - (intOf (.int .i64 (wrap64 ((j : Int) + 1)))).toNat < n - (intOf (.int .i64 (j : Int))).toNat := by
  rw [hw]
  simp only [intOf]
  omega
/-! ### the closure of RouteDrop, and slices.IndexFunc with it -/
/-- Is a route the one of this address and these bits? -/
def hit (N B : Int) (x : S29) : Bool := x.f0 == N && x.f1 == B
set_option maxHeartbeats 1000000 in
set_option maxRecDepth 100000 in
theorem drop82 (N B : Int) (x0 x1 x2 x3 : Int) (b1 b2 : Nat) (w : World) (h1 : w.cell? ⟨b1, 0, none⟩ = some (.int .i64 N)) (h2 : w.cell? ⟨b2, 0, none⟩ = some (.int .i64 B)) :
    Calls Try.prog 82 #[.agg #[.int .i64 x0, .int .i64 x1, .int .i64 x2, .int .i64 x3], .pointer (some ⟨b1, 0, none⟩), .pointer (some ⟨b2, 0, none⟩)] w fun e w' => e = .returned (.bool (hit N B ⟨x0, x1, x2, x3⟩)) ∧ Below w.heap.size w w' := by
  have H1 := mk_ h1
  have H2 := mk_ h2
  clear h1 h2
  by_cases hN : x0 = N
  all_goals
    go_enter Try.func82, Try.ntmps82
    go_wp2_with (first | ((with_reducible refine gate_dst (N := 3) rfl ?_); refine box_event ?hg (N := 3) ?hd (cs := #[.int .i64 x0, .int .i64 x1, .int .i64 x2, .int .i64 x3]) (t := 29) ?hr ?_; (case hd => rfl); (case hg => rfl); (case hr => first | (go_simp; done) | (go_simp; rfl)); intro gb hg w1 hbox hb; have hz1 := (hb.cell (lc_ w _ H1.out)).trans H1.out; have hz2 := (hb.cell (lc_ w _ H2.out)).trans H2.out; obtain ⟨_, _, _, _, _, _, _, _⟩ := cells4_ hbox; have HB1 := mk_ hb; clear hbox hb hg))
    go_ret
    exact ⟨by simp [hit, hN], HB1.out⟩
theorem rd29_get (l : List S29) (i : Nat) (h : i < l.length) : rd_T29 l (i : Int) = l[i] := by
  simp [rd_T29, List.getD_eq_getElem?_getD, List.getElem?_eq_getElem h]
/-- The place of the first route that is hit, or -1. -/
def hitAt (N B : Int) (l : List S29) : Int := if l.findIdx (hit N B) < l.length then (l.findIdx (hit N B) : Int) else -1
theorem hitAt_some {N B : Int} {l : List S29} {q : Nat} (hq : q < l.length) (h0 : ∀ x : Nat, x < q → hit N B (rd_T29 l (x : Int)) = false) (h : hit N B (rd_T29 l (q : Int)) = true) : hitAt N B l = (q : Int) := by
  have e : l.findIdx (hit N B) = q := by
    rw [List.findIdx_eq hq]
    refine ⟨by rw [← rd29_get l q hq]; exact h, fun j hj => ?_⟩
    have := h0 j hj
    rw [rd29_get l j (by omega)] at this
    exact this
  unfold hitAt
  rw [e, if_pos hq]
theorem hitAt_none {N B : Int} {l : List S29} (h0 : ∀ x : Nat, x < l.length → hit N B (rd_T29 l (x : Int)) = false) : hitAt N B l = -1 := by
  unfold hitAt
  rw [if_neg (fun h => by
    have h1 := List.findIdx_getElem (w := h)
    have h2 := h0 _ h
    rw [rd29_get l _ h, h1] at h2
    cases h2)]
set_option maxHeartbeats 2000000 in
set_option maxRecDepth 100000 in
theorem index115 (N B : Int) (b1 b2 : Nat) (A0 : Option Addr) (c0 : Nat) (l0 : List S29) (w : World) (hr0 : Kd.C k29 w A0 l0.length l0) (hs : l0.length ≤ 1000) (h1 : w.cell? ⟨b1, 0, none⟩ = some (.int .i64 N)) (h2 : w.cell? ⟨b2, 0, none⟩ = some (.int .i64 B)) :
    Calls Try.prog 115 #[.slice A0 l0.length c0, .func (.func 82) #[] #[.pointer (some ⟨b1, 0, none⟩), .pointer (some ⟨b2, 0, none⟩)]] w fun e w' => e = .returned (.int .i64 (hitAt N B l0)) ∧ Below w.heap.size w w' := by
  have HR := mk_ hr0
  have HS := mk_ hs
  have H1 := mk_ h1
  have H2 := mk_ h2
  clear hr0 hs h1 h2
  go_enter Try.func115, Try.ntmps115
  go_wp2
  go_loopw [8] (fun v8 wr => ∃ q : Nat, q ≤ l0.length ∧ v8 = .int .i64 q ∧ Aside0 (∀ x : Nat, x < q → hit N B (rd_T29 l0 (x : Int)) = false) ∧ Aside0 (Below w.heap.size w wr)) (fun v8 _ => l0.length - (intOf v8).toNat)
  case atStart => exact ⟨0, Nat.zero_le _, rfl, ⟨fun x hx => absurd hx (Nat.not_lt_zero x)⟩, ⟨Below.refl _ _⟩⟩
  case round =>
    obtain ⟨q, hq, rfl, HZ, HB⟩ := hrel
    by_cases hlt : q < l0.length
    · have hs1 := HS.out
      have hw : wrap64 ((q : Int) + 1) = ((q + 1 : Nat) : Int) := by unfold wrap64; omega
      obtain ⟨ad, e, hx0, hx1, hx2, hx3⟩ := at_T29 (Kd.C_below HR.out HB.out) (q : Int) (by omega) (by omega)
      cases e
      rw [Int.toNat_natCast] at hx0 hx1 hx2 hx3
      have hz1 := (HB.out.cell (lc_ w _ H1.out)).trans H1.out
      have hz2 := (HB.out.cell (lc_ w _ H2.out)).trans H2.out
      obtain ⟨P, hP⟩ : ∃ P, rd_T29 l0 (q : Int) = P := ⟨_, rfl⟩
      obtain ⟨x0, x1, x2, x3⟩ := P
      rw [hP] at hx0 hx1 hx2 hx3
      dsimp only at hx0 hx1 hx2 hx3
      have HZ1 := mk_ hz1
      have HZ2 := mk_ hz2
      cases hh : hit N B ⟨x0, x1, x2, x3⟩ with
      | true =>
        have HT := mk_ hh
        have HE := mk_ (hitAt_some hlt HZ.out (by rw [hP]; exact hh))
        clear hh hP hs1 hz1 hz2
        go_wp2_with (go_at_call 82; (with_reducible refine (drop82 N B x0 x1 x2 x3 b1 b2 _ ?s1 ?s2).mono ?_); (case s1 => exact HZ1.out); (case s2 => exact HZ2.out); rw [HT.out]; rintro e w1 ⟨rfl, hb⟩; have HB1 := mk_ (below_step HB.out hb); clear hb)
        go_ret
        exact ⟨by rw [HE.out]; rfl, HB1.out⟩
      | false =>
        have HT := mk_ hh
        have HZ' := mk_ (show ∀ x : Nat, x < q + 1 → hit N B (rd_T29 l0 (x : Int)) = false from fun x hx => by
          by_cases hxq : x = q
          · subst hxq
            rw [hP]
            exact hh
          · exact HZ.out x (by omega))
        clear hh hP hs1 hz1 hz2
        go_wp2_with (go_at_call 82; (with_reducible refine (drop82 N B x0 x1 x2 x3 b1 b2 _ ?s1 ?s2).mono ?_); (case s1 => exact HZ1.out); (case s2 => exact HZ2.out); rw [HT.out]; rintro e w1 ⟨rfl, hb⟩; have HB1 := mk_ (below_step HB.out hb); clear hb)
        go_roundw
        case rel => exact ⟨q + 1, hlt, by rw [hw], HZ', HB1⟩
        case measure => exact up_m29 hlt hw
    · have hql : q = l0.length := by omega
      subst hql
      have HE := mk_ (hitAt_none HZ.out)
      go_wp2
      go_ret
      exact ⟨by rw [HE.out]; rfl, HB.out⟩
/-! ### slices.DeleteFunc at routes -/
section
variable {W : World} {base g n cap : Nat} {ok : Nat → Prop} {xs : List S29}
theorem el29 (h : Kd.R k29 29 W base ok (.slice (some ⟨g, 0, none⟩) n cap) xs) (i : Nat) (hi : i < n) :
    (W.cell? ⟨g, i * 4, none⟩ = some (.int .i64 (rd_T29 xs (i : Int)).f0) ∧ W.cell? ⟨g, i * 4 + 1, none⟩ = some (.int .i64 (rd_T29 xs (i : Int)).f1) ∧ W.cell? ⟨g, i * 4 + 2, none⟩ = some (.int .i64 (rd_T29 xs (i : Int)).f2) ∧ W.cell? ⟨g, i * 4 + 3, none⟩ = some (.int .i64 (rd_T29 xs (i : Int)).f3)) ∧
    (W.frozen? ⟨g, i * 4, none⟩ = false ∧ W.frozen? ⟨g, i * 4 + 1, none⟩ = false ∧ W.frozen? ⟨g, i * 4 + 2, none⟩ = false ∧ W.frozen? ⟨g, i * 4 + 3, none⟩ = false) := by
  obtain ⟨cs, hcl, hM, hcc, hfr⟩ := Kd.R_elem h z29 (i : Int) (by omega) (by omega)
  have hM' : k29.M W base ok (rd_T29 xs (i : Int)) cs := k29_KM (k29.K_of_M hM)
  obtain rfl := k29_openM hM'
  rw [Int.toNat_natCast] at hcc hfr
  exact ⟨⟨hcc 0 _ rfl, hcc 1 _ rfl, hcc 2 _ rfl, hcc 3 _ rfl⟩, ⟨hfr 0, hfr 1, hfr 2, hfr 3⟩⟩
theorem put29 (h : Kd.R k29 29 W base ok (.slice (some ⟨g, 0, none⟩) n cap) xs) (i : Nat) (hi : i < n) (x0 x1 x2 x3 : Int) :
    Kd.R k29 29 ((((W.setCell ⟨g, i * 4, none⟩ (.int .i64 x0)).setCell ⟨g, i * 4 + 1, none⟩ (.int .i64 x1)).setCell ⟨g, i * 4 + 2, none⟩ (.int .i64 x2)).setCell ⟨g, i * 4 + 3, none⟩ (.int .i64 x3)) base ok (.slice (some ⟨g, 0, none⟩) n cap) (xs.set i ⟨x0, x1, x2, x3⟩) ∧
    W.grownBy ((((W.setCell ⟨g, i * 4, none⟩ (.int .i64 x0)).setCell ⟨g, i * 4 + 1, none⟩ (.int .i64 x1)).setCell ⟨g, i * 4 + 2, none⟩ (.int .i64 x2)).setCell ⟨g, i * 4 + 3, none⟩ (.int .i64 x3)) (some g) := by
  obtain ⟨cs, hcl, hM, hcc, hfr⟩ := Kd.R_elem h z29 (i : Int) (by omega) (by omega)
  have hM' : k29.M W base ok (rd_T29 xs (i : Int)) cs := k29_KM (k29.K_of_M hM)
  obtain rfl := k29_openM hM'
  have := Kd.R_seg h (i : Int) (by omega) (by omega) (c := [.int .i64 (rd_T29 xs (i : Int)).f0, .int .i64 (rd_T29 xs (i : Int)).f1, .int .i64 (rd_T29 xs (i : Int)).f2, .int .i64 (rd_T29 xs (i : Int)).f3]) (seg := [.int .i64 x0, .int .i64 x1, .int .i64 x2, .int .i64 x3]) (j := 0) rfl hcc (show 4 ≤ 4 from Nat.le_refl _) (x' := (⟨x0, x1, x2, x3⟩ : S29)) (okp := fun k => ok k ∧ k ≠ g) (k29_mkM _ _ _ ⟨x0, x1, x2, x3⟩) (fun k hk => hk)
  rw [Int.toNat_natCast] at this
  exact this
end
/-- What is not to be deleted. -/
def keepR (N B : Int) (l : List S29) : List S29 := l.filter (fun x => !hit N B x)
theorem keep_step {N B : Int} {l : List S29} {j : Nat} (hj : j < l.length) : keepR N B (l.take (j + 1)) = keepR N B (l.take j) ++ (if hit N B (rd_T29 l (j : Int)) = true then [] else [rd_T29 l (j : Int)]) := by
  unfold keepR
  rw [List.take_succ_eq_append_getElem hj, List.filter_append, rd29_get l j hj]
  cases hh : hit N B l[j] <;> simp [hh]
/-- What is known while routes are deleted: i of them kept so far, of j. -/
def delI (N B : Int) (l M : List S29) (i j : Nat) : Prop := M.length = l.length ∧ i < j ∧ j ≤ l.length ∧ M.take i = keepR N B (l.take j) ∧ M.drop j = l.drop j ∧ (keepR N B (l.take j)).length = i
theorem delI_start {N B : Int} {l : List S29} {q : Nat} (hq : hitAt N B l = (q : Int)) : q < l.length ∧ delI N B l l q (q + 1) := by
  unfold hitAt at hq
  split at hq
  · rename_i h
    have e : l.findIdx (hit N B) = q := by omega
    rw [e] at h
    have hh := List.findIdx_getElem (w := (by rw [e]; exact h : l.findIdx (hit N B) < l.length))
    simp only [e] at hh
    have hk : keepR N B (l.take q) = l.take q := by
      unfold keepR
      rw [List.filter_eq_self]
      intro x hx
      obtain ⟨k, hk, rfl⟩ := List.getElem_of_mem hx
      rw [List.length_take] at hk
      rw [List.getElem_take]
      have := List.not_of_lt_findIdx (p := hit N B) (xs := l) (i := k) (by omega)
      simpa using this
    refine ⟨h, rfl, by omega, by omega, ?_, rfl, ?_⟩
    · rw [keep_step h, rd29_get l q h, hh, hk]
      simp
    · rw [keep_step h, rd29_get l q h, hh, hk, if_pos rfl, List.append_nil, List.length_take]
      omega
  · omega
theorem delI_hit {N B : Int} {l M : List S29} {i j : Nat} (h : delI N B l M i j) (hj : j < l.length) (hh : hit N B (rd_T29 l (j : Int)) = true) : delI N B l M i (j + 1) := by
  obtain ⟨h1, h2, h3, h4, h5, h6⟩ := h
  have e := keep_step (N := N) (B := B) hj
  rw [if_pos hh, List.append_nil] at e
  refine ⟨h1, by omega, by omega, by rw [e]; exact h4, ?_, by rw [e]; exact h6⟩
  rw [← List.drop_drop, ← List.drop_drop, h5]
theorem delI_keep {N B : Int} {l M : List S29} {i j : Nat} (h : delI N B l M i j) (hj : j < l.length) (hh : hit N B (rd_T29 l (j : Int)) = false) : delI N B l (M.set i (rd_T29 l (j : Int))) (i + 1) (j + 1) := by
  obtain ⟨h1, h2, h3, h4, h5, h6⟩ := h
  have e := keep_step (N := N) (B := B) hj
  rw [if_neg (by simp [hh])] at e
  refine ⟨by rw [List.length_set]; exact h1, by omega, by omega, ?_, ?_, by rw [e, List.length_append, h6, List.length_singleton]⟩
  · rw [e, List.take_succ_eq_append_getElem (by rw [List.length_set]; omega), List.take_set_of_le (Nat.le_refl _), h4, List.getElem_set_self]
  · rw [List.drop_set_of_lt (by omega), ← List.drop_drop, ← List.drop_drop, h5]
theorem delI_read {N B : Int} {l M : List S29} {i j : Nat} (h : delI N B l M i j) (hj : j < l.length) : rd_T29 M (j : Int) = rd_T29 l (j : Int) := by
  obtain ⟨h1, h2, h3, h4, h5, h6⟩ := h
  rw [rd29_get M j (by omega), rd29_get l j hj]
  have h7 : (M.drop j)[0]? = (l.drop j)[0]? := by rw [h5]
  rw [List.getElem?_drop, List.getElem?_drop, Nat.add_zero, List.getElem?_eq_getElem (by omega), List.getElem?_eq_getElem hj] at h7
  exact Option.some.inj h7
theorem run_clear_rows {P : Program} (w : World) (t e ty : TypeId) (z : Value) (ht : P.underlying t = some (.slice e)) (hv : ∀ w, (zeroValue e).run P w = .ok z w) (b o n c : Nat) (hn : 0 < n) (vs : List Value) (hvs : vs = (Builtin.zeroCells z.cells n).toList)
    (hc : ∀ j, j < vs.length → (w.cell? ⟨b, o + j, none⟩).isSome = true) (hf : ∀ j, j < vs.length → w.frozen? ⟨b, o + j, none⟩ = false) (h1 : ∀ v ∈ vs, v.oneCell' = true) :
    (Builtin.clear_ #[t] ty #[.slice (some ⟨b, o, none⟩) n c]).run P w = .ok (.tuple #[]) (w.setCells b o vs) := by
  have hst := run_storeCells_cells (P := P) b o vs 0 w (by simpa using hc) (by simpa using hf) h1
  simp only [Nat.add_zero] at hst
  obtain ⟨m, rfl⟩ : ∃ m, n = m + 1 := ⟨n - 1, by omega⟩
  subst hvs
  simp [Builtin.clear_, run_underlying ht, hv, hst]
theorem zero29 (w : World) : (zeroValue 29).run Try.prog w = .ok (.agg #[.int .i64 0, .int .i64 0, .int .i64 0, .int .i64 0]) w := by
  obtain ⟨i0, hi, hz, _, _⟩ := info_parts info29
  simp [zeroValue, typeInfo, hi, hz]
theorem zeros29 (n : Nat) : (Builtin.zeroCells (Value.agg #[.int .i64 0, .int .i64 0, .int .i64 0, .int .i64 0]).cells n).toList.length = n * 4 ∧ ∀ v ∈ (Builtin.zeroCells (Value.agg #[.int .i64 0, .int .i64 0, .int .i64 0, .int .i64 0]).cells n).toList, v.oneCell' = true := by
  refine ⟨by simp [Builtin.zeroCells, Value.cells], fun v hv => ?_⟩
  have hcs : (Value.agg #[.int .i64 0, .int .i64 0, .int .i64 0, .int .i64 0]).cells = #[.int .i64 0, .int .i64 0, .int .i64 0, .int .i64 0] := rfl
  rw [hcs] at hv
  simp only [Builtin.zeroCells, Array.toList_map, List.mem_map] at hv
  obtain ⟨i, _, rfl⟩ := hv
  have h4 : i % (#[Value.int .i64 0, Value.int .i64 0, Value.int .i64 0, Value.int .i64 0] : Array Value).size = 0 ∨ i % (#[Value.int .i64 0, Value.int .i64 0, Value.int .i64 0, Value.int .i64 0] : Array Value).size = 1 ∨ i % (#[Value.int .i64 0, Value.int .i64 0, Value.int .i64 0, Value.int .i64 0] : Array Value).size = 2 ∨ i % (#[Value.int .i64 0, Value.int .i64 0, Value.int .i64 0, Value.int .i64 0] : Array Value).size = 3 := by
    show i % 4 = 0 ∨ i % 4 = 1 ∨ i % 4 = 2 ∨ i % 4 = 3
    omega
  rcases h4 with h | h | h | h <;> rw [h] <;> rfl
theorem take29 {W W' : World} {base g n cap : Nat} {ok : Nat → Prop} {xs : List S29} (h : Kd.R k29 29 W base ok (.slice (some ⟨g, 0, none⟩) n cap) xs) (i : Nat) (hi : i ≤ n) (hn : n ≤ 1000) (hsame : ∀ j, j < i * 4 → W'.cell? ⟨g, j, none⟩ = W.cell? ⟨g, j, none⟩) : Kd.C k29 W' (some ⟨g, 0, none⟩) (xs.take i).length (xs.take i) ∧ (xs.take i).length = i := by
  have hl := (Kd.R_reads' h).1
  have hlen : (xs.take i).length = i := by rw [List.length_take]; omega
  refine ⟨⟨rfl, by omega, fun h0 => ⟨⟨g, 0, none⟩, rfl, fun q x hx => ?_⟩⟩, hlen⟩
  rw [List.getElem?_take] at hx
  have hq : q < i := by
    by_cases h4 : q < i
    · exact h4
    · rw [if_neg h4] at hx
      cases hx
  rw [if_pos hq] at hx
  obtain ⟨⟨c0, c1, c2, c3⟩, _⟩ := el29 h q (by omega)
  have e : rd_T29 xs (q : Int) = x := by
    rw [rd29_get xs q (by omega)]
    rw [List.getElem?_eq_getElem (by omega)] at hx
    exact Option.some.inj hx
  rw [e] at c0 c1 c2 c3
  refine ⟨_, rfl, k29_mk W' x, fun j u hu => ?_⟩
  rw [Addr.add_lit, Nat.zero_add]
  show W'.cell? ⟨g, q * 4 + j, none⟩ = some u
  have hj : j < 4 := by
    have := List.getElem?_eq_some_iff.1 hu
    obtain ⟨h5, _⟩ := this
    exact h5
  rw [hsame _ (by omega)]
  rcases j with _ | _ | _ | _ | j
  · exact (Option.some.inj hu) ▸ c0
  · exact (Option.some.inj hu) ▸ c1
  · exact (Option.some.inj hu) ▸ c2
  · exact (Option.some.inj hu) ▸ c3
  · omega
end Go.Proofs.Ytkkibccnpkbbjab.MFnRouteDrop
