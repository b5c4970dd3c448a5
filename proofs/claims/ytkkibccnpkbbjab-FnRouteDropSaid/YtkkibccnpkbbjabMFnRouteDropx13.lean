/- Functions that the law FnRouteDrop reaches, typed by hand: slices.Insert at routes; no conditions but those that each theorem states. -/
import Derived.Test.YtkkibccnpkbbjabMFnRouteDropx12
import Derived.StillTailTactics
import Derived.IntWalk
import Derived.Deep.RegionHeld3
import Derived.Deep.RegionLaw
import Derived.Shelf.Spec.SlicesInsertGrow
import Derived.Shelf.Spec.SlicesInsert
import Derived.Deep.QuietTactic
import Derived.BigQuiet
namespace Go.Proofs.Ytkkibccnpkbbjab.MFnRouteDrop
open Go.RowKit Go.Proofs.YtkkibccnpkbbjabV.PrintWords Go.Proofs.YtkkibccnpkbbjabV.PrintLast Go.Proofs.YtkkibccnpkbbjabV.PrintMore
attribute [local go_sem] max2_int min2_int max_two min_two max_three min_three max_four min_four
set_option linter.unusedVariables false
set_option linter.unusedSimpArgs false
/-! ### slices.Insert of one route into routes that fill their row -/
theorem run_copy_four {P : Program} (w : World) (dT sT ty elem : TypeId) (b o dLen dCap : Nat) (a : Addr) (sLen sCap : Nat) (cs : List Value)
    (hu : P.underlying dT = some (.slice elem)) (hs : (P.info? elem).map (·.size) = some 4) (hn : cs.length = Nat.min sLen dLen * 4)
    (hsrc : ∀ j v, cs[j]? = some v → w.cell? (a.add j) = some v) (hc : ∀ j, j < cs.length → (w.cell? ⟨b, o + j, none⟩).isSome = true) (hf : ∀ j, j < cs.length → w.frozen? ⟨b, o + j, none⟩ = false) (h1 : ∀ v ∈ cs, v.oneCell' = true) :
    (Builtin.copy_ #[dT, sT] ty #[.slice (some ⟨b, o, none⟩) dLen dCap, .slice (some a) sLen sCap]).run P w = .ok (goInt (Nat.min sLen dLen)) (w.setCells b o cs) := by
  have hl := run_loadCells_list (P := P) w a cs hsrc
  have hst := run_storeCells_cells (P := P) b o cs 0 w (by simpa using hc) (by simpa using hf) h1
  cases hq : P.info? elem with
  | none => simp [hq] at hs
  | some i =>
    have hi : i.size = 4 := by simpa [hq] using hs
    simp [Builtin.copy_, run_underlying hu, Builtin.lenOf, Builtin.firstCells, sizeOf, typeInfo, hq, hi, ← hn, hl, hst]
set_option maxHeartbeats 4000000 in
set_option maxRecDepth 100000 in
theorem insert29_mid (b n i vb : Nat) (cs vs : List Value) (w : World) (hi : i < n) (hn : n ≤ 1000) (hcl : cs.length = n * 4) (hvl : vs.length = 4)
    (hcs : ∀ j v, cs[j]? = some v → w.cell? ⟨b, j, none⟩ = some v) (hvs : ∀ j v, vs[j]? = some v → w.cell? ⟨vb, j, none⟩ = some v) (h1c : ∀ v ∈ cs, v.oneCell' = true) (h1v : ∀ v ∈ vs, v.oneCell' = true) :
    Calls Try.prog 88 #[.slice (some ⟨b, 0, none⟩) n n, .int .i64 i, .slice (some ⟨vb, 0, none⟩) 1 1] w fun e w' =>
      ∃ G, n + 1 ≤ G ∧ e = .returned (.slice (some ⟨w.heap.size, 0, none⟩) (n + 1) G) ∧
      w' = (((w.alloc (.cells ((cs.take (i * 4)).toArray ++ Builtin.zeroCells (Value.agg #[.int .i64 0, .int .i64 0, .int .i64 0, .int .i64 0]).cells (n + 1 - i) ++ Builtin.zeroCells (Value.agg #[.int .i64 0, .int .i64 0, .int .i64 0, .int .i64 0]).cells (G - (n + 1))) 29)).drew.setCells w.heap.size (i * 4) vs).drew).setCells w.heap.size ((i + 1) * 4) (cs.drop (i * 4)) := by
  have hu32 := Try.underlying32
  have mixed : Try.prog.follows Departure.mixedOrders = true := by kernel_rfl
  obtain ⟨i0, hi0, hz0, hzs, hzb⟩ := info_parts info29
  have hsz : (Try.prog.info? 29).map (·.size) = some 4 := by rw [hi0]; simp [hzs]
  have hbw : b < w.heap.size := block_lt_of_cell (hcs 0 _ (List.getElem?_eq_getElem (by omega)))
  have hvw : vb < w.heap.size := block_lt_of_cell (hvs 0 _ (List.getElem?_eq_getElem (by omega)))
  have hkk : (n : Int) + 1 - (i : Int) = ((n + 1 - i : Nat) : Int) := by omega
  have hik : i + (n + 1 - i) = n + 1 := by omega
  have hold : (Builtin.firstCells i0.size i (.slice (some ⟨b, 0, none⟩) i n)).run Try.prog w.drew = .ok (cs.take (i * 4)).toArray w.drew := by
    rw [hzs]
    exact run_firstCells_some w.drew 4 i ⟨b, 0, none⟩ i n (cs.take (i * 4)) (by rw [List.length_take]; omega) (fun j v hj => by
      rw [Addr.add_lit]
      rw [List.getElem?_take] at hj
      split at hj
      · rw [Nat.zero_add]; exact hcs j v hj
      · cases hj)
  have hrz : ∀ ty, (Builtin.append_ #[32, 3] ty #[.slice (some ⟨b, 0, none⟩) i n, .int .i64 ((n : Int) + 1 - (i : Int))]).run Try.prog w =
      .ok (.slice (some ⟨w.heap.size, 0, none⟩) (n + 1) (grownCap w (n + 1) n 29)) (w.drew.alloc (.cells ((cs.take (i * 4)).toArray ++ Builtin.zeroCells (Value.agg #[.int .i64 0, .int .i64 0, .int .i64 0, .int .i64 0]).cells (n + 1 - i) ++ Builtin.zeroCells (Value.agg #[.int .i64 0, .int .i64 0, .int .i64 0, .int .i64 0]).cells (grownCap w (n + 1) n 29 - (n + 1))) 29)) := fun ty => by
    have h := Lib.run_append_grow_zeros w 32 3 ty 29 i0 _ .i64 .i64 Try.underlying32 Try.underlying3 hi0 hz0 (some ⟨b, 0, none⟩) i n (cs.take (i * 4)) hold (n + 1 - i) (by omega) (by omega) (by omega) (by omega) (by rw [hzb]; omega) (by rw [hzb, hik]; exact growslice_fits (by omega) (by omega))
    rw [hik] at h
    rw [hkk]
    exact h
  obtain ⟨G, hG⟩ : ∃ G, G = grownCap w (n + 1) n 29 := ⟨_, rfl⟩
  have hGn : n + 1 ≤ G := by rw [hG]; exact grownCap_ge w _ _ _
  have hG63 : G ≤ 9223372036854775807 := by
    have := grownCap_le_maxLen w (n + 1) n 29 (by unfold maxLen; omega)
    rw [← hG] at this
    unfold maxLen at this
    omega
  refine (Calls.mono (P := Try.prog) (R := fun e w' => e = .returned (.slice (some ⟨w.heap.size, 0, none⟩) (n + 1) G) ∧ w' = (((w.alloc (.cells ((cs.take (i * 4)).toArray ++ Builtin.zeroCells (Value.agg #[.int .i64 0, .int .i64 0, .int .i64 0, .int .i64 0]).cells (n + 1 - i) ++ Builtin.zeroCells (Value.agg #[.int .i64 0, .int .i64 0, .int .i64 0, .int .i64 0]).cells (G - (n + 1))) 29)).drew.setCells w.heap.size (i * 4) vs).drew).setCells w.heap.size ((i + 1) * 4) (cs.drop (i * 4))) ?_ (fun e w' h => ⟨G, hGn, h⟩))
  obtain ⟨ROW, hROW⟩ : ∃ ROW : Array Value, ROW = (cs.take (i * 4)).toArray ++ Builtin.zeroCells (Value.agg #[.int .i64 0, .int .i64 0, .int .i64 0, .int .i64 0]).cells (n + 1 - i) ++ Builtin.zeroCells (Value.agg #[.int .i64 0, .int .i64 0, .int .i64 0, .int .i64 0]).cells (G - (n + 1)) := ⟨_, rfl⟩
  rw [← hG] at hrz
  rw [← hROW] at hrz ⊢
  have hRl : (n + 1) * 4 ≤ ROW.size := by
    rw [hROW]
    simp [Builtin.zeroCells, Value.cells]
    omega
  obtain ⟨W1, hW1⟩ : ∃ W1, W1 = w.drew.alloc (.cells ROW 29) := ⟨_, rfl⟩
  rw [← hW1] at hrz
  have hN : ∀ j, j < (n + 1) * 4 → (W1.cell? ⟨w.heap.size, j, none⟩).isSome = true := fun j hj => by
    rw [hW1, World.cell?_alloc_at (w := w.drew) ROW _ w.heap.size j rfl, Array.getElem?_eq_getElem (by omega)]; rfl
  have hNf : ∀ j, W1.frozen? ⟨w.heap.size, j, none⟩ = false := fun j => by rw [hW1]; exact World.frozen?_alloc_at (w := w.drew) ROW _ w.heap.size j rfl
  have hOb : ∀ j v, w.cell? ⟨b, j, none⟩ = some v → W1.cell? ⟨b, j, none⟩ = some v := fun j v h => by rw [hW1, World.cell?_alloc_past (w := w.drew) _ b j hbw]; exact h
  have hOv : ∀ j v, w.cell? ⟨vb, j, none⟩ = some v → W1.cell? ⟨vb, j, none⟩ = some v := fun j v h => by rw [hW1, World.cell?_alloc_past (w := w.drew) _ vb j hvw]; exact h
  have hm1 : Nat.min 1 (n + 1 - i) = 1 := by simp only [Nat.min_def]; split <;> omega
  have hcpA : ∀ (W : World), (∀ x, W.cell? x = W1.cell? x) → (∀ x, W.frozen? x = W1.frozen? x) → ∀ ty dc, (Builtin.copy_ #[32, 32] ty #[.slice (some ⟨w.heap.size, i * 4, none⟩) (n + 1 - i) dc, .slice (some ⟨vb, 0, none⟩) 1 1]).run Try.prog W = .ok (goInt (Nat.min 1 (n + 1 - i))) (W.setCells w.heap.size (i * 4) vs) := fun W hWc hWf ty dc =>
    run_copy_four W _ _ ty 29 w.heap.size (i * 4) (n + 1 - i) dc ⟨vb, 0, none⟩ 1 1 vs Try.underlying32 hsz (by rw [hvl, hm1])
      (fun j v hj => by rw [Addr.add_lit, hWc, Nat.zero_add]; exact hOv _ v (hvs j v hj))
      (fun j hj => by rw [hWc]; exact hN _ (by omega)) (fun j hj => by rw [hWf]; exact hNf _) h1v
  have hci : ¬ (n = i) := by omega
  have hbN : b ≠ w.heap.size := by omega
  have hdl : (cs.drop (i * 4)).length = (n - i) * 4 := by rw [List.length_drop, hcl]; omega
  have hm2 : Nat.min (n - i) (n + 1 - (i + 1)) = n - i := by simp only [Nat.min_def]; split <;> omega
  have hcpB : ∀ (W : World), (∀ x, W.cell? x = (W1.setCells w.heap.size (i * 4) vs).cell? x) → (∀ x, W.frozen? x = (W1.setCells w.heap.size (i * 4) vs).frozen? x) → ∀ ty dc sc, (Builtin.copy_ #[32, 32] ty #[.slice (some ⟨w.heap.size, (i + 1) * 4, none⟩) (n + 1 - (i + 1)) dc, .slice (some ⟨b, i * 4, none⟩) (n - i) sc]).run Try.prog W = .ok (goInt (Nat.min (n - i) (n + 1 - (i + 1)))) (W.setCells w.heap.size ((i + 1) * 4) (cs.drop (i * 4))) := fun W hWc hWf ty dc sc =>
    run_copy_four W _ _ ty 29 w.heap.size ((i + 1) * 4) (n + 1 - (i + 1)) dc ⟨b, i * 4, none⟩ (n - i) sc (cs.drop (i * 4)) Try.underlying32 hsz (by rw [hdl, hm2])
      (fun j v hj => by
        rw [Addr.add_lit, hWc, World.cell?_setCells_out _ _ _ _ _ (fun h _ => absurd h hbN)]
        exact hOb _ v (hcs (i * 4 + j) v (by rwa [List.getElem?_drop] at hj)))
      (fun j hj => by rw [hWc]; exact isSome_setCells _ _ _ _ (fun t ht => hN _ (by omega)) _ (hN _ (by omega)))
      (fun j hj => by rw [hWf, World.frozen?_setCells]; exact hNf _) (fun v hv => h1c v (List.mem_of_mem_drop hv))
  subst hW1
  have hE1 : ∀ x, ((w.alloc (.cells ROW 29)).drew).cell? x = (w.drew.alloc (.cells ROW 29)).cell? x := fun x => rfl
  have hE2 : ∀ x, ((w.alloc (.cells ROW 29)).drew).frozen? x = (w.drew.alloc (.cells ROW 29)).frozen? x := fun x => rfl
  have hF1 : ∀ x, (((w.alloc (.cells ROW 29)).drew.setCells w.heap.size (i * 4) vs).drew).cell? x = ((w.drew.alloc (.cells ROW 29)).setCells w.heap.size (i * 4) vs).cell? x := fun x => rfl
  have hF2 : ∀ x, (((w.alloc (.cells ROW 29)).drew.setCells w.heap.size (i * 4) vs).drew).frozen? x = ((w.drew.alloc (.cells ROW 29)).setCells w.heap.size (i * 4) vs).frozen? x := fun x => rfl
  have hGi : ¬ (G = i) := by omega
  have hGim : ¬ (G = i + 1) := by omega
  have hz2 : ¬ ((i : Int) = (n : Int)) := by omega
  have hz3 : (n : Int) < (n : Int) + 1 := by omega
  have hw1 : IntKind.i64.wrap ((i : Int) + 1) = (i : Int) + 1 := by rw [IntKind.wrap_i64]; omega
  have hb1 : (0 : Int) ≤ (i : Int) + 1 := by omega
  have hin : i ≤ n := by omega
  have htn : ((i : Int) + 1).toNat = i + 1 := by omega
  have hb3 : (i : Int) ≤ (n : Int) := by omega
  clear hkk hik hold hROW hG hRl
  go_enter Try.func88, Try.ntmps88
  go_wp2_with (first
    | (at_builtin; refine Lib.wpList_append_run _ rfl _ _ _ _ rfl _ _ rfl rfl _ _ (hrz _) ?_)
    | (at_builtin; refine wpList_copy_runI _ rfl _ _ 32 32 rfl _ _ rfl rfl (hcpA _ hE1 hE2 _ _) ?_)
    | (at_builtin; refine wpList_copy_runI _ rfl _ _ 32 32 rfl _ _ rfl rfl (hcpB _ (fun _ => rfl) (fun _ => rfl) _ _ _) ?_))
  go_region_law_o (refine step_copy_runI rfl _ _ 32 32 rfl (.slice (some ⟨w.heap.size, (i + 1) * 4, none⟩) (n + 1 - (i + 1)) (G - (i + 1))) (.slice (some ⟨b, i * 4, none⟩) (n - i) (n - i)) (by simp [Act.eval, Act.put]) (by simp [Act.eval, Act.put]) (hcpB _ hF1 hF2 3 (G - (i + 1)) (n - i)) ?_)
  go_wp2
  go_ret
  exact ⟨rfl, rfl⟩
/-- Three rows of cells, the second and the third stored one after the other. -/
theorem ins_cells {W0 : World} {g i n : Nat} (pre vs post : List Value) (hp : pre.length = i * 4) (hv : vs.length = 4) (hpo : post.length = (n - i) * 4) (hi : i ≤ n) (h0 : ∀ j u, pre[j]? = some u → W0.cell? ⟨g, j, none⟩ = some u) (hsome : ∀ j, j < (n + 1) * 4 → (W0.cell? ⟨g, j, none⟩).isSome = true) :
    ∀ j u, (pre ++ vs ++ post)[j]? = some u → (((W0.setCells g (i * 4) vs).drew).setCells g ((i + 1) * 4) post).cell? ⟨g, j, none⟩ = some u := by
  intro j u hu
  have hs1 : ∀ j, j < (n + 1) * 4 → (((W0.setCells g (i * 4) vs).drew).cell? ⟨g, j, none⟩).isSome = true := fun j hj => isSome_setCells g vs (i * 4) W0 (fun t ht => hsome _ (by omega)) j (hsome j hj)
  by_cases h1 : j < i * 4
  · rw [World.cell?_setCells_out _ _ _ _ _ (fun _ _ => .inl (by show j < _; omega))]
    show (W0.setCells g (i * 4) vs).cell? ⟨g, j, none⟩ = some u
    rw [World.cell?_setCells_out _ _ _ _ _ (fun _ _ => .inl h1)]
    rw [List.append_assoc, List.getElem?_append_left (by omega)] at hu
    exact h0 j u hu
  · by_cases h2 : j < (i + 1) * 4
    · rw [World.cell?_setCells_out _ _ _ _ _ (fun _ _ => .inl h2)]
      show (W0.setCells g (i * 4) vs).cell? ⟨g, j, none⟩ = some u
      rw [List.append_assoc, List.getElem?_append_right (by omega), List.getElem?_append_left (by omega), hp] at hu
      obtain ⟨q, rfl⟩ : ∃ q, j = i * 4 + q := ⟨j - i * 4, by omega⟩
      rw [Nat.add_sub_cancel_left] at hu
      obtain ⟨hq1, hq2⟩ := List.getElem?_eq_some_iff.1 hu
      have := World.cell?_setCells_in g vs (i * 4) W0 (fun j hj => hsome _ (by omega)) q hq1
      rw [hq2] at this
      exact this
    · obtain ⟨q, rfl⟩ : ∃ q, j = (i + 1) * 4 + q := ⟨j - (i + 1) * 4, by omega⟩
      rw [List.getElem?_append_right (by rw [List.length_append]; omega), List.length_append, hp, hv, show (i + 1) * 4 + q - (i * 4 + 4) = q by omega] at hu
      obtain ⟨hq1, hq2⟩ := List.getElem?_eq_some_iff.1 hu
      have := World.cell?_setCells_in g post ((i + 1) * 4) ((W0.setCells g (i * 4) vs).drew) (fun j hj => hs1 _ (by omega)) q hq1
      rw [hq2] at this
      exact this
/-- The same, stored the other way round. -/
theorem ins_cells2 {W0 : World} {g i n : Nat} (pre vs post : List Value) (hp : pre.length = i * 4) (hv : vs.length = 4) (hpo : post.length = (n - i) * 4) (hi : i ≤ n) (h0 : ∀ j u, pre[j]? = some u → W0.cell? ⟨g, j, none⟩ = some u) (hsome : ∀ j, j < (n + 1) * 4 → (W0.cell? ⟨g, j, none⟩).isSome = true) :
    ∀ j u, (pre ++ vs ++ post)[j]? = some u → ((W0.setCells g ((i + 1) * 4) post).setCells g (i * 4) vs).cell? ⟨g, j, none⟩ = some u := by
  intro j u hu
  have hs1 : ∀ j, j < (n + 1) * 4 → ((W0.setCells g ((i + 1) * 4) post).cell? ⟨g, j, none⟩).isSome = true := fun j hj => isSome_setCells g post ((i + 1) * 4) W0 (fun t ht => hsome _ (by omega)) j (hsome j hj)
  by_cases h1 : j < i * 4
  · rw [World.cell?_setCells_out _ _ _ _ _ (fun _ _ => .inl h1), World.cell?_setCells_out _ _ _ _ _ (fun _ _ => .inl (by show j < _; omega))]
    rw [List.append_assoc, List.getElem?_append_left (by omega)] at hu
    exact h0 j u hu
  · by_cases h2 : j < (i + 1) * 4
    · rw [List.append_assoc, List.getElem?_append_right (by omega), List.getElem?_append_left (by omega), hp] at hu
      obtain ⟨q, rfl⟩ : ∃ q, j = i * 4 + q := ⟨j - i * 4, by omega⟩
      rw [Nat.add_sub_cancel_left] at hu
      obtain ⟨hq1, hq2⟩ := List.getElem?_eq_some_iff.1 hu
      have := World.cell?_setCells_in g vs (i * 4) (W0.setCells g ((i + 1) * 4) post) (fun j hj => hs1 _ (by omega)) q hq1
      rw [hq2] at this
      exact this
    · rw [World.cell?_setCells_out _ _ _ _ _ (fun _ _ => .inr (by show _ ≤ j; omega))]
      obtain ⟨q, rfl⟩ : ∃ q, j = (i + 1) * 4 + q := ⟨j - (i + 1) * 4, by omega⟩
      rw [List.getElem?_append_right (by rw [List.length_append]; omega), List.length_append, hp, hv, show (i + 1) * 4 + q - (i * 4 + 4) = q by omega] at hu
      obtain ⟨hq1, hq2⟩ := List.getElem?_eq_some_iff.1 hu
      have := World.cell?_setCells_in g post ((i + 1) * 4) W0 (fun j hj => hsome _ (by omega)) q hq1
      rw [hq2] at this
      exact this
theorem C_of_reps {α : Type} {d : Kd α} {w : World} {ad : Addr} {xs : List α} {inner : List Value} (h : Reps (d.K w) d.sz xs inner) (hc : ∀ j u, inner[j]? = some u → w.cell? (ad.add j) = some u) (hm : xs.length ≤ 9223372036854775807) : d.C w (some ad) xs.length xs :=
  ⟨rfl, hm, fun _ => ⟨ad, rfl, fun j p hj => by
    have hk := h.2 j p hj
    refine ⟨(inner.drop (j * d.sz)).take d.sz, d.K_len hk, hk, fun i u hu => ?_⟩
    rw [List.getElem?_take] at hu
    split at hu
    · rw [List.getElem?_drop] at hu
      exact hc _ u hu
    · cases hu⟩⟩
theorem setCells_below {B g : Nat} {w0 : World} : ∀ (vs : List Value) (o : Nat) {w : World}, Below B w0 w → B ≤ g → Below B w0 (w.setCells g o vs)
  | [], _, _, h, _ => h
  | v :: vs, o, w, h, hg => setCells_below vs (o + 1) (w := w.setCell ⟨g, o, none⟩ v) (h.setCell hg _) hg
set_option maxHeartbeats 2000000 in
theorem insert29_at (b n i vb cap : Nat) (l : List S29) (x0 x1 x2 x3 : Int) (base : Nat) (ok : Nat → Prop) (w : World) (hi : i < n) (hn : n ≤ 1000) (hR : Kd.R k29 29 w base ok (.slice (some ⟨b, 0, none⟩) n n) l) (hv0 : w.cell? ⟨vb, 0, none⟩ = some (.int .i64 x0)) (hv1 : w.cell? ⟨vb, 1, none⟩ = some (.int .i64 x1)) (hv2 : w.cell? ⟨vb, 2, none⟩ = some (.int .i64 x2)) (hv3 : w.cell? ⟨vb, 3, none⟩ = some (.int .i64 x3)) :
    Calls Try.prog 88 #[.slice (some ⟨b, 0, none⟩) n n, .int .i64 i, .slice (some ⟨vb, 0, none⟩) 1 1] w fun e w' =>
      ∃ (A : Option Addr) (c : Nat), e = .returned (.slice A (n + 1) c) ∧ n + 1 ≤ c ∧ Kd.C k29 w' A (n + 1) (l.take i ++ [⟨x0, x1, x2, x3⟩] ++ l.drop i) ∧ Below w.heap.size w w' := by
  obtain ⟨hnl, _, hC⟩ := Kd.R_reads' hR
  obtain ⟨cs, hrep, hcell⟩ := ReadsRow.inner_ hC
  have hcell' : ∀ j v, cs[j]? = some v → w.cell? ⟨b, j, none⟩ = some v := fun j v h => by
    have := hcell j v h
    rwa [add_plain] at this
  have hone : ∀ v ∈ cs, v.oneCell' = true := Kd.reps_one hrep (by decide) (fun p c hp => k29.K_one hp)
  have hvone : ∀ v ∈ [Value.int .i64 x0, .int .i64 x1, .int .i64 x2, .int .i64 x3], v.oneCell' = true := fun v hv => by
    simp only [List.mem_cons, List.not_mem_nil, or_false] at hv
    rcases hv with rfl | rfl | rfl | rfl <;> rfl
  refine (insert29_mid b n i vb cs [.int .i64 x0, .int .i64 x1, .int .i64 x2, .int .i64 x3] w hi hn (by rw [hrep.1, hnl]; rfl) rfl hcell' (fun j v hj => by
    match j with
    | 0 => have : Value.int .i64 x0 = v := Option.some.inj hj; rw [← this]; exact hv0
    | 1 => have : Value.int .i64 x1 = v := Option.some.inj hj; rw [← this]; exact hv1
    | 2 => have : Value.int .i64 x2 = v := Option.some.inj hj; rw [← this]; exact hv2
    | 3 => have : Value.int .i64 x3 = v := Option.some.inj hj; rw [← this]; exact hv3
    | j + 4 => cases hj) hone hvone).mono ?_
  rintro e w' ⟨G, hG, he, hw'⟩
  have hcl : cs.length = l.length * 4 := hrep.1
  obtain ⟨W2, hW2⟩ : ∃ W2, W2 = (w.alloc (.cells ((cs.take (i * 4)).toArray ++ Builtin.zeroCells (Value.agg #[.int .i64 0, .int .i64 0, .int .i64 0, .int .i64 0]).cells (n + 1 - i) ++ Builtin.zeroCells (Value.agg #[.int .i64 0, .int .i64 0, .int .i64 0, .int .i64 0]).cells (G - (n + 1))) 29)).drew := ⟨_, rfl⟩
  have hB : Below w.heap.size w w' := by
    rw [hw']
    exact setCells_below _ _ (nw_ (setCells_below _ _ (nw_ (below_alloc (Below.refl _ _) _)) (Nat.le_refl _))) (Nat.le_refl _)
  have hsz : ((cs.take (i * 4)).toArray ++ Builtin.zeroCells (Value.agg #[.int .i64 0, .int .i64 0, .int .i64 0, .int .i64 0]).cells (n + 1 - i) ++ Builtin.zeroCells (Value.agg #[.int .i64 0, .int .i64 0, .int .i64 0, .int .i64 0]).cells (G - (n + 1))).size ≥ (n + 1) * 4 := by
    simp [Builtin.zeroCells, Value.cells]
    omega
  have hR0 : ∀ j, (w.alloc (.cells ((cs.take (i * 4)).toArray ++ Builtin.zeroCells (Value.agg #[.int .i64 0, .int .i64 0, .int .i64 0, .int .i64 0]).cells (n + 1 - i) ++ Builtin.zeroCells (Value.agg #[.int .i64 0, .int .i64 0, .int .i64 0, .int .i64 0]).cells (G - (n + 1))) 29)).drew.cell? ⟨w.heap.size, j, none⟩ = ((cs.take (i * 4)).toArray ++ Builtin.zeroCells (Value.agg #[.int .i64 0, .int .i64 0, .int .i64 0, .int .i64 0]).cells (n + 1 - i) ++ Builtin.zeroCells (Value.agg #[.int .i64 0, .int .i64 0, .int .i64 0, .int .i64 0]).cells (G - (n + 1)))[j]? := fun j => World.cell?_alloc_at (w := w.drew) _ _ w.heap.size j rfl
  have hsome : ∀ j, j < (n + 1) * 4 → ((w.alloc (.cells ((cs.take (i * 4)).toArray ++ Builtin.zeroCells (Value.agg #[.int .i64 0, .int .i64 0, .int .i64 0, .int .i64 0]).cells (n + 1 - i) ++ Builtin.zeroCells (Value.agg #[.int .i64 0, .int .i64 0, .int .i64 0, .int .i64 0]).cells (G - (n + 1))) 29)).drew.cell? ⟨w.heap.size, j, none⟩).isSome = true := fun j hj => by
    rw [hR0, Array.getElem?_eq_getElem (by omega)]; rfl
  have hdl : (cs.drop (i * 4)).length = (n - i) * 4 := by rw [List.length_drop, hcl]; omega
  have hT : ∀ j u, (cs.take (i * 4) ++ [Value.int .i64 x0, .int .i64 x1, .int .i64 x2, .int .i64 x3] ++ cs.drop (i * 4))[j]? = some u → w'.cell? ⟨w.heap.size, j, none⟩ = some u := by
    have htl : (cs.take (i * 4)).length = i * 4 := by rw [List.length_take]; omega
    have hpre : ∀ j u, (cs.take (i * 4))[j]? = some u → (w.alloc (.cells ((cs.take (i * 4)).toArray ++ Builtin.zeroCells (Value.agg #[.int .i64 0, .int .i64 0, .int .i64 0, .int .i64 0]).cells (n + 1 - i) ++ Builtin.zeroCells (Value.agg #[.int .i64 0, .int .i64 0, .int .i64 0, .int .i64 0]).cells (G - (n + 1))) 29)).drew.cell? ⟨w.heap.size, j, none⟩ = some u := fun j u hu => by
      have hj := (List.getElem?_eq_some_iff.1 hu).1
      rw [hR0, Array.append_assoc, Array.getElem?_append_left (by simp; omega)]
      simpa using hu
    generalize (w.alloc (.cells ((cs.take (i * 4)).toArray ++ Builtin.zeroCells (Value.agg #[.int .i64 0, .int .i64 0, .int .i64 0, .int .i64 0]).cells (n + 1 - i) ++ Builtin.zeroCells (Value.agg #[.int .i64 0, .int .i64 0, .int .i64 0, .int .i64 0]).cells (G - (n + 1))) 29)).drew = W0 at hw' hsome hpre
    rw [hw']
    exact ins_cells (cs.take (i * 4)) [Value.int .i64 x0, .int .i64 x1, .int .i64 x2, .int .i64 x3] (cs.drop (i * 4)) htl rfl hdl (Nat.le_of_lt hi) hpre hsome
  refine ⟨_, _, he, hG, ?_, hB⟩
  have hlen : (l.take i ++ [(⟨x0, x1, x2, x3⟩ : S29)] ++ l.drop i).length = n + 1 := by
    simp only [List.length_append, List.length_take, List.length_drop, List.length_singleton]
    omega
  have hreps : Reps (k29.K w) 4 (l.take i ++ [(⟨x0, x1, x2, x3⟩ : S29)] ++ l.drop i) (cs.take (i * 4) ++ [Value.int .i64 x0, .int .i64 x1, .int .i64 x2, .int .i64 x3] ++ cs.drop (i * 4)) := by
    refine Kd.reps_append (Reps.snoc (Kd.reps_take (m := i) hrep (by omega)) (k29_mk w ⟨x0, x1, x2, x3⟩) rfl) (Kd.reps_drop hrep)
  have := C_of_reps (d := k29) (w := w') (ad := ⟨w.heap.size, 0, none⟩) (hreps.imp_ (fun p c hp => k29.K_below hB hp)) (fun j u hu => by rw [add_plain]; exact hT j u hu) (by rw [hlen]; omega)
  rw [hlen] at this
  exact this
set_option maxHeartbeats 2000000 in
set_option maxRecDepth 100000 in
theorem insert29_end (A : Option Addr) (n c vb : Nat) (l : List S29) (x0 x1 x2 x3 : Int) (base : Nat) (ok : Nat → Prop) (w : World) (hn : n ≤ 1000) (hR : Kd.R k29 29 w base ok (.slice A n c) l) (hok : ∀ k, w.heap.size ≤ k → ok k) (hb : base ≤ w.heap.size) (hv0 : w.cell? ⟨vb, 0, none⟩ = some (.int .i64 x0)) (hv1 : w.cell? ⟨vb, 1, none⟩ = some (.int .i64 x1)) (hv2 : w.cell? ⟨vb, 2, none⟩ = some (.int .i64 x2)) (hv3 : w.cell? ⟨vb, 3, none⟩ = some (.int .i64 x3)) :
    Calls Try.prog 88 #[.slice A n c, .int .i64 n, .slice (some ⟨vb, 0, none⟩) 1 1] w fun e w' =>
      ∃ (A : Option Addr) (c : Nat), e = .returned (.slice A (n + 1) c) ∧ n + 1 ≤ c ∧ Kd.C k29 w' A (n + 1) (l ++ [⟨x0, x1, x2, x3⟩]) ∧ Below base w w' := by
  have HI29 := mk_ info29
  obtain ⟨i29, hi29, _, hsz29, _⟩ := info_parts info29
  have hcut : ∀ W : World, (Instr.slice 32 (.slice A n c) (some (.int .i64 (n : Int))) none none).run Try.prog W = .ok (.slice (if c = (n : Int).toNat then A else A.map (·.add ((n : Int).toNat * 4))) (n - (n : Int).toNat) (c - (n : Int).toNat)) W := cut_from (P := Try.prog) 32 29 .i64 Try.underlying32 hi29 4 hsz29 A n c n (by omega) (by omega)
  have hnl := (Kd.R_reads' hR).1
  have HR := mk_ hR
  have HOK := mk_ hok
  have HBS := mk_ hb
  have HN := mk_ hn
  have HNL := mk_ hnl
  have HRR := mk_ (show ReadsRow (fun (x : S29) cs => x = ⟨x0, x1, x2, x3⟩ ∧ cs = [.int .i64 x0, .int .i64 x1, .int .i64 x2, .int .i64 x3]) 4 w (some ⟨vb, 0, none⟩) 1 [⟨x0, x1, x2, x3⟩] from ⟨rfl, by decide, fun _ => ⟨⟨vb, 0, none⟩, rfl, fun j p hj => by
    match j with
    | 0 =>
      have : (⟨x0, x1, x2, x3⟩ : S29) = p := Option.some.inj hj
      refine ⟨[.int .i64 x0, .int .i64 x1, .int .i64 x2, .int .i64 x3], rfl, ⟨this.symm, rfl⟩, fun i u hu => ?_⟩
      rw [add_plain]
      match i with
      | 0 => have : Value.int .i64 x0 = u := Option.some.inj hu; rw [← this]; exact hv0
      | 1 => have : Value.int .i64 x1 = u := Option.some.inj hu; rw [← this]; exact hv1
      | 2 => have : Value.int .i64 x2 = u := Option.some.inj hu; rw [← this]; exact hv2
      | 3 => have : Value.int .i64 x3 = u := Option.some.inj hu; rw [← this]; exact hv3
      | i + 4 => cases hu
    | j + 1 => cases hj⟩⟩)
  clear hR hok hb hn hnl hi29 hsz29 hv0 hv1 hv2 hv3
  go_enter Try.func88, Try.ntmps88
  go_wp2_with (first | ((with_reducible refine gate_builtin (b := .append) (xs := #[.tmp 23, .tmp 24]) rfl ?_); at_builtin; refine Kd.R_append_rows k29 (w0 := w) base rfl (.tmp 23) (.tmp 24) 32 29 (.agg #[(.int .i64 0), (.int .i64 0), (.int .i64 0), (.int .i64 0)]) 32 rfl Try.underlying32 HI29.out rfl (by decide) (by omega) (.slice A n c) l [⟨x0, x1, x2, x3⟩] (some ⟨vb, 0, none⟩) 1 1 ok (fun _ => False) rfl rfl HR.out HRR.out ?aK (fun _ hk => hk.elim) HOK.out (Below.refl _ _) HBS.out ?aL ?_; (case aK => rintro x cs ⟨rfl, rfl⟩; exact k29_mkM _ _ _ ⟨x0, x1, x2, x3⟩); (case aL => have := HN.out; have := HNL.out; omega); intro v1 w1 ho hb hg hat; obtain ⟨A1, c1, hv1, hl1, hc1⟩ := Kd.R_reads ho; rw [List.length_append, List.length_singleton, ← HNL.out] at hv1 hl1; rw [List.length_append, List.length_singleton, ← HNL.out] at hc1; subst hv1; have HC1 := mk_ hc1; have HL1 := mk_ hl1; have HB1 := mk_ hb; clear ho hb hg hat hc1 hl1))
  all_goals
    go_ret
    exact ⟨_, _, rfl, HL1.out, HC1.out, HB1.out⟩
/-! ### slices.Insert at routes, in place -/
set_option maxHeartbeats 4000000 in
set_option maxRecDepth 100000 in
theorem insert29_shift (b n c i vb : Nat) (cs vs : List Value) (cur vcur : Array Value) (w : World) (hi : i < n) (hn : n ≤ 1000) (hroom : n + 1 ≤ c) (hc63 : c ≤ 9223372036854775807) (hvb : vb ≠ b) (hcl : cs.length = n * 4) (hvl : vs.length = 4)
    (hb : w.heap[b]? = some (.cells cur 29 (0, 0))) (hcur : c * 4 ≤ cur.size) (hv : w.heap[vb]? = some (.cells vcur 29 (0, 0)))
    (hcs : ∀ j v, cs[j]? = some v → w.cell? ⟨b, j, none⟩ = some v) (hvs : ∀ j v, vs[j]? = some v → w.cell? ⟨vb, j, none⟩ = some v) (h1c : ∀ v ∈ cs, v.oneCell' = true) (h1v : ∀ v ∈ vs, v.oneCell' = true) :
    Calls Try.prog 88 #[.slice (some ⟨b, 0, none⟩) n c, .int .i64 i, .slice (some ⟨vb, 0, none⟩) 1 1] w fun e w' =>
      e = .returned (.slice (some ⟨b, 0, none⟩) (n + 1) c) ∧ w' = (w.drew.setCells b ((i + 1) * 4) (cs.drop (i * 4))).setCells b (i * 4) vs := by
  have hu32 := Try.underlying32
  have mixed : Try.prog.follows Departure.mixedOrders = true := by kernel_rfl
  obtain ⟨i0, hi0, hz0, hzs, hzb⟩ := info_parts info29
  have hsz : (Try.prog.info? 29).map (·.size) = some 4 := by rw [hi0]; simp [hzs]
  have hsp : ∀ j, j < (n + 1) * 4 → (w.cell? ⟨b, j, none⟩).isSome = true := fun j hj => by
    rw [blk_cell hb, Array.getElem?_eq_getElem (by omega)]; rfl
  have hfz : ∀ j, w.frozen? ⟨b, j, none⟩ = false := fun j => blk_frozen hb j
  have hov : ∀ lb cb, (callFunc 120 #[.slice (some ⟨vb, 0, none⟩) 1 1, .slice (some ⟨b, (i + 1) * 4, none⟩) lb cb]).run Try.prog w = .ok (.value (.bool false)) w := fun lb cb => by
    rw [run_callFunc_extern Try.func120 (by kernel_rfl) (by kernel_rfl) (by kernel_rfl) (e := Extern.SlicesOverlaps.overlaps #[32, 32] #[4]) (by kernel_rfl),
      Lib.run_overlaps_apart w 32 4 29 hu32 4 (fun w => by simp [Go.sizeOf, typeInfo, hi0, hzs]) ⟨vb, 0, none⟩ ⟨b, (i + 1) * 4, none⟩ 1 1 lb cb hvb 29 29 vcur.size cur.size (by simp [World.shape?, hv]) (by simp [World.shape?, hb]) (by omega) (blk_frozen hv 0) (blk_frozen hv vcur.size)]
    rfl
  have hdl : (cs.drop (i * 4)).length = (n - i) * 4 := by rw [List.length_drop, hcl]; omega
  have hz2 : ¬ ((i : Int) = (n : Int)) := by omega
  have hw1 : IntKind.i64.wrap ((i : Int) + 1) = (i : Int) + 1 := by rw [IntKind.wrap_i64]; omega
  have hwn : IntKind.i64.wrap ((n : Int) + 1) = (n : Int) + 1 := by rw [IntKind.wrap_i64]; omega
  have hb1 : (0 : Int) ≤ (i : Int) + 1 := by omega
  have hin : i ≤ n := by omega
  have htn : ((i : Int) + 1).toNat = i + 1 := by omega
  have hb2 : ¬ (c = i + 1) := by omega
  have hb3 : (i : Int) ≤ (n : Int) + 1 := by omega
  have hb4 : ¬ (c = i) := by omega
  have hb5 : ¬ ((c : Int) < (n : Int) + 1) := by omega
  have hm2 : Nat.min (n + 1 - i) (n - i) = n - i := by simp only [Nat.min_def]; split <;> omega
  have hm1 : Nat.min 1 (n + 1 - i) = 1 := by simp only [Nat.min_def]; split <;> omega
  have hcp1 : ∀ ty dc sc, (Builtin.copy_ #[32, 32] ty #[.slice (some ⟨b, (i + 1) * 4, none⟩) (n - i) dc, .slice (some ⟨b, i * 4, none⟩) (n + 1 - i) sc]).run Try.prog w.drew = .ok (goInt (Nat.min (n + 1 - i) (n - i))) (w.drew.setCells b ((i + 1) * 4) (cs.drop (i * 4))) := fun ty dc sc =>
    run_copy_four w.drew _ _ ty 29 b ((i + 1) * 4) (n - i) dc ⟨b, i * 4, none⟩ (n + 1 - i) sc (cs.drop (i * 4)) hu32 hsz (by rw [hdl, hm2])
      (fun j v hj => by rw [Addr.add_lit]; exact hcs (i * 4 + j) v (by rwa [List.getElem?_drop] at hj))
      (fun j hj => hsp _ (by rw [hdl] at hj; omega)) (fun j hj => hfz _) (fun v hv => h1c v (List.mem_of_mem_drop hv))
  obtain ⟨W1, hW1⟩ : ∃ W1, W1 = w.drew.setCells b ((i + 1) * 4) (cs.drop (i * 4)) := ⟨_, rfl⟩
  have hsp1 : ∀ k, k < (n + 1) * 4 → (W1.cell? ⟨b, k, none⟩).isSome = true := fun k hk => by
    rw [hW1]
    exact isSome_setCells b (cs.drop (i * 4)) ((i + 1) * 4) w.drew (fun j hj => hsp _ (by rw [hdl] at hj; omega)) _ (hsp k hk)
  have hcp2 : ∀ (W : World), (∀ x, W.cell? x = W1.cell? x) → (∀ x, W.frozen? x = W1.frozen? x) → ∀ ty dc, (Builtin.copy_ #[32, 32] ty #[.slice (some ⟨b, i * 4, none⟩) (n + 1 - i) dc, .slice (some ⟨vb, 0, none⟩) 1 1]).run Try.prog W = .ok (goInt (Nat.min 1 (n + 1 - i))) (W.setCells b (i * 4) vs) := fun W hWc hWf ty dc =>
    run_copy_four W _ _ ty 29 b (i * 4) (n + 1 - i) dc ⟨vb, 0, none⟩ 1 1 vs hu32 hsz (by rw [hvl, hm1])
      (fun j v hj => by
        rw [Addr.add_lit, Nat.zero_add, hWc, hW1, World.cell?_setCells_out b _ _ _ _ (fun h _ => absurd h hvb)]
        exact hvs j v hj)
      (fun j hj => by rw [hWc]; exact hsp1 _ (by rw [hvl] at hj; omega)) (fun j hj => by rw [hWf, hW1, World.frozen?_setCells]; exact hfz _) h1v
  rw [← hW1] at hcp1
  clear hsp hfz hdl hsp1 hzb hz0
  go_enter Try.func88, Try.ntmps88
  go_wp2_with (simp only [hov])
  go_region_law_o (refine step_copy_runI rfl _ _ 32 32 rfl _ _ (by simp [Act.eval, Act.put]) (by simp [Act.eval, Act.put]) (hcp1 3 _ _) ?_)
  go_wp2_with (at_builtin; refine wpList_copy_runI _ rfl _ _ 32 32 rfl _ _ rfl rfl (hcp2 _ (fun _ => rfl) (fun _ => rfl) _ _) ?_)
  go_ret
  first | exact ⟨rfl, rfl⟩ | exact ⟨rfl, by rw [hW1]⟩
end Go.Proofs.Ytkkibccnpkbbjab.MFnRouteDrop
