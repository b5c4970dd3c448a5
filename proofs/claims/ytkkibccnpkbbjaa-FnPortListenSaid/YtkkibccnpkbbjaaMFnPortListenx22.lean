/- Functions that the law FnPortListen reaches, typed by hand (part 3 of 4): what the program's and the reference's ports' functions do, and the walk of the law; no conditions but those that each theorem states. -/
import Derived.Test.YtkkibccnpkbbjaaMFnPortListenx21
import Derived.StillTailTactics
import Derived.IntWalk
import Derived.Deep.RegionHeld3
import Derived.Shelf.Spec.SlicesInsertGrow
import Derived.Deep.QuietTactic
import Derived.BigQuiet
import Derived.Deep.RegionLaw
namespace Go.Proofs.Ytkkibccnpkbbjaa.MFnPortsOk
open Go.RowKit Go.Proofs.YtkkibccnpkbbjaaV.PrintWords Go.Proofs.YtkkibccnpkbbjaaV.PrintLast Go.Proofs.YtkkibccnpkbbjaaV.PrintMore
attribute [local go_sem] max2_int min2_int max_two min_two max_three min_three max_four min_four
set_option linter.unusedVariables false
set_option linter.unusedSimpArgs false
/-! ### slices.Insert of one port into ports that fill their row -/
theorem run_copy_two {P : Program} (w : World) (dT sT ty elem : TypeId) (b o dLen dCap : Nat) (a : Addr) (sLen sCap : Nat) (cs : List Value)
    (hu : P.underlying dT = some (.slice elem)) (hs : (P.info? elem).map (·.size) = some 2) (hn : cs.length = Nat.min sLen dLen * 2)
    (hsrc : ∀ j v, cs[j]? = some v → w.cell? (a.add j) = some v) (hc : ∀ j, j < cs.length → (w.cell? ⟨b, o + j, none⟩).isSome = true) (hf : ∀ j, j < cs.length → w.frozen? ⟨b, o + j, none⟩ = false) (h1 : ∀ v ∈ cs, v.oneCell' = true) :
    (Builtin.copy_ #[dT, sT] ty #[.slice (some ⟨b, o, none⟩) dLen dCap, .slice (some a) sLen sCap]).run P w = .ok (goInt (Nat.min sLen dLen)) (w.setCells b o cs) := by
  have hl := run_loadCells_list (P := P) w a cs hsrc
  have hst := run_storeCells_cells (P := P) b o cs 0 w (by simpa using hc) (by simpa using hf) h1
  cases hq : P.info? elem with
  | none => simp [hq] at hs
  | some i =>
    have hi : i.size = 2 := by simpa [hq] using hs
    simp [Builtin.copy_, run_underlying hu, Builtin.lenOf, Builtin.firstCells, sizeOf, typeInfo, hq, hi, ← hn, hl, hst]
set_option maxHeartbeats 4000000 in
set_option maxRecDepth 100000 in
theorem insert47_mid (b n i vb : Nat) (cs vs : List Value) (w : World) (hi : i < n) (hn : n ≤ 1000) (hcl : cs.length = n * 2) (hvl : vs.length = 2)
    (hcs : ∀ j v, cs[j]? = some v → w.cell? ⟨b, j, none⟩ = some v) (hvs : ∀ j v, vs[j]? = some v → w.cell? ⟨vb, j, none⟩ = some v) (h1c : ∀ v ∈ cs, v.oneCell' = true) (h1v : ∀ v ∈ vs, v.oneCell' = true) :
    Calls Try.prog 55 #[.slice (some ⟨b, 0, none⟩) n n, .int .i64 i, .slice (some ⟨vb, 0, none⟩) 1 1] w fun e w' =>
      ∃ G, n + 1 ≤ G ∧ e = .returned (.slice (some ⟨w.heap.size, 0, none⟩) (n + 1) G) ∧
      w' = (((w.alloc (.cells ((cs.take (i * 2)).toArray ++ Builtin.zeroCells (Value.agg #[.int .i64 0, .slice none 0 0]).cells (n + 1 - i) ++ Builtin.zeroCells (Value.agg #[.int .i64 0, .slice none 0 0]).cells (G - (n + 1))) 47)).drew.setCells w.heap.size (i * 2) vs).drew).setCells w.heap.size ((i + 1) * 2) (cs.drop (i * 2)) := by
  have hu25 := Try.underlying25
  have mixed : Try.prog.follows Departure.mixedOrders = true := by kernel_rfl
  obtain ⟨i0, hi0, hz0, hzs, hzb⟩ := info_parts info47
  have hsz : (Try.prog.info? 47).map (·.size) = some 2 := by rw [hi0]; simp [hzs]
  have hbw : b < w.heap.size := block_lt_of_cell (hcs 0 _ (List.getElem?_eq_getElem (by omega)))
  have hvw : vb < w.heap.size := block_lt_of_cell (hvs 0 _ (List.getElem?_eq_getElem (by omega)))
  have hkk : (n : Int) + 1 - (i : Int) = ((n + 1 - i : Nat) : Int) := by omega
  have hik : i + (n + 1 - i) = n + 1 := by omega
  have hold : (Builtin.firstCells i0.size i (.slice (some ⟨b, 0, none⟩) i n)).run Try.prog w.drew = .ok (cs.take (i * 2)).toArray w.drew := by
    rw [hzs]
    exact run_firstCells_some w.drew 2 i ⟨b, 0, none⟩ i n (cs.take (i * 2)) (by rw [List.length_take]; omega) (fun j v hj => by
      rw [Addr.add_lit]
      rw [List.getElem?_take] at hj
      split at hj
      · rw [Nat.zero_add]; exact hcs j v hj
      · cases hj)
  have hrz : ∀ ty, (Builtin.append_ #[25, 3] ty #[.slice (some ⟨b, 0, none⟩) i n, .int .i64 ((n : Int) + 1 - (i : Int))]).run Try.prog w =
      .ok (.slice (some ⟨w.heap.size, 0, none⟩) (n + 1) (grownCap w (n + 1) n 47)) (w.drew.alloc (.cells ((cs.take (i * 2)).toArray ++ Builtin.zeroCells (Value.agg #[.int .i64 0, .slice none 0 0]).cells (n + 1 - i) ++ Builtin.zeroCells (Value.agg #[.int .i64 0, .slice none 0 0]).cells (grownCap w (n + 1) n 47 - (n + 1))) 47)) := fun ty => by
    have h := Lib.run_append_grow_zeros w 25 3 ty 47 i0 _ .i64 .i64 Try.underlying25 Try.underlying3 hi0 hz0 (some ⟨b, 0, none⟩) i n (cs.take (i * 2)) hold (n + 1 - i) (by omega) (by omega) (by omega) (by omega) (by rw [hzb]; omega) (by rw [hzb, hik]; exact growslice_fits (by omega) (by omega))
    rw [hik] at h
    rw [hkk]
    exact h
  obtain ⟨G, hG⟩ : ∃ G, G = grownCap w (n + 1) n 47 := ⟨_, rfl⟩
  have hGn : n + 1 ≤ G := by rw [hG]; exact grownCap_ge w _ _ _
  have hG63 : G ≤ 9223372036854775807 := by
    have := grownCap_le_maxLen w (n + 1) n 47 (by unfold maxLen; omega)
    rw [← hG] at this
    unfold maxLen at this
    omega
  refine (Calls.mono (P := Try.prog) (R := fun e w' => e = .returned (.slice (some ⟨w.heap.size, 0, none⟩) (n + 1) G) ∧ w' = (((w.alloc (.cells ((cs.take (i * 2)).toArray ++ Builtin.zeroCells (Value.agg #[.int .i64 0, .slice none 0 0]).cells (n + 1 - i) ++ Builtin.zeroCells (Value.agg #[.int .i64 0, .slice none 0 0]).cells (G - (n + 1))) 47)).drew.setCells w.heap.size (i * 2) vs).drew).setCells w.heap.size ((i + 1) * 2) (cs.drop (i * 2))) ?_ (fun e w' h => ⟨G, hGn, h⟩))
  obtain ⟨ROW, hROW⟩ : ∃ ROW : Array Value, ROW = (cs.take (i * 2)).toArray ++ Builtin.zeroCells (Value.agg #[.int .i64 0, .slice none 0 0]).cells (n + 1 - i) ++ Builtin.zeroCells (Value.agg #[.int .i64 0, .slice none 0 0]).cells (G - (n + 1)) := ⟨_, rfl⟩
  rw [← hG] at hrz
  rw [← hROW] at hrz ⊢
  have hRl : (n + 1) * 2 ≤ ROW.size := by
    rw [hROW]
    simp [Builtin.zeroCells, Value.cells]
    omega
  obtain ⟨W1, hW1⟩ : ∃ W1, W1 = w.drew.alloc (.cells ROW 47) := ⟨_, rfl⟩
  rw [← hW1] at hrz
  have hN : ∀ j, j < (n + 1) * 2 → (W1.cell? ⟨w.heap.size, j, none⟩).isSome = true := fun j hj => by
    rw [hW1, World.cell?_alloc_at (w := w.drew) ROW _ w.heap.size j rfl, Array.getElem?_eq_getElem (by omega)]; rfl
  have hNf : ∀ j, W1.frozen? ⟨w.heap.size, j, none⟩ = false := fun j => by rw [hW1]; exact World.frozen?_alloc_at (w := w.drew) ROW _ w.heap.size j rfl
  have hOb : ∀ j v, w.cell? ⟨b, j, none⟩ = some v → W1.cell? ⟨b, j, none⟩ = some v := fun j v h => by rw [hW1, World.cell?_alloc_past (w := w.drew) _ b j hbw]; exact h
  have hOv : ∀ j v, w.cell? ⟨vb, j, none⟩ = some v → W1.cell? ⟨vb, j, none⟩ = some v := fun j v h => by rw [hW1, World.cell?_alloc_past (w := w.drew) _ vb j hvw]; exact h
  have hm1 : Nat.min 1 (n + 1 - i) = 1 := by simp only [Nat.min_def]; split <;> omega
  have hcpA : ∀ (W : World), (∀ x, W.cell? x = W1.cell? x) → (∀ x, W.frozen? x = W1.frozen? x) → ∀ ty dc, (Builtin.copy_ #[25, 25] ty #[.slice (some ⟨w.heap.size, i * 2, none⟩) (n + 1 - i) dc, .slice (some ⟨vb, 0, none⟩) 1 1]).run Try.prog W = .ok (goInt (Nat.min 1 (n + 1 - i))) (W.setCells w.heap.size (i * 2) vs) := fun W hWc hWf ty dc =>
    run_copy_two W _ _ ty 47 w.heap.size (i * 2) (n + 1 - i) dc ⟨vb, 0, none⟩ 1 1 vs Try.underlying25 hsz (by rw [hvl, hm1])
      (fun j v hj => by rw [Addr.add_lit, hWc, Nat.zero_add]; exact hOv _ v (hvs j v hj))
      (fun j hj => by rw [hWc]; exact hN _ (by omega)) (fun j hj => by rw [hWf]; exact hNf _) h1v
  have hci : ¬ (n = i) := by omega
  have hbN : b ≠ w.heap.size := by omega
  have hdl : (cs.drop (i * 2)).length = (n - i) * 2 := by rw [List.length_drop, hcl]; omega
  have hm2 : Nat.min (n - i) (n + 1 - (i + 1)) = n - i := by simp only [Nat.min_def]; split <;> omega
  have hcpB : ∀ (W : World), (∀ x, W.cell? x = (W1.setCells w.heap.size (i * 2) vs).cell? x) → (∀ x, W.frozen? x = (W1.setCells w.heap.size (i * 2) vs).frozen? x) → ∀ ty dc sc, (Builtin.copy_ #[25, 25] ty #[.slice (some ⟨w.heap.size, (i + 1) * 2, none⟩) (n + 1 - (i + 1)) dc, .slice (some ⟨b, i * 2, none⟩) (n - i) sc]).run Try.prog W = .ok (goInt (Nat.min (n - i) (n + 1 - (i + 1)))) (W.setCells w.heap.size ((i + 1) * 2) (cs.drop (i * 2))) := fun W hWc hWf ty dc sc =>
    run_copy_two W _ _ ty 47 w.heap.size ((i + 1) * 2) (n + 1 - (i + 1)) dc ⟨b, i * 2, none⟩ (n - i) sc (cs.drop (i * 2)) Try.underlying25 hsz (by rw [hdl, hm2])
      (fun j v hj => by
        rw [Addr.add_lit, hWc, World.cell?_setCells_out _ _ _ _ _ (fun h _ => absurd h hbN)]
        exact hOb _ v (hcs (i * 2 + j) v (by rwa [List.getElem?_drop] at hj)))
      (fun j hj => by rw [hWc]; exact isSome_setCells _ _ _ _ (fun t ht => hN _ (by omega)) _ (hN _ (by omega)))
      (fun j hj => by rw [hWf, World.frozen?_setCells]; exact hNf _) (fun v hv => h1c v (List.mem_of_mem_drop hv))
  subst hW1
  have hE1 : ∀ x, ((w.alloc (.cells ROW 47)).drew).cell? x = (w.drew.alloc (.cells ROW 47)).cell? x := fun x => rfl
  have hE2 : ∀ x, ((w.alloc (.cells ROW 47)).drew).frozen? x = (w.drew.alloc (.cells ROW 47)).frozen? x := fun x => rfl
  have hF1 : ∀ x, (((w.alloc (.cells ROW 47)).drew.setCells w.heap.size (i * 2) vs).drew).cell? x = ((w.drew.alloc (.cells ROW 47)).setCells w.heap.size (i * 2) vs).cell? x := fun x => rfl
  have hF2 : ∀ x, (((w.alloc (.cells ROW 47)).drew.setCells w.heap.size (i * 2) vs).drew).frozen? x = ((w.drew.alloc (.cells ROW 47)).setCells w.heap.size (i * 2) vs).frozen? x := fun x => rfl
  have hGi : ¬ (G = i) := by omega
  have hGim : ¬ (G = i + 1) := by omega
  have hz2 : ¬ ((i : Int) = (n : Int)) := by omega
  have hz3 : (n : Int) < (n : Int) + 1 := by omega
  have hw1 : IntKind.i64.wrap ((i : Int) + 1) = (i : Int) + 1 := by rw [IntKind.wrap_i64]; omega
  have hb1 : (0 : Int) ≤ (i : Int) + 1 := by omega
  have hin : i ≤ n := by omega
  have htn : ((i : Int) + 1).toNat = i + 1 := by omega
  have hb3 : (i : Int) ≤ (n : Int) := by omega
  clear hkk hik hold hROW hG hRl
  go_enter Try.func55, Try.ntmps55
  go_wp2_with (first
    | (at_builtin; refine Lib.wpList_append_run _ rfl _ _ _ _ rfl _ _ rfl rfl _ _ (hrz _) ?_)
    | (at_builtin; refine wpList_copy_runI _ rfl _ _ 25 25 rfl _ _ rfl rfl (hcpA _ hE1 hE2 _ _) ?_)
    | (at_builtin; refine wpList_copy_runI _ rfl _ _ 25 25 rfl _ _ rfl rfl (hcpB _ (fun _ => rfl) (fun _ => rfl) _ _ _) ?_))
  go_region_law_o (refine step_copy_runI rfl _ _ 25 25 rfl (.slice (some ⟨w.heap.size, (i + 1) * 2, none⟩) (n + 1 - (i + 1)) (G - (i + 1))) (.slice (some ⟨b, i * 2, none⟩) (n - i) (n - i)) (by simp [Act.eval, Act.put]) (by simp [Act.eval, Act.put]) (hcpB _ hF1 hF2 3 (G - (i + 1)) (n - i)) ?_)
  go_wp2
  go_ret
  exact ⟨rfl, rfl⟩
theorem C_of_reps {α : Type} {d : Kd α} {w : World} {ad : Addr} {xs : List α} {inner : List Value} (h : Reps (d.K w) d.sz xs inner) (hc : ∀ j u, inner[j]? = some u → w.cell? (ad.add j) = some u) (hm : xs.length ≤ 9223372036854775807) : d.C w (some ad) xs.length xs :=
  ⟨rfl, hm, fun _ => ⟨ad, rfl, fun j p hj => by
    have hk := h.2 j p hj
    refine ⟨(inner.drop (j * d.sz)).take d.sz, d.K_len hk, hk, fun i u hu => ?_⟩
    rw [List.getElem?_take] at hu
    split at hu
    · rw [List.getElem?_drop] at hu
      exact hc _ u hu
    · cases hu⟩⟩
theorem setCells_below {B g : Nat} {w0 : World} : ∀ (vs : List Value) (o : Nat) {w : World}, Below B w0 w → B ≤ g → Below B w0 (w.setCells g o vs)
  | [], _, _, h, _ => h
  | v :: vs, o, w, h, hg => setCells_below vs (o + 1) (w := w.setCell ⟨g, o, none⟩ v) (h.setCell hg _) hg
theorem insert47_at (b n i vb cap : Nat) (l : List S47) (port : Int) (base : Nat) (ok : Nat → Prop) (w : World) (hi : i < n) (hn : n ≤ 1000) (hR : Kd.R k47 47 w base ok (.slice (some ⟨b, 0, none⟩) n n) l) (hv0 : w.cell? ⟨vb, 0, none⟩ = some (.int .i64 port)) (hv1 : w.cell? ⟨vb, 1, none⟩ = some (.slice none 0 0)) :
    Calls Try.prog 55 #[.slice (some ⟨b, 0, none⟩) n n, .int .i64 i, .slice (some ⟨vb, 0, none⟩) 1 1] w fun e w' =>
      ∃ (A : Option Addr) (c : Nat), e = .returned (.slice A (n + 1) c) ∧ n + 1 ≤ c ∧ Kd.C k47 w' A (n + 1) (l.take i ++ [⟨port, []⟩] ++ l.drop i) ∧ Below w.heap.size w w' := by
  obtain ⟨hnl, _, hC⟩ := Kd.R_reads' hR
  obtain ⟨cs, hrep, hcell⟩ := ReadsRow.inner_ hC
  have hcell' : ∀ j v, cs[j]? = some v → w.cell? ⟨b, j, none⟩ = some v := fun j v h => by
    have := hcell j v h
    rwa [add_plain] at this
  have hone : ∀ v ∈ cs, v.oneCell' = true := Kd.reps_one hrep (by decide) (fun p c hp => k47.K_one hp)
  have hvone : ∀ v ∈ [Value.int .i64 port, .slice none 0 0], v.oneCell' = true := fun v hv => by
    rcases List.mem_cons.1 hv with rfl | hv
    · rfl
    · rw [List.mem_singleton.1 hv]; rfl
  refine (insert47_mid b n i vb cs [.int .i64 port, .slice none 0 0] w hi hn (by rw [hrep.1, hnl]; rfl) rfl hcell' (fun j v hj => by
    match j with
    | 0 => have : Value.int .i64 port = v := Option.some.inj hj; rw [← this]; exact hv0
    | 1 => have : Value.slice none 0 0 = v := Option.some.inj hj; rw [← this]; exact hv1
    | j + 2 => cases hj) hone hvone).mono ?_
  rintro e w' ⟨G, hG, he, hw'⟩
  have hcl : cs.length = l.length * 2 := hrep.1
  obtain ⟨W2, hW2⟩ : ∃ W2, W2 = (w.alloc (.cells ((cs.take (i * 2)).toArray ++ Builtin.zeroCells (Value.agg #[.int .i64 0, .slice none 0 0]).cells (n + 1 - i) ++ Builtin.zeroCells (Value.agg #[.int .i64 0, .slice none 0 0]).cells (G - (n + 1))) 47)).drew := ⟨_, rfl⟩
  have hB : Below w.heap.size w w' := by
    rw [hw']
    exact setCells_below _ _ (nw_ (setCells_below _ _ (nw_ (below_alloc (Below.refl _ _) _)) (Nat.le_refl _))) (Nat.le_refl _)
  have hsz : ((cs.take (i * 2)).toArray ++ Builtin.zeroCells (Value.agg #[.int .i64 0, .slice none 0 0]).cells (n + 1 - i) ++ Builtin.zeroCells (Value.agg #[.int .i64 0, .slice none 0 0]).cells (G - (n + 1))).size ≥ (n + 1) * 2 := by
    simp [Builtin.zeroCells, Value.cells]
    omega
  have hR0 : ∀ j, (w.alloc (.cells ((cs.take (i * 2)).toArray ++ Builtin.zeroCells (Value.agg #[.int .i64 0, .slice none 0 0]).cells (n + 1 - i) ++ Builtin.zeroCells (Value.agg #[.int .i64 0, .slice none 0 0]).cells (G - (n + 1))) 47)).drew.cell? ⟨w.heap.size, j, none⟩ = ((cs.take (i * 2)).toArray ++ Builtin.zeroCells (Value.agg #[.int .i64 0, .slice none 0 0]).cells (n + 1 - i) ++ Builtin.zeroCells (Value.agg #[.int .i64 0, .slice none 0 0]).cells (G - (n + 1)))[j]? := fun j => World.cell?_alloc_at (w := w.drew) _ _ w.heap.size j rfl
  have hsome : ∀ j, j < (n + 1) * 2 → ((w.alloc (.cells ((cs.take (i * 2)).toArray ++ Builtin.zeroCells (Value.agg #[.int .i64 0, .slice none 0 0]).cells (n + 1 - i) ++ Builtin.zeroCells (Value.agg #[.int .i64 0, .slice none 0 0]).cells (G - (n + 1))) 47)).drew.cell? ⟨w.heap.size, j, none⟩).isSome = true := fun j hj => by
    rw [hR0, Array.getElem?_eq_getElem (by omega)]; rfl
  have hdl : (cs.drop (i * 2)).length = (n - i) * 2 := by rw [List.length_drop, hcl]; omega
  have hT : ∀ j u, (cs.take (i * 2) ++ [Value.int .i64 port, .slice none 0 0] ++ cs.drop (i * 2))[j]? = some u → w'.cell? ⟨w.heap.size, j, none⟩ = some u := fun j u hu => by
    have htl : (cs.take (i * 2)).length = i * 2 := by rw [List.length_take]; omega
    rw [hw']
    by_cases h1 : j < i * 2
    · rw [World.cell?_setCells_out _ _ _ _ _ (fun _ _ => .inl (by show j < _; omega))]
      rw [show ((w.alloc (.cells ((cs.take (i * 2)).toArray ++ Builtin.zeroCells (Value.agg #[.int .i64 0, .slice none 0 0]).cells (n + 1 - i) ++ Builtin.zeroCells (Value.agg #[.int .i64 0, .slice none 0 0]).cells (G - (n + 1))) 47)).drew.setCells w.heap.size (i * 2) [Value.int .i64 port, .slice none 0 0]).drew.cell? ⟨w.heap.size, j, none⟩ = ((w.alloc (.cells ((cs.take (i * 2)).toArray ++ Builtin.zeroCells (Value.agg #[.int .i64 0, .slice none 0 0]).cells (n + 1 - i) ++ Builtin.zeroCells (Value.agg #[.int .i64 0, .slice none 0 0]).cells (G - (n + 1))) 47)).drew.setCells w.heap.size (i * 2) [Value.int .i64 port, .slice none 0 0]).cell? ⟨w.heap.size, j, none⟩ from rfl]
      rw [World.cell?_setCells_out _ _ _ _ _ (fun _ _ => .inl h1), hR0]
      rw [List.append_assoc, List.getElem?_append_left (by omega)] at hu
      rw [Array.append_assoc, Array.getElem?_append_left (by simp; omega)]
      simpa using hu
    · by_cases h2 : j < (i + 1) * 2
      · rw [World.cell?_setCells_out _ _ _ _ _ (fun _ _ => .inl h2)]
        rw [List.append_assoc, List.getElem?_append_right (by omega), List.getElem?_append_left (by rw [htl]; simp; omega), htl] at hu
        obtain ⟨q, rfl⟩ : ∃ q, j = i * 2 + q := ⟨j - i * 2, by omega⟩
        rw [Nat.add_sub_cancel_left] at hu
        have hq := (List.getElem?_eq_some_iff.1 hu)
        obtain ⟨hq1, hq2⟩ := hq
        have := World.cell?_setCells_in w.heap.size [Value.int .i64 port, .slice none 0 0] (i * 2) ((w.alloc (.cells ((cs.take (i * 2)).toArray ++ Builtin.zeroCells (Value.agg #[.int .i64 0, .slice none 0 0]).cells (n + 1 - i) ++ Builtin.zeroCells (Value.agg #[.int .i64 0, .slice none 0 0]).cells (G - (n + 1))) 47)).drew) (fun j hj => hsome _ (by simp at hj; omega)) q hq1
        rw [hq2] at this
        exact this
      · obtain ⟨q, rfl⟩ : ∃ q, j = (i + 1) * 2 + q := ⟨j - (i + 1) * 2, by omega⟩
        rw [List.getElem?_append_right (by rw [List.length_append, htl]; simp; omega), List.length_append, htl] at hu
        have hu2 : (cs.drop (i * 2))[q]? = some u := by
          rw [← hu]; congr 1; simp; omega
        obtain ⟨hq1, hq2⟩ := List.getElem?_eq_some_iff.1 hu2
        have := World.cell?_setCells_in w.heap.size (cs.drop (i * 2)) ((i + 1) * 2) (((w.alloc (.cells ((cs.take (i * 2)).toArray ++ Builtin.zeroCells (Value.agg #[.int .i64 0, .slice none 0 0]).cells (n + 1 - i) ++ Builtin.zeroCells (Value.agg #[.int .i64 0, .slice none 0 0]).cells (G - (n + 1))) 47)).drew.setCells w.heap.size (i * 2) [Value.int .i64 port, .slice none 0 0]).drew) (fun j hj => isSome_setCells _ _ _ _ (fun t ht => hsome _ (by simp at ht; omega)) _ (hsome _ (by rw [hdl] at hj; omega))) q hq1
        rw [hq2] at this
        exact this
  refine ⟨_, _, he, hG, ?_, hB⟩
  have hlen : (l.take i ++ [(⟨port, []⟩ : S47)] ++ l.drop i).length = n + 1 := by
    simp only [List.length_append, List.length_take, List.length_drop, List.length_singleton]
    omega
  have hreps : Reps (k47.K w) 2 (l.take i ++ [(⟨port, []⟩ : S47)] ++ l.drop i) (cs.take (i * 2) ++ [Value.int .i64 port, .slice none 0 0] ++ cs.drop (i * 2)) := by
    refine Kd.reps_append (Reps.snoc (Kd.reps_take (m := i) hrep (by omega)) (k47_mk w ⟨port, []⟩ (Nat.le_refl 0) (Kd.C_nil k40 w)) rfl) (Kd.reps_drop hrep)
  have := C_of_reps (d := k47) (w := w') (ad := ⟨w.heap.size, 0, none⟩) (hreps.imp_ (fun p c hp => k47.K_below hB hp)) (fun j u hu => by rw [add_plain]; exact hT j u hu) (by rw [hlen]; omega)
  rw [hlen] at this
  exact this
set_option maxHeartbeats 2000000 in
set_option maxRecDepth 100000 in
theorem insert47_end (A : Option Addr) (n vb : Nat) (l : List S47) (port : Int) (base : Nat) (ok : Nat → Prop) (w : World) (hn : n ≤ 1000) (hR : Kd.R k47 47 w base ok (.slice A n n) l) (hok : ∀ k, w.heap.size ≤ k → ok k) (hb : base ≤ w.heap.size) (hv0 : w.cell? ⟨vb, 0, none⟩ = some (.int .i64 port)) (hv1 : w.cell? ⟨vb, 1, none⟩ = some (.slice none 0 0)) :
    Calls Try.prog 55 #[.slice A n n, .int .i64 n, .slice (some ⟨vb, 0, none⟩) 1 1] w fun e w' =>
      ∃ (A : Option Addr) (c : Nat), e = .returned (.slice A (n + 1) c) ∧ n + 1 ≤ c ∧ Kd.C k47 w' A (n + 1) (l ++ [⟨port, []⟩]) ∧ Below base w w' := by
  have HI47 := mk_ info47
  obtain ⟨i47, hi47, _, hsz47, _⟩ := info_parts info47
  have hcut : ∀ W : World, (Instr.slice 25 (.slice A n n) (some (.int .i64 (n : Int))) none none).run Try.prog W = .ok (.slice (if n = (n : Int).toNat then A else A.map (·.add ((n : Int).toNat * 2))) (n - (n : Int).toNat) (n - (n : Int).toNat)) W := cut_from (P := Try.prog) 25 47 .i64 Try.underlying25 hi47 2 hsz47 A n n n (by omega) (by omega)
  have hnl := (Kd.R_reads' hR).1
  have HR := mk_ hR
  have HOK := mk_ hok
  have HBS := mk_ hb
  have HN := mk_ hn
  have HNL := mk_ hnl
  have HRR := mk_ (show ReadsRow (fun (x : S47) cs => x = ⟨port, []⟩ ∧ cs = [.int .i64 port, .slice none 0 0]) 2 w (some ⟨vb, 0, none⟩) 1 [⟨port, []⟩] from ⟨rfl, by decide, fun _ => ⟨⟨vb, 0, none⟩, rfl, fun j p hj => by
    match j with
    | 0 =>
      have : (⟨port, []⟩ : S47) = p := Option.some.inj hj
      refine ⟨[.int .i64 port, .slice none 0 0], rfl, ⟨this.symm, rfl⟩, fun i u hu => ?_⟩
      rw [add_plain]
      match i with
      | 0 => have : Value.int .i64 port = u := Option.some.inj hu; rw [← this]; exact hv0
      | 1 => have : Value.slice none 0 0 = u := Option.some.inj hu; rw [← this]; exact hv1
      | i + 2 => cases hu
    | j + 1 => cases hj⟩⟩)
  clear hR hok hb hn hnl hi47 hsz47 hv0 hv1
  go_enter Try.func55, Try.ntmps55
  go_wp2_with (first | ((with_reducible refine gate_builtin (b := .append) (xs := #[.tmp 23, .tmp 24]) rfl ?_); at_builtin; refine Kd.R_append_rows k47 (w0 := w) base rfl (.tmp 23) (.tmp 24) 25 47 (.agg #[(.int .i64 0), (.slice none 0 0)]) 32 rfl Try.underlying25 HI47.out rfl (by decide) (by omega) (.slice A n n) l [⟨port, []⟩] (some ⟨vb, 0, none⟩) 1 1 ok (fun _ => False) rfl rfl HR.out HRR.out ?aK (fun _ hk => hk.elim) HOK.out (Below.refl _ _) HBS.out ?aL ?_; (case aK => rintro x cs ⟨rfl, rfl⟩; exact k47_mkM _ _ _ ⟨port, []⟩ (Kd.R_nil _ _ _ _ _)); (case aL => have := HN.out; have := HNL.out; omega); intro v1 w1 ho hb hg hat; obtain ⟨A1, c1, hv1, hl1, hc1⟩ := Kd.R_reads ho; rw [List.length_append, List.length_singleton, ← HNL.out] at hv1 hl1; rw [List.length_append, List.length_singleton, ← HNL.out] at hc1; subst hv1; have HC1 := mk_ hc1; have HL1 := mk_ hl1; have HB1 := mk_ hb; clear ho hb hg hat hc1 hl1))
  go_ret
  exact ⟨_, _, rfl, HL1.out, HC1.out, HB1.out⟩
/-! ### impl.PortListen: the plain part -/
theorem place47_less {l : List S47} {t : Int} {p : Nat} (h : place47 l t p false) : l.findIdx (fun q => decide (t < q.f0)) = p := by
  obtain ⟨h1, h2, h3, h4⟩ := h
  have e : ∀ x : Nat, (hx : x < l.length) → rd_T47 l (x : Int) = l[x] := fun x hx => by
    unfold rd_T47
    rw [Int.toNat_natCast, List.getD_eq_getElem?_getD, List.getElem?_eq_getElem hx]
    rfl
  by_cases hp : p < l.length
  · rw [List.findIdx_eq hp]
    have h5 : ¬ (rd_T47 l (p : Int)).f0 = t := fun he => by simpa using h4.mpr ⟨hp, he⟩
    have h6 := h3 p (Nat.le_refl _) hp
    rw [e p hp] at h5 h6
    refine ⟨by simp; omega, fun j hj => ?_⟩
    have := h2 j hj
    rw [e j (by omega)] at this
    simp
    omega
  · obtain rfl : p = l.length := by omega
    rw [List.findIdx_eq_length]
    intro x hx
    obtain ⟨j, hj, rfl⟩ := List.getElem_of_mem hx
    have := h2 j hj
    rw [e j hj] at this
    simp
    omega
theorem small47_put {l : List S47} (h : small47 l) (hl : l.length ≤ 4) (p : Nat) (a : Int) : small47 (l.take p ++ [⟨a, []⟩] ++ l.drop p) := by
  refine ⟨by simp only [List.length_append, List.length_take, List.length_drop, List.length_singleton]; omega, fun q hq => ?_⟩
  rcases List.mem_append.1 hq with hq | hq
  · rcases List.mem_append.1 hq with hq | hq
    · exact h.2 q (List.mem_of_mem_take hq)
    · rw [List.mem_singleton.1 hq]
      exact ⟨by simp, fun m hm => by simp at hm⟩
  · exact h.2 q (List.mem_of_mem_drop hq)
/-- One port put into ports that fill their row. -/
theorem insert47 (A : Option Addr) (vb : Nat) (l : List S47) (p : Nat) (port : Int) (base : Nat) (ok : Nat → Prop) (w : World) (hp : p ≤ l.length) (hn : l.length ≤ 1000) (hR : Kd.R k47 47 w base ok (.slice A l.length l.length) l) (hok : ∀ k, w.heap.size ≤ k → ok k) (hb : base ≤ w.heap.size) (hv0 : w.cell? ⟨vb, 0, none⟩ = some (.int .i64 port)) (hv1 : w.cell? ⟨vb, 1, none⟩ = some (.slice none 0 0)) :
    Calls Try.prog 55 #[.slice A l.length l.length, .int .i64 p, .slice (some ⟨vb, 0, none⟩) 1 1] w fun e w' =>
      ∃ (A : Option Addr) (c : Nat), e = .returned (.slice A (l.length + 1) c) ∧ l.length + 1 ≤ c ∧ Kd.C k47 w' A (l.length + 1) (l.take p ++ [⟨port, []⟩] ++ l.drop p) ∧ Below base w w' := by
  by_cases h : p < l.length
  · obtain ⟨g, cap, hv, _⟩ := Kd.R_form hR (by omega)
    injection hv with h1 h2 h3
    subst h1
    refine (insert47_at g l.length p vb 0 l port base ok w h hn hR hv0 hv1).mono ?_
    rintro e w' ⟨A, c, h1, h2, h3, h4⟩
    exact ⟨A, c, h1, h2, h3, h4.mono hb⟩
  · obtain rfl : p = l.length := by omega
    rw [List.take_length, List.drop_length, List.append_nil]
    exact insert47_end A l.length vb l port base ok w hn hR hok hb hv0 hv1
theorem impl_ports.calls_o (A0 : Option Addr) (n c0 : Nat) (l0 : List S47) (w : World) (hn : n = l0.length) (hr0 : Kd.C k47 w A0 n l0) (hc0 : n ≤ c0) (hs : small47 l0) :
    Calls Try.prog 53 #[.slice A0 n c0] w fun e w' => ∃ (A1 : Option Addr) (c1 : Nat), e = .returned (.slice A1 l0.length c1) ∧ Kd.S k47S 47 w' w.heap.size (fun _ => True) (.slice A1 l0.length c1) l0 ∧ Below w.heap.size w w' := by
  subst hn
  refine (impl_ports.clipped A0 c0 l0 w hr0 hc0 hs).mono ?_
  rintro e w' ⟨A1, rfl, h, hb⟩
  exact ⟨A1, _, rfl, h, hb⟩
set_option maxHeartbeats 4000000 in
set_option maxRecDepth 100000 in
theorem impl_PortListen.calls (A0 : Option Addr) (n c0 : Nat) (l0 : List S47) (a1 : Int) (r : Bool) (o : List S47) (d : Bool) (w : World) (hn : n = l0.length) (hr0 : Kd.C k47 w A0 l0.length l0) (hc0 : l0.length ≤ c0) (hok : impl_PortsOk.f l0 = some r) (hs : r = true → small47 l0 ∧ up47 l0 ∧ l0.length ≤ 4) (hl : listenP r l0 a1 = (o, d)) :
    Calls Try.prog 19 #[.slice A0 n c0, .int .i64 a1] w fun e w' => ∃ (A1 : Option Addr) (c1 : Nat), e = .returned (.tuple #[.slice A1 o.length c1, .bool d]) ∧ Kd.S k47S 47 w' w.heap.size (fun _ => True) (.slice A1 o.length c1) o ∧ Below w.heap.size w w' := by
  subst hn
  have hu47 := Try.underlying47
  have HR := mk_ hr0
  have HC0 := mk_ hc0
  have HOK := mk_ hok
  have HS := mk_ hs
  have HL := mk_ hl
  clear hr0 hc0 hok hs hl
  cases r with
  | false =>
    have h1 : listenP false l0 a1 = ([], false) := by unfold listenP; rw [if_pos (.inl rfl)]
    have h2 := HL.out
    rw [h1] at h2
    injection h2 with h2 h3
    subst h2
    subst h3
    clear h1
    go_enter Try.func19, Try.ntmps19
    go_wp2_with (go_at_call 14; (with_reducible refine (impl_PortsOk.calls A0 c0 l0 false _ ?s1 ?s2 HOK.out).mono ?_); (case s1 => exact HR.out); (case s2 => exact HC0.out); rintro e w3 ⟨rfl, hb⟩; have HB3 := mk_ hb; clear hb)
    refine bodyPost_ret (results_list (rs := [.tmp 4, .tmp 5]) rfl (by simp) (.tmp (.tmp .nil))) rfl ?_
    exact ⟨none, 0, rfl, Kd.S_nil _ _ _ _ _, HB3.out⟩
  | true =>
    obtain ⟨hsm, hup, hl4⟩ := HS.out rfl
    have HSM := mk_ hsm
    have HUP := mk_ hup
    have HL4 := mk_ hl4
    clear hsm hup HS
    by_cases hnum : impl_PortsOk.num a1 = false
    · have h1 : listenP true l0 a1 = ([], false) := by unfold listenP; rw [if_pos (.inr hnum)]
      have h2 := HL.out
      rw [h1] at h2
      injection h2 with h2 h3
      subst h2
      subst h3
      clear h1
      go_enter Try.func19, Try.ntmps19
      go_wp2_with (first | (go_at_call 14; (with_reducible refine (impl_PortsOk.calls A0 c0 l0 true _ ?s1 ?s2 HOK.out).mono ?_); (case s1 => exact HR.out); (case s2 => exact HC0.out); rintro e w3 ⟨rfl, hb⟩; have HB3 := mk_ hb; clear hb) | (go_at_call 43; refine (impl_PortsOk.num_same a1 _).mono ?_; rintro e w' ⟨rfl, rfl⟩))
      refine bodyPost_ret (results_list (rs := [.tmp 4, .tmp 5]) rfl (by simp) (.tmp (.tmp .nil))) rfl ?_
      exact ⟨none, 0, rfl, Kd.S_nil _ _ _ _ _, HB3.out⟩
    · replace hnum : impl_PortsOk.num a1 = true := by simpa using hnum
      obtain ⟨p, b, hpb⟩ := place47_is l0 a1 HUP.out
      have HPB := mk_ hpb
      by_cases hout : b = true ∨ 4 ≤ l0.length
      · have h1 : listenP true l0 a1 = (l0, false) := by
          unfold listenP
          rw [if_neg (by simp [hnum]), if_pos]
          rcases hout with h | h
          · subst h
            obtain ⟨h3, h4, _⟩ := place47_find hpb
            exact .inl (by rw [h3]; exact h4)
          · exact .inr h
        have h2 := HL.out
        rw [h1] at h2
        injection h2 with h2 h3
        subst h2
        subst h3
        clear h1
        have hb30 : b = true ∨ (b = false ∧ decide ((4 : Int) ≤ (l0.length : Int)) = true) := by
          rcases hout with h | h
          · exact .inl h
          · cases b
            · exact .inr ⟨rfl, decide_eq_true (by omega)⟩
            · exact .inl rfl
        clear hout hpb
        rcases hb30 with hb30 | ⟨hb30, hb31⟩
        all_goals
          subst hb30
          go_enter Try.func19, Try.ntmps19
          go_wp2_with (first | (go_at_call 14; (with_reducible refine (impl_PortsOk.calls A0 c0 l0 true _ ?s1 ?s2 HOK.out).mono ?_); (case s1 => exact HR.out); (case s2 => exact HC0.out); rintro e w3 ⟨rfl, hb⟩; have HB3 := mk_ hb; clear hb) | (go_at_call 43; refine (impl_PortsOk.num_same a1 _).mono ?_; rintro e w' ⟨rfl, rfl⟩) | (go_at_call 53; (with_reducible refine (impl_ports.clipped A0 c0 l0 _ ?s1 ?s2 ?s3).mono ?_); (case s1 => exact Kd.C_below HR.out HB3.out); (case s2 => exact HC0.out); (case s3 => exact HSM.out); rintro e w4 ⟨A7, rfl, ho, hb⟩; have HO4 := mk_ ho; have HB4 := mk_ (below_step HB3.out hb); clear ho hb) | (go_at_call 54; (with_reducible refine (impl_portAt.at_ A7 l0.length l0 a1 p _ _ ?s1 ?s2 ?s3 HPB.out).mono ?_); (case s1 => exact (k47S_C (Kd.S_reads' HO4.out).2.2)); (case s2 => exact HSM.out.1); (case s3 => exact HUP.out); rintro e w5 ⟨rfl, hb⟩; have HO5 := mk_ (Kd.S_below HO4.out hb); have HB5 := mk_ (below_step HB4.out hb); clear hb))
          refine bodyPost_ret (results_list (rs := [.tmp 4, .tmp 5]) rfl (by simp) (.tmp (.tmp .nil))) rfl ?_
          exact ⟨_, _, rfl, Kd.S_lower HO5.out HB3.out.size, HB5.out⟩
      · have hbf : b = false := by
          cases b
          · rfl
          · exact absurd (.inl rfl) hout
        have hlt4 : l0.length < 4 := by omega
        subst hbf
        have h1 : listenP true l0 a1 = (l0.take p ++ [⟨a1, []⟩] ++ l0.drop p, true) := by
          unfold listenP
          rw [if_neg (by simp [hnum]), if_neg (fun h => h.elim (place47_none hpb HUP.out) (by omega)), place47_less hpb]
        have h2 := HL.out
        rw [h1] at h2
        injection h2 with h2 h3
        subst h3
        have HO := mk_ h2
        have hb4 : decide ((4 : Int) ≤ (l0.length : Int)) = false := decide_eq_false (by omega)
        have hp := hpb.1
        have HPL := mk_ hp
        have HLN := mk_ (show l0.length ≤ 1000 from HSM.out.1)
        clear h1 h2 hout hpb hlt4 hl4
        go_enter Try.func19, Try.ntmps19
        go_wp2_with (first | (go_at_call 14; (with_reducible refine (impl_PortsOk.calls A0 c0 l0 true _ ?s1 ?s2 HOK.out).mono ?_); (case s1 => exact HR.out); (case s2 => exact HC0.out); rintro e w3 ⟨rfl, hb⟩; have HB3 := mk_ hb; clear hb) | (go_at_call 43; refine (impl_PortsOk.num_same a1 _).mono ?_; rintro e w' ⟨rfl, rfl⟩) | (go_at_call 53; (with_reducible refine (impl_ports.clipped A0 c0 l0 _ ?s1 ?s2 ?s3).mono ?_); (case s1 => exact Kd.C_below HR.out HB3.out); (case s2 => exact HC0.out); (case s3 => exact HSM.out); rintro e w4 ⟨A7, rfl, ho, hb⟩; have HO4 := mk_ ho; have HB4 := mk_ (below_step HB3.out hb); clear ho hb) | (go_at_call 54; (with_reducible refine (impl_portAt.at_ A7 l0.length l0 a1 p _ _ ?s1 ?s2 ?s3 HPB.out).mono ?_); (case s1 => exact (k47S_C (Kd.S_reads' HO4.out).2.2)); (case s2 => exact HSM.out.1); (case s3 => exact HUP.out); rintro e w5 ⟨rfl, hb⟩; have HO5 := mk_ (Kd.S_below HO4.out hb); have HB5 := mk_ (below_step HB4.out hb); clear hb) | (go_at_call 55; (with_reducible refine (insert47 A7 w5.heap.size l0 p a1 w.heap.size (fun _ => True) _ HPL.out HLN.out ?s1 (fun _ _ => trivial) ?s2 ?s3 ?s4).mono ?_); (case s1 => exact Kd.R_lower (k47S_R (Kd.S_alloc HO5.out _)) HB3.out.size); (case s2 => exact (na_ HB5.out _).size); (case s3 => exact (blk_cell (blk_new w5 _) 0).trans rfl); (case s4 => exact (blk_cell (blk_new w5 _) 1).trans rfl); rintro e w6 ⟨A8, c8, rfl, hl8, hc8, hb⟩; have HC8 := mk_ hc8; have HL8 := mk_ hl8; have HB6 := mk_ ((na_ HB5.out _).trans hb); clear hc8 hl8 hb) | (go_at_call 53; (with_reducible refine (impl_ports.calls_o A8 (l0.length + 1) c8 o _ ?t0 ?t1 ?t2 ?t3).mono ?_); (case t0 => rw [← HO.out]; exact (put_length HPL.out a1).symm); (case t1 => exact (by have h_ := HC8.out; rw [HO.out] at h_; exact h_)); (case t2 => exact HL8.out); (case t3 => rw [← HO.out]; exact small47_put HSM.out HL4.out p a1); rintro e w7 ⟨A9, c9, rfl, ho, hb⟩; have HO7 := mk_ ho; have HB7 := mk_ (below_step HB6.out hb); clear ho hb))
        refine bodyPost_ret (results_list (rs := [.tmp 4, .tmp 5]) rfl (by simp) (.tmp (.tmp .nil))) rfl ?_
        exact ⟨_, _, rfl, Kd.S_lower HO7.out HB6.out.size, HB7.out⟩
end Go.Proofs.Ytkkibccnpkbbjaa.MFnPortsOk
