/- Functions that the law FnNoteAbout reaches, each with the proof that the machine's call comes to just its answer; no conditions but those that each theorem states. Printed by a program of this session over the kit's print. -/
import Derived.Test.YtkkibccnpkbbjabMFnNoteAboutx0
import Derived.Test.YtkkibccnpkbbjabMFnNoteAboutx1
namespace Go.Proofs.Ytkkibccnpkbbjab.MFnNoteAbout
open Go.RowKit Go.Proofs.YtkkibccnpkbbjabV.PrintWords Go.Proofs.YtkkibccnpkbbjabV.PrintLast Go.Proofs.YtkkibccnpkbbjabV.PrintMore
attribute [local go_sem] max2_int min2_int max_two min_two max_three min_three max_four min_four   -- for this text's walks alone
set_option linter.unusedVariables false
set_option linter.unusedSimpArgs false

/-! ### slices_Concat_byte_byte: function 106 -/
theorem slices_Concat_byte_byte.at_rows {e : Nat} {w : World} {A : Option Addr} {n : Nat} {xs : List (List Int)} (h : Kd.C (Kd.slice e (Kd.int .u8)) w A n xs) (i : Nat) (h1 : i < n) :
    ∃ ad A0 c0, A = some ad ∧ w.cell? (ad.add i) = some (.slice A0 (xs.getD i []).length c0) ∧ (xs.getD i []).length ≤ c0 ∧ (Kd.int .u8).C w A0 (xs.getD i []).length (xs.getD i []) := by
  obtain ⟨ad, c, e, _, hK, hc0⟩ := Kd.C_get h ([] : List Int) (i : Int) (by omega) (by omega)
  obtain ⟨A0, c0, rfl, l0, g0⟩ := hK
  have hq : w.cell? (ad.add (i * 1 + 0)) = some (.slice A0 (xs.getD i []).length c0) := hc0 0 _ rfl
  rw [Nat.mul_one, Nat.add_zero] at hq
  exact ⟨ad, A0, c0, e, hq, l0, g0⟩
theorem slices_Concat_byte_byte.flat_step (l : List (List Int)) (q : Nat) (h : q < l.length) : (l.take (q + 1)).flatten = (l.take q).flatten ++ l.getD q [] := by
  rw [List.take_succ_eq_append_getElem h, List.flatten_append, List.getD_eq_getElem?_getD, List.getElem?_eq_getElem h]
  simp
theorem slices_Concat_byte_byte.flat_le (l : List (List Int)) (q : Nat) : (l.take q).flatten.length ≤ l.flatten.length := by
  have h := congrArg List.flatten (List.take_append_drop q l)
  rw [List.flatten_append] at h
  rw [← h, List.length_append]
  omega
def slices_Concat_byte_byte.f (l0 : List (List Int)) : Option (List Int) := if l0.flatten.length < 140737488355328 then some l0.flatten else none
set_option maxHeartbeats 1000000 in
set_option maxRecDepth 100000 in
theorem slices_Concat_byte_byte.calls (A0 : Option Addr) (c0 : Nat) (l0 : List (List Int)) (r : List Int) (w : World) (hr0 : Kd.C (Kd.slice 5 (Kd.int .u8)) w A0 l0.length l0) (hc0 : l0.length ≤ c0) (h : slices_Concat_byte_byte.f l0 = some r) :
    Calls Try.prog 106 #[.slice A0 l0.length c0] w fun e w' => ∃ v0_ : Value, e = .returned (v0_) ∧ Kd.R (Kd.int .u8) 5 w' w.heap.size (fun _ => True) v0_ r ∧ Below w.heap.size w w' := by
 have hlim : l0.flatten.length < 140737488355328 := by
   unfold slices_Concat_byte_byte.f at h
   by_cases hl : l0.flatten.length < 140737488355328
   · exact hl
   · rw [if_neg hl] at h; cases h
 obtain rfl : l0.flatten = r := by
   unfold slices_Concat_byte_byte.f at h
   rw [if_pos hlim] at h
   exact Option.some.inj h
 clear h
 have hlen : l0.length ≤ 9223372036854775807 := hr0.2.1
 have HR := Aside0.mk hr0
 have HL := Aside0.mk hlim
 have HI := Aside0.mk info5
 clear hr0 hc0 hlim
 go_enter Try.func106, Try.ntmps106
 go_wp2
 go_loop [3, 11] (fun s i => ∃ q : Nat, q ≤ l0.length ∧ i = .int .i64 q ∧ s = .int .i64 ((l0.take q).flatten.length : Nat)) (fun _ i => l0.length - (intOf i).toNat)
 case atStart => exact ⟨0, Nat.zero_le _, rfl, rfl⟩
 case round =>
  obtain ⟨q, hq, rfl, rfl⟩ := hrel
  by_cases hlt : q < l0.length
  ·obtain ⟨ad, A1, c1, rfl, hcell, hl1, hC1⟩ := slices_Concat_byte_byte.at_rows HR.out q hlt
   have HS := Aside0.mk (congrArg List.length (slices_Concat_byte_byte.flat_step l0 q hlt))
   have hle : (l0.take q).flatten.length + (l0.getD q []).length < 140737488355328 := by
     have h1 := slices_Concat_byte_byte.flat_le l0 (q + 1)
     have h2 := HL.out
     have h3 := HS.out
     rw [List.length_append] at h3
     omega
   clear hC1
   rw [List.length_append] at HS
   generalize (l0.getD q []).length = b at hle hcell hl1 HS
   generalize (l0.take q).flatten.length = a at hle HS ⊢
   go_wp2
   go_round
   case rel => exact ⟨q + 1, by omega, by go_num, by rw [HS.out]; go_num⟩
   case measure => simp [intOf]; omega
  ·obtain rfl : q = l0.length := by omega
   have HQ := Aside0.mk (show (l0.take l0.length).flatten.length < 140737488355328 by rw [List.take_length]; exact HL.out)
   generalize (l0.take l0.length).flatten.length = tot at HQ ⊢
   go_wp2_with (go_at_call 125; (with_reducible refine (slices_Grow_byte_byte.calls _ _ (by omega) (by have := HQ.out; omega)).mono ?_); rintro e w1 ⟨v1, rfl, ho, hb⟩; have HO := Aside0.mk ho; have HB := Aside0.mk hb; clear ho hb)
   go_loopw [6, 27] (fun v i wr => ∃ q : Nat, q ≤ l0.length ∧ i = .int .i64 q ∧ Aside0 (Kd.R (Kd.int .u8) 5 wr w.heap.size (fun _ => True) v ((l0.take q).flatten)) ∧ Aside0 (Below w.heap.size w wr)) (fun _ i _ => l0.length - (intOf i).toNat)
   case atStart => exact ⟨0, Nat.zero_le _, rfl, ⟨HO.out⟩, ⟨HB.out⟩⟩
   case round =>
    obtain ⟨q, hq, rfl, HO2, HB2⟩ := hrel
    by_cases hlt : q < l0.length
    ·obtain ⟨ad, A1, c1, rfl, hcell, hl1, hC1⟩ := slices_Concat_byte_byte.at_rows (Kd.C_below HR.out HB2.out) q hlt
     have HC := Aside0.mk hC1
     have HS := Aside0.mk (slices_Concat_byte_byte.flat_step l0 q hlt)
     have hle : (l0.take q).flatten.length + (l0.getD q []).length < 140737488355328 := by
       have h1 := slices_Concat_byte_byte.flat_le l0 (q + 1)
       have h2 := HL.out
       have h3 := congrArg List.length HS.out
       rw [List.length_append] at h3
       omega
     have HLE := Aside0.mk hle
     clear hC1 hle
     generalize l0.getD q [] = y at HLE hcell hl1 HS HC
     generalize (l0.take q).flatten = z at HLE HS HO2
     have hbs := HB2.out.size
     go_wp2_with (at_builtin; refine Kd.R_append_rows (Kd.int .u8) (w0 := w) w.heap.size rfl (.tmp 31) (.tmp 32) 22 5 (.int .u8 0) 1 rfl Try.underlying22 HI.out rfl (by decide) (by omega) _ z y _ _ _ (fun _ => True) (fun _ => False) rfl rfl ?aO ?aR (fun _ _ h => h) (fun _ h => h.elim) ?aF ?aB ?aS ?aL ?_; (case aO => exact HO2.out); (case aR => exact HC.out); (case aF => exact fun _ _ => trivial); (case aB => exact HB2.out); (case aS => exact hbs); (case aL => have := HLE.out; omega); intro v1 w2 ho hb hg hat; have HO3 := Aside0.mk ho; have HB3 := Aside0.mk hb; clear ho hb hg hat)
     go_roundw
     case rel => exact ⟨q + 1, by omega, by go_num, ⟨by rw [HS.out]; exact HO3.out⟩, ⟨HB3.out⟩⟩
     case measure => simp [intOf]; omega
    ·obtain rfl : q = l0.length := by omega
     go_wp2
     go_ret
     exact ⟨_, rfl, by have := HO2.out; rwa [List.take_length] at this, HB2.out⟩

/-! ### impl_NoteBytes: function 65 -/
def impl_NoteBytes.f (k : Nat) (a0_0 : Int) (a0_1 : Int) (l0_2 : List Int) : Option (List Int) := (impl_NoteOk.f a0_0 a0_1 l0_2).bind fun t126 => (if t126 = true then ((impl_bytesOf.f k a0_1 2).bind fun t130 => ((slices_Concat_byte_byte.f (([(([(a0_0) % 256] : List Int)), t130, (([((l0_2.length : Int)) % 256] : List Int)), l0_2] : List (List Int)))).bind fun t139 => (some t139))) else (some ([] : List Int)))
theorem impl_NoteBytes.mono : ∀ a0 a1 a2 k, LeO (impl_NoteBytes.f k a0 a1 a2) (impl_NoteBytes.f (k + 1) a0 a1 a2) := by
 intro a0 a1 a2 k
 unfold impl_NoteBytes.f
 repeat' first
   | (with_reducible exact impl_bytesOf.mono _ _ _)
   | (with_reducible exact LeO.refl _)
   | (with_reducible exact LeO.none _)
   | (with_reducible refine LeO.ite ?_ ?_)
   | (with_reducible refine LeO.bind ?_ (fun _ => ?_))
   | exact impl_bytesOf.mono _ _ _
   | exact LeO.none _
   | refine LeO.ite ?_ ?_
   | refine LeO.bind ?_ (fun _ => ?_)
def impl_NoteBytes.T3 : Bool × List (List Nat × List Nat) := (true, [([], []), ([0], [0]), ([1], [1]), ([2], [2]), ([], []), ([4], [4]), ([5], [5]), ([], []), ([7], [7]), ([8], [8]), ([9], [9]), ([10], [10]), ([], []), ([12], [12]), ([3, 6, 11, 13], [3, 6, 11, 13]), ([14, 6], [14]), ([15, 15, 0, 1, 2, 3, 4, 5, 6, 7, 8, 9, 10, 11, 12, 13, 14, 15], [15])])
def impl_NoteBytes.B3 : List Nat := [0, 1, 3, 7, 0, 16, 48, 0, 128, 384, 896, 1920, 0, 4096, 16383, 32767, 65535]
theorem impl_NoteBytes.tab3 : rtab .any (opsOf Try.f65 3) = impl_NoteBytes.T3 := by kernel_rfl
theorem impl_NoteBytes.bits3 : waitsOk impl_NoteBytes.T3.2 impl_NoteBytes.B3 = true := by kernel_rfl
set_option maxHeartbeats 8000000 in
set_option maxRecDepth 100000 in
theorem impl_NoteBytes.calls (k : Nat) (a0_0 : Int) (a0_1 : Int) (P0_2_ : Nat → Prop) (A0_2 : Option Addr) (c0_2 : Nat) (l0_2 : List Int) (r : List Int) (w : World) (hs0_2 : Kd.V (Kd.int .u8) 5 w w.heap.size (fun k_ => P0_2_ k_) (.slice A0_2 l0_2.length c0_2) l0_2) (h : impl_NoteBytes.f k a0_0 a0_1 l0_2 = some r) :
  Calls Try.prog 65 #[.agg #[.int .i64 a0_0, .int .i64 a0_1, .slice A0_2 l0_2.length c0_2]] w fun e w' => ∃ v0_ : Value, e = .returned (v0_) ∧ Kd.R (Kd.int .u8) 5 w' w.heap.size (fun k_ => (w.heap.size ≤ k_)) v0_ r ∧ Below w.heap.size w w' := by
 have hu44 := Try.underlying44
 have HO0_2 := mk_ (show Kd.V (Kd.int .u8) 5 w w.heap.size (fun k_ => (P0_2_ k_ ∨ w.heap.size ≤ k_)) (.slice A0_2 l0_2.length c0_2) l0_2 from Kd.V_mono hs0_2 (fun k_ hk => .inl hk))
 have HB := mk_ (Below.refl w.heap.size w)
 have H := h
 unfold impl_NoteBytes.f at H
 clear h
 replace H := Option.bind_eq_some_iff.mp H
 obtain ⟨t126, A20, H⟩ := H
 (try dsimp only at H)
 have A2 := mk_ A20
 clear A20
 by_cases c3 : t126 = true
 rotate_left
 ·replace c3 := Bool.eq_false_iff.mpr c3
  subst c3
  have H1 : (some ([] : List Int)) = some r := by rw [if_neg (show ¬ (false = true) by decide)] at H; exact H
  clear H
  have H := H1
  clear H1
  obtain rfl := Option.some.inj H
  go_enter Try.func65, Try.ntmps65
  go_wp2_with (first | ((with_reducible refine gate_dst (N := 1) rfl ?_); refine box_event ?hg (N := 1) ?hd (cs := #[.int .i64 a0_0, .int .i64 a0_1, .slice A0_2 l0_2.length c0_2]) (t := 44) ?hr ?_; (case hd => rfl); (case hg => rfl); (case hr => first | (go_simp; done) | (go_simp; rfl)); intro gb125 hg w23 hbox hb; replace HO0_2 := mk_ (Kd.V_below (Kd.V_elderB (by (with_reducible repeat (first | apply Kd.V_alloc | apply Kd.V_drewN | apply Kd.V_drew)); exact HO0_2.out) gb125 (Nat.le_of_eq hg.symm)) hb); have n1_ := mk_ (below_step (ub_ HB.out) hb); have BK125 := mk_ (hbox); have GW125 := mk_ ((by rw [hg]; exact (below_size (ub_ HB.out)) : w.heap.size ≤ gb125)); have GE125 := ge_ ((by rw [hg]; exact (below_size (ub_ HB.out)) : w.heap.size ≤ gb125)); replace HB := n1_; clear n1_; clear hb hbox hg; obtain ⟨_, _, _, _, _, _⟩ := cells3_ BK125.out) | ((with_reducible refine gate_callee (f := 105) rfl ?_); refine goesL_ (some 4) rfl rfl Try.func105 (by kernel_rfl) rfl #[.agg #[.int .i64 a0_0, .int .i64 a0_1, .slice A0_2 l0_2.length c0_2]] rfl (by (try simp only [lm_, lo_, ln_]); try rfl) ?_; (with_reducible refine (impl_NoteOk.calls a0_0 a0_1 _ _ l0_2 false _ ?side1 ?side2 A2.out).mono ?_); (case side1 => repeat (first | exact (Kd.V_reads' HO0_2.out).2.2 | (with_reducible refine Kd.C_alloc ?_ _) | (with_reducible refine Kd.C_drewN ?_ _) | (with_reducible refine Kd.C_drew ?_))); (case side2 => exact (Kd.V_reads' HO0_2.out).2.1); rintro e w25 ⟨rfl, hb⟩; refine ⟨_, rfl, ?_⟩; replace HO0_2 := mk_ (Kd.V_below (by (with_reducible repeat (first | apply Kd.V_alloc | apply Kd.V_drewN | apply Kd.V_drew)); exact HO0_2.out) hb); replace BK125 := mk_ (blk_below (u_ BK125.out) hb); replace HB := mk_ (below_step (us_ HB.out) hb)))
  go_ret
  exact ⟨_, by first | rfl | (simp [errW_none, errW_some] <;> rfl) | (simp [*, errW_none, errW_some] <;> rfl), by first | exact Kd.R_nil _ _ _ _ _ | exact Kd.N_nil _ _ _ _ _ | exact Kd.V_nil _ _ _ _ _ | exact Kd.Q_nil _ _ _ _ _ | exact Kd.S_nil _ _ _ _ _, us_ HB.out⟩
 subst c3
 rw [if_pos rfl] at H
 obtain ⟨y127, hy127⟩ : ∃ y_ : List Int, y_ = (([(a0_0) % 256] : List Int)) := ⟨_, rfl⟩
 replace H : ((impl_bytesOf.f k a0_1 2).bind fun t130 => ((slices_Concat_byte_byte.f (([y127, t130, (([((l0_2.length : Int)) % 256] : List Int)), l0_2] : List (List Int)))).bind fun t139 => (some t139))) = some r := by first | (rw [hy127]; with_reducible exact H) | (have H2_ := (Option.bind_some _ _).symm.trans H; rw [hy127]; with_reducible exact H2_) | (have H2_ := (Option.bind_some _ _).symm.trans H; with_reducible exact H2_) | with_reducible exact H | (rw [hy127]; exact H) | exact H
 have Ny127 := mk_ hy127
 clear hy127
 replace H := Option.bind_eq_some_iff.mp H
 obtain ⟨t130, A40, H⟩ := H
 (try dsimp only at H)
 have A4 := mk_ A40
 clear A40
 obtain ⟨y133, hy133⟩ : ∃ y_ : List Int, y_ = (([((l0_2.length : Int)) % 256] : List Int)) := ⟨_, rfl⟩
 replace H : ((slices_Concat_byte_byte.f (([y127, t130, y133, l0_2] : List (List Int)))).bind fun t139 => (some t139)) = some r := by first | (rw [hy133]; with_reducible exact H) | (have H2_ := (Option.bind_some _ _).symm.trans H; rw [hy133]; with_reducible exact H2_) | (have H2_ := (Option.bind_some _ _).symm.trans H; with_reducible exact H2_) | with_reducible exact H | (rw [hy133]; exact H) | exact H
 have Ny133 := mk_ hy133
 clear hy133
 obtain ⟨y136, hy136⟩ : ∃ y_ : List (List Int), y_ = (([y127, t130, y133, l0_2] : List (List Int))) := ⟨_, rfl⟩
 replace H : ((slices_Concat_byte_byte.f y136).bind fun t139 => (some t139)) = some r := by first | (rw [hy136]; with_reducible exact H) | (have H2_ := (Option.bind_some _ _).symm.trans H; rw [hy136]; with_reducible exact H2_) | (have H2_ := (Option.bind_some _ _).symm.trans H; with_reducible exact H2_) | with_reducible exact H | (rw [hy136]; exact H) | exact H
 have Ny136 := mk_ hy136
 clear hy136
 replace H := Option.bind_eq_some_iff.mp H
 obtain ⟨t139, A50, H⟩ := H
 replace H : (some t139) = some r := H
 have A5 := mk_ A50
 clear A50
 obtain rfl := Option.some.inj H
 go_enter Try.func65, Try.ntmps65
 try go_wp2_with (first | ((with_reducible refine gate_dst (N := 1) rfl ?_); refine box_event ?hg (N := 1) ?hd (cs := #[.int .i64 a0_0, .int .i64 a0_1, .slice A0_2 l0_2.length c0_2]) (t := 44) ?hr ?_; (case hd => rfl); (case hg => rfl); (case hr => first | (go_simp; done) | (go_simp; rfl)); intro gb125 hg w6 hbox hb; replace HO0_2 := mk_ (Kd.V_below (Kd.V_elderB (by (with_reducible repeat (first | apply Kd.V_alloc | apply Kd.V_drewN | apply Kd.V_drew)); exact HO0_2.out) gb125 (Nat.le_of_eq hg.symm)) hb); have n1_ := mk_ (below_step (ub_ HB.out) hb); have BK125 := mk_ (hbox); have GW125 := mk_ ((by rw [hg]; exact (below_size (ub_ HB.out)) : w.heap.size ≤ gb125)); have GE125 := ge_ ((by rw [hg]; exact (below_size (ub_ HB.out)) : w.heap.size ≤ gb125)); replace HB := n1_; clear n1_; clear hb hbox hg; obtain ⟨_, _, _, _, _, _⟩ := cells3_ BK125.out) | ((with_reducible refine gate_callee (f := 105) rfl ?_); refine goesL_ (some 4) rfl rfl Try.func105 (by kernel_rfl) rfl #[.agg #[.int .i64 a0_0, .int .i64 a0_1, .slice A0_2 l0_2.length c0_2]] rfl (by (try simp only [lm_, lo_, ln_]); try rfl) ?_; (with_reducible refine (impl_NoteOk.calls a0_0 a0_1 _ _ l0_2 true _ ?side1 ?side2 A2.out).mono ?_); (case side1 => repeat (first | exact (Kd.V_reads' HO0_2.out).2.2 | (with_reducible refine Kd.C_alloc ?_ _) | (with_reducible refine Kd.C_drewN ?_ _) | (with_reducible refine Kd.C_drew ?_))); (case side2 => exact (Kd.V_reads' HO0_2.out).2.1); rintro e w8 ⟨rfl, hb⟩; refine ⟨_, rfl, ?_⟩; replace HO0_2 := mk_ (Kd.V_below (by (with_reducible repeat (first | apply Kd.V_alloc | apply Kd.V_drewN | apply Kd.V_drew)); exact HO0_2.out) hb); replace BK125 := mk_ (blk_below (u_ BK125.out) hb); replace HB := mk_ (below_step (us_ HB.out) hb)))
 have n0_ := mk_ (Kd.V_drew HO0_2.out)
 have n1_ := mk_ (blk_drew BK125.out)
 have n2_ := mk_ (below_drew1 HB.out)
 clear HO0_2
 clear BK125
 clear HB
 have HO0_2 := n0_
 have BK125 := n1_
 have HB := n2_
 clear n0_ n1_ n2_
 refine start_ (n := 17) (S := fun w' => True) (ds := []) #[F_, F_, F_, F_, F_, F_, F_, F_, F_, F_, F_, F_, F_, F_, F_, F_, F_] (by kernel_rfl) rfl rfl trivial (fun hHeld => ?_); refine with_tabW impl_NoteBytes.tab3 impl_NoteBytes.bits3 (fun HT_ HW_ => ?_)
 generalize w8.drew = w9 at HO0_2 BK125 HB hHeld ⊢
 refine pure_ (i := 0) (N := some 6) (v := ?_) (a' := ?_) #[T_, F_, F_, F_, F_, F_, F_, F_, F_, F_, F_, F_, F_, F_, F_, F_, F_] rfl rfl (any_of HT_.out (by kernel_rfl)) (fun _ _ _ h => h) (Or.inl ⟨by rfl, ?_⟩) ?_ ?_
 rotate_left
 ·intro w'
  go_simp
  with_reducible rfl
 rotate_left
 ·simp only [Act.put, la_, lz_, ls_, i64_w, i32_w]
  rfl
 refine pure_ (i := 4) (N := some 10) (v := ?_) (a' := ?_) #[T_, F_, F_, F_, T_, F_, F_, F_, F_, F_, F_, F_, F_, F_, F_, F_, F_] rfl rfl (any_of HT_.out (by kernel_rfl)) (fun _ _ _ h => h) (Or.inl ⟨by rfl, ?_⟩) ?_ ?_
 rotate_left
 ·intro w'
  go_simp
  with_reducible rfl
 rotate_left
 ·simp only [Act.put, la_, lz_, ls_, i64_w, i32_w]
  rfl
 refine pure_ (i := 7) (N := some 13) (v := ?_) (a' := ?_) #[T_, F_, F_, F_, T_, F_, F_, T_, F_, F_, F_, F_, F_, F_, F_, F_, F_] rfl rfl (any_of HT_.out (by kernel_rfl)) (fun _ _ _ h => h) (Or.inl ⟨by rfl, ?_⟩) ?_ ?_
 rotate_left
 ·intro w'
  go_simp
  with_reducible rfl
 rotate_left
 ·simp only [Act.put, la_, lz_, ls_, i64_w, i32_w]
  rfl
 refine pure_ (i := 12) (N := some 18) (v := ?_) (a' := ?_) #[T_, F_, F_, F_, T_, F_, F_, T_, F_, F_, F_, F_, T_, F_, F_, F_, F_] rfl rfl (any_of HT_.out (by kernel_rfl)) (fun _ _ _ h => h) (Or.inl ⟨by rfl, ?_⟩) ?_ ?_
 rotate_left
 ·intro w'
  go_simp
  with_reducible rfl
 rotate_left
 ·simp only [Act.put, la_, lz_, ls_, i64_w, i32_w]
  rfl
 refine inv_at [1, 2, 3, 5, 6, 8, 9, 10, 11, 13, 14, 15, 16] (fun a0_ b a w' => ∃ (v128 : Value) (v131 : Value) (v134 : Value) (v137 : Value) (v140 : Value) (m16_ : Value), a = putSel a0_ b [(1, 7, .int .i64 a0_0), (2, 8, .int .u8 ((a0_0) % 256)), (3, 9, v128), (5, 11, .int .i64 a0_1), (6, 12, v131), (8, 14, .slice A0_2 l0_2.length c0_2), (9, 15, .int .i64 (l0_2.length : Int)), (10, 16, .int .u8 (((l0_2.length : Int)) % 256)), (11, 17, v134), (13, 19, .slice A0_2 l0_2.length c0_2), (14, 20, v137), (15, 21, v140), (16, 2, m16_)] ∧ (Kd.V (Kd.int .u8) 5 w' w.heap.size (fun k_ => (P0_2_ k_ ∨ w.heap.size ≤ k_) ∧ k_ ≠ gb125) (.slice A0_2 l0_2.length c0_2) l0_2) ∧ (w'.heap[gb125]? = some (.cells #[.int .i64 a0_0, .int .i64 a0_1, .slice A0_2 l0_2.length c0_2] 44 (0, 0))) ∧ (Below w.heap.size w w') ∧ (b 3 = true → b 14 = false → Kd.R (Kd.int .u8) 5 w' w.heap.size (fun k_ => (w.heap.size ≤ k_)) v128 y127) ∧ (b 6 = true → b 14 = false → Kd.R (Kd.int .u8) 5 w' w.heap.size (fun k_ => (w.heap.size ≤ k_)) v131 t130) ∧ (b 11 = true → b 14 = false → Kd.R (Kd.int .u8) 5 w' w.heap.size (fun k_ => (w.heap.size ≤ k_)) v134 y133) ∧ (b 14 = true → Kd.N (Kd.slice 5 (Kd.int .u8)) 22 w' w.heap.size (fun k_ => (P0_2_ k_ ∨ w.heap.size ≤ k_) ∧ k_ ≠ gb125) v137 y136) ∧ (b 15 = true → Kd.R (Kd.int .u8) 5 w' w.heap.size (fun k_ => (w.heap.size ≤ k_)) v140 t139) ∧ (b 16 = true → (m16_ : Value) = v140)) HT_.out HW_.out (by kernel_rfl) (by kernel_rfl) ?_ ?_ ?_
 ·exact ⟨.bool false, .bool false, .bool false, .bool false, .bool false, .bool false, by simp only [putSel, Bool.false_eq_true, if_false], HO0_2.out, BK125.out, HB.out, fun h_ => absurd h_ (by decide), fun h_ => absurd h_ (by decide), fun h_ => absurd h_ (by decide), fun h_ => absurd h_ (by decide), fun h_ => absurd h_ (by decide), fun h_ => absurd h_ (by decide)⟩
 ·skip
  clear BK125 HB HO0_2
  refine steps_cons ?_ ?_
  ·rintro b a w' ⟨v128, v131, v134, v137, v140, m16_, ha, Q_HO0_2, Q_BK125, Q_HB, Q_HO129, Q_HO132, Q_HO135, Q_HO138, Q_HO141, Q_X16_⟩ hb_ hon hoff
   refine ⟨_, rfl, fun K hK => ?_⟩
   have e6 : a.tmps[6]? = some (.pointer (some ⟨gb125, 0, none⟩)) := by rw [ha]; exact (putSel_off rfl).trans rfl
   replace ha := mk_ ha
   have HO0_2 := mk_ Q_HO0_2
   have BK125 := mk_ Q_BK125
   have HB := mk_ Q_HB
   have hc0_ : w'.cell? ⟨gb125, 0, none⟩ = some (.int .i64 a0_0) := (blk_cell BK125.out 0).trans rfl
   have hc1_ : w'.cell? ⟨gb125, 1, none⟩ = some (.int .i64 a0_1) := (blk_cell BK125.out 1).trans rfl
   have hc2_ : w'.cell? ⟨gb125, 2, none⟩ = some (.slice A0_2 l0_2.length c0_2) := (blk_cell BK125.out 2).trans rfl
   refine value_ (w1 := w') (v := .int .i64 a0_0) (by rfl) rfl ?_ ?_
   ·go_simp
    (try simp only [i64_w])
    try rfl
   refine hK.out _ _ ⟨v128, v131, v134, v137, v140, m16_, (by rw [ha.out]; exact putSel_upk 0 hb_ rfl rfl rfl), Q_HO0_2, Q_BK125, Q_HB, fun h0_ _ => absurd ((hoff 3 (by kernel_rfl)).symm.trans h0_) (by decide), Q_HO132, Q_HO135, fun h0_ => absurd ((hoff 14 (by kernel_rfl)).symm.trans h0_) (by decide), fun h0_ => absurd ((hoff 15 (by kernel_rfl)).symm.trans h0_) (by decide), fun h0_ => absurd ((hoff 16 (by kernel_rfl)).symm.trans h0_) (by decide)⟩
  refine steps_cons ?_ ?_
  ·rintro b a w' ⟨v128, v131, v134, v137, v140, m16_, ha, Q_HO0_2, Q_BK125, Q_HB, Q_HO129, Q_HO132, Q_HO135, Q_HO138, Q_HO141, Q_X16_⟩ hb_ hon hoff
   refine ⟨_, rfl, fun K hK => ?_⟩
   have e7 : a.tmps[7]? = some (.int .i64 a0_0) := by rw [ha]; exact putSel_on (e := (1, 7, .int .i64 a0_0)) 0 rfl rfl (hon 1 (by kernel_rfl)) rfl
   replace ha := mk_ ha
   have HO0_2 := mk_ Q_HO0_2
   have BK125 := mk_ Q_BK125
   have HB := mk_ Q_HB
   refine value_ (w1 := w') (v := .int .u8 ((a0_0) % 256)) (by rfl) rfl ?_ ?_
   ·go_simp
    (try simp only [i64_w])
    try rfl
   refine hK.out _ _ ⟨v128, v131, v134, v137, v140, m16_, (by rw [ha.out]; exact putSel_upk 1 hb_ rfl rfl rfl), Q_HO0_2, Q_BK125, Q_HB, fun h0_ _ => absurd ((hoff 3 (by kernel_rfl)).symm.trans h0_) (by decide), Q_HO132, Q_HO135, fun h0_ => absurd ((hoff 14 (by kernel_rfl)).symm.trans h0_) (by decide), fun h0_ => absurd ((hoff 15 (by kernel_rfl)).symm.trans h0_) (by decide), fun h0_ => absurd ((hoff 16 (by kernel_rfl)).symm.trans h0_) (by decide)⟩
  refine steps_cons ?_ ?_
  ·rintro b a w' ⟨v128, v131, v134, v137, v140, m16_, ha, Q_HO0_2, Q_BK125, Q_HB, Q_HO129, Q_HO132, Q_HO135, Q_HO138, Q_HO141, Q_X16_⟩ hb_ hon hoff
   refine ⟨_, rfl, fun K hK => ?_⟩
   have e8 : a.tmps[8]? = some (.int .u8 ((a0_0) % 256)) := by rw [ha]; exact putSel_on (e := (2, 8, .int .u8 ((a0_0) % 256))) 1 rfl rfl (hon 2 (by kernel_rfl)) rfl
   replace ha := mk_ ha
   have HO0_2 := mk_ Q_HO0_2
   have BK125 := mk_ Q_BK125
   have HB := mk_ Q_HB
   refine Kd.R_lit_step (Kd.int .u8) _ 5 ?hg (N := 9) ?hd (xs := ([(a0_0) % 256] : List Int)) (inner := [.int .u8 ((a0_0) % 256)]) (ok := fun _ => True) (okp := fun _ => True) ?hr ?hp (fun _ hk => hk) trivial (Below.refl _ _) (Nat.le_refl _) (by simp) ?_; (case hd => rfl); (case hg => rfl); (case hr => first | (go_simp; done) | (go_simp; rfl)); (case hp => exact (Reps.one (show Kd.M (Kd.int .u8) _ _ _ ((a0_0) % 256) [.int .u8 ((a0_0) % 256)] from rfl) (Reps.none _ _)))
   intro v128 w10 ho11 hb hg_ hnew_
   clear hg_ hnew_
   (first | rw [← Ny127.out] at ho11 | (simp only [Int.reduceToNat] at ho11; rw [← Ny127.out] at ho11))
   have n0_ := mk_ (Kd.V_elder' (by (with_reducible repeat (first | apply Kd.V_alloc | apply Kd.V_drewN | apply Kd.V_drew)); exact HO0_2.out) (Kd.R_base ho11) hb)
   have n1_ := mk_ (Kd.R_lower (Kd.R_newM (M := fun k_ => (w.heap.size ≤ k_)) ho11 (below_size (us_ HB.out)) (fun k_ h_ => h_)) (below_size (us_ HB.out)))
   have n2_ := mk_ (blk_below (u_ BK125.out) hb)
   have n3_ := mk_ (below_step (us_ HB.out) hb)
   have z_HO132 := fun (h0_ : b 6 = true) (h1_ : b 14 = false) => (show Kd.R (Kd.int .u8) 5 w10 w.heap.size (fun k_ => (w.heap.size ≤ k_)) v131 t130 from by first | exact (Kd.R_elder' (by (with_reducible repeat (first | apply Kd.R_alloc | apply Kd.R_drewN | apply Kd.R_drew)); exact (Q_HO132 h0_ h1_)) (Kd.R_base ho11) hb) | exact Kd.R_mono (Kd.R_elder' (by (with_reducible repeat (first | apply Kd.R_alloc | apply Kd.R_drewN | apply Kd.R_drew)); exact (Q_HO132 h0_ h1_)) (Kd.R_base ho11) hb) (fun _ h_ => by first | trivial | exact h_ | exact h_.1))
   have z_HO135 := fun (h0_ : b 11 = true) (h1_ : b 14 = false) => (show Kd.R (Kd.int .u8) 5 w10 w.heap.size (fun k_ => (w.heap.size ≤ k_)) v134 y133 from by first | exact (Kd.R_elder' (by (with_reducible repeat (first | apply Kd.R_alloc | apply Kd.R_drewN | apply Kd.R_drew)); exact (Q_HO135 h0_ h1_)) (Kd.R_base ho11) hb) | exact Kd.R_mono (Kd.R_elder' (by (with_reducible repeat (first | apply Kd.R_alloc | apply Kd.R_drewN | apply Kd.R_drew)); exact (Q_HO135 h0_ h1_)) (Kd.R_base ho11) hb) (fun _ h_ => by first | trivial | exact h_ | exact h_.1))
   clear HO0_2
   clear BK125
   clear HB
   have HO0_2 := n0_
   have HO129 := n1_
   have BK125 := n2_
   have HB := n3_
   clear n0_ n1_ n2_ n3_
   clear hb ho11
   refine hK.out _ _ ⟨v128, v131, v134, v137, v140, m16_, (by rw [ha.out]; exact putSel_upk 2 hb_ rfl rfl rfl), (by (with_reducible repeat (first | apply Kd.V_alloc | apply Kd.V_drewN | apply Kd.V_drew)); exact Kd.V_mono HO0_2.out (fun _ hk => by first | exact ⟨hk.1.1, ⟨hk.2, hk.1.2⟩⟩ | exact hk.1 | exact hk | exact ⟨hk.1, hk.2⟩ | exact ⟨.inr hk.1, hk.2⟩ | simp only [hk, ne_eq, not_false_eq_true, and_self])), (u_ BK125.out), (us_ HB.out), fun _ _ => (by (with_reducible repeat (first | apply Kd.R_alloc | apply Kd.R_drewN | apply Kd.R_drew)); exact Kd.R_mono HO129.out (fun _ hk => hk.1)), z_HO132, z_HO135, fun h0_ => absurd ((hoff 14 (by kernel_rfl)).symm.trans h0_) (by decide), fun h0_ => absurd ((hoff 15 (by kernel_rfl)).symm.trans h0_) (by decide), fun h0_ => absurd ((hoff 16 (by kernel_rfl)).symm.trans h0_) (by decide)⟩
  refine steps_cons ?_ ?_
  ·rintro b a w' ⟨v128, v131, v134, v137, v140, m16_, ha, Q_HO0_2, Q_BK125, Q_HB, Q_HO129, Q_HO132, Q_HO135, Q_HO138, Q_HO141, Q_X16_⟩ hb_ hon hoff
   refine ⟨_, rfl, fun K hK => ?_⟩
   have e10 : a.tmps[10]? = some (.pointer (some ⟨gb125, 1, none⟩)) := by rw [ha]; exact (putSel_off rfl).trans rfl
   replace ha := mk_ ha
   have HO0_2 := mk_ Q_HO0_2
   have BK125 := mk_ Q_BK125
   have HB := mk_ Q_HB
   have hc0_ : w'.cell? ⟨gb125, 0, none⟩ = some (.int .i64 a0_0) := (blk_cell BK125.out 0).trans rfl
   have hc1_ : w'.cell? ⟨gb125, 1, none⟩ = some (.int .i64 a0_1) := (blk_cell BK125.out 1).trans rfl
   have hc2_ : w'.cell? ⟨gb125, 2, none⟩ = some (.slice A0_2 l0_2.length c0_2) := (blk_cell BK125.out 2).trans rfl
   refine value_ (w1 := w') (v := .int .i64 a0_1) (by rfl) rfl ?_ ?_
   ·go_simp
    (try simp only [i64_w])
    try rfl
   refine hK.out _ _ ⟨v128, v131, v134, v137, v140, m16_, (by rw [ha.out]; exact putSel_upk 3 hb_ rfl rfl rfl), Q_HO0_2, Q_BK125, Q_HB, Q_HO129, fun h0_ _ => absurd ((hoff 6 (by kernel_rfl)).symm.trans h0_) (by decide), Q_HO135, fun h0_ => absurd ((hoff 14 (by kernel_rfl)).symm.trans h0_) (by decide), fun h0_ => absurd ((hoff 15 (by kernel_rfl)).symm.trans h0_) (by decide), fun h0_ => absurd ((hoff 16 (by kernel_rfl)).symm.trans h0_) (by decide)⟩
  refine steps_cons ?_ ?_
  ·rintro b a w' ⟨v128, v131, v134, v137, v140, m16_, ha, Q_HO0_2, Q_BK125, Q_HB, Q_HO129, Q_HO132, Q_HO135, Q_HO138, Q_HO141, Q_X16_⟩ hb_ hon hoff
   refine ⟨_, rfl, fun K hK => ?_⟩
   have e11 : a.tmps[11]? = some (.int .i64 a0_1) := by rw [ha]; exact putSel_on (e := (5, 11, .int .i64 a0_1)) 3 rfl rfl (hon 5 (by kernel_rfl)) rfl
   replace ha := mk_ ha
   have HO0_2 := mk_ Q_HO0_2
   have BK125 := mk_ Q_BK125
   have HB := mk_ Q_HB
   refine goes_ Try.func98 (by kernel_rfl) rfl #[.int .i64 a0_1, .int .i64 2] (by rfl) rfl rfl (by first | (simp only [List.map_toArray, List.map_cons, List.map_nil, Act.eval, Array.getD_eq_getD_getElem?, Option.getD_some, e11]; done) | (simp only [List.map_toArray, List.map_cons, List.map_nil, Act.eval, Array.getD_eq_getD_getElem?, Option.getD_some, e11]; rfl)) ?_
   with_reducible refine (impl_bytesOf.calls k a0_1 2 t130 _ A4.out).mono ?_
   rintro e w10 ⟨v131, rfl, ho0, hb⟩
   refine ⟨_, rfl, ?_⟩
   have n0_ := mk_ (Kd.V_elder' (by (with_reducible repeat (first | apply Kd.V_alloc | apply Kd.V_drewN | apply Kd.V_drew)); exact HO0_2.out) (Kd.R_base ho0) hb)
   have n1_ := mk_ (Kd.R_lower (Kd.R_newM (M := fun k_ => (w.heap.size ≤ k_)) ho0 (below_size (us_ HB.out)) (fun k_ h_ => h_)) (below_size (us_ HB.out)))
   have n2_ := mk_ (blk_below (u_ BK125.out) hb)
   have n3_ := mk_ (below_step (us_ HB.out) hb)
   have z_HO129 := fun (h0_ : b 3 = true) (h1_ : b 14 = false) => (show Kd.R (Kd.int .u8) 5 w10 w.heap.size (fun k_ => (w.heap.size ≤ k_)) v128 y127 from by first | exact (Kd.R_elder' (by (with_reducible repeat (first | apply Kd.R_alloc | apply Kd.R_drewN | apply Kd.R_drew)); exact (Q_HO129 h0_ h1_)) (Kd.R_base ho0) hb) | exact Kd.R_mono (Kd.R_elder' (by (with_reducible repeat (first | apply Kd.R_alloc | apply Kd.R_drewN | apply Kd.R_drew)); exact (Q_HO129 h0_ h1_)) (Kd.R_base ho0) hb) (fun _ h_ => by first | trivial | exact h_ | exact h_.1))
   have z_HO135 := fun (h0_ : b 11 = true) (h1_ : b 14 = false) => (show Kd.R (Kd.int .u8) 5 w10 w.heap.size (fun k_ => (w.heap.size ≤ k_)) v134 y133 from by first | exact (Kd.R_elder' (by (with_reducible repeat (first | apply Kd.R_alloc | apply Kd.R_drewN | apply Kd.R_drew)); exact (Q_HO135 h0_ h1_)) (Kd.R_base ho0) hb) | exact Kd.R_mono (Kd.R_elder' (by (with_reducible repeat (first | apply Kd.R_alloc | apply Kd.R_drewN | apply Kd.R_drew)); exact (Q_HO135 h0_ h1_)) (Kd.R_base ho0) hb) (fun _ h_ => by first | trivial | exact h_ | exact h_.1))
   clear HO0_2
   clear BK125
   clear HB
   have HO0_2 := n0_
   have HO132 := n1_
   have BK125 := n2_
   have HB := n3_
   clear n0_ n1_ n2_ n3_
   (try clear hb)
   (try clear hb2)
   (try clear hk)
   (try clear hi)
   (try clear ho0)
   refine hK.out _ _ ⟨v128, v131, v134, v137, v140, m16_, (by rw [ha.out]; exact putSel_upk 4 hb_ rfl rfl rfl), (by (with_reducible repeat (first | apply Kd.V_alloc | apply Kd.V_drewN | apply Kd.V_drew)); exact Kd.V_mono HO0_2.out (fun _ hk => by first | exact ⟨hk.1.1, ⟨hk.2, hk.1.2⟩⟩ | exact hk.1 | exact hk | exact ⟨hk.1, hk.2⟩ | exact ⟨.inr hk.1, hk.2⟩ | simp only [hk, ne_eq, not_false_eq_true, and_self])), (u_ BK125.out), (us_ HB.out), z_HO129, fun _ _ => (by (with_reducible repeat (first | apply Kd.R_alloc | apply Kd.R_drewN | apply Kd.R_drew)); exact Kd.R_mono HO132.out (fun _ hk => hk.1)), z_HO135, fun h0_ => absurd ((hoff 14 (by kernel_rfl)).symm.trans h0_) (by decide), fun h0_ => absurd ((hoff 15 (by kernel_rfl)).symm.trans h0_) (by decide), fun h0_ => absurd ((hoff 16 (by kernel_rfl)).symm.trans h0_) (by decide)⟩
  refine steps_cons ?_ ?_
  ·rintro b a w' ⟨v128, v131, v134, v137, v140, m16_, ha, Q_HO0_2, Q_BK125, Q_HB, Q_HO129, Q_HO132, Q_HO135, Q_HO138, Q_HO141, Q_X16_⟩ hb_ hon hoff
   refine ⟨_, rfl, fun K hK => ?_⟩
   have e13 : a.tmps[13]? = some (.pointer (some ⟨gb125, 2, none⟩)) := by rw [ha]; exact (putSel_off rfl).trans rfl
   replace ha := mk_ ha
   have HO0_2 := mk_ Q_HO0_2
   have BK125 := mk_ Q_BK125
   have HB := mk_ Q_HB
   have hc0_ : w'.cell? ⟨gb125, 0, none⟩ = some (.int .i64 a0_0) := (blk_cell BK125.out 0).trans rfl
   have hc1_ : w'.cell? ⟨gb125, 1, none⟩ = some (.int .i64 a0_1) := (blk_cell BK125.out 1).trans rfl
   have hc2_ : w'.cell? ⟨gb125, 2, none⟩ = some (.slice A0_2 l0_2.length c0_2) := (blk_cell BK125.out 2).trans rfl
   refine value_ (w1 := w') (v := .slice A0_2 l0_2.length c0_2) (by rfl) rfl ?_ ?_
   ·go_simp
    (try simp only [i64_w])
    try rfl
   refine hK.out _ _ ⟨v128, v131, v134, v137, v140, m16_, (by rw [ha.out]; exact putSel_upk 5 hb_ rfl rfl rfl), Q_HO0_2, Q_BK125, Q_HB, Q_HO129, Q_HO132, fun h0_ _ => absurd ((hoff 11 (by kernel_rfl)).symm.trans h0_) (by decide), fun h0_ => absurd ((hoff 14 (by kernel_rfl)).symm.trans h0_) (by decide), fun h0_ => absurd ((hoff 15 (by kernel_rfl)).symm.trans h0_) (by decide), fun h0_ => absurd ((hoff 16 (by kernel_rfl)).symm.trans h0_) (by decide)⟩
  refine steps_cons ?_ ?_
  ·rintro b a w' ⟨v128, v131, v134, v137, v140, m16_, ha, Q_HO0_2, Q_BK125, Q_HB, Q_HO129, Q_HO132, Q_HO135, Q_HO138, Q_HO141, Q_X16_⟩ hb_ hon hoff
   refine ⟨_, rfl, fun K hK => ?_⟩
   have e14 : a.tmps[14]? = some (.slice A0_2 l0_2.length c0_2) := by rw [ha]; exact putSel_on (e := (8, 14, .slice A0_2 l0_2.length c0_2)) 5 rfl rfl (hon 8 (by kernel_rfl)) rfl
   replace ha := mk_ ha
   have HO0_2 := mk_ Q_HO0_2
   have BK125 := mk_ Q_BK125
   have HB := mk_ Q_HB
   refine value_ (w1 := w') (v := .int .i64 (l0_2.length : Int)) (by rfl) rfl ?_ ?_
   ·go_simp
    (try simp only [i64_w])
    try rfl
   refine hK.out _ _ ⟨v128, v131, v134, v137, v140, m16_, (by rw [ha.out]; exact putSel_upk 6 hb_ rfl rfl rfl), Q_HO0_2, Q_BK125, Q_HB, Q_HO129, Q_HO132, fun h0_ _ => absurd ((hoff 11 (by kernel_rfl)).symm.trans h0_) (by decide), fun h0_ => absurd ((hoff 14 (by kernel_rfl)).symm.trans h0_) (by decide), fun h0_ => absurd ((hoff 15 (by kernel_rfl)).symm.trans h0_) (by decide), fun h0_ => absurd ((hoff 16 (by kernel_rfl)).symm.trans h0_) (by decide)⟩
  refine steps_cons ?_ ?_
  ·rintro b a w' ⟨v128, v131, v134, v137, v140, m16_, ha, Q_HO0_2, Q_BK125, Q_HB, Q_HO129, Q_HO132, Q_HO135, Q_HO138, Q_HO141, Q_X16_⟩ hb_ hon hoff
   refine ⟨_, rfl, fun K hK => ?_⟩
   have e15 : a.tmps[15]? = some (.int .i64 (l0_2.length : Int)) := by rw [ha]; exact putSel_on (e := (9, 15, .int .i64 (l0_2.length : Int))) 6 rfl rfl (hon 9 (by kernel_rfl)) rfl
   replace ha := mk_ ha
   have HO0_2 := mk_ Q_HO0_2
   have BK125 := mk_ Q_BK125
   have HB := mk_ Q_HB
   refine value_ (w1 := w') (v := .int .u8 (((l0_2.length : Int)) % 256)) (by rfl) rfl ?_ ?_
   ·go_simp
    (try simp only [i64_w])
    try rfl
   refine hK.out _ _ ⟨v128, v131, v134, v137, v140, m16_, (by rw [ha.out]; exact putSel_upk 7 hb_ rfl rfl rfl), Q_HO0_2, Q_BK125, Q_HB, Q_HO129, Q_HO132, fun h0_ _ => absurd ((hoff 11 (by kernel_rfl)).symm.trans h0_) (by decide), fun h0_ => absurd ((hoff 14 (by kernel_rfl)).symm.trans h0_) (by decide), fun h0_ => absurd ((hoff 15 (by kernel_rfl)).symm.trans h0_) (by decide), fun h0_ => absurd ((hoff 16 (by kernel_rfl)).symm.trans h0_) (by decide)⟩
  refine steps_cons ?_ ?_
  ·rintro b a w' ⟨v128, v131, v134, v137, v140, m16_, ha, Q_HO0_2, Q_BK125, Q_HB, Q_HO129, Q_HO132, Q_HO135, Q_HO138, Q_HO141, Q_X16_⟩ hb_ hon hoff
   refine ⟨_, rfl, fun K hK => ?_⟩
   have e16 : a.tmps[16]? = some (.int .u8 (((l0_2.length : Int)) % 256)) := by rw [ha]; exact putSel_on (e := (10, 16, .int .u8 (((l0_2.length : Int)) % 256))) 7 rfl rfl (hon 10 (by kernel_rfl)) rfl
   replace ha := mk_ ha
   have HO0_2 := mk_ Q_HO0_2
   have BK125 := mk_ Q_BK125
   have HB := mk_ Q_HB
   refine Kd.R_lit_step (Kd.int .u8) _ 5 ?hg (N := 17) ?hd (xs := ([((l0_2.length : Int)) % 256] : List Int)) (inner := [.int .u8 (((l0_2.length : Int)) % 256)]) (ok := fun _ => True) (okp := fun _ => True) ?hr ?hp (fun _ hk => hk) trivial (Below.refl _ _) (Nat.le_refl _) (by simp) ?_; (case hd => rfl); (case hg => rfl); (case hr => first | (go_simp; done) | (go_simp; rfl)); (case hp => exact (Reps.one (show Kd.M (Kd.int .u8) _ _ _ (((l0_2.length : Int)) % 256) [.int .u8 (((l0_2.length : Int)) % 256)] from rfl) (Reps.none _ _)))
   intro v134 w10 ho11 hb hg_ hnew_
   clear hg_ hnew_
   (first | rw [← Ny133.out] at ho11 | (simp only [Int.reduceToNat] at ho11; rw [← Ny133.out] at ho11))
   have n0_ := mk_ (Kd.V_elder' (by (with_reducible repeat (first | apply Kd.V_alloc | apply Kd.V_drewN | apply Kd.V_drew)); exact HO0_2.out) (Kd.R_base ho11) hb)
   have n1_ := mk_ (Kd.R_lower (Kd.R_newM (M := fun k_ => (w.heap.size ≤ k_)) ho11 (below_size (us_ HB.out)) (fun k_ h_ => h_)) (below_size (us_ HB.out)))
   have n2_ := mk_ (blk_below (u_ BK125.out) hb)
   have n3_ := mk_ (below_step (us_ HB.out) hb)
   have z_HO129 := fun (h0_ : b 3 = true) (h1_ : b 14 = false) => (show Kd.R (Kd.int .u8) 5 w10 w.heap.size (fun k_ => (w.heap.size ≤ k_)) v128 y127 from by first | exact (Kd.R_elder' (by (with_reducible repeat (first | apply Kd.R_alloc | apply Kd.R_drewN | apply Kd.R_drew)); exact (Q_HO129 h0_ h1_)) (Kd.R_base ho11) hb) | exact Kd.R_mono (Kd.R_elder' (by (with_reducible repeat (first | apply Kd.R_alloc | apply Kd.R_drewN | apply Kd.R_drew)); exact (Q_HO129 h0_ h1_)) (Kd.R_base ho11) hb) (fun _ h_ => by first | trivial | exact h_ | exact h_.1))
   have z_HO132 := fun (h0_ : b 6 = true) (h1_ : b 14 = false) => (show Kd.R (Kd.int .u8) 5 w10 w.heap.size (fun k_ => (w.heap.size ≤ k_)) v131 t130 from by first | exact (Kd.R_elder' (by (with_reducible repeat (first | apply Kd.R_alloc | apply Kd.R_drewN | apply Kd.R_drew)); exact (Q_HO132 h0_ h1_)) (Kd.R_base ho11) hb) | exact Kd.R_mono (Kd.R_elder' (by (with_reducible repeat (first | apply Kd.R_alloc | apply Kd.R_drewN | apply Kd.R_drew)); exact (Q_HO132 h0_ h1_)) (Kd.R_base ho11) hb) (fun _ h_ => by first | trivial | exact h_ | exact h_.1))
   clear HO0_2
   clear BK125
   clear HB
   have HO0_2 := n0_
   have HO135 := n1_
   have BK125 := n2_
   have HB := n3_
   clear n0_ n1_ n2_ n3_
   clear hb ho11
   refine hK.out _ _ ⟨v128, v131, v134, v137, v140, m16_, (by rw [ha.out]; exact putSel_upk 8 hb_ rfl rfl rfl), (by (with_reducible repeat (first | apply Kd.V_alloc | apply Kd.V_drewN | apply Kd.V_drew)); exact Kd.V_mono HO0_2.out (fun _ hk => by first | exact ⟨hk.1.1, ⟨hk.2, hk.1.2⟩⟩ | exact hk.1 | exact hk | exact ⟨hk.1, hk.2⟩ | exact ⟨.inr hk.1, hk.2⟩ | simp only [hk, ne_eq, not_false_eq_true, and_self])), (u_ BK125.out), (us_ HB.out), z_HO129, z_HO132, fun _ _ => (by (with_reducible repeat (first | apply Kd.R_alloc | apply Kd.R_drewN | apply Kd.R_drew)); exact Kd.R_mono HO135.out (fun _ hk => hk.1)), fun h0_ => absurd ((hoff 14 (by kernel_rfl)).symm.trans h0_) (by decide), fun h0_ => absurd ((hoff 15 (by kernel_rfl)).symm.trans h0_) (by decide), fun h0_ => absurd ((hoff 16 (by kernel_rfl)).symm.trans h0_) (by decide)⟩
  refine steps_cons ?_ ?_
  ·rintro b a w' ⟨v128, v131, v134, v137, v140, m16_, ha, Q_HO0_2, Q_BK125, Q_HB, Q_HO129, Q_HO132, Q_HO135, Q_HO138, Q_HO141, Q_X16_⟩ hb_ hon hoff
   refine ⟨_, rfl, fun K hK => ?_⟩
   have e18 : a.tmps[18]? = some (.pointer (some ⟨gb125, 2, none⟩)) := by rw [ha]; exact (putSel_off rfl).trans rfl
   replace ha := mk_ ha
   have HO0_2 := mk_ Q_HO0_2
   have BK125 := mk_ Q_BK125
   have HB := mk_ Q_HB
   have hc0_ : w'.cell? ⟨gb125, 0, none⟩ = some (.int .i64 a0_0) := (blk_cell BK125.out 0).trans rfl
   have hc1_ : w'.cell? ⟨gb125, 1, none⟩ = some (.int .i64 a0_1) := (blk_cell BK125.out 1).trans rfl
   have hc2_ : w'.cell? ⟨gb125, 2, none⟩ = some (.slice A0_2 l0_2.length c0_2) := (blk_cell BK125.out 2).trans rfl
   refine value_ (w1 := w') (v := .slice A0_2 l0_2.length c0_2) (by rfl) rfl ?_ ?_
   ·go_simp
    (try simp only [i64_w])
    try rfl
   refine hK.out _ _ ⟨v128, v131, v134, v137, v140, m16_, (by rw [ha.out]; exact putSel_upk 9 hb_ rfl rfl rfl), Q_HO0_2, Q_BK125, Q_HB, Q_HO129, Q_HO132, Q_HO135, fun h0_ => absurd ((hoff 14 (by kernel_rfl)).symm.trans h0_) (by decide), fun h0_ => absurd ((hoff 15 (by kernel_rfl)).symm.trans h0_) (by decide), fun h0_ => absurd ((hoff 16 (by kernel_rfl)).symm.trans h0_) (by decide)⟩
  refine steps_cons ?_ ?_
  ·rintro b a w' ⟨v128, v131, v134, v137, v140, m16_, ha, Q_HO0_2, Q_BK125, Q_HB, Q_HO129, Q_HO132, Q_HO135, Q_HO138, Q_HO141, Q_X16_⟩ hb_ hon hoff
   refine ⟨_, rfl, fun K hK => ?_⟩
   have e9 : a.tmps[9]? = some (v128) := by rw [ha]; exact putSel_on (e := (3, 9, v128)) 2 rfl rfl (hon 3 (by kernel_rfl)) rfl
   have e12 : a.tmps[12]? = some (v131) := by rw [ha]; exact putSel_on (e := (6, 12, v131)) 4 rfl rfl (hon 6 (by kernel_rfl)) rfl
   have e17 : a.tmps[17]? = some (v134) := by rw [ha]; exact putSel_on (e := (11, 17, v134)) 8 rfl rfl (hon 11 (by kernel_rfl)) rfl
   have e19 : a.tmps[19]? = some (.slice A0_2 l0_2.length c0_2) := by rw [ha]; exact putSel_on (e := (13, 19, .slice A0_2 l0_2.length c0_2)) 9 rfl rfl (hon 13 (by kernel_rfl)) rfl
   replace ha := mk_ ha
   have HO0_2 := mk_ Q_HO0_2
   have BK125 := mk_ Q_BK125
   have HB := mk_ Q_HB
   have HO129 := mk_ (Q_HO129 (hon 3 (by kernel_rfl)) hb_)
   have HO132 := mk_ (Q_HO132 (hon 6 (by kernel_rfl)) hb_)
   have HO135 := mk_ (Q_HO135 (hon 11 (by kernel_rfl)) hb_)
   obtain ⟨Ao16, co16, eo16⟩ := Kd.R_slice HO129.out
   (first | subst eo16 | (injection eo16 with f1_ f2_ f3_; have f4_ := f1_.symm; have f5_ := f3_.symm; clear f1_ f2_ f3_; subst f4_; subst f5_))
   obtain ⟨Ao17, co17, eo17⟩ := Kd.R_slice HO132.out
   (first | subst eo17 | (injection eo17 with f1_ f2_ f3_; have f4_ := f1_.symm; have f5_ := f3_.symm; clear f1_ f2_ f3_; subst f4_; subst f5_))
   obtain ⟨Ao18, co18, eo18⟩ := Kd.R_slice HO135.out
   (first | subst eo18 | (injection eo18 with f1_ f2_ f3_; have f4_ := f1_.symm; have f5_ := f3_.symm; clear f1_ f2_ f3_; subst f4_; subst f5_))
   refine Kd.N_lit_step (Kd.slice 5 (Kd.int .u8)) _ 22 ?hg (N' := 20) ?hd (xs := ([y127, t130, y133, l0_2] : List (List Int))) (inner := [.slice Ao16 y127.length co16, .slice Ao17 t130.length co17, .slice Ao18 y133.length co18, .slice A0_2 l0_2.length c0_2]) (ok := (fun k_ => (P0_2_ k_ ∨ w.heap.size ≤ k_) ∧ k_ ≠ gb125)) (okp := (fun k_ => (P0_2_ k_ ∨ w.heap.size ≤ k_) ∧ k_ ≠ gb125)) ?hr ?hp (fun _ hk => hk) ((show ∀ k_, w'.heap.size ≤ k_ → (fun k_ => (P0_2_ k_ ∨ w.heap.size ≤ k_) ∧ k_ ≠ gb125) k_ from fun k_ hk => ⟨(.inr (Nat.le_trans (below_size (us_ HB.out)) hk)), Kd.freshB (g := gb125) (o := .cells #[.int .i64 a0_0, .int .i64 a0_1, .slice A0_2 l0_2.length c0_2] 44 (0, 0)) (u_ BK125.out) k_ hk⟩) _ (Nat.le_refl _)) (Below.refl _ _) (Nat.le_refl _) (by simp) ?_; (case hd => rfl); (case hg => rfl); (case hr => first | (go_simp; done) | (go_simp; rfl)); (case hp => exact (Reps.one (show Kd.FK (Kd.slice 5 (Kd.int .u8)) _ _ y127 [.slice Ao16 y127.length co16] from (Kd.FK_slice_mk (Kd.R_reads' (Kd.R_mono (ok' := (fun k_ => (P0_2_ k_ ∨ w.heap.size ≤ k_) ∧ k_ ≠ gb125)) (Kd.R_types (HO129.out) BK125.out (by decide)) (fun k_ hk => by first | exact ⟨(.inr (hk.1.1)), hk.2⟩ | exact hk.1 | exact hk | exact ⟨hk.1, hk.2⟩ | exact ⟨.inr hk.1, hk.2⟩ | simp only [hk, ne_eq, not_false_eq_true, and_self]))).2.1 (Kd.R_F (Kd.R_mono (ok' := (fun k_ => (P0_2_ k_ ∨ w.heap.size ≤ k_) ∧ k_ ≠ gb125)) (Kd.R_types (HO129.out) BK125.out (by decide)) (fun k_ hk => by first | exact ⟨(.inr (hk.1.1)), hk.2⟩ | exact hk.1 | exact hk | exact ⟨hk.1, hk.2⟩ | exact ⟨.inr hk.1, hk.2⟩ | simp only [hk, ne_eq, not_false_eq_true, and_self]))))) (Reps.one (show Kd.FK (Kd.slice 5 (Kd.int .u8)) _ _ t130 [.slice Ao17 t130.length co17] from (Kd.FK_slice_mk (Kd.R_reads' (Kd.R_mono (ok' := (fun k_ => (P0_2_ k_ ∨ w.heap.size ≤ k_) ∧ k_ ≠ gb125)) (Kd.R_types (HO132.out) BK125.out (by decide)) (fun k_ hk => by first | exact ⟨(.inr (hk.1.1)), hk.2⟩ | exact hk.1 | exact hk | exact ⟨hk.1, hk.2⟩ | exact ⟨.inr hk.1, hk.2⟩ | simp only [hk, ne_eq, not_false_eq_true, and_self]))).2.1 (Kd.R_F (Kd.R_mono (ok' := (fun k_ => (P0_2_ k_ ∨ w.heap.size ≤ k_) ∧ k_ ≠ gb125)) (Kd.R_types (HO132.out) BK125.out (by decide)) (fun k_ hk => by first | exact ⟨(.inr (hk.1.1)), hk.2⟩ | exact hk.1 | exact hk | exact ⟨hk.1, hk.2⟩ | exact ⟨.inr hk.1, hk.2⟩ | simp only [hk, ne_eq, not_false_eq_true, and_self]))))) (Reps.one (show Kd.FK (Kd.slice 5 (Kd.int .u8)) _ _ y133 [.slice Ao18 y133.length co18] from (Kd.FK_slice_mk (Kd.R_reads' (Kd.R_mono (ok' := (fun k_ => (P0_2_ k_ ∨ w.heap.size ≤ k_) ∧ k_ ≠ gb125)) (Kd.R_types (HO135.out) BK125.out (by decide)) (fun k_ hk => by first | exact ⟨(.inr (hk.1.1)), hk.2⟩ | exact hk.1 | exact hk | exact ⟨hk.1, hk.2⟩ | exact ⟨.inr hk.1, hk.2⟩ | simp only [hk, ne_eq, not_false_eq_true, and_self]))).2.1 (Kd.R_F (Kd.R_mono (ok' := (fun k_ => (P0_2_ k_ ∨ w.heap.size ≤ k_) ∧ k_ ≠ gb125)) (Kd.R_types (HO135.out) BK125.out (by decide)) (fun k_ hk => by first | exact ⟨(.inr (hk.1.1)), hk.2⟩ | exact hk.1 | exact hk | exact ⟨hk.1, hk.2⟩ | exact ⟨.inr hk.1, hk.2⟩ | simp only [hk, ne_eq, not_false_eq_true, and_self]))))) (Reps.one (show Kd.FK (Kd.slice 5 (Kd.int .u8)) _ _ l0_2 [.slice A0_2 l0_2.length c0_2] from (Kd.FK_slice_mk (Kd.V_reads' (Kd.V_mono (ok' := (fun k_ => (P0_2_ k_ ∨ w.heap.size ≤ k_) ∧ k_ ≠ gb125)) (HO0_2.out) (fun k_ hk => by first | exact ⟨hk.1, hk.2.2.2.2⟩ | exact hk.1 | exact hk | exact ⟨hk.1, hk.2⟩ | exact ⟨.inr hk.1, hk.2⟩ | simp only [hk, ne_eq, not_false_eq_true, and_self]))).2.1 (Kd.V_F (Kd.V_mono (ok' := (fun k_ => (P0_2_ k_ ∨ w.heap.size ≤ k_) ∧ k_ ≠ gb125)) (HO0_2.out) (fun k_ hk => by first | exact ⟨hk.1, hk.2.2.2.2⟩ | exact hk.1 | exact hk | exact ⟨hk.1, hk.2⟩ | exact ⟨.inr hk.1, hk.2⟩ | simp only [hk, ne_eq, not_false_eq_true, and_self]))))) (Reps.none _ _))))))
   intro v137 w19 ho20 hb hg_ hnew_
   clear hg_ hnew_
   (first | rw [← Ny136.out] at ho20 | (simp only [Int.reduceToNat] at ho20; rw [← Ny136.out] at ho20))
   have n0_ := mk_ (Kd.V_elder' (by (with_reducible repeat (first | apply Kd.V_alloc | apply Kd.V_drewN | apply Kd.V_drew)); exact HO0_2.out) (Kd.N_base ho20) hb)
   have n1_ := mk_ (Kd.N_lower ho20 (below_size (us_ HB.out)))
   have n2_ := mk_ (blk_below (u_ BK125.out) hb)
   have n3_ := mk_ (below_step (us_ HB.out) hb)
   clear HO0_2
   clear BK125
   clear HB
   clear HO129
   clear HO132
   clear HO135
   have HO0_2 := n0_
   have HO138 := n1_
   have BK125 := n2_
   have HB := n3_
   clear n0_ n1_ n2_ n3_
   clear hb ho20
   refine hK.out _ _ ⟨.slice Ao16 y127.length co16, .slice Ao17 t130.length co17, .slice Ao18 y133.length co18, v137, v140, m16_, (by rw [ha.out]; exact putSel_upk 10 hb_ rfl rfl rfl), (by (with_reducible repeat (first | apply Kd.V_alloc | apply Kd.V_drewN | apply Kd.V_drew)); exact Kd.V_mono HO0_2.out (fun _ hk => by first | exact ⟨hk.1.1, ⟨hk.2, hk.1.2.2.2.2⟩⟩ | exact hk.1 | exact hk | exact ⟨hk.1, hk.2⟩ | exact ⟨.inr hk.1, hk.2⟩ | simp only [hk, ne_eq, not_false_eq_true, and_self])), (u_ BK125.out), (us_ HB.out), fun _ h1_ => absurd ((up_self b 14).symm.trans h1_) (by decide), fun _ h1_ => absurd ((up_self b 14).symm.trans h1_) (by decide), fun _ h1_ => absurd ((up_self b 14).symm.trans h1_) (by decide), fun _ => (by (with_reducible repeat (first | apply Kd.N_alloc | apply Kd.N_drewN | apply Kd.N_drew)); exact HO138.out), fun h0_ => absurd ((hoff 15 (by kernel_rfl)).symm.trans h0_) (by decide), fun h0_ => absurd ((hoff 16 (by kernel_rfl)).symm.trans h0_) (by decide)⟩
  refine steps_cons ?_ ?_
  ·rintro b a w' ⟨v128, v131, v134, v137, v140, m16_, ha, Q_HO0_2, Q_BK125, Q_HB, Q_HO129, Q_HO132, Q_HO135, Q_HO138, Q_HO141, Q_X16_⟩ hb_ hon hoff
   refine ⟨_, rfl, fun K hK => ?_⟩
   have e20 : a.tmps[20]? = some (v137) := by rw [ha]; exact putSel_on (e := (14, 20, v137)) 10 rfl rfl (hon 14 (by kernel_rfl)) rfl
   replace ha := mk_ ha
   have HO0_2 := mk_ Q_HO0_2
   have BK125 := mk_ Q_BK125
   have HB := mk_ Q_HB
   have HO138 := mk_ (Q_HO138 (hon 14 (by kernel_rfl)))
   obtain ⟨Ao21, co21, eo21⟩ := Kd.N_slice HO138.out
   (first | subst eo21 | (injection eo21 with f1_ f2_ f3_; have f4_ := f1_.symm; have f5_ := f3_.symm; clear f1_ f2_ f3_; subst f4_; subst f5_))
   refine goes_ Try.func106 (by kernel_rfl) rfl #[.slice Ao21 y136.length co21] (by rfl) rfl rfl (by first | (simp only [List.map_toArray, List.map_cons, List.map_nil, Act.eval, Array.getD_eq_getD_getElem?, Option.getD_some, e20]; done) | (simp only [List.map_toArray, List.map_cons, List.map_nil, Act.eval, Array.getD_eq_getD_getElem?, Option.getD_some, e20]; rfl)) ?_
   with_reducible refine (slices_Concat_byte_byte.calls _ _ y136 t139 _ ?side1 ?side2 A5.out).mono ?_
   (case side1 => repeat (first | exact (Kd.N_reads' HO138.out).2.2 | (with_reducible refine Kd.C_alloc ?_ _) | (with_reducible refine Kd.C_drewN ?_ _) | (with_reducible refine Kd.C_drew ?_)))
   (case side2 => exact (Kd.N_reads' HO138.out).2.1)
   rintro e w22 ⟨v140, rfl, ho0, hb⟩
   refine ⟨_, rfl, ?_⟩
   have n0_ := mk_ (Kd.V_elder' (by (with_reducible repeat (first | apply Kd.V_alloc | apply Kd.V_drewN | apply Kd.V_drew)); exact HO0_2.out) (Kd.R_base ho0) hb)
   have n1_ := mk_ (Kd.N_elder' (by (with_reducible repeat (first | apply Kd.N_alloc | apply Kd.N_drewN | apply Kd.N_drew)); exact HO138.out) (Kd.R_base ho0) hb)
   have n2_ := mk_ (Kd.R_lower (Kd.R_newM (M := fun k_ => (w.heap.size ≤ k_)) ho0 (below_size (us_ HB.out)) (fun k_ h_ => h_)) (below_size (us_ HB.out)))
   have n3_ := mk_ (blk_below (u_ BK125.out) hb)
   have n4_ := mk_ (below_step (us_ HB.out) hb)
   clear HO0_2
   clear HO138
   clear BK125
   clear HB
   have HO0_2 := n0_
   have HO138 := n1_
   have HO141 := n2_
   have BK125 := n3_
   have HB := n4_
   clear n0_ n1_ n2_ n3_ n4_
   (try clear hb)
   (try clear hb2)
   (try clear hk)
   (try clear hi)
   (try clear ho0)
   refine hK.out _ _ ⟨v128, v131, v134, .slice Ao21 y136.length co21, v140, m16_, (by rw [ha.out]; exact putSel_upk 11 hb_ rfl rfl rfl), (by (with_reducible repeat (first | apply Kd.V_alloc | apply Kd.V_drewN | apply Kd.V_drew)); exact Kd.V_mono HO0_2.out (fun _ hk => by first | exact ⟨hk.1.1, ⟨hk.1.2.1, ⟨hk.2, hk.1.2.2⟩⟩⟩ | exact hk.1 | exact hk | exact ⟨hk.1, hk.2⟩ | exact ⟨.inr hk.1, hk.2⟩ | simp only [hk, ne_eq, not_false_eq_true, and_self])), (u_ BK125.out), (us_ HB.out), fun _ h1_ => absurd ((hon 14 (by kernel_rfl)).symm.trans h1_) (by decide), fun _ h1_ => absurd ((hon 14 (by kernel_rfl)).symm.trans h1_) (by decide), fun _ h1_ => absurd ((hon 14 (by kernel_rfl)).symm.trans h1_) (by decide), fun _ => (by (with_reducible repeat (first | apply Kd.N_alloc | apply Kd.N_drewN | apply Kd.N_drew)); exact Kd.N_mono HO138.out (fun _ hk => by first | exact ⟨hk.1.1, ⟨hk.2, hk.1.2⟩⟩ | exact hk.1 | exact hk | exact ⟨hk.1, hk.2⟩ | exact ⟨.inr hk.1, hk.2⟩ | simp only [hk, ne_eq, not_false_eq_true, and_self])), fun _ => (by (with_reducible repeat (first | apply Kd.R_alloc | apply Kd.R_drewN | apply Kd.R_drew)); exact Kd.R_mono HO141.out (fun _ hk => hk.1)), fun h0_ => absurd ((hoff 16 (by kernel_rfl)).symm.trans h0_) (by decide)⟩
  refine steps_cons ?_ ?_
  ·rintro b a w' ⟨v128, v131, v134, v137, v140, m16_, ha, Q_HO0_2, Q_BK125, Q_HB, Q_HO129, Q_HO132, Q_HO135, Q_HO138, Q_HO141, Q_X16_⟩ hb_ hon hoff
   refine ⟨_, rfl, fun K hK => ?_⟩
   have e21 : a.tmps[21]? = some (v140) := by rw [ha]; exact putSel_on (e := (15, 21, v140)) 11 rfl rfl (hon 15 (by kernel_rfl)) rfl
   replace ha := mk_ ha
   have HO0_2 := mk_ Q_HO0_2
   have BK125 := mk_ Q_BK125
   have HB := mk_ Q_HB
   have HO138 := mk_ (Q_HO138 (hon 14 (by kernel_rfl)))
   have HO141 := mk_ (Q_HO141 (hon 15 (by kernel_rfl)))
   refine value_ (w1 := w') (v := v140) (by rfl) rfl ?_ ?_
   ·go_simp
    (try simp only [i64_w])
    try rfl
   refine hK.out _ _ ⟨v128, v131, v134, v137, v140, (v140), (by rw [ha.out]; exact putSel_upk 12 hb_ rfl rfl rfl), Q_HO0_2, Q_BK125, Q_HB, fun _ h1_ => absurd ((hon 14 (by kernel_rfl)).symm.trans h1_) (by decide), fun _ h1_ => absurd ((hon 14 (by kernel_rfl)).symm.trans h1_) (by decide), fun _ h1_ => absurd ((hon 14 (by kernel_rfl)).symm.trans h1_) (by decide), Q_HO138, Q_HO141, fun _ => rfl⟩
  exact steps_nil
 rintro b a w22 hall ⟨v128, v131, v134, v137, v140, m16_, ha, Q_HO0_2, Q_BK125, Q_HB, Q_HO129, Q_HO132, Q_HO135, Q_HO138, Q_HO141, Q_X16_⟩
 clear BK125 HB HO0_2
 have hb1_ := hall 1 (by kernel_rfl)
 have hb2_ := hall 2 (by kernel_rfl)
 have hb3_ := hall 3 (by kernel_rfl)
 have hb5_ := hall 5 (by kernel_rfl)
 have hb6_ := hall 6 (by kernel_rfl)
 have hb8_ := hall 8 (by kernel_rfl)
 have hb9_ := hall 9 (by kernel_rfl)
 have hb10_ := hall 10 (by kernel_rfl)
 have hb11_ := hall 11 (by kernel_rfl)
 have hb13_ := hall 13 (by kernel_rfl)
 have hb14_ := hall 14 (by kernel_rfl)
 have hb15_ := hall 15 (by kernel_rfl)
 have hb16_ := hall 16 (by kernel_rfl)
 subst ha
 obtain rfl := Q_X16_ hb16_
 simp only [putSel, hb1_, hb2_, hb3_, hb5_, hb6_, hb8_, hb9_, hb10_, hb11_, hb13_, hb14_, hb15_, hb16_, if_true, Act.put, la_, lz_, ls_]
 have HO0_2 := mk_ Q_HO0_2
 clear Q_HO0_2
 have BK125 := mk_ Q_BK125
 clear Q_BK125
 have HB := mk_ Q_HB
 clear Q_HB
 clear Q_HO129
 clear Q_HO132
 clear Q_HO135
 have HO138 := mk_ (Q_HO138 hb14_)
 clear Q_HO138
 have HO141 := mk_ (Q_HO141 hb15_)
 clear Q_HO141
 clear hall hb1_ hb2_ hb3_ hb5_ hb6_ hb8_ hb9_ hb10_ hb11_ hb13_ hb14_ hb15_ hb16_
 try go_wp2
 go_ret
 exact ⟨_, by first | rfl | (simp [errW_none, errW_some] <;> rfl) | (simp [*, errW_none, errW_some] <;> rfl), by (with_reducible repeat (first | apply Kd.R_alloc | apply Kd.R_drewN | apply Kd.R_drew)); exact HO141.out, us_ HB.out⟩

end Go.Proofs.Ytkkibccnpkbbjab.MFnNoteAbout
