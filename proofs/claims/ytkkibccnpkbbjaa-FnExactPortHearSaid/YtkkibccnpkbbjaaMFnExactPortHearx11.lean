/- Functions that the law FnExactPortHear reaches, each with the proof that the machine's call comes to just its answer; no conditions but those that each theorem states. Printed by a program of this session over the kit's print. -/
import Derived.Test.YtkkibccnpkbbjaaMFnExactPortHearx0
import Derived.Test.YtkkibccnpkbbjaaMFnExactPortHearx9
import Derived.Test.YtkkibccnpkbbjaaMFnExactPortHearx10
namespace Go.Proofs.Ytkkibccnpkbbjaa.MFnExactPortHear
open Go.RowKit Go.Proofs.YtkkibccnpkbbjaaV.PrintWords Go.Proofs.YtkkibccnpkbbjaaV.PrintLast Go.Proofs.YtkkibccnpkbbjaaV.PrintMore
attribute [local go_sem] max2_int min2_int max_two min_two max_three min_three max_four min_four   -- for this text's walks alone
set_option linter.unusedVariables false
set_option linter.unusedSimpArgs false

/-! ### impl_MailBytes: function 73 -/
def impl_MailBytes.j0 : Nat → Int → Bool → Int → Int → Int → List Int → Option (List Int)
 | 0, _, _, _, _, _, _ => none
 | k + 1, x1, x13, x318000, x318001, x318002, x318003 => if x13 = true then (some ([] : List Int)) else ((some (([(x318001) % 256, (x318002) % 256, ((x318003.length : Int)) % 256] : List Int) : List Int)).bind fun y320 => (if y320.length + x318003.length < 140737488355328 then ((some (y320 ++ x318003 : List Int)).bind fun y323 => ((impl_between.f k x318000 x1).bind fun t326 => ((slices_Concat_byte_byte.f (([t326, y323] : List (List Int)))).bind fun t332 => ((impl_sumOf.f t332).bind fun t335 => ((impl_bytesOf.f k t335 2).bind fun t336 => ((slices_Concat_byte_byte.f (([y323, t336] : List (List Int)))).bind fun t342 => (some t342))))))) else (none)))
def impl_MailBytes.f (k : Nat) (a0_0 : Int) (a0_1 : Int) (a0_2 : Int) (l0_3 : List Int) (a1 : Int) : Option (List Int) := (impl_MailOk.f a0_0 a0_1 a0_2 l0_3).bind fun t318 => (if t318 = true then ((impl_word.f a1).bind fun t319 => (impl_MailBytes.j0 k a1 (!t319) a0_0 a0_1 a0_2 l0_3)) else (impl_MailBytes.j0 k a1 true a0_0 a0_1 a0_2 l0_3))
theorem impl_MailBytes.mono_l : ∀ k, (∀ y0 y1 y2 y3 y4 y5, LeO (impl_MailBytes.j0 k y0 y1 y2 y3 y4 y5) (impl_MailBytes.j0 (k + 1) y0 y1 y2 y3 y4 y5))
 | 0 => fun _ _ _ _ _ _ r h => by simp [impl_MailBytes.j0] at h
 | k + 1 => by
  have ih0 := impl_MailBytes.mono_l k
  ·intro y0 y1 y2 y3 y4 y5
   unfold impl_MailBytes.j0
   repeat' first
   | (with_reducible exact ih0 _ _ _ _ _ _)
   | (with_reducible exact impl_between.mono _ _ _)
   | (with_reducible exact impl_bytesOf.mono _ _ _)
   | (with_reducible exact LeO.refl _)
   | (with_reducible exact LeO.none _)
   | (with_reducible refine LeO.ite ?_ ?_)
   | (with_reducible refine LeO.bind ?_ (fun _ => ?_))
   | exact ih0 _ _ _ _ _ _
   | exact impl_between.mono _ _ _
   | exact impl_bytesOf.mono _ _ _
   | exact LeO.none _
   | refine LeO.ite ?_ ?_
   | refine LeO.bind ?_ (fun _ => ?_)
theorem impl_MailBytes.mono : ∀ a0 a1 a2 a3 a4 k, LeO (impl_MailBytes.f k a0 a1 a2 a3 a4) (impl_MailBytes.f (k + 1) a0 a1 a2 a3 a4) := by
 intro a0 a1 a2 a3 a4 k
 have ih0 := impl_MailBytes.mono_l k
 unfold impl_MailBytes.f
 repeat' first
   | (with_reducible exact ih0 _ _ _ _ _ _)
   | (with_reducible exact impl_between.mono _ _ _)
   | (with_reducible exact impl_bytesOf.mono _ _ _)
   | (with_reducible exact LeO.refl _)
   | (with_reducible exact LeO.none _)
   | (with_reducible refine LeO.ite ?_ ?_)
   | (with_reducible refine LeO.bind ?_ (fun _ => ?_))
   | exact ih0 _ _ _ _ _ _
   | exact impl_between.mono _ _ _
   | exact impl_bytesOf.mono _ _ _
   | exact LeO.none _
   | refine LeO.ite ?_ ?_
   | refine LeO.bind ?_ (fun _ => ?_)
set_option maxHeartbeats 8000000 in
set_option maxRecDepth 100000 in
theorem impl_MailBytes.calls (k : Nat) (a0_0 : Int) (a0_1 : Int) (a0_2 : Int) (A0_3 : Option Addr) (c0_3 : Nat) (l0_3 : List Int) (a1 : Int) (r : List Int) (w : World) (hr0_3 : Kd.C (Kd.int .u8) w A0_3 l0_3.length l0_3) (hc0_3 : l0_3.length ≤ c0_3) (h : impl_MailBytes.f k a0_0 a0_1 a0_2 l0_3 a1 = some r) :
  Calls Try.prog 73 #[.agg #[.int .i64 a0_0, .int .i64 a0_1, .int .i64 a0_2, .slice A0_3 l0_3.length c0_3], .int .i64 a1] w fun e w' => ∃ v0_ : Value, e = .returned (v0_) ∧ Kd.R (Kd.int .u8) 5 w' w.heap.size (fun _ => True) v0_ r ∧ Below w.heap.size w w' := by
 have hu40 := Try.underlying40
 have HR0_3 := mk_ hr0_3
 have HC0_3 := mk_ hc0_3
 clear hr0_3 hc0_3
 have HB := mk_ (Below.refl w.heap.size w)
 have H := h
 unfold impl_MailBytes.f at H
 clear h
 have HC3 := mk_ H
 clear H
 go_enter Try.func73, Try.ntmps73
 go_upto_region 1 with (first | ((with_reducible refine gate_dst (N := 2) rfl ?_); refine box_event ?hg (N := 2) ?hd (cs := #[.int .i64 a0_0, .int .i64 a0_1, .int .i64 a0_2, .slice A0_3 l0_3.length c0_3]) (t := 40) ?hr ?_; (case hd => rfl); (case hg => rfl); (case hr => first | (go_simp; done) | (go_simp; rfl)); intro gb317 hg w4 hbox hb; have n0_ := mk_ (below_step (ub_ HB.out) hb); have BK317 := mk_ (hbox); have GW317 := mk_ ((by rw [hg]; exact (below_size (ub_ HB.out)) : w.heap.size ≤ gb317)); have GE317 := ge_ ((by rw [hg]; exact (below_size (ub_ HB.out)) : w.heap.size ≤ gb317)); replace HB := n0_; clear n0_; clear hb hbox hg))
 (try simp only [Act.put, la_, lz_, ls_])
 go_cut [13] (fun v13 wc => ∃ (kq : Nat) (x13_2 : Bool), v13 = .bool x13_2 ∧ Aside0 (impl_MailBytes.j0 kq a1 x13_2 a0_0 a0_1 a0_2 l0_3 = some r) ∧ Aside0 (kq ≤ k) ∧ Aside0 (wc.heap[gb317]? = some (.cells #[.int .i64 a0_0, .int .i64 a0_1, .int .i64 a0_2, (.slice A0_3 l0_3.length c0_3)] 40 (0, 0))) ∧ Aside0 (Below w.heap.size w wc))
 case first =>
  have H := HC3.out
  clear HC3
  replace H := Option.bind_eq_some_iff.mp H
  obtain ⟨t318, A50, H⟩ := H
  (try dsimp only at H)
  have A5 := mk_ A50
  clear A50
  by_cases c6 : t318 = true
  rotate_left
  ·replace c6 := Bool.eq_false_iff.mpr c6
   subst c6
   have H1 : (impl_MailBytes.j0 k a1 true a0_0 a0_1 a0_2 l0_3) = some r := by rw [if_neg (show ¬ (false = true) by decide)] at H; exact H
   clear H
   have H := H1
   clear H1
   have H' := mk_ H
   clear H
   obtain ⟨hcz10_0, hcz10_1, hcz10_2, hcz10_3, hfz10_0, hfz10_1, hfz10_2, hfz10_3⟩ := cells4_ BK317.out
   go_wp2_with (first | ((with_reducible refine gate_callee (f := 46) rfl ?_); refine goesL_ (some 7) rfl rfl Try.func46 (by kernel_rfl) rfl #[.agg #[.int .i64 a0_0, .int .i64 a0_1, .int .i64 a0_2, .slice A0_3 l0_3.length c0_3]] rfl (by (try simp only [lm_, lo_, ln_]); try rfl) ?_; (with_reducible refine (impl_MailOk.calls a0_0 a0_1 a0_2 _ _ l0_3 false _ ?side1 ?side2 A5.out).mono ?_); (case side1 => repeat (first | exact (Kd.C_below HR0_3.out HB.out) | (with_reducible refine Kd.C_alloc ?_ _) | (with_reducible refine Kd.C_drewN ?_ _) | (with_reducible refine Kd.C_drew ?_))); (case side2 => exact HC0_3.out); rintro e w11 ⟨rfl, hb⟩; refine ⟨_, rfl, ?_⟩; replace BK317 := mk_ (blk_below (u_ BK317.out) hb); replace HB := mk_ (below_step (us_ HB.out) hb)))
   go_meet
   case rel => exact ⟨_, (true), (by first | rfl | (simp; done) | (simp [*]; done)), H', ⟨by first | omega | exact Nat.le_refl _⟩, ⟨u_ BK317.out⟩, ⟨us_ HB.out⟩⟩
  subst c6
  rw [if_pos rfl] at H
  replace H := Option.bind_eq_some_iff.mp H
  obtain ⟨t319, A70, H⟩ := H
  replace H : (impl_MailBytes.j0 k a1 (!t319) a0_0 a0_1 a0_2 l0_3) = some r := H
  have A7 := mk_ A70
  clear A70
  have H' := mk_ H
  clear H
  obtain ⟨hcz8_0, hcz8_1, hcz8_2, hcz8_3, hfz8_0, hfz8_1, hfz8_2, hfz8_3⟩ := cells4_ BK317.out
  go_wp2_with (first | ((with_reducible refine gate_callee (f := 46) rfl ?_); refine goesL_ (some 7) rfl rfl Try.func46 (by kernel_rfl) rfl #[.agg #[.int .i64 a0_0, .int .i64 a0_1, .int .i64 a0_2, .slice A0_3 l0_3.length c0_3]] rfl (by (try simp only [lm_, lo_, ln_]); try rfl) ?_; (with_reducible refine (impl_MailOk.calls a0_0 a0_1 a0_2 _ _ l0_3 true _ ?side1 ?side2 A5.out).mono ?_); (case side1 => repeat (first | exact (Kd.C_below HR0_3.out HB.out) | (with_reducible refine Kd.C_alloc ?_ _) | (with_reducible refine Kd.C_drewN ?_ _) | (with_reducible refine Kd.C_drew ?_))); (case side2 => exact HC0_3.out); rintro e w9 ⟨rfl, hb⟩; refine ⟨_, rfl, ?_⟩; replace BK317 := mk_ (blk_below (u_ BK317.out) hb); replace HB := mk_ (below_step (us_ HB.out) hb)) | (go_at_call 78; (with_reducible refine (impl_word.calls a1 t319 _ A7.out).mono ?_); rintro e w' ⟨rfl, ⟨nd, rfl⟩⟩))
  go_meet
  case rel => exact ⟨_, (!t319), (by first | rfl | (simp; done) | (simp [*]; done)), H', ⟨by first | omega | exact Nat.le_refl _⟩, ⟨u_ BK317.out⟩, ⟨us_ HB.out⟩⟩
 case rest =>
  clear HC3
  try clear p2
  try clear c4
  try clear c6
  try clear c7
  try clear hcz10_0
  try clear hcz10_1
  try clear hcz10_2
  try clear hcz10_3
  try clear hcz8_0
  try clear hcz8_1
  try clear hcz8_2
  try clear hcz8_3
  try clear hfz10_0
  try clear hfz10_1
  try clear hfz10_2
  try clear hfz10_3
  try clear hfz8_0
  try clear hfz8_1
  try clear hfz8_2
  try clear hfz8_3
  obtain ⟨kq, x13_2, rfl, HA, HJ2, BK317, HB⟩ := hcut
  cases kq with
  | zero => exact absurd HA.out (by simp [impl_MailBytes.j0])
  | succ kj2 =>
   have H := HA.out
   clear HA
   simp only [impl_MailBytes.j0] at H
   by_cases c12 : x13_2 = true
   ·subst c12
    have H1 : (some ([] : List Int)) = some r := by rw [if_pos rfl] at H; exact H
    clear H
    have H := H1
    clear H1
    obtain rfl := Option.some.inj H
    go_wp2
    go_ret
    exact ⟨_, by first | rfl | (simp [errW_none, errW_some] <;> rfl) | (simp [*, errW_none, errW_some] <;> rfl), by first | exact Kd.R_nil _ _ _ _ _ | exact Kd.N_nil _ _ _ _ _ | exact Kd.V_nil _ _ _ _ _ | exact Kd.Q_nil _ _ _ _ _ | exact Kd.S_nil _ _ _ _ _, us_ HB.out⟩
   replace c12 := Bool.eq_false_iff.mpr c12
   subst c12
   rw [if_neg (show ¬ (false = true) by decide)] at H
   obtain ⟨y320, hy320⟩ : ∃ y_ : List Int, y_ = (([(a0_1) % 256, (a0_2) % 256, ((l0_3.length : Int)) % 256] : List Int)) := ⟨_, rfl⟩
   replace H : (if y320.length + l0_3.length < 140737488355328 then ((some (y320 ++ l0_3 : List Int)).bind fun y323 => ((impl_between.f kj2 a0_0 a1).bind fun t326 => ((slices_Concat_byte_byte.f (([t326, y323] : List (List Int)))).bind fun t332 => ((impl_sumOf.f t332).bind fun t335 => ((impl_bytesOf.f kj2 t335 2).bind fun t336 => ((slices_Concat_byte_byte.f (([y323, t336] : List (List Int)))).bind fun t342 => (some t342))))))) else (none)) = some r := by first | (rw [hy320]; with_reducible exact H) | (have H2_ := (Option.bind_some _ _).symm.trans H; rw [hy320]; with_reducible exact H2_) | (have H2_ := (Option.bind_some _ _).symm.trans H; with_reducible exact H2_) | with_reducible exact H | (rw [hy320]; exact H) | exact H
   have Ny320 := mk_ hy320
   clear hy320
   by_cases c13 : y320.length + l0_3.length < 140737488355328
   rotate_left
   ·rw [if_neg c13] at H
    exact absurd H (by simp)
   rw [if_pos c13] at H
   have LMc13 := mk_ c13
   clear c13
   obtain ⟨y323, hy323⟩ : ∃ y_ : List Int, y_ = (y320 ++ l0_3) := ⟨_, rfl⟩
   replace H : ((impl_between.f kj2 a0_0 a1).bind fun t326 => ((slices_Concat_byte_byte.f (([t326, y323] : List (List Int)))).bind fun t332 => ((impl_sumOf.f t332).bind fun t335 => ((impl_bytesOf.f kj2 t335 2).bind fun t336 => ((slices_Concat_byte_byte.f (([y323, t336] : List (List Int)))).bind fun t342 => (some t342)))))) = some r := by first | (rw [hy323]; with_reducible exact H) | (have H2_ := (Option.bind_some _ _).symm.trans H; rw [hy323]; with_reducible exact H2_) | (have H2_ := (Option.bind_some _ _).symm.trans H; with_reducible exact H2_) | with_reducible exact H | (rw [hy323]; exact H) | exact H
   have Ny323 := mk_ hy323
   clear hy323
   replace H := Option.bind_eq_some_iff.mp H
   obtain ⟨t326, A140, H⟩ := H
   (try dsimp only at H)
   have A14 := mk_ A140
   clear A140
   obtain ⟨y329, hy329⟩ : ∃ y_ : List (List Int), y_ = (([t326, y323] : List (List Int))) := ⟨_, rfl⟩
   replace H : ((slices_Concat_byte_byte.f y329).bind fun t332 => ((impl_sumOf.f t332).bind fun t335 => ((impl_bytesOf.f kj2 t335 2).bind fun t336 => ((slices_Concat_byte_byte.f (([y323, t336] : List (List Int)))).bind fun t342 => (some t342))))) = some r := by first | (rw [hy329]; with_reducible exact H) | (have H2_ := (Option.bind_some _ _).symm.trans H; rw [hy329]; with_reducible exact H2_) | (have H2_ := (Option.bind_some _ _).symm.trans H; with_reducible exact H2_) | with_reducible exact H | (rw [hy329]; exact H) | exact H
   have Ny329 := mk_ hy329
   clear hy329
   replace H := Option.bind_eq_some_iff.mp H
   obtain ⟨t332, A150, H⟩ := H
   (try dsimp only at H)
   have A15 := mk_ A150
   clear A150
   replace H := Option.bind_eq_some_iff.mp H
   obtain ⟨t335, A160, H⟩ := H
   (try dsimp only at H)
   have A16 := mk_ A160
   clear A160
   replace H := Option.bind_eq_some_iff.mp H
   obtain ⟨t336, A170, H⟩ := H
   (try dsimp only at H)
   have A17 := mk_ A170
   clear A170
   obtain ⟨y339, hy339⟩ : ∃ y_ : List (List Int), y_ = (([y323, t336] : List (List Int))) := ⟨_, rfl⟩
   replace H : ((slices_Concat_byte_byte.f y339).bind fun t342 => (some t342)) = some r := by first | (rw [hy339]; with_reducible exact H) | (have H2_ := (Option.bind_some _ _).symm.trans H; rw [hy339]; with_reducible exact H2_) | (have H2_ := (Option.bind_some _ _).symm.trans H; with_reducible exact H2_) | with_reducible exact H | (rw [hy339]; exact H) | exact H
   have Ny339 := mk_ hy339
   clear hy339
   replace H := Option.bind_eq_some_iff.mp H
   obtain ⟨t342, A180, H⟩ := H
   replace H : (some t342) = some r := H
   have A18 := mk_ A180
   clear A180
   obtain rfl := Option.some.inj H
   obtain ⟨_, _, _, _, _, _, _, _⟩ := cells4_ BK317.out
   go_wp2_with (first | ((with_reducible refine gate_dst (N := 24) rfl ?_); refine Kd.R_lit (Kd.int .u8) _ 5 ?hg (N := 24) ?hd (xs := ([(a0_1) % 256, (a0_2) % 256, ((l0_3.length : Int)) % 256] : List Int)) (inner := [.int .u8 ((a0_1) % 256), .int .u8 ((a0_2) % 256), .int .u8 (((l0_3.length : Int)) % 256)]) (ok := fun _ => True) (okp := fun _ => True) ?hr ?hp (fun _ hk => hk) trivial (Below.refl _ _) (Nat.le_refl _) (by simp) ?_; (case hd => rfl); (case hg => rfl); (case hr => first | (go_simp; done) | (go_simp; rfl)); (case hp => exact (Reps.one (show Kd.M (Kd.int .u8) _ _ _ ((a0_1) % 256) [.int .u8 ((a0_1) % 256)] from rfl) (Reps.one (show Kd.M (Kd.int .u8) _ _ _ ((a0_2) % 256) [.int .u8 ((a0_2) % 256)] from rfl) (Reps.one (show Kd.M (Kd.int .u8) _ _ _ (((l0_3.length : Int)) % 256) [.int .u8 (((l0_3.length : Int)) % 256)] from rfl) (Reps.none _ _))))); intro v321 w20 ho21 hb hg_ hnew_; clear hg_ hnew_; (first | rw [← Ny320.out] at ho21 | (simp only [Int.reduceToNat] at ho21; rw [← Ny320.out] at ho21)); have HO322 := mk_ (Kd.R_lower ho21 (below_size (us_ HB.out))); replace BK317 := mk_ (blk_below (u_ BK317.out) hb); replace HB := mk_ (below_step (us_ HB.out) hb); clear hb ho21; obtain ⟨_, _, _, _, _, _, _, _⟩ := cells4_ BK317.out) | ((with_reducible refine gate_builtin (b := .append) (xs := #[.tmp 24, .tmp 26]) rfl ?_); at_builtin; refine Kd.R_append_rows (Kd.int .u8) (w0 := w) w.heap.size rfl (.tmp 24) (.tmp 26) 29 5 (.int .u8 0) 1 rfl Try.underlying29 info5 rfl (by decide) (by omega) v321 y320 l0_3 _ _ _ (fun _ => True) (fun _ => False) rfl rfl ?aO ?aR (fun _ _ h => h) (fun _ h => h.elim) ?aF ?aB ?aS ?aL ?_; (case aR => repeat (first | exact (Kd.C_below HR0_3.out HB.out) | (with_reducible refine Kd.C_alloc ?_ _) | (with_reducible refine Kd.C_drewN ?_ _) | (with_reducible refine Kd.C_drew ?_))); (case aB => exact (us_ HB.out)); (case aF => exact (fun _ _ => trivial)); (case aO => exact (Kd.ur_ HO322.out)); (case aS => exact (below_size (us_ HB.out))); (case aL => have := LMc13.out; omega); intro v324 w23 ho hb hg hat; rw [← Ny323.out] at ho; replace BK317 := mk_ (blk_grown (g := gb317) (o := .cells #[.int .i64 a0_0, .int .i64 a0_1, .int .i64 a0_2, .slice A0_3 l0_3.length c0_3] 40 (0, 0)) (u_ BK317.out) hg (Kd.R_ne HO322.out BK317.out (by decide))); replace HB := mk_ (hb); have HO325 := mk_ (ho); clear HO322; clear ho hb hg hat; obtain ⟨_, _, _, _, _, _, _, _⟩ := cells4_ BK317.out) | ((with_reducible refine gate_callee (f := 96) rfl ?_); refine goesL_ (some 32) rfl rfl Try.func96 (by kernel_rfl) rfl #[.int .i64 a0_0, .int .i64 a1] rfl (by (try simp only [lm_, lo_, ln_]); try rfl) ?_; (with_reducible refine (impl_between.calls kj2 a0_0 a1 t326 _ A14.out).mono ?_); rintro e w25 ⟨v327, rfl, ho0, hb⟩; refine ⟨_, rfl, ?_⟩; have n0_ := mk_ (Kd.R_elder' (Kd.ur_ HO325.out) (Kd.R_base ho0) hb); have HO328 := mk_ (Kd.R_lower (Kd.R_new' ho0 (Kd.R_lt (Kd.ur_ HO325.out))) (below_size (us_ HB.out))); replace BK317 := mk_ (blk_below (u_ BK317.out) hb); replace HB := mk_ (below_step (us_ HB.out) hb); replace HO325 := n0_; clear n0_; obtain ⟨Ao26, co26, eo26⟩ := Kd.R_slice HO328.out; subst eo26; obtain ⟨Ao27, co27, eo27⟩ := Kd.R_slice HO325.out; subst eo27) | ((with_reducible refine gate_dst (N := 34) rfl ?_); refine Kd.N_lit (Kd.slice 5 (Kd.int .u8)) _ 29 ?hg (N' := 34) ?hd (xs := ([t326, y323] : List (List Int))) (inner := [.slice Ao26 t326.length co26, .slice Ao27 y323.length co27]) (ok := (fun k_ => k_ ≠ gb317)) (okp := (fun k_ => k_ ≠ gb317)) ?hr ?hp (fun _ hk => hk) ((show ∀ k_, w25.heap.size ≤ k_ → (fun k_ => k_ ≠ gb317) k_ from fun k_ hk => Kd.freshB (g := gb317) (o := .cells #[.int .i64 a0_0, .int .i64 a0_1, .int .i64 a0_2, .slice A0_3 l0_3.length c0_3] 40 (0, 0)) (u_ BK317.out) k_ hk) _ (Nat.le_refl _)) (Below.refl _ _) (Nat.le_refl _) (by simp) ?_; (case hd => rfl); (case hg => rfl); (case hr => first | (go_simp; done) | (go_simp; rfl)); (case hp => exact (Reps.one (show Kd.FK (Kd.slice 5 (Kd.int .u8)) _ _ t326 [.slice Ao26 t326.length co26] from (Kd.FK_slice_mk (Kd.R_reads' (Kd.R_mono (ok' := (fun k_ => k_ ≠ gb317)) (Kd.R_types (HO328.out) BK317.out (by decide)) (fun k_ hk => hk.2))).2.1 (Kd.R_F (Kd.R_mono (ok' := (fun k_ => k_ ≠ gb317)) (Kd.R_types (HO328.out) BK317.out (by decide)) (fun k_ hk => hk.2))))) (Reps.one (show Kd.FK (Kd.slice 5 (Kd.int .u8)) _ _ y323 [.slice Ao27 y323.length co27] from (Kd.FK_slice_mk (Kd.R_reads' (Kd.R_mono (ok' := (fun k_ => k_ ≠ gb317)) (Kd.R_types (HO325.out) BK317.out (by decide)) (fun k_ hk => hk.2))).2.1 (Kd.R_F (Kd.R_mono (ok' := (fun k_ => k_ ≠ gb317)) (Kd.R_types (HO325.out) BK317.out (by decide)) (fun k_ hk => hk.2))))) (Reps.none _ _)))); intro v330 w28 ho29 hb hg_ hnew_; clear hg_ hnew_; (first | rw [← Ny329.out] at ho29 | (simp only [Int.reduceToNat] at ho29; rw [← Ny329.out] at ho29)); replace HO325 := mk_ (Kd.R_below (Kd.ur_ HO325.out) hb); have HO331 := mk_ (Kd.N_lower ho29 (below_size (us_ HB.out))); replace BK317 := mk_ (blk_below (u_ BK317.out) hb); replace HB := mk_ (below_step (us_ HB.out) hb); clear HO328; clear hb ho29; obtain ⟨Ao30, co30, eo30⟩ := Kd.N_slice HO331.out; subst eo30) | ((with_reducible refine gate_callee (f := 94) rfl ?_); have hA_ := A15.out; refine goesL_ (some 35) rfl rfl Try.func94 (by kernel_rfl) rfl #[.slice Ao30 y329.length co30] rfl (by (try simp only [lm_, lo_, ln_]); try rfl) ?_; (with_reducible refine (slices_Concat_byte_byte.calls _ _ y329 t332 _ ?side1 ?side2 A15.out).mono ?_); (case side1 => repeat (first | exact (Kd.N_reads' HO331.out).2.2 | (with_reducible refine Kd.C_alloc ?_ _) | (with_reducible refine Kd.C_drewN ?_ _) | (with_reducible refine Kd.C_drew ?_))); (case side2 => exact (Kd.N_reads' HO331.out).2.1); rintro e w31 ⟨v333, rfl, ho0, hb⟩; refine ⟨_, rfl, ?_⟩; have n0_ := mk_ (Kd.R_elder' (Kd.ur_ HO325.out) (Kd.R_base ho0) hb); replace HO331 := mk_ (Kd.N_elder' (by (with_reducible repeat (first | apply Kd.N_alloc | apply Kd.N_drewN | apply Kd.N_drew)); exact HO331.out) (Kd.R_base ho0) hb); have HO334 := mk_ (Kd.R_lower (Kd.R_new' ho0 (Kd.R_lt (Kd.ur_ HO325.out))) (below_size (us_ HB.out))); replace BK317 := mk_ (blk_below (u_ BK317.out) hb); replace HB := mk_ (below_step (us_ HB.out) hb); replace HO325 := n0_; clear n0_; obtain ⟨Ao32, co32, eo32⟩ := Kd.R_slice HO334.out; subst eo32; clear hA_ A15) | ((with_reducible refine gate_callee (f := 95) rfl ?_); refine goesL_ (some 36) rfl rfl Try.func95 (by kernel_rfl) rfl #[.slice Ao32 t332.length co32] rfl (by (try simp only [lm_, lo_, ln_]); try rfl) ?_; (with_reducible refine (impl_sumOf.calls _ _ t332 t335 _ ?side1 ?side2 A16.out).mono ?_); (case side1 => repeat (first | exact (Kd.R_reads' HO334.out).2.2 | (with_reducible refine Kd.C_alloc ?_ _) | (with_reducible refine Kd.C_drewN ?_ _) | (with_reducible refine Kd.C_drew ?_))); (case side2 => exact (Kd.R_reads' HO334.out).2.1); rintro e w33 ⟨rfl, hb⟩; refine ⟨_, rfl, ?_⟩; replace HO325 := mk_ (Kd.R_below (Kd.ur_ HO325.out) hb); replace HO331 := mk_ (Kd.N_below (by (with_reducible repeat (first | apply Kd.N_alloc | apply Kd.N_drewN | apply Kd.N_drew)); exact HO331.out) hb); replace HO334 := mk_ (Kd.R_below (Kd.ur_ HO334.out) hb); replace BK317 := mk_ (blk_below (u_ BK317.out) hb); replace HB := mk_ (below_step (us_ HB.out) hb)) | ((with_reducible refine gate_callee (f := 81) rfl ?_); refine goesL_ (some 37) rfl rfl Try.func81 (by kernel_rfl) rfl #[.int .i64 t335, .int .i64 2] rfl (by (try simp only [lm_, lo_, ln_]); try rfl) ?_; (with_reducible refine (impl_bytesOf.calls kj2 t335 2 t336 _ A17.out).mono ?_); rintro e w34 ⟨v337, rfl, ho0, hb⟩; refine ⟨_, rfl, ?_⟩; have n0_ := mk_ (Kd.R_elder' (Kd.ur_ HO325.out) (Kd.R_base ho0) hb); replace HO331 := mk_ (Kd.N_elder' (by (with_reducible repeat (first | apply Kd.N_alloc | apply Kd.N_drewN | apply Kd.N_drew)); exact HO331.out) (Kd.R_base ho0) hb); have n2_ := mk_ (Kd.R_elder' (Kd.ur_ HO334.out) (Kd.R_base ho0) hb); have HO338 := mk_ (Kd.R_lower (Kd.R_new' (Kd.R_new' ho0 (Kd.R_lt (Kd.ur_ HO325.out))) (Kd.R_lt (Kd.ur_ HO334.out))) (below_size (us_ HB.out))); replace BK317 := mk_ (blk_below (u_ BK317.out) hb); replace HB := mk_ (below_step (us_ HB.out) hb); replace HO325 := n0_; replace HO334 := n2_; clear n0_ n2_; obtain ⟨Ao35, co35, eo35⟩ := Kd.R_slice HO338.out; subst eo35) | ((with_reducible refine gate_dst (N := 38) rfl ?_); refine Kd.N_lit (Kd.slice 5 (Kd.int .u8)) _ 29 ?hg (N' := 38) ?hd (xs := ([y323, t336] : List (List Int))) (inner := [.slice Ao27 y323.length co27, .slice Ao35 t336.length co35]) (ok := (fun k_ => some k_ ≠ (.slice Ao30 y329.length co30 : Value).ownBlock ∧ some k_ ≠ (.slice Ao32 t332.length co32 : Value).ownBlock ∧ k_ ≠ gb317)) (okp := (fun k_ => some k_ ≠ (.slice Ao30 y329.length co30 : Value).ownBlock ∧ some k_ ≠ (.slice Ao32 t332.length co32 : Value).ownBlock ∧ k_ ≠ gb317)) ?hr ?hp (fun _ hk => hk) ((show ∀ k_, w34.heap.size ≤ k_ → (fun k_ => some k_ ≠ (.slice Ao30 y329.length co30 : Value).ownBlock ∧ some k_ ≠ (.slice Ao32 t332.length co32 : Value).ownBlock ∧ k_ ≠ gb317) k_ from fun k_ hk => ⟨Kd.fresh' (Kd.N_lt (by (with_reducible repeat (first | apply Kd.N_alloc | apply Kd.N_drewN | apply Kd.N_drew)); exact HO331.out)) k_ hk, Kd.fresh' (Kd.R_lt (Kd.ur_ HO334.out)) k_ hk, Kd.freshB (g := gb317) (o := .cells #[.int .i64 a0_0, .int .i64 a0_1, .int .i64 a0_2, .slice A0_3 l0_3.length c0_3] 40 (0, 0)) (u_ BK317.out) k_ hk⟩) _ (Nat.le_refl _)) (Below.refl _ _) (Nat.le_refl _) (by simp) ?_; (case hd => rfl); (case hg => rfl); (case hr => first | (go_simp; done) | (go_simp; rfl)); (case hp => exact (Reps.one (show Kd.FK (Kd.slice 5 (Kd.int .u8)) _ _ y323 [.slice Ao27 y323.length co27] from (Kd.FK_slice_mk (Kd.R_reads' (Kd.R_mono (ok' := (fun k_ => some k_ ≠ (.slice Ao30 y329.length co30 : Value).ownBlock ∧ some k_ ≠ (.slice Ao32 t332.length co32 : Value).ownBlock ∧ k_ ≠ gb317)) (Kd.R_types (Kd.R_apart' (HO325.out) (Kd.N_typed HO331.out) (by decide)) BK317.out (by decide)) (fun k_ hk => by first | exact ⟨hk.1.2, ⟨hk.1.1.1.2, hk.2⟩⟩ | exact hk.1 | exact hk | exact ⟨hk.1, hk.2⟩ | exact ⟨.inr hk.1, hk.2⟩ | simp only [hk, ne_eq, not_false_eq_true, and_self]))).2.1 (Kd.R_F (Kd.R_mono (ok' := (fun k_ => some k_ ≠ (.slice Ao30 y329.length co30 : Value).ownBlock ∧ some k_ ≠ (.slice Ao32 t332.length co32 : Value).ownBlock ∧ k_ ≠ gb317)) (Kd.R_types (Kd.R_apart' (HO325.out) (Kd.N_typed HO331.out) (by decide)) BK317.out (by decide)) (fun k_ hk => by first | exact ⟨hk.1.2, ⟨hk.1.1.1.2, hk.2⟩⟩ | exact hk.1 | exact hk | exact ⟨hk.1, hk.2⟩ | exact ⟨.inr hk.1, hk.2⟩ | simp only [hk, ne_eq, not_false_eq_true, and_self]))))) (Reps.one (show Kd.FK (Kd.slice 5 (Kd.int .u8)) _ _ t336 [.slice Ao35 t336.length co35] from (Kd.FK_slice_mk (Kd.R_reads' (Kd.R_mono (ok' := (fun k_ => some k_ ≠ (.slice Ao30 y329.length co30 : Value).ownBlock ∧ some k_ ≠ (.slice Ao32 t332.length co32 : Value).ownBlock ∧ k_ ≠ gb317)) (Kd.R_types (Kd.R_apart' (HO338.out) (Kd.N_typed HO331.out) (by decide)) BK317.out (by decide)) (fun k_ hk => by first | exact ⟨hk.1.2, ⟨hk.1.1.2, hk.2⟩⟩ | exact hk.1 | exact hk | exact ⟨hk.1, hk.2⟩ | exact ⟨.inr hk.1, hk.2⟩ | simp only [hk, ne_eq, not_false_eq_true, and_self]))).2.1 (Kd.R_F (Kd.R_mono (ok' := (fun k_ => some k_ ≠ (.slice Ao30 y329.length co30 : Value).ownBlock ∧ some k_ ≠ (.slice Ao32 t332.length co32 : Value).ownBlock ∧ k_ ≠ gb317)) (Kd.R_types (Kd.R_apart' (HO338.out) (Kd.N_typed HO331.out) (by decide)) BK317.out (by decide)) (fun k_ hk => by first | exact ⟨hk.1.2, ⟨hk.1.1.2, hk.2⟩⟩ | exact hk.1 | exact hk | exact ⟨hk.1, hk.2⟩ | exact ⟨.inr hk.1, hk.2⟩ | simp only [hk, ne_eq, not_false_eq_true, and_self]))))) (Reps.none _ _)))); intro v340 w36 ho37 hb hg_ hnew_; clear hg_ hnew_; (first | rw [← Ny339.out] at ho37 | (simp only [Int.reduceToNat] at ho37; rw [← Ny339.out] at ho37)); replace HO331 := mk_ (Kd.N_elder' (by (with_reducible repeat (first | apply Kd.N_alloc | apply Kd.N_drewN | apply Kd.N_drew)); exact HO331.out) (Kd.N_base ho37) hb); replace HO334 := mk_ (Kd.R_below (Kd.ur_ HO334.out) hb); have HO341 := mk_ (Kd.N_lower ho37 (below_size (us_ HB.out))); replace BK317 := mk_ (blk_below (u_ BK317.out) hb); replace HB := mk_ (below_step (us_ HB.out) hb); clear HO325 HO338; clear hb ho37; obtain ⟨Ao38, co38, eo38⟩ := Kd.N_slice HO341.out; subst eo38) | ((with_reducible refine gate_callee (f := 94) rfl ?_); have hA_ := A18.out; refine goesL_ (some 39) rfl rfl Try.func94 (by kernel_rfl) rfl #[.slice Ao38 y339.length co38] rfl (by (try simp only [lm_, lo_, ln_]); try rfl) ?_; (with_reducible refine (slices_Concat_byte_byte.calls _ _ y339 t342 _ ?side1 ?side2 A18.out).mono ?_); (case side1 => repeat (first | exact (Kd.N_reads' HO341.out).2.2 | (with_reducible refine Kd.C_alloc ?_ _) | (with_reducible refine Kd.C_drewN ?_ _) | (with_reducible refine Kd.C_drew ?_))); (case side2 => exact (Kd.N_reads' HO341.out).2.1); rintro e w39 ⟨v343, rfl, ho0, hb⟩; refine ⟨_, rfl, ?_⟩; replace HO331 := mk_ (Kd.N_elder' (by (with_reducible repeat (first | apply Kd.N_alloc | apply Kd.N_drewN | apply Kd.N_drew)); exact HO331.out) (Kd.R_base ho0) hb); have n1_ := mk_ (Kd.R_elder' (Kd.ur_ HO334.out) (Kd.R_base ho0) hb); replace HO341 := mk_ (Kd.N_elder' (by (with_reducible repeat (first | apply Kd.N_alloc | apply Kd.N_drewN | apply Kd.N_drew)); exact HO341.out) (Kd.R_base ho0) hb); have HO344 := mk_ (Kd.R_lower (Kd.R_new' ho0 (Kd.R_lt (Kd.ur_ HO334.out))) (below_size (us_ HB.out))); replace BK317 := mk_ (blk_below (u_ BK317.out) hb); replace HB := mk_ (below_step (us_ HB.out) hb); replace HO334 := n1_; clear n1_; clear hA_ A18))
   go_ret
   exact ⟨_, by first | rfl | (simp [errW_none, errW_some] <;> rfl) | (simp [*, errW_none, errW_some] <;> rfl), by (with_reducible repeat (first | apply Kd.R_alloc | apply Kd.R_drewN | apply Kd.R_drew)); exact Kd.R_mono HO344.out (fun _ hk => trivial), us_ HB.out⟩

end Go.Proofs.Ytkkibccnpkbbjaa.MFnExactPortHear
