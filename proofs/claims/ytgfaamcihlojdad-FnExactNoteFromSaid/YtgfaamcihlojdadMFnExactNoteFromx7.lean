/- Functions that the law FnExactNoteFrom reaches, each with the proof that the machine's call comes to just its answer; no conditions but those that each theorem states. Printed by a program of this session over the kit's print. -/
import Derived.Test.YtgfaamcihlojdadMFnExactNoteFromx0
import Derived.Test.YtgfaamcihlojdadMFnExactNoteFromx2
import Derived.Test.YtgfaamcihlojdadMFnExactNoteFromx3
import Derived.Test.YtgfaamcihlojdadMFnExactNoteFromx5
import Derived.Test.YtgfaamcihlojdadMFnExactNoteFromx6
namespace Go.Proofs.Ytgfaamcihlojdad.MFnExactNoteFrom
open Go.RowKit Go.Proofs.YtgfaamcihlojdadV.PrintWords Go.Proofs.YtgfaamcihlojdadV.PrintLast Go.Proofs.YtgfaamcihlojdadV.PrintMore
attribute [local go_sem] max2_int min2_int max_two min_two max_three min_three max_four min_four   -- for this text's walks alone
set_option linter.unusedVariables false
set_option linter.unusedSimpArgs false

/-! ### laws_FnExactNoteFrom: function 7 -/
mutual
def laws_FnExactNoteFrom.j0 : Nat → List Int → Bool → List Int → Bool → Bool → Int → Int → List Int → Int → Int → List Int → Option (Bool)
 | 0, _, _, _, _, _, _, _, _, _, _, _ => none
 | k + 1, x0, x4, x5, x7, x37, x189000, x189001, x189002, x199000, x199001, x199002 => if x37 = true then (some false) else ((laws_toByteS.f k x0).bind fun t200 => ((laws_eqByteS.f k x5 t200).bind fun t203 => (if t203 = true then ((laws_markByteS.f k x5 1).bind fun bt204 => (if bt204.1 < 0 then (laws_FnExactNoteFrom.j1 k x0 x4 true x189000 x189001 x189002 x199000 x199001 x199002) else ((laws_eqNote.f k x199000 x199001 x199002 x189000 x189001 x189002).bind fun t206 => (if t206 = true then (laws_FnExactNoteFrom.j1 k x0 x4 (x7 != x4) x189000 x189001 x189002 x199000 x199001 x199002) else (laws_FnExactNoteFrom.j1 k x0 x4 true x189000 x189001 x189002 x199000 x199001 x199002))))) else (some false))))
def laws_FnExactNoteFrom.j1 : Nat → List Int → Bool → Bool → Int → Int → List Int → Int → Int → List Int → Option (Bool)
 | 0, _, _, _, _, _, _, _, _, _ => none
 | k + 1, x0, x4, x58, x189000, x189001, x189002, x199000, x199001, x199002 => if x58 = true then (some false) else ((laws_markNote.f k x199000 x199001 x199002 1).bind fun bt207 => ((laws_heldNote.f k x199000 x199001 bt207.2 1).bind fun t209 => (if t209 < 0 then (some false) else (if t209 = bt207.1 then ((laws_toByteS.f k x0).bind fun t210 => ((impl_NoteFrom.f k t210).bind fun bt213 => ((laws_eqNote.f k bt213.1 bt213.2.1 bt213.2.2.1 x189000 x189001 x189002).bind fun t220 => (if t220 = true then (laws_FnExactNoteFrom.j2 k bt207.1 (bt213.2.2.2 != x4) x199000 x199001 bt207.2) else (laws_FnExactNoteFrom.j2 k bt207.1 true x199000 x199001 bt207.2))))) else (some false)))))
def laws_FnExactNoteFrom.j2 : Nat → Int → Bool → Int → Int → List Int → Option (Bool)
 | 0, _, _, _, _, _ => none
 | k + 1, x9, x84, x199000, x199001, x199002 => if x84 = true then (some false) else ((laws_heldNote.f k x199000 x199001 x199002 1).bind fun t221 => (if t221 < 0 then (some false) else (if t221 = x9 then (some true) else (some false))))
end
def laws_FnExactNoteFrom.f (k : Nat) (l0 : List Int) : Option (Bool) := if (l0.length : Int) > 1048576 then (some true) else ((laws_toByteS.f k l0).bind fun t179 => ((spec_NoteFrom.f k t179).bind fun bt182 => ((laws_toByteS.f k l0).bind fun t189 => ((impl_NoteFrom.f k t189).bind fun bt192 => ((laws_eqNote.f k bt192.1 bt192.2.1 bt192.2.2.1 bt182.1 bt182.2.1 bt182.2.2.1).bind fun t199 => (if t199 = true then (laws_FnExactNoteFrom.j0 k l0 bt182.2.2.2 t189 bt192.2.2.2 (bt192.2.2.2 != bt182.2.2.2) bt182.1 bt182.2.1 bt182.2.2.1 bt192.1 bt192.2.1 bt192.2.2.1) else (laws_FnExactNoteFrom.j0 k l0 bt182.2.2.2 t189 bt192.2.2.2 true bt182.1 bt182.2.1 bt182.2.2.1 bt192.1 bt192.2.1 bt192.2.2.1)))))))
theorem laws_FnExactNoteFrom.mono_l : ∀ k, (∀ y0 y1 y2 y3 y4 y5 y6 y7 y8 y9 y10, LeO (laws_FnExactNoteFrom.j0 k y0 y1 y2 y3 y4 y5 y6 y7 y8 y9 y10) (laws_FnExactNoteFrom.j0 (k + 1) y0 y1 y2 y3 y4 y5 y6 y7 y8 y9 y10)) ∧ (∀ y0 y1 y2 y3 y4 y5 y6 y7 y8, LeO (laws_FnExactNoteFrom.j1 k y0 y1 y2 y3 y4 y5 y6 y7 y8) (laws_FnExactNoteFrom.j1 (k + 1) y0 y1 y2 y3 y4 y5 y6 y7 y8)) ∧ (∀ y0 y1 y2 y3 y4, LeO (laws_FnExactNoteFrom.j2 k y0 y1 y2 y3 y4) (laws_FnExactNoteFrom.j2 (k + 1) y0 y1 y2 y3 y4))
 | 0 => ⟨fun _ _ _ _ _ _ _ _ _ _ _ r h => by simp [laws_FnExactNoteFrom.j0] at h, fun _ _ _ _ _ _ _ _ _ r h => by simp [laws_FnExactNoteFrom.j1] at h, fun _ _ _ _ _ r h => by simp [laws_FnExactNoteFrom.j2] at h⟩
 | k + 1 => by
  obtain ⟨ih0, ih1, ih2⟩ := laws_FnExactNoteFrom.mono_l k
  refine ⟨?_, ?_, ?_⟩
  ·intro y0 y1 y2 y3 y4 y5 y6 y7 y8 y9 y10
   unfold laws_FnExactNoteFrom.j0
   repeat' first
   | (with_reducible exact ih0 _ _ _ _ _ _ _ _ _ _ _)
   | (with_reducible exact ih1 _ _ _ _ _ _ _ _ _)
   | (with_reducible exact ih2 _ _ _ _ _)
   | (with_reducible exact impl_NoteFrom.mono _ _)
   | (with_reducible exact laws_eqByteS.mono _ _ _)
   | (with_reducible exact laws_eqNote.mono _ _ _ _ _ _ _)
   | (with_reducible exact laws_heldNote.mono _ _ _ _ _)
   | (with_reducible exact laws_markByteS.mono _ _ _)
   | (with_reducible exact laws_markNote.mono _ _ _ _ _)
   | (with_reducible exact laws_toByteS.mono _ _)
   | (with_reducible exact spec_NoteFrom.mono _ _)
   | (with_reducible exact LeO.refl _)
   | (with_reducible exact LeO.none _)
   | (with_reducible refine LeO.ite ?_ ?_)
   | (with_reducible refine LeO.bind ?_ (fun _ => ?_))
   | exact ih0 _ _ _ _ _ _ _ _ _ _ _
   | exact ih1 _ _ _ _ _ _ _ _ _
   | exact ih2 _ _ _ _ _
   | exact impl_NoteFrom.mono _ _
   | exact laws_eqByteS.mono _ _ _
   | exact laws_eqNote.mono _ _ _ _ _ _ _
   | exact laws_heldNote.mono _ _ _ _ _
   | exact laws_markByteS.mono _ _ _
   | exact laws_markNote.mono _ _ _ _ _
   | exact laws_toByteS.mono _ _
   | exact spec_NoteFrom.mono _ _
   | exact LeO.none _
   | refine LeO.ite ?_ ?_
   | refine LeO.bind ?_ (fun _ => ?_)
  ·intro y0 y1 y2 y3 y4 y5 y6 y7 y8
   unfold laws_FnExactNoteFrom.j1
   repeat' first
   | (with_reducible exact ih0 _ _ _ _ _ _ _ _ _ _ _)
   | (with_reducible exact ih1 _ _ _ _ _ _ _ _ _)
   | (with_reducible exact ih2 _ _ _ _ _)
   | (with_reducible exact impl_NoteFrom.mono _ _)
   | (with_reducible exact laws_eqByteS.mono _ _ _)
   | (with_reducible exact laws_eqNote.mono _ _ _ _ _ _ _)
   | (with_reducible exact laws_heldNote.mono _ _ _ _ _)
   | (with_reducible exact laws_markByteS.mono _ _ _)
   | (with_reducible exact laws_markNote.mono _ _ _ _ _)
   | (with_reducible exact laws_toByteS.mono _ _)
   | (with_reducible exact spec_NoteFrom.mono _ _)
   | (with_reducible exact LeO.refl _)
   | (with_reducible exact LeO.none _)
   | (with_reducible refine LeO.ite ?_ ?_)
   | (with_reducible refine LeO.bind ?_ (fun _ => ?_))
   | exact ih0 _ _ _ _ _ _ _ _ _ _ _
   | exact ih1 _ _ _ _ _ _ _ _ _
   | exact ih2 _ _ _ _ _
   | exact impl_NoteFrom.mono _ _
   | exact laws_eqByteS.mono _ _ _
   | exact laws_eqNote.mono _ _ _ _ _ _ _
   | exact laws_heldNote.mono _ _ _ _ _
   | exact laws_markByteS.mono _ _ _
   | exact laws_markNote.mono _ _ _ _ _
   | exact laws_toByteS.mono _ _
   | exact spec_NoteFrom.mono _ _
   | exact LeO.none _
   | refine LeO.ite ?_ ?_
   | refine LeO.bind ?_ (fun _ => ?_)
  ·intro y0 y1 y2 y3 y4
   unfold laws_FnExactNoteFrom.j2
   repeat' first
   | (with_reducible exact ih0 _ _ _ _ _ _ _ _ _ _ _)
   | (with_reducible exact ih1 _ _ _ _ _ _ _ _ _)
   | (with_reducible exact ih2 _ _ _ _ _)
   | (with_reducible exact impl_NoteFrom.mono _ _)
   | (with_reducible exact laws_eqByteS.mono _ _ _)
   | (with_reducible exact laws_eqNote.mono _ _ _ _ _ _ _)
   | (with_reducible exact laws_heldNote.mono _ _ _ _ _)
   | (with_reducible exact laws_markByteS.mono _ _ _)
   | (with_reducible exact laws_markNote.mono _ _ _ _ _)
   | (with_reducible exact laws_toByteS.mono _ _)
   | (with_reducible exact spec_NoteFrom.mono _ _)
   | (with_reducible exact LeO.refl _)
   | (with_reducible exact LeO.none _)
   | (with_reducible refine LeO.ite ?_ ?_)
   | (with_reducible refine LeO.bind ?_ (fun _ => ?_))
   | exact ih0 _ _ _ _ _ _ _ _ _ _ _
   | exact ih1 _ _ _ _ _ _ _ _ _
   | exact ih2 _ _ _ _ _
   | exact impl_NoteFrom.mono _ _
   | exact laws_eqByteS.mono _ _ _
   | exact laws_eqNote.mono _ _ _ _ _ _ _
   | exact laws_heldNote.mono _ _ _ _ _
   | exact laws_markByteS.mono _ _ _
   | exact laws_markNote.mono _ _ _ _ _
   | exact laws_toByteS.mono _ _
   | exact spec_NoteFrom.mono _ _
   | exact LeO.none _
   | refine LeO.ite ?_ ?_
   | refine LeO.bind ?_ (fun _ => ?_)
theorem laws_FnExactNoteFrom.mono : ∀ a0 k, LeO (laws_FnExactNoteFrom.f k a0) (laws_FnExactNoteFrom.f (k + 1) a0) := by
 intro a0 k
 obtain ⟨ih0, ih1, ih2⟩ := laws_FnExactNoteFrom.mono_l k
 unfold laws_FnExactNoteFrom.f
 repeat' first
   | (with_reducible exact ih0 _ _ _ _ _ _ _ _ _ _ _)
   | (with_reducible exact ih1 _ _ _ _ _ _ _ _ _)
   | (with_reducible exact ih2 _ _ _ _ _)
   | (with_reducible exact impl_NoteFrom.mono _ _)
   | (with_reducible exact laws_eqByteS.mono _ _ _)
   | (with_reducible exact laws_eqNote.mono _ _ _ _ _ _ _)
   | (with_reducible exact laws_heldNote.mono _ _ _ _ _)
   | (with_reducible exact laws_markByteS.mono _ _ _)
   | (with_reducible exact laws_markNote.mono _ _ _ _ _)
   | (with_reducible exact laws_toByteS.mono _ _)
   | (with_reducible exact spec_NoteFrom.mono _ _)
   | (with_reducible exact LeO.refl _)
   | (with_reducible exact LeO.none _)
   | (with_reducible refine LeO.ite ?_ ?_)
   | (with_reducible refine LeO.bind ?_ (fun _ => ?_))
   | exact ih0 _ _ _ _ _ _ _ _ _ _ _
   | exact ih1 _ _ _ _ _ _ _ _ _
   | exact ih2 _ _ _ _ _
   | exact impl_NoteFrom.mono _ _
   | exact laws_eqByteS.mono _ _ _
   | exact laws_eqNote.mono _ _ _ _ _ _ _
   | exact laws_heldNote.mono _ _ _ _ _
   | exact laws_markByteS.mono _ _ _
   | exact laws_markNote.mono _ _ _ _ _
   | exact laws_toByteS.mono _ _
   | exact spec_NoteFrom.mono _ _
   | exact LeO.none _
   | refine LeO.ite ?_ ?_
   | refine LeO.bind ?_ (fun _ => ?_)
set_option maxHeartbeats 8000000 in
set_option maxRecDepth 100000 in
theorem laws_FnExactNoteFrom.calls (k : Nat) (A0 : Option Addr) (c0 : Nat) (l0 : List Int) (r : Bool) (w : World) (hr0 : Kd.C (Kd.int .u8) w A0 l0.length l0) (hc0 : l0.length ≤ c0) (h : laws_FnExactNoteFrom.f k l0 = some r) :
  Calls Try.prog 7 #[.slice A0 l0.length c0] w fun e w' => e = .returned (.bool r) ∧ Below w.heap.size w w' := by
 have hu56 := Try.underlying56
 have HR0 := mk_ hr0
 have HC0 := mk_ hc0
 clear hr0 hc0
 have HB := mk_ (Below.refl w.heap.size w)
 have H : (if (l0.length : Int) > 1048576 then (some true) else ((laws_toByteS.f k l0).bind fun t179 => ((spec_NoteFrom.f k t179).bind fun bt182 => ((laws_toByteS.f k l0).bind fun t189 => ((impl_NoteFrom.f k t189).bind fun bt192 => ((laws_eqNote.f k bt192.1 bt192.2.1 bt192.2.2.1 bt182.1 bt182.2.1 bt182.2.2.1).bind fun t199 => (if t199 = true then (laws_FnExactNoteFrom.j0 k l0 bt182.2.2.2 t189 bt192.2.2.2 (bt192.2.2.2 != bt182.2.2.2) bt182.1 bt182.2.1 bt182.2.2.1 bt192.1 bt192.2.1 bt192.2.2.1) else (laws_FnExactNoteFrom.j0 k l0 bt182.2.2.2 t189 bt192.2.2.2 true bt182.1 bt182.2.1 bt182.2.2.1 bt192.1 bt192.2.1 bt192.2.2.1)))))))) = some r := h
 clear h
 by_cases c2 : (l0.length : Int) > 1048576
 ·rw [if_pos c2] at H
  have c2b0 : decide (1048576 < (l0.length : Int)) = true := decide_eq_true c2
  have c2b1 : decide (1048576 < l0.length) = true := decide_eq_true (by omega)
  clear c2
  obtain rfl := Option.some.inj H
  go_enter Try.func7, Try.ntmps7
  go_wp2
  go_ret
  exact ⟨by first | rfl | (simp [errW_none, errW_some] <;> rfl) | (simp [*, errW_none, errW_some] <;> rfl), by repeat (first | (with_reducible first | exact HB.out | apply na_ | apply nn_ | apply nw_) | exact HB.out)⟩
 rw [if_neg c2] at H
 have c2b0 : decide (1048576 < (l0.length : Int)) = false := decide_eq_false c2
 have c2b1 : decide (1048576 < l0.length) = false := decide_eq_false (by omega)
 clear c2
 replace H := Option.bind_eq_some_iff.mp H
 obtain ⟨t179, A30, H⟩ := H
 replace H : ((spec_NoteFrom.f k t179).bind fun bt182 => ((laws_toByteS.f k l0).bind fun t189 => ((impl_NoteFrom.f k t189).bind fun bt192 => ((laws_eqNote.f k bt192.1 bt192.2.1 bt192.2.2.1 bt182.1 bt182.2.1 bt182.2.2.1).bind fun t199 => (if t199 = true then (laws_FnExactNoteFrom.j0 k l0 bt182.2.2.2 t189 bt192.2.2.2 (bt192.2.2.2 != bt182.2.2.2) bt182.1 bt182.2.1 bt182.2.2.1 bt192.1 bt192.2.1 bt192.2.2.1) else (laws_FnExactNoteFrom.j0 k l0 bt182.2.2.2 t189 bt192.2.2.2 true bt182.1 bt182.2.1 bt182.2.2.1 bt192.1 bt192.2.1 bt192.2.2.1)))))) = some r := H
 have A3 := mk_ A30
 clear A30
 replace H := Option.bind_eq_some_iff.mp H
 obtain ⟨⟨t182, t183, t184, t187⟩, A40, H⟩ := H
 replace H : ((laws_toByteS.f k l0).bind fun t189 => ((impl_NoteFrom.f k t189).bind fun bt192 => ((laws_eqNote.f k bt192.1 bt192.2.1 bt192.2.2.1 t182 t183 t184).bind fun t199 => (if t199 = true then (laws_FnExactNoteFrom.j0 k l0 t187 t189 bt192.2.2.2 (bt192.2.2.2 != t187) t182 t183 t184 bt192.1 bt192.2.1 bt192.2.2.1) else (laws_FnExactNoteFrom.j0 k l0 t187 t189 bt192.2.2.2 true t182 t183 t184 bt192.1 bt192.2.1 bt192.2.2.1))))) = some r := H
 have A4 := mk_ A40
 clear A40
 replace H := Option.bind_eq_some_iff.mp H
 obtain ⟨t189, A50, H⟩ := H
 replace H : ((impl_NoteFrom.f k t189).bind fun bt192 => ((laws_eqNote.f k bt192.1 bt192.2.1 bt192.2.2.1 t182 t183 t184).bind fun t199 => (if t199 = true then (laws_FnExactNoteFrom.j0 k l0 t187 t189 bt192.2.2.2 (bt192.2.2.2 != t187) t182 t183 t184 bt192.1 bt192.2.1 bt192.2.2.1) else (laws_FnExactNoteFrom.j0 k l0 t187 t189 bt192.2.2.2 true t182 t183 t184 bt192.1 bt192.2.1 bt192.2.2.1)))) = some r := H
 have A5 := mk_ A50
 clear A50
 replace H := Option.bind_eq_some_iff.mp H
 obtain ⟨⟨t192, t193, t194, t197⟩, A60, H⟩ := H
 replace H : ((laws_eqNote.f k t192 t193 t194 t182 t183 t184).bind fun t199 => (if t199 = true then (laws_FnExactNoteFrom.j0 k l0 t187 t189 t197 (t197 != t187) t182 t183 t184 t192 t193 t194) else (laws_FnExactNoteFrom.j0 k l0 t187 t189 t197 true t182 t183 t184 t192 t193 t194))) = some r := H
 have A6 := mk_ A60
 clear A60
 have HC7 := mk_ H
 clear H
 go_enter Try.func7, Try.ntmps7
 go_upto_region 6 with (first | ((with_reducible refine gate_callee (f := 27) rfl ?_); refine goesL_ (some 18) rfl rfl Try.func27 (by kernel_rfl) rfl #[.slice A0 l0.length c0] rfl (by (try simp only [lm_, lo_, ln_]); first | done | rfl | (simp only [List.length_drop, List.length_take]; rfl)) ?_; (with_reducible refine (laws_toByteS.calls k _ _ l0 t179 _ ?side1 ?side2 A3.out).mono ?_); (case side1 => repeat (first | exact HR0.out | (with_reducible refine Kd.C_alloc ?_ _) | (with_reducible refine Kd.C_drewN ?_ _) | (with_reducible refine Kd.C_drew ?_))); (case side2 => exact HC0.out); rintro e w8 ⟨v180, rfl, ho0, hb⟩; refine ⟨_, rfl, ?_⟩; have n0_ := mk_ (Kd.R_lower ho0 (below_size (by repeat (first | (with_reducible first | exact HB.out | apply na_ | apply nn_ | apply nw_) | exact HB.out)))); have n1_ := mk_ (below_step (by repeat (first | (with_reducible first | exact HB.out | apply na_ | apply nn_ | apply nw_) | exact HB.out)) hb); clear HB; have HO181 := n0_; have HB := n1_; clear n0_ n1_; (try clear hb); (try clear hb2); (try clear hk); (try clear hi); (try clear ho0); obtain ⟨Ao9, co9, eo9⟩ := Kd.R_slice HO181.out; subst eo9) | ((with_reducible refine gate_callee (f := 26) rfl ?_); refine goesL_ (some 19) rfl rfl Try.func26 (by kernel_rfl) rfl #[.slice Ao9 t179.length co9] rfl (by (try simp only [lm_, lo_, ln_]); first | done | rfl | (simp only [List.length_drop, List.length_take]; rfl)) ?_; (with_reducible refine (spec_NoteFrom.calls k _ _ t179 t182 t183 t184 t187 _ ?side1 ?side2 A4.out).mono ?_); (case side1 => repeat (first | exact (Kd.R_reads' HO181.out).2.2 | (with_reducible refine Kd.C_alloc ?_ _) | (with_reducible refine Kd.C_drewN ?_ _) | (with_reducible refine Kd.C_drew ?_))); (case side2 => exact (Kd.R_reads' HO181.out).2.1); rintro e w10 ⟨v185, rfl, ho0, hb⟩; refine ⟨_, rfl, ?_⟩; have n0_ := mk_ (Kd.R_elder' (by (with_reducible repeat (first | apply Kd.R_alloc | apply Kd.R_drewN | apply Kd.R_drew)); exact HO181.out) (Kd.R_base ho0) hb); have n1_ := mk_ (Kd.R_lower (Kd.R_new' ho0 (Kd.R_lt (by (with_reducible repeat (first | apply Kd.R_alloc | apply Kd.R_drewN | apply Kd.R_drew)); exact HO181.out))) (below_size (by repeat (first | (with_reducible first | exact HB.out | apply na_ | apply nn_ | apply nw_) | exact HB.out)))); have n2_ := mk_ (below_step (by repeat (first | (with_reducible first | exact HB.out | apply na_ | apply nn_ | apply nw_) | exact HB.out)) hb); clear HO181; clear HB; have HO181 := n0_; have HO186 := n1_; have HB := n2_; clear n0_ n1_ n2_; (try clear hb); (try clear hb2); (try clear hk); (try clear hi); (try clear ho0)) | ((with_reducible refine gate_dst (N := 3) rfl ?_); refine box_event ?hg (N := 3) ?hd (cs := #[.int .i64 0, .int .i64 0, .slice none 0 0]) (t := 56) ?hr ?_; (case hd => rfl); (case hg => rfl); (case hr => first | (go_simp; done) | (go_simp; rfl)); intro gb188 hg w11 hbox hb; have n0_ := mk_ (Kd.R_below (by (with_reducible repeat (first | apply Kd.R_alloc | apply Kd.R_drewN | apply Kd.R_drew)); exact HO181.out) hb); have n1_ := mk_ (Kd.R_below (by (with_reducible repeat (first | apply Kd.R_alloc | apply Kd.R_drewN | apply Kd.R_drew)); exact HO186.out) hb); have n2_ := mk_ (below_step (by repeat (first | (with_reducible first | exact HB.out | apply na_ | apply nn_ | apply nw_) | exact HB.out)) hb); have n3_ := mk_ (hbox); have n4_ := mk_ ((by rw [hg]; exact (below_size (by repeat (first | (with_reducible first | exact HB.out | apply na_ | apply nn_ | apply nw_) | exact HB.out))) : w.heap.size ≤ gb188)); have n5_ := mk_ ((by rw [hg]; exact (below_size (by repeat (first | (with_reducible first | exact HB.out | apply na_ | apply nn_ | apply nw_) | exact HB.out))) : w.heap.size ≤ gb188)); clear HO181; clear HO186; clear HB; have HO181 := n0_; have HO186 := n1_; have HB := n2_; have BK188 := n3_; have GW188 := n4_; have GE188 := n5_; clear n0_ n1_ n2_ n3_ n4_ n5_; clear hb hbox hg; have hcz12_0 : w11.cell? ⟨gb188, 0, none⟩ = some (.int .i64 0) := (blk_cell BK188.out 0).trans rfl; have hcz12_1 : w11.cell? ⟨gb188, 1, none⟩ = some (.int .i64 0) := (blk_cell BK188.out 1).trans rfl; have hcz12_2 : w11.cell? ⟨gb188, 2, none⟩ = some (.slice none 0 0) := (blk_cell BK188.out 2).trans rfl; have hfz12_0 := blk_frozen BK188.out 0; have hfz12_1 := blk_frozen BK188.out 1; have hfz12_2 := blk_frozen BK188.out 2; obtain ⟨Ao13, co13, eo13⟩ := Kd.R_slice HO186.out; subst eo13) | ((with_reducible refine gate_callee (f := 27) rfl ?_); refine goesL_ (some 23) rfl rfl Try.func27 (by kernel_rfl) rfl #[.slice A0 l0.length c0] rfl (by (try simp only [lm_, lo_, ln_]); first | done | rfl | (simp only [List.length_drop, List.length_take]; rfl)) ?_; (with_reducible refine (laws_toByteS.calls k _ _ l0 t189 _ ?side1 ?side2 A5.out).mono ?_); (case side1 => exact Kd.C_below HR0.out (by repeat (first | (with_reducible first | exact HB.out | apply na_ | apply nn_ | apply nw_ | refine bs_ ?_ GE188.out) | exact HB.out))); (case side2 => exact HC0.out); rintro e w14 ⟨v190, rfl, ho0, hb⟩; refine ⟨_, rfl, ?_⟩; have n0_ := mk_ (Kd.R_elder' (by (with_reducible repeat (first | apply Kd.R_alloc | apply Kd.R_drewN | apply Kd.R_drew)); exact (Kd.R_mono (Kd.R_far (p := ⟨gb188, 2, none⟩) (Kd.R_far (p := ⟨gb188, 1, none⟩) (Kd.R_far (p := ⟨gb188, 0, none⟩) (Kd.R_types HO181.out BK188.out (by decide)) (fun _ hk => hk.2) (.int .i64 t182)) (fun _ hk => hk.2) (.int .i64 t183)) (fun _ hk => hk.2) (.slice Ao13 t184.length co13)) (fun _ h_ => h_.1))) (Kd.R_base ho0) hb); have n1_ := mk_ (Kd.R_elder' (by (with_reducible repeat (first | apply Kd.R_alloc | apply Kd.R_drewN | apply Kd.R_drew)); exact (Kd.R_mono (Kd.R_far (p := ⟨gb188, 2, none⟩) (Kd.R_far (p := ⟨gb188, 1, none⟩) (Kd.R_far (p := ⟨gb188, 0, none⟩) (Kd.R_types HO186.out BK188.out (by decide)) (fun _ hk => hk.2) (.int .i64 t182)) (fun _ hk => hk.2) (.int .i64 t183)) (fun _ hk => hk.2) (.slice Ao13 t184.length co13)) (fun _ h_ => h_.1))) (Kd.R_base ho0) hb); have n2_ := mk_ (Kd.R_lower (Kd.R_new' (Kd.R_new' ho0 (Kd.R_lt (by (with_reducible repeat (first | apply Kd.R_alloc | apply Kd.R_drewN | apply Kd.R_drew)); exact (Kd.R_mono (Kd.R_far (p := ⟨gb188, 2, none⟩) (Kd.R_far (p := ⟨gb188, 1, none⟩) (Kd.R_far (p := ⟨gb188, 0, none⟩) (Kd.R_types HO181.out BK188.out (by decide)) (fun _ hk => hk.2) (.int .i64 t182)) (fun _ hk => hk.2) (.int .i64 t183)) (fun _ hk => hk.2) (.slice Ao13 t184.length co13)) (fun _ h_ => h_.1))))) (Kd.R_lt (by (with_reducible repeat (first | apply Kd.R_alloc | apply Kd.R_drewN | apply Kd.R_drew)); exact (Kd.R_mono (Kd.R_far (p := ⟨gb188, 2, none⟩) (Kd.R_far (p := ⟨gb188, 1, none⟩) (Kd.R_far (p := ⟨gb188, 0, none⟩) (Kd.R_types HO186.out BK188.out (by decide)) (fun _ hk => hk.2) (.int .i64 t182)) (fun _ hk => hk.2) (.int .i64 t183)) (fun _ hk => hk.2) (.slice Ao13 t184.length co13)) (fun _ h_ => h_.1))))) (below_size (by repeat (first | (with_reducible first | exact HB.out | apply na_ | apply nn_ | apply nw_ | refine bs_ ?_ GE188.out) | exact HB.out)))); have n3_ := mk_ (blk_below (g := gb188) (o := .cells #[.int .i64 t182, .int .i64 t183, .slice Ao13 t184.length co13] 56 (0, 0)) (by (with_reducible repeat (first | refine bn_ ?_ _ | refine bw_ ?_ | refine ba_ ?_ _)); refine blk_put (cs := #[.int .i64 t182, .int .i64 t183, .slice none 0 0]) ?_ 2 _ rfl; (with_reducible repeat (first | refine bn_ ?_ _ | refine bw_ ?_ | refine ba_ ?_ _)); refine blk_put (cs := #[.int .i64 t182, .int .i64 0, .slice none 0 0]) ?_ 1 _ rfl; (with_reducible repeat (first | refine bn_ ?_ _ | refine bw_ ?_ | refine ba_ ?_ _)); refine blk_put (cs := #[.int .i64 0, .int .i64 0, .slice none 0 0]) ?_ 0 _ rfl; (with_reducible repeat (first | refine bn_ ?_ _ | refine bw_ ?_ | refine ba_ ?_ _)); exact BK188.out) hb); have n4_ := mk_ (below_step (by repeat (first | (with_reducible first | exact HB.out | apply na_ | apply nn_ | apply nw_ | refine bs_ ?_ GE188.out) | exact HB.out)) hb); clear HO181; clear HO186; clear BK188; clear HB; have HO181 := n0_; have HO186 := n1_; have HO191 := n2_; have BK188 := n3_; have HB := n4_; clear n0_ n1_ n2_ n3_ n4_; (try clear hb); (try clear hb2); (try clear hk); (try clear hi); (try clear ho0); obtain ⟨Ao15, co15, eo15⟩ := Kd.R_slice HO191.out; subst eo15) | ((with_reducible refine gate_callee (f := 28) rfl ?_); refine goesL_ (some 26) rfl rfl Try.func28 (by kernel_rfl) rfl #[.slice Ao15 t189.length co15] rfl (by (try simp only [lm_, lo_, ln_]); first | done | rfl | (simp only [List.length_drop, List.length_take]; rfl)) ?_; (with_reducible refine (impl_NoteFrom.calls k _ _ t189 t192 t193 t194 t197 _ ?side1 ?side2 A6.out).mono ?_); (case side1 => repeat (first | exact (Kd.R_reads' HO191.out).2.2 | (with_reducible refine Kd.C_alloc ?_ _) | (with_reducible refine Kd.C_drewN ?_ _) | (with_reducible refine Kd.C_drew ?_))); (case side2 => exact (Kd.R_reads' HO191.out).2.1); rintro e w16 ⟨v195, rfl, ho0, hb⟩; refine ⟨_, rfl, ?_⟩; have n0_ := mk_ (Kd.R_elder' (by (with_reducible repeat (first | apply Kd.R_alloc | apply Kd.R_drewN | apply Kd.R_drew)); exact HO181.out) (Kd.R_base ho0) hb); have n1_ := mk_ (Kd.R_elder' (by (with_reducible repeat (first | apply Kd.R_alloc | apply Kd.R_drewN | apply Kd.R_drew)); exact HO186.out) (Kd.R_base ho0) hb); have n2_ := mk_ (Kd.R_elder' (by (with_reducible repeat (first | apply Kd.R_alloc | apply Kd.R_drewN | apply Kd.R_drew)); exact HO191.out) (Kd.R_base ho0) hb); have n3_ := mk_ (Kd.R_lower (Kd.R_new' (Kd.R_new' (Kd.R_new' ho0 (Kd.R_lt (by (with_reducible repeat (first | apply Kd.R_alloc | apply Kd.R_drewN | apply Kd.R_drew)); exact HO181.out))) (Kd.R_lt (by (with_reducible repeat (first | apply Kd.R_alloc | apply Kd.R_drewN | apply Kd.R_drew)); exact HO186.out))) (Kd.R_lt (by (with_reducible repeat (first | apply Kd.R_alloc | apply Kd.R_drewN | apply Kd.R_drew)); exact HO191.out))) (below_size (by repeat (first | (with_reducible first | exact HB.out | apply na_ | apply nn_ | apply nw_ | refine bs_ ?_ GE188.out) | exact HB.out)))); have n4_ := mk_ (blk_below (g := gb188) (o := .cells #[.int .i64 t182, .int .i64 t183, .slice Ao13 t184.length co13] 56 (0, 0)) (by (with_reducible repeat (first | refine bn_ ?_ _ | refine bw_ ?_ | refine ba_ ?_ _)); exact BK188.out) hb); have n5_ := mk_ (below_step (by repeat (first | (with_reducible first | exact HB.out | apply na_ | apply nn_ | apply nw_ | refine bs_ ?_ GE188.out) | exact HB.out)) hb); clear HO181; clear HO186; clear HO191; clear BK188; clear HB; have HO181 := n0_; have HO186 := n1_; have HO191 := n2_; have HO196 := n3_; have BK188 := n4_; have HB := n5_; clear n0_ n1_ n2_ n3_ n4_ n5_; (try clear hb); (try clear hb2); (try clear hk); (try clear hi); (try clear ho0)) | ((with_reducible refine gate_dst (N := 6) rfl ?_); refine box_event ?hg (N := 6) ?hd (cs := #[.int .i64 0, .int .i64 0, .slice none 0 0]) (t := 56) ?hr ?_; (case hd => rfl); (case hg => rfl); (case hr => first | (go_simp; done) | (go_simp; rfl)); intro gb198 hg w17 hbox hb; have n0_ := mk_ (Kd.R_below (by (with_reducible repeat (first | apply Kd.R_alloc | apply Kd.R_drewN | apply Kd.R_drew)); exact HO181.out) hb); have n1_ := mk_ (Kd.R_below (by (with_reducible repeat (first | apply Kd.R_alloc | apply Kd.R_drewN | apply Kd.R_drew)); exact HO186.out) hb); have n2_ := mk_ (Kd.R_below (by (with_reducible repeat (first | apply Kd.R_alloc | apply Kd.R_drewN | apply Kd.R_drew)); exact HO191.out) hb); have n3_ := mk_ (Kd.R_below (by (with_reducible repeat (first | apply Kd.R_alloc | apply Kd.R_drewN | apply Kd.R_drew)); exact HO196.out) hb); have n4_ := mk_ (blk_below (g := gb188) (o := .cells #[.int .i64 t182, .int .i64 t183, .slice Ao13 t184.length co13] 56 (0, 0)) (by (with_reducible repeat (first | refine bn_ ?_ _ | refine bw_ ?_ | refine ba_ ?_ _)); exact BK188.out) hb); have n5_ := mk_ (below_step (by repeat (first | (with_reducible first | exact HB.out | apply na_ | apply nn_ | apply nw_ | refine bs_ ?_ GE188.out) | exact HB.out)) hb); have n6_ := mk_ (hbox); have n7_ := mk_ ((by rw [hg]; exact (below_size (by repeat (first | (with_reducible first | exact HB.out | apply na_ | apply nn_ | apply nw_ | refine bs_ ?_ GE188.out) | exact HB.out))) : w.heap.size ≤ gb198)); have n8_ := mk_ ((by rw [hg]; exact (below_size (by repeat (first | (with_reducible first | exact HB.out | apply na_ | apply nn_ | apply nw_ | refine bs_ ?_ GE188.out) | exact HB.out))) : w.heap.size ≤ gb198)); have n9_ := mk_ ((by rw [hg]; exact Nat.ne_of_lt (blk_lt (g := gb188) (o := .cells #[.int .i64 t182, .int .i64 t183, .slice Ao13 t184.length co13] 56 (0, 0)) (by (with_reducible repeat (first | refine bn_ ?_ _ | refine bw_ ?_ | refine ba_ ?_ _)); exact BK188.out)) : gb188 ≠ gb198)); have n10_ := mk_ ((by rw [hg]; exact Nat.ne_of_gt (blk_lt (g := gb188) (o := .cells #[.int .i64 t182, .int .i64 t183, .slice Ao13 t184.length co13] 56 (0, 0)) (by (with_reducible repeat (first | refine bn_ ?_ _ | refine bw_ ?_ | refine ba_ ?_ _)); exact BK188.out)) : gb198 ≠ gb188)); clear HO181; clear HO186; clear HO191; clear HO196; clear BK188; clear HB; have HO181 := n0_; have HO186 := n1_; have HO191 := n2_; have HO196 := n3_; have BK188 := n4_; have HB := n5_; have BK198 := n6_; have GW198 := n7_; have GE198 := n8_; have NB188_198 := n9_; have NB198_188 := n10_; clear n0_ n1_ n2_ n3_ n4_ n5_ n6_ n7_ n8_ n9_ n10_; clear hb hbox hg; have hnb18 := NB198_188.out; have hnc18 := NB188_198.out; have hcz19_0 : w17.cell? ⟨gb198, 0, none⟩ = some (.int .i64 0) := (blk_cell BK198.out 0).trans rfl; have hcz19_1 : w17.cell? ⟨gb198, 1, none⟩ = some (.int .i64 0) := (blk_cell BK198.out 1).trans rfl; have hcz19_2 : w17.cell? ⟨gb198, 2, none⟩ = some (.slice none 0 0) := (blk_cell BK198.out 2).trans rfl; have hfz19_0 := blk_frozen BK198.out 0; have hfz19_1 := blk_frozen BK198.out 1; have hfz19_2 := blk_frozen BK198.out 2; obtain ⟨Ao20, co20, eo20⟩ := Kd.R_slice HO196.out; subst eo20))
 (try simp only [Act.put, la_, lz_, ls_])
 go_cut [37] (fun v37 wc => ∃ (kq : Nat) (x37_6 : Bool), v37 = .bool x37_6 ∧ Aside0 (laws_FnExactNoteFrom.j0 kq l0 t187 t189 t197 x37_6 t182 t183 t184 t192 t193 t194 = some r) ∧ Aside0 (kq ≤ k) ∧ Aside0 (Kd.R (Kd.int .u8) 5 wc w.heap.size (fun k_ => some k_ ≠ ((.slice Ao13 t184.length co13) : Value).ownBlock ∧ some k_ ≠ ((.slice Ao20 t194.length co20) : Value).ownBlock) (.slice Ao15 t189.length co15) t189) ∧ Aside0 (Kd.R (Kd.int .u8) 5 wc w.heap.size (fun k_ => some k_ ≠ ((.slice Ao15 t189.length co15) : Value).ownBlock ∧ some k_ ≠ ((.slice Ao20 t194.length co20) : Value).ownBlock) (.slice Ao13 t184.length co13) t184) ∧ Aside0 (Kd.R (Kd.int .u8) 5 wc w.heap.size (fun k_ => some k_ ≠ ((.slice Ao15 t189.length co15) : Value).ownBlock ∧ some k_ ≠ ((.slice Ao13 t184.length co13) : Value).ownBlock) (.slice Ao20 t194.length co20) t194) ∧ Aside0 (wc.heap[gb188]? = some (.cells #[.int .i64 t182, .int .i64 t183, (.slice Ao13 t184.length co13)] 56 (0, 0))) ∧ Aside0 (wc.heap[gb198]? = some (.cells #[.int .i64 t192, .int .i64 t193, (.slice Ao20 t194.length co20)] 56 (0, 0))) ∧ Aside0 (Below w.heap.size w wc))
 case first =>
  have H := HC7.out
  clear HC7
  replace H := Option.bind_eq_some_iff.mp H
  obtain ⟨t199, A210, H⟩ := H
  replace H : (if t199 = true then (laws_FnExactNoteFrom.j0 k l0 t187 t189 t197 (t197 != t187) t182 t183 t184 t192 t193 t194) else (laws_FnExactNoteFrom.j0 k l0 t187 t189 t197 true t182 t183 t184 t192 t193 t194)) = some r := H
  have A21 := mk_ A210
  clear A210
  by_cases c22 : t199 = true
  ·subst c22
   have H1 : (laws_FnExactNoteFrom.j0 k l0 t187 t189 t197 (t197 != t187) t182 t183 t184 t192 t193 t194) = some r := by rw [if_pos rfl] at H; exact H
   clear H
   have H := H1
   clear H1
   have H' := mk_ H
   clear H
   have hnb23 := NB198_188.out
   have hnc23 := NB188_198.out
   have hcz24_0 : w17.cell? ⟨gb198, 0, none⟩ = some (.int .i64 0) := (blk_cell BK198.out 0).trans rfl
   have hcz24_1 : w17.cell? ⟨gb198, 1, none⟩ = some (.int .i64 0) := (blk_cell BK198.out 1).trans rfl
   have hcz24_2 : w17.cell? ⟨gb198, 2, none⟩ = some (.slice none 0 0) := (blk_cell BK198.out 2).trans rfl
   have hfz24_0 := blk_frozen BK198.out 0
   have hfz24_1 := blk_frozen BK198.out 1
   have hfz24_2 := blk_frozen BK198.out 2
   have hcz25_0 : w17.cell? ⟨gb188, 0, none⟩ = some (.int .i64 t182) := (blk_cell BK188.out 0).trans rfl
   have hcz25_1 : w17.cell? ⟨gb188, 1, none⟩ = some (.int .i64 t183) := (blk_cell BK188.out 1).trans rfl
   have hcz25_2 : w17.cell? ⟨gb188, 2, none⟩ = some (.slice Ao13 t184.length co13) := (blk_cell BK188.out 2).trans rfl
   have hfz25_0 := blk_frozen BK188.out 0
   have hfz25_1 := blk_frozen BK188.out 1
   have hfz25_2 := blk_frozen BK188.out 2
   go_wp2_with (first | ((with_reducible refine gate_callee (f := 29) rfl ?_); refine goesL_ (some 31) rfl rfl Try.func29 (by kernel_rfl) rfl #[.agg #[.int .i64 t192, .int .i64 t193, .slice Ao20 t194.length co20], .agg #[.int .i64 t182, .int .i64 t183, .slice Ao13 t184.length co13]] rfl (by (try simp only [lm_, lo_, ln_]); first | done | rfl | (simp only [List.length_drop, List.length_take]; rfl)) ?_; (with_reducible refine (laws_eqNote.calls k t192 t193 _ _ t194 t182 t183 _ _ t184 true _ ?side1 ?side2 ?side3 ?side4 A21.out).mono ?_); (case side1 => refine (Kd.R_reads' (e := 5) (base := w.heap.size) (ok := fun k_ => (((True ∧ some k_ ≠ (.slice Ao9 t179.length co9 : Value).ownBlock) ∧ some k_ ≠ (.slice Ao13 t184.length co13 : Value).ownBlock) ∧ some k_ ≠ (.slice Ao15 t189.length co15 : Value).ownBlock)) (n := t194.length) (c := co20) ?_).2.2; exact (by (with_reducible repeat (first | apply Kd.R_alloc | apply Kd.R_drewN | apply Kd.R_drew)); exact (Kd.R_mono (Kd.R_far (p := ⟨gb198, 2, none⟩) (Kd.R_far (p := ⟨gb198, 1, none⟩) (Kd.R_far (p := ⟨gb198, 0, none⟩) (Kd.R_types HO196.out BK198.out (by decide)) (fun _ hk => hk.2) (.int .i64 t192)) (fun _ hk => hk.2) (.int .i64 t193)) (fun _ hk => hk.2) (.slice Ao20 t194.length co20)) (fun _ h_ => h_.1)))); (case side2 => exact (Kd.R_reads' HO196.out).2.1); (case side3 => refine (Kd.R_reads' (e := 5) (base := w.heap.size) (ok := fun k_ => (((True ∧ some k_ ≠ (.slice Ao9 t179.length co9 : Value).ownBlock) ∧ some k_ ≠ (.slice Ao15 t189.length co15 : Value).ownBlock) ∧ some k_ ≠ (.slice Ao20 t194.length co20 : Value).ownBlock)) (n := t184.length) (c := co13) ?_).2.2; exact (by (with_reducible repeat (first | apply Kd.R_alloc | apply Kd.R_drewN | apply Kd.R_drew)); exact (Kd.R_mono (Kd.R_far (p := ⟨gb198, 2, none⟩) (Kd.R_far (p := ⟨gb198, 1, none⟩) (Kd.R_far (p := ⟨gb198, 0, none⟩) (Kd.R_types HO186.out BK198.out (by decide)) (fun _ hk => hk.2) (.int .i64 t192)) (fun _ hk => hk.2) (.int .i64 t193)) (fun _ hk => hk.2) (.slice Ao20 t194.length co20)) (fun _ h_ => h_.1)))); (case side4 => exact (Kd.R_reads' HO186.out).2.1); rintro e w26 ⟨rfl, hb⟩; refine ⟨_, rfl, ?_⟩; have n0_ := mk_ (Kd.R_below (by (with_reducible repeat (first | apply Kd.R_alloc | apply Kd.R_drewN | apply Kd.R_drew)); exact (Kd.R_mono (Kd.R_far (p := ⟨gb198, 2, none⟩) (Kd.R_far (p := ⟨gb198, 1, none⟩) (Kd.R_far (p := ⟨gb198, 0, none⟩) (Kd.R_types HO181.out BK198.out (by decide)) (fun _ hk => hk.2) (.int .i64 t192)) (fun _ hk => hk.2) (.int .i64 t193)) (fun _ hk => hk.2) (.slice Ao20 t194.length co20)) (fun _ h_ => h_.1))) hb); have n1_ := mk_ (Kd.R_below (by (with_reducible repeat (first | apply Kd.R_alloc | apply Kd.R_drewN | apply Kd.R_drew)); exact (Kd.R_mono (Kd.R_far (p := ⟨gb198, 2, none⟩) (Kd.R_far (p := ⟨gb198, 1, none⟩) (Kd.R_far (p := ⟨gb198, 0, none⟩) (Kd.R_types HO186.out BK198.out (by decide)) (fun _ hk => hk.2) (.int .i64 t192)) (fun _ hk => hk.2) (.int .i64 t193)) (fun _ hk => hk.2) (.slice Ao20 t194.length co20)) (fun _ h_ => h_.1))) hb); have n2_ := mk_ (Kd.R_below (by (with_reducible repeat (first | apply Kd.R_alloc | apply Kd.R_drewN | apply Kd.R_drew)); exact (Kd.R_mono (Kd.R_far (p := ⟨gb198, 2, none⟩) (Kd.R_far (p := ⟨gb198, 1, none⟩) (Kd.R_far (p := ⟨gb198, 0, none⟩) (Kd.R_types HO191.out BK198.out (by decide)) (fun _ hk => hk.2) (.int .i64 t192)) (fun _ hk => hk.2) (.int .i64 t193)) (fun _ hk => hk.2) (.slice Ao20 t194.length co20)) (fun _ h_ => h_.1))) hb); have n3_ := mk_ (Kd.R_below (by (with_reducible repeat (first | apply Kd.R_alloc | apply Kd.R_drewN | apply Kd.R_drew)); exact (Kd.R_mono (Kd.R_far (p := ⟨gb198, 2, none⟩) (Kd.R_far (p := ⟨gb198, 1, none⟩) (Kd.R_far (p := ⟨gb198, 0, none⟩) (Kd.R_types HO196.out BK198.out (by decide)) (fun _ hk => hk.2) (.int .i64 t192)) (fun _ hk => hk.2) (.int .i64 t193)) (fun _ hk => hk.2) (.slice Ao20 t194.length co20)) (fun _ h_ => h_.1))) hb); have n4_ := mk_ (blk_below (g := gb188) (o := .cells #[.int .i64 t182, .int .i64 t183, .slice Ao13 t184.length co13] 56 (0, 0)) (by (with_reducible repeat (first | refine bn_ ?_ _ | refine bw_ ?_ | refine ba_ ?_ _)); refine blk_far ?_ NB188_198.out _; (with_reducible repeat (first | refine bn_ ?_ _ | refine bw_ ?_ | refine ba_ ?_ _)); refine blk_far ?_ NB188_198.out _; (with_reducible repeat (first | refine bn_ ?_ _ | refine bw_ ?_ | refine ba_ ?_ _)); refine blk_far ?_ NB188_198.out _; (with_reducible repeat (first | refine bn_ ?_ _ | refine bw_ ?_ | refine ba_ ?_ _)); exact BK188.out) hb); have n5_ := mk_ (blk_below (g := gb198) (o := .cells #[.int .i64 t192, .int .i64 t193, .slice Ao20 t194.length co20] 56 (0, 0)) (by (with_reducible repeat (first | refine bn_ ?_ _ | refine bw_ ?_ | refine ba_ ?_ _)); refine blk_put (cs := #[.int .i64 t192, .int .i64 t193, .slice none 0 0]) ?_ 2 _ rfl; (with_reducible repeat (first | refine bn_ ?_ _ | refine bw_ ?_ | refine ba_ ?_ _)); refine blk_put (cs := #[.int .i64 t192, .int .i64 0, .slice none 0 0]) ?_ 1 _ rfl; (with_reducible repeat (first | refine bn_ ?_ _ | refine bw_ ?_ | refine ba_ ?_ _)); refine blk_put (cs := #[.int .i64 0, .int .i64 0, .slice none 0 0]) ?_ 0 _ rfl; (with_reducible repeat (first | refine bn_ ?_ _ | refine bw_ ?_ | refine ba_ ?_ _)); exact BK198.out) hb); have n6_ := mk_ (below_step (by repeat (first | (with_reducible first | exact HB.out | apply na_ | apply nn_ | apply nw_ | refine bs_ ?_ GE188.out | refine bs_ ?_ GE198.out) | exact HB.out)) hb); clear HO181; clear HO186; clear HO191; clear HO196; clear BK188; clear BK198; clear HB; have HO181 := n0_; have HO186 := n1_; have HO191 := n2_; have HO196 := n3_; have BK188 := n4_; have BK198 := n5_; have HB := n6_; clear n0_ n1_ n2_ n3_ n4_ n5_ n6_; (try clear hb); (try clear hb2); (try clear hk); (try clear hi)))
   go_meet
   case rel => exact ⟨_, ((t197 != t187)), (by first | rfl | (simp; done) | (simp [*]; done)), H', ⟨by first | omega | exact Nat.le_refl _⟩, ⟨by (with_reducible repeat (first | apply Kd.R_alloc | apply Kd.R_drewN | apply Kd.R_drew)); exact Kd.R_mono HO191.out (fun _ hk => ⟨hk.1.2, hk.2⟩)⟩, ⟨by (with_reducible repeat (first | apply Kd.R_alloc | apply Kd.R_drewN | apply Kd.R_drew)); exact Kd.R_mono HO186.out (fun _ hk => ⟨hk.1.2, hk.2⟩)⟩, ⟨by (with_reducible repeat (first | apply Kd.R_alloc | apply Kd.R_drewN | apply Kd.R_drew)); exact Kd.R_mono HO196.out (fun _ hk => ⟨hk.2, hk.1.2⟩)⟩, ⟨by (with_reducible repeat (first | refine bn_ ?_ _ | refine bw_ ?_ | refine ba_ ?_ _)); exact BK188.out⟩, ⟨by (with_reducible repeat (first | refine bn_ ?_ _ | refine bw_ ?_ | refine ba_ ?_ _)); exact BK198.out⟩, ⟨by repeat (first | (with_reducible first | exact HB.out | apply na_ | apply nn_ | apply nw_ | refine bs_ ?_ GE188.out | refine bs_ ?_ GE198.out) | exact HB.out)⟩⟩
  replace c22 := Bool.eq_false_iff.mpr c22
  subst c22
  have H1 : (laws_FnExactNoteFrom.j0 k l0 t187 t189 t197 true t182 t183 t184 t192 t193 t194) = some r := by rw [if_neg (show ¬ (false = true) by decide)] at H; exact H
  clear H
  have H := H1
  clear H1
  have H' := mk_ H
  clear H
  have hnb27 := NB198_188.out
  have hnc27 := NB188_198.out
  have hcz28_0 : w17.cell? ⟨gb198, 0, none⟩ = some (.int .i64 0) := (blk_cell BK198.out 0).trans rfl
  have hcz28_1 : w17.cell? ⟨gb198, 1, none⟩ = some (.int .i64 0) := (blk_cell BK198.out 1).trans rfl
  have hcz28_2 : w17.cell? ⟨gb198, 2, none⟩ = some (.slice none 0 0) := (blk_cell BK198.out 2).trans rfl
  have hfz28_0 := blk_frozen BK198.out 0
  have hfz28_1 := blk_frozen BK198.out 1
  have hfz28_2 := blk_frozen BK198.out 2
  have hcz29_0 : w17.cell? ⟨gb188, 0, none⟩ = some (.int .i64 t182) := (blk_cell BK188.out 0).trans rfl
  have hcz29_1 : w17.cell? ⟨gb188, 1, none⟩ = some (.int .i64 t183) := (blk_cell BK188.out 1).trans rfl
  have hcz29_2 : w17.cell? ⟨gb188, 2, none⟩ = some (.slice Ao13 t184.length co13) := (blk_cell BK188.out 2).trans rfl
  have hfz29_0 := blk_frozen BK188.out 0
  have hfz29_1 := blk_frozen BK188.out 1
  have hfz29_2 := blk_frozen BK188.out 2
  go_wp2_with (first | ((with_reducible refine gate_callee (f := 29) rfl ?_); refine goesL_ (some 31) rfl rfl Try.func29 (by kernel_rfl) rfl #[.agg #[.int .i64 t192, .int .i64 t193, .slice Ao20 t194.length co20], .agg #[.int .i64 t182, .int .i64 t183, .slice Ao13 t184.length co13]] rfl (by (try simp only [lm_, lo_, ln_]); first | done | rfl | (simp only [List.length_drop, List.length_take]; rfl)) ?_; (with_reducible refine (laws_eqNote.calls k t192 t193 _ _ t194 t182 t183 _ _ t184 false _ ?side1 ?side2 ?side3 ?side4 A21.out).mono ?_); (case side1 => refine (Kd.R_reads' (e := 5) (base := w.heap.size) (ok := fun k_ => (((True ∧ some k_ ≠ (.slice Ao9 t179.length co9 : Value).ownBlock) ∧ some k_ ≠ (.slice Ao13 t184.length co13 : Value).ownBlock) ∧ some k_ ≠ (.slice Ao15 t189.length co15 : Value).ownBlock)) (n := t194.length) (c := co20) ?_).2.2; exact (by (with_reducible repeat (first | apply Kd.R_alloc | apply Kd.R_drewN | apply Kd.R_drew)); exact (Kd.R_mono (Kd.R_far (p := ⟨gb198, 2, none⟩) (Kd.R_far (p := ⟨gb198, 1, none⟩) (Kd.R_far (p := ⟨gb198, 0, none⟩) (Kd.R_types HO196.out BK198.out (by decide)) (fun _ hk => hk.2) (.int .i64 t192)) (fun _ hk => hk.2) (.int .i64 t193)) (fun _ hk => hk.2) (.slice Ao20 t194.length co20)) (fun _ h_ => h_.1)))); (case side2 => exact (Kd.R_reads' HO196.out).2.1); (case side3 => refine (Kd.R_reads' (e := 5) (base := w.heap.size) (ok := fun k_ => (((True ∧ some k_ ≠ (.slice Ao9 t179.length co9 : Value).ownBlock) ∧ some k_ ≠ (.slice Ao15 t189.length co15 : Value).ownBlock) ∧ some k_ ≠ (.slice Ao20 t194.length co20 : Value).ownBlock)) (n := t184.length) (c := co13) ?_).2.2; exact (by (with_reducible repeat (first | apply Kd.R_alloc | apply Kd.R_drewN | apply Kd.R_drew)); exact (Kd.R_mono (Kd.R_far (p := ⟨gb198, 2, none⟩) (Kd.R_far (p := ⟨gb198, 1, none⟩) (Kd.R_far (p := ⟨gb198, 0, none⟩) (Kd.R_types HO186.out BK198.out (by decide)) (fun _ hk => hk.2) (.int .i64 t192)) (fun _ hk => hk.2) (.int .i64 t193)) (fun _ hk => hk.2) (.slice Ao20 t194.length co20)) (fun _ h_ => h_.1)))); (case side4 => exact (Kd.R_reads' HO186.out).2.1); rintro e w30 ⟨rfl, hb⟩; refine ⟨_, rfl, ?_⟩; have n0_ := mk_ (Kd.R_below (by (with_reducible repeat (first | apply Kd.R_alloc | apply Kd.R_drewN | apply Kd.R_drew)); exact (Kd.R_mono (Kd.R_far (p := ⟨gb198, 2, none⟩) (Kd.R_far (p := ⟨gb198, 1, none⟩) (Kd.R_far (p := ⟨gb198, 0, none⟩) (Kd.R_types HO181.out BK198.out (by decide)) (fun _ hk => hk.2) (.int .i64 t192)) (fun _ hk => hk.2) (.int .i64 t193)) (fun _ hk => hk.2) (.slice Ao20 t194.length co20)) (fun _ h_ => h_.1))) hb); have n1_ := mk_ (Kd.R_below (by (with_reducible repeat (first | apply Kd.R_alloc | apply Kd.R_drewN | apply Kd.R_drew)); exact (Kd.R_mono (Kd.R_far (p := ⟨gb198, 2, none⟩) (Kd.R_far (p := ⟨gb198, 1, none⟩) (Kd.R_far (p := ⟨gb198, 0, none⟩) (Kd.R_types HO186.out BK198.out (by decide)) (fun _ hk => hk.2) (.int .i64 t192)) (fun _ hk => hk.2) (.int .i64 t193)) (fun _ hk => hk.2) (.slice Ao20 t194.length co20)) (fun _ h_ => h_.1))) hb); have n2_ := mk_ (Kd.R_below (by (with_reducible repeat (first | apply Kd.R_alloc | apply Kd.R_drewN | apply Kd.R_drew)); exact (Kd.R_mono (Kd.R_far (p := ⟨gb198, 2, none⟩) (Kd.R_far (p := ⟨gb198, 1, none⟩) (Kd.R_far (p := ⟨gb198, 0, none⟩) (Kd.R_types HO191.out BK198.out (by decide)) (fun _ hk => hk.2) (.int .i64 t192)) (fun _ hk => hk.2) (.int .i64 t193)) (fun _ hk => hk.2) (.slice Ao20 t194.length co20)) (fun _ h_ => h_.1))) hb); have n3_ := mk_ (Kd.R_below (by (with_reducible repeat (first | apply Kd.R_alloc | apply Kd.R_drewN | apply Kd.R_drew)); exact (Kd.R_mono (Kd.R_far (p := ⟨gb198, 2, none⟩) (Kd.R_far (p := ⟨gb198, 1, none⟩) (Kd.R_far (p := ⟨gb198, 0, none⟩) (Kd.R_types HO196.out BK198.out (by decide)) (fun _ hk => hk.2) (.int .i64 t192)) (fun _ hk => hk.2) (.int .i64 t193)) (fun _ hk => hk.2) (.slice Ao20 t194.length co20)) (fun _ h_ => h_.1))) hb); have n4_ := mk_ (blk_below (g := gb188) (o := .cells #[.int .i64 t182, .int .i64 t183, .slice Ao13 t184.length co13] 56 (0, 0)) (by (with_reducible repeat (first | refine bn_ ?_ _ | refine bw_ ?_ | refine ba_ ?_ _)); refine blk_far ?_ NB188_198.out _; (with_reducible repeat (first | refine bn_ ?_ _ | refine bw_ ?_ | refine ba_ ?_ _)); refine blk_far ?_ NB188_198.out _; (with_reducible repeat (first | refine bn_ ?_ _ | refine bw_ ?_ | refine ba_ ?_ _)); refine blk_far ?_ NB188_198.out _; (with_reducible repeat (first | refine bn_ ?_ _ | refine bw_ ?_ | refine ba_ ?_ _)); exact BK188.out) hb); have n5_ := mk_ (blk_below (g := gb198) (o := .cells #[.int .i64 t192, .int .i64 t193, .slice Ao20 t194.length co20] 56 (0, 0)) (by (with_reducible repeat (first | refine bn_ ?_ _ | refine bw_ ?_ | refine ba_ ?_ _)); refine blk_put (cs := #[.int .i64 t192, .int .i64 t193, .slice none 0 0]) ?_ 2 _ rfl; (with_reducible repeat (first | refine bn_ ?_ _ | refine bw_ ?_ | refine ba_ ?_ _)); refine blk_put (cs := #[.int .i64 t192, .int .i64 0, .slice none 0 0]) ?_ 1 _ rfl; (with_reducible repeat (first | refine bn_ ?_ _ | refine bw_ ?_ | refine ba_ ?_ _)); refine blk_put (cs := #[.int .i64 0, .int .i64 0, .slice none 0 0]) ?_ 0 _ rfl; (with_reducible repeat (first | refine bn_ ?_ _ | refine bw_ ?_ | refine ba_ ?_ _)); exact BK198.out) hb); have n6_ := mk_ (below_step (by repeat (first | (with_reducible first | exact HB.out | apply na_ | apply nn_ | apply nw_ | refine bs_ ?_ GE188.out | refine bs_ ?_ GE198.out) | exact HB.out)) hb); clear HO181; clear HO186; clear HO191; clear HO196; clear BK188; clear BK198; clear HB; have HO181 := n0_; have HO186 := n1_; have HO191 := n2_; have HO196 := n3_; have BK188 := n4_; have BK198 := n5_; have HB := n6_; clear n0_ n1_ n2_ n3_ n4_ n5_ n6_; (try clear hb); (try clear hb2); (try clear hk); (try clear hi)))
  go_meet
  case rel => exact ⟨_, (true), (by first | rfl | (simp; done) | (simp [*]; done)), H', ⟨by first | omega | exact Nat.le_refl _⟩, ⟨by (with_reducible repeat (first | apply Kd.R_alloc | apply Kd.R_drewN | apply Kd.R_drew)); exact Kd.R_mono HO191.out (fun _ hk => ⟨hk.1.2, hk.2⟩)⟩, ⟨by (with_reducible repeat (first | apply Kd.R_alloc | apply Kd.R_drewN | apply Kd.R_drew)); exact Kd.R_mono HO186.out (fun _ hk => ⟨hk.1.2, hk.2⟩)⟩, ⟨by (with_reducible repeat (first | apply Kd.R_alloc | apply Kd.R_drewN | apply Kd.R_drew)); exact Kd.R_mono HO196.out (fun _ hk => ⟨hk.2, hk.1.2⟩)⟩, ⟨by (with_reducible repeat (first | refine bn_ ?_ _ | refine bw_ ?_ | refine ba_ ?_ _)); exact BK188.out⟩, ⟨by (with_reducible repeat (first | refine bn_ ?_ _ | refine bw_ ?_ | refine ba_ ?_ _)); exact BK198.out⟩, ⟨by repeat (first | (with_reducible first | exact HB.out | apply na_ | apply nn_ | apply nw_ | refine bs_ ?_ GE188.out | refine bs_ ?_ GE198.out) | exact HB.out)⟩⟩
 case rest =>
  clear HC7
  try clear c1
  try clear c2
  try clear c2b0
  try clear c2b1
  try clear p2
  try clear c7
  try clear c18
  try clear c22
  try clear c23
  try clear c26
  try clear c27
  try clear c28
  try clear c29
  try clear hcz12_0
  try clear hcz12_1
  try clear hcz12_2
  try clear hcz19_0
  try clear hcz19_1
  try clear hcz19_2
  try clear hcz24_0
  try clear hcz24_1
  try clear hcz24_2
  try clear hcz25_0
  try clear hcz25_1
  try clear hcz25_2
  try clear hcz28_0
  try clear hcz28_1
  try clear hcz28_2
  try clear hcz29_0
  try clear hcz29_1
  try clear hcz29_2
  try clear hfz12_0
  try clear hfz12_1
  try clear hfz12_2
  try clear hfz19_0
  try clear hfz19_1
  try clear hfz19_2
  try clear hfz24_0
  try clear hfz24_1
  try clear hfz24_2
  try clear hfz25_0
  try clear hfz25_1
  try clear hfz25_2
  try clear hfz28_0
  try clear hfz28_1
  try clear hfz28_2
  try clear hfz29_0
  try clear hfz29_1
  try clear hfz29_2
  obtain ⟨kq, x37_6, rfl, HA, HJ6, HO_5, HO_189002, HO_199002, BK188, BK198, HB⟩ := hcut
  cases kq with
  | zero => exact absurd HA.out (by simp [laws_FnExactNoteFrom.j0])
  | succ kj6 =>
   have H := HA.out
   clear HA
   simp only [laws_FnExactNoteFrom.j0] at H
   by_cases c31 : x37_6 = true
   ·subst c31
    have H1 : (some false) = some r := by rw [if_pos rfl] at H; exact H
    clear H
    have H := H1
    clear H1
    obtain rfl := Option.some.inj H
    go_wp2
    go_ret
    exact ⟨by first | rfl | (simp [errW_none, errW_some] <;> rfl) | (simp [*, errW_none, errW_some] <;> rfl), by repeat (first | (with_reducible first | exact HB.out | apply na_ | apply nn_ | apply nw_ | refine bs_ ?_ GE188.out | refine bs_ ?_ GE198.out) | exact HB.out)⟩
   replace c31 := Bool.eq_false_iff.mpr c31
   subst c31
   have H1 : ((laws_toByteS.f kj6 l0).bind fun t200 => ((laws_eqByteS.f kj6 t189 t200).bind fun t203 => (if t203 = true then ((laws_markByteS.f kj6 t189 1).bind fun bt204 => (if bt204.1 < 0 then (laws_FnExactNoteFrom.j1 kj6 l0 t187 true t182 t183 t184 t192 t193 t194) else ((laws_eqNote.f kj6 t192 t193 t194 t182 t183 t184).bind fun t206 => (if t206 = true then (laws_FnExactNoteFrom.j1 kj6 l0 t187 (t197 != t187) t182 t183 t184 t192 t193 t194) else (laws_FnExactNoteFrom.j1 kj6 l0 t187 true t182 t183 t184 t192 t193 t194))))) else (some false)))) = some r := by rw [if_neg (show ¬ (false = true) by decide)] at H; exact H
   clear H
   have H := H1
   clear H1
   replace H := Option.bind_eq_some_iff.mp H
   obtain ⟨t200, A320, H⟩ := H
   replace H : ((laws_eqByteS.f kj6 t189 t200).bind fun t203 => (if t203 = true then ((laws_markByteS.f kj6 t189 1).bind fun bt204 => (if bt204.1 < 0 then (laws_FnExactNoteFrom.j1 kj6 l0 t187 true t182 t183 t184 t192 t193 t194) else ((laws_eqNote.f kj6 t192 t193 t194 t182 t183 t184).bind fun t206 => (if t206 = true then (laws_FnExactNoteFrom.j1 kj6 l0 t187 (t197 != t187) t182 t183 t184 t192 t193 t194) else (laws_FnExactNoteFrom.j1 kj6 l0 t187 true t182 t183 t184 t192 t193 t194))))) else (some false))) = some r := H
   have A32 := mk_ A320
   clear A320
   replace H := Option.bind_eq_some_iff.mp H
   obtain ⟨t203, A330, H⟩ := H
   replace H : (if t203 = true then ((laws_markByteS.f kj6 t189 1).bind fun bt204 => (if bt204.1 < 0 then (laws_FnExactNoteFrom.j1 kj6 l0 t187 true t182 t183 t184 t192 t193 t194) else ((laws_eqNote.f kj6 t192 t193 t194 t182 t183 t184).bind fun t206 => (if t206 = true then (laws_FnExactNoteFrom.j1 kj6 l0 t187 (t197 != t187) t182 t183 t184 t192 t193 t194) else (laws_FnExactNoteFrom.j1 kj6 l0 t187 true t182 t183 t184 t192 t193 t194))))) else (some false)) = some r := H
   have A33 := mk_ A330
   clear A330
   by_cases c34 : t203 = true
   rotate_left
   ·replace c34 := Bool.eq_false_iff.mpr c34
    subst c34
    have H1 : (some false) = some r := by rw [if_neg (show ¬ (false = true) by decide)] at H; exact H
    clear H
    have H := H1
    clear H1
    obtain rfl := Option.some.inj H
    go_wp2_with (first | ((with_reducible refine gate_callee (f := 27) rfl ?_); refine goesL_ (some 40) rfl rfl Try.func27 (by kernel_rfl) rfl #[.slice A0 l0.length c0] rfl (by (try simp only [lm_, lo_, ln_]); first | done | rfl | (simp only [List.length_drop, List.length_take]; rfl)) ?_; (with_reducible refine (laws_toByteS.calls kj6 _ _ l0 t200 _ ?side1 ?side2 A32.out).mono ?_); (case side1 => repeat (first | exact (Kd.C_below HR0.out HB.out) | (with_reducible refine Kd.C_alloc ?_ _) | (with_reducible refine Kd.C_drewN ?_ _) | (with_reducible refine Kd.C_drew ?_))); (case side2 => exact HC0.out); rintro e w112 ⟨v201, rfl, ho0, hb⟩; refine ⟨_, rfl, ?_⟩; have n0_ := mk_ (Kd.R_elder' (by (with_reducible repeat (first | apply Kd.R_alloc | apply Kd.R_drewN | apply Kd.R_drew)); exact HO_5.out) (Kd.R_base ho0) hb); have n1_ := mk_ (Kd.R_elder' (by (with_reducible repeat (first | apply Kd.R_alloc | apply Kd.R_drewN | apply Kd.R_drew)); exact HO_189002.out) (Kd.R_base ho0) hb); have n2_ := mk_ (Kd.R_elder' (by (with_reducible repeat (first | apply Kd.R_alloc | apply Kd.R_drewN | apply Kd.R_drew)); exact HO_199002.out) (Kd.R_base ho0) hb); have n3_ := mk_ (Kd.R_lower (Kd.R_new' (Kd.R_new' (Kd.R_new' ho0 (Kd.R_lt (by (with_reducible repeat (first | apply Kd.R_alloc | apply Kd.R_drewN | apply Kd.R_drew)); exact HO_5.out))) (Kd.R_lt (by (with_reducible repeat (first | apply Kd.R_alloc | apply Kd.R_drewN | apply Kd.R_drew)); exact HO_189002.out))) (Kd.R_lt (by (with_reducible repeat (first | apply Kd.R_alloc | apply Kd.R_drewN | apply Kd.R_drew)); exact HO_199002.out))) (below_size (by repeat (first | (with_reducible first | exact HB.out | apply na_ | apply nn_ | apply nw_ | refine bs_ ?_ GE188.out | refine bs_ ?_ GE198.out) | exact HB.out)))); have n4_ := mk_ (blk_below (g := gb188) (o := .cells #[.int .i64 t182, .int .i64 t183, .slice Ao13 t184.length co13] 56 (0, 0)) (by (with_reducible repeat (first | refine bn_ ?_ _ | refine bw_ ?_ | refine ba_ ?_ _)); exact BK188.out) hb); have n5_ := mk_ (blk_below (g := gb198) (o := .cells #[.int .i64 t192, .int .i64 t193, .slice Ao20 t194.length co20] 56 (0, 0)) (by (with_reducible repeat (first | refine bn_ ?_ _ | refine bw_ ?_ | refine ba_ ?_ _)); exact BK198.out) hb); have n6_ := mk_ (below_step (by repeat (first | (with_reducible first | exact HB.out | apply na_ | apply nn_ | apply nw_ | refine bs_ ?_ GE188.out | refine bs_ ?_ GE198.out) | exact HB.out)) hb); clear HO_5; clear HO_189002; clear HO_199002; clear BK188; clear BK198; clear HB; have HO_5 := n0_; have HO_189002 := n1_; have HO_199002 := n2_; have HO202 := n3_; have BK188 := n4_; have BK198 := n5_; have HB := n6_; clear n0_ n1_ n2_ n3_ n4_ n5_ n6_; (try clear hb); (try clear hb2); (try clear hk); (try clear hi); (try clear ho0); obtain ⟨Ao113, co113, eo113⟩ := Kd.R_slice HO202.out; subst eo113) | ((with_reducible refine gate_callee (f := 30) rfl ?_); refine goesL_ (some 41) rfl rfl Try.func30 (by kernel_rfl) rfl #[.slice Ao15 t189.length co15, .slice Ao113 t200.length co113] rfl (by (try simp only [lm_, lo_, ln_]); first | done | rfl | (simp only [List.length_drop, List.length_take]; rfl)) ?_; (with_reducible refine (laws_eqByteS.calls kj6 _ _ t189 _ _ t200 false _ ?side1 ?side2 ?side3 ?side4 A33.out).mono ?_); (case side1 => repeat (first | exact (Kd.R_reads' HO_5.out).2.2 | (with_reducible refine Kd.C_alloc ?_ _) | (with_reducible refine Kd.C_drewN ?_ _) | (with_reducible refine Kd.C_drew ?_))); (case side2 => exact (Kd.R_reads' HO_5.out).2.1); (case side3 => repeat (first | exact (Kd.R_reads' HO202.out).2.2 | (with_reducible refine Kd.C_alloc ?_ _) | (with_reducible refine Kd.C_drewN ?_ _) | (with_reducible refine Kd.C_drew ?_))); (case side4 => exact (Kd.R_reads' HO202.out).2.1); rintro e w' ⟨rfl, ⟨nd, rfl⟩⟩; refine ⟨_, rfl, ?_⟩))
    go_ret
    exact ⟨by first | rfl | (simp [errW_none, errW_some] <;> rfl) | (simp [*, errW_none, errW_some] <;> rfl), by repeat (first | (with_reducible first | exact HB.out | apply na_ | apply nn_ | apply nw_ | refine bs_ ?_ GE188.out | refine bs_ ?_ GE198.out) | exact HB.out)⟩
   subst c34
   have H1 : ((laws_markByteS.f kj6 t189 1).bind fun bt204 => (if bt204.1 < 0 then (laws_FnExactNoteFrom.j1 kj6 l0 t187 true t182 t183 t184 t192 t193 t194) else ((laws_eqNote.f kj6 t192 t193 t194 t182 t183 t184).bind fun t206 => (if t206 = true then (laws_FnExactNoteFrom.j1 kj6 l0 t187 (t197 != t187) t182 t183 t184 t192 t193 t194) else (laws_FnExactNoteFrom.j1 kj6 l0 t187 true t182 t183 t184 t192 t193 t194))))) = some r := by rw [if_pos rfl] at H; exact H
   clear H
   have H := H1
   clear H1
   replace H := Option.bind_eq_some_iff.mp H
   obtain ⟨⟨t204, t205⟩, A350, H⟩ := H
   replace H : (if t204 < 0 then (laws_FnExactNoteFrom.j1 kj6 l0 t187 true t182 t183 t184 t192 t193 t194) else ((laws_eqNote.f kj6 t192 t193 t194 t182 t183 t184).bind fun t206 => (if t206 = true then (laws_FnExactNoteFrom.j1 kj6 l0 t187 (t197 != t187) t182 t183 t184 t192 t193 t194) else (laws_FnExactNoteFrom.j1 kj6 l0 t187 true t182 t183 t184 t192 t193 t194)))) = some r := H
   have A35 := mk_ A350
   clear A350
   have HC36 := mk_ H
   clear H
   go_upto_region 12 with (first | ((with_reducible refine gate_callee (f := 27) rfl ?_); refine goesL_ (some 40) rfl rfl Try.func27 (by kernel_rfl) rfl #[.slice A0 l0.length c0] rfl (by (try simp only [lm_, lo_, ln_]); first | done | rfl | (simp only [List.length_drop, List.length_take]; rfl)) ?_; (with_reducible refine (laws_toByteS.calls kj6 _ _ l0 t200 _ ?side1 ?side2 A32.out).mono ?_); (case side1 => repeat (first | exact (Kd.C_below HR0.out HB.out) | (with_reducible refine Kd.C_alloc ?_ _) | (with_reducible refine Kd.C_drewN ?_ _) | (with_reducible refine Kd.C_drew ?_))); (case side2 => exact HC0.out); rintro e w37 ⟨v201, rfl, ho0, hb⟩; refine ⟨_, rfl, ?_⟩; have n0_ := mk_ (Kd.R_elder' (by (with_reducible repeat (first | apply Kd.R_alloc | apply Kd.R_drewN | apply Kd.R_drew)); exact HO_5.out) (Kd.R_base ho0) hb); have n1_ := mk_ (Kd.R_elder' (by (with_reducible repeat (first | apply Kd.R_alloc | apply Kd.R_drewN | apply Kd.R_drew)); exact HO_189002.out) (Kd.R_base ho0) hb); have n2_ := mk_ (Kd.R_elder' (by (with_reducible repeat (first | apply Kd.R_alloc | apply Kd.R_drewN | apply Kd.R_drew)); exact HO_199002.out) (Kd.R_base ho0) hb); have n3_ := mk_ (Kd.R_lower (Kd.R_new' (Kd.R_new' (Kd.R_new' ho0 (Kd.R_lt (by (with_reducible repeat (first | apply Kd.R_alloc | apply Kd.R_drewN | apply Kd.R_drew)); exact HO_5.out))) (Kd.R_lt (by (with_reducible repeat (first | apply Kd.R_alloc | apply Kd.R_drewN | apply Kd.R_drew)); exact HO_189002.out))) (Kd.R_lt (by (with_reducible repeat (first | apply Kd.R_alloc | apply Kd.R_drewN | apply Kd.R_drew)); exact HO_199002.out))) (below_size (by repeat (first | (with_reducible first | exact HB.out | apply na_ | apply nn_ | apply nw_ | refine bs_ ?_ GE188.out | refine bs_ ?_ GE198.out) | exact HB.out)))); have n4_ := mk_ (blk_below (g := gb188) (o := .cells #[.int .i64 t182, .int .i64 t183, .slice Ao13 t184.length co13] 56 (0, 0)) (by (with_reducible repeat (first | refine bn_ ?_ _ | refine bw_ ?_ | refine ba_ ?_ _)); exact BK188.out) hb); have n5_ := mk_ (blk_below (g := gb198) (o := .cells #[.int .i64 t192, .int .i64 t193, .slice Ao20 t194.length co20] 56 (0, 0)) (by (with_reducible repeat (first | refine bn_ ?_ _ | refine bw_ ?_ | refine ba_ ?_ _)); exact BK198.out) hb); have n6_ := mk_ (below_step (by repeat (first | (with_reducible first | exact HB.out | apply na_ | apply nn_ | apply nw_ | refine bs_ ?_ GE188.out | refine bs_ ?_ GE198.out) | exact HB.out)) hb); clear HO_5; clear HO_189002; clear HO_199002; clear BK188; clear BK198; clear HB; have HO_5 := n0_; have HO_189002 := n1_; have HO_199002 := n2_; have HO202 := n3_; have BK188 := n4_; have BK198 := n5_; have HB := n6_; clear n0_ n1_ n2_ n3_ n4_ n5_ n6_; (try clear hb); (try clear hb2); (try clear hk); (try clear hi); (try clear ho0); obtain ⟨Ao38, co38, eo38⟩ := Kd.R_slice HO202.out; subst eo38) | ((with_reducible refine gate_callee (f := 30) rfl ?_); refine goesL_ (some 41) rfl rfl Try.func30 (by kernel_rfl) rfl #[.slice Ao15 t189.length co15, .slice Ao38 t200.length co38] rfl (by (try simp only [lm_, lo_, ln_]); first | done | rfl | (simp only [List.length_drop, List.length_take]; rfl)) ?_; (with_reducible refine (laws_eqByteS.calls kj6 _ _ t189 _ _ t200 true _ ?side1 ?side2 ?side3 ?side4 A33.out).mono ?_); (case side1 => repeat (first | exact (Kd.R_reads' HO_5.out).2.2 | (with_reducible refine Kd.C_alloc ?_ _) | (with_reducible refine Kd.C_drewN ?_ _) | (with_reducible refine Kd.C_drew ?_))); (case side2 => exact (Kd.R_reads' HO_5.out).2.1); (case side3 => repeat (first | exact (Kd.R_reads' HO202.out).2.2 | (with_reducible refine Kd.C_alloc ?_ _) | (with_reducible refine Kd.C_drewN ?_ _) | (with_reducible refine Kd.C_drew ?_))); (case side4 => exact (Kd.R_reads' HO202.out).2.1); rintro e w' ⟨rfl, ⟨nd, rfl⟩⟩; refine ⟨_, rfl, ?_⟩) | ((with_reducible refine gate_callee (f := 31) rfl ?_); refine goesL_ (some 45) rfl rfl Try.func31 (by kernel_rfl) rfl #[.slice Ao15 t189.length co15, .int .i64 1] rfl (by (try simp only [lm_, lo_, ln_]); first | done | rfl | (simp only [List.length_drop, List.length_take]; rfl)) ?_; (with_reducible refine (laws_markByteS.calls kj6 (fun k_ => some k_ = (.slice Ao15 t189.length co15 : Value).ownBlock) (.slice Ao15 t189.length co15) t189 1 t204 t205 w _ ?side1 ?side2 A35.out).mono ?_); (case side1 => repeat (first | (with_reducible first | exact HB.out | apply na_ | apply nn_ | apply nw_ | refine bs_ ?_ GE188.out | refine bs_ ?_ GE198.out) | exact HB.out)); (case side2 => exact Kd.R_tight rfl HO_5.out); rintro e w39 ⟨rfl, hy0, hb, hkp⟩; refine ⟨_, rfl, ?_⟩; have n0_ := mk_ (Kd.R_reok rfl hy0 (fun k_ e_ => HO_5.out.1 k_ e_)); have n1_ := mk_ (Kd.R_mono (ok' := fun k_ => some k_ ≠ (.slice Ao15 t189.length co15 : Value).ownBlock ∧ some k_ ≠ (.slice Ao20 t194.length co20 : Value).ownBlock ∧ some k_ ≠ (.slice Ao38 t200.length co38 : Value).ownBlock) (Kd.R_keptB (HO_189002.out) hkp (fun k_ hk_ hs_ => (hk_.1.1) hs_)) (fun k_ hk_ => ⟨hk_.1.1.1, hk_.1.1.2, hk_.1.2⟩)); have n2_ := mk_ (Kd.R_mono (ok' := fun k_ => some k_ ≠ (.slice Ao15 t189.length co15 : Value).ownBlock ∧ some k_ ≠ (.slice Ao13 t184.length co13 : Value).ownBlock ∧ some k_ ≠ (.slice Ao38 t200.length co38 : Value).ownBlock) (Kd.R_keptB (HO_199002.out) hkp (fun k_ hk_ hs_ => (hk_.1.1) hs_)) (fun k_ hk_ => ⟨hk_.1.1.1, hk_.1.1.2, hk_.1.2⟩)); have n3_ := mk_ (blk_kept (by (with_reducible repeat (first | refine bn_ ?_ _ | refine bw_ ?_ | refine ba_ ?_ _)); exact BK188.out) hkp (fun hs_ => (fun e_ => (Kd.R_ne HO_5.out BK188.out (by decide)) e_) hs_)); have n4_ := mk_ (blk_kept (by (with_reducible repeat (first | refine bn_ ?_ _ | refine bw_ ?_ | refine ba_ ?_ _)); exact BK198.out) hkp (fun hs_ => (fun e_ => (Kd.R_ne HO_5.out BK198.out (by decide)) e_) hs_)); have n5_ := mk_ (Kd.R_mono (ok' := fun k_ => some k_ ≠ (.slice Ao15 t189.length co15 : Value).ownBlock ∧ some k_ ≠ (.slice Ao13 t184.length co13 : Value).ownBlock ∧ some k_ ≠ (.slice Ao20 t194.length co20 : Value).ownBlock) (Kd.R_keptB (HO202.out) hkp (fun k_ hk_ hs_ => (hk_.1.1.2) hs_)) (fun k_ hk_ => ⟨hk_.1.1.1.2, hk_.1.1.2, hk_.1.2⟩)); have n6_ := mk_ (hb); clear HO_5; clear HO_189002; clear HO_199002; clear BK188; clear BK198; clear HO202; clear HB; have HO_5 := n0_; have HO_189002 := n1_; have HO_199002 := n2_; have BK188 := n3_; have BK198 := n4_; have HO202 := n5_; have HB := n6_; clear n0_ n1_ n2_ n3_ n4_ n5_ n6_; (try clear hb); (try clear hkp); (try clear hy0)))
   (try simp only [Act.put, la_, lz_, ls_])
   go_cut [58] (fun v58 wc => ∃ (kq : Nat) (x58_35 : Bool), v58 = .bool x58_35 ∧ Aside0 (laws_FnExactNoteFrom.j1 kq l0 t187 x58_35 t182 t183 t184 t192 t193 t194 = some r) ∧ Aside0 (kq ≤ kj6) ∧ Aside0 (Kd.R (Kd.int .u8) 5 wc w.heap.size (fun k_ => some k_ ≠ ((.slice Ao20 t194.length co20) : Value).ownBlock) (.slice Ao13 t184.length co13) t184) ∧ Aside0 (Kd.R (Kd.int .u8) 5 wc w.heap.size (fun k_ => some k_ ≠ ((.slice Ao13 t184.length co13) : Value).ownBlock) (.slice Ao20 t194.length co20) t194) ∧ Aside0 (wc.heap[gb188]? = some (.cells #[.int .i64 t182, .int .i64 t183, (.slice Ao13 t184.length co13)] 56 (0, 0))) ∧ Aside0 (wc.heap[gb198]? = some (.cells #[.int .i64 t192, .int .i64 t193, (.slice Ao20 t194.length co20)] 56 (0, 0))) ∧ Aside0 (Below w.heap.size w wc))
   case first =>
    have H := HC36.out
    clear HC36
    by_cases c40 : t204 < 0
    ·rw [if_pos c40] at H
     have c40b0 : decide (t204 < 0) = true := decide_eq_true c40
     clear c40
     (first | rw [c40b0] | (simp only [i64_w, i32_w]; rw [c40b0]) | skip)
     have H' := mk_ H
     clear H
     go_wp2
     go_meet
     case rel => exact ⟨_, (true), (by first | rfl | (simp; done) | (simp [*]; done)), H', ⟨by have := HJ6.out; first | omega | exact Nat.le_refl _⟩, ⟨by (with_reducible repeat (first | apply Kd.R_alloc | apply Kd.R_drewN | apply Kd.R_drew)); exact Kd.R_mono HO_189002.out (fun _ hk => hk.2.1)⟩, ⟨by (with_reducible repeat (first | apply Kd.R_alloc | apply Kd.R_drewN | apply Kd.R_drew)); exact Kd.R_mono HO_199002.out (fun _ hk => hk.2.1)⟩, ⟨by (with_reducible repeat (first | refine bn_ ?_ _ | refine bw_ ?_ | refine ba_ ?_ _)); exact BK188.out⟩, ⟨by (with_reducible repeat (first | refine bn_ ?_ _ | refine bw_ ?_ | refine ba_ ?_ _)); exact BK198.out⟩, ⟨by repeat (first | (with_reducible first | exact HB.out | apply na_ | apply nn_ | apply nw_ | refine bs_ ?_ GE188.out | refine bs_ ?_ GE198.out) | exact HB.out)⟩⟩
    rw [if_neg c40] at H
    have c40b0 : decide (t204 < 0) = false := decide_eq_false c40
    clear c40
    (first | rw [c40b0] | (simp only [i64_w, i32_w]; rw [c40b0]) | skip)
    replace H := Option.bind_eq_some_iff.mp H
    obtain ⟨t206, A410, H⟩ := H
    replace H : (if t206 = true then (laws_FnExactNoteFrom.j1 kj6 l0 t187 (t197 != t187) t182 t183 t184 t192 t193 t194) else (laws_FnExactNoteFrom.j1 kj6 l0 t187 true t182 t183 t184 t192 t193 t194)) = some r := H
    have A41 := mk_ A410
    clear A410
    by_cases c42 : t206 = true
    ·subst c42
     have H1 : (laws_FnExactNoteFrom.j1 kj6 l0 t187 (t197 != t187) t182 t183 t184 t192 t193 t194) = some r := by rw [if_pos rfl] at H; exact H
     clear H
     have H := H1
     clear H1
     have H' := mk_ H
     clear H
     have hnb43 := NB198_188.out
     have hnc43 := NB188_198.out
     have hcz44_0 : w39.cell? ⟨gb198, 0, none⟩ = some (.int .i64 t192) := (blk_cell BK198.out 0).trans rfl
     have hcz44_1 : w39.cell? ⟨gb198, 1, none⟩ = some (.int .i64 t193) := (blk_cell BK198.out 1).trans rfl
     have hcz44_2 : w39.cell? ⟨gb198, 2, none⟩ = some (.slice Ao20 t194.length co20) := (blk_cell BK198.out 2).trans rfl
     have hfz44_0 := blk_frozen BK198.out 0
     have hfz44_1 := blk_frozen BK198.out 1
     have hfz44_2 := blk_frozen BK198.out 2
     have hcz45_0 : w39.cell? ⟨gb188, 0, none⟩ = some (.int .i64 t182) := (blk_cell BK188.out 0).trans rfl
     have hcz45_1 : w39.cell? ⟨gb188, 1, none⟩ = some (.int .i64 t183) := (blk_cell BK188.out 1).trans rfl
     have hcz45_2 : w39.cell? ⟨gb188, 2, none⟩ = some (.slice Ao13 t184.length co13) := (blk_cell BK188.out 2).trans rfl
     have hfz45_0 := blk_frozen BK188.out 0
     have hfz45_1 := blk_frozen BK188.out 1
     have hfz45_2 := blk_frozen BK188.out 2
     go_wp2_with (first | (go_at_call 29; (with_reducible refine (laws_eqNote.calls kj6 t192 t193 _ _ t194 t182 t183 _ _ t184 true _ ?side1 ?side2 ?side3 ?side4 A41.out).mono ?_); (case side1 => repeat (first | exact (Kd.R_reads' HO_199002.out).2.2 | (with_reducible refine Kd.C_alloc ?_ _) | (with_reducible refine Kd.C_drewN ?_ _) | (with_reducible refine Kd.C_drew ?_))); (case side2 => exact (Kd.R_reads' HO_199002.out).2.1); (case side3 => repeat (first | exact (Kd.R_reads' HO_189002.out).2.2 | (with_reducible refine Kd.C_alloc ?_ _) | (with_reducible refine Kd.C_drewN ?_ _) | (with_reducible refine Kd.C_drew ?_))); (case side4 => exact (Kd.R_reads' HO_189002.out).2.1); rintro e w46 ⟨rfl, hb⟩; have n0_ := mk_ (Kd.R_below (by (with_reducible repeat (first | apply Kd.R_alloc | apply Kd.R_drewN | apply Kd.R_drew)); exact HO_5.out) hb); have n1_ := mk_ (Kd.R_below (by (with_reducible repeat (first | apply Kd.R_alloc | apply Kd.R_drewN | apply Kd.R_drew)); exact HO_189002.out) hb); have n2_ := mk_ (Kd.R_below (by (with_reducible repeat (first | apply Kd.R_alloc | apply Kd.R_drewN | apply Kd.R_drew)); exact HO_199002.out) hb); have n3_ := mk_ (Kd.R_below (by (with_reducible repeat (first | apply Kd.R_alloc | apply Kd.R_drewN | apply Kd.R_drew)); exact HO202.out) hb); have n4_ := mk_ (blk_below (g := gb188) (o := .cells #[.int .i64 t182, .int .i64 t183, .slice Ao13 t184.length co13] 56 (0, 0)) (by (with_reducible repeat (first | refine bn_ ?_ _ | refine bw_ ?_ | refine ba_ ?_ _)); exact BK188.out) hb); have n5_ := mk_ (blk_below (g := gb198) (o := .cells #[.int .i64 t192, .int .i64 t193, .slice Ao20 t194.length co20] 56 (0, 0)) (by (with_reducible repeat (first | refine bn_ ?_ _ | refine bw_ ?_ | refine ba_ ?_ _)); exact BK198.out) hb); have n6_ := mk_ (below_step (by repeat (first | (with_reducible first | exact HB.out | apply na_ | apply nn_ | apply nw_ | refine bs_ ?_ GE188.out | refine bs_ ?_ GE198.out) | exact HB.out)) hb); clear HO_5; clear HO_189002; clear HO_199002; clear HO202; clear BK188; clear BK198; clear HB; have HO_5 := n0_; have HO_189002 := n1_; have HO_199002 := n2_; have HO202 := n3_; have BK188 := n4_; have BK198 := n5_; have HB := n6_; clear n0_ n1_ n2_ n3_ n4_ n5_ n6_; (try clear hb); (try clear hb2); (try clear hk); (try clear hi)))
     go_meet
     case rel => exact ⟨_, ((t197 != t187)), (by first | rfl | (simp; done) | (simp [*]; done)), H', ⟨by have := HJ6.out; first | omega | exact Nat.le_refl _⟩, ⟨by (with_reducible repeat (first | apply Kd.R_alloc | apply Kd.R_drewN | apply Kd.R_drew)); exact Kd.R_mono HO_189002.out (fun _ hk => hk.2.1)⟩, ⟨by (with_reducible repeat (first | apply Kd.R_alloc | apply Kd.R_drewN | apply Kd.R_drew)); exact Kd.R_mono HO_199002.out (fun _ hk => hk.2.1)⟩, ⟨by (with_reducible repeat (first | refine bn_ ?_ _ | refine bw_ ?_ | refine ba_ ?_ _)); exact BK188.out⟩, ⟨by (with_reducible repeat (first | refine bn_ ?_ _ | refine bw_ ?_ | refine ba_ ?_ _)); exact BK198.out⟩, ⟨by repeat (first | (with_reducible first | exact HB.out | apply na_ | apply nn_ | apply nw_ | refine bs_ ?_ GE188.out | refine bs_ ?_ GE198.out) | exact HB.out)⟩⟩
    replace c42 := Bool.eq_false_iff.mpr c42
    subst c42
    have H1 : (laws_FnExactNoteFrom.j1 kj6 l0 t187 true t182 t183 t184 t192 t193 t194) = some r := by rw [if_neg (show ¬ (false = true) by decide)] at H; exact H
    clear H
    have H := H1
    clear H1
    have H' := mk_ H
    clear H
    have hnb47 := NB198_188.out
    have hnc47 := NB188_198.out
    have hcz48_0 : w39.cell? ⟨gb198, 0, none⟩ = some (.int .i64 t192) := (blk_cell BK198.out 0).trans rfl
    have hcz48_1 : w39.cell? ⟨gb198, 1, none⟩ = some (.int .i64 t193) := (blk_cell BK198.out 1).trans rfl
    have hcz48_2 : w39.cell? ⟨gb198, 2, none⟩ = some (.slice Ao20 t194.length co20) := (blk_cell BK198.out 2).trans rfl
    have hfz48_0 := blk_frozen BK198.out 0
    have hfz48_1 := blk_frozen BK198.out 1
    have hfz48_2 := blk_frozen BK198.out 2
    have hcz49_0 : w39.cell? ⟨gb188, 0, none⟩ = some (.int .i64 t182) := (blk_cell BK188.out 0).trans rfl
    have hcz49_1 : w39.cell? ⟨gb188, 1, none⟩ = some (.int .i64 t183) := (blk_cell BK188.out 1).trans rfl
    have hcz49_2 : w39.cell? ⟨gb188, 2, none⟩ = some (.slice Ao13 t184.length co13) := (blk_cell BK188.out 2).trans rfl
    have hfz49_0 := blk_frozen BK188.out 0
    have hfz49_1 := blk_frozen BK188.out 1
    have hfz49_2 := blk_frozen BK188.out 2
    go_wp2_with (first | (go_at_call 29; (with_reducible refine (laws_eqNote.calls kj6 t192 t193 _ _ t194 t182 t183 _ _ t184 false _ ?side1 ?side2 ?side3 ?side4 A41.out).mono ?_); (case side1 => repeat (first | exact (Kd.R_reads' HO_199002.out).2.2 | (with_reducible refine Kd.C_alloc ?_ _) | (with_reducible refine Kd.C_drewN ?_ _) | (with_reducible refine Kd.C_drew ?_))); (case side2 => exact (Kd.R_reads' HO_199002.out).2.1); (case side3 => repeat (first | exact (Kd.R_reads' HO_189002.out).2.2 | (with_reducible refine Kd.C_alloc ?_ _) | (with_reducible refine Kd.C_drewN ?_ _) | (with_reducible refine Kd.C_drew ?_))); (case side4 => exact (Kd.R_reads' HO_189002.out).2.1); rintro e w50 ⟨rfl, hb⟩; have n0_ := mk_ (Kd.R_below (by (with_reducible repeat (first | apply Kd.R_alloc | apply Kd.R_drewN | apply Kd.R_drew)); exact HO_5.out) hb); have n1_ := mk_ (Kd.R_below (by (with_reducible repeat (first | apply Kd.R_alloc | apply Kd.R_drewN | apply Kd.R_drew)); exact HO_189002.out) hb); have n2_ := mk_ (Kd.R_below (by (with_reducible repeat (first | apply Kd.R_alloc | apply Kd.R_drewN | apply Kd.R_drew)); exact HO_199002.out) hb); have n3_ := mk_ (Kd.R_below (by (with_reducible repeat (first | apply Kd.R_alloc | apply Kd.R_drewN | apply Kd.R_drew)); exact HO202.out) hb); have n4_ := mk_ (blk_below (g := gb188) (o := .cells #[.int .i64 t182, .int .i64 t183, .slice Ao13 t184.length co13] 56 (0, 0)) (by (with_reducible repeat (first | refine bn_ ?_ _ | refine bw_ ?_ | refine ba_ ?_ _)); exact BK188.out) hb); have n5_ := mk_ (blk_below (g := gb198) (o := .cells #[.int .i64 t192, .int .i64 t193, .slice Ao20 t194.length co20] 56 (0, 0)) (by (with_reducible repeat (first | refine bn_ ?_ _ | refine bw_ ?_ | refine ba_ ?_ _)); exact BK198.out) hb); have n6_ := mk_ (below_step (by repeat (first | (with_reducible first | exact HB.out | apply na_ | apply nn_ | apply nw_ | refine bs_ ?_ GE188.out | refine bs_ ?_ GE198.out) | exact HB.out)) hb); clear HO_5; clear HO_189002; clear HO_199002; clear HO202; clear BK188; clear BK198; clear HB; have HO_5 := n0_; have HO_189002 := n1_; have HO_199002 := n2_; have HO202 := n3_; have BK188 := n4_; have BK198 := n5_; have HB := n6_; clear n0_ n1_ n2_ n3_ n4_ n5_ n6_; (try clear hb); (try clear hb2); (try clear hk); (try clear hi)))
    go_meet
    case rel => exact ⟨_, (true), (by first | rfl | (simp; done) | (simp [*]; done)), H', ⟨by have := HJ6.out; first | omega | exact Nat.le_refl _⟩, ⟨by (with_reducible repeat (first | apply Kd.R_alloc | apply Kd.R_drewN | apply Kd.R_drew)); exact Kd.R_mono HO_189002.out (fun _ hk => hk.2.1)⟩, ⟨by (with_reducible repeat (first | apply Kd.R_alloc | apply Kd.R_drewN | apply Kd.R_drew)); exact Kd.R_mono HO_199002.out (fun _ hk => hk.2.1)⟩, ⟨by (with_reducible repeat (first | refine bn_ ?_ _ | refine bw_ ?_ | refine ba_ ?_ _)); exact BK188.out⟩, ⟨by (with_reducible repeat (first | refine bn_ ?_ _ | refine bw_ ?_ | refine ba_ ?_ _)); exact BK198.out⟩, ⟨by repeat (first | (with_reducible first | exact HB.out | apply na_ | apply nn_ | apply nw_ | refine bs_ ?_ GE188.out | refine bs_ ?_ GE198.out) | exact HB.out)⟩⟩
   case rest =>
    clear HC36
    try clear c1
    try clear c2
    try clear c2b0
    try clear c2b1
    try clear p2
    try clear c3
    try clear c4
    try clear c7
    try clear c18
    try clear c22
    try clear c23
    try clear c26
    try clear c27
    try clear c28
    try clear c29
    try clear c30
    try clear c31
    try clear c34
    try clear c40
    try clear c40b0
    try clear c42
    try clear c43
    try clear c47
    try clear hcz12_0
    try clear hcz12_1
    try clear hcz12_2
    try clear hcz19_0
    try clear hcz19_1
    try clear hcz19_2
    try clear hcz24_0
    try clear hcz24_1
    try clear hcz24_2
    try clear hcz25_0
    try clear hcz25_1
    try clear hcz25_2
    try clear hcz28_0
    try clear hcz28_1
    try clear hcz28_2
    try clear hcz29_0
    try clear hcz29_1
    try clear hcz29_2
    try clear hcz44_0
    try clear hcz44_1
    try clear hcz44_2
    try clear hcz45_0
    try clear hcz45_1
    try clear hcz45_2
    try clear hcz48_0
    try clear hcz48_1
    try clear hcz48_2
    try clear hcz49_0
    try clear hcz49_1
    try clear hcz49_2
    try clear hfz12_0
    try clear hfz12_1
    try clear hfz12_2
    try clear hfz19_0
    try clear hfz19_1
    try clear hfz19_2
    try clear hfz24_0
    try clear hfz24_1
    try clear hfz24_2
    try clear hfz25_0
    try clear hfz25_1
    try clear hfz25_2
    try clear hfz28_0
    try clear hfz28_1
    try clear hfz28_2
    try clear hfz29_0
    try clear hfz29_1
    try clear hfz29_2
    try clear hfz44_0
    try clear hfz44_1
    try clear hfz44_2
    try clear hfz45_0
    try clear hfz45_1
    try clear hfz45_2
    try clear hfz48_0
    try clear hfz48_1
    try clear hfz48_2
    try clear hfz49_0
    try clear hfz49_1
    try clear hfz49_2
    try clear p2
    obtain ⟨kq, x58_35, rfl, HA, HJ35, HO_189002, HO_199002, BK188, BK198, HB⟩ := hcut
    cases kq with
    | zero => exact absurd HA.out (by simp [laws_FnExactNoteFrom.j1])
    | succ kj35 =>
     have H := HA.out
     clear HA
     simp only [laws_FnExactNoteFrom.j1] at H
     by_cases c51 : x58_35 = true
     ·subst c51
      have H1 : (some false) = some r := by rw [if_pos rfl] at H; exact H
      clear H
      have H := H1
      clear H1
      obtain rfl := Option.some.inj H
      go_wp2
      go_ret
      exact ⟨by first | rfl | (simp [errW_none, errW_some] <;> rfl) | (simp [*, errW_none, errW_some] <;> rfl), by repeat (first | (with_reducible first | exact HB.out | apply na_ | apply nn_ | apply nw_ | refine bs_ ?_ GE188.out | refine bs_ ?_ GE198.out) | exact HB.out)⟩
     replace c51 := Bool.eq_false_iff.mpr c51
     subst c51
     have H1 : ((laws_markNote.f kj35 t192 t193 t194 1).bind fun bt207 => ((laws_heldNote.f kj35 t192 t193 bt207.2 1).bind fun t209 => (if t209 < 0 then (some false) else (if t209 = bt207.1 then ((laws_toByteS.f kj35 l0).bind fun t210 => ((impl_NoteFrom.f kj35 t210).bind fun bt213 => ((laws_eqNote.f kj35 bt213.1 bt213.2.1 bt213.2.2.1 t182 t183 t184).bind fun t220 => (if t220 = true then (laws_FnExactNoteFrom.j2 kj35 bt207.1 (bt213.2.2.2 != t187) t192 t193 bt207.2) else (laws_FnExactNoteFrom.j2 kj35 bt207.1 true t192 t193 bt207.2))))) else (some false))))) = some r := by rw [if_neg (show ¬ (false = true) by decide)] at H; exact H
     clear H
     have H := H1
     clear H1
     replace H := Option.bind_eq_some_iff.mp H
     obtain ⟨⟨t207, t208⟩, A520, H⟩ := H
     replace H : ((laws_heldNote.f kj35 t192 t193 t208 1).bind fun t209 => (if t209 < 0 then (some false) else (if t209 = t207 then ((laws_toByteS.f kj35 l0).bind fun t210 => ((impl_NoteFrom.f kj35 t210).bind fun bt213 => ((laws_eqNote.f kj35 bt213.1 bt213.2.1 bt213.2.2.1 t182 t183 t184).bind fun t220 => (if t220 = true then (laws_FnExactNoteFrom.j2 kj35 t207 (bt213.2.2.2 != t187) t192 t193 t208) else (laws_FnExactNoteFrom.j2 kj35 t207 true t192 t193 t208))))) else (some false)))) = some r := H
     have A52 := mk_ A520
     clear A520
     replace H := Option.bind_eq_some_iff.mp H
     obtain ⟨t209, A530, H⟩ := H
     replace H : (if t209 < 0 then (some false) else (if t209 = t207 then ((laws_toByteS.f kj35 l0).bind fun t210 => ((impl_NoteFrom.f kj35 t210).bind fun bt213 => ((laws_eqNote.f kj35 bt213.1 bt213.2.1 bt213.2.2.1 t182 t183 t184).bind fun t220 => (if t220 = true then (laws_FnExactNoteFrom.j2 kj35 t207 (bt213.2.2.2 != t187) t192 t193 t208) else (laws_FnExactNoteFrom.j2 kj35 t207 true t192 t193 t208))))) else (some false))) = some r := H
     have A53 := mk_ A530
     clear A530
     by_cases c54 : t209 < 0
     ·rw [if_pos c54] at H
      have c54b0 : decide (t209 < 0) = true := decide_eq_true c54
      clear c54
      obtain rfl := Option.some.inj H
      have hnb55 := NB198_188.out
      have hnc55 := NB188_198.out
      have hcz56_0 : wc.cell? ⟨gb198, 0, none⟩ = some (.int .i64 t192) := (blk_cell BK198.out 0).trans rfl
      have hcz56_1 : wc.cell? ⟨gb198, 1, none⟩ = some (.int .i64 t193) := (blk_cell BK198.out 1).trans rfl
      have hcz56_2 : wc.cell? ⟨gb198, 2, none⟩ = some (.slice Ao20 t194.length co20) := (blk_cell BK198.out 2).trans rfl
      have hfz56_0 := blk_frozen BK198.out 0
      have hfz56_1 := blk_frozen BK198.out 1
      have hfz56_2 := blk_frozen BK198.out 2
      go_wp2_with (first | ((with_reducible refine gate_callee (f := 32) rfl ?_); refine goesL_ (some 61) rfl rfl Try.func32 (by kernel_rfl) rfl #[.agg #[.int .i64 t192, .int .i64 t193, .slice Ao20 t194.length co20], .int .i64 1] rfl (by (try simp only [lm_, lo_, ln_]); first | done | rfl | (simp only [List.length_drop, List.length_take]; rfl)) ?_; (with_reducible refine (laws_markNote.calls kj35 t192 t193 (fun k_ => some k_ = (.slice Ao20 t194.length co20 : Value).ownBlock) (.slice Ao20 t194.length co20) t194 1 t207 t208 w _ ?side1 ?side2 A52.out).mono ?_); (case side1 => repeat (first | (with_reducible first | exact HB.out | apply na_ | apply nn_ | apply nw_ | refine bs_ ?_ GE188.out | refine bs_ ?_ GE198.out) | exact HB.out)); (case side2 => exact Kd.R_tight rfl HO_199002.out); rintro e w57 ⟨rfl, hy0, hb, hkp⟩; refine ⟨_, rfl, ?_⟩; have n0_ := mk_ (Kd.R_mono (ok' := fun k_ => some k_ ≠ (.slice Ao20 t194.length co20 : Value).ownBlock) (Kd.R_keptB (HO_189002.out) hkp (fun k_ hk_ hs_ => (hk_) hs_)) (fun k_ hk_ => hk_.1)); have n1_ := mk_ (Kd.R_reok rfl hy0 (fun k_ e_ => HO_199002.out.1 k_ e_)); have n2_ := mk_ (blk_kept (by (with_reducible repeat (first | refine bn_ ?_ _ | refine bw_ ?_ | refine ba_ ?_ _)); exact BK188.out) hkp (fun hs_ => (fun e_ => (Kd.R_ne HO_199002.out BK188.out (by decide)) e_) hs_)); have n3_ := mk_ (blk_kept (by (with_reducible repeat (first | refine bn_ ?_ _ | refine bw_ ?_ | refine ba_ ?_ _)); exact BK198.out) hkp (fun hs_ => (fun e_ => (Kd.R_ne HO_199002.out BK198.out (by decide)) e_) hs_)); have n4_ := mk_ (hb); clear HO_189002; clear HO_199002; clear BK188; clear BK198; clear HB; have HO_189002 := n0_; have HO_199002 := n1_; have BK188 := n2_; have BK198 := n3_; have HB := n4_; clear n0_ n1_ n2_ n3_ n4_; (try clear hb); (try clear hkp); (try clear hy0); have hcz58_0 : w57.cell? ⟨gb198, 0, none⟩ = some (.int .i64 t192) := (blk_cell BK198.out 0).trans rfl; have hcz58_1 : w57.cell? ⟨gb198, 1, none⟩ = some (.int .i64 t193) := (blk_cell BK198.out 1).trans rfl; have hcz58_2 : w57.cell? ⟨gb198, 2, none⟩ = some (.slice Ao20 t194.length co20) := (blk_cell BK198.out 2).trans rfl; have hfz58_0 := blk_frozen BK198.out 0; have hfz58_1 := blk_frozen BK198.out 1; have hfz58_2 := blk_frozen BK198.out 2) | ((with_reducible refine gate_callee (f := 33) rfl ?_); refine goesL_ (some 64) rfl rfl Try.func33 (by kernel_rfl) rfl #[.agg #[.int .i64 t192, .int .i64 t193, .slice Ao20 t208.length co20], .int .i64 1] rfl (by (try simp only [List.map_toArray, List.map_cons, List.map_nil]); first | done | (rw [show t208.length = t194.length from (Kd.R_reads' HO_199002.out).1.symm] <;> rfl) | rfl | (simp only [List.length_drop, List.length_take]; rfl)) ?_; (with_reducible refine (laws_heldNote.calls kj35 t192 t193 _ _ t208 1 t209 _ ?side1 ?side2 A53.out).mono ?_); (case side1 => repeat (first | exact (Kd.R_reads' HO_199002.out).2.2 | (with_reducible refine Kd.C_alloc ?_ _) | (with_reducible refine Kd.C_drewN ?_ _) | (with_reducible refine Kd.C_drew ?_))); (case side2 => rw [show t208.length = t194.length from (Kd.R_reads' HO_199002.out).1.symm]; exact (Kd.R_reads' HO_199002.out).2.1); rintro e w59 ⟨rfl, hb⟩; refine ⟨_, rfl, ?_⟩; have n0_ := mk_ (Kd.R_below (by (with_reducible repeat (first | apply Kd.R_alloc | apply Kd.R_drewN | apply Kd.R_drew)); exact HO_189002.out) hb); have n1_ := mk_ (Kd.R_below (by (with_reducible repeat (first | apply Kd.R_alloc | apply Kd.R_drewN | apply Kd.R_drew)); exact HO_199002.out) hb); have n2_ := mk_ (blk_below (g := gb188) (o := .cells #[.int .i64 t182, .int .i64 t183, .slice Ao13 t184.length co13] 56 (0, 0)) (by (with_reducible repeat (first | refine bn_ ?_ _ | refine bw_ ?_ | refine ba_ ?_ _)); exact BK188.out) hb); have n3_ := mk_ (blk_below (g := gb198) (o := .cells #[.int .i64 t192, .int .i64 t193, .slice Ao20 t194.length co20] 56 (0, 0)) (by (with_reducible repeat (first | refine bn_ ?_ _ | refine bw_ ?_ | refine ba_ ?_ _)); exact BK198.out) hb); have n4_ := mk_ (below_step (by repeat (first | (with_reducible first | exact HB.out | apply na_ | apply nn_ | apply nw_ | refine bs_ ?_ GE188.out | refine bs_ ?_ GE198.out) | exact HB.out)) hb); clear HO_189002; clear HO_199002; clear BK188; clear BK198; clear HB; have HO_189002 := n0_; have HO_199002 := n1_; have BK188 := n2_; have BK198 := n3_; have HB := n4_; clear n0_ n1_ n2_ n3_ n4_; (try clear hb); (try clear hb2); (try clear hk); (try clear hi)))
      go_ret
      exact ⟨by first | rfl | (simp [errW_none, errW_some] <;> rfl) | (simp [*, errW_none, errW_some] <;> rfl), by repeat (first | (with_reducible first | exact HB.out | apply na_ | apply nn_ | apply nw_ | refine bs_ ?_ GE188.out | refine bs_ ?_ GE198.out) | exact HB.out)⟩
     rw [if_neg c54] at H
     have c54b0 : decide (t209 < 0) = false := decide_eq_false c54
     clear c54
     by_cases c60 : t209 = t207
     rotate_left
     ·rw [if_neg c60] at H
      have c60b0 : (t209 == t207) = false := beq_eq_false_iff_ne.mpr c60
      have c60b1 : (t209 != t207) = true := bne_iff_ne.mpr c60
      obtain rfl := Option.some.inj H
      have hnb107 := NB198_188.out
      have hnc107 := NB188_198.out
      have hcz108_0 : wc.cell? ⟨gb198, 0, none⟩ = some (.int .i64 t192) := (blk_cell BK198.out 0).trans rfl
      have hcz108_1 : wc.cell? ⟨gb198, 1, none⟩ = some (.int .i64 t193) := (blk_cell BK198.out 1).trans rfl
      have hcz108_2 : wc.cell? ⟨gb198, 2, none⟩ = some (.slice Ao20 t194.length co20) := (blk_cell BK198.out 2).trans rfl
      have hfz108_0 := blk_frozen BK198.out 0
      have hfz108_1 := blk_frozen BK198.out 1
      have hfz108_2 := blk_frozen BK198.out 2
      go_wp2_with (first | ((with_reducible refine gate_callee (f := 32) rfl ?_); refine goesL_ (some 61) rfl rfl Try.func32 (by kernel_rfl) rfl #[.agg #[.int .i64 t192, .int .i64 t193, .slice Ao20 t194.length co20], .int .i64 1] rfl (by (try simp only [lm_, lo_, ln_]); first | done | rfl | (simp only [List.length_drop, List.length_take]; rfl)) ?_; (with_reducible refine (laws_markNote.calls kj35 t192 t193 (fun k_ => some k_ = (.slice Ao20 t194.length co20 : Value).ownBlock) (.slice Ao20 t194.length co20) t194 1 t207 t208 w _ ?side1 ?side2 A52.out).mono ?_); (case side1 => repeat (first | (with_reducible first | exact HB.out | apply na_ | apply nn_ | apply nw_ | refine bs_ ?_ GE188.out | refine bs_ ?_ GE198.out) | exact HB.out)); (case side2 => exact Kd.R_tight rfl HO_199002.out); rintro e w109 ⟨rfl, hy0, hb, hkp⟩; refine ⟨_, rfl, ?_⟩; have n0_ := mk_ (Kd.R_mono (ok' := fun k_ => some k_ ≠ (.slice Ao20 t194.length co20 : Value).ownBlock) (Kd.R_keptB (HO_189002.out) hkp (fun k_ hk_ hs_ => (hk_) hs_)) (fun k_ hk_ => hk_.1)); have n1_ := mk_ (Kd.R_reok rfl hy0 (fun k_ e_ => HO_199002.out.1 k_ e_)); have n2_ := mk_ (blk_kept (by (with_reducible repeat (first | refine bn_ ?_ _ | refine bw_ ?_ | refine ba_ ?_ _)); exact BK188.out) hkp (fun hs_ => (fun e_ => (Kd.R_ne HO_199002.out BK188.out (by decide)) e_) hs_)); have n3_ := mk_ (blk_kept (by (with_reducible repeat (first | refine bn_ ?_ _ | refine bw_ ?_ | refine ba_ ?_ _)); exact BK198.out) hkp (fun hs_ => (fun e_ => (Kd.R_ne HO_199002.out BK198.out (by decide)) e_) hs_)); have n4_ := mk_ (hb); clear HO_189002; clear HO_199002; clear BK188; clear BK198; clear HB; have HO_189002 := n0_; have HO_199002 := n1_; have BK188 := n2_; have BK198 := n3_; have HB := n4_; clear n0_ n1_ n2_ n3_ n4_; (try clear hb); (try clear hkp); (try clear hy0); have hcz110_0 : w109.cell? ⟨gb198, 0, none⟩ = some (.int .i64 t192) := (blk_cell BK198.out 0).trans rfl; have hcz110_1 : w109.cell? ⟨gb198, 1, none⟩ = some (.int .i64 t193) := (blk_cell BK198.out 1).trans rfl; have hcz110_2 : w109.cell? ⟨gb198, 2, none⟩ = some (.slice Ao20 t194.length co20) := (blk_cell BK198.out 2).trans rfl; have hfz110_0 := blk_frozen BK198.out 0; have hfz110_1 := blk_frozen BK198.out 1; have hfz110_2 := blk_frozen BK198.out 2) | ((with_reducible refine gate_callee (f := 33) rfl ?_); refine goesL_ (some 64) rfl rfl Try.func33 (by kernel_rfl) rfl #[.agg #[.int .i64 t192, .int .i64 t193, .slice Ao20 t208.length co20], .int .i64 1] rfl (by (try simp only [List.map_toArray, List.map_cons, List.map_nil]); first | done | (rw [show t208.length = t194.length from (Kd.R_reads' HO_199002.out).1.symm] <;> rfl) | rfl | (simp only [List.length_drop, List.length_take]; rfl)) ?_; (with_reducible refine (laws_heldNote.calls kj35 t192 t193 _ _ t208 1 t209 _ ?side1 ?side2 A53.out).mono ?_); (case side1 => repeat (first | exact (Kd.R_reads' HO_199002.out).2.2 | (with_reducible refine Kd.C_alloc ?_ _) | (with_reducible refine Kd.C_drewN ?_ _) | (with_reducible refine Kd.C_drew ?_))); (case side2 => rw [show t208.length = t194.length from (Kd.R_reads' HO_199002.out).1.symm]; exact (Kd.R_reads' HO_199002.out).2.1); rintro e w111 ⟨rfl, hb⟩; refine ⟨_, rfl, ?_⟩; have n0_ := mk_ (Kd.R_below (by (with_reducible repeat (first | apply Kd.R_alloc | apply Kd.R_drewN | apply Kd.R_drew)); exact HO_189002.out) hb); have n1_ := mk_ (Kd.R_below (by (with_reducible repeat (first | apply Kd.R_alloc | apply Kd.R_drewN | apply Kd.R_drew)); exact HO_199002.out) hb); have n2_ := mk_ (blk_below (g := gb188) (o := .cells #[.int .i64 t182, .int .i64 t183, .slice Ao13 t184.length co13] 56 (0, 0)) (by (with_reducible repeat (first | refine bn_ ?_ _ | refine bw_ ?_ | refine ba_ ?_ _)); exact BK188.out) hb); have n3_ := mk_ (blk_below (g := gb198) (o := .cells #[.int .i64 t192, .int .i64 t193, .slice Ao20 t194.length co20] 56 (0, 0)) (by (with_reducible repeat (first | refine bn_ ?_ _ | refine bw_ ?_ | refine ba_ ?_ _)); exact BK198.out) hb); have n4_ := mk_ (below_step (by repeat (first | (with_reducible first | exact HB.out | apply na_ | apply nn_ | apply nw_ | refine bs_ ?_ GE188.out | refine bs_ ?_ GE198.out) | exact HB.out)) hb); clear HO_189002; clear HO_199002; clear BK188; clear BK198; clear HB; have HO_189002 := n0_; have HO_199002 := n1_; have BK188 := n2_; have BK198 := n3_; have HB := n4_; clear n0_ n1_ n2_ n3_ n4_; (try clear hb); (try clear hb2); (try clear hk); (try clear hi)))
      go_ret
      exact ⟨by first | rfl | (simp [errW_none, errW_some] <;> rfl) | (simp [*, errW_none, errW_some] <;> rfl), by repeat (first | (with_reducible first | exact HB.out | apply na_ | apply nn_ | apply nw_ | refine bs_ ?_ GE188.out | refine bs_ ?_ GE198.out) | exact HB.out)⟩
     rw [if_pos c60] at H
     have c60b0 : (t209 == t207) = true := beq_iff_eq.mpr c60
     have c60b1 : (t209 != t207) = false := bne_eq_false_iff_eq.mpr c60
     clear c60
     replace H := Option.bind_eq_some_iff.mp H
     obtain ⟨t210, A610, H⟩ := H
     replace H : ((impl_NoteFrom.f kj35 t210).bind fun bt213 => ((laws_eqNote.f kj35 bt213.1 bt213.2.1 bt213.2.2.1 t182 t183 t184).bind fun t220 => (if t220 = true then (laws_FnExactNoteFrom.j2 kj35 t207 (bt213.2.2.2 != t187) t192 t193 t208) else (laws_FnExactNoteFrom.j2 kj35 t207 true t192 t193 t208)))) = some r := H
     have A61 := mk_ A610
     clear A610
     replace H := Option.bind_eq_some_iff.mp H
     obtain ⟨⟨t213, t214, t215, t218⟩, A620, H⟩ := H
     replace H : ((laws_eqNote.f kj35 t213 t214 t215 t182 t183 t184).bind fun t220 => (if t220 = true then (laws_FnExactNoteFrom.j2 kj35 t207 (t218 != t187) t192 t193 t208) else (laws_FnExactNoteFrom.j2 kj35 t207 true t192 t193 t208))) = some r := H
     have A62 := mk_ A620
     clear A620
     have HC63 := mk_ H
     clear H
     have hnb64 := NB198_188.out
     have hnc64 := NB188_198.out
     have hcz65_0 : wc.cell? ⟨gb198, 0, none⟩ = some (.int .i64 t192) := (blk_cell BK198.out 0).trans rfl
     have hcz65_1 : wc.cell? ⟨gb198, 1, none⟩ = some (.int .i64 t193) := (blk_cell BK198.out 1).trans rfl
     have hcz65_2 : wc.cell? ⟨gb198, 2, none⟩ = some (.slice Ao20 t194.length co20) := (blk_cell BK198.out 2).trans rfl
     have hfz65_0 := blk_frozen BK198.out 0
     have hfz65_1 := blk_frozen BK198.out 1
     have hfz65_2 := blk_frozen BK198.out 2
     go_upto_region 23 with (first | ((with_reducible refine gate_callee (f := 32) rfl ?_); refine goesL_ (some 61) rfl rfl Try.func32 (by kernel_rfl) rfl #[.agg #[.int .i64 t192, .int .i64 t193, .slice Ao20 t194.length co20], .int .i64 1] rfl (by (try simp only [lm_, lo_, ln_]); first | done | rfl | (simp only [List.length_drop, List.length_take]; rfl)) ?_; (with_reducible refine (laws_markNote.calls kj35 t192 t193 (fun k_ => some k_ = (.slice Ao20 t194.length co20 : Value).ownBlock) (.slice Ao20 t194.length co20) t194 1 t207 t208 w _ ?side1 ?side2 A52.out).mono ?_); (case side1 => repeat (first | (with_reducible first | exact HB.out | apply na_ | apply nn_ | apply nw_ | refine bs_ ?_ GE188.out | refine bs_ ?_ GE198.out) | exact HB.out)); (case side2 => exact Kd.R_tight rfl HO_199002.out); rintro e w66 ⟨rfl, hy0, hb, hkp⟩; refine ⟨_, rfl, ?_⟩; have n0_ := mk_ (Kd.R_mono (ok' := fun k_ => some k_ ≠ (.slice Ao20 t194.length co20 : Value).ownBlock) (Kd.R_keptB (HO_189002.out) hkp (fun k_ hk_ hs_ => (hk_) hs_)) (fun k_ hk_ => hk_.1)); have n1_ := mk_ (Kd.R_reok rfl hy0 (fun k_ e_ => HO_199002.out.1 k_ e_)); have n2_ := mk_ (blk_kept (by (with_reducible repeat (first | refine bn_ ?_ _ | refine bw_ ?_ | refine ba_ ?_ _)); exact BK188.out) hkp (fun hs_ => (fun e_ => (Kd.R_ne HO_199002.out BK188.out (by decide)) e_) hs_)); have n3_ := mk_ (blk_kept (by (with_reducible repeat (first | refine bn_ ?_ _ | refine bw_ ?_ | refine ba_ ?_ _)); exact BK198.out) hkp (fun hs_ => (fun e_ => (Kd.R_ne HO_199002.out BK198.out (by decide)) e_) hs_)); have n4_ := mk_ (hb); clear HO_189002; clear HO_199002; clear BK188; clear BK198; clear HB; have HO_189002 := n0_; have HO_199002 := n1_; have BK188 := n2_; have BK198 := n3_; have HB := n4_; clear n0_ n1_ n2_ n3_ n4_; (try clear hb); (try clear hkp); (try clear hy0); have hcz67_0 : w66.cell? ⟨gb198, 0, none⟩ = some (.int .i64 t192) := (blk_cell BK198.out 0).trans rfl; have hcz67_1 : w66.cell? ⟨gb198, 1, none⟩ = some (.int .i64 t193) := (blk_cell BK198.out 1).trans rfl; have hcz67_2 : w66.cell? ⟨gb198, 2, none⟩ = some (.slice Ao20 t194.length co20) := (blk_cell BK198.out 2).trans rfl; have hfz67_0 := blk_frozen BK198.out 0; have hfz67_1 := blk_frozen BK198.out 1; have hfz67_2 := blk_frozen BK198.out 2) | ((with_reducible refine gate_callee (f := 33) rfl ?_); refine goesL_ (some 64) rfl rfl Try.func33 (by kernel_rfl) rfl #[.agg #[.int .i64 t192, .int .i64 t193, .slice Ao20 t208.length co20], .int .i64 1] rfl (by (try simp only [List.map_toArray, List.map_cons, List.map_nil]); first | done | (rw [show t208.length = t194.length from (Kd.R_reads' HO_199002.out).1.symm] <;> rfl) | rfl | (simp only [List.length_drop, List.length_take]; rfl)) ?_; (with_reducible refine (laws_heldNote.calls kj35 t192 t193 _ _ t208 1 t209 _ ?side1 ?side2 A53.out).mono ?_); (case side1 => repeat (first | exact (Kd.R_reads' HO_199002.out).2.2 | (with_reducible refine Kd.C_alloc ?_ _) | (with_reducible refine Kd.C_drewN ?_ _) | (with_reducible refine Kd.C_drew ?_))); (case side2 => rw [show t208.length = t194.length from (Kd.R_reads' HO_199002.out).1.symm]; exact (Kd.R_reads' HO_199002.out).2.1); rintro e w68 ⟨rfl, hb⟩; refine ⟨_, rfl, ?_⟩; have n0_ := mk_ (Kd.R_below (by (with_reducible repeat (first | apply Kd.R_alloc | apply Kd.R_drewN | apply Kd.R_drew)); exact HO_189002.out) hb); have n1_ := mk_ (Kd.R_below (by (with_reducible repeat (first | apply Kd.R_alloc | apply Kd.R_drewN | apply Kd.R_drew)); exact HO_199002.out) hb); have n2_ := mk_ (blk_below (g := gb188) (o := .cells #[.int .i64 t182, .int .i64 t183, .slice Ao13 t184.length co13] 56 (0, 0)) (by (with_reducible repeat (first | refine bn_ ?_ _ | refine bw_ ?_ | refine ba_ ?_ _)); exact BK188.out) hb); have n3_ := mk_ (blk_below (g := gb198) (o := .cells #[.int .i64 t192, .int .i64 t193, .slice Ao20 t194.length co20] 56 (0, 0)) (by (with_reducible repeat (first | refine bn_ ?_ _ | refine bw_ ?_ | refine ba_ ?_ _)); exact BK198.out) hb); have n4_ := mk_ (below_step (by repeat (first | (with_reducible first | exact HB.out | apply na_ | apply nn_ | apply nw_ | refine bs_ ?_ GE188.out | refine bs_ ?_ GE198.out) | exact HB.out)) hb); clear HO_189002; clear HO_199002; clear BK188; clear BK198; clear HB; have HO_189002 := n0_; have HO_199002 := n1_; have BK188 := n2_; have BK198 := n3_; have HB := n4_; clear n0_ n1_ n2_ n3_ n4_; (try clear hb); (try clear hb2); (try clear hk); (try clear hi)) | ((with_reducible refine gate_callee (f := 27) rfl ?_); refine goesL_ (some 72) rfl rfl Try.func27 (by kernel_rfl) rfl #[.slice A0 l0.length c0] rfl (by (try simp only [lm_, lo_, ln_]); first | done | rfl | (simp only [List.length_drop, List.length_take]; rfl)) ?_; (with_reducible refine (laws_toByteS.calls kj35 _ _ l0 t210 _ ?side1 ?side2 A61.out).mono ?_); (case side1 => repeat (first | exact (Kd.C_below HR0.out HB.out) | (with_reducible refine Kd.C_alloc ?_ _) | (with_reducible refine Kd.C_drewN ?_ _) | (with_reducible refine Kd.C_drew ?_))); (case side2 => exact HC0.out); rintro e w69 ⟨v211, rfl, ho0, hb⟩; refine ⟨_, rfl, ?_⟩; have n0_ := mk_ (Kd.R_elder' (by (with_reducible repeat (first | apply Kd.R_alloc | apply Kd.R_drewN | apply Kd.R_drew)); exact HO_189002.out) (Kd.R_base ho0) hb); have n1_ := mk_ (Kd.R_elder' (by (with_reducible repeat (first | apply Kd.R_alloc | apply Kd.R_drewN | apply Kd.R_drew)); exact HO_199002.out) (Kd.R_base ho0) hb); have n2_ := mk_ (Kd.R_lower (Kd.R_new' (Kd.R_new' ho0 (Kd.R_lt (by (with_reducible repeat (first | apply Kd.R_alloc | apply Kd.R_drewN | apply Kd.R_drew)); exact HO_189002.out))) (Kd.R_lt (by (with_reducible repeat (first | apply Kd.R_alloc | apply Kd.R_drewN | apply Kd.R_drew)); exact HO_199002.out))) (below_size (by repeat (first | (with_reducible first | exact HB.out | apply na_ | apply nn_ | apply nw_ | refine bs_ ?_ GE188.out | refine bs_ ?_ GE198.out) | exact HB.out)))); have n3_ := mk_ (blk_below (g := gb188) (o := .cells #[.int .i64 t182, .int .i64 t183, .slice Ao13 t184.length co13] 56 (0, 0)) (by (with_reducible repeat (first | refine bn_ ?_ _ | refine bw_ ?_ | refine ba_ ?_ _)); exact BK188.out) hb); have n4_ := mk_ (blk_below (g := gb198) (o := .cells #[.int .i64 t192, .int .i64 t193, .slice Ao20 t194.length co20] 56 (0, 0)) (by (with_reducible repeat (first | refine bn_ ?_ _ | refine bw_ ?_ | refine ba_ ?_ _)); exact BK198.out) hb); have n5_ := mk_ (below_step (by repeat (first | (with_reducible first | exact HB.out | apply na_ | apply nn_ | apply nw_ | refine bs_ ?_ GE188.out | refine bs_ ?_ GE198.out) | exact HB.out)) hb); clear HO_189002; clear HO_199002; clear BK188; clear BK198; clear HB; have HO_189002 := n0_; have HO_199002 := n1_; have HO212 := n2_; have BK188 := n3_; have BK198 := n4_; have HB := n5_; clear n0_ n1_ n2_ n3_ n4_ n5_; (try clear hb); (try clear hb2); (try clear hk); (try clear hi); (try clear ho0); obtain ⟨Ao70, co70, eo70⟩ := Kd.R_slice HO212.out; subst eo70) | ((with_reducible refine gate_callee (f := 28) rfl ?_); refine goesL_ (some 73) rfl rfl Try.func28 (by kernel_rfl) rfl #[.slice Ao70 t210.length co70] rfl (by (try simp only [lm_, lo_, ln_]); first | done | rfl | (simp only [List.length_drop, List.length_take]; rfl)) ?_; (with_reducible refine (impl_NoteFrom.calls kj35 _ _ t210 t213 t214 t215 t218 _ ?side1 ?side2 A62.out).mono ?_); (case side1 => repeat (first | exact (Kd.R_reads' HO212.out).2.2 | (with_reducible refine Kd.C_alloc ?_ _) | (with_reducible refine Kd.C_drewN ?_ _) | (with_reducible refine Kd.C_drew ?_))); (case side2 => exact (Kd.R_reads' HO212.out).2.1); rintro e w71 ⟨v216, rfl, ho0, hb⟩; refine ⟨_, rfl, ?_⟩; have n0_ := mk_ (Kd.R_elder' (by (with_reducible repeat (first | apply Kd.R_alloc | apply Kd.R_drewN | apply Kd.R_drew)); exact HO_189002.out) (Kd.R_base ho0) hb); have n1_ := mk_ (Kd.R_elder' (by (with_reducible repeat (first | apply Kd.R_alloc | apply Kd.R_drewN | apply Kd.R_drew)); exact HO_199002.out) (Kd.R_base ho0) hb); have n2_ := mk_ (Kd.R_elder' (by (with_reducible repeat (first | apply Kd.R_alloc | apply Kd.R_drewN | apply Kd.R_drew)); exact HO212.out) (Kd.R_base ho0) hb); have n3_ := mk_ (Kd.R_lower (Kd.R_new' (Kd.R_new' (Kd.R_new' ho0 (Kd.R_lt (by (with_reducible repeat (first | apply Kd.R_alloc | apply Kd.R_drewN | apply Kd.R_drew)); exact HO_189002.out))) (Kd.R_lt (by (with_reducible repeat (first | apply Kd.R_alloc | apply Kd.R_drewN | apply Kd.R_drew)); exact HO_199002.out))) (Kd.R_lt (by (with_reducible repeat (first | apply Kd.R_alloc | apply Kd.R_drewN | apply Kd.R_drew)); exact HO212.out))) (below_size (by repeat (first | (with_reducible first | exact HB.out | apply na_ | apply nn_ | apply nw_ | refine bs_ ?_ GE188.out | refine bs_ ?_ GE198.out) | exact HB.out)))); have n4_ := mk_ (blk_below (g := gb188) (o := .cells #[.int .i64 t182, .int .i64 t183, .slice Ao13 t184.length co13] 56 (0, 0)) (by (with_reducible repeat (first | refine bn_ ?_ _ | refine bw_ ?_ | refine ba_ ?_ _)); exact BK188.out) hb); have n5_ := mk_ (blk_below (g := gb198) (o := .cells #[.int .i64 t192, .int .i64 t193, .slice Ao20 t194.length co20] 56 (0, 0)) (by (with_reducible repeat (first | refine bn_ ?_ _ | refine bw_ ?_ | refine ba_ ?_ _)); exact BK198.out) hb); have n6_ := mk_ (below_step (by repeat (first | (with_reducible first | exact HB.out | apply na_ | apply nn_ | apply nw_ | refine bs_ ?_ GE188.out | refine bs_ ?_ GE198.out) | exact HB.out)) hb); clear HO_189002; clear HO_199002; clear HO212; clear BK188; clear BK198; clear HB; have HO_189002 := n0_; have HO_199002 := n1_; have HO212 := n2_; have HO217 := n3_; have BK188 := n4_; have BK198 := n5_; have HB := n6_; clear n0_ n1_ n2_ n3_ n4_ n5_ n6_; (try clear hb); (try clear hb2); (try clear hk); (try clear hi); (try clear ho0)) | ((with_reducible refine gate_dst (N := 11) rfl ?_); refine box_event ?hg (N := 11) ?hd (cs := #[.int .i64 0, .int .i64 0, .slice none 0 0]) (t := 56) ?hr ?_; (case hd => rfl); (case hg => rfl); (case hr => first | (go_simp; done) | (go_simp; rfl)); intro gb219 hg w72 hbox hb; have n0_ := mk_ (Kd.R_below (by (with_reducible repeat (first | apply Kd.R_alloc | apply Kd.R_drewN | apply Kd.R_drew)); exact HO_189002.out) hb); have n1_ := mk_ (Kd.R_below (by (with_reducible repeat (first | apply Kd.R_alloc | apply Kd.R_drewN | apply Kd.R_drew)); exact HO_199002.out) hb); have n2_ := mk_ (Kd.R_below (by (with_reducible repeat (first | apply Kd.R_alloc | apply Kd.R_drewN | apply Kd.R_drew)); exact HO212.out) hb); have n3_ := mk_ (Kd.R_below (by (with_reducible repeat (first | apply Kd.R_alloc | apply Kd.R_drewN | apply Kd.R_drew)); exact HO217.out) hb); have n4_ := mk_ (blk_below (g := gb188) (o := .cells #[.int .i64 t182, .int .i64 t183, .slice Ao13 t184.length co13] 56 (0, 0)) (by (with_reducible repeat (first | refine bn_ ?_ _ | refine bw_ ?_ | refine ba_ ?_ _)); exact BK188.out) hb); have n5_ := mk_ (blk_below (g := gb198) (o := .cells #[.int .i64 t192, .int .i64 t193, .slice Ao20 t194.length co20] 56 (0, 0)) (by (with_reducible repeat (first | refine bn_ ?_ _ | refine bw_ ?_ | refine ba_ ?_ _)); exact BK198.out) hb); have n6_ := mk_ (below_step (by repeat (first | (with_reducible first | exact HB.out | apply na_ | apply nn_ | apply nw_ | refine bs_ ?_ GE188.out | refine bs_ ?_ GE198.out) | exact HB.out)) hb); have n7_ := mk_ (hbox); have n8_ := mk_ ((by rw [hg]; exact (below_size (by repeat (first | (with_reducible first | exact HB.out | apply na_ | apply nn_ | apply nw_ | refine bs_ ?_ GE188.out | refine bs_ ?_ GE198.out) | exact HB.out))) : w.heap.size ≤ gb219)); have n9_ := mk_ ((by rw [hg]; exact (below_size (by repeat (first | (with_reducible first | exact HB.out | apply na_ | apply nn_ | apply nw_ | refine bs_ ?_ GE188.out | refine bs_ ?_ GE198.out) | exact HB.out))) : w.heap.size ≤ gb219)); have n10_ := mk_ ((by rw [hg]; exact Nat.ne_of_lt (blk_lt (g := gb188) (o := .cells #[.int .i64 t182, .int .i64 t183, .slice Ao13 t184.length co13] 56 (0, 0)) (by (with_reducible repeat (first | refine bn_ ?_ _ | refine bw_ ?_ | refine ba_ ?_ _)); exact BK188.out)) : gb188 ≠ gb219)); have n11_ := mk_ ((by rw [hg]; exact Nat.ne_of_gt (blk_lt (g := gb188) (o := .cells #[.int .i64 t182, .int .i64 t183, .slice Ao13 t184.length co13] 56 (0, 0)) (by (with_reducible repeat (first | refine bn_ ?_ _ | refine bw_ ?_ | refine ba_ ?_ _)); exact BK188.out)) : gb219 ≠ gb188)); have n12_ := mk_ ((by rw [hg]; exact Nat.ne_of_lt (blk_lt (g := gb198) (o := .cells #[.int .i64 t192, .int .i64 t193, .slice Ao20 t194.length co20] 56 (0, 0)) (by (with_reducible repeat (first | refine bn_ ?_ _ | refine bw_ ?_ | refine ba_ ?_ _)); exact BK198.out)) : gb198 ≠ gb219)); have n13_ := mk_ ((by rw [hg]; exact Nat.ne_of_gt (blk_lt (g := gb198) (o := .cells #[.int .i64 t192, .int .i64 t193, .slice Ao20 t194.length co20] 56 (0, 0)) (by (with_reducible repeat (first | refine bn_ ?_ _ | refine bw_ ?_ | refine ba_ ?_ _)); exact BK198.out)) : gb219 ≠ gb198)); clear HO_189002; clear HO_199002; clear HO212; clear HO217; clear BK188; clear BK198; clear HB; have HO_189002 := n0_; have HO_199002 := n1_; have HO212 := n2_; have HO217 := n3_; have BK188 := n4_; have BK198 := n5_; have HB := n6_; have BK219 := n7_; have GW219 := n8_; have GE219 := n9_; have NB188_219 := n10_; have NB219_188 := n11_; have NB198_219 := n12_; have NB219_198 := n13_; clear n0_ n1_ n2_ n3_ n4_ n5_ n6_ n7_ n8_ n9_ n10_ n11_ n12_ n13_; clear hb hbox hg; have hnb73 := NB219_188.out; have hnc73 := NB188_219.out; have hnb74 := NB219_198.out; have hnc74 := NB198_219.out; have hcz75_0 : w72.cell? ⟨gb219, 0, none⟩ = some (.int .i64 0) := (blk_cell BK219.out 0).trans rfl; have hcz75_1 : w72.cell? ⟨gb219, 1, none⟩ = some (.int .i64 0) := (blk_cell BK219.out 1).trans rfl; have hcz75_2 : w72.cell? ⟨gb219, 2, none⟩ = some (.slice none 0 0) := (blk_cell BK219.out 2).trans rfl; have hfz75_0 := blk_frozen BK219.out 0; have hfz75_1 := blk_frozen BK219.out 1; have hfz75_2 := blk_frozen BK219.out 2; obtain ⟨Ao76, co76, eo76⟩ := Kd.R_slice HO217.out; subst eo76))
     (try simp only [Act.put, la_, lz_, ls_])
     go_cut [84] (fun v84 wc => ∃ (kq : Nat) (x84_62 : Bool), v84 = .bool x84_62 ∧ Aside0 (laws_FnExactNoteFrom.j2 kq t207 x84_62 t192 t193 t208 = some r) ∧ Aside0 (kq ≤ kj35) ∧ Aside0 (Kd.R (Kd.int .u8) 5 wc w.heap.size (fun k_ => some k_ ≠ ((.slice Ao20 t194.length co20) : Value).ownBlock ∧ some k_ ≠ ((.slice Ao76 t215.length co76) : Value).ownBlock) (.slice Ao13 t184.length co13) t184) ∧ Aside0 (Kd.R (Kd.int .u8) 5 wc w.heap.size (fun k_ => some k_ ≠ ((.slice Ao13 t184.length co13) : Value).ownBlock ∧ some k_ ≠ ((.slice Ao76 t215.length co76) : Value).ownBlock) (.slice Ao20 t194.length co20) t208) ∧ Aside0 (Kd.R (Kd.int .u8) 5 wc w.heap.size (fun k_ => some k_ ≠ ((.slice Ao13 t184.length co13) : Value).ownBlock ∧ some k_ ≠ ((.slice Ao20 t194.length co20) : Value).ownBlock) (.slice Ao76 t215.length co76) t215) ∧ Aside0 (wc.heap[gb188]? = some (.cells #[.int .i64 t182, .int .i64 t183, (.slice Ao13 t184.length co13)] 56 (0, 0))) ∧ Aside0 (wc.heap[gb198]? = some (.cells #[.int .i64 t192, .int .i64 t193, (.slice Ao20 t194.length co20)] 56 (0, 0))) ∧ Aside0 (wc.heap[gb219]? = some (.cells #[.int .i64 t213, .int .i64 t214, (.slice Ao76 t215.length co76)] 56 (0, 0))) ∧ Aside0 (Below w.heap.size w wc))
     case first =>
      have H := HC63.out
      clear HC63
      replace H := Option.bind_eq_some_iff.mp H
      obtain ⟨t220, A770, H⟩ := H
      replace H : (if t220 = true then (laws_FnExactNoteFrom.j2 kj35 t207 (t218 != t187) t192 t193 t208) else (laws_FnExactNoteFrom.j2 kj35 t207 true t192 t193 t208)) = some r := H
      have A77 := mk_ A770
      clear A770
      by_cases c78 : t220 = true
      ·subst c78
       have H1 : (laws_FnExactNoteFrom.j2 kj35 t207 (t218 != t187) t192 t193 t208) = some r := by rw [if_pos rfl] at H; exact H
       clear H
       have H := H1
       clear H1
       have H' := mk_ H
       clear H
       have hnb79 := NB219_188.out
       have hnc79 := NB188_219.out
       have hnb80 := NB219_198.out
       have hnc80 := NB198_219.out
       have hcz81_0 : w72.cell? ⟨gb219, 0, none⟩ = some (.int .i64 0) := (blk_cell BK219.out 0).trans rfl
       have hcz81_1 : w72.cell? ⟨gb219, 1, none⟩ = some (.int .i64 0) := (blk_cell BK219.out 1).trans rfl
       have hcz81_2 : w72.cell? ⟨gb219, 2, none⟩ = some (.slice none 0 0) := (blk_cell BK219.out 2).trans rfl
       have hfz81_0 := blk_frozen BK219.out 0
       have hfz81_1 := blk_frozen BK219.out 1
       have hfz81_2 := blk_frozen BK219.out 2
       have hnb82 := NB188_198.out
       have hnc82 := NB198_188.out
       have hcz83_0 : w72.cell? ⟨gb188, 0, none⟩ = some (.int .i64 t182) := (blk_cell BK188.out 0).trans rfl
       have hcz83_1 : w72.cell? ⟨gb188, 1, none⟩ = some (.int .i64 t183) := (blk_cell BK188.out 1).trans rfl
       have hcz83_2 : w72.cell? ⟨gb188, 2, none⟩ = some (.slice Ao13 t184.length co13) := (blk_cell BK188.out 2).trans rfl
       have hfz83_0 := blk_frozen BK188.out 0
       have hfz83_1 := blk_frozen BK188.out 1
       have hfz83_2 := blk_frozen BK188.out 2
       go_wp2_with (first | ((with_reducible refine gate_callee (f := 29) rfl ?_); refine goesL_ (some 78) rfl rfl Try.func29 (by kernel_rfl) rfl #[.agg #[.int .i64 t213, .int .i64 t214, .slice Ao76 t215.length co76], .agg #[.int .i64 t182, .int .i64 t183, .slice Ao13 t184.length co13]] rfl (by (try simp only [lm_, lo_, ln_]); first | done | rfl | (simp only [List.length_drop, List.length_take]; rfl)) ?_; (with_reducible refine (laws_eqNote.calls kj35 t213 t214 _ _ t215 t182 t183 _ _ t184 true _ ?side1 ?side2 ?side3 ?side4 A77.out).mono ?_); (case side1 => refine (Kd.R_reads' (e := 5) (base := w.heap.size) (ok := fun k_ => (((True ∧ some k_ ≠ (.slice Ao13 t184.length co13 : Value).ownBlock) ∧ some k_ ≠ (.slice Ao20 t194.length co20 : Value).ownBlock) ∧ some k_ ≠ (.slice Ao70 t210.length co70 : Value).ownBlock)) (n := t215.length) (c := co76) ?_).2.2; exact (by (with_reducible repeat (first | apply Kd.R_alloc | apply Kd.R_drewN | apply Kd.R_drew)); exact (Kd.R_mono (Kd.R_far (p := ⟨gb219, 2, none⟩) (Kd.R_far (p := ⟨gb219, 1, none⟩) (Kd.R_far (p := ⟨gb219, 0, none⟩) (Kd.R_types HO217.out BK219.out (by decide)) (fun _ hk => hk.2) (.int .i64 t213)) (fun _ hk => hk.2) (.int .i64 t214)) (fun _ hk => hk.2) (.slice Ao76 t215.length co76)) (fun _ h_ => h_.1)))); (case side2 => exact (Kd.R_reads' HO217.out).2.1); (case side3 => refine (Kd.R_reads' (e := 5) (base := w.heap.size) (ok := fun k_ => ((some k_ ≠ (.slice Ao20 t194.length co20 : Value).ownBlock ∧ some k_ ≠ (.slice Ao70 t210.length co70 : Value).ownBlock) ∧ some k_ ≠ (.slice Ao76 t215.length co76 : Value).ownBlock)) (n := t184.length) (c := co13) ?_).2.2; exact (by (with_reducible repeat (first | apply Kd.R_alloc | apply Kd.R_drewN | apply Kd.R_drew)); exact (Kd.R_mono (Kd.R_far (p := ⟨gb219, 2, none⟩) (Kd.R_far (p := ⟨gb219, 1, none⟩) (Kd.R_far (p := ⟨gb219, 0, none⟩) (Kd.R_types HO_189002.out BK219.out (by decide)) (fun _ hk => hk.2) (.int .i64 t213)) (fun _ hk => hk.2) (.int .i64 t214)) (fun _ hk => hk.2) (.slice Ao76 t215.length co76)) (fun _ h_ => h_.1)))); (case side4 => exact (Kd.R_reads' HO_189002.out).2.1); rintro e w84 ⟨rfl, hb⟩; refine ⟨_, rfl, ?_⟩; have n0_ := mk_ (Kd.R_below (by (with_reducible repeat (first | apply Kd.R_alloc | apply Kd.R_drewN | apply Kd.R_drew)); exact (Kd.R_mono (Kd.R_far (p := ⟨gb219, 2, none⟩) (Kd.R_far (p := ⟨gb219, 1, none⟩) (Kd.R_far (p := ⟨gb219, 0, none⟩) (Kd.R_types HO_189002.out BK219.out (by decide)) (fun _ hk => hk.2) (.int .i64 t213)) (fun _ hk => hk.2) (.int .i64 t214)) (fun _ hk => hk.2) (.slice Ao76 t215.length co76)) (fun _ h_ => h_.1))) hb); have n1_ := mk_ (Kd.R_below (by (with_reducible repeat (first | apply Kd.R_alloc | apply Kd.R_drewN | apply Kd.R_drew)); exact (Kd.R_mono (Kd.R_far (p := ⟨gb219, 2, none⟩) (Kd.R_far (p := ⟨gb219, 1, none⟩) (Kd.R_far (p := ⟨gb219, 0, none⟩) (Kd.R_types HO_199002.out BK219.out (by decide)) (fun _ hk => hk.2) (.int .i64 t213)) (fun _ hk => hk.2) (.int .i64 t214)) (fun _ hk => hk.2) (.slice Ao76 t215.length co76)) (fun _ h_ => h_.1))) hb); have n2_ := mk_ (Kd.R_below (by (with_reducible repeat (first | apply Kd.R_alloc | apply Kd.R_drewN | apply Kd.R_drew)); exact (Kd.R_mono (Kd.R_far (p := ⟨gb219, 2, none⟩) (Kd.R_far (p := ⟨gb219, 1, none⟩) (Kd.R_far (p := ⟨gb219, 0, none⟩) (Kd.R_types HO212.out BK219.out (by decide)) (fun _ hk => hk.2) (.int .i64 t213)) (fun _ hk => hk.2) (.int .i64 t214)) (fun _ hk => hk.2) (.slice Ao76 t215.length co76)) (fun _ h_ => h_.1))) hb); have n3_ := mk_ (Kd.R_below (by (with_reducible repeat (first | apply Kd.R_alloc | apply Kd.R_drewN | apply Kd.R_drew)); exact (Kd.R_mono (Kd.R_far (p := ⟨gb219, 2, none⟩) (Kd.R_far (p := ⟨gb219, 1, none⟩) (Kd.R_far (p := ⟨gb219, 0, none⟩) (Kd.R_types HO217.out BK219.out (by decide)) (fun _ hk => hk.2) (.int .i64 t213)) (fun _ hk => hk.2) (.int .i64 t214)) (fun _ hk => hk.2) (.slice Ao76 t215.length co76)) (fun _ h_ => h_.1))) hb); have n4_ := mk_ (blk_below (g := gb188) (o := .cells #[.int .i64 t182, .int .i64 t183, .slice Ao13 t184.length co13] 56 (0, 0)) (by (with_reducible repeat (first | refine bn_ ?_ _ | refine bw_ ?_ | refine ba_ ?_ _)); refine blk_far ?_ NB188_219.out _; (with_reducible repeat (first | refine bn_ ?_ _ | refine bw_ ?_ | refine ba_ ?_ _)); refine blk_far ?_ NB188_219.out _; (with_reducible repeat (first | refine bn_ ?_ _ | refine bw_ ?_ | refine ba_ ?_ _)); refine blk_far ?_ NB188_219.out _; (with_reducible repeat (first | refine bn_ ?_ _ | refine bw_ ?_ | refine ba_ ?_ _)); exact BK188.out) hb); have n5_ := mk_ (blk_below (g := gb198) (o := .cells #[.int .i64 t192, .int .i64 t193, .slice Ao20 t194.length co20] 56 (0, 0)) (by (with_reducible repeat (first | refine bn_ ?_ _ | refine bw_ ?_ | refine ba_ ?_ _)); refine blk_far ?_ NB198_219.out _; (with_reducible repeat (first | refine bn_ ?_ _ | refine bw_ ?_ | refine ba_ ?_ _)); refine blk_far ?_ NB198_219.out _; (with_reducible repeat (first | refine bn_ ?_ _ | refine bw_ ?_ | refine ba_ ?_ _)); refine blk_far ?_ NB198_219.out _; (with_reducible repeat (first | refine bn_ ?_ _ | refine bw_ ?_ | refine ba_ ?_ _)); exact BK198.out) hb); have n6_ := mk_ (blk_below (g := gb219) (o := .cells #[.int .i64 t213, .int .i64 t214, .slice Ao76 t215.length co76] 56 (0, 0)) (by (with_reducible repeat (first | refine bn_ ?_ _ | refine bw_ ?_ | refine ba_ ?_ _)); refine blk_put (cs := #[.int .i64 t213, .int .i64 t214, .slice none 0 0]) ?_ 2 _ rfl; (with_reducible repeat (first | refine bn_ ?_ _ | refine bw_ ?_ | refine ba_ ?_ _)); refine blk_put (cs := #[.int .i64 t213, .int .i64 0, .slice none 0 0]) ?_ 1 _ rfl; (with_reducible repeat (first | refine bn_ ?_ _ | refine bw_ ?_ | refine ba_ ?_ _)); refine blk_put (cs := #[.int .i64 0, .int .i64 0, .slice none 0 0]) ?_ 0 _ rfl; (with_reducible repeat (first | refine bn_ ?_ _ | refine bw_ ?_ | refine ba_ ?_ _)); exact BK219.out) hb); have n7_ := mk_ (below_step (by repeat (first | (with_reducible first | exact HB.out | apply na_ | apply nn_ | apply nw_ | refine bs_ ?_ GE188.out | refine bs_ ?_ GE198.out | refine bs_ ?_ GE219.out) | exact HB.out)) hb); clear HO_189002; clear HO_199002; clear HO212; clear HO217; clear BK188; clear BK198; clear BK219; clear HB; have HO_189002 := n0_; have HO_199002 := n1_; have HO212 := n2_; have HO217 := n3_; have BK188 := n4_; have BK198 := n5_; have BK219 := n6_; have HB := n7_; clear n0_ n1_ n2_ n3_ n4_ n5_ n6_ n7_; (try clear hb); (try clear hb2); (try clear hk); (try clear hi)))
       go_meet
       case rel => exact ⟨_, ((t218 != t187)), (by first | rfl | (simp; done) | (simp [*]; done)), H', ⟨by have := HJ6.out; have := HJ35.out; first | omega | exact Nat.le_refl _⟩, ⟨by (with_reducible repeat (first | apply Kd.R_alloc | apply Kd.R_drewN | apply Kd.R_drew)); exact Kd.R_mono HO_189002.out (fun _ hk => by first | exact ⟨hk.1.1, hk.2⟩ | exact hk.1 | exact hk | exact ⟨hk.1, hk.2⟩ | exact ⟨.inr hk.1, hk.2⟩)⟩, ⟨by (with_reducible repeat (first | apply Kd.R_alloc | apply Kd.R_drewN | apply Kd.R_drew)); exact Kd.R_mono HO_199002.out (fun _ hk => by first | exact ⟨hk.1.1, hk.2⟩ | exact hk.1 | exact hk | exact ⟨hk.1, hk.2⟩ | exact ⟨.inr hk.1, hk.2⟩)⟩, ⟨by (with_reducible repeat (first | apply Kd.R_alloc | apply Kd.R_drewN | apply Kd.R_drew)); exact Kd.R_mono HO217.out (fun _ hk => by first | exact ⟨hk.1.1.2, hk.1.2⟩ | exact hk.1 | exact hk | exact ⟨hk.1, hk.2⟩ | exact ⟨.inr hk.1, hk.2⟩)⟩, ⟨by (with_reducible repeat (first | refine bn_ ?_ _ | refine bw_ ?_ | refine ba_ ?_ _)); exact BK188.out⟩, ⟨by (with_reducible repeat (first | refine bn_ ?_ _ | refine bw_ ?_ | refine ba_ ?_ _)); exact BK198.out⟩, ⟨by (with_reducible repeat (first | refine bn_ ?_ _ | refine bw_ ?_ | refine ba_ ?_ _)); exact BK219.out⟩, ⟨by repeat (first | (with_reducible first | exact HB.out | apply na_ | apply nn_ | apply nw_ | refine bs_ ?_ GE188.out | refine bs_ ?_ GE198.out | refine bs_ ?_ GE219.out) | exact HB.out)⟩⟩
      replace c78 := Bool.eq_false_iff.mpr c78
      subst c78
      have H1 : (laws_FnExactNoteFrom.j2 kj35 t207 true t192 t193 t208) = some r := by rw [if_neg (show ¬ (false = true) by decide)] at H; exact H
      clear H
      have H := H1
      clear H1
      have H' := mk_ H
      clear H
      have hnb85 := NB219_188.out
      have hnc85 := NB188_219.out
      have hnb86 := NB219_198.out
      have hnc86 := NB198_219.out
      have hcz87_0 : w72.cell? ⟨gb219, 0, none⟩ = some (.int .i64 0) := (blk_cell BK219.out 0).trans rfl
      have hcz87_1 : w72.cell? ⟨gb219, 1, none⟩ = some (.int .i64 0) := (blk_cell BK219.out 1).trans rfl
      have hcz87_2 : w72.cell? ⟨gb219, 2, none⟩ = some (.slice none 0 0) := (blk_cell BK219.out 2).trans rfl
      have hfz87_0 := blk_frozen BK219.out 0
      have hfz87_1 := blk_frozen BK219.out 1
      have hfz87_2 := blk_frozen BK219.out 2
      have hnb88 := NB188_198.out
      have hnc88 := NB198_188.out
      have hcz89_0 : w72.cell? ⟨gb188, 0, none⟩ = some (.int .i64 t182) := (blk_cell BK188.out 0).trans rfl
      have hcz89_1 : w72.cell? ⟨gb188, 1, none⟩ = some (.int .i64 t183) := (blk_cell BK188.out 1).trans rfl
      have hcz89_2 : w72.cell? ⟨gb188, 2, none⟩ = some (.slice Ao13 t184.length co13) := (blk_cell BK188.out 2).trans rfl
      have hfz89_0 := blk_frozen BK188.out 0
      have hfz89_1 := blk_frozen BK188.out 1
      have hfz89_2 := blk_frozen BK188.out 2
      go_wp2_with (first | ((with_reducible refine gate_callee (f := 29) rfl ?_); refine goesL_ (some 78) rfl rfl Try.func29 (by kernel_rfl) rfl #[.agg #[.int .i64 t213, .int .i64 t214, .slice Ao76 t215.length co76], .agg #[.int .i64 t182, .int .i64 t183, .slice Ao13 t184.length co13]] rfl (by (try simp only [lm_, lo_, ln_]); first | done | rfl | (simp only [List.length_drop, List.length_take]; rfl)) ?_; (with_reducible refine (laws_eqNote.calls kj35 t213 t214 _ _ t215 t182 t183 _ _ t184 false _ ?side1 ?side2 ?side3 ?side4 A77.out).mono ?_); (case side1 => refine (Kd.R_reads' (e := 5) (base := w.heap.size) (ok := fun k_ => (((True ∧ some k_ ≠ (.slice Ao13 t184.length co13 : Value).ownBlock) ∧ some k_ ≠ (.slice Ao20 t194.length co20 : Value).ownBlock) ∧ some k_ ≠ (.slice Ao70 t210.length co70 : Value).ownBlock)) (n := t215.length) (c := co76) ?_).2.2; exact (by (with_reducible repeat (first | apply Kd.R_alloc | apply Kd.R_drewN | apply Kd.R_drew)); exact (Kd.R_mono (Kd.R_far (p := ⟨gb219, 2, none⟩) (Kd.R_far (p := ⟨gb219, 1, none⟩) (Kd.R_far (p := ⟨gb219, 0, none⟩) (Kd.R_types HO217.out BK219.out (by decide)) (fun _ hk => hk.2) (.int .i64 t213)) (fun _ hk => hk.2) (.int .i64 t214)) (fun _ hk => hk.2) (.slice Ao76 t215.length co76)) (fun _ h_ => h_.1)))); (case side2 => exact (Kd.R_reads' HO217.out).2.1); (case side3 => refine (Kd.R_reads' (e := 5) (base := w.heap.size) (ok := fun k_ => ((some k_ ≠ (.slice Ao20 t194.length co20 : Value).ownBlock ∧ some k_ ≠ (.slice Ao70 t210.length co70 : Value).ownBlock) ∧ some k_ ≠ (.slice Ao76 t215.length co76 : Value).ownBlock)) (n := t184.length) (c := co13) ?_).2.2; exact (by (with_reducible repeat (first | apply Kd.R_alloc | apply Kd.R_drewN | apply Kd.R_drew)); exact (Kd.R_mono (Kd.R_far (p := ⟨gb219, 2, none⟩) (Kd.R_far (p := ⟨gb219, 1, none⟩) (Kd.R_far (p := ⟨gb219, 0, none⟩) (Kd.R_types HO_189002.out BK219.out (by decide)) (fun _ hk => hk.2) (.int .i64 t213)) (fun _ hk => hk.2) (.int .i64 t214)) (fun _ hk => hk.2) (.slice Ao76 t215.length co76)) (fun _ h_ => h_.1)))); (case side4 => exact (Kd.R_reads' HO_189002.out).2.1); rintro e w90 ⟨rfl, hb⟩; refine ⟨_, rfl, ?_⟩; have n0_ := mk_ (Kd.R_below (by (with_reducible repeat (first | apply Kd.R_alloc | apply Kd.R_drewN | apply Kd.R_drew)); exact (Kd.R_mono (Kd.R_far (p := ⟨gb219, 2, none⟩) (Kd.R_far (p := ⟨gb219, 1, none⟩) (Kd.R_far (p := ⟨gb219, 0, none⟩) (Kd.R_types HO_189002.out BK219.out (by decide)) (fun _ hk => hk.2) (.int .i64 t213)) (fun _ hk => hk.2) (.int .i64 t214)) (fun _ hk => hk.2) (.slice Ao76 t215.length co76)) (fun _ h_ => h_.1))) hb); have n1_ := mk_ (Kd.R_below (by (with_reducible repeat (first | apply Kd.R_alloc | apply Kd.R_drewN | apply Kd.R_drew)); exact (Kd.R_mono (Kd.R_far (p := ⟨gb219, 2, none⟩) (Kd.R_far (p := ⟨gb219, 1, none⟩) (Kd.R_far (p := ⟨gb219, 0, none⟩) (Kd.R_types HO_199002.out BK219.out (by decide)) (fun _ hk => hk.2) (.int .i64 t213)) (fun _ hk => hk.2) (.int .i64 t214)) (fun _ hk => hk.2) (.slice Ao76 t215.length co76)) (fun _ h_ => h_.1))) hb); have n2_ := mk_ (Kd.R_below (by (with_reducible repeat (first | apply Kd.R_alloc | apply Kd.R_drewN | apply Kd.R_drew)); exact (Kd.R_mono (Kd.R_far (p := ⟨gb219, 2, none⟩) (Kd.R_far (p := ⟨gb219, 1, none⟩) (Kd.R_far (p := ⟨gb219, 0, none⟩) (Kd.R_types HO212.out BK219.out (by decide)) (fun _ hk => hk.2) (.int .i64 t213)) (fun _ hk => hk.2) (.int .i64 t214)) (fun _ hk => hk.2) (.slice Ao76 t215.length co76)) (fun _ h_ => h_.1))) hb); have n3_ := mk_ (Kd.R_below (by (with_reducible repeat (first | apply Kd.R_alloc | apply Kd.R_drewN | apply Kd.R_drew)); exact (Kd.R_mono (Kd.R_far (p := ⟨gb219, 2, none⟩) (Kd.R_far (p := ⟨gb219, 1, none⟩) (Kd.R_far (p := ⟨gb219, 0, none⟩) (Kd.R_types HO217.out BK219.out (by decide)) (fun _ hk => hk.2) (.int .i64 t213)) (fun _ hk => hk.2) (.int .i64 t214)) (fun _ hk => hk.2) (.slice Ao76 t215.length co76)) (fun _ h_ => h_.1))) hb); have n4_ := mk_ (blk_below (g := gb188) (o := .cells #[.int .i64 t182, .int .i64 t183, .slice Ao13 t184.length co13] 56 (0, 0)) (by (with_reducible repeat (first | refine bn_ ?_ _ | refine bw_ ?_ | refine ba_ ?_ _)); refine blk_far ?_ NB188_219.out _; (with_reducible repeat (first | refine bn_ ?_ _ | refine bw_ ?_ | refine ba_ ?_ _)); refine blk_far ?_ NB188_219.out _; (with_reducible repeat (first | refine bn_ ?_ _ | refine bw_ ?_ | refine ba_ ?_ _)); refine blk_far ?_ NB188_219.out _; (with_reducible repeat (first | refine bn_ ?_ _ | refine bw_ ?_ | refine ba_ ?_ _)); exact BK188.out) hb); have n5_ := mk_ (blk_below (g := gb198) (o := .cells #[.int .i64 t192, .int .i64 t193, .slice Ao20 t194.length co20] 56 (0, 0)) (by (with_reducible repeat (first | refine bn_ ?_ _ | refine bw_ ?_ | refine ba_ ?_ _)); refine blk_far ?_ NB198_219.out _; (with_reducible repeat (first | refine bn_ ?_ _ | refine bw_ ?_ | refine ba_ ?_ _)); refine blk_far ?_ NB198_219.out _; (with_reducible repeat (first | refine bn_ ?_ _ | refine bw_ ?_ | refine ba_ ?_ _)); refine blk_far ?_ NB198_219.out _; (with_reducible repeat (first | refine bn_ ?_ _ | refine bw_ ?_ | refine ba_ ?_ _)); exact BK198.out) hb); have n6_ := mk_ (blk_below (g := gb219) (o := .cells #[.int .i64 t213, .int .i64 t214, .slice Ao76 t215.length co76] 56 (0, 0)) (by (with_reducible repeat (first | refine bn_ ?_ _ | refine bw_ ?_ | refine ba_ ?_ _)); refine blk_put (cs := #[.int .i64 t213, .int .i64 t214, .slice none 0 0]) ?_ 2 _ rfl; (with_reducible repeat (first | refine bn_ ?_ _ | refine bw_ ?_ | refine ba_ ?_ _)); refine blk_put (cs := #[.int .i64 t213, .int .i64 0, .slice none 0 0]) ?_ 1 _ rfl; (with_reducible repeat (first | refine bn_ ?_ _ | refine bw_ ?_ | refine ba_ ?_ _)); refine blk_put (cs := #[.int .i64 0, .int .i64 0, .slice none 0 0]) ?_ 0 _ rfl; (with_reducible repeat (first | refine bn_ ?_ _ | refine bw_ ?_ | refine ba_ ?_ _)); exact BK219.out) hb); have n7_ := mk_ (below_step (by repeat (first | (with_reducible first | exact HB.out | apply na_ | apply nn_ | apply nw_ | refine bs_ ?_ GE188.out | refine bs_ ?_ GE198.out | refine bs_ ?_ GE219.out) | exact HB.out)) hb); clear HO_189002; clear HO_199002; clear HO212; clear HO217; clear BK188; clear BK198; clear BK219; clear HB; have HO_189002 := n0_; have HO_199002 := n1_; have HO212 := n2_; have HO217 := n3_; have BK188 := n4_; have BK198 := n5_; have BK219 := n6_; have HB := n7_; clear n0_ n1_ n2_ n3_ n4_ n5_ n6_ n7_; (try clear hb); (try clear hb2); (try clear hk); (try clear hi)))
      go_meet
      case rel => exact ⟨_, (true), (by first | rfl | (simp; done) | (simp [*]; done)), H', ⟨by have := HJ6.out; have := HJ35.out; first | omega | exact Nat.le_refl _⟩, ⟨by (with_reducible repeat (first | apply Kd.R_alloc | apply Kd.R_drewN | apply Kd.R_drew)); exact Kd.R_mono HO_189002.out (fun _ hk => by first | exact ⟨hk.1.1, hk.2⟩ | exact hk.1 | exact hk | exact ⟨hk.1, hk.2⟩ | exact ⟨.inr hk.1, hk.2⟩)⟩, ⟨by (with_reducible repeat (first | apply Kd.R_alloc | apply Kd.R_drewN | apply Kd.R_drew)); exact Kd.R_mono HO_199002.out (fun _ hk => by first | exact ⟨hk.1.1, hk.2⟩ | exact hk.1 | exact hk | exact ⟨hk.1, hk.2⟩ | exact ⟨.inr hk.1, hk.2⟩)⟩, ⟨by (with_reducible repeat (first | apply Kd.R_alloc | apply Kd.R_drewN | apply Kd.R_drew)); exact Kd.R_mono HO217.out (fun _ hk => by first | exact ⟨hk.1.1.2, hk.1.2⟩ | exact hk.1 | exact hk | exact ⟨hk.1, hk.2⟩ | exact ⟨.inr hk.1, hk.2⟩)⟩, ⟨by (with_reducible repeat (first | refine bn_ ?_ _ | refine bw_ ?_ | refine ba_ ?_ _)); exact BK188.out⟩, ⟨by (with_reducible repeat (first | refine bn_ ?_ _ | refine bw_ ?_ | refine ba_ ?_ _)); exact BK198.out⟩, ⟨by (with_reducible repeat (first | refine bn_ ?_ _ | refine bw_ ?_ | refine ba_ ?_ _)); exact BK219.out⟩, ⟨by repeat (first | (with_reducible first | exact HB.out | apply na_ | apply nn_ | apply nw_ | refine bs_ ?_ GE188.out | refine bs_ ?_ GE198.out | refine bs_ ?_ GE219.out) | exact HB.out)⟩⟩
     case rest =>
      clear HC63
      try clear c1
      try clear c2
      try clear c2b0
      try clear c2b1
      try clear p2
      try clear c3
      try clear c4
      try clear c5
      try clear c6
      try clear c7
      try clear c8
      try clear c18
      try clear c22
      try clear c23
      try clear c26
      try clear c27
      try clear c28
      try clear c29
      try clear c30
      try clear c31
      try clear c32
      try clear c33
      try clear c34
      try clear c40
      try clear c40b0
      try clear c42
      try clear c43
      try clear c47
      try clear c51
      try clear c54
      try clear c54b0
      try clear c55
      try clear c60
      try clear c60b0
      try clear c60b1
      try clear c64
      try clear c73
      try clear c74
      try clear c78
      try clear c79
      try clear c80
      try clear c82
      try clear c85
      try clear c86
      try clear c88
      try clear hcz12_0
      try clear hcz12_1
      try clear hcz12_2
      try clear hcz19_0
      try clear hcz19_1
      try clear hcz19_2
      try clear hcz24_0
      try clear hcz24_1
      try clear hcz24_2
      try clear hcz25_0
      try clear hcz25_1
      try clear hcz25_2
      try clear hcz28_0
      try clear hcz28_1
      try clear hcz28_2
      try clear hcz29_0
      try clear hcz29_1
      try clear hcz29_2
      try clear hcz44_0
      try clear hcz44_1
      try clear hcz44_2
      try clear hcz45_0
      try clear hcz45_1
      try clear hcz45_2
      try clear hcz48_0
      try clear hcz48_1
      try clear hcz48_2
      try clear hcz49_0
      try clear hcz49_1
      try clear hcz49_2
      try clear hcz56_0
      try clear hcz56_1
      try clear hcz56_2
      try clear hcz58_0
      try clear hcz58_1
      try clear hcz58_2
      try clear hcz65_0
      try clear hcz65_1
      try clear hcz65_2
      try clear hcz67_0
      try clear hcz67_1
      try clear hcz67_2
      try clear hcz75_0
      try clear hcz75_1
      try clear hcz75_2
      try clear hcz81_0
      try clear hcz81_1
      try clear hcz81_2
      try clear hcz83_0
      try clear hcz83_1
      try clear hcz83_2
      try clear hcz87_0
      try clear hcz87_1
      try clear hcz87_2
      try clear hcz89_0
      try clear hcz89_1
      try clear hcz89_2
      try clear hfz12_0
      try clear hfz12_1
      try clear hfz12_2
      try clear hfz19_0
      try clear hfz19_1
      try clear hfz19_2
      try clear hfz24_0
      try clear hfz24_1
      try clear hfz24_2
      try clear hfz25_0
      try clear hfz25_1
      try clear hfz25_2
      try clear hfz28_0
      try clear hfz28_1
      try clear hfz28_2
      try clear hfz29_0
      try clear hfz29_1
      try clear hfz29_2
      try clear hfz44_0
      try clear hfz44_1
      try clear hfz44_2
      try clear hfz45_0
      try clear hfz45_1
      try clear hfz45_2
      try clear hfz48_0
      try clear hfz48_1
      try clear hfz48_2
      try clear hfz49_0
      try clear hfz49_1
      try clear hfz49_2
      try clear hfz56_0
      try clear hfz56_1
      try clear hfz56_2
      try clear hfz58_0
      try clear hfz58_1
      try clear hfz58_2
      try clear hfz65_0
      try clear hfz65_1
      try clear hfz65_2
      try clear hfz67_0
      try clear hfz67_1
      try clear hfz67_2
      try clear hfz75_0
      try clear hfz75_1
      try clear hfz75_2
      try clear hfz81_0
      try clear hfz81_1
      try clear hfz81_2
      try clear hfz83_0
      try clear hfz83_1
      try clear hfz83_2
      try clear hfz87_0
      try clear hfz87_1
      try clear hfz87_2
      try clear hfz89_0
      try clear hfz89_1
      try clear hfz89_2
      try clear p2
      obtain ⟨kq, x84_62, rfl, HA, HJ62, HO_189002, HO_199002, HO_220002, BK188, BK198, BK219, HB⟩ := hcut
      have hl199002_62 := (Kd.R_reads' HO_199002.out).1
      rw [hl199002_62] at HO_199002
      (try simp only [hl199002_62])
      (try simp only [hl199002_62] at BK188)
      (try simp only [hl199002_62] at BK198)
      (try simp only [hl199002_62] at BK219)
      (try simp only [hl199002_62] at HO_189002)
      (try simp only [hl199002_62] at HO_220002)
      cases kq with
      | zero => exact absurd HA.out (by simp [laws_FnExactNoteFrom.j2])
      | succ kj62 =>
       have H := HA.out
       clear HA
       simp only [laws_FnExactNoteFrom.j2] at H
       by_cases c91 : x84_62 = true
       ·subst c91
        have H1 : (some false) = some r := by rw [if_pos rfl] at H; exact H
        clear H
        have H := H1
        clear H1
        obtain rfl := Option.some.inj H
        go_wp2
        go_ret
        exact ⟨by first | rfl | (simp [errW_none, errW_some] <;> rfl) | (simp [*, errW_none, errW_some] <;> rfl), by repeat (first | (with_reducible first | exact HB.out | apply na_ | apply nn_ | apply nw_ | refine bs_ ?_ GE188.out | refine bs_ ?_ GE198.out | refine bs_ ?_ GE219.out) | exact HB.out)⟩
       replace c91 := Bool.eq_false_iff.mpr c91
       subst c91
       have H1 : ((laws_heldNote.f kj62 t192 t193 t208 1).bind fun t221 => (if t221 < 0 then (some false) else (if t221 = t207 then (some true) else (some false)))) = some r := by rw [if_neg (show ¬ (false = true) by decide)] at H; exact H
       clear H
       have H := H1
       clear H1
       replace H := Option.bind_eq_some_iff.mp H
       obtain ⟨t221, A920, H⟩ := H
       replace H : (if t221 < 0 then (some false) else (if t221 = t207 then (some true) else (some false))) = some r := H
       have A92 := mk_ A920
       clear A920
       by_cases c93 : t221 < 0
       ·rw [if_pos c93] at H
        have c93b0 : decide (t221 < 0) = true := decide_eq_true c93
        clear c93
        obtain rfl := Option.some.inj H
        have hnb94 := NB198_188.out
        have hnc94 := NB188_198.out
        have hnb95 := NB198_219.out
        have hnc95 := NB219_198.out
        have hcz96_0 : wc.cell? ⟨gb198, 0, none⟩ = some (.int .i64 t192) := (blk_cell BK198.out 0).trans rfl
        have hcz96_1 : wc.cell? ⟨gb198, 1, none⟩ = some (.int .i64 t193) := (blk_cell BK198.out 1).trans rfl
        have hcz96_2 : wc.cell? ⟨gb198, 2, none⟩ = some (.slice Ao20 t208.length co20) := (blk_cell BK198.out 2).trans rfl
        have hfz96_0 := blk_frozen BK198.out 0
        have hfz96_1 := blk_frozen BK198.out 1
        have hfz96_2 := blk_frozen BK198.out 2
        go_wp2_with (first | ((with_reducible refine gate_callee (f := 33) rfl ?_); refine goesL_ (some 87) rfl rfl Try.func33 (by kernel_rfl) rfl #[.agg #[.int .i64 t192, .int .i64 t193, .slice Ao20 t208.length co20], .int .i64 1] rfl (by (try simp only [lm_, lo_, ln_]); first | done | rfl | (simp only [List.length_drop, List.length_take]; rfl)) ?_; (with_reducible refine (laws_heldNote.calls kj62 t192 t193 _ _ t208 1 t221 _ ?side1 ?side2 A92.out).mono ?_); (case side1 => repeat (first | exact (Kd.R_reads' HO_199002.out).2.2 | (with_reducible refine Kd.C_alloc ?_ _) | (with_reducible refine Kd.C_drewN ?_ _) | (with_reducible refine Kd.C_drew ?_))); (case side2 => exact (Kd.R_reads' HO_199002.out).2.1); rintro e w97 ⟨rfl, hb⟩; refine ⟨_, rfl, ?_⟩; have n0_ := mk_ (Kd.R_below (by (with_reducible repeat (first | apply Kd.R_alloc | apply Kd.R_drewN | apply Kd.R_drew)); exact HO_189002.out) hb); have n1_ := mk_ (Kd.R_below (by (with_reducible repeat (first | apply Kd.R_alloc | apply Kd.R_drewN | apply Kd.R_drew)); exact HO_199002.out) hb); have n2_ := mk_ (Kd.R_below (by (with_reducible repeat (first | apply Kd.R_alloc | apply Kd.R_drewN | apply Kd.R_drew)); exact HO_220002.out) hb); have n3_ := mk_ (blk_below (g := gb188) (o := .cells #[.int .i64 t182, .int .i64 t183, .slice Ao13 t184.length co13] 56 (0, 0)) (by (with_reducible repeat (first | refine bn_ ?_ _ | refine bw_ ?_ | refine ba_ ?_ _)); exact BK188.out) hb); have n4_ := mk_ (blk_below (g := gb198) (o := .cells #[.int .i64 t192, .int .i64 t193, .slice Ao20 t208.length co20] 56 (0, 0)) (by (with_reducible repeat (first | refine bn_ ?_ _ | refine bw_ ?_ | refine ba_ ?_ _)); exact BK198.out) hb); have n5_ := mk_ (blk_below (g := gb219) (o := .cells #[.int .i64 t213, .int .i64 t214, .slice Ao76 t215.length co76] 56 (0, 0)) (by (with_reducible repeat (first | refine bn_ ?_ _ | refine bw_ ?_ | refine ba_ ?_ _)); exact BK219.out) hb); have n6_ := mk_ (below_step (by repeat (first | (with_reducible first | exact HB.out | apply na_ | apply nn_ | apply nw_ | refine bs_ ?_ GE188.out | refine bs_ ?_ GE198.out | refine bs_ ?_ GE219.out) | exact HB.out)) hb); clear HO_189002; clear HO_199002; clear HO_220002; clear BK188; clear BK198; clear BK219; clear HB; have HO_189002 := n0_; have HO_199002 := n1_; have HO_220002 := n2_; have BK188 := n3_; have BK198 := n4_; have BK219 := n5_; have HB := n6_; clear n0_ n1_ n2_ n3_ n4_ n5_ n6_; (try clear hb); (try clear hb2); (try clear hk); (try clear hi)))
        go_ret
        exact ⟨by first | rfl | (simp [errW_none, errW_some] <;> rfl) | (simp [*, errW_none, errW_some] <;> rfl), by repeat (first | (with_reducible first | exact HB.out | apply na_ | apply nn_ | apply nw_ | refine bs_ ?_ GE188.out | refine bs_ ?_ GE198.out | refine bs_ ?_ GE219.out) | exact HB.out)⟩
       rw [if_neg c93] at H
       have c93b0 : decide (t221 < 0) = false := decide_eq_false c93
       clear c93
       by_cases c98 : t221 = t207
       rotate_left
       ·rw [if_neg c98] at H
        have c98b0 : (t221 == t207) = false := beq_eq_false_iff_ne.mpr c98
        have c98b1 : (t221 != t207) = true := bne_iff_ne.mpr c98
        obtain rfl := Option.some.inj H
        have hnb103 := NB198_188.out
        have hnc103 := NB188_198.out
        have hnb104 := NB198_219.out
        have hnc104 := NB219_198.out
        have hcz105_0 : wc.cell? ⟨gb198, 0, none⟩ = some (.int .i64 t192) := (blk_cell BK198.out 0).trans rfl
        have hcz105_1 : wc.cell? ⟨gb198, 1, none⟩ = some (.int .i64 t193) := (blk_cell BK198.out 1).trans rfl
        have hcz105_2 : wc.cell? ⟨gb198, 2, none⟩ = some (.slice Ao20 t208.length co20) := (blk_cell BK198.out 2).trans rfl
        have hfz105_0 := blk_frozen BK198.out 0
        have hfz105_1 := blk_frozen BK198.out 1
        have hfz105_2 := blk_frozen BK198.out 2
        go_wp2_with (first | ((with_reducible refine gate_callee (f := 33) rfl ?_); refine goesL_ (some 87) rfl rfl Try.func33 (by kernel_rfl) rfl #[.agg #[.int .i64 t192, .int .i64 t193, .slice Ao20 t208.length co20], .int .i64 1] rfl (by (try simp only [lm_, lo_, ln_]); first | done | rfl | (simp only [List.length_drop, List.length_take]; rfl)) ?_; (with_reducible refine (laws_heldNote.calls kj62 t192 t193 _ _ t208 1 t221 _ ?side1 ?side2 A92.out).mono ?_); (case side1 => repeat (first | exact (Kd.R_reads' HO_199002.out).2.2 | (with_reducible refine Kd.C_alloc ?_ _) | (with_reducible refine Kd.C_drewN ?_ _) | (with_reducible refine Kd.C_drew ?_))); (case side2 => exact (Kd.R_reads' HO_199002.out).2.1); rintro e w106 ⟨rfl, hb⟩; refine ⟨_, rfl, ?_⟩; have n0_ := mk_ (Kd.R_below (by (with_reducible repeat (first | apply Kd.R_alloc | apply Kd.R_drewN | apply Kd.R_drew)); exact HO_189002.out) hb); have n1_ := mk_ (Kd.R_below (by (with_reducible repeat (first | apply Kd.R_alloc | apply Kd.R_drewN | apply Kd.R_drew)); exact HO_199002.out) hb); have n2_ := mk_ (Kd.R_below (by (with_reducible repeat (first | apply Kd.R_alloc | apply Kd.R_drewN | apply Kd.R_drew)); exact HO_220002.out) hb); have n3_ := mk_ (blk_below (g := gb188) (o := .cells #[.int .i64 t182, .int .i64 t183, .slice Ao13 t184.length co13] 56 (0, 0)) (by (with_reducible repeat (first | refine bn_ ?_ _ | refine bw_ ?_ | refine ba_ ?_ _)); exact BK188.out) hb); have n4_ := mk_ (blk_below (g := gb198) (o := .cells #[.int .i64 t192, .int .i64 t193, .slice Ao20 t208.length co20] 56 (0, 0)) (by (with_reducible repeat (first | refine bn_ ?_ _ | refine bw_ ?_ | refine ba_ ?_ _)); exact BK198.out) hb); have n5_ := mk_ (blk_below (g := gb219) (o := .cells #[.int .i64 t213, .int .i64 t214, .slice Ao76 t215.length co76] 56 (0, 0)) (by (with_reducible repeat (first | refine bn_ ?_ _ | refine bw_ ?_ | refine ba_ ?_ _)); exact BK219.out) hb); have n6_ := mk_ (below_step (by repeat (first | (with_reducible first | exact HB.out | apply na_ | apply nn_ | apply nw_ | refine bs_ ?_ GE188.out | refine bs_ ?_ GE198.out | refine bs_ ?_ GE219.out) | exact HB.out)) hb); clear HO_189002; clear HO_199002; clear HO_220002; clear BK188; clear BK198; clear BK219; clear HB; have HO_189002 := n0_; have HO_199002 := n1_; have HO_220002 := n2_; have BK188 := n3_; have BK198 := n4_; have BK219 := n5_; have HB := n6_; clear n0_ n1_ n2_ n3_ n4_ n5_ n6_; (try clear hb); (try clear hb2); (try clear hk); (try clear hi)))
        go_ret
        exact ⟨by first | rfl | (simp [errW_none, errW_some] <;> rfl) | (simp [*, errW_none, errW_some] <;> rfl), by repeat (first | (with_reducible first | exact HB.out | apply na_ | apply nn_ | apply nw_ | refine bs_ ?_ GE188.out | refine bs_ ?_ GE198.out | refine bs_ ?_ GE219.out) | exact HB.out)⟩
       rw [if_pos c98] at H
       have c98b0 : (t221 == t207) = true := beq_iff_eq.mpr c98
       have c98b1 : (t221 != t207) = false := bne_eq_false_iff_eq.mpr c98
       clear c98
       obtain rfl := Option.some.inj H
       have hnb99 := NB198_188.out
       have hnc99 := NB188_198.out
       have hnb100 := NB198_219.out
       have hnc100 := NB219_198.out
       have hcz101_0 : wc.cell? ⟨gb198, 0, none⟩ = some (.int .i64 t192) := (blk_cell BK198.out 0).trans rfl
       have hcz101_1 : wc.cell? ⟨gb198, 1, none⟩ = some (.int .i64 t193) := (blk_cell BK198.out 1).trans rfl
       have hcz101_2 : wc.cell? ⟨gb198, 2, none⟩ = some (.slice Ao20 t208.length co20) := (blk_cell BK198.out 2).trans rfl
       have hfz101_0 := blk_frozen BK198.out 0
       have hfz101_1 := blk_frozen BK198.out 1
       have hfz101_2 := blk_frozen BK198.out 2
       go_wp2_with (first | ((with_reducible refine gate_callee (f := 33) rfl ?_); refine goesL_ (some 87) rfl rfl Try.func33 (by kernel_rfl) rfl #[.agg #[.int .i64 t192, .int .i64 t193, .slice Ao20 t208.length co20], .int .i64 1] rfl (by (try simp only [lm_, lo_, ln_]); first | done | rfl | (simp only [List.length_drop, List.length_take]; rfl)) ?_; (with_reducible refine (laws_heldNote.calls kj62 t192 t193 _ _ t208 1 t221 _ ?side1 ?side2 A92.out).mono ?_); (case side1 => repeat (first | exact (Kd.R_reads' HO_199002.out).2.2 | (with_reducible refine Kd.C_alloc ?_ _) | (with_reducible refine Kd.C_drewN ?_ _) | (with_reducible refine Kd.C_drew ?_))); (case side2 => exact (Kd.R_reads' HO_199002.out).2.1); rintro e w102 ⟨rfl, hb⟩; refine ⟨_, rfl, ?_⟩; have n0_ := mk_ (Kd.R_below (by (with_reducible repeat (first | apply Kd.R_alloc | apply Kd.R_drewN | apply Kd.R_drew)); exact HO_189002.out) hb); have n1_ := mk_ (Kd.R_below (by (with_reducible repeat (first | apply Kd.R_alloc | apply Kd.R_drewN | apply Kd.R_drew)); exact HO_199002.out) hb); have n2_ := mk_ (Kd.R_below (by (with_reducible repeat (first | apply Kd.R_alloc | apply Kd.R_drewN | apply Kd.R_drew)); exact HO_220002.out) hb); have n3_ := mk_ (blk_below (g := gb188) (o := .cells #[.int .i64 t182, .int .i64 t183, .slice Ao13 t184.length co13] 56 (0, 0)) (by (with_reducible repeat (first | refine bn_ ?_ _ | refine bw_ ?_ | refine ba_ ?_ _)); exact BK188.out) hb); have n4_ := mk_ (blk_below (g := gb198) (o := .cells #[.int .i64 t192, .int .i64 t193, .slice Ao20 t208.length co20] 56 (0, 0)) (by (with_reducible repeat (first | refine bn_ ?_ _ | refine bw_ ?_ | refine ba_ ?_ _)); exact BK198.out) hb); have n5_ := mk_ (blk_below (g := gb219) (o := .cells #[.int .i64 t213, .int .i64 t214, .slice Ao76 t215.length co76] 56 (0, 0)) (by (with_reducible repeat (first | refine bn_ ?_ _ | refine bw_ ?_ | refine ba_ ?_ _)); exact BK219.out) hb); have n6_ := mk_ (below_step (by repeat (first | (with_reducible first | exact HB.out | apply na_ | apply nn_ | apply nw_ | refine bs_ ?_ GE188.out | refine bs_ ?_ GE198.out | refine bs_ ?_ GE219.out) | exact HB.out)) hb); clear HO_189002; clear HO_199002; clear HO_220002; clear BK188; clear BK198; clear BK219; clear HB; have HO_189002 := n0_; have HO_199002 := n1_; have HO_220002 := n2_; have BK188 := n3_; have BK198 := n4_; have BK219 := n5_; have HB := n6_; clear n0_ n1_ n2_ n3_ n4_ n5_ n6_; (try clear hb); (try clear hb2); (try clear hk); (try clear hi)))
       go_ret
       exact ⟨by first | rfl | (simp [errW_none, errW_some] <;> rfl) | (simp [*, errW_none, errW_some] <;> rfl), by repeat (first | (with_reducible first | exact HB.out | apply na_ | apply nn_ | apply nw_ | refine bs_ ?_ GE188.out | refine bs_ ?_ GE198.out | refine bs_ ?_ GE219.out) | exact HB.out)⟩

/-- THE ONE PURE STATEMENT of laws_FnExactNoteFrom: yours. -/
def laws_FnExactNoteFrom.Pure : Prop := ∀ (l0 : List Int), l0.length ≤ maxLen → l0.length * 1 ≤ 140737488351232 → (∀ x ∈ l0, (Lit.int .u8 x).wf = true) → ∃ k, laws_FnExactNoteFrom.f k l0 = some true
theorem laws_FnExactNoteFrom.walk (P : laws_FnExactNoteFrom.Pure) (a0 : Option Addr) (len0 cap0 : Nat) (z0 : List Int) (w : World) (w0 : (a0 = none ∧ len0 = 0 ∧ cap0 = 0 ∧ z0 = []) ∨ ∃ x, a0 = some x ∧ len0 ≤ cap0 ∧ cap0 ≤ maxLen ∧ z0.length = cap0 ∧ (∀ i, i < z0.length → w.cell? (x.add i) = some (.int .u8 (z0.getD i 0))) ∧ ∀ n ∈ z0, (Lit.int .u8 n).wf = true) (y0 : len0 * 1 ≤ 140737488351232) :
  Calls Try.prog 7 #[.slice a0 len0 cap0] w fun e w' => e = .returned (.bool true) ∧ Below w.heap.size w w' := by
 obtain ⟨l0, rfl, hr0, hm0, hw0, hc0⟩ := ReadsInt.ofRowC w0
 obtain ⟨k, h⟩ := P l0 hm0 y0 hw0
 refine (laws_FnExactNoteFrom.calls k _ _ l0 true w (Kd.C_of_reads (d := (0 : Int)) (h1 := fun _ => rfl) hr0) hc0 h).mono ?_
 rintro e w' ⟨rfl, hd⟩
 exact ⟨rfl, hd⟩

end Go.Proofs.Ytgfaamcihlojdad.MFnExactNoteFrom
