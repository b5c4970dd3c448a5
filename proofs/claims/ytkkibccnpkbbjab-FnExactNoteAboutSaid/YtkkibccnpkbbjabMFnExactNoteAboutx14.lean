/- Functions that the law FnExactNoteAbout reaches, each with the proof that the machine's call comes to just its answer; no conditions but those that each theorem states. Printed by a program of this session over the kit's print. -/
import Derived.Test.YtkkibccnpkbbjabMFnExactNoteAboutx0
import Derived.Test.YtkkibccnpkbbjabMFnExactNoteAboutx6
import Derived.Test.YtkkibccnpkbbjabMFnExactNoteAboutx12
import Derived.Test.YtkkibccnpkbbjabMFnExactNoteAboutx13
namespace Go.Proofs.Ytkkibccnpkbbjab.MFnExactNoteAbout
open Go.RowKit Go.Proofs.YtkkibccnpkbbjabV.PrintWords Go.Proofs.YtkkibccnpkbbjabV.PrintLast Go.Proofs.YtkkibccnpkbbjabV.PrintMore
attribute [local go_sem] max2_int min2_int max_two min_two max_three min_three max_four min_four   -- for this text's walks alone
set_option linter.unusedVariables false
set_option linter.unusedSimpArgs false

/-! ### laws_FnExactNoteAbout: function 6 -/
mutual
def laws_FnExactNoteAbout.j0 : Nat → Int → Int → Int → Bool → Bool → Bool → Int → Int → Int → Int → Int → Int → Bool → Bool → List Int → Int → Int → Int → Int → Int → Int → Bool → Bool → List Int → Int → Int → Int → Int → Int → Int → Bool → Bool → List Int → Int → Int → Int → Int → Int → Int → Bool → Bool → List Int → Option (Bool)
 | 0, _, _, _, _, _, _, _, _, _, _, _, _, _, _, _, _, _, _, _, _, _, _, _, _, _, _, _, _, _, _, _, _, _, _, _, _, _, _, _, _, _, _ => none
 | k + 1, x1, x2, x3, x11, x14, x52, x364000, x364001, x364002, x364003, x364004, x364005, x364006, x364007, x364008, x389000, x389001, x389002, x389003, x389004, x389005, x389006, x389007, x389008, x401000, x401001, x401002, x401003, x401004, x401005, x401006, x401007, x401008, x414000, x414001, x414002, x414003, x414004, x414005, x414006, x414007, x414008 => if x52 = true then (some false) else ((laws_toPacket.f k x364000 x364001 x364002 x364003 x364004 x364005 x364006 x364007 x364008).bind fun bt415 => ((laws_eqPacket.f k x401000 x401001 x401002 x401003 x401004 x401005 x401006 x401007 x401008 bt415.1 bt415.2.1 bt415.2.2.1 bt415.2.2.2.1 bt415.2.2.2.2.1 bt415.2.2.2.2.2.1 bt415.2.2.2.2.2.2.1 bt415.2.2.2.2.2.2.2.1 bt415.2.2.2.2.2.2.2.2).bind fun t426 => (if t426 = true then ((laws_markPacket.f k x401000 x401001 x401002 x401003 x401004 x401005 x401006 x401007 x401008 1).bind fun bt427 => (if bt427.1 < 0 then (laws_FnExactNoteAbout.j1 k x1 x2 x3 x11 true x364000 x364001 x364002 x364003 x364004 x364005 x364006 x364007 x364008 x389000 x389001 x389002 x389003 x389004 x389005 x389006 x389007 x389008 x414000 x414001 x414002 x414003 x414004 x414005 x414006 x414007 x414008) else ((laws_eqPacket.f k x414000 x414001 x414002 x414003 x414004 x414005 x414006 x414007 x414008 x389000 x389001 x389002 x389003 x389004 x389005 x389006 x389007 x389008).bind fun t429 => (if t429 = true then (laws_FnExactNoteAbout.j1 k x1 x2 x3 x11 (x14 != x11) x364000 x364001 x364002 x364003 x364004 x364005 x364006 x364007 x364008 x389000 x389001 x389002 x389003 x389004 x389005 x389006 x389007 x389008 x414000 x414001 x414002 x414003 x414004 x414005 x414006 x414007 x414008) else (laws_FnExactNoteAbout.j1 k x1 x2 x3 x11 true x364000 x364001 x364002 x364003 x364004 x364005 x364006 x364007 x364008 x389000 x389001 x389002 x389003 x389004 x389005 x389006 x389007 x389008 x414000 x414001 x414002 x414003 x414004 x414005 x414006 x414007 x414008))))) else (some false))))
def laws_FnExactNoteAbout.j1 : Nat → Int → Int → Int → Bool → Bool → Int → Int → Int → Int → Int → Int → Bool → Bool → List Int → Int → Int → Int → Int → Int → Int → Bool → Bool → List Int → Int → Int → Int → Int → Int → Int → Bool → Bool → List Int → Option (Bool)
 | 0, _, _, _, _, _, _, _, _, _, _, _, _, _, _, _, _, _, _, _, _, _, _, _, _, _, _, _, _, _, _, _, _ => none
 | k + 1, x1, x2, x3, x11, x73, x364000, x364001, x364002, x364003, x364004, x364005, x364006, x364007, x364008, x389000, x389001, x389002, x389003, x389004, x389005, x389006, x389007, x389008, x414000, x414001, x414002, x414003, x414004, x414005, x414006, x414007, x414008 => if x73 = true then (some false) else ((laws_markPacket.f k x414000 x414001 x414002 x414003 x414004 x414005 x414006 x414007 x414008 1).bind fun bt430 => ((laws_heldPacket.f k x414000 x414001 x414002 x414003 x414004 x414005 x414006 x414007 bt430.2 1).bind fun t432 => (if t432 < 0 then (some false) else (if t432 = bt430.1 then ((laws_toPacket.f k x364000 x364001 x364002 x364003 x364004 x364005 x364006 x364007 x364008).bind fun bt433 => ((impl_NoteAbout.f k bt433.1 bt433.2.1 bt433.2.2.1 bt433.2.2.2.1 bt433.2.2.2.2.1 bt433.2.2.2.2.2.1 bt433.2.2.2.2.2.2.1 bt433.2.2.2.2.2.2.2.1 bt433.2.2.2.2.2.2.2.2 x1 x2 x3).bind fun bt444 => ((laws_eqPacket.f k bt444.1 bt444.2.1 bt444.2.2.1 bt444.2.2.2.1 bt444.2.2.2.2.1 bt444.2.2.2.2.2.1 bt444.2.2.2.2.2.2.1 bt444.2.2.2.2.2.2.2.1 bt444.2.2.2.2.2.2.2.2.1 x389000 x389001 x389002 x389003 x389004 x389005 x389006 x389007 x389008).bind fun t457 => (if t457 = true then (laws_FnExactNoteAbout.j2 k bt430.1 (bt444.2.2.2.2.2.2.2.2.2 != x11) x414000 x414001 x414002 x414003 x414004 x414005 x414006 x414007 bt430.2) else (laws_FnExactNoteAbout.j2 k bt430.1 true x414000 x414001 x414002 x414003 x414004 x414005 x414006 x414007 bt430.2))))) else (some false)))))
def laws_FnExactNoteAbout.j2 : Nat → Int → Bool → Int → Int → Int → Int → Int → Int → Bool → Bool → List Int → Option (Bool)
 | 0, _, _, _, _, _, _, _, _, _, _, _ => none
 | k + 1, x16, x102, x414000, x414001, x414002, x414003, x414004, x414005, x414006, x414007, x414008 => if x102 = true then (some false) else ((laws_heldPacket.f k x414000 x414001 x414002 x414003 x414004 x414005 x414006 x414007 x414008 1).bind fun t458 => (if t458 < 0 then (some false) else (if t458 = x16 then (some true) else (some false))))
end
def laws_FnExactNoteAbout.f (k : Nat) (a0_0 : Int) (a0_1 : Int) (a0_2 : Int) (a0_3 : Int) (a0_4 : Int) (a0_5 : Int) (a0_6 : Bool) (a0_7 : Bool) (l0_8 : List Int) (a1 : Int) (a2 : Int) (a3 : Int) : Option (Bool) := (laws_szPacket.f a0_0 a0_1 a0_2 a0_3 a0_4 a0_5 a0_6 a0_7 l0_8 1048576).bind fun t364 => (if t364 < 0 then (some true) else ((laws_toPacket.f k a0_0 a0_1 a0_2 a0_3 a0_4 a0_5 a0_6 a0_7 l0_8).bind fun bt365 => ((spec_NoteAbout.f k bt365.1 bt365.2.1 bt365.2.2.1 bt365.2.2.2.1 bt365.2.2.2.2.1 bt365.2.2.2.2.2.1 bt365.2.2.2.2.2.2.1 bt365.2.2.2.2.2.2.2.1 bt365.2.2.2.2.2.2.2.2 a1 a2 a3).bind fun bt376 => ((laws_toPacket.f k a0_0 a0_1 a0_2 a0_3 a0_4 a0_5 a0_6 a0_7 l0_8).bind fun bt389 => ((impl_NoteAbout.f k bt389.1 bt389.2.1 bt389.2.2.1 bt389.2.2.2.1 bt389.2.2.2.2.1 bt389.2.2.2.2.2.1 bt389.2.2.2.2.2.2.1 bt389.2.2.2.2.2.2.2.1 bt389.2.2.2.2.2.2.2.2 a1 a2 a3).bind fun bt401 => ((laws_eqPacket.f k bt401.1 bt401.2.1 bt401.2.2.1 bt401.2.2.2.1 bt401.2.2.2.2.1 bt401.2.2.2.2.2.1 bt401.2.2.2.2.2.2.1 bt401.2.2.2.2.2.2.2.1 bt401.2.2.2.2.2.2.2.2.1 bt376.1 bt376.2.1 bt376.2.2.1 bt376.2.2.2.1 bt376.2.2.2.2.1 bt376.2.2.2.2.2.1 bt376.2.2.2.2.2.2.1 bt376.2.2.2.2.2.2.2.1 bt376.2.2.2.2.2.2.2.2.1).bind fun t414 => (if t414 = true then (laws_FnExactNoteAbout.j0 k a1 a2 a3 bt376.2.2.2.2.2.2.2.2.2 bt401.2.2.2.2.2.2.2.2.2 (bt401.2.2.2.2.2.2.2.2.2 != bt376.2.2.2.2.2.2.2.2.2) a0_0 a0_1 a0_2 a0_3 a0_4 a0_5 a0_6 a0_7 l0_8 bt376.1 bt376.2.1 bt376.2.2.1 bt376.2.2.2.1 bt376.2.2.2.2.1 bt376.2.2.2.2.2.1 bt376.2.2.2.2.2.2.1 bt376.2.2.2.2.2.2.2.1 bt376.2.2.2.2.2.2.2.2.1 bt389.1 bt389.2.1 bt389.2.2.1 bt389.2.2.2.1 bt389.2.2.2.2.1 bt389.2.2.2.2.2.1 bt389.2.2.2.2.2.2.1 bt389.2.2.2.2.2.2.2.1 bt389.2.2.2.2.2.2.2.2 bt401.1 bt401.2.1 bt401.2.2.1 bt401.2.2.2.1 bt401.2.2.2.2.1 bt401.2.2.2.2.2.1 bt401.2.2.2.2.2.2.1 bt401.2.2.2.2.2.2.2.1 bt401.2.2.2.2.2.2.2.2.1) else (laws_FnExactNoteAbout.j0 k a1 a2 a3 bt376.2.2.2.2.2.2.2.2.2 bt401.2.2.2.2.2.2.2.2.2 true a0_0 a0_1 a0_2 a0_3 a0_4 a0_5 a0_6 a0_7 l0_8 bt376.1 bt376.2.1 bt376.2.2.1 bt376.2.2.2.1 bt376.2.2.2.2.1 bt376.2.2.2.2.2.1 bt376.2.2.2.2.2.2.1 bt376.2.2.2.2.2.2.2.1 bt376.2.2.2.2.2.2.2.2.1 bt389.1 bt389.2.1 bt389.2.2.1 bt389.2.2.2.1 bt389.2.2.2.2.1 bt389.2.2.2.2.2.1 bt389.2.2.2.2.2.2.1 bt389.2.2.2.2.2.2.2.1 bt389.2.2.2.2.2.2.2.2 bt401.1 bt401.2.1 bt401.2.2.1 bt401.2.2.2.1 bt401.2.2.2.2.1 bt401.2.2.2.2.2.1 bt401.2.2.2.2.2.2.1 bt401.2.2.2.2.2.2.2.1 bt401.2.2.2.2.2.2.2.2.1))))))))
theorem laws_FnExactNoteAbout.mono_l : ∀ k, (∀ y0 y1 y2 y3 y4 y5 y6 y7 y8 y9 y10 y11 y12 y13 y14 y15 y16 y17 y18 y19 y20 y21 y22 y23 y24 y25 y26 y27 y28 y29 y30 y31 y32 y33 y34 y35 y36 y37 y38 y39 y40 y41, LeO (laws_FnExactNoteAbout.j0 k y0 y1 y2 y3 y4 y5 y6 y7 y8 y9 y10 y11 y12 y13 y14 y15 y16 y17 y18 y19 y20 y21 y22 y23 y24 y25 y26 y27 y28 y29 y30 y31 y32 y33 y34 y35 y36 y37 y38 y39 y40 y41) (laws_FnExactNoteAbout.j0 (k + 1) y0 y1 y2 y3 y4 y5 y6 y7 y8 y9 y10 y11 y12 y13 y14 y15 y16 y17 y18 y19 y20 y21 y22 y23 y24 y25 y26 y27 y28 y29 y30 y31 y32 y33 y34 y35 y36 y37 y38 y39 y40 y41)) ∧ (∀ y0 y1 y2 y3 y4 y5 y6 y7 y8 y9 y10 y11 y12 y13 y14 y15 y16 y17 y18 y19 y20 y21 y22 y23 y24 y25 y26 y27 y28 y29 y30 y31, LeO (laws_FnExactNoteAbout.j1 k y0 y1 y2 y3 y4 y5 y6 y7 y8 y9 y10 y11 y12 y13 y14 y15 y16 y17 y18 y19 y20 y21 y22 y23 y24 y25 y26 y27 y28 y29 y30 y31) (laws_FnExactNoteAbout.j1 (k + 1) y0 y1 y2 y3 y4 y5 y6 y7 y8 y9 y10 y11 y12 y13 y14 y15 y16 y17 y18 y19 y20 y21 y22 y23 y24 y25 y26 y27 y28 y29 y30 y31)) ∧ (∀ y0 y1 y2 y3 y4 y5 y6 y7 y8 y9 y10, LeO (laws_FnExactNoteAbout.j2 k y0 y1 y2 y3 y4 y5 y6 y7 y8 y9 y10) (laws_FnExactNoteAbout.j2 (k + 1) y0 y1 y2 y3 y4 y5 y6 y7 y8 y9 y10))
 | 0 => ⟨fun _ _ _ _ _ _ _ _ _ _ _ _ _ _ _ _ _ _ _ _ _ _ _ _ _ _ _ _ _ _ _ _ _ _ _ _ _ _ _ _ _ _ r h => by simp [laws_FnExactNoteAbout.j0] at h, fun _ _ _ _ _ _ _ _ _ _ _ _ _ _ _ _ _ _ _ _ _ _ _ _ _ _ _ _ _ _ _ _ r h => by simp [laws_FnExactNoteAbout.j1] at h, fun _ _ _ _ _ _ _ _ _ _ _ r h => by simp [laws_FnExactNoteAbout.j2] at h⟩
 | k + 1 => by
  obtain ⟨ih0, ih1, ih2⟩ := laws_FnExactNoteAbout.mono_l k
  refine ⟨?_, ?_, ?_⟩
  ·intro y0 y1 y2 y3 y4 y5 y6 y7 y8 y9 y10 y11 y12 y13 y14 y15 y16 y17 y18 y19 y20 y21 y22 y23 y24 y25 y26 y27 y28 y29 y30 y31 y32 y33 y34 y35 y36 y37 y38 y39 y40 y41
   unfold laws_FnExactNoteAbout.j0
   repeat' first
   | (with_reducible exact ih0 _ _ _ _ _ _ _ _ _ _ _ _ _ _ _ _ _ _ _ _ _ _ _ _ _ _ _ _ _ _ _ _ _ _ _ _ _ _ _ _ _ _)
   | (with_reducible exact ih1 _ _ _ _ _ _ _ _ _ _ _ _ _ _ _ _ _ _ _ _ _ _ _ _ _ _ _ _ _ _ _ _)
   | (with_reducible exact ih2 _ _ _ _ _ _ _ _ _ _ _)
   | (with_reducible exact impl_NoteAbout.mono _ _ _ _ _ _ _ _ _ _ _ _ _)
   | (with_reducible exact laws_eqPacket.mono _ _ _ _ _ _ _ _ _ _ _ _ _ _ _ _ _ _ _)
   | (with_reducible exact laws_heldPacket.mono _ _ _ _ _ _ _ _ _ _ _)
   | (with_reducible exact laws_markPacket.mono _ _ _ _ _ _ _ _ _ _ _)
   | (with_reducible exact laws_toPacket.mono _ _ _ _ _ _ _ _ _ _)
   | (with_reducible exact spec_NoteAbout.mono _ _ _ _ _ _ _ _ _ _ _ _ _)
   | (with_reducible exact LeO.refl _)
   | (with_reducible exact LeO.none _)
   | (with_reducible refine LeO.ite ?_ ?_)
   | (with_reducible refine LeO.bind ?_ (fun _ => ?_))
   | exact ih0 _ _ _ _ _ _ _ _ _ _ _ _ _ _ _ _ _ _ _ _ _ _ _ _ _ _ _ _ _ _ _ _ _ _ _ _ _ _ _ _ _ _
   | exact ih1 _ _ _ _ _ _ _ _ _ _ _ _ _ _ _ _ _ _ _ _ _ _ _ _ _ _ _ _ _ _ _ _
   | exact ih2 _ _ _ _ _ _ _ _ _ _ _
   | exact impl_NoteAbout.mono _ _ _ _ _ _ _ _ _ _ _ _ _
   | exact laws_eqPacket.mono _ _ _ _ _ _ _ _ _ _ _ _ _ _ _ _ _ _ _
   | exact laws_heldPacket.mono _ _ _ _ _ _ _ _ _ _ _
   | exact laws_markPacket.mono _ _ _ _ _ _ _ _ _ _ _
   | exact laws_toPacket.mono _ _ _ _ _ _ _ _ _ _
   | exact spec_NoteAbout.mono _ _ _ _ _ _ _ _ _ _ _ _ _
   | exact LeO.none _
   | refine LeO.ite ?_ ?_
   | refine LeO.bind ?_ (fun _ => ?_)
  ·intro y0 y1 y2 y3 y4 y5 y6 y7 y8 y9 y10 y11 y12 y13 y14 y15 y16 y17 y18 y19 y20 y21 y22 y23 y24 y25 y26 y27 y28 y29 y30 y31
   unfold laws_FnExactNoteAbout.j1
   repeat' first
   | (with_reducible exact ih0 _ _ _ _ _ _ _ _ _ _ _ _ _ _ _ _ _ _ _ _ _ _ _ _ _ _ _ _ _ _ _ _ _ _ _ _ _ _ _ _ _ _)
   | (with_reducible exact ih1 _ _ _ _ _ _ _ _ _ _ _ _ _ _ _ _ _ _ _ _ _ _ _ _ _ _ _ _ _ _ _ _)
   | (with_reducible exact ih2 _ _ _ _ _ _ _ _ _ _ _)
   | (with_reducible exact impl_NoteAbout.mono _ _ _ _ _ _ _ _ _ _ _ _ _)
   | (with_reducible exact laws_eqPacket.mono _ _ _ _ _ _ _ _ _ _ _ _ _ _ _ _ _ _ _)
   | (with_reducible exact laws_heldPacket.mono _ _ _ _ _ _ _ _ _ _ _)
   | (with_reducible exact laws_markPacket.mono _ _ _ _ _ _ _ _ _ _ _)
   | (with_reducible exact laws_toPacket.mono _ _ _ _ _ _ _ _ _ _)
   | (with_reducible exact spec_NoteAbout.mono _ _ _ _ _ _ _ _ _ _ _ _ _)
   | (with_reducible exact LeO.refl _)
   | (with_reducible exact LeO.none _)
   | (with_reducible refine LeO.ite ?_ ?_)
   | (with_reducible refine LeO.bind ?_ (fun _ => ?_))
   | exact ih0 _ _ _ _ _ _ _ _ _ _ _ _ _ _ _ _ _ _ _ _ _ _ _ _ _ _ _ _ _ _ _ _ _ _ _ _ _ _ _ _ _ _
   | exact ih1 _ _ _ _ _ _ _ _ _ _ _ _ _ _ _ _ _ _ _ _ _ _ _ _ _ _ _ _ _ _ _ _
   | exact ih2 _ _ _ _ _ _ _ _ _ _ _
   | exact impl_NoteAbout.mono _ _ _ _ _ _ _ _ _ _ _ _ _
   | exact laws_eqPacket.mono _ _ _ _ _ _ _ _ _ _ _ _ _ _ _ _ _ _ _
   | exact laws_heldPacket.mono _ _ _ _ _ _ _ _ _ _ _
   | exact laws_markPacket.mono _ _ _ _ _ _ _ _ _ _ _
   | exact laws_toPacket.mono _ _ _ _ _ _ _ _ _ _
   | exact spec_NoteAbout.mono _ _ _ _ _ _ _ _ _ _ _ _ _
   | exact LeO.none _
   | refine LeO.ite ?_ ?_
   | refine LeO.bind ?_ (fun _ => ?_)
  ·intro y0 y1 y2 y3 y4 y5 y6 y7 y8 y9 y10
   unfold laws_FnExactNoteAbout.j2
   repeat' first
   | (with_reducible exact ih0 _ _ _ _ _ _ _ _ _ _ _ _ _ _ _ _ _ _ _ _ _ _ _ _ _ _ _ _ _ _ _ _ _ _ _ _ _ _ _ _ _ _)
   | (with_reducible exact ih1 _ _ _ _ _ _ _ _ _ _ _ _ _ _ _ _ _ _ _ _ _ _ _ _ _ _ _ _ _ _ _ _)
   | (with_reducible exact ih2 _ _ _ _ _ _ _ _ _ _ _)
   | (with_reducible exact impl_NoteAbout.mono _ _ _ _ _ _ _ _ _ _ _ _ _)
   | (with_reducible exact laws_eqPacket.mono _ _ _ _ _ _ _ _ _ _ _ _ _ _ _ _ _ _ _)
   | (with_reducible exact laws_heldPacket.mono _ _ _ _ _ _ _ _ _ _ _)
   | (with_reducible exact laws_markPacket.mono _ _ _ _ _ _ _ _ _ _ _)
   | (with_reducible exact laws_toPacket.mono _ _ _ _ _ _ _ _ _ _)
   | (with_reducible exact spec_NoteAbout.mono _ _ _ _ _ _ _ _ _ _ _ _ _)
   | (with_reducible exact LeO.refl _)
   | (with_reducible exact LeO.none _)
   | (with_reducible refine LeO.ite ?_ ?_)
   | (with_reducible refine LeO.bind ?_ (fun _ => ?_))
   | exact ih0 _ _ _ _ _ _ _ _ _ _ _ _ _ _ _ _ _ _ _ _ _ _ _ _ _ _ _ _ _ _ _ _ _ _ _ _ _ _ _ _ _ _
   | exact ih1 _ _ _ _ _ _ _ _ _ _ _ _ _ _ _ _ _ _ _ _ _ _ _ _ _ _ _ _ _ _ _ _
   | exact ih2 _ _ _ _ _ _ _ _ _ _ _
   | exact impl_NoteAbout.mono _ _ _ _ _ _ _ _ _ _ _ _ _
   | exact laws_eqPacket.mono _ _ _ _ _ _ _ _ _ _ _ _ _ _ _ _ _ _ _
   | exact laws_heldPacket.mono _ _ _ _ _ _ _ _ _ _ _
   | exact laws_markPacket.mono _ _ _ _ _ _ _ _ _ _ _
   | exact laws_toPacket.mono _ _ _ _ _ _ _ _ _ _
   | exact spec_NoteAbout.mono _ _ _ _ _ _ _ _ _ _ _ _ _
   | exact LeO.none _
   | refine LeO.ite ?_ ?_
   | refine LeO.bind ?_ (fun _ => ?_)
theorem laws_FnExactNoteAbout.mono : ∀ a0 a1 a2 a3 a4 a5 a6 a7 a8 a9 a10 a11 k, LeO (laws_FnExactNoteAbout.f k a0 a1 a2 a3 a4 a5 a6 a7 a8 a9 a10 a11) (laws_FnExactNoteAbout.f (k + 1) a0 a1 a2 a3 a4 a5 a6 a7 a8 a9 a10 a11) := by
 intro a0 a1 a2 a3 a4 a5 a6 a7 a8 a9 a10 a11 k
 obtain ⟨ih0, ih1, ih2⟩ := laws_FnExactNoteAbout.mono_l k
 unfold laws_FnExactNoteAbout.f
 repeat' first
   | (with_reducible exact ih0 _ _ _ _ _ _ _ _ _ _ _ _ _ _ _ _ _ _ _ _ _ _ _ _ _ _ _ _ _ _ _ _ _ _ _ _ _ _ _ _ _ _)
   | (with_reducible exact ih1 _ _ _ _ _ _ _ _ _ _ _ _ _ _ _ _ _ _ _ _ _ _ _ _ _ _ _ _ _ _ _ _)
   | (with_reducible exact ih2 _ _ _ _ _ _ _ _ _ _ _)
   | (with_reducible exact impl_NoteAbout.mono _ _ _ _ _ _ _ _ _ _ _ _ _)
   | (with_reducible exact laws_eqPacket.mono _ _ _ _ _ _ _ _ _ _ _ _ _ _ _ _ _ _ _)
   | (with_reducible exact laws_heldPacket.mono _ _ _ _ _ _ _ _ _ _ _)
   | (with_reducible exact laws_markPacket.mono _ _ _ _ _ _ _ _ _ _ _)
   | (with_reducible exact laws_toPacket.mono _ _ _ _ _ _ _ _ _ _)
   | (with_reducible exact spec_NoteAbout.mono _ _ _ _ _ _ _ _ _ _ _ _ _)
   | (with_reducible exact LeO.refl _)
   | (with_reducible exact LeO.none _)
   | (with_reducible refine LeO.ite ?_ ?_)
   | (with_reducible refine LeO.bind ?_ (fun _ => ?_))
   | exact ih0 _ _ _ _ _ _ _ _ _ _ _ _ _ _ _ _ _ _ _ _ _ _ _ _ _ _ _ _ _ _ _ _ _ _ _ _ _ _ _ _ _ _
   | exact ih1 _ _ _ _ _ _ _ _ _ _ _ _ _ _ _ _ _ _ _ _ _ _ _ _ _ _ _ _ _ _ _ _
   | exact ih2 _ _ _ _ _ _ _ _ _ _ _
   | exact impl_NoteAbout.mono _ _ _ _ _ _ _ _ _ _ _ _ _
   | exact laws_eqPacket.mono _ _ _ _ _ _ _ _ _ _ _ _ _ _ _ _ _ _ _
   | exact laws_heldPacket.mono _ _ _ _ _ _ _ _ _ _ _
   | exact laws_markPacket.mono _ _ _ _ _ _ _ _ _ _ _
   | exact laws_toPacket.mono _ _ _ _ _ _ _ _ _ _
   | exact spec_NoteAbout.mono _ _ _ _ _ _ _ _ _ _ _ _ _
   | exact LeO.none _
   | refine LeO.ite ?_ ?_
   | refine LeO.bind ?_ (fun _ => ?_)
set_option maxHeartbeats 8000000 in
set_option maxRecDepth 100000 in
theorem laws_FnExactNoteAbout.calls (k : Nat) (a0_0 : Int) (a0_1 : Int) (a0_2 : Int) (a0_3 : Int) (a0_4 : Int) (a0_5 : Int) (a0_6 : Bool) (a0_7 : Bool) (A0_8 : Option Addr) (c0_8 : Nat) (l0_8 : List Int) (a1 : Int) (a2 : Int) (a3 : Int) (r : Bool) (w : World) (hr0_8 : Kd.C (Kd.int .u8) w A0_8 l0_8.length l0_8) (hc0_8 : l0_8.length ≤ c0_8) (h : laws_FnExactNoteAbout.f k a0_0 a0_1 a0_2 a0_3 a0_4 a0_5 a0_6 a0_7 l0_8 a1 a2 a3 = some r) :
  Calls Try.prog 6 #[.agg #[.int .i64 a0_0, .int .i64 a0_1, .int .i64 a0_2, .int .i64 a0_3, .int .i64 a0_4, .int .i64 a0_5, .bool a0_6, .bool a0_7, .slice A0_8 l0_8.length c0_8], .int .i64 a1, .int .i64 a2, .int .i64 a3] w fun e w' => e = .returned (.bool r) ∧ Below w.heap.size w w' := by
 have hu52 := Try.underlying52
 have hu37 := Try.underlying37
 have HR0_8 := mk_ hr0_8
 have HC0_8 := mk_ hc0_8
 clear hr0_8 hc0_8
 have HB := mk_ (Below.refl w.heap.size w)
 have H := h
 unfold laws_FnExactNoteAbout.f at H
 clear h
 replace H := Option.bind_eq_some_iff.mp H
 obtain ⟨t364, A50, H⟩ := H
 (try dsimp only at H)
 have A5 := mk_ A50
 clear A50
 by_cases c6 : t364 < 0
 ·rw [if_pos c6] at H
  have c6b0 : decide (t364 < 0) = true := decide_eq_true c6
  clear c6
  obtain rfl := Option.some.inj H
  go_enter Try.func6, Try.ntmps6
  go_wp2_with (first | ((with_reducible refine gate_dst (N := 4) rfl ?_); refine box_event ?hg (N := 4) ?hd (cs := #[.int .i64 a0_0, .int .i64 a0_1, .int .i64 a0_2, .int .i64 a0_3, .int .i64 a0_4, .int .i64 a0_5, .bool a0_6, .bool a0_7, .slice A0_8 l0_8.length c0_8]) (t := 52) ?hr ?_; (case hd => rfl); (case hg => rfl); (case hr => first | (go_simp; done) | (go_simp; rfl)); intro gb363 hg w7 hbox hb; have n0_ := mk_ (below_step (ub_ HB.out) hb); have BK363 := mk_ (hbox); have GW363 := mk_ ((by rw [hg]; exact (below_size (ub_ HB.out)) : w.heap.size ≤ gb363)); have GE363 := ge_ ((by rw [hg]; exact (below_size (ub_ HB.out)) : w.heap.size ≤ gb363)); replace HB := n0_; clear n0_; clear hb hbox hg; obtain ⟨hcz8_0, hcz8_1, hcz8_2, hcz8_3, hcz8_4, hcz8_5, hcz8_6, hcz8_7, hcz8_8, hfz8_0, hfz8_1, hfz8_2, hfz8_3, hfz8_4, hfz8_5, hfz8_6, hfz8_7, hfz8_8⟩ := cells9_ BK363.out) | ((with_reducible refine gate_callee (f := 26) rfl ?_); refine goesL_ (some 22) rfl rfl Try.func26 (by kernel_rfl) rfl #[.agg #[.int .i64 a0_0, .int .i64 a0_1, .int .i64 a0_2, .int .i64 a0_3, .int .i64 a0_4, .int .i64 a0_5, .bool a0_6, .bool a0_7, .slice A0_8 l0_8.length c0_8], .int .i64 1048576] rfl (by (try simp only [lm_, lo_, ln_]); try rfl) ?_; (with_reducible refine (laws_szPacket.calls a0_0 a0_1 a0_2 a0_3 a0_4 a0_5 a0_6 a0_7 _ _ l0_8 1048576 t364 _ ?side1 ?side2 A5.out).mono ?_); (case side1 => repeat (first | exact (Kd.C_below HR0_8.out HB.out) | (with_reducible refine Kd.C_alloc ?_ _) | (with_reducible refine Kd.C_drewN ?_ _) | (with_reducible refine Kd.C_drew ?_))); (case side2 => exact HC0_8.out); rintro e w9 ⟨rfl, hb⟩; refine ⟨_, rfl, ?_⟩; replace BK363 := mk_ (blk_below (u_ BK363.out) hb); replace HB := mk_ (below_step (us_ HB.out) hb)))
  go_ret
  exact ⟨by first | rfl | (simp [errW_none, errW_some] <;> rfl) | (simp [*, errW_none, errW_some] <;> rfl), us_ HB.out⟩
 rw [if_neg c6] at H
 have c6b0 : decide (t364 < 0) = false := decide_eq_false c6
 clear c6
 replace H := Option.bind_eq_some_iff.mp H
 obtain ⟨⟨t365, t366, t367, t368, t369, t370, t371, t372, t373⟩, A100, H⟩ := H
 (try dsimp only at H)
 have A10 := mk_ A100
 clear A100
 replace H := Option.bind_eq_some_iff.mp H
 obtain ⟨⟨t376, t377, t378, t379, t380, t381, t382, t383, t384, t387⟩, A110, H⟩ := H
 (try dsimp only at H)
 have A11 := mk_ A110
 clear A110
 replace H := Option.bind_eq_some_iff.mp H
 obtain ⟨⟨t389, t390, t391, t392, t393, t394, t395, t396, t397⟩, A120, H⟩ := H
 (try dsimp only at H)
 have A12 := mk_ A120
 clear A120
 replace H := Option.bind_eq_some_iff.mp H
 obtain ⟨⟨t401, t402, t403, t404, t405, t406, t407, t408, t409, t412⟩, A130, H⟩ := H
 (try dsimp only at H)
 have A13 := mk_ A130
 clear A130
 have HC14 := mk_ H
 clear H
 go_enter Try.func6, Try.ntmps6
 go_upto_region 8 with (first | ((with_reducible refine gate_dst (N := 4) rfl ?_); refine box_event ?hg (N := 4) ?hd (cs := #[.int .i64 a0_0, .int .i64 a0_1, .int .i64 a0_2, .int .i64 a0_3, .int .i64 a0_4, .int .i64 a0_5, .bool a0_6, .bool a0_7, .slice A0_8 l0_8.length c0_8]) (t := 52) ?hr ?_; (case hd => rfl); (case hg => rfl); (case hr => first | (go_simp; done) | (go_simp; rfl)); intro gb363 hg w15 hbox hb; have n0_ := mk_ (below_step (ub_ HB.out) hb); have BK363 := mk_ (hbox); have GW363 := mk_ ((by rw [hg]; exact (below_size (ub_ HB.out)) : w.heap.size ≤ gb363)); have GE363 := ge_ ((by rw [hg]; exact (below_size (ub_ HB.out)) : w.heap.size ≤ gb363)); replace HB := n0_; clear n0_; clear hb hbox hg; obtain ⟨hcz16_0, hcz16_1, hcz16_2, hcz16_3, hcz16_4, hcz16_5, hcz16_6, hcz16_7, hcz16_8, hfz16_0, hfz16_1, hfz16_2, hfz16_3, hfz16_4, hfz16_5, hfz16_6, hfz16_7, hfz16_8⟩ := cells9_ BK363.out) | ((with_reducible refine gate_callee (f := 26) rfl ?_); refine goesL_ (some 22) rfl rfl Try.func26 (by kernel_rfl) rfl #[.agg #[.int .i64 a0_0, .int .i64 a0_1, .int .i64 a0_2, .int .i64 a0_3, .int .i64 a0_4, .int .i64 a0_5, .bool a0_6, .bool a0_7, .slice A0_8 l0_8.length c0_8], .int .i64 1048576] rfl (by (try simp only [lm_, lo_, ln_]); try rfl) ?_; (with_reducible refine (laws_szPacket.calls a0_0 a0_1 a0_2 a0_3 a0_4 a0_5 a0_6 a0_7 _ _ l0_8 1048576 t364 _ ?side1 ?side2 A5.out).mono ?_); (case side1 => repeat (first | exact (Kd.C_below HR0_8.out HB.out) | (with_reducible refine Kd.C_alloc ?_ _) | (with_reducible refine Kd.C_drewN ?_ _) | (with_reducible refine Kd.C_drew ?_))); (case side2 => exact HC0_8.out); rintro e w17 ⟨rfl, hb⟩; refine ⟨_, rfl, ?_⟩; replace BK363 := mk_ (blk_below (u_ BK363.out) hb); replace HB := mk_ (below_step (us_ HB.out) hb); obtain ⟨hcz18_0, hcz18_1, hcz18_2, hcz18_3, hcz18_4, hcz18_5, hcz18_6, hcz18_7, hcz18_8, hfz18_0, hfz18_1, hfz18_2, hfz18_3, hfz18_4, hfz18_5, hfz18_6, hfz18_7, hfz18_8⟩ := cells9_ BK363.out) | ((with_reducible refine gate_callee (f := 27) rfl ?_); have hA_ := A10.out; refine goesL_ (some 27) rfl rfl Try.func27 (by kernel_rfl) rfl #[.agg #[.int .i64 a0_0, .int .i64 a0_1, .int .i64 a0_2, .int .i64 a0_3, .int .i64 a0_4, .int .i64 a0_5, .bool a0_6, .bool a0_7, .slice A0_8 l0_8.length c0_8]] rfl (by (try simp only [lm_, lo_, ln_]); try rfl) ?_; (with_reducible refine (laws_toPacket.calls k a0_0 a0_1 a0_2 a0_3 a0_4 a0_5 a0_6 a0_7 _ _ l0_8 t365 t366 t367 t368 t369 t370 t371 t372 t373 _ ?side1 ?side2 A10.out).mono ?_); (case side1 => repeat (first | exact (Kd.C_below HR0_8.out HB.out) | (with_reducible refine Kd.C_alloc ?_ _) | (with_reducible refine Kd.C_drewN ?_ _) | (with_reducible refine Kd.C_drew ?_))); (case side2 => exact HC0_8.out); rintro e w19 ⟨v374, rfl, ho0, hb⟩; refine ⟨_, rfl, ?_⟩; have HO375 := mk_ (Kd.R_lower ho0 (below_size (us_ HB.out))); replace BK363 := mk_ (blk_below (u_ BK363.out) hb); replace HB := mk_ (below_step (us_ HB.out) hb); obtain ⟨Ao20, co20, eo20⟩ := Kd.R_slice HO375.out; subst eo20; clear hA_ A10) | ((with_reducible refine gate_callee (f := 25) rfl ?_); refine goesL_ (some 31) rfl rfl Try.func25 (by kernel_rfl) rfl #[.agg #[.int .i64 t365, .int .i64 t366, .int .i64 t367, .int .i64 t368, .int .i64 t369, .int .i64 t370, .bool t371, .bool t372, .slice Ao20 t373.length co20], .int .i64 a1, .int .i64 a2, .int .i64 a3] rfl (by (try simp only [lm_, lo_, ln_]); try rfl) ?_; (with_reducible refine (spec_NoteAbout.calls k t365 t366 t367 t368 t369 t370 t371 t372 _ _ t373 a1 a2 a3 t376 t377 t378 t379 t380 t381 t382 t383 t384 t387 _ ?side1 ?side2 A11.out).mono ?_); (case side1 => repeat (first | exact (Kd.R_reads' HO375.out).2.2 | (with_reducible refine Kd.C_alloc ?_ _) | (with_reducible refine Kd.C_drewN ?_ _) | (with_reducible refine Kd.C_drew ?_))); (case side2 => exact (Kd.R_reads' HO375.out).2.1); rintro e w21 ⟨v385, rfl, ho0, hb⟩; refine ⟨_, rfl, ?_⟩; have n0_ := mk_ (Kd.R_elder' (Kd.ur_ HO375.out) (Kd.R_base ho0) hb); have HO386 := mk_ (Kd.R_lower (Kd.R_new' ho0 (Kd.R_lt (Kd.ur_ HO375.out))) (below_size (us_ HB.out))); replace BK363 := mk_ (blk_below (u_ BK363.out) hb); replace HB := mk_ (below_step (us_ HB.out) hb); replace HO375 := n0_; clear n0_) | ((with_reducible refine gate_dst (N := 10) rfl ?_); refine box_event ?hg (N := 10) ?hd (cs := #[.int .i64 0, .int .i64 0, .int .i64 0, .int .i64 0, .int .i64 0, .int .i64 0, .bool false, .bool false, .slice none 0 0]) (t := 37) ?hr ?_; (case hd => rfl); (case hg => rfl); (case hr => first | (go_simp; done) | (go_simp; rfl)); intro gb388 hg w22 hbox hb; replace HO375 := mk_ (Kd.R_below (Kd.ur_ HO375.out) hb); replace HO386 := mk_ (Kd.R_below (Kd.ur_ HO386.out) hb); have n2_ := mk_ (blk_below (u_ BK363.out) hb); have n3_ := mk_ (below_step (us_ HB.out) hb); have BK388 := mk_ (hbox); have GW388 := mk_ ((by rw [hg]; exact (below_size (us_ HB.out)) : w.heap.size ≤ gb388)); have GE388 := ge_ ((by rw [hg]; exact (below_size (us_ HB.out)) : w.heap.size ≤ gb388)); have NB363_388 := nq_ ((by rw [hg]; exact Nat.ne_of_lt (blk_lt (u_ BK363.out)) : gb363 ≠ gb388)); have NB388_363 := nq_ ((by rw [hg]; exact Nat.ne_of_gt (blk_lt (u_ BK363.out)) : gb388 ≠ gb363)); replace BK363 := n2_; replace HB := n3_; clear n2_ n3_; clear hb hbox hg; have hnb23 := NB388_363.out; have hnc23 := NB363_388.out; obtain ⟨hcz24_0, hcz24_1, hcz24_2, hcz24_3, hcz24_4, hcz24_5, hcz24_6, hcz24_7, hcz24_8, hfz24_0, hfz24_1, hfz24_2, hfz24_3, hfz24_4, hfz24_5, hfz24_6, hfz24_7, hfz24_8⟩ := cells9_ BK388.out; obtain ⟨Ao25, co25, eo25⟩ := Kd.R_slice HO386.out; subst eo25) | ((with_reducible refine gate_store (t := 37) (p := 10) rfl ?_); refine store_event (t := 37) (p := 10) (v := ?_) (w1 := ?_) ?hg ?ho ?hn ?hr ?_; (case ho => rfl); (case hg => rfl); (case hn => rfl); (case hr => first | (go_simp; done) | (go_simp; rfl)); intro w26 hw; have n0_ : Aside0 (Kd.R (Kd.int .u8) 5 w26 w.heap.size (fun k_ => some k_ ≠ (.slice Ao25 t384.length co25 : Value).ownBlock) (.slice Ao20 t373.length co20) t373) := ⟨(by rw [hw]; exact (by (with_reducible repeat (first | apply Kd.R_alloc | apply Kd.R_drewN | apply Kd.R_drew)); exact Kd.R_mono (Kd.R_far9 (g := gb388) (Kd.R_types HO375.out BK388.out (by decide)) (fun _ hk => hk.2) _ _ _ _ _ _ _ _ _) (fun _ hk => hk.1.2)))⟩; have n1_ : Aside0 (Kd.R (Kd.int .u8) 5 w26 w.heap.size (fun k_ => some k_ ≠ (.slice Ao20 t373.length co20 : Value).ownBlock) (.slice Ao25 t384.length co25) t384) := ⟨(by rw [hw]; exact (by (with_reducible repeat (first | apply Kd.R_alloc | apply Kd.R_drewN | apply Kd.R_drew)); exact Kd.R_mono (Kd.R_far9 (g := gb388) (Kd.R_types HO386.out BK388.out (by decide)) (fun _ hk => hk.2) _ _ _ _ _ _ _ _ _) (fun _ hk => hk.1.2)))⟩; have n2_ : Aside0 (w26.heap[gb363]? = some (.cells #[.int .i64 a0_0, .int .i64 a0_1, .int .i64 a0_2, .int .i64 a0_3, .int .i64 a0_4, .int .i64 a0_5, .bool a0_6, .bool a0_7, .slice A0_8 l0_8.length c0_8] 52 (0, 0))) := ⟨(by rw [hw]; exact (uf_ BK363.out))⟩; have n3_ : Aside0 (w26.heap[gb388]? = some (.cells #[.int .i64 t376, .int .i64 t377, .int .i64 t378, .int .i64 t379, .int .i64 t380, .int .i64 t381, .bool t382, .bool t383, .slice Ao25 t384.length co25] 37 (0, 0))) := ⟨(by rw [hw]; exact (by (with_reducible repeat (first | refine bn_ ?_ _ | refine bw_ ?_ | refine ba_ ?_ _)); with_reducible apply blk_put9; (with_reducible repeat (first | refine bn_ ?_ _ | refine bw_ ?_ | refine ba_ ?_ _)); exact BK388.out))⟩; have n4_ : Aside0 (Below w.heap.size w w26) := ⟨(by rw [hw]; exact (us_ HB.out))⟩; clear hw; clear HO375; clear HO386; clear BK363; clear BK388; clear HB; have HO375 := n0_; have HO386 := n1_; have BK363 := n2_; have BK388 := n3_; have HB := n4_; clear n0_ n1_ n2_ n3_ n4_; obtain ⟨hcz27_0, hcz27_1, hcz27_2, hcz27_3, hcz27_4, hcz27_5, hcz27_6, hcz27_7, hcz27_8, hfz27_0, hfz27_1, hfz27_2, hfz27_3, hfz27_4, hfz27_5, hfz27_6, hfz27_7, hfz27_8⟩ := cells9_ BK363.out) | ((with_reducible refine gate_callee (f := 27) rfl ?_); have hA_ := A12.out; refine goesL_ (some 35) rfl rfl Try.func27 (by kernel_rfl) rfl #[.agg #[.int .i64 a0_0, .int .i64 a0_1, .int .i64 a0_2, .int .i64 a0_3, .int .i64 a0_4, .int .i64 a0_5, .bool a0_6, .bool a0_7, .slice A0_8 l0_8.length c0_8]] rfl (by (try simp only [lm_, lo_, ln_]); try rfl) ?_; (with_reducible refine (laws_toPacket.calls k a0_0 a0_1 a0_2 a0_3 a0_4 a0_5 a0_6 a0_7 _ _ l0_8 t389 t390 t391 t392 t393 t394 t395 t396 t397 _ ?side1 ?side2 A12.out).mono ?_); (case side1 => repeat (first | exact (Kd.C_below HR0_8.out HB.out) | (with_reducible refine Kd.C_alloc ?_ _) | (with_reducible refine Kd.C_drewN ?_ _) | (with_reducible refine Kd.C_drew ?_))); (case side2 => exact HC0_8.out); rintro e w28 ⟨v398, rfl, ho0, hb⟩; refine ⟨_, rfl, ?_⟩; have n0_ := mk_ (Kd.R_elder' (Kd.ur_ HO375.out) (Kd.R_base ho0) hb); have n1_ := mk_ (Kd.R_elder' (Kd.ur_ HO386.out) (Kd.R_base ho0) hb); have HO399 := mk_ (Kd.R_lower (Kd.R_new' (Kd.R_new' ho0 (Kd.R_lt (Kd.ur_ HO375.out))) (Kd.R_lt (Kd.ur_ HO386.out))) (below_size (us_ HB.out))); replace BK363 := mk_ (blk_below (u_ BK363.out) hb); replace BK388 := mk_ (blk_below (u_ BK388.out) hb); replace HB := mk_ (below_step (us_ HB.out) hb); replace HO375 := n0_; replace HO386 := n1_; clear n0_ n1_; clear hA_ A12) | ((with_reducible refine gate_dst (N := 12) rfl ?_); refine box_event ?hg (N := 12) ?hd (cs := #[.int .i64 0, .int .i64 0, .int .i64 0, .int .i64 0, .int .i64 0, .int .i64 0, .bool false, .bool false, .slice none 0 0]) (t := 37) ?hr ?_; (case hd => rfl); (case hg => rfl); (case hr => first | (go_simp; done) | (go_simp; rfl)); intro gb400 hg w29 hbox hb; replace HO375 := mk_ (Kd.R_below (Kd.ur_ HO375.out) hb); replace HO386 := mk_ (Kd.R_below (Kd.ur_ HO386.out) hb); replace HO399 := mk_ (Kd.R_below (Kd.ur_ HO399.out) hb); have n3_ := mk_ (blk_below (u_ BK363.out) hb); have n4_ := mk_ (blk_below (u_ BK388.out) hb); have n5_ := mk_ (below_step (us_ HB.out) hb); have BK400 := mk_ (hbox); have GW400 := mk_ ((by rw [hg]; exact (below_size (us_ HB.out)) : w.heap.size ≤ gb400)); have GE400 := ge_ ((by rw [hg]; exact (below_size (us_ HB.out)) : w.heap.size ≤ gb400)); have NB363_400 := nq_ ((by rw [hg]; exact Nat.ne_of_lt (blk_lt (u_ BK363.out)) : gb363 ≠ gb400)); have NB400_363 := nq_ ((by rw [hg]; exact Nat.ne_of_gt (blk_lt (u_ BK363.out)) : gb400 ≠ gb363)); have NB388_400 := nq_ ((by rw [hg]; exact Nat.ne_of_lt (blk_lt (u_ BK388.out)) : gb388 ≠ gb400)); have NB400_388 := nq_ ((by rw [hg]; exact Nat.ne_of_gt (blk_lt (u_ BK388.out)) : gb400 ≠ gb388)); replace BK363 := n3_; replace BK388 := n4_; replace HB := n5_; clear n3_ n4_ n5_; clear hb hbox hg; have hnb30 := NB400_363.out; have hnc30 := NB363_400.out; have hnb31 := NB400_388.out; have hnc31 := NB388_400.out; obtain ⟨hcz32_0, hcz32_1, hcz32_2, hcz32_3, hcz32_4, hcz32_5, hcz32_6, hcz32_7, hcz32_8, hfz32_0, hfz32_1, hfz32_2, hfz32_3, hfz32_4, hfz32_5, hfz32_6, hfz32_7, hfz32_8⟩ := cells9_ BK400.out; obtain ⟨Ao33, co33, eo33⟩ := Kd.R_slice HO399.out; subst eo33) | ((with_reducible refine gate_store (t := 37) (p := 12) rfl ?_); refine store_event (t := 37) (p := 12) (v := ?_) (w1 := ?_) ?hg ?ho ?hn ?hr ?_; (case ho => rfl); (case hg => rfl); (case hn => rfl); (case hr => first | (go_simp; done) | (go_simp; rfl)); intro w34 hw; have n0_ : Aside0 (Kd.R (Kd.int .u8) 5 w34 w.heap.size (fun k_ => some k_ ≠ (.slice Ao25 t384.length co25 : Value).ownBlock ∧ some k_ ≠ (.slice Ao33 t397.length co33 : Value).ownBlock) (.slice Ao20 t373.length co20) t373) := ⟨(by rw [hw]; exact (by (with_reducible repeat (first | apply Kd.R_alloc | apply Kd.R_drewN | apply Kd.R_drew)); exact Kd.R_mono (Kd.R_far9 (g := gb400) (Kd.R_types HO375.out BK400.out (by decide)) (fun _ hk => hk.2) _ _ _ _ _ _ _ _ _) (fun _ hk => by first | exact ⟨hk.1.1, hk.1.2⟩ | exact hk.1 | exact hk | exact ⟨hk.1, hk.2⟩ | exact ⟨.inr hk.1, hk.2⟩ | simp only [hk, ne_eq, not_false_eq_true, and_self])))⟩; have n1_ : Aside0 (Kd.R (Kd.int .u8) 5 w34 w.heap.size (fun k_ => some k_ ≠ (.slice Ao20 t373.length co20 : Value).ownBlock ∧ some k_ ≠ (.slice Ao33 t397.length co33 : Value).ownBlock) (.slice Ao25 t384.length co25) t384) := ⟨(by rw [hw]; exact (by (with_reducible repeat (first | apply Kd.R_alloc | apply Kd.R_drewN | apply Kd.R_drew)); exact Kd.R_mono (Kd.R_far9 (g := gb400) (Kd.R_types HO386.out BK400.out (by decide)) (fun _ hk => hk.2) _ _ _ _ _ _ _ _ _) (fun _ hk => by first | exact ⟨hk.1.1, hk.1.2⟩ | exact hk.1 | exact hk | exact ⟨hk.1, hk.2⟩ | exact ⟨.inr hk.1, hk.2⟩ | simp only [hk, ne_eq, not_false_eq_true, and_self])))⟩; have n2_ : Aside0 (Kd.R (Kd.int .u8) 5 w34 w.heap.size (fun k_ => some k_ ≠ (.slice Ao20 t373.length co20 : Value).ownBlock ∧ some k_ ≠ (.slice Ao25 t384.length co25 : Value).ownBlock) (.slice Ao33 t397.length co33) t397) := ⟨(by rw [hw]; exact (by (with_reducible repeat (first | apply Kd.R_alloc | apply Kd.R_drewN | apply Kd.R_drew)); exact Kd.R_mono (Kd.R_far9 (g := gb400) (Kd.R_types HO399.out BK400.out (by decide)) (fun _ hk => hk.2) _ _ _ _ _ _ _ _ _) (fun _ hk => by first | exact ⟨hk.1.1.2, hk.1.2⟩ | exact hk.1 | exact hk | exact ⟨hk.1, hk.2⟩ | exact ⟨.inr hk.1, hk.2⟩ | simp only [hk, ne_eq, not_false_eq_true, and_self])))⟩; have n3_ : Aside0 (w34.heap[gb363]? = some (.cells #[.int .i64 a0_0, .int .i64 a0_1, .int .i64 a0_2, .int .i64 a0_3, .int .i64 a0_4, .int .i64 a0_5, .bool a0_6, .bool a0_7, .slice A0_8 l0_8.length c0_8] 52 (0, 0))) := ⟨(by rw [hw]; exact (uf_ BK363.out))⟩; have n4_ : Aside0 (w34.heap[gb388]? = some (.cells #[.int .i64 t376, .int .i64 t377, .int .i64 t378, .int .i64 t379, .int .i64 t380, .int .i64 t381, .bool t382, .bool t383, .slice Ao25 t384.length co25] 37 (0, 0))) := ⟨(by rw [hw]; exact (uf_ BK388.out))⟩; have n5_ : Aside0 (w34.heap[gb400]? = some (.cells #[.int .i64 t389, .int .i64 t390, .int .i64 t391, .int .i64 t392, .int .i64 t393, .int .i64 t394, .bool t395, .bool t396, .slice Ao33 t397.length co33] 37 (0, 0))) := ⟨(by rw [hw]; exact (by (with_reducible repeat (first | refine bn_ ?_ _ | refine bw_ ?_ | refine ba_ ?_ _)); with_reducible apply blk_put9; (with_reducible repeat (first | refine bn_ ?_ _ | refine bw_ ?_ | refine ba_ ?_ _)); exact BK400.out))⟩; have n6_ : Aside0 (Below w.heap.size w w34) := ⟨(by rw [hw]; exact (us_ HB.out))⟩; clear hw; clear HO375; clear HO386; clear HO399; clear BK363; clear BK388; clear BK400; clear HB; have HO375 := n0_; have HO386 := n1_; have HO399 := n2_; have BK363 := n3_; have BK388 := n4_; have BK400 := n5_; have HB := n6_; clear n0_ n1_ n2_ n3_ n4_ n5_ n6_; obtain ⟨hcz35_0, hcz35_1, hcz35_2, hcz35_3, hcz35_4, hcz35_5, hcz35_6, hcz35_7, hcz35_8, hfz35_0, hfz35_1, hfz35_2, hfz35_3, hfz35_4, hfz35_5, hfz35_6, hfz35_7, hfz35_8⟩ := cells9_ BK400.out) | ((with_reducible refine gate_callee (f := 24) rfl ?_); refine goesL_ (some 41) rfl rfl Try.func24 (by kernel_rfl) rfl #[.agg #[.int .i64 t389, .int .i64 t390, .int .i64 t391, .int .i64 t392, .int .i64 t393, .int .i64 t394, .bool t395, .bool t396, .slice Ao33 t397.length co33], .int .i64 a1, .int .i64 a2, .int .i64 a3] rfl (by (try simp only [lm_, lo_, ln_]); try rfl) ?_; (with_reducible refine (impl_NoteAbout.calls k t389 t390 t391 t392 t393 t394 t395 t396 _ _ t397 a1 a2 a3 t401 t402 t403 t404 t405 t406 t407 t408 t409 t412 _ ?side1 ?side2 A13.out).mono ?_); (case side1 => repeat (first | exact (Kd.R_reads' HO399.out).2.2 | (with_reducible refine Kd.C_alloc ?_ _) | (with_reducible refine Kd.C_drewN ?_ _) | (with_reducible refine Kd.C_drew ?_))); (case side2 => exact (Kd.R_reads' HO399.out).2.1); rintro e w36 ⟨v410, rfl, ho0, hb⟩; refine ⟨_, rfl, ?_⟩; have n0_ := mk_ (Kd.R_elder' (Kd.ur_ HO375.out) (Kd.R_base ho0) hb); have n1_ := mk_ (Kd.R_elder' (Kd.ur_ HO386.out) (Kd.R_base ho0) hb); have n2_ := mk_ (Kd.R_elder' (Kd.ur_ HO399.out) (Kd.R_base ho0) hb); have HO411 := mk_ (Kd.R_lower (Kd.R_new' (Kd.R_new' (Kd.R_new' ho0 (Kd.R_lt (Kd.ur_ HO375.out))) (Kd.R_lt (Kd.ur_ HO386.out))) (Kd.R_lt (Kd.ur_ HO399.out))) (below_size (us_ HB.out))); replace BK363 := mk_ (blk_below (u_ BK363.out) hb); replace BK388 := mk_ (blk_below (u_ BK388.out) hb); replace BK400 := mk_ (blk_below (u_ BK400.out) hb); replace HB := mk_ (below_step (us_ HB.out) hb); replace HO375 := n0_; replace HO386 := n1_; replace HO399 := n2_; clear n0_ n1_ n2_) | ((with_reducible refine gate_dst (N := 13) rfl ?_); refine box_event ?hg (N := 13) ?hd (cs := #[.int .i64 0, .int .i64 0, .int .i64 0, .int .i64 0, .int .i64 0, .int .i64 0, .bool false, .bool false, .slice none 0 0]) (t := 37) ?hr ?_; (case hd => rfl); (case hg => rfl); (case hr => first | (go_simp; done) | (go_simp; rfl)); intro gb413 hg w37 hbox hb; replace HO375 := mk_ (Kd.R_below (Kd.ur_ HO375.out) hb); replace HO386 := mk_ (Kd.R_below (Kd.ur_ HO386.out) hb); replace HO399 := mk_ (Kd.R_below (Kd.ur_ HO399.out) hb); replace HO411 := mk_ (Kd.R_below (Kd.ur_ HO411.out) hb); have n4_ := mk_ (blk_below (u_ BK363.out) hb); have n5_ := mk_ (blk_below (u_ BK388.out) hb); have n6_ := mk_ (blk_below (u_ BK400.out) hb); have n7_ := mk_ (below_step (us_ HB.out) hb); have BK413 := mk_ (hbox); have GW413 := mk_ ((by rw [hg]; exact (below_size (us_ HB.out)) : w.heap.size ≤ gb413)); have GE413 := ge_ ((by rw [hg]; exact (below_size (us_ HB.out)) : w.heap.size ≤ gb413)); have NB363_413 := nq_ ((by rw [hg]; exact Nat.ne_of_lt (blk_lt (u_ BK363.out)) : gb363 ≠ gb413)); have NB413_363 := nq_ ((by rw [hg]; exact Nat.ne_of_gt (blk_lt (u_ BK363.out)) : gb413 ≠ gb363)); have NB388_413 := nq_ ((by rw [hg]; exact Nat.ne_of_lt (blk_lt (u_ BK388.out)) : gb388 ≠ gb413)); have NB413_388 := nq_ ((by rw [hg]; exact Nat.ne_of_gt (blk_lt (u_ BK388.out)) : gb413 ≠ gb388)); have NB400_413 := nq_ ((by rw [hg]; exact Nat.ne_of_lt (blk_lt (u_ BK400.out)) : gb400 ≠ gb413)); have NB413_400 := nq_ ((by rw [hg]; exact Nat.ne_of_gt (blk_lt (u_ BK400.out)) : gb413 ≠ gb400)); replace BK363 := n4_; replace BK388 := n5_; replace BK400 := n6_; replace HB := n7_; clear n4_ n5_ n6_ n7_; clear hb hbox hg; have hnb38 := NB413_363.out; have hnc38 := NB363_413.out; have hnb39 := NB413_388.out; have hnc39 := NB388_413.out; have hnb40 := NB413_400.out; have hnc40 := NB400_413.out; obtain ⟨hcz41_0, hcz41_1, hcz41_2, hcz41_3, hcz41_4, hcz41_5, hcz41_6, hcz41_7, hcz41_8, hfz41_0, hfz41_1, hfz41_2, hfz41_3, hfz41_4, hfz41_5, hfz41_6, hfz41_7, hfz41_8⟩ := cells9_ BK413.out; obtain ⟨Ao42, co42, eo42⟩ := Kd.R_slice HO411.out; subst eo42) | ((with_reducible refine gate_store (t := 37) (p := 13) rfl ?_); refine store_event (t := 37) (p := 13) (v := ?_) (w1 := ?_) ?hg ?ho ?hn ?hr ?_; (case ho => rfl); (case hg => rfl); (case hn => rfl); (case hr => first | (go_simp; done) | (go_simp; rfl)); intro w43 hw; have n0_ : Aside0 (Kd.R (Kd.int .u8) 5 w43 w.heap.size (fun k_ => some k_ ≠ (.slice Ao25 t384.length co25 : Value).ownBlock ∧ some k_ ≠ (.slice Ao33 t397.length co33 : Value).ownBlock ∧ some k_ ≠ (.slice Ao42 t409.length co42 : Value).ownBlock) (.slice Ao20 t373.length co20) t373) := ⟨(by rw [hw]; exact (by (with_reducible repeat (first | apply Kd.R_alloc | apply Kd.R_drewN | apply Kd.R_drew)); exact Kd.R_mono (Kd.R_far9 (g := gb413) (Kd.R_types HO375.out BK413.out (by decide)) (fun _ hk => hk.2) _ _ _ _ _ _ _ _ _) (fun _ hk => by first | exact ⟨hk.1.1.1, ⟨hk.1.1.2, hk.1.2⟩⟩ | exact hk.1 | exact hk | exact ⟨hk.1, hk.2⟩ | exact ⟨.inr hk.1, hk.2⟩ | simp only [hk, ne_eq, not_false_eq_true, and_self])))⟩; have n1_ : Aside0 (Kd.R (Kd.int .u8) 5 w43 w.heap.size (fun k_ => some k_ ≠ (.slice Ao20 t373.length co20 : Value).ownBlock ∧ some k_ ≠ (.slice Ao33 t397.length co33 : Value).ownBlock ∧ some k_ ≠ (.slice Ao42 t409.length co42 : Value).ownBlock) (.slice Ao25 t384.length co25) t384) := ⟨(by rw [hw]; exact (by (with_reducible repeat (first | apply Kd.R_alloc | apply Kd.R_drewN | apply Kd.R_drew)); exact Kd.R_mono (Kd.R_far9 (g := gb413) (Kd.R_types HO386.out BK413.out (by decide)) (fun _ hk => hk.2) _ _ _ _ _ _ _ _ _) (fun _ hk => by first | exact ⟨hk.1.1.1, ⟨hk.1.1.2, hk.1.2⟩⟩ | exact hk.1 | exact hk | exact ⟨hk.1, hk.2⟩ | exact ⟨.inr hk.1, hk.2⟩ | simp only [hk, ne_eq, not_false_eq_true, and_self])))⟩; have n2_ : Aside0 (Kd.R (Kd.int .u8) 5 w43 w.heap.size (fun k_ => some k_ ≠ (.slice Ao20 t373.length co20 : Value).ownBlock ∧ some k_ ≠ (.slice Ao25 t384.length co25 : Value).ownBlock ∧ some k_ ≠ (.slice Ao42 t409.length co42 : Value).ownBlock) (.slice Ao33 t397.length co33) t397) := ⟨(by rw [hw]; exact (by (with_reducible repeat (first | apply Kd.R_alloc | apply Kd.R_drewN | apply Kd.R_drew)); exact Kd.R_mono (Kd.R_far9 (g := gb413) (Kd.R_types HO399.out BK413.out (by decide)) (fun _ hk => hk.2) _ _ _ _ _ _ _ _ _) (fun _ hk => by first | exact ⟨hk.1.1.1, ⟨hk.1.1.2, hk.1.2⟩⟩ | exact hk.1 | exact hk | exact ⟨hk.1, hk.2⟩ | exact ⟨.inr hk.1, hk.2⟩ | simp only [hk, ne_eq, not_false_eq_true, and_self])))⟩; have n3_ : Aside0 (Kd.R (Kd.int .u8) 5 w43 w.heap.size (fun k_ => some k_ ≠ (.slice Ao20 t373.length co20 : Value).ownBlock ∧ some k_ ≠ (.slice Ao25 t384.length co25 : Value).ownBlock ∧ some k_ ≠ (.slice Ao33 t397.length co33 : Value).ownBlock) (.slice Ao42 t409.length co42) t409) := ⟨(by rw [hw]; exact (by (with_reducible repeat (first | apply Kd.R_alloc | apply Kd.R_drewN | apply Kd.R_drew)); exact Kd.R_mono (Kd.R_far9 (g := gb413) (Kd.R_types HO411.out BK413.out (by decide)) (fun _ hk => hk.2) _ _ _ _ _ _ _ _ _) (fun _ hk => by first | exact ⟨hk.1.1.1.2, ⟨hk.1.1.2, hk.1.2⟩⟩ | exact hk.1 | exact hk | exact ⟨hk.1, hk.2⟩ | exact ⟨.inr hk.1, hk.2⟩ | simp only [hk, ne_eq, not_false_eq_true, and_self])))⟩; have n4_ : Aside0 (w43.heap[gb363]? = some (.cells #[.int .i64 a0_0, .int .i64 a0_1, .int .i64 a0_2, .int .i64 a0_3, .int .i64 a0_4, .int .i64 a0_5, .bool a0_6, .bool a0_7, .slice A0_8 l0_8.length c0_8] 52 (0, 0))) := ⟨(by rw [hw]; exact (uf_ BK363.out))⟩; have n5_ : Aside0 (w43.heap[gb388]? = some (.cells #[.int .i64 t376, .int .i64 t377, .int .i64 t378, .int .i64 t379, .int .i64 t380, .int .i64 t381, .bool t382, .bool t383, .slice Ao25 t384.length co25] 37 (0, 0))) := ⟨(by rw [hw]; exact (uf_ BK388.out))⟩; have n6_ : Aside0 (w43.heap[gb400]? = some (.cells #[.int .i64 t389, .int .i64 t390, .int .i64 t391, .int .i64 t392, .int .i64 t393, .int .i64 t394, .bool t395, .bool t396, .slice Ao33 t397.length co33] 37 (0, 0))) := ⟨(by rw [hw]; exact (uf_ BK400.out))⟩; have n7_ : Aside0 (w43.heap[gb413]? = some (.cells #[.int .i64 t401, .int .i64 t402, .int .i64 t403, .int .i64 t404, .int .i64 t405, .int .i64 t406, .bool t407, .bool t408, .slice Ao42 t409.length co42] 37 (0, 0))) := ⟨(by rw [hw]; exact (by (with_reducible repeat (first | refine bn_ ?_ _ | refine bw_ ?_ | refine ba_ ?_ _)); with_reducible apply blk_put9; (with_reducible repeat (first | refine bn_ ?_ _ | refine bw_ ?_ | refine ba_ ?_ _)); exact BK413.out))⟩; have n8_ : Aside0 (Below w.heap.size w w43) := ⟨(by rw [hw]; exact (us_ HB.out))⟩; clear hw; clear HO375; clear HO386; clear HO399; clear HO411; clear BK363; clear BK388; clear BK400; clear BK413; clear HB; have HO375 := n0_; have HO386 := n1_; have HO399 := n2_; have HO411 := n3_; have BK363 := n4_; have BK388 := n5_; have BK400 := n6_; have BK413 := n7_; have HB := n8_; clear n0_ n1_ n2_ n3_ n4_ n5_ n6_ n7_ n8_))
 (try simp only [Act.put, la_, lz_, ls_])
 go_cut [52] (fun v52 wc => ∃ (kq : Nat) (x52_13 : Bool), v52 = .bool x52_13 ∧ Aside0 (laws_FnExactNoteAbout.j0 kq a1 a2 a3 t387 t412 x52_13 a0_0 a0_1 a0_2 a0_3 a0_4 a0_5 a0_6 a0_7 l0_8 t376 t377 t378 t379 t380 t381 t382 t383 t384 t389 t390 t391 t392 t393 t394 t395 t396 t397 t401 t402 t403 t404 t405 t406 t407 t408 t409 = some r) ∧ Aside0 (kq ≤ k) ∧ Aside0 (Kd.R (Kd.int .u8) 5 wc w.heap.size (fun k_ => some k_ ≠ ((.slice Ao33 t397.length co33) : Value).ownBlock ∧ some k_ ≠ ((.slice Ao42 t409.length co42) : Value).ownBlock) (.slice Ao25 t384.length co25) t384) ∧ Aside0 (Kd.R (Kd.int .u8) 5 wc w.heap.size (fun k_ => some k_ ≠ ((.slice Ao25 t384.length co25) : Value).ownBlock ∧ some k_ ≠ ((.slice Ao42 t409.length co42) : Value).ownBlock) (.slice Ao33 t397.length co33) t397) ∧ Aside0 (Kd.R (Kd.int .u8) 5 wc w.heap.size (fun k_ => some k_ ≠ ((.slice Ao25 t384.length co25) : Value).ownBlock ∧ some k_ ≠ ((.slice Ao33 t397.length co33) : Value).ownBlock) (.slice Ao42 t409.length co42) t409) ∧ Aside0 (wc.heap[gb363]? = some (.cells #[.int .i64 a0_0, .int .i64 a0_1, .int .i64 a0_2, .int .i64 a0_3, .int .i64 a0_4, .int .i64 a0_5, .bool a0_6, .bool a0_7, (.slice A0_8 l0_8.length c0_8)] 52 (0, 0))) ∧ Aside0 (wc.heap[gb388]? = some (.cells #[.int .i64 t376, .int .i64 t377, .int .i64 t378, .int .i64 t379, .int .i64 t380, .int .i64 t381, .bool t382, .bool t383, (.slice Ao25 t384.length co25)] 37 (0, 0))) ∧ Aside0 (wc.heap[gb400]? = some (.cells #[.int .i64 t389, .int .i64 t390, .int .i64 t391, .int .i64 t392, .int .i64 t393, .int .i64 t394, .bool t395, .bool t396, (.slice Ao33 t397.length co33)] 37 (0, 0))) ∧ Aside0 (wc.heap[gb413]? = some (.cells #[.int .i64 t401, .int .i64 t402, .int .i64 t403, .int .i64 t404, .int .i64 t405, .int .i64 t406, .bool t407, .bool t408, (.slice Ao42 t409.length co42)] 37 (0, 0))) ∧ Aside0 (Below w.heap.size w wc))
 case first =>
  have H := HC14.out
  clear HC14
  replace H := Option.bind_eq_some_iff.mp H
  obtain ⟨t414, A440, H⟩ := H
  (try dsimp only at H)
  have A44 := mk_ A440
  clear A440
  by_cases c45 : t414 = true
  ·subst c45
   rw [if_pos rfl] at H
   have H' := mk_ H
   clear H
   have hnb46 := NB413_363.out
   have hnc46 := NB363_413.out
   have hnb47 := NB413_388.out
   have hnc47 := NB388_413.out
   have hnb48 := NB413_400.out
   have hnc48 := NB400_413.out
   obtain ⟨hcz49_0, hcz49_1, hcz49_2, hcz49_3, hcz49_4, hcz49_5, hcz49_6, hcz49_7, hcz49_8, hfz49_0, hfz49_1, hfz49_2, hfz49_3, hfz49_4, hfz49_5, hfz49_6, hfz49_7, hfz49_8⟩ := cells9_ BK413.out
   have hnb50 := NB388_363.out
   have hnc50 := NB363_388.out
   have hnb51 := NB388_400.out
   have hnc51 := NB400_388.out
   obtain ⟨hcz52_0, hcz52_1, hcz52_2, hcz52_3, hcz52_4, hcz52_5, hcz52_6, hcz52_7, hcz52_8, hfz52_0, hfz52_1, hfz52_2, hfz52_3, hfz52_4, hfz52_5, hfz52_6, hfz52_7, hfz52_8⟩ := cells9_ BK388.out
   go_wp2_with (first | ((with_reducible refine gate_callee (f := 28) rfl ?_); refine goesL_ (some 46) rfl rfl Try.func28 (by kernel_rfl) rfl #[.agg #[.int .i64 t401, .int .i64 t402, .int .i64 t403, .int .i64 t404, .int .i64 t405, .int .i64 t406, .bool t407, .bool t408, .slice Ao42 t409.length co42], .agg #[.int .i64 t376, .int .i64 t377, .int .i64 t378, .int .i64 t379, .int .i64 t380, .int .i64 t381, .bool t382, .bool t383, .slice Ao25 t384.length co25]] rfl (by (try simp only [lm_, lo_, ln_]); try rfl) ?_; (with_reducible refine (laws_eqPacket.calls k t401 t402 t403 t404 t405 t406 t407 t408 _ _ t409 t376 t377 t378 t379 t380 t381 t382 t383 _ _ t384 true _ ?side1 ?side2 ?side3 ?side4 A44.out).mono ?_); (case side1 => repeat (first | exact (Kd.R_reads' HO411.out).2.2 | (with_reducible refine Kd.C_alloc ?_ _) | (with_reducible refine Kd.C_drewN ?_ _) | (with_reducible refine Kd.C_drew ?_))); (case side2 => exact (Kd.R_reads' HO411.out).2.1); (case side3 => repeat (first | exact (Kd.R_reads' HO386.out).2.2 | (with_reducible refine Kd.C_alloc ?_ _) | (with_reducible refine Kd.C_drewN ?_ _) | (with_reducible refine Kd.C_drew ?_))); (case side4 => exact (Kd.R_reads' HO386.out).2.1); rintro e w53 ⟨rfl, hb⟩; refine ⟨_, rfl, ?_⟩; replace HO375 := mk_ (Kd.R_below (Kd.ur_ HO375.out) hb); replace HO386 := mk_ (Kd.R_below (Kd.ur_ HO386.out) hb); replace HO399 := mk_ (Kd.R_below (Kd.ur_ HO399.out) hb); replace HO411 := mk_ (Kd.R_below (Kd.ur_ HO411.out) hb); replace BK363 := mk_ (blk_below (u_ BK363.out) hb); replace BK388 := mk_ (blk_below (u_ BK388.out) hb); replace BK400 := mk_ (blk_below (u_ BK400.out) hb); replace BK413 := mk_ (blk_below (u_ BK413.out) hb); replace HB := mk_ (below_step (us_ HB.out) hb)))
   go_meet
   case rel => exact ⟨_, ((t412 != t387)), (by first | rfl | (simp; done) | (simp [*]; done)), H', ⟨by first | omega | exact Nat.le_refl _⟩, ⟨by (with_reducible repeat (first | apply Kd.R_alloc | apply Kd.R_drewN | apply Kd.R_drew)); exact Kd.R_mono HO386.out (fun _ hk => by first | exact ⟨hk.2.1, hk.2.2⟩ | exact hk.1 | exact hk | exact ⟨hk.1, hk.2⟩ | exact ⟨.inr hk.1, hk.2⟩ | simp only [hk, ne_eq, not_false_eq_true, and_self])⟩, ⟨by (with_reducible repeat (first | apply Kd.R_alloc | apply Kd.R_drewN | apply Kd.R_drew)); exact Kd.R_mono HO399.out (fun _ hk => by first | exact ⟨hk.2.1, hk.2.2⟩ | exact hk.1 | exact hk | exact ⟨hk.1, hk.2⟩ | exact ⟨.inr hk.1, hk.2⟩ | simp only [hk, ne_eq, not_false_eq_true, and_self])⟩, ⟨by (with_reducible repeat (first | apply Kd.R_alloc | apply Kd.R_drewN | apply Kd.R_drew)); exact Kd.R_mono HO411.out (fun _ hk => by first | exact ⟨hk.2.1, hk.2.2⟩ | exact hk.1 | exact hk | exact ⟨hk.1, hk.2⟩ | exact ⟨.inr hk.1, hk.2⟩ | simp only [hk, ne_eq, not_false_eq_true, and_self])⟩, ⟨u_ BK363.out⟩, ⟨u_ BK388.out⟩, ⟨u_ BK400.out⟩, ⟨u_ BK413.out⟩, ⟨us_ HB.out⟩⟩
  replace c45 := Bool.eq_false_iff.mpr c45
  subst c45
  rw [if_neg (show ¬ (false = true) by decide)] at H
  have H' := mk_ H
  clear H
  have hnb54 := NB413_363.out
  have hnc54 := NB363_413.out
  have hnb55 := NB413_388.out
  have hnc55 := NB388_413.out
  have hnb56 := NB413_400.out
  have hnc56 := NB400_413.out
  obtain ⟨hcz57_0, hcz57_1, hcz57_2, hcz57_3, hcz57_4, hcz57_5, hcz57_6, hcz57_7, hcz57_8, hfz57_0, hfz57_1, hfz57_2, hfz57_3, hfz57_4, hfz57_5, hfz57_6, hfz57_7, hfz57_8⟩ := cells9_ BK413.out
  have hnb58 := NB388_363.out
  have hnc58 := NB363_388.out
  have hnb59 := NB388_400.out
  have hnc59 := NB400_388.out
  obtain ⟨hcz60_0, hcz60_1, hcz60_2, hcz60_3, hcz60_4, hcz60_5, hcz60_6, hcz60_7, hcz60_8, hfz60_0, hfz60_1, hfz60_2, hfz60_3, hfz60_4, hfz60_5, hfz60_6, hfz60_7, hfz60_8⟩ := cells9_ BK388.out
  go_wp2_with (first | ((with_reducible refine gate_callee (f := 28) rfl ?_); refine goesL_ (some 46) rfl rfl Try.func28 (by kernel_rfl) rfl #[.agg #[.int .i64 t401, .int .i64 t402, .int .i64 t403, .int .i64 t404, .int .i64 t405, .int .i64 t406, .bool t407, .bool t408, .slice Ao42 t409.length co42], .agg #[.int .i64 t376, .int .i64 t377, .int .i64 t378, .int .i64 t379, .int .i64 t380, .int .i64 t381, .bool t382, .bool t383, .slice Ao25 t384.length co25]] rfl (by (try simp only [lm_, lo_, ln_]); try rfl) ?_; (with_reducible refine (laws_eqPacket.calls k t401 t402 t403 t404 t405 t406 t407 t408 _ _ t409 t376 t377 t378 t379 t380 t381 t382 t383 _ _ t384 false _ ?side1 ?side2 ?side3 ?side4 A44.out).mono ?_); (case side1 => repeat (first | exact (Kd.R_reads' HO411.out).2.2 | (with_reducible refine Kd.C_alloc ?_ _) | (with_reducible refine Kd.C_drewN ?_ _) | (with_reducible refine Kd.C_drew ?_))); (case side2 => exact (Kd.R_reads' HO411.out).2.1); (case side3 => repeat (first | exact (Kd.R_reads' HO386.out).2.2 | (with_reducible refine Kd.C_alloc ?_ _) | (with_reducible refine Kd.C_drewN ?_ _) | (with_reducible refine Kd.C_drew ?_))); (case side4 => exact (Kd.R_reads' HO386.out).2.1); rintro e w61 ⟨rfl, hb⟩; refine ⟨_, rfl, ?_⟩; replace HO375 := mk_ (Kd.R_below (Kd.ur_ HO375.out) hb); replace HO386 := mk_ (Kd.R_below (Kd.ur_ HO386.out) hb); replace HO399 := mk_ (Kd.R_below (Kd.ur_ HO399.out) hb); replace HO411 := mk_ (Kd.R_below (Kd.ur_ HO411.out) hb); replace BK363 := mk_ (blk_below (u_ BK363.out) hb); replace BK388 := mk_ (blk_below (u_ BK388.out) hb); replace BK400 := mk_ (blk_below (u_ BK400.out) hb); replace BK413 := mk_ (blk_below (u_ BK413.out) hb); replace HB := mk_ (below_step (us_ HB.out) hb)))
  go_meet
  case rel => exact ⟨_, (true), (by first | rfl | (simp; done) | (simp [*]; done)), H', ⟨by first | omega | exact Nat.le_refl _⟩, ⟨by (with_reducible repeat (first | apply Kd.R_alloc | apply Kd.R_drewN | apply Kd.R_drew)); exact Kd.R_mono HO386.out (fun _ hk => by first | exact ⟨hk.2.1, hk.2.2⟩ | exact hk.1 | exact hk | exact ⟨hk.1, hk.2⟩ | exact ⟨.inr hk.1, hk.2⟩ | simp only [hk, ne_eq, not_false_eq_true, and_self])⟩, ⟨by (with_reducible repeat (first | apply Kd.R_alloc | apply Kd.R_drewN | apply Kd.R_drew)); exact Kd.R_mono HO399.out (fun _ hk => by first | exact ⟨hk.2.1, hk.2.2⟩ | exact hk.1 | exact hk | exact ⟨hk.1, hk.2⟩ | exact ⟨.inr hk.1, hk.2⟩ | simp only [hk, ne_eq, not_false_eq_true, and_self])⟩, ⟨by (with_reducible repeat (first | apply Kd.R_alloc | apply Kd.R_drewN | apply Kd.R_drew)); exact Kd.R_mono HO411.out (fun _ hk => by first | exact ⟨hk.2.1, hk.2.2⟩ | exact hk.1 | exact hk | exact ⟨hk.1, hk.2⟩ | exact ⟨.inr hk.1, hk.2⟩ | simp only [hk, ne_eq, not_false_eq_true, and_self])⟩, ⟨u_ BK363.out⟩, ⟨u_ BK388.out⟩, ⟨u_ BK400.out⟩, ⟨u_ BK413.out⟩, ⟨us_ HB.out⟩⟩
 case rest =>
  clear HC14
  try clear c2
  try clear p2
  try clear c3
  try clear c4
  try clear c5
  try clear c6
  try clear c6b0
  try clear c23
  try clear c24
  try clear c25
  try clear c26
  try clear c27
  try clear c28
  try clear c30
  try clear c31
  try clear c38
  try clear c39
  try clear c40
  try clear c45
  try clear c46
  try clear c47
  try clear c48
  try clear c50
  try clear c51
  try clear c54
  try clear c55
  try clear c56
  try clear c58
  try clear c59
  try clear hcz16_0
  try clear hcz16_1
  try clear hcz16_2
  try clear hcz16_3
  try clear hcz16_4
  try clear hcz16_5
  try clear hcz16_6
  try clear hcz16_7
  try clear hcz16_8
  try clear hcz18_0
  try clear hcz18_1
  try clear hcz18_2
  try clear hcz18_3
  try clear hcz18_4
  try clear hcz18_5
  try clear hcz18_6
  try clear hcz18_7
  try clear hcz18_8
  try clear hcz24_0
  try clear hcz24_1
  try clear hcz24_2
  try clear hcz24_3
  try clear hcz24_4
  try clear hcz24_5
  try clear hcz24_6
  try clear hcz24_7
  try clear hcz24_8
  try clear hcz27_0
  try clear hcz27_1
  try clear hcz27_2
  try clear hcz27_3
  try clear hcz27_4
  try clear hcz27_5
  try clear hcz27_6
  try clear hcz27_7
  try clear hcz27_8
  try clear hcz32_0
  try clear hcz32_1
  try clear hcz32_2
  try clear hcz32_3
  try clear hcz32_4
  try clear hcz32_5
  try clear hcz32_6
  try clear hcz32_7
  try clear hcz32_8
  try clear hcz35_0
  try clear hcz35_1
  try clear hcz35_2
  try clear hcz35_3
  try clear hcz35_4
  try clear hcz35_5
  try clear hcz35_6
  try clear hcz35_7
  try clear hcz35_8
  try clear hcz41_0
  try clear hcz41_1
  try clear hcz41_2
  try clear hcz41_3
  try clear hcz41_4
  try clear hcz41_5
  try clear hcz41_6
  try clear hcz41_7
  try clear hcz41_8
  try clear hcz49_0
  try clear hcz49_1
  try clear hcz49_2
  try clear hcz49_3
  try clear hcz49_4
  try clear hcz49_5
  try clear hcz49_6
  try clear hcz49_7
  try clear hcz49_8
  try clear hcz52_0
  try clear hcz52_1
  try clear hcz52_2
  try clear hcz52_3
  try clear hcz52_4
  try clear hcz52_5
  try clear hcz52_6
  try clear hcz52_7
  try clear hcz52_8
  try clear hcz57_0
  try clear hcz57_1
  try clear hcz57_2
  try clear hcz57_3
  try clear hcz57_4
  try clear hcz57_5
  try clear hcz57_6
  try clear hcz57_7
  try clear hcz57_8
  try clear hcz60_0
  try clear hcz60_1
  try clear hcz60_2
  try clear hcz60_3
  try clear hcz60_4
  try clear hcz60_5
  try clear hcz60_6
  try clear hcz60_7
  try clear hcz60_8
  try clear hcz8_0
  try clear hcz8_1
  try clear hcz8_2
  try clear hcz8_3
  try clear hcz8_4
  try clear hcz8_5
  try clear hcz8_6
  try clear hcz8_7
  try clear hcz8_8
  try clear hfz16_0
  try clear hfz16_1
  try clear hfz16_2
  try clear hfz16_3
  try clear hfz16_4
  try clear hfz16_5
  try clear hfz16_6
  try clear hfz16_7
  try clear hfz16_8
  try clear hfz18_0
  try clear hfz18_1
  try clear hfz18_2
  try clear hfz18_3
  try clear hfz18_4
  try clear hfz18_5
  try clear hfz18_6
  try clear hfz18_7
  try clear hfz18_8
  try clear hfz24_0
  try clear hfz24_1
  try clear hfz24_2
  try clear hfz24_3
  try clear hfz24_4
  try clear hfz24_5
  try clear hfz24_6
  try clear hfz24_7
  try clear hfz24_8
  try clear hfz27_0
  try clear hfz27_1
  try clear hfz27_2
  try clear hfz27_3
  try clear hfz27_4
  try clear hfz27_5
  try clear hfz27_6
  try clear hfz27_7
  try clear hfz27_8
  try clear hfz32_0
  try clear hfz32_1
  try clear hfz32_2
  try clear hfz32_3
  try clear hfz32_4
  try clear hfz32_5
  try clear hfz32_6
  try clear hfz32_7
  try clear hfz32_8
  try clear hfz35_0
  try clear hfz35_1
  try clear hfz35_2
  try clear hfz35_3
  try clear hfz35_4
  try clear hfz35_5
  try clear hfz35_6
  try clear hfz35_7
  try clear hfz35_8
  try clear hfz41_0
  try clear hfz41_1
  try clear hfz41_2
  try clear hfz41_3
  try clear hfz41_4
  try clear hfz41_5
  try clear hfz41_6
  try clear hfz41_7
  try clear hfz41_8
  try clear hfz49_0
  try clear hfz49_1
  try clear hfz49_2
  try clear hfz49_3
  try clear hfz49_4
  try clear hfz49_5
  try clear hfz49_6
  try clear hfz49_7
  try clear hfz49_8
  try clear hfz52_0
  try clear hfz52_1
  try clear hfz52_2
  try clear hfz52_3
  try clear hfz52_4
  try clear hfz52_5
  try clear hfz52_6
  try clear hfz52_7
  try clear hfz52_8
  try clear hfz57_0
  try clear hfz57_1
  try clear hfz57_2
  try clear hfz57_3
  try clear hfz57_4
  try clear hfz57_5
  try clear hfz57_6
  try clear hfz57_7
  try clear hfz57_8
  try clear hfz60_0
  try clear hfz60_1
  try clear hfz60_2
  try clear hfz60_3
  try clear hfz60_4
  try clear hfz60_5
  try clear hfz60_6
  try clear hfz60_7
  try clear hfz60_8
  try clear hfz8_0
  try clear hfz8_1
  try clear hfz8_2
  try clear hfz8_3
  try clear hfz8_4
  try clear hfz8_5
  try clear hfz8_6
  try clear hfz8_7
  try clear hfz8_8
  obtain ⟨kq, x52_13, rfl, HA, HJ13, HO_389008, HO_401008, HO_414008, BK363, BK388, BK400, BK413, HB⟩ := hcut
  cases kq with
  | zero => exact absurd HA.out (by simp [laws_FnExactNoteAbout.j0])
  | succ kj13 =>
   have H := HA.out
   clear HA
   simp only [laws_FnExactNoteAbout.j0] at H
   by_cases c62 : x52_13 = true
   focus
    subst c62
    have H1 : (some false) = some r := by rw [if_pos rfl] at H; exact H
    clear H
    have H := H1
    clear H1
    obtain rfl := Option.some.inj H
   rotate_left
   focus
    replace c62 := Bool.eq_false_iff.mpr c62
    subst c62
    rw [if_neg (show ¬ (false = true) by decide)] at H
    replace H := Option.bind_eq_some_iff.mp H
    obtain ⟨⟨t415, t416, t417, t418, t419, t420, t421, t422, t423⟩, A630, H⟩ := H
    (try dsimp only at H)
    have A63 := mk_ A630
    clear A630
    replace H := Option.bind_eq_some_iff.mp H
    obtain ⟨t426, A640, H⟩ := H
    (try dsimp only at H)
    have A64 := mk_ A640
    clear A640
    by_cases c65 : t426 = true
    rotate_left
    focus
     replace c65 := Bool.eq_false_iff.mpr c65
     subst c65
     have H1 : (some false) = some r := by rw [if_neg (show ¬ (false = true) by decide)] at H; exact H
     clear H
     have H := H1
     clear H1
     obtain rfl := Option.some.inj H
    rotate_left
    focus
     subst c65
     rw [if_pos rfl] at H
     replace H := Option.bind_eq_some_iff.mp H
     obtain ⟨⟨t427, t428⟩, A660, H⟩ := H
     (try dsimp only at H)
     have A66 := mk_ A660
     clear A660
     have HC67 := mk_ H
     clear H
    rotate_left
   rotate_left 2
   all_goals
    try go_wp2
   ·go_ret
    exact ⟨by first | rfl | (simp [errW_none, errW_some] <;> rfl) | (simp [*, errW_none, errW_some] <;> rfl), us_ HB.out⟩
   all_goals
    have n0_ := mk_ (Kd.R_drew HO_389008.out)
    have n1_ := mk_ (Kd.R_drew HO_401008.out)
    have n2_ := mk_ (Kd.R_drew HO_414008.out)
    have n3_ := mk_ (blk_drew BK363.out)
    have n4_ := mk_ (blk_drew BK388.out)
    have n5_ := mk_ (blk_drew BK400.out)
    have n6_ := mk_ (blk_drew BK413.out)
    have n7_ := mk_ (below_drew1 HB.out)
    clear HO_389008
    clear HO_401008
    clear HO_414008
    clear BK363
    clear BK388
    clear BK400
    clear BK413
    clear HB
    have HO_389008 := n0_
    have HO_401008 := n1_
    have HO_414008 := n2_
    have BK363 := n3_
    have BK388 := n4_
    have BK400 := n5_
    have BK413 := n6_
    have HB := n7_
    clear n0_ n1_ n2_ n3_ n4_ n5_ n6_ n7_
    refine start_ (n := 5) (S := fun w' => w'.cell? ⟨gb400, 0, none⟩ = some (.int .i64 t389) ∧ w'.cell? ⟨gb400, 1, none⟩ = some (.int .i64 t390) ∧ w'.cell? ⟨gb400, 2, none⟩ = some (.int .i64 t391) ∧ w'.cell? ⟨gb400, 3, none⟩ = some (.int .i64 t392) ∧ w'.cell? ⟨gb400, 4, none⟩ = some (.int .i64 t393) ∧ w'.cell? ⟨gb400, 5, none⟩ = some (.int .i64 t394) ∧ w'.cell? ⟨gb400, 6, none⟩ = some (.bool t395) ∧ w'.cell? ⟨gb400, 7, none⟩ = some (.bool t396) ∧ w'.cell? ⟨gb400, 8, none⟩ = some (.slice Ao33 t397.length co33) ∧ w'.cell? ⟨gb363, 0, none⟩ = some (.int .i64 a0_0) ∧ w'.cell? ⟨gb363, 1, none⟩ = some (.int .i64 a0_1) ∧ w'.cell? ⟨gb363, 2, none⟩ = some (.int .i64 a0_2) ∧ w'.cell? ⟨gb363, 3, none⟩ = some (.int .i64 a0_3) ∧ w'.cell? ⟨gb363, 4, none⟩ = some (.int .i64 a0_4) ∧ w'.cell? ⟨gb363, 5, none⟩ = some (.int .i64 a0_5) ∧ w'.cell? ⟨gb363, 6, none⟩ = some (.bool a0_6) ∧ w'.cell? ⟨gb363, 7, none⟩ = some (.bool a0_7) ∧ w'.cell? ⟨gb363, 8, none⟩ = some (.slice A0_8 l0_8.length c0_8)) (ds := []) #[false, false, false, false, false] (by kernel_rfl) rfl rfl ⟨(blk_cell BK400.out 0).trans rfl, (blk_cell BK400.out 1).trans rfl, (blk_cell BK400.out 2).trans rfl, (blk_cell BK400.out 3).trans rfl, (blk_cell BK400.out 4).trans rfl, (blk_cell BK400.out 5).trans rfl, (blk_cell BK400.out 6).trans rfl, (blk_cell BK400.out 7).trans rfl, (blk_cell BK400.out 8).trans rfl, (blk_cell BK363.out 0).trans rfl, (blk_cell BK363.out 1).trans rfl, (blk_cell BK363.out 2).trans rfl, (blk_cell BK363.out 3).trans rfl, (blk_cell BK363.out 4).trans rfl, (blk_cell BK363.out 5).trans rfl, (blk_cell BK363.out 6).trans rfl, (blk_cell BK363.out 7).trans rfl, (blk_cell BK363.out 8).trans rfl⟩ (fun hHeld => ?_)
    generalize wc.drew = w2020 at HO_389008 HO_401008 HO_414008 BK363 BK388 BK400 BK413 HB hHeld ⊢
    refine take_ (i := 0) (N := some 53) (v := ?_) (a' := ?_) #[true, false, false, false, false] rfl rfl (by kernel_rfl) (fun _ _ _ h => h) (Or.inl ⟨by rfl, ?_⟩) hHeld ?_ ?_
    rotate_left
    ·rintro w' ⟨s2140, s2141, s2142, s2143, s2144, s2145, s2146, s2147, s2148, s2149, s2150, s2151, s2152, s2153, s2154, s2155, s2156, s2157⟩
     go_simp
     with_reducible rfl
    rotate_left
    ·simp only [Act.put, la_, lz_, ls_, i64_w, i32_w]
     rfl
    refine take_ (i := 1) (N := some 54) (v := ?_) (a' := ?_) #[true, true, false, false, false] rfl rfl (by kernel_rfl) (fun _ _ _ h => h) (Or.inl ⟨by rfl, ?_⟩) hHeld ?_ ?_
    rotate_left
    ·rintro w' ⟨s2140, s2141, s2142, s2143, s2144, s2145, s2146, s2147, s2148, s2149, s2150, s2151, s2152, s2153, s2154, s2155, s2156, s2157⟩
     go_simp
     with_reducible rfl
    rotate_left
    ·simp only [Act.put, la_, lz_, ls_, i64_w, i32_w]
     rfl
    refine one_ (i := 2) (N := some 55) #[true, true, true, false, false] rfl rfl (by kernel_rfl) (by decide) (fun K hK => ?_)
    refine goes_ Try.func27 (by kernel_rfl) rfl #[.agg #[.int .i64 a0_0, .int .i64 a0_1, .int .i64 a0_2, .int .i64 a0_3, .int .i64 a0_4, .int .i64 a0_5, .bool a0_6, .bool a0_7, .slice A0_8 l0_8.length c0_8]] (by rfl) rfl rfl (by (try simp only [lm_, lo_, ln_]); try rfl) ?_
    with_reducible refine (laws_toPacket.calls kj13 a0_0 a0_1 a0_2 a0_3 a0_4 a0_5 a0_6 a0_7 _ _ l0_8 t415 t416 t417 t418 t419 t420 t421 t422 t423 _ ?side1 ?side2 A63.out).mono ?_
    (case side1 => repeat (first | exact (Kd.C_below HR0_8.out HB.out) | (with_reducible refine Kd.C_alloc ?_ _) | (with_reducible refine Kd.C_drewN ?_ _) | (with_reducible refine Kd.C_drew ?_)))
    (case side2 => exact HC0_8.out)
    rintro e w2660 ⟨v2661, rfl, ho0, hb⟩
    refine ⟨_, rfl, ?_⟩
    have n0_ := mk_ (Kd.R_elder' (Kd.ur_ HO_389008.out) (Kd.R_base ho0) hb)
    have n1_ := mk_ (Kd.R_elder' (Kd.ur_ HO_401008.out) (Kd.R_base ho0) hb)
    have n2_ := mk_ (Kd.R_elder' (Kd.ur_ HO_414008.out) (Kd.R_base ho0) hb)
    have n3_ := mk_ (Kd.R_lower (Kd.R_new' (Kd.R_new' (Kd.R_new' ho0 (Kd.R_lt (Kd.ur_ HO_389008.out))) (Kd.R_lt (Kd.ur_ HO_401008.out))) (Kd.R_lt (Kd.ur_ HO_414008.out))) (below_size (us_ HB.out)))
    have n4_ := mk_ (blk_below (u_ BK363.out) hb)
    have n5_ := mk_ (blk_below (u_ BK388.out) hb)
    have n6_ := mk_ (blk_below (u_ BK400.out) hb)
    have n7_ := mk_ (blk_below (u_ BK413.out) hb)
    have n8_ := mk_ (below_step (us_ HB.out) hb)
    clear HO_389008
    clear HO_401008
    clear HO_414008
    clear BK363
    clear BK388
    clear BK400
    clear BK413
    clear HB
    have HO_389008 := n0_
    have HO_401008 := n1_
    have HO_414008 := n2_
    have HO425 := n3_
    have BK363 := n4_
    have BK388 := n5_
    have BK400 := n6_
    have BK413 := n7_
    have HB := n8_
    clear n0_ n1_ n2_ n3_ n4_ n5_ n6_ n7_ n8_
    (try clear hb)
    (try clear hb2)
    (try clear hk)
    (try clear hi)
    (try clear ho0)
    obtain ⟨Ao4020, co4020, eo4020⟩ := Kd.R_slice HO425.out
    (first | subst eo4020 | (injection eo4020 with f1_ f2_ f3_; have f4_ := f1_.symm; have f5_ := f3_.symm; clear f1_ f2_ f3_; subst f4_; subst f5_))
    refine hK.out _ _ ⟨(blk_cell BK400.out 0).trans rfl, (blk_cell BK400.out 1).trans rfl, (blk_cell BK400.out 2).trans rfl, (blk_cell BK400.out 3).trans rfl, (blk_cell BK400.out 4).trans rfl, (blk_cell BK400.out 5).trans rfl, (blk_cell BK400.out 6).trans rfl, (blk_cell BK400.out 7).trans rfl, (blk_cell BK400.out 8).trans rfl, (blk_cell BK363.out 0).trans rfl, (blk_cell BK363.out 1).trans rfl, (blk_cell BK363.out 2).trans rfl, (blk_cell BK363.out 3).trans rfl, (blk_cell BK363.out 4).trans rfl, (blk_cell BK363.out 5).trans rfl, (blk_cell BK363.out 6).trans rfl, (blk_cell BK363.out 7).trans rfl, (blk_cell BK363.out 8).trans rfl⟩ (fun hHeld => ?_)
    clear hK K
    refine norm_ (a' := ?_) ?_ ?_
    rotate_left
    ·show Act.put _ (some 55) _ = _
     simp only [Act.put, la_, lz_, ls_, i64_w, i32_w]
     rfl
    refine one_ (i := 3) (N := some 56) #[true, true, true, true, false] rfl rfl (by kernel_rfl) (by decide) (fun K hK => ?_)
    refine goes_ Try.func28 (by kernel_rfl) rfl #[.agg #[.int .i64 t389, .int .i64 t390, .int .i64 t391, .int .i64 t392, .int .i64 t393, .int .i64 t394, .bool t395, .bool t396, .slice Ao33 t397.length co33], .agg #[.int .i64 t415, .int .i64 t416, .int .i64 t417, .int .i64 t418, .int .i64 t419, .int .i64 t420, .bool t421, .bool t422, .slice Ao4020 t423.length co4020]] (by rfl) rfl rfl (by (try simp only [lm_, lo_, ln_]); try rfl) ?_
   ·with_reducible refine (laws_eqPacket.calls kj13 t389 t390 t391 t392 t393 t394 t395 t396 _ _ t397 t415 t416 t417 t418 t419 t420 t421 t422 _ _ t423 false _ ?side1 ?side2 ?side3 ?side4 A64.out).mono ?_
    (case side1 => repeat (first | exact (Kd.R_reads' HO_401008.out).2.2 | (with_reducible refine Kd.C_alloc ?_ _) | (with_reducible refine Kd.C_drewN ?_ _) | (with_reducible refine Kd.C_drew ?_)))
    (case side2 => exact (Kd.R_reads' HO_401008.out).2.1)
    (case side3 => repeat (first | exact (Kd.R_reads' HO425.out).2.2 | (with_reducible refine Kd.C_alloc ?_ _) | (with_reducible refine Kd.C_drewN ?_ _) | (with_reducible refine Kd.C_drew ?_)))
    (case side4 => exact (Kd.R_reads' HO425.out).2.1)
    rintro e w4580 ⟨rfl, hb⟩
    refine ⟨_, rfl, ?_⟩
    have n0_ := mk_ (Kd.R_below (Kd.ur_ HO_389008.out) hb)
    have n1_ := mk_ (Kd.R_below (Kd.ur_ HO_401008.out) hb)
    have n2_ := mk_ (Kd.R_below (Kd.ur_ HO_414008.out) hb)
    have n3_ := mk_ (Kd.R_below (Kd.ur_ HO425.out) hb)
    have n4_ := mk_ (blk_below (u_ BK363.out) hb)
    have n5_ := mk_ (blk_below (u_ BK388.out) hb)
    have n6_ := mk_ (blk_below (u_ BK400.out) hb)
    have n7_ := mk_ (blk_below (u_ BK413.out) hb)
    have n8_ := mk_ (below_step (us_ HB.out) hb)
    clear HO_389008
    clear HO_401008
    clear HO_414008
    clear HO425
    clear BK363
    clear BK388
    clear BK400
    clear BK413
    clear HB
    have HO_389008 := n0_
    have HO_401008 := n1_
    have HO_414008 := n2_
    have HO425 := n3_
    have BK363 := n4_
    have BK388 := n5_
    have BK400 := n6_
    have BK413 := n7_
    have HB := n8_
    clear n0_ n1_ n2_ n3_ n4_ n5_ n6_ n7_ n8_
    (try clear hb)
    (try clear hb2)
    (try clear hk)
    (try clear hi)
    refine hK.out _ _ ⟨(blk_cell BK400.out 0).trans rfl, (blk_cell BK400.out 1).trans rfl, (blk_cell BK400.out 2).trans rfl, (blk_cell BK400.out 3).trans rfl, (blk_cell BK400.out 4).trans rfl, (blk_cell BK400.out 5).trans rfl, (blk_cell BK400.out 6).trans rfl, (blk_cell BK400.out 7).trans rfl, (blk_cell BK400.out 8).trans rfl, (blk_cell BK363.out 0).trans rfl, (blk_cell BK363.out 1).trans rfl, (blk_cell BK363.out 2).trans rfl, (blk_cell BK363.out 3).trans rfl, (blk_cell BK363.out 4).trans rfl, (blk_cell BK363.out 5).trans rfl, (blk_cell BK363.out 6).trans rfl, (blk_cell BK363.out 7).trans rfl, (blk_cell BK363.out 8).trans rfl⟩ (fun hHeld => ?_)
    clear hK K
    refine norm_ (a' := ?_) ?_ ?_
    rotate_left
    ·show Act.put _ (some 56) _ = _
     simp only [Act.put, la_, lz_, ls_, i64_w, i32_w]
     rfl
    refine pure_ (i := 4) (N := some 57) (v := ?_) (a' := ?_) #[true, true, true, true, true] rfl rfl (by kernel_rfl) (fun _ _ _ h => h) (Or.inl ⟨by rfl, ?_⟩) ?_ ?_
    rotate_left
    ·intro w'
     go_simp
     with_reducible rfl
    rotate_left
    ·simp only [Act.put, la_, lz_, ls_, i64_w, i32_w]
     rfl
    refine done_ (by kernel_rfl) ?_
    try go_wp2
    go_ret
    exact ⟨by first | rfl | (simp [errW_none, errW_some] <;> rfl) | (simp [*, errW_none, errW_some] <;> rfl), us_ HB.out⟩
   ·with_reducible refine (laws_eqPacket.calls kj13 t389 t390 t391 t392 t393 t394 t395 t396 _ _ t397 t415 t416 t417 t418 t419 t420 t421 t422 _ _ t423 true _ ?side1 ?side2 ?side3 ?side4 A64.out).mono ?_
    (case side1 => repeat (first | exact (Kd.R_reads' HO_401008.out).2.2 | (with_reducible refine Kd.C_alloc ?_ _) | (with_reducible refine Kd.C_drewN ?_ _) | (with_reducible refine Kd.C_drew ?_)))
    (case side2 => exact (Kd.R_reads' HO_401008.out).2.1)
    (case side3 => repeat (first | exact (Kd.R_reads' HO425.out).2.2 | (with_reducible refine Kd.C_alloc ?_ _) | (with_reducible refine Kd.C_drewN ?_ _) | (with_reducible refine Kd.C_drew ?_)))
    (case side4 => exact (Kd.R_reads' HO425.out).2.1)
    rintro e w4580 ⟨rfl, hb⟩
    refine ⟨_, rfl, ?_⟩
    have n0_ := mk_ (Kd.R_below (Kd.ur_ HO_389008.out) hb)
    have n1_ := mk_ (Kd.R_below (Kd.ur_ HO_401008.out) hb)
    have n2_ := mk_ (Kd.R_below (Kd.ur_ HO_414008.out) hb)
    have n3_ := mk_ (Kd.R_below (Kd.ur_ HO425.out) hb)
    have n4_ := mk_ (blk_below (u_ BK363.out) hb)
    have n5_ := mk_ (blk_below (u_ BK388.out) hb)
    have n6_ := mk_ (blk_below (u_ BK400.out) hb)
    have n7_ := mk_ (blk_below (u_ BK413.out) hb)
    have n8_ := mk_ (below_step (us_ HB.out) hb)
    clear HO_389008
    clear HO_401008
    clear HO_414008
    clear HO425
    clear BK363
    clear BK388
    clear BK400
    clear BK413
    clear HB
    have HO_389008 := n0_
    have HO_401008 := n1_
    have HO_414008 := n2_
    have HO425 := n3_
    have BK363 := n4_
    have BK388 := n5_
    have BK400 := n6_
    have BK413 := n7_
    have HB := n8_
    clear n0_ n1_ n2_ n3_ n4_ n5_ n6_ n7_ n8_
    (try clear hb)
    (try clear hb2)
    (try clear hk)
    (try clear hi)
    refine hK.out _ _ ⟨(blk_cell BK400.out 0).trans rfl, (blk_cell BK400.out 1).trans rfl, (blk_cell BK400.out 2).trans rfl, (blk_cell BK400.out 3).trans rfl, (blk_cell BK400.out 4).trans rfl, (blk_cell BK400.out 5).trans rfl, (blk_cell BK400.out 6).trans rfl, (blk_cell BK400.out 7).trans rfl, (blk_cell BK400.out 8).trans rfl, (blk_cell BK363.out 0).trans rfl, (blk_cell BK363.out 1).trans rfl, (blk_cell BK363.out 2).trans rfl, (blk_cell BK363.out 3).trans rfl, (blk_cell BK363.out 4).trans rfl, (blk_cell BK363.out 5).trans rfl, (blk_cell BK363.out 6).trans rfl, (blk_cell BK363.out 7).trans rfl, (blk_cell BK363.out 8).trans rfl⟩ (fun hHeld => ?_)
    clear hK K
    refine norm_ (a' := ?_) ?_ ?_
    rotate_left
    ·show Act.put _ (some 56) _ = _
     simp only [Act.put, la_, lz_, ls_, i64_w, i32_w]
     rfl
    refine pure_ (i := 4) (N := some 57) (v := ?_) (a' := ?_) #[true, true, true, true, true] rfl rfl (by kernel_rfl) (fun _ _ _ h => h) (Or.inl ⟨by rfl, ?_⟩) ?_ ?_
    rotate_left
    ·intro w'
     go_simp
     with_reducible rfl
    rotate_left
    ·simp only [Act.put, la_, lz_, ls_, i64_w, i32_w]
     rfl
    refine done_ (by kernel_rfl) ?_
    have hnb6380 := NB400_363.out
    have hnc6380 := NB363_400.out
    have hnb6460 := NB400_388.out
    have hnc6460 := NB388_400.out
    have hnb6540 := NB400_413.out
    have hnc6540 := NB413_400.out
    obtain ⟨hcz6620_0, hcz6620_1, hcz6620_2, hcz6620_3, hcz6620_4, hcz6620_5, hcz6620_6, hcz6620_7, hcz6620_8, hfz6620_0, hfz6620_1, hfz6620_2, hfz6620_3, hfz6620_4, hfz6620_5, hfz6620_6, hfz6620_7, hfz6620_8⟩ := cells9_ BK400.out
    go_upto_region 14 with (first | ((with_reducible refine gate_callee (f := 29) rfl ?_); refine goesL_ (some 60) rfl rfl Try.func29 (by kernel_rfl) rfl #[.agg #[.int .i64 t389, .int .i64 t390, .int .i64 t391, .int .i64 t392, .int .i64 t393, .int .i64 t394, .bool t395, .bool t396, .slice Ao33 t397.length co33], .int .i64 1] rfl (by (try simp only [lm_, lo_, ln_]); try rfl) ?_; (with_reducible refine (laws_markPacket.calls kj13 t389 t390 t391 t392 t393 t394 t395 t396 (fun k_ => some k_ = (.slice Ao33 t397.length co33 : Value).ownBlock) (.slice Ao33 t397.length co33) t397 1 t427 t428 w _ ?side1 ?side2 A66.out).mono ?_); (case side1 => repeat (first | (with_reducible first | exact HB.out | apply na_ | apply nn_ | apply nw_ | refine bs_ ?_ GE363.out | refine bs_ ?_ GE388.out | refine bs_ ?_ GE400.out | refine bs_ ?_ GE413.out) | exact HB.out)); (case side2 => exact Kd.R_tight rfl HO_401008.out); rintro e w6660 ⟨rfl, hy2140, hb, hkp⟩; refine ⟨_, rfl, ?_⟩; replace HO_389008 := mk_ (Kd.R_mono (ok' := fun k_ => some k_ ≠ (.slice Ao33 t397.length co33 : Value).ownBlock ∧ some k_ ≠ (.slice Ao42 t409.length co42 : Value).ownBlock ∧ some k_ ≠ (.slice Ao4020 t423.length co4020 : Value).ownBlock) (Kd.R_keptB (HO_389008.out) hkp (fun k_ hk_ hs_ => by first | exact hk_.1.1 hs_ | exact absurd hs_ (by simp only [hk_, ne_eq, not_false_eq_true]))) (fun k_ hk_ => by first | exact ⟨hk_.1.1.1, hk_.1.1.2, hk_.1.2⟩ | simp only [hk_, ne_eq, not_false_eq_true, and_self])); have n1_ := mk_ (Kd.R_reok rfl hy2140 (fun k_ e_ => HO_401008.out.1 k_ e_)); replace HO_414008 := mk_ (Kd.R_mono (ok' := fun k_ => some k_ ≠ (.slice Ao25 t384.length co25 : Value).ownBlock ∧ some k_ ≠ (.slice Ao33 t397.length co33 : Value).ownBlock ∧ some k_ ≠ (.slice Ao4020 t423.length co4020 : Value).ownBlock) (Kd.R_keptB (HO_414008.out) hkp (fun k_ hk_ hs_ => by first | exact hk_.1.2 hs_ | exact absurd hs_ (by simp only [hk_, ne_eq, not_false_eq_true]))) (fun k_ hk_ => by first | exact ⟨hk_.1.1.1, hk_.1.1.2, hk_.1.2⟩ | simp only [hk_, ne_eq, not_false_eq_true, and_self])); replace BK363 := mk_ (blk_kept (u_ BK363.out) hkp (fun hs_ => (fun e_ => (Kd.R_ne HO_401008.out BK363.out (by decide)) e_) hs_)); replace BK388 := mk_ (blk_kept (u_ BK388.out) hkp (fun hs_ => (fun e_ => (Kd.R_ne HO_401008.out BK388.out (by decide)) e_) hs_)); replace BK400 := mk_ (blk_kept (u_ BK400.out) hkp (fun hs_ => (fun e_ => (Kd.R_ne HO_401008.out BK400.out (by decide)) e_) hs_)); replace BK413 := mk_ (blk_kept (u_ BK413.out) hkp (fun hs_ => (fun e_ => (Kd.R_ne HO_401008.out BK413.out (by decide)) e_) hs_)); replace HO425 := mk_ (Kd.R_mono (ok' := fun k_ => some k_ ≠ (.slice Ao25 t384.length co25 : Value).ownBlock ∧ some k_ ≠ (.slice Ao33 t397.length co33 : Value).ownBlock ∧ some k_ ≠ (.slice Ao42 t409.length co42 : Value).ownBlock) (Kd.R_keptB (HO425.out) hkp (fun k_ hk_ hs_ => by first | exact hk_.1.2 hs_ | exact absurd hs_ (by simp only [hk_, ne_eq, not_false_eq_true]))) (fun k_ hk_ => by first | exact ⟨hk_.1.1.1.2, hk_.1.1.2, hk_.1.2⟩ | simp only [hk_, ne_eq, not_false_eq_true, and_self])); replace HB := mk_ (hb); replace HO_401008 := n1_; clear n1_; (try clear hkp)))
    (try simp only [Act.put, la_, lz_, ls_])
    go_cut [73] (fun v6460 wc => ∃ (kq : Nat) (x73_66 : Bool), v6460 = .bool x73_66 ∧ Aside0 (laws_FnExactNoteAbout.j1 kq a1 a2 a3 t387 x73_66 a0_0 a0_1 a0_2 a0_3 a0_4 a0_5 a0_6 a0_7 l0_8 t376 t377 t378 t379 t380 t381 t382 t383 t384 t401 t402 t403 t404 t405 t406 t407 t408 t409 = some r) ∧ Aside0 (kq ≤ kj13) ∧ Aside0 (Kd.R (Kd.int .u8) 5 wc w.heap.size (fun k_ => some k_ ≠ ((.slice Ao33 t397.length co33) : Value).ownBlock ∧ some k_ ≠ ((.slice Ao42 t409.length co42) : Value).ownBlock) (.slice Ao25 t384.length co25) t384) ∧ Aside0 (Kd.R (Kd.int .u8) 5 wc w.heap.size (fun k_ => some k_ ≠ ((.slice Ao25 t384.length co25) : Value).ownBlock ∧ some k_ ≠ ((.slice Ao42 t409.length co42) : Value).ownBlock) (.slice Ao33 t397.length co33) t428) ∧ Aside0 (Kd.R (Kd.int .u8) 5 wc w.heap.size (fun k_ => some k_ ≠ ((.slice Ao25 t384.length co25) : Value).ownBlock ∧ some k_ ≠ ((.slice Ao33 t397.length co33) : Value).ownBlock) (.slice Ao42 t409.length co42) t409) ∧ Aside0 (wc.heap[gb363]? = some (.cells #[.int .i64 a0_0, .int .i64 a0_1, .int .i64 a0_2, .int .i64 a0_3, .int .i64 a0_4, .int .i64 a0_5, .bool a0_6, .bool a0_7, (.slice A0_8 l0_8.length c0_8)] 52 (0, 0))) ∧ Aside0 (wc.heap[gb388]? = some (.cells #[.int .i64 t376, .int .i64 t377, .int .i64 t378, .int .i64 t379, .int .i64 t380, .int .i64 t381, .bool t382, .bool t383, (.slice Ao25 t384.length co25)] 37 (0, 0))) ∧ Aside0 (wc.heap[gb400]? = some (.cells #[.int .i64 t389, .int .i64 t390, .int .i64 t391, .int .i64 t392, .int .i64 t393, .int .i64 t394, .bool t395, .bool t396, (.slice Ao33 t397.length co33)] 37 (0, 0))) ∧ Aside0 (wc.heap[gb413]? = some (.cells #[.int .i64 t401, .int .i64 t402, .int .i64 t403, .int .i64 t404, .int .i64 t405, .int .i64 t406, .bool t407, .bool t408, (.slice Ao42 t409.length co42)] 37 (0, 0))) ∧ Aside0 (Below w.heap.size w wc))
    case first =>
     have H := HC67.out
     clear HC67
     by_cases c77 : t427 < 0
     ·rw [if_pos c77] at H
      have c77b0 : decide (t427 < 0) = true := decide_eq_true c77
      clear c77
      (first | rw [c77b0] | (simp only [i64_w, i32_w]; rw [c77b0]) | skip)
      have H' := mk_ H
      clear H
      go_wp2
      go_meet
      case rel => exact ⟨_, (true), (by first | rfl | (simp; done) | (simp [*]; done)), H', ⟨by have := HJ13.out; first | omega | exact Nat.le_refl _⟩, ⟨by (with_reducible repeat (first | apply Kd.R_alloc | apply Kd.R_drewN | apply Kd.R_drew)); exact Kd.R_mono HO_389008.out (fun _ hk => ⟨hk.1, hk.2.1⟩)⟩, ⟨by (with_reducible repeat (first | apply Kd.R_alloc | apply Kd.R_drewN | apply Kd.R_drew)); exact Kd.R_mono HO_401008.out (fun _ hk => by first | exact ⟨hk.1.1, hk.1.2⟩ | exact hk.1 | exact hk | exact ⟨hk.1, hk.2⟩ | exact ⟨.inr hk.1, hk.2⟩ | simp only [hk, ne_eq, not_false_eq_true, and_self])⟩, ⟨by (with_reducible repeat (first | apply Kd.R_alloc | apply Kd.R_drewN | apply Kd.R_drew)); exact Kd.R_mono HO_414008.out (fun _ hk => ⟨hk.1, hk.2.1⟩)⟩, ⟨u_ BK363.out⟩, ⟨u_ BK388.out⟩, ⟨u_ BK400.out⟩, ⟨u_ BK413.out⟩, ⟨us_ HB.out⟩⟩
     rw [if_neg c77] at H
     have c77b0 : decide (t427 < 0) = false := decide_eq_false c77
     clear c77
     (first | rw [c77b0] | (simp only [i64_w, i32_w]; rw [c77b0]) | skip)
     replace H := Option.bind_eq_some_iff.mp H
     obtain ⟨t6780, A6781, H⟩ := H
     (try dsimp only at H)
     have A6782 := mk_ A6781
     clear A6781
     by_cases c6783 : t6780 = true
     ·subst c6783
      rw [if_pos rfl] at H
      have H' := mk_ H
      clear H
      have hnb6784 := NB413_363.out
      have hnc6784 := NB363_413.out
      have hnb6785 := NB413_388.out
      have hnc6785 := NB388_413.out
      have hnb6786 := NB413_400.out
      have hnc6786 := NB400_413.out
      obtain ⟨hcz6787_0, hcz6787_1, hcz6787_2, hcz6787_3, hcz6787_4, hcz6787_5, hcz6787_6, hcz6787_7, hcz6787_8, hfz6787_0, hfz6787_1, hfz6787_2, hfz6787_3, hfz6787_4, hfz6787_5, hfz6787_6, hfz6787_7, hfz6787_8⟩ := cells9_ BK413.out
      have hnb6788 := NB388_363.out
      have hnc6788 := NB363_388.out
      have hnb6789 := NB388_400.out
      have hnc6789 := NB400_388.out
      obtain ⟨hcz6790_0, hcz6790_1, hcz6790_2, hcz6790_3, hcz6790_4, hcz6790_5, hcz6790_6, hcz6790_7, hcz6790_8, hfz6790_0, hfz6790_1, hfz6790_2, hfz6790_3, hfz6790_4, hfz6790_5, hfz6790_6, hfz6790_7, hfz6790_8⟩ := cells9_ BK388.out
      go_wp2_with (first | (go_at_call 28; (with_reducible refine (laws_eqPacket.calls kj13 t401 t402 t403 t404 t405 t406 t407 t408 _ _ t409 t376 t377 t378 t379 t380 t381 t382 t383 _ _ t384 true _ ?side1 ?side2 ?side3 ?side4 A6782.out).mono ?_); (case side1 => repeat (first | exact (Kd.R_reads' HO_414008.out).2.2 | (with_reducible refine Kd.C_alloc ?_ _) | (with_reducible refine Kd.C_drewN ?_ _) | (with_reducible refine Kd.C_drew ?_))); (case side2 => exact (Kd.R_reads' HO_414008.out).2.1); (case side3 => repeat (first | exact (Kd.R_reads' HO_389008.out).2.2 | (with_reducible refine Kd.C_alloc ?_ _) | (with_reducible refine Kd.C_drewN ?_ _) | (with_reducible refine Kd.C_drew ?_))); (case side4 => exact (Kd.R_reads' HO_389008.out).2.1); rintro e w6791 ⟨rfl, hb⟩; replace HO_389008 := mk_ (Kd.R_below (Kd.ur_ HO_389008.out) hb); replace HO_401008 := mk_ (Kd.R_below (Kd.ur_ HO_401008.out) hb); replace HO_414008 := mk_ (Kd.R_below (Kd.ur_ HO_414008.out) hb); replace HO425 := mk_ (Kd.R_below (Kd.ur_ HO425.out) hb); replace BK363 := mk_ (blk_below (u_ BK363.out) hb); replace BK388 := mk_ (blk_below (u_ BK388.out) hb); replace BK400 := mk_ (blk_below (u_ BK400.out) hb); replace BK413 := mk_ (blk_below (u_ BK413.out) hb); replace HB := mk_ (below_step (us_ HB.out) hb)))
      go_meet
      case rel => exact ⟨_, ((t412 != t387)), (by first | rfl | (simp; done) | (simp [*]; done)), H', ⟨by have := HJ13.out; first | omega | exact Nat.le_refl _⟩, ⟨by (with_reducible repeat (first | apply Kd.R_alloc | apply Kd.R_drewN | apply Kd.R_drew)); exact Kd.R_mono HO_389008.out (fun _ hk => ⟨hk.1, hk.2.1⟩)⟩, ⟨by (with_reducible repeat (first | apply Kd.R_alloc | apply Kd.R_drewN | apply Kd.R_drew)); exact Kd.R_mono HO_401008.out (fun _ hk => by first | exact ⟨hk.1.1, hk.1.2⟩ | exact hk.1 | exact hk | exact ⟨hk.1, hk.2⟩ | exact ⟨.inr hk.1, hk.2⟩ | simp only [hk, ne_eq, not_false_eq_true, and_self])⟩, ⟨by (with_reducible repeat (first | apply Kd.R_alloc | apply Kd.R_drewN | apply Kd.R_drew)); exact Kd.R_mono HO_414008.out (fun _ hk => ⟨hk.1, hk.2.1⟩)⟩, ⟨u_ BK363.out⟩, ⟨u_ BK388.out⟩, ⟨u_ BK400.out⟩, ⟨u_ BK413.out⟩, ⟨us_ HB.out⟩⟩
     replace c6783 := Bool.eq_false_iff.mpr c6783
     subst c6783
     rw [if_neg (show ¬ (false = true) by decide)] at H
     have H' := mk_ H
     clear H
     have hnb6792 := NB413_363.out
     have hnc6792 := NB363_413.out
     have hnb6793 := NB413_388.out
     have hnc6793 := NB388_413.out
     have hnb6794 := NB413_400.out
     have hnc6794 := NB400_413.out
     obtain ⟨hcz6795_0, hcz6795_1, hcz6795_2, hcz6795_3, hcz6795_4, hcz6795_5, hcz6795_6, hcz6795_7, hcz6795_8, hfz6795_0, hfz6795_1, hfz6795_2, hfz6795_3, hfz6795_4, hfz6795_5, hfz6795_6, hfz6795_7, hfz6795_8⟩ := cells9_ BK413.out
     have hnb6796 := NB388_363.out
     have hnc6796 := NB363_388.out
     have hnb6797 := NB388_400.out
     have hnc6797 := NB400_388.out
     obtain ⟨hcz6798_0, hcz6798_1, hcz6798_2, hcz6798_3, hcz6798_4, hcz6798_5, hcz6798_6, hcz6798_7, hcz6798_8, hfz6798_0, hfz6798_1, hfz6798_2, hfz6798_3, hfz6798_4, hfz6798_5, hfz6798_6, hfz6798_7, hfz6798_8⟩ := cells9_ BK388.out
     go_wp2_with (first | (go_at_call 28; (with_reducible refine (laws_eqPacket.calls kj13 t401 t402 t403 t404 t405 t406 t407 t408 _ _ t409 t376 t377 t378 t379 t380 t381 t382 t383 _ _ t384 false _ ?side1 ?side2 ?side3 ?side4 A6782.out).mono ?_); (case side1 => repeat (first | exact (Kd.R_reads' HO_414008.out).2.2 | (with_reducible refine Kd.C_alloc ?_ _) | (with_reducible refine Kd.C_drewN ?_ _) | (with_reducible refine Kd.C_drew ?_))); (case side2 => exact (Kd.R_reads' HO_414008.out).2.1); (case side3 => repeat (first | exact (Kd.R_reads' HO_389008.out).2.2 | (with_reducible refine Kd.C_alloc ?_ _) | (with_reducible refine Kd.C_drewN ?_ _) | (with_reducible refine Kd.C_drew ?_))); (case side4 => exact (Kd.R_reads' HO_389008.out).2.1); rintro e w6799 ⟨rfl, hb⟩; replace HO_389008 := mk_ (Kd.R_below (Kd.ur_ HO_389008.out) hb); replace HO_401008 := mk_ (Kd.R_below (Kd.ur_ HO_401008.out) hb); replace HO_414008 := mk_ (Kd.R_below (Kd.ur_ HO_414008.out) hb); replace HO425 := mk_ (Kd.R_below (Kd.ur_ HO425.out) hb); replace BK363 := mk_ (blk_below (u_ BK363.out) hb); replace BK388 := mk_ (blk_below (u_ BK388.out) hb); replace BK400 := mk_ (blk_below (u_ BK400.out) hb); replace BK413 := mk_ (blk_below (u_ BK413.out) hb); replace HB := mk_ (below_step (us_ HB.out) hb)))
     go_meet
     case rel => exact ⟨_, (true), (by first | rfl | (simp; done) | (simp [*]; done)), H', ⟨by have := HJ13.out; first | omega | exact Nat.le_refl _⟩, ⟨by (with_reducible repeat (first | apply Kd.R_alloc | apply Kd.R_drewN | apply Kd.R_drew)); exact Kd.R_mono HO_389008.out (fun _ hk => ⟨hk.1, hk.2.1⟩)⟩, ⟨by (with_reducible repeat (first | apply Kd.R_alloc | apply Kd.R_drewN | apply Kd.R_drew)); exact Kd.R_mono HO_401008.out (fun _ hk => by first | exact ⟨hk.1.1, hk.1.2⟩ | exact hk.1 | exact hk | exact ⟨hk.1, hk.2⟩ | exact ⟨.inr hk.1, hk.2⟩ | simp only [hk, ne_eq, not_false_eq_true, and_self])⟩, ⟨by (with_reducible repeat (first | apply Kd.R_alloc | apply Kd.R_drewN | apply Kd.R_drew)); exact Kd.R_mono HO_414008.out (fun _ hk => ⟨hk.1, hk.2.1⟩)⟩, ⟨u_ BK363.out⟩, ⟨u_ BK388.out⟩, ⟨u_ BK400.out⟩, ⟨u_ BK413.out⟩, ⟨us_ HB.out⟩⟩
    case rest =>
     clear HC67
     try clear c2
     try clear p2
     try clear c3
     try clear c4
     try clear c5
     try clear c6
     try clear c6b0
     try clear c7
     try clear c8
     try clear c9
     try clear c23
     try clear c24
     try clear c25
     try clear c26
     try clear c27
     try clear c28
     try clear c29
     try clear c30
     try clear c31
     try clear c38
     try clear c39
     try clear c40
     try clear c45
     try clear c46
     try clear c47
     try clear c48
     try clear c50
     try clear c51
     try clear c54
     try clear c55
     try clear c56
     try clear c58
     try clear c59
     try clear c62
     try clear c65
     try clear c72
     try clear c73
     try clear c74
     try clear c77
     try clear c77b0
     try clear c6783
     try clear c80
     try clear c81
     try clear c82
     try clear c84
     try clear c85
     try clear c88
     try clear c89
     try clear c90
     try clear c92
     try clear c93
     try clear hcz16_0
     try clear hcz16_1
     try clear hcz16_2
     try clear hcz16_3
     try clear hcz16_4
     try clear hcz16_5
     try clear hcz16_6
     try clear hcz16_7
     try clear hcz16_8
     try clear hcz18_0
     try clear hcz18_1
     try clear hcz18_2
     try clear hcz18_3
     try clear hcz18_4
     try clear hcz18_5
     try clear hcz18_6
     try clear hcz18_7
     try clear hcz18_8
     try clear hcz24_0
     try clear hcz24_1
     try clear hcz24_2
     try clear hcz24_3
     try clear hcz24_4
     try clear hcz24_5
     try clear hcz24_6
     try clear hcz24_7
     try clear hcz24_8
     try clear hcz27_0
     try clear hcz27_1
     try clear hcz27_2
     try clear hcz27_3
     try clear hcz27_4
     try clear hcz27_5
     try clear hcz27_6
     try clear hcz27_7
     try clear hcz27_8
     try clear hcz32_0
     try clear hcz32_1
     try clear hcz32_2
     try clear hcz32_3
     try clear hcz32_4
     try clear hcz32_5
     try clear hcz32_6
     try clear hcz32_7
     try clear hcz32_8
     try clear hcz35_0
     try clear hcz35_1
     try clear hcz35_2
     try clear hcz35_3
     try clear hcz35_4
     try clear hcz35_5
     try clear hcz35_6
     try clear hcz35_7
     try clear hcz35_8
     try clear hcz41_0
     try clear hcz41_1
     try clear hcz41_2
     try clear hcz41_3
     try clear hcz41_4
     try clear hcz41_5
     try clear hcz41_6
     try clear hcz41_7
     try clear hcz41_8
     try clear hcz49_0
     try clear hcz49_1
     try clear hcz49_2
     try clear hcz49_3
     try clear hcz49_4
     try clear hcz49_5
     try clear hcz49_6
     try clear hcz49_7
     try clear hcz49_8
     try clear hcz52_0
     try clear hcz52_1
     try clear hcz52_2
     try clear hcz52_3
     try clear hcz52_4
     try clear hcz52_5
     try clear hcz52_6
     try clear hcz52_7
     try clear hcz52_8
     try clear hcz57_0
     try clear hcz57_1
     try clear hcz57_2
     try clear hcz57_3
     try clear hcz57_4
     try clear hcz57_5
     try clear hcz57_6
     try clear hcz57_7
     try clear hcz57_8
     try clear hcz60_0
     try clear hcz60_1
     try clear hcz60_2
     try clear hcz60_3
     try clear hcz60_4
     try clear hcz60_5
     try clear hcz60_6
     try clear hcz60_7
     try clear hcz60_8
     try clear hcz6620_0
     try clear hcz6620_1
     try clear hcz6620_2
     try clear hcz6620_3
     try clear hcz6620_4
     try clear hcz6620_5
     try clear hcz6620_6
     try clear hcz6620_7
     try clear hcz6620_8
     try clear hcz6787_0
     try clear hcz6787_1
     try clear hcz6787_2
     try clear hcz6787_3
     try clear hcz6787_4
     try clear hcz6787_5
     try clear hcz6787_6
     try clear hcz6787_7
     try clear hcz6787_8
     try clear hcz6790_0
     try clear hcz6790_1
     try clear hcz6790_2
     try clear hcz6790_3
     try clear hcz6790_4
     try clear hcz6790_5
     try clear hcz6790_6
     try clear hcz6790_7
     try clear hcz6790_8
     try clear hcz8_0
     try clear hcz8_1
     try clear hcz8_2
     try clear hcz8_3
     try clear hcz8_4
     try clear hcz8_5
     try clear hcz8_6
     try clear hcz8_7
     try clear hcz8_8
     try clear hcz6795_0
     try clear hcz6795_1
     try clear hcz6795_2
     try clear hcz6795_3
     try clear hcz6795_4
     try clear hcz6795_5
     try clear hcz6795_6
     try clear hcz6795_7
     try clear hcz6795_8
     try clear hcz6798_0
     try clear hcz6798_1
     try clear hcz6798_2
     try clear hcz6798_3
     try clear hcz6798_4
     try clear hcz6798_5
     try clear hcz6798_6
     try clear hcz6798_7
     try clear hcz6798_8
     try clear hfz16_0
     try clear hfz16_1
     try clear hfz16_2
     try clear hfz16_3
     try clear hfz16_4
     try clear hfz16_5
     try clear hfz16_6
     try clear hfz16_7
     try clear hfz16_8
     try clear hfz18_0
     try clear hfz18_1
     try clear hfz18_2
     try clear hfz18_3
     try clear hfz18_4
     try clear hfz18_5
     try clear hfz18_6
     try clear hfz18_7
     try clear hfz18_8
     try clear hfz24_0
     try clear hfz24_1
     try clear hfz24_2
     try clear hfz24_3
     try clear hfz24_4
     try clear hfz24_5
     try clear hfz24_6
     try clear hfz24_7
     try clear hfz24_8
     try clear hfz27_0
     try clear hfz27_1
     try clear hfz27_2
     try clear hfz27_3
     try clear hfz27_4
     try clear hfz27_5
     try clear hfz27_6
     try clear hfz27_7
     try clear hfz27_8
     try clear hfz32_0
     try clear hfz32_1
     try clear hfz32_2
     try clear hfz32_3
     try clear hfz32_4
     try clear hfz32_5
     try clear hfz32_6
     try clear hfz32_7
     try clear hfz32_8
     try clear hfz35_0
     try clear hfz35_1
     try clear hfz35_2
     try clear hfz35_3
     try clear hfz35_4
     try clear hfz35_5
     try clear hfz35_6
     try clear hfz35_7
     try clear hfz35_8
     try clear hfz41_0
     try clear hfz41_1
     try clear hfz41_2
     try clear hfz41_3
     try clear hfz41_4
     try clear hfz41_5
     try clear hfz41_6
     try clear hfz41_7
     try clear hfz41_8
     try clear hfz49_0
     try clear hfz49_1
     try clear hfz49_2
     try clear hfz49_3
     try clear hfz49_4
     try clear hfz49_5
     try clear hfz49_6
     try clear hfz49_7
     try clear hfz49_8
     try clear hfz52_0
     try clear hfz52_1
     try clear hfz52_2
     try clear hfz52_3
     try clear hfz52_4
     try clear hfz52_5
     try clear hfz52_6
     try clear hfz52_7
     try clear hfz52_8
     try clear hfz57_0
     try clear hfz57_1
     try clear hfz57_2
     try clear hfz57_3
     try clear hfz57_4
     try clear hfz57_5
     try clear hfz57_6
     try clear hfz57_7
     try clear hfz57_8
     try clear hfz60_0
     try clear hfz60_1
     try clear hfz60_2
     try clear hfz60_3
     try clear hfz60_4
     try clear hfz60_5
     try clear hfz60_6
     try clear hfz60_7
     try clear hfz60_8
     try clear hfz6620_0
     try clear hfz6620_1
     try clear hfz6620_2
     try clear hfz6620_3
     try clear hfz6620_4
     try clear hfz6620_5
     try clear hfz6620_6
     try clear hfz6620_7
     try clear hfz6620_8
     try clear hfz6787_0
     try clear hfz6787_1
     try clear hfz6787_2
     try clear hfz6787_3
     try clear hfz6787_4
     try clear hfz6787_5
     try clear hfz6787_6
     try clear hfz6787_7
     try clear hfz6787_8
     try clear hfz6790_0
     try clear hfz6790_1
     try clear hfz6790_2
     try clear hfz6790_3
     try clear hfz6790_4
     try clear hfz6790_5
     try clear hfz6790_6
     try clear hfz6790_7
     try clear hfz6790_8
     try clear hfz8_0
     try clear hfz8_1
     try clear hfz8_2
     try clear hfz8_3
     try clear hfz8_4
     try clear hfz8_5
     try clear hfz8_6
     try clear hfz8_7
     try clear hfz8_8
     try clear hfz6795_0
     try clear hfz6795_1
     try clear hfz6795_2
     try clear hfz6795_3
     try clear hfz6795_4
     try clear hfz6795_5
     try clear hfz6795_6
     try clear hfz6795_7
     try clear hfz6795_8
     try clear hfz6798_0
     try clear hfz6798_1
     try clear hfz6798_2
     try clear hfz6798_3
     try clear hfz6798_4
     try clear hfz6798_5
     try clear hfz6798_6
     try clear hfz6798_7
     try clear hfz6798_8
     obtain ⟨kq, x73_66, rfl, HA, HJ6820, HO_389008, HO_401008, HO_414008, BK363, BK388, BK400, BK413, HB⟩ := hcut
     have hl401008_66 := (Kd.R_reads' HO_401008.out).1
     rw [hl401008_66] at HO_401008
     (try simp only [hl401008_66])
     (try simp only [hl401008_66] at BK363)
     (try simp only [hl401008_66] at BK388)
     (try simp only [hl401008_66] at BK400)
     (try simp only [hl401008_66] at BK413)
     (try simp only [hl401008_66] at HO_389008)
     (try simp only [hl401008_66] at HO_414008)
     cases kq with
     | zero => exact absurd HA.out (by simp [laws_FnExactNoteAbout.j1])
     | succ kj66 =>
      have H := HA.out
      clear HA
      simp only [laws_FnExactNoteAbout.j1] at H
      by_cases c6821 : x73_66 = true
      ·subst c6821
       have H2141 : (some false) = some r := by rw [if_pos rfl] at H; exact H
       clear H
       have H := H2141
       clear H2141
       obtain rfl := Option.some.inj H
       go_wp2
       go_ret
       exact ⟨by first | rfl | (simp [errW_none, errW_some] <;> rfl) | (simp [*, errW_none, errW_some] <;> rfl), us_ HB.out⟩
      replace c6821 := Bool.eq_false_iff.mpr c6821
      subst c6821
      rw [if_neg (show ¬ (false = true) by decide)] at H
      replace H := Option.bind_eq_some_iff.mp H
      obtain ⟨⟨t6822, t6823⟩, A6824, H⟩ := H
      (try dsimp only at H)
      have A6825 := mk_ A6824
      clear A6824
      replace H := Option.bind_eq_some_iff.mp H
      obtain ⟨t6826, A6827, H⟩ := H
      (try dsimp only at H)
      have A6828 := mk_ A6827
      clear A6827
      by_cases c99 : t6826 < 0
      ·rw [if_pos c99] at H
       have c99b0 : decide (t6826 < 0) = true := decide_eq_true c99
       clear c99
       obtain rfl := Option.some.inj H
       have hnb6829 := NB413_363.out
       have hnc6829 := NB363_413.out
       have hnb6830 := NB413_388.out
       have hnc6830 := NB388_413.out
       have hnb6831 := NB413_400.out
       have hnc6831 := NB400_413.out
       obtain ⟨hcz6832_0, hcz6832_1, hcz6832_2, hcz6832_3, hcz6832_4, hcz6832_5, hcz6832_6, hcz6832_7, hcz6832_8, hfz6832_0, hfz6832_1, hfz6832_2, hfz6832_3, hfz6832_4, hfz6832_5, hfz6832_6, hfz6832_7, hfz6832_8⟩ := cells9_ BK413.out
       go_wp2_with (first | ((with_reducible refine gate_callee (f := 29) rfl ?_); refine goesL_ (some 76) rfl rfl Try.func29 (by kernel_rfl) rfl #[.agg #[.int .i64 t401, .int .i64 t402, .int .i64 t403, .int .i64 t404, .int .i64 t405, .int .i64 t406, .bool t407, .bool t408, .slice Ao42 t409.length co42], .int .i64 1] rfl (by (try simp only [lm_, lo_, ln_]); try rfl) ?_; (with_reducible refine (laws_markPacket.calls kj66 t401 t402 t403 t404 t405 t406 t407 t408 (fun k_ => some k_ = (.slice Ao42 t409.length co42 : Value).ownBlock) (.slice Ao42 t409.length co42) t409 1 t6822 t6823 w _ ?side1 ?side2 A6825.out).mono ?_); (case side1 => repeat (first | (with_reducible first | exact HB.out | apply na_ | apply nn_ | apply nw_ | refine bs_ ?_ GE363.out | refine bs_ ?_ GE388.out | refine bs_ ?_ GE400.out | refine bs_ ?_ GE413.out) | exact HB.out)); (case side2 => exact Kd.R_tight rfl HO_414008.out); rintro e w6833 ⟨rfl, hy2140, hb, hkp⟩; refine ⟨_, rfl, ?_⟩; replace HO_389008 := mk_ (Kd.R_mono (ok' := fun k_ => some k_ ≠ (.slice Ao33 t428.length co33 : Value).ownBlock ∧ some k_ ≠ (.slice Ao42 t409.length co42 : Value).ownBlock) (Kd.R_keptB (HO_389008.out) hkp (fun k_ hk_ hs_ => (hk_.2) hs_)) (fun k_ hk_ => by first | exact ⟨hk_.1.1, hk_.1.2⟩ | simp only [hk_, ne_eq, not_false_eq_true, and_self])); replace HO_401008 := mk_ (Kd.R_mono (ok' := fun k_ => some k_ ≠ (.slice Ao25 t384.length co25 : Value).ownBlock ∧ some k_ ≠ (.slice Ao42 t409.length co42 : Value).ownBlock) (Kd.R_keptB (HO_401008.out) hkp (fun k_ hk_ hs_ => (hk_.2) hs_)) (fun k_ hk_ => by first | exact ⟨hk_.1.1, hk_.1.2⟩ | simp only [hk_, ne_eq, not_false_eq_true, and_self])); have n2_ := mk_ (Kd.R_reok rfl hy2140 (fun k_ e_ => HO_414008.out.1 k_ e_)); replace BK363 := mk_ (blk_kept (u_ BK363.out) hkp (fun hs_ => (fun e_ => (Kd.R_ne HO_414008.out BK363.out (by decide)) e_) hs_)); replace BK388 := mk_ (blk_kept (u_ BK388.out) hkp (fun hs_ => (fun e_ => (Kd.R_ne HO_414008.out BK388.out (by decide)) e_) hs_)); replace BK400 := mk_ (blk_kept (u_ BK400.out) hkp (fun hs_ => (fun e_ => (Kd.R_ne HO_414008.out BK400.out (by decide)) e_) hs_)); replace BK413 := mk_ (blk_kept (u_ BK413.out) hkp (fun hs_ => (fun e_ => (Kd.R_ne HO_414008.out BK413.out (by decide)) e_) hs_)); replace HB := mk_ (hb); replace HO_414008 := n2_; clear n2_; (try clear hkp); obtain ⟨hcz6834_0, hcz6834_1, hcz6834_2, hcz6834_3, hcz6834_4, hcz6834_5, hcz6834_6, hcz6834_7, hcz6834_8, hfz6834_0, hfz6834_1, hfz6834_2, hfz6834_3, hfz6834_4, hfz6834_5, hfz6834_6, hfz6834_7, hfz6834_8⟩ := cells9_ BK413.out) | ((with_reducible refine gate_callee (f := 30) rfl ?_); refine goesL_ (some 79) rfl rfl Try.func30 (by kernel_rfl) rfl #[.agg #[.int .i64 t401, .int .i64 t402, .int .i64 t403, .int .i64 t404, .int .i64 t405, .int .i64 t406, .bool t407, .bool t408, .slice Ao42 t6823.length co42], .int .i64 1] rfl (by (try simp only [List.map_toArray, List.map_cons, List.map_nil]); first | done | (rw [show t6823.length = t409.length from (Kd.R_reads' HO_414008.out).1.symm] <;> rfl) | rfl | (simp only [List.length_drop, List.length_take]; rfl)) ?_; (with_reducible refine (laws_heldPacket.calls kj66 t401 t402 t403 t404 t405 t406 t407 t408 _ _ t6823 1 t6826 _ ?side1 ?side2 A6828.out).mono ?_); (case side1 => repeat (first | exact (Kd.R_reads' HO_414008.out).2.2 | (with_reducible refine Kd.C_alloc ?_ _) | (with_reducible refine Kd.C_drewN ?_ _) | (with_reducible refine Kd.C_drew ?_))); (case side2 => rw [show t6823.length = t409.length from (Kd.R_reads' HO_414008.out).1.symm]; exact (Kd.R_reads' HO_414008.out).2.1); rintro e w6835 ⟨rfl, hb⟩; refine ⟨_, rfl, ?_⟩; replace HO_389008 := mk_ (Kd.R_below (Kd.ur_ HO_389008.out) hb); replace HO_401008 := mk_ (Kd.R_below (Kd.ur_ HO_401008.out) hb); replace HO_414008 := mk_ (Kd.R_below (Kd.ur_ HO_414008.out) hb); replace BK363 := mk_ (blk_below (u_ BK363.out) hb); replace BK388 := mk_ (blk_below (u_ BK388.out) hb); replace BK400 := mk_ (blk_below (u_ BK400.out) hb); replace BK413 := mk_ (blk_below (u_ BK413.out) hb); replace HB := mk_ (below_step (us_ HB.out) hb)))
       go_ret
       exact ⟨by first | rfl | (simp [errW_none, errW_some] <;> rfl) | (simp [*, errW_none, errW_some] <;> rfl), us_ HB.out⟩
      rw [if_neg c99] at H
      have c99b0 : decide (t6826 < 0) = false := decide_eq_false c99
      clear c99
      by_cases c107 : t6826 = t6822
      rotate_left
      ·rw [if_neg c107] at H
       have c107b0 : (t6826 == t6822) = false := beq_eq_false_iff_ne.mpr c107
       have c107b1 : (t6826 != t6822) = true := bne_iff_ne.mpr c107
       obtain rfl := Option.some.inj H
       have hnb6836 := NB413_363.out
       have hnc6836 := NB363_413.out
       have hnb6837 := NB413_388.out
       have hnc6837 := NB388_413.out
       have hnb6838 := NB413_400.out
       have hnc6838 := NB400_413.out
       obtain ⟨_, _, _, _, _, _, _, _, _, _, _, _, _, _, _, _, _, _⟩ := cells9_ BK413.out
       go_wp2_with (first | ((with_reducible refine gate_callee (f := 29) rfl ?_); refine goesL_ (some 76) rfl rfl Try.func29 (by kernel_rfl) rfl #[.agg #[.int .i64 t401, .int .i64 t402, .int .i64 t403, .int .i64 t404, .int .i64 t405, .int .i64 t406, .bool t407, .bool t408, .slice Ao42 t409.length co42], .int .i64 1] rfl (by (try simp only [lm_, lo_, ln_]); try rfl) ?_; (with_reducible refine (laws_markPacket.calls kj66 t401 t402 t403 t404 t405 t406 t407 t408 (fun k_ => some k_ = (.slice Ao42 t409.length co42 : Value).ownBlock) (.slice Ao42 t409.length co42) t409 1 t6822 t6823 w _ ?side1 ?side2 A6825.out).mono ?_); (case side1 => repeat (first | (with_reducible first | exact HB.out | apply na_ | apply nn_ | apply nw_ | refine bs_ ?_ GE363.out | refine bs_ ?_ GE388.out | refine bs_ ?_ GE400.out | refine bs_ ?_ GE413.out) | exact HB.out)); (case side2 => exact Kd.R_tight rfl HO_414008.out); rintro e w6839 ⟨rfl, hy2140, hb, hkp⟩; refine ⟨_, rfl, ?_⟩; replace HO_389008 := mk_ (Kd.R_mono (ok' := fun k_ => some k_ ≠ (.slice Ao33 t428.length co33 : Value).ownBlock ∧ some k_ ≠ (.slice Ao42 t409.length co42 : Value).ownBlock) (Kd.R_keptB (HO_389008.out) hkp (fun k_ hk_ hs_ => (hk_.2) hs_)) (fun k_ hk_ => by first | exact ⟨hk_.1.1, hk_.1.2⟩ | simp only [hk_, ne_eq, not_false_eq_true, and_self])); replace HO_401008 := mk_ (Kd.R_mono (ok' := fun k_ => some k_ ≠ (.slice Ao25 t384.length co25 : Value).ownBlock ∧ some k_ ≠ (.slice Ao42 t409.length co42 : Value).ownBlock) (Kd.R_keptB (HO_401008.out) hkp (fun k_ hk_ hs_ => (hk_.2) hs_)) (fun k_ hk_ => by first | exact ⟨hk_.1.1, hk_.1.2⟩ | simp only [hk_, ne_eq, not_false_eq_true, and_self])); have n2_ := mk_ (Kd.R_reok rfl hy2140 (fun k_ e_ => HO_414008.out.1 k_ e_)); replace BK363 := mk_ (blk_kept (u_ BK363.out) hkp (fun hs_ => (fun e_ => (Kd.R_ne HO_414008.out BK363.out (by decide)) e_) hs_)); replace BK388 := mk_ (blk_kept (u_ BK388.out) hkp (fun hs_ => (fun e_ => (Kd.R_ne HO_414008.out BK388.out (by decide)) e_) hs_)); replace BK400 := mk_ (blk_kept (u_ BK400.out) hkp (fun hs_ => (fun e_ => (Kd.R_ne HO_414008.out BK400.out (by decide)) e_) hs_)); replace BK413 := mk_ (blk_kept (u_ BK413.out) hkp (fun hs_ => (fun e_ => (Kd.R_ne HO_414008.out BK413.out (by decide)) e_) hs_)); replace HB := mk_ (hb); replace HO_414008 := n2_; clear n2_; (try clear hkp); obtain ⟨_, _, _, _, _, _, _, _, _, _, _, _, _, _, _, _, _, _⟩ := cells9_ BK413.out) | ((with_reducible refine gate_callee (f := 30) rfl ?_); refine goesL_ (some 79) rfl rfl Try.func30 (by kernel_rfl) rfl #[.agg #[.int .i64 t401, .int .i64 t402, .int .i64 t403, .int .i64 t404, .int .i64 t405, .int .i64 t406, .bool t407, .bool t408, .slice Ao42 t6823.length co42], .int .i64 1] rfl (by (try simp only [List.map_toArray, List.map_cons, List.map_nil]); first | done | (rw [show t6823.length = t409.length from (Kd.R_reads' HO_414008.out).1.symm] <;> rfl) | rfl | (simp only [List.length_drop, List.length_take]; rfl)) ?_; (with_reducible refine (laws_heldPacket.calls kj66 t401 t402 t403 t404 t405 t406 t407 t408 _ _ t6823 1 t6826 _ ?side1 ?side2 A6828.out).mono ?_); (case side1 => repeat (first | exact (Kd.R_reads' HO_414008.out).2.2 | (with_reducible refine Kd.C_alloc ?_ _) | (with_reducible refine Kd.C_drewN ?_ _) | (with_reducible refine Kd.C_drew ?_))); (case side2 => rw [show t6823.length = t409.length from (Kd.R_reads' HO_414008.out).1.symm]; exact (Kd.R_reads' HO_414008.out).2.1); rintro e w6840 ⟨rfl, hb⟩; refine ⟨_, rfl, ?_⟩; replace HO_389008 := mk_ (Kd.R_below (Kd.ur_ HO_389008.out) hb); replace HO_401008 := mk_ (Kd.R_below (Kd.ur_ HO_401008.out) hb); replace HO_414008 := mk_ (Kd.R_below (Kd.ur_ HO_414008.out) hb); replace BK363 := mk_ (blk_below (u_ BK363.out) hb); replace BK388 := mk_ (blk_below (u_ BK388.out) hb); replace BK400 := mk_ (blk_below (u_ BK400.out) hb); replace BK413 := mk_ (blk_below (u_ BK413.out) hb); replace HB := mk_ (below_step (us_ HB.out) hb)))
       go_ret
       exact ⟨by first | rfl | (simp [errW_none, errW_some] <;> rfl) | (simp [*, errW_none, errW_some] <;> rfl), us_ HB.out⟩
      rw [if_pos c107] at H
      have c107b0 : (t6826 == t6822) = true := beq_iff_eq.mpr c107
      have c107b1 : (t6826 != t6822) = false := bne_eq_false_iff_eq.mpr c107
      clear c107
      replace H := Option.bind_eq_some_iff.mp H
      obtain ⟨⟨t6841, t6842, t6843, t6844, t6845, t6846, t6847, t6848, t6849⟩, A6850, H⟩ := H
      (try dsimp only at H)
      have A6851 := mk_ A6850
      clear A6850
      replace H := Option.bind_eq_some_iff.mp H
      obtain ⟨⟨t6852, t6853, t6854, t6855, t6856, t6857, t6858, t6859, t6860, t6861⟩, A6862, H⟩ := H
      (try dsimp only at H)
      have A6863 := mk_ A6862
      clear A6862
      have HC6864 := mk_ H
      clear H
      have hnb6865 := NB413_363.out
      have hnc6865 := NB363_413.out
      have hnb6866 := NB413_388.out
      have hnc6866 := NB388_413.out
      have hnb6867 := NB413_400.out
      have hnc6867 := NB400_413.out
      obtain ⟨hcz6868_0, hcz6868_1, hcz6868_2, hcz6868_3, hcz6868_4, hcz6868_5, hcz6868_6, hcz6868_7, hcz6868_8, hfz6868_0, hfz6868_1, hfz6868_2, hfz6868_3, hfz6868_4, hfz6868_5, hfz6868_6, hfz6868_7, hfz6868_8⟩ := cells9_ BK413.out
      go_upto_region 25 with (first | ((with_reducible refine gate_callee (f := 29) rfl ?_); refine goesL_ (some 76) rfl rfl Try.func29 (by kernel_rfl) rfl #[.agg #[.int .i64 t401, .int .i64 t402, .int .i64 t403, .int .i64 t404, .int .i64 t405, .int .i64 t406, .bool t407, .bool t408, .slice Ao42 t409.length co42], .int .i64 1] rfl (by (try simp only [lm_, lo_, ln_]); try rfl) ?_; (with_reducible refine (laws_markPacket.calls kj66 t401 t402 t403 t404 t405 t406 t407 t408 (fun k_ => some k_ = (.slice Ao42 t409.length co42 : Value).ownBlock) (.slice Ao42 t409.length co42) t409 1 t6822 t6823 w _ ?side1 ?side2 A6825.out).mono ?_); (case side1 => repeat (first | (with_reducible first | exact HB.out | apply na_ | apply nn_ | apply nw_ | refine bs_ ?_ GE363.out | refine bs_ ?_ GE388.out | refine bs_ ?_ GE400.out | refine bs_ ?_ GE413.out) | exact HB.out)); (case side2 => exact Kd.R_tight rfl HO_414008.out); rintro e w6869 ⟨rfl, hy2140, hb, hkp⟩; refine ⟨_, rfl, ?_⟩; replace HO_389008 := mk_ (Kd.R_mono (ok' := fun k_ => some k_ ≠ (.slice Ao33 t428.length co33 : Value).ownBlock ∧ some k_ ≠ (.slice Ao42 t409.length co42 : Value).ownBlock) (Kd.R_keptB (HO_389008.out) hkp (fun k_ hk_ hs_ => (hk_.2) hs_)) (fun k_ hk_ => by first | exact ⟨hk_.1.1, hk_.1.2⟩ | simp only [hk_, ne_eq, not_false_eq_true, and_self])); replace HO_401008 := mk_ (Kd.R_mono (ok' := fun k_ => some k_ ≠ (.slice Ao25 t384.length co25 : Value).ownBlock ∧ some k_ ≠ (.slice Ao42 t409.length co42 : Value).ownBlock) (Kd.R_keptB (HO_401008.out) hkp (fun k_ hk_ hs_ => (hk_.2) hs_)) (fun k_ hk_ => by first | exact ⟨hk_.1.1, hk_.1.2⟩ | simp only [hk_, ne_eq, not_false_eq_true, and_self])); have n2_ := mk_ (Kd.R_reok rfl hy2140 (fun k_ e_ => HO_414008.out.1 k_ e_)); replace BK363 := mk_ (blk_kept (u_ BK363.out) hkp (fun hs_ => (fun e_ => (Kd.R_ne HO_414008.out BK363.out (by decide)) e_) hs_)); replace BK388 := mk_ (blk_kept (u_ BK388.out) hkp (fun hs_ => (fun e_ => (Kd.R_ne HO_414008.out BK388.out (by decide)) e_) hs_)); replace BK400 := mk_ (blk_kept (u_ BK400.out) hkp (fun hs_ => (fun e_ => (Kd.R_ne HO_414008.out BK400.out (by decide)) e_) hs_)); replace BK413 := mk_ (blk_kept (u_ BK413.out) hkp (fun hs_ => (fun e_ => (Kd.R_ne HO_414008.out BK413.out (by decide)) e_) hs_)); replace HB := mk_ (hb); replace HO_414008 := n2_; clear n2_; (try clear hkp); obtain ⟨hcz6870_0, hcz6870_1, hcz6870_2, hcz6870_3, hcz6870_4, hcz6870_5, hcz6870_6, hcz6870_7, hcz6870_8, hfz6870_0, hfz6870_1, hfz6870_2, hfz6870_3, hfz6870_4, hfz6870_5, hfz6870_6, hfz6870_7, hfz6870_8⟩ := cells9_ BK413.out) | ((with_reducible refine gate_callee (f := 30) rfl ?_); refine goesL_ (some 79) rfl rfl Try.func30 (by kernel_rfl) rfl #[.agg #[.int .i64 t401, .int .i64 t402, .int .i64 t403, .int .i64 t404, .int .i64 t405, .int .i64 t406, .bool t407, .bool t408, .slice Ao42 t6823.length co42], .int .i64 1] rfl (by (try simp only [List.map_toArray, List.map_cons, List.map_nil]); first | done | (rw [show t6823.length = t409.length from (Kd.R_reads' HO_414008.out).1.symm] <;> rfl) | rfl | (simp only [List.length_drop, List.length_take]; rfl)) ?_; (with_reducible refine (laws_heldPacket.calls kj66 t401 t402 t403 t404 t405 t406 t407 t408 _ _ t6823 1 t6826 _ ?side1 ?side2 A6828.out).mono ?_); (case side1 => repeat (first | exact (Kd.R_reads' HO_414008.out).2.2 | (with_reducible refine Kd.C_alloc ?_ _) | (with_reducible refine Kd.C_drewN ?_ _) | (with_reducible refine Kd.C_drew ?_))); (case side2 => rw [show t6823.length = t409.length from (Kd.R_reads' HO_414008.out).1.symm]; exact (Kd.R_reads' HO_414008.out).2.1); rintro e w6871 ⟨rfl, hb⟩; refine ⟨_, rfl, ?_⟩; replace HO_389008 := mk_ (Kd.R_below (Kd.ur_ HO_389008.out) hb); replace HO_401008 := mk_ (Kd.R_below (Kd.ur_ HO_401008.out) hb); replace HO_414008 := mk_ (Kd.R_below (Kd.ur_ HO_414008.out) hb); replace BK363 := mk_ (blk_below (u_ BK363.out) hb); replace BK388 := mk_ (blk_below (u_ BK388.out) hb); replace BK400 := mk_ (blk_below (u_ BK400.out) hb); replace BK413 := mk_ (blk_below (u_ BK413.out) hb); replace HB := mk_ (below_step (us_ HB.out) hb); have hnb6872 := NB363_388.out; have hnc6872 := NB388_363.out; have hnb6873 := NB363_400.out; have hnc6873 := NB400_363.out; obtain ⟨hcz6874_0, hcz6874_1, hcz6874_2, hcz6874_3, hcz6874_4, hcz6874_5, hcz6874_6, hcz6874_7, hcz6874_8, hfz6874_0, hfz6874_1, hfz6874_2, hfz6874_3, hfz6874_4, hfz6874_5, hfz6874_6, hfz6874_7, hfz6874_8⟩ := cells9_ BK363.out) | ((with_reducible refine gate_callee (f := 27) rfl ?_); refine goesL_ (some 87) rfl rfl Try.func27 (by kernel_rfl) rfl #[.agg #[.int .i64 a0_0, .int .i64 a0_1, .int .i64 a0_2, .int .i64 a0_3, .int .i64 a0_4, .int .i64 a0_5, .bool a0_6, .bool a0_7, .slice A0_8 l0_8.length c0_8]] rfl (by (try simp only [lm_, lo_, ln_]); try rfl) ?_; (with_reducible refine (laws_toPacket.calls kj66 a0_0 a0_1 a0_2 a0_3 a0_4 a0_5 a0_6 a0_7 _ _ l0_8 t6841 t6842 t6843 t6844 t6845 t6846 t6847 t6848 t6849 _ ?side1 ?side2 A6851.out).mono ?_); (case side1 => repeat (first | exact (Kd.C_below HR0_8.out HB.out) | (with_reducible refine Kd.C_alloc ?_ _) | (with_reducible refine Kd.C_drewN ?_ _) | (with_reducible refine Kd.C_drew ?_))); (case side2 => exact HC0_8.out); rintro e w6875 ⟨v6876, rfl, ho0, hb⟩; refine ⟨_, rfl, ?_⟩; have n0_ := mk_ (Kd.R_elder' (Kd.ur_ HO_389008.out) (Kd.R_base ho0) hb); have n1_ := mk_ (Kd.R_elder' (Kd.ur_ HO_401008.out) (Kd.R_base ho0) hb); have n2_ := mk_ (Kd.R_elder' (Kd.ur_ HO_414008.out) (Kd.R_base ho0) hb); have HO443 := mk_ (Kd.R_lower (Kd.R_new' (Kd.R_new' (Kd.R_new' ho0 (Kd.R_lt (Kd.ur_ HO_389008.out))) (Kd.R_lt (Kd.ur_ HO_401008.out))) (Kd.R_lt (Kd.ur_ HO_414008.out))) (below_size (us_ HB.out))); replace BK363 := mk_ (blk_below (u_ BK363.out) hb); replace BK388 := mk_ (blk_below (u_ BK388.out) hb); replace BK400 := mk_ (blk_below (u_ BK400.out) hb); replace BK413 := mk_ (blk_below (u_ BK413.out) hb); replace HB := mk_ (below_step (us_ HB.out) hb); replace HO_389008 := n0_; replace HO_401008 := n1_; replace HO_414008 := n2_; clear n0_ n1_ n2_; obtain ⟨Ao6877, co6877, eo6877⟩ := Kd.R_slice HO443.out; subst eo6877) | ((with_reducible refine gate_callee (f := 24) rfl ?_); refine goesL_ (some 91) rfl rfl Try.func24 (by kernel_rfl) rfl #[.agg #[.int .i64 t6841, .int .i64 t6842, .int .i64 t6843, .int .i64 t6844, .int .i64 t6845, .int .i64 t6846, .bool t6847, .bool t6848, .slice Ao6877 t6849.length co6877], .int .i64 a1, .int .i64 a2, .int .i64 a3] rfl (by (try simp only [lm_, lo_, ln_]); try rfl) ?_; (with_reducible refine (impl_NoteAbout.calls kj66 t6841 t6842 t6843 t6844 t6845 t6846 t6847 t6848 _ _ t6849 a1 a2 a3 t6852 t6853 t6854 t6855 t6856 t6857 t6858 t6859 t6860 t6861 _ ?side1 ?side2 A6863.out).mono ?_); (case side1 => repeat (first | exact (Kd.R_reads' HO443.out).2.2 | (with_reducible refine Kd.C_alloc ?_ _) | (with_reducible refine Kd.C_drewN ?_ _) | (with_reducible refine Kd.C_drew ?_))); (case side2 => exact (Kd.R_reads' HO443.out).2.1); rintro e w6878 ⟨v6879, rfl, ho0, hb⟩; refine ⟨_, rfl, ?_⟩; have n0_ := mk_ (Kd.R_elder' (Kd.ur_ HO_389008.out) (Kd.R_base ho0) hb); have n1_ := mk_ (Kd.R_elder' (Kd.ur_ HO_401008.out) (Kd.R_base ho0) hb); have n2_ := mk_ (Kd.R_elder' (Kd.ur_ HO_414008.out) (Kd.R_base ho0) hb); have n3_ := mk_ (Kd.R_elder' (Kd.ur_ HO443.out) (Kd.R_base ho0) hb); have HO454 := mk_ (Kd.R_lower (Kd.R_new' (Kd.R_new' (Kd.R_new' (Kd.R_new' ho0 (Kd.R_lt (Kd.ur_ HO_389008.out))) (Kd.R_lt (Kd.ur_ HO_401008.out))) (Kd.R_lt (Kd.ur_ HO_414008.out))) (Kd.R_lt (Kd.ur_ HO443.out))) (below_size (us_ HB.out))); replace BK363 := mk_ (blk_below (u_ BK363.out) hb); replace BK388 := mk_ (blk_below (u_ BK388.out) hb); replace BK400 := mk_ (blk_below (u_ BK400.out) hb); replace BK413 := mk_ (blk_below (u_ BK413.out) hb); replace HB := mk_ (below_step (us_ HB.out) hb); replace HO_389008 := n0_; replace HO_401008 := n1_; replace HO_414008 := n2_; replace HO443 := n3_; clear n0_ n1_ n2_ n3_) | ((with_reducible refine gate_dst (N := 18) rfl ?_); refine box_event ?hg (N := 18) ?hd (cs := #[.int .i64 0, .int .i64 0, .int .i64 0, .int .i64 0, .int .i64 0, .int .i64 0, .bool false, .bool false, .slice none 0 0]) (t := 37) ?hr ?_; (case hd => rfl); (case hg => rfl); (case hr => first | (go_simp; done) | (go_simp; rfl)); intro gb6880 hg w6881 hbox hb; replace HO_389008 := mk_ (Kd.R_below (Kd.ur_ HO_389008.out) hb); replace HO_401008 := mk_ (Kd.R_below (Kd.ur_ HO_401008.out) hb); replace HO_414008 := mk_ (Kd.R_below (Kd.ur_ HO_414008.out) hb); replace HO443 := mk_ (Kd.R_below (Kd.ur_ HO443.out) hb); replace HO454 := mk_ (Kd.R_below (Kd.ur_ HO454.out) hb); have n5_ := mk_ (blk_below (u_ BK363.out) hb); have n6_ := mk_ (blk_below (u_ BK388.out) hb); have n7_ := mk_ (blk_below (u_ BK400.out) hb); have n8_ := mk_ (blk_below (u_ BK413.out) hb); have n9_ := mk_ (below_step (us_ HB.out) hb); have BK456 := mk_ (hbox); have GW456 := mk_ ((by rw [hg]; exact (below_size (us_ HB.out)) : w.heap.size ≤ gb6880)); have GE456 := ge_ ((by rw [hg]; exact (below_size (us_ HB.out)) : w.heap.size ≤ gb6880)); have NB363_456 := nq_ ((by rw [hg]; exact Nat.ne_of_lt (blk_lt (u_ BK363.out)) : gb363 ≠ gb6880)); have NB456_363 := nq_ ((by rw [hg]; exact Nat.ne_of_gt (blk_lt (u_ BK363.out)) : gb6880 ≠ gb363)); have NB388_456 := nq_ ((by rw [hg]; exact Nat.ne_of_lt (blk_lt (u_ BK388.out)) : gb388 ≠ gb6880)); have NB456_388 := nq_ ((by rw [hg]; exact Nat.ne_of_gt (blk_lt (u_ BK388.out)) : gb6880 ≠ gb388)); have NB400_456 := nq_ ((by rw [hg]; exact Nat.ne_of_lt (blk_lt (u_ BK400.out)) : gb400 ≠ gb6880)); have NB456_400 := nq_ ((by rw [hg]; exact Nat.ne_of_gt (blk_lt (u_ BK400.out)) : gb6880 ≠ gb400)); have NB413_456 := nq_ ((by rw [hg]; exact Nat.ne_of_lt (blk_lt (u_ BK413.out)) : gb413 ≠ gb6880)); have NB456_413 := nq_ ((by rw [hg]; exact Nat.ne_of_gt (blk_lt (u_ BK413.out)) : gb6880 ≠ gb413)); replace BK363 := n5_; replace BK388 := n6_; replace BK400 := n7_; replace BK413 := n8_; replace HB := n9_; clear n5_ n6_ n7_ n8_ n9_; clear hb hbox hg; have hnb6882 := NB456_363.out; have hnc6882 := NB363_456.out; have hnb6883 := NB456_388.out; have hnc6883 := NB388_456.out; have hnb6884 := NB456_400.out; have hnc6884 := NB400_456.out; have hnb6885 := NB456_413.out; have hnc6885 := NB413_456.out; obtain ⟨hcz6886_0, hcz6886_1, hcz6886_2, hcz6886_3, hcz6886_4, hcz6886_5, hcz6886_6, hcz6886_7, hcz6886_8, hfz6886_0, hfz6886_1, hfz6886_2, hfz6886_3, hfz6886_4, hfz6886_5, hfz6886_6, hfz6886_7, hfz6886_8⟩ := cells9_ BK456.out; obtain ⟨Ao6887, co6887, eo6887⟩ := Kd.R_slice HO454.out; subst eo6887) | ((with_reducible refine gate_store (t := 37) (p := 18) rfl ?_); refine store_event (t := 37) (p := 18) (v := ?_) (w1 := ?_) ?hg ?ho ?hn ?hr ?_; (case ho => rfl); (case hg => rfl); (case hn => rfl); (case hr => first | (go_simp; done) | (go_simp; rfl)); intro w6888 hw; have n0_ : Aside0 (Kd.R (Kd.int .u8) 5 w6888 w.heap.size (fun k_ => some k_ ≠ (.slice Ao33 t428.length co33 : Value).ownBlock ∧ some k_ ≠ (.slice Ao42 t409.length co42 : Value).ownBlock ∧ some k_ ≠ (.slice Ao6877 t6849.length co6877 : Value).ownBlock ∧ some k_ ≠ (.slice Ao6887 t6860.length co6887 : Value).ownBlock) (.slice Ao25 t384.length co25) t384) := ⟨(by rw [hw]; exact (by (with_reducible repeat (first | apply Kd.R_alloc | apply Kd.R_drewN | apply Kd.R_drew)); exact Kd.R_mono (Kd.R_far9 (g := gb6880) (Kd.R_types HO_389008.out BK456.out (by decide)) (fun _ hk => hk.2) _ _ _ _ _ _ _ _ _) (fun _ hk => by first | exact ⟨hk.1.1.1.1, ⟨hk.1.1.1.2, ⟨hk.1.1.2, hk.1.2⟩⟩⟩ | exact hk.1 | exact hk | exact ⟨hk.1, hk.2⟩ | exact ⟨.inr hk.1, hk.2⟩ | simp only [hk, ne_eq, not_false_eq_true, and_self])))⟩; have n1_ : Aside0 (Kd.R (Kd.int .u8) 5 w6888 w.heap.size (fun k_ => some k_ ≠ (.slice Ao25 t384.length co25 : Value).ownBlock ∧ some k_ ≠ (.slice Ao42 t409.length co42 : Value).ownBlock ∧ some k_ ≠ (.slice Ao6877 t6849.length co6877 : Value).ownBlock ∧ some k_ ≠ (.slice Ao6887 t6860.length co6887 : Value).ownBlock) (.slice Ao33 t428.length co33) t428) := ⟨(by rw [hw]; exact (by (with_reducible repeat (first | apply Kd.R_alloc | apply Kd.R_drewN | apply Kd.R_drew)); exact Kd.R_mono (Kd.R_far9 (g := gb6880) (Kd.R_types HO_401008.out BK456.out (by decide)) (fun _ hk => hk.2) _ _ _ _ _ _ _ _ _) (fun _ hk => by first | exact ⟨hk.1.1.1.1, ⟨hk.1.1.1.2, ⟨hk.1.1.2, hk.1.2⟩⟩⟩ | exact hk.1 | exact hk | exact ⟨hk.1, hk.2⟩ | exact ⟨.inr hk.1, hk.2⟩ | simp only [hk, ne_eq, not_false_eq_true, and_self])))⟩; have n2_ : Aside0 (Kd.R (Kd.int .u8) 5 w6888 w.heap.size (fun k_ => some k_ ≠ (.slice Ao25 t384.length co25 : Value).ownBlock ∧ some k_ ≠ (.slice Ao33 t428.length co33 : Value).ownBlock ∧ some k_ ≠ (.slice Ao6877 t6849.length co6877 : Value).ownBlock ∧ some k_ ≠ (.slice Ao6887 t6860.length co6887 : Value).ownBlock) (.slice Ao42 t409.length co42) t6823) := ⟨(by rw [hw]; exact (by (with_reducible repeat (first | apply Kd.R_alloc | apply Kd.R_drewN | apply Kd.R_drew)); exact Kd.R_mono (Kd.R_far9 (g := gb6880) (Kd.R_types HO_414008.out BK456.out (by decide)) (fun _ hk => hk.2) _ _ _ _ _ _ _ _ _) (fun _ hk => by first | exact ⟨hk.1.1.1.1, ⟨hk.1.1.1.2, ⟨hk.1.1.2, hk.1.2⟩⟩⟩ | exact hk.1 | exact hk | exact ⟨hk.1, hk.2⟩ | exact ⟨.inr hk.1, hk.2⟩ | simp only [hk, ne_eq, not_false_eq_true, and_self])))⟩; have n3_ : Aside0 (Kd.R (Kd.int .u8) 5 w6888 w.heap.size (fun k_ => some k_ ≠ (.slice Ao25 t384.length co25 : Value).ownBlock ∧ some k_ ≠ (.slice Ao33 t428.length co33 : Value).ownBlock ∧ some k_ ≠ (.slice Ao42 t409.length co42 : Value).ownBlock ∧ some k_ ≠ (.slice Ao6887 t6860.length co6887 : Value).ownBlock) (.slice Ao6877 t6849.length co6877) t6849) := ⟨(by rw [hw]; exact (by (with_reducible repeat (first | apply Kd.R_alloc | apply Kd.R_drewN | apply Kd.R_drew)); exact Kd.R_mono (Kd.R_far9 (g := gb6880) (Kd.R_types HO443.out BK456.out (by decide)) (fun _ hk => hk.2) _ _ _ _ _ _ _ _ _) (fun _ hk => by first | exact ⟨hk.1.1.1.1.2, ⟨hk.1.1.1.2, ⟨hk.1.1.2, hk.1.2⟩⟩⟩ | exact hk.1 | exact hk | exact ⟨hk.1, hk.2⟩ | exact ⟨.inr hk.1, hk.2⟩ | simp only [hk, ne_eq, not_false_eq_true, and_self])))⟩; have n4_ : Aside0 (Kd.R (Kd.int .u8) 5 w6888 w.heap.size (fun k_ => some k_ ≠ (.slice Ao25 t384.length co25 : Value).ownBlock ∧ some k_ ≠ (.slice Ao33 t428.length co33 : Value).ownBlock ∧ some k_ ≠ (.slice Ao42 t409.length co42 : Value).ownBlock ∧ some k_ ≠ (.slice Ao6877 t6849.length co6877 : Value).ownBlock) (.slice Ao6887 t6860.length co6887) t6860) := ⟨(by rw [hw]; exact (by (with_reducible repeat (first | apply Kd.R_alloc | apply Kd.R_drewN | apply Kd.R_drew)); exact Kd.R_mono (Kd.R_far9 (g := gb6880) (Kd.R_types HO454.out BK456.out (by decide)) (fun _ hk => hk.2) _ _ _ _ _ _ _ _ _) (fun _ hk => by first | exact ⟨hk.1.1.1.1.2, ⟨hk.1.1.1.2, ⟨hk.1.1.2, hk.1.2⟩⟩⟩ | exact hk.1 | exact hk | exact ⟨hk.1, hk.2⟩ | exact ⟨.inr hk.1, hk.2⟩ | simp only [hk, ne_eq, not_false_eq_true, and_self])))⟩; have n5_ : Aside0 (w6888.heap[gb363]? = some (.cells #[.int .i64 a0_0, .int .i64 a0_1, .int .i64 a0_2, .int .i64 a0_3, .int .i64 a0_4, .int .i64 a0_5, .bool a0_6, .bool a0_7, .slice A0_8 l0_8.length c0_8] 52 (0, 0))) := ⟨(by rw [hw]; exact (uf_ BK363.out))⟩; have n6_ : Aside0 (w6888.heap[gb388]? = some (.cells #[.int .i64 t376, .int .i64 t377, .int .i64 t378, .int .i64 t379, .int .i64 t380, .int .i64 t381, .bool t382, .bool t383, .slice Ao25 t384.length co25] 37 (0, 0))) := ⟨(by rw [hw]; exact (uf_ BK388.out))⟩; have n7_ : Aside0 (w6888.heap[gb400]? = some (.cells #[.int .i64 t389, .int .i64 t390, .int .i64 t391, .int .i64 t392, .int .i64 t393, .int .i64 t394, .bool t395, .bool t396, .slice Ao33 t428.length co33] 37 (0, 0))) := ⟨(by rw [hw]; exact (uf_ BK400.out))⟩; have n8_ : Aside0 (w6888.heap[gb413]? = some (.cells #[.int .i64 t401, .int .i64 t402, .int .i64 t403, .int .i64 t404, .int .i64 t405, .int .i64 t406, .bool t407, .bool t408, .slice Ao42 t409.length co42] 37 (0, 0))) := ⟨(by rw [hw]; exact (uf_ BK413.out))⟩; have n9_ : Aside0 (w6888.heap[gb6880]? = some (.cells #[.int .i64 t6852, .int .i64 t6853, .int .i64 t6854, .int .i64 t6855, .int .i64 t6856, .int .i64 t6857, .bool t6858, .bool t6859, .slice Ao6887 t6860.length co6887] 37 (0, 0))) := ⟨(by rw [hw]; exact (by (with_reducible repeat (first | refine bn_ ?_ _ | refine bw_ ?_ | refine ba_ ?_ _)); with_reducible apply blk_put9; (with_reducible repeat (first | refine bn_ ?_ _ | refine bw_ ?_ | refine ba_ ?_ _)); exact BK456.out))⟩; have n10_ : Aside0 (Below w.heap.size w w6888) := ⟨(by rw [hw]; exact (us_ HB.out))⟩; clear hw; clear HO_389008; clear HO_401008; clear HO_414008; clear HO443; clear HO454; clear BK363; clear BK388; clear BK400; clear BK413; clear BK456; clear HB; have HO_389008 := n0_; have HO_401008 := n1_; have HO_414008 := n2_; have HO443 := n3_; have HO454 := n4_; have BK363 := n5_; have BK388 := n6_; have BK400 := n7_; have BK413 := n8_; have BK456 := n9_; have HB := n10_; clear n0_ n1_ n2_ n3_ n4_ n5_ n6_ n7_ n8_ n9_ n10_))
      (try simp only [Act.put, la_, lz_, ls_])
      go_cut [102] (fun v6831 wc => ∃ (kq : Nat) (x102_109 : Bool), v6831 = .bool x102_109 ∧ Aside0 (laws_FnExactNoteAbout.j2 kq t6822 x102_109 t401 t402 t403 t404 t405 t406 t407 t408 t6823 = some r) ∧ Aside0 (kq ≤ kj66) ∧ Aside0 (Kd.R (Kd.int .u8) 5 wc w.heap.size (fun k_ => some k_ ≠ ((.slice Ao33 t428.length co33) : Value).ownBlock ∧ some k_ ≠ ((.slice Ao42 t409.length co42) : Value).ownBlock ∧ some k_ ≠ ((.slice Ao6887 t6860.length co6887) : Value).ownBlock) (.slice Ao25 t384.length co25) t384) ∧ Aside0 (Kd.R (Kd.int .u8) 5 wc w.heap.size (fun k_ => some k_ ≠ ((.slice Ao25 t384.length co25) : Value).ownBlock ∧ some k_ ≠ ((.slice Ao42 t409.length co42) : Value).ownBlock ∧ some k_ ≠ ((.slice Ao6887 t6860.length co6887) : Value).ownBlock) (.slice Ao33 t428.length co33) t428) ∧ Aside0 (Kd.R (Kd.int .u8) 5 wc w.heap.size (fun k_ => some k_ ≠ ((.slice Ao25 t384.length co25) : Value).ownBlock ∧ some k_ ≠ ((.slice Ao33 t428.length co33) : Value).ownBlock ∧ some k_ ≠ ((.slice Ao6887 t6860.length co6887) : Value).ownBlock) (.slice Ao42 t409.length co42) t6823) ∧ Aside0 (Kd.R (Kd.int .u8) 5 wc w.heap.size (fun k_ => some k_ ≠ ((.slice Ao25 t384.length co25) : Value).ownBlock ∧ some k_ ≠ ((.slice Ao33 t428.length co33) : Value).ownBlock ∧ some k_ ≠ ((.slice Ao42 t409.length co42) : Value).ownBlock) (.slice Ao6887 t6860.length co6887) t6860) ∧ Aside0 (wc.heap[gb363]? = some (.cells #[.int .i64 a0_0, .int .i64 a0_1, .int .i64 a0_2, .int .i64 a0_3, .int .i64 a0_4, .int .i64 a0_5, .bool a0_6, .bool a0_7, (.slice A0_8 l0_8.length c0_8)] 52 (0, 0))) ∧ Aside0 (wc.heap[gb388]? = some (.cells #[.int .i64 t376, .int .i64 t377, .int .i64 t378, .int .i64 t379, .int .i64 t380, .int .i64 t381, .bool t382, .bool t383, (.slice Ao25 t384.length co25)] 37 (0, 0))) ∧ Aside0 (wc.heap[gb400]? = some (.cells #[.int .i64 t389, .int .i64 t390, .int .i64 t391, .int .i64 t392, .int .i64 t393, .int .i64 t394, .bool t395, .bool t396, (.slice Ao33 t428.length co33)] 37 (0, 0))) ∧ Aside0 (wc.heap[gb413]? = some (.cells #[.int .i64 t401, .int .i64 t402, .int .i64 t403, .int .i64 t404, .int .i64 t405, .int .i64 t406, .bool t407, .bool t408, (.slice Ao42 t409.length co42)] 37 (0, 0))) ∧ Aside0 (wc.heap[gb6880]? = some (.cells #[.int .i64 t6852, .int .i64 t6853, .int .i64 t6854, .int .i64 t6855, .int .i64 t6856, .int .i64 t6857, .bool t6858, .bool t6859, (.slice Ao6887 t6860.length co6887)] 37 (0, 0))) ∧ Aside0 (Below w.heap.size w wc))
      case first =>
       have H := HC6864.out
       clear HC6864
       replace H := Option.bind_eq_some_iff.mp H
       obtain ⟨t6889, A6890, H⟩ := H
       (try dsimp only at H)
       have A6891 := mk_ A6890
       clear A6890
       by_cases c6892 : t6889 = true
       ·subst c6892
        rw [if_pos rfl] at H
        have H' := mk_ H
        clear H
        have hnb6893 := NB456_363.out
        have hnc6893 := NB363_456.out
        have hnb6894 := NB456_388.out
        have hnc6894 := NB388_456.out
        have hnb6895 := NB456_400.out
        have hnc6895 := NB400_456.out
        have hnb6896 := NB456_413.out
        have hnc6896 := NB413_456.out
        obtain ⟨hcz6897_0, hcz6897_1, hcz6897_2, hcz6897_3, hcz6897_4, hcz6897_5, hcz6897_6, hcz6897_7, hcz6897_8, hfz6897_0, hfz6897_1, hfz6897_2, hfz6897_3, hfz6897_4, hfz6897_5, hfz6897_6, hfz6897_7, hfz6897_8⟩ := cells9_ BK456.out
        have hnb6898 := NB388_363.out
        have hnc6898 := NB363_388.out
        have hnb6899 := NB388_400.out
        have hnc6899 := NB400_388.out
        have hnb6900 := NB388_413.out
        have hnc6900 := NB413_388.out
        obtain ⟨hcz6901_0, hcz6901_1, hcz6901_2, hcz6901_3, hcz6901_4, hcz6901_5, hcz6901_6, hcz6901_7, hcz6901_8, hfz6901_0, hfz6901_1, hfz6901_2, hfz6901_3, hfz6901_4, hfz6901_5, hfz6901_6, hfz6901_7, hfz6901_8⟩ := cells9_ BK388.out
        go_wp2_with (first | ((with_reducible refine gate_callee (f := 28) rfl ?_); refine goesL_ (some 96) rfl rfl Try.func28 (by kernel_rfl) rfl #[.agg #[.int .i64 t6852, .int .i64 t6853, .int .i64 t6854, .int .i64 t6855, .int .i64 t6856, .int .i64 t6857, .bool t6858, .bool t6859, .slice Ao6887 t6860.length co6887], .agg #[.int .i64 t376, .int .i64 t377, .int .i64 t378, .int .i64 t379, .int .i64 t380, .int .i64 t381, .bool t382, .bool t383, .slice Ao25 t384.length co25]] rfl (by (try simp only [lm_, lo_, ln_]); try rfl) ?_; (with_reducible refine (laws_eqPacket.calls kj66 t6852 t6853 t6854 t6855 t6856 t6857 t6858 t6859 _ _ t6860 t376 t377 t378 t379 t380 t381 t382 t383 _ _ t384 true _ ?side1 ?side2 ?side3 ?side4 A6891.out).mono ?_); (case side1 => repeat (first | exact (Kd.R_reads' HO454.out).2.2 | (with_reducible refine Kd.C_alloc ?_ _) | (with_reducible refine Kd.C_drewN ?_ _) | (with_reducible refine Kd.C_drew ?_))); (case side2 => exact (Kd.R_reads' HO454.out).2.1); (case side3 => repeat (first | exact (Kd.R_reads' HO_389008.out).2.2 | (with_reducible refine Kd.C_alloc ?_ _) | (with_reducible refine Kd.C_drewN ?_ _) | (with_reducible refine Kd.C_drew ?_))); (case side4 => exact (Kd.R_reads' HO_389008.out).2.1); rintro e w6902 ⟨rfl, hb⟩; refine ⟨_, rfl, ?_⟩; replace HO_389008 := mk_ (Kd.R_below (Kd.ur_ HO_389008.out) hb); replace HO_401008 := mk_ (Kd.R_below (Kd.ur_ HO_401008.out) hb); replace HO_414008 := mk_ (Kd.R_below (Kd.ur_ HO_414008.out) hb); replace HO443 := mk_ (Kd.R_below (Kd.ur_ HO443.out) hb); replace HO454 := mk_ (Kd.R_below (Kd.ur_ HO454.out) hb); replace BK363 := mk_ (blk_below (u_ BK363.out) hb); replace BK388 := mk_ (blk_below (u_ BK388.out) hb); replace BK400 := mk_ (blk_below (u_ BK400.out) hb); replace BK413 := mk_ (blk_below (u_ BK413.out) hb); replace BK456 := mk_ (blk_below (u_ BK456.out) hb); replace HB := mk_ (below_step (us_ HB.out) hb)))
        go_meet
        case rel => exact ⟨_, ((t6861 != t387)), (by first | rfl | (simp; done) | (simp [*]; done)), H', ⟨by have := HJ13.out; have := HJ6820.out; first | omega | exact Nat.le_refl _⟩, ⟨by (try simp only [hl401008_66]); (with_reducible repeat (first | apply Kd.R_alloc | apply Kd.R_drewN | apply Kd.R_drew)); exact Kd.R_mono HO_389008.out (fun _ hk => by first | exact ⟨hk.1, ⟨hk.2.1, hk.2.2.2⟩⟩ | exact hk.1 | exact hk | exact ⟨hk.1, hk.2⟩ | exact ⟨.inr hk.1, hk.2⟩ | simp only [hk, ne_eq, not_false_eq_true, and_self])⟩, ⟨by (try simp only [hl401008_66]); (with_reducible repeat (first | apply Kd.R_alloc | apply Kd.R_drewN | apply Kd.R_drew)); exact Kd.R_mono HO_401008.out (fun _ hk => by first | exact ⟨hk.1, ⟨hk.2.1, hk.2.2.2⟩⟩ | exact hk.1 | exact hk | exact ⟨hk.1, hk.2⟩ | exact ⟨.inr hk.1, hk.2⟩ | simp only [hk, ne_eq, not_false_eq_true, and_self])⟩, ⟨by (try simp only [hl401008_66]); (with_reducible repeat (first | apply Kd.R_alloc | apply Kd.R_drewN | apply Kd.R_drew)); exact Kd.R_mono HO_414008.out (fun _ hk => by first | exact ⟨hk.1, ⟨hk.2.1, hk.2.2.2⟩⟩ | exact hk.1 | exact hk | exact ⟨hk.1, hk.2⟩ | exact ⟨.inr hk.1, hk.2⟩ | simp only [hk, ne_eq, not_false_eq_true, and_self])⟩, ⟨by (try simp only [hl401008_66]); (with_reducible repeat (first | apply Kd.R_alloc | apply Kd.R_drewN | apply Kd.R_drew)); exact Kd.R_mono HO454.out (fun _ hk => by first | exact ⟨hk.1, ⟨hk.2.1, hk.2.2.1⟩⟩ | exact hk.1 | exact hk | exact ⟨hk.1, hk.2⟩ | exact ⟨.inr hk.1, hk.2⟩ | simp only [hk, ne_eq, not_false_eq_true, and_self])⟩, ⟨by (try simp only [hl401008_66]); (with_reducible repeat (first | refine bn_ ?_ _ | refine bw_ ?_ | refine ba_ ?_ _)); exact BK363.out⟩, ⟨by (try simp only [hl401008_66]); (with_reducible repeat (first | refine bn_ ?_ _ | refine bw_ ?_ | refine ba_ ?_ _)); exact BK388.out⟩, ⟨by (try simp only [hl401008_66]); (with_reducible repeat (first | refine bn_ ?_ _ | refine bw_ ?_ | refine ba_ ?_ _)); exact BK400.out⟩, ⟨by (try simp only [hl401008_66]); (with_reducible repeat (first | refine bn_ ?_ _ | refine bw_ ?_ | refine ba_ ?_ _)); exact BK413.out⟩, ⟨by (try simp only [hl401008_66]); (with_reducible repeat (first | refine bn_ ?_ _ | refine bw_ ?_ | refine ba_ ?_ _)); exact BK456.out⟩, ⟨us_ HB.out⟩⟩
       replace c6892 := Bool.eq_false_iff.mpr c6892
       subst c6892
       rw [if_neg (show ¬ (false = true) by decide)] at H
       have H' := mk_ H
       clear H
       have hnb6903 := NB456_363.out
       have hnc6903 := NB363_456.out
       have hnb6904 := NB456_388.out
       have hnc6904 := NB388_456.out
       have hnb6905 := NB456_400.out
       have hnc6905 := NB400_456.out
       have hnb6906 := NB456_413.out
       have hnc6906 := NB413_456.out
       obtain ⟨hcz6907_0, hcz6907_1, hcz6907_2, hcz6907_3, hcz6907_4, hcz6907_5, hcz6907_6, hcz6907_7, hcz6907_8, hfz6907_0, hfz6907_1, hfz6907_2, hfz6907_3, hfz6907_4, hfz6907_5, hfz6907_6, hfz6907_7, hfz6907_8⟩ := cells9_ BK456.out
       have hnb6908 := NB388_363.out
       have hnc6908 := NB363_388.out
       have hnb6909 := NB388_400.out
       have hnc6909 := NB400_388.out
       have hnb6910 := NB388_413.out
       have hnc6910 := NB413_388.out
       obtain ⟨hcz6911_0, hcz6911_1, hcz6911_2, hcz6911_3, hcz6911_4, hcz6911_5, hcz6911_6, hcz6911_7, hcz6911_8, hfz6911_0, hfz6911_1, hfz6911_2, hfz6911_3, hfz6911_4, hfz6911_5, hfz6911_6, hfz6911_7, hfz6911_8⟩ := cells9_ BK388.out
       go_wp2_with (first | ((with_reducible refine gate_callee (f := 28) rfl ?_); refine goesL_ (some 96) rfl rfl Try.func28 (by kernel_rfl) rfl #[.agg #[.int .i64 t6852, .int .i64 t6853, .int .i64 t6854, .int .i64 t6855, .int .i64 t6856, .int .i64 t6857, .bool t6858, .bool t6859, .slice Ao6887 t6860.length co6887], .agg #[.int .i64 t376, .int .i64 t377, .int .i64 t378, .int .i64 t379, .int .i64 t380, .int .i64 t381, .bool t382, .bool t383, .slice Ao25 t384.length co25]] rfl (by (try simp only [lm_, lo_, ln_]); try rfl) ?_; (with_reducible refine (laws_eqPacket.calls kj66 t6852 t6853 t6854 t6855 t6856 t6857 t6858 t6859 _ _ t6860 t376 t377 t378 t379 t380 t381 t382 t383 _ _ t384 false _ ?side1 ?side2 ?side3 ?side4 A6891.out).mono ?_); (case side1 => repeat (first | exact (Kd.R_reads' HO454.out).2.2 | (with_reducible refine Kd.C_alloc ?_ _) | (with_reducible refine Kd.C_drewN ?_ _) | (with_reducible refine Kd.C_drew ?_))); (case side2 => exact (Kd.R_reads' HO454.out).2.1); (case side3 => repeat (first | exact (Kd.R_reads' HO_389008.out).2.2 | (with_reducible refine Kd.C_alloc ?_ _) | (with_reducible refine Kd.C_drewN ?_ _) | (with_reducible refine Kd.C_drew ?_))); (case side4 => exact (Kd.R_reads' HO_389008.out).2.1); rintro e w6912 ⟨rfl, hb⟩; refine ⟨_, rfl, ?_⟩; replace HO_389008 := mk_ (Kd.R_below (Kd.ur_ HO_389008.out) hb); replace HO_401008 := mk_ (Kd.R_below (Kd.ur_ HO_401008.out) hb); replace HO_414008 := mk_ (Kd.R_below (Kd.ur_ HO_414008.out) hb); replace HO443 := mk_ (Kd.R_below (Kd.ur_ HO443.out) hb); replace HO454 := mk_ (Kd.R_below (Kd.ur_ HO454.out) hb); replace BK363 := mk_ (blk_below (u_ BK363.out) hb); replace BK388 := mk_ (blk_below (u_ BK388.out) hb); replace BK400 := mk_ (blk_below (u_ BK400.out) hb); replace BK413 := mk_ (blk_below (u_ BK413.out) hb); replace BK456 := mk_ (blk_below (u_ BK456.out) hb); replace HB := mk_ (below_step (us_ HB.out) hb)))
       go_meet
       case rel => exact ⟨_, (true), (by first | rfl | (simp; done) | (simp [*]; done)), H', ⟨by have := HJ13.out; have := HJ6820.out; first | omega | exact Nat.le_refl _⟩, ⟨by (try simp only [hl401008_66]); (with_reducible repeat (first | apply Kd.R_alloc | apply Kd.R_drewN | apply Kd.R_drew)); exact Kd.R_mono HO_389008.out (fun _ hk => by first | exact ⟨hk.1, ⟨hk.2.1, hk.2.2.2⟩⟩ | exact hk.1 | exact hk | exact ⟨hk.1, hk.2⟩ | exact ⟨.inr hk.1, hk.2⟩ | simp only [hk, ne_eq, not_false_eq_true, and_self])⟩, ⟨by (try simp only [hl401008_66]); (with_reducible repeat (first | apply Kd.R_alloc | apply Kd.R_drewN | apply Kd.R_drew)); exact Kd.R_mono HO_401008.out (fun _ hk => by first | exact ⟨hk.1, ⟨hk.2.1, hk.2.2.2⟩⟩ | exact hk.1 | exact hk | exact ⟨hk.1, hk.2⟩ | exact ⟨.inr hk.1, hk.2⟩ | simp only [hk, ne_eq, not_false_eq_true, and_self])⟩, ⟨by (try simp only [hl401008_66]); (with_reducible repeat (first | apply Kd.R_alloc | apply Kd.R_drewN | apply Kd.R_drew)); exact Kd.R_mono HO_414008.out (fun _ hk => by first | exact ⟨hk.1, ⟨hk.2.1, hk.2.2.2⟩⟩ | exact hk.1 | exact hk | exact ⟨hk.1, hk.2⟩ | exact ⟨.inr hk.1, hk.2⟩ | simp only [hk, ne_eq, not_false_eq_true, and_self])⟩, ⟨by (try simp only [hl401008_66]); (with_reducible repeat (first | apply Kd.R_alloc | apply Kd.R_drewN | apply Kd.R_drew)); exact Kd.R_mono HO454.out (fun _ hk => by first | exact ⟨hk.1, ⟨hk.2.1, hk.2.2.1⟩⟩ | exact hk.1 | exact hk | exact ⟨hk.1, hk.2⟩ | exact ⟨.inr hk.1, hk.2⟩ | simp only [hk, ne_eq, not_false_eq_true, and_self])⟩, ⟨by (try simp only [hl401008_66]); (with_reducible repeat (first | refine bn_ ?_ _ | refine bw_ ?_ | refine ba_ ?_ _)); exact BK363.out⟩, ⟨by (try simp only [hl401008_66]); (with_reducible repeat (first | refine bn_ ?_ _ | refine bw_ ?_ | refine ba_ ?_ _)); exact BK388.out⟩, ⟨by (try simp only [hl401008_66]); (with_reducible repeat (first | refine bn_ ?_ _ | refine bw_ ?_ | refine ba_ ?_ _)); exact BK400.out⟩, ⟨by (try simp only [hl401008_66]); (with_reducible repeat (first | refine bn_ ?_ _ | refine bw_ ?_ | refine ba_ ?_ _)); exact BK413.out⟩, ⟨by (try simp only [hl401008_66]); (with_reducible repeat (first | refine bn_ ?_ _ | refine bw_ ?_ | refine ba_ ?_ _)); exact BK456.out⟩, ⟨us_ HB.out⟩⟩
      case rest =>
       clear HC6864
       try clear c1
       try clear c2
       try clear p2
       try clear c3
       try clear c4
       try clear c5
       try clear c6
       try clear c7
       try clear c8
       try clear c9
       try clear c10
       try clear c11
       try clear c12
       try clear c13
       try clear c14
       try clear c15
       try clear c23
       try clear c24
       try clear c25
       try clear c26
       try clear c27
       try clear c28
       try clear c29
       try clear c30
       try clear c31
       try clear c38
       try clear c39
       try clear c40
       try clear c45
       try clear c46
       try clear c47
       try clear c48
       try clear c50
       try clear c51
       try clear c54
       try clear c55
       try clear c56
       try clear c58
       try clear c59
       try clear c62
       try clear c65
       try clear c72
       try clear c73
       try clear c74
       try clear c77
       try clear c77b0
       try clear c6783
       try clear c80
       try clear c81
       try clear c82
       try clear c84
       try clear c85
       try clear c88
       try clear c89
       try clear c90
       try clear c92
       try clear c93
       try clear c6821
       try clear c99
       try clear c99b0
       try clear c100
       try clear c101
       try clear c102
       try clear c107
       try clear c107b0
       try clear c107b1
       try clear c111
       try clear c112
       try clear c113
       try clear c118
       try clear c119
       try clear c125
       try clear c126
       try clear c127
       try clear c128
       try clear c6892
       try clear c134
       try clear c135
       try clear c136
       try clear c137
       try clear c139
       try clear c140
       try clear c141
       try clear c144
       try clear c145
       try clear c146
       try clear c147
       try clear c149
       try clear c150
       try clear c151
       try clear hcz6832_0
       try clear hcz6832_1
       try clear hcz6832_2
       try clear hcz6832_3
       try clear hcz6832_4
       try clear hcz6832_5
       try clear hcz6832_6
       try clear hcz6832_7
       try clear hcz6832_8
       try clear hcz6834_0
       try clear hcz6834_1
       try clear hcz6834_2
       try clear hcz6834_3
       try clear hcz6834_4
       try clear hcz6834_5
       try clear hcz6834_6
       try clear hcz6834_7
       try clear hcz6834_8
       try clear hcz6868_0
       try clear hcz6868_1
       try clear hcz6868_2
       try clear hcz6868_3
       try clear hcz6868_4
       try clear hcz6868_5
       try clear hcz6868_6
       try clear hcz6868_7
       try clear hcz6868_8
       try clear hcz6870_0
       try clear hcz6870_1
       try clear hcz6870_2
       try clear hcz6870_3
       try clear hcz6870_4
       try clear hcz6870_5
       try clear hcz6870_6
       try clear hcz6870_7
       try clear hcz6870_8
       try clear hcz6874_0
       try clear hcz6874_1
       try clear hcz6874_2
       try clear hcz6874_3
       try clear hcz6874_4
       try clear hcz6874_5
       try clear hcz6874_6
       try clear hcz6874_7
       try clear hcz6874_8
       try clear hcz6886_0
       try clear hcz6886_1
       try clear hcz6886_2
       try clear hcz6886_3
       try clear hcz6886_4
       try clear hcz6886_5
       try clear hcz6886_6
       try clear hcz6886_7
       try clear hcz6886_8
       try clear hcz6897_0
       try clear hcz6897_1
       try clear hcz6897_2
       try clear hcz6897_3
       try clear hcz6897_4
       try clear hcz6897_5
       try clear hcz6897_6
       try clear hcz6897_7
       try clear hcz6897_8
       try clear hcz6901_0
       try clear hcz6901_1
       try clear hcz6901_2
       try clear hcz6901_3
       try clear hcz6901_4
       try clear hcz6901_5
       try clear hcz6901_6
       try clear hcz6901_7
       try clear hcz6901_8
       try clear hcz6907_0
       try clear hcz6907_1
       try clear hcz6907_2
       try clear hcz6907_3
       try clear hcz6907_4
       try clear hcz6907_5
       try clear hcz6907_6
       try clear hcz6907_7
       try clear hcz6907_8
       try clear hcz6911_0
       try clear hcz6911_1
       try clear hcz6911_2
       try clear hcz6911_3
       try clear hcz6911_4
       try clear hcz6911_5
       try clear hcz6911_6
       try clear hcz6911_7
       try clear hcz6911_8
       try clear hcz16_0
       try clear hcz16_1
       try clear hcz16_2
       try clear hcz16_3
       try clear hcz16_4
       try clear hcz16_5
       try clear hcz16_6
       try clear hcz16_7
       try clear hcz16_8
       try clear hcz18_0
       try clear hcz18_1
       try clear hcz18_2
       try clear hcz18_3
       try clear hcz18_4
       try clear hcz18_5
       try clear hcz18_6
       try clear hcz18_7
       try clear hcz18_8
       try clear hcz24_0
       try clear hcz24_1
       try clear hcz24_2
       try clear hcz24_3
       try clear hcz24_4
       try clear hcz24_5
       try clear hcz24_6
       try clear hcz24_7
       try clear hcz24_8
       try clear hcz27_0
       try clear hcz27_1
       try clear hcz27_2
       try clear hcz27_3
       try clear hcz27_4
       try clear hcz27_5
       try clear hcz27_6
       try clear hcz27_7
       try clear hcz27_8
       try clear hcz32_0
       try clear hcz32_1
       try clear hcz32_2
       try clear hcz32_3
       try clear hcz32_4
       try clear hcz32_5
       try clear hcz32_6
       try clear hcz32_7
       try clear hcz32_8
       try clear hcz35_0
       try clear hcz35_1
       try clear hcz35_2
       try clear hcz35_3
       try clear hcz35_4
       try clear hcz35_5
       try clear hcz35_6
       try clear hcz35_7
       try clear hcz35_8
       try clear hcz41_0
       try clear hcz41_1
       try clear hcz41_2
       try clear hcz41_3
       try clear hcz41_4
       try clear hcz41_5
       try clear hcz41_6
       try clear hcz41_7
       try clear hcz41_8
       try clear hcz49_0
       try clear hcz49_1
       try clear hcz49_2
       try clear hcz49_3
       try clear hcz49_4
       try clear hcz49_5
       try clear hcz49_6
       try clear hcz49_7
       try clear hcz49_8
       try clear hcz52_0
       try clear hcz52_1
       try clear hcz52_2
       try clear hcz52_3
       try clear hcz52_4
       try clear hcz52_5
       try clear hcz52_6
       try clear hcz52_7
       try clear hcz52_8
       try clear hcz57_0
       try clear hcz57_1
       try clear hcz57_2
       try clear hcz57_3
       try clear hcz57_4
       try clear hcz57_5
       try clear hcz57_6
       try clear hcz57_7
       try clear hcz57_8
       try clear hcz60_0
       try clear hcz60_1
       try clear hcz60_2
       try clear hcz60_3
       try clear hcz60_4
       try clear hcz60_5
       try clear hcz60_6
       try clear hcz60_7
       try clear hcz60_8
       try clear hcz6620_0
       try clear hcz6620_1
       try clear hcz6620_2
       try clear hcz6620_3
       try clear hcz6620_4
       try clear hcz6620_5
       try clear hcz6620_6
       try clear hcz6620_7
       try clear hcz6620_8
       try clear hcz6787_0
       try clear hcz6787_1
       try clear hcz6787_2
       try clear hcz6787_3
       try clear hcz6787_4
       try clear hcz6787_5
       try clear hcz6787_6
       try clear hcz6787_7
       try clear hcz6787_8
       try clear hcz6790_0
       try clear hcz6790_1
       try clear hcz6790_2
       try clear hcz6790_3
       try clear hcz6790_4
       try clear hcz6790_5
       try clear hcz6790_6
       try clear hcz6790_7
       try clear hcz6790_8
       try clear hcz8_0
       try clear hcz8_1
       try clear hcz8_2
       try clear hcz8_3
       try clear hcz8_4
       try clear hcz8_5
       try clear hcz8_6
       try clear hcz8_7
       try clear hcz8_8
       try clear hcz6795_0
       try clear hcz6795_1
       try clear hcz6795_2
       try clear hcz6795_3
       try clear hcz6795_4
       try clear hcz6795_5
       try clear hcz6795_6
       try clear hcz6795_7
       try clear hcz6795_8
       try clear hcz6798_0
       try clear hcz6798_1
       try clear hcz6798_2
       try clear hcz6798_3
       try clear hcz6798_4
       try clear hcz6798_5
       try clear hcz6798_6
       try clear hcz6798_7
       try clear hcz6798_8
       try clear hfz6832_0
       try clear hfz6832_1
       try clear hfz6832_2
       try clear hfz6832_3
       try clear hfz6832_4
       try clear hfz6832_5
       try clear hfz6832_6
       try clear hfz6832_7
       try clear hfz6832_8
       try clear hfz6834_0
       try clear hfz6834_1
       try clear hfz6834_2
       try clear hfz6834_3
       try clear hfz6834_4
       try clear hfz6834_5
       try clear hfz6834_6
       try clear hfz6834_7
       try clear hfz6834_8
       try clear hfz6868_0
       try clear hfz6868_1
       try clear hfz6868_2
       try clear hfz6868_3
       try clear hfz6868_4
       try clear hfz6868_5
       try clear hfz6868_6
       try clear hfz6868_7
       try clear hfz6868_8
       try clear hfz6870_0
       try clear hfz6870_1
       try clear hfz6870_2
       try clear hfz6870_3
       try clear hfz6870_4
       try clear hfz6870_5
       try clear hfz6870_6
       try clear hfz6870_7
       try clear hfz6870_8
       try clear hfz6874_0
       try clear hfz6874_1
       try clear hfz6874_2
       try clear hfz6874_3
       try clear hfz6874_4
       try clear hfz6874_5
       try clear hfz6874_6
       try clear hfz6874_7
       try clear hfz6874_8
       try clear hfz6886_0
       try clear hfz6886_1
       try clear hfz6886_2
       try clear hfz6886_3
       try clear hfz6886_4
       try clear hfz6886_5
       try clear hfz6886_6
       try clear hfz6886_7
       try clear hfz6886_8
       try clear hfz6897_0
       try clear hfz6897_1
       try clear hfz6897_2
       try clear hfz6897_3
       try clear hfz6897_4
       try clear hfz6897_5
       try clear hfz6897_6
       try clear hfz6897_7
       try clear hfz6897_8
       try clear hfz6901_0
       try clear hfz6901_1
       try clear hfz6901_2
       try clear hfz6901_3
       try clear hfz6901_4
       try clear hfz6901_5
       try clear hfz6901_6
       try clear hfz6901_7
       try clear hfz6901_8
       try clear hfz6907_0
       try clear hfz6907_1
       try clear hfz6907_2
       try clear hfz6907_3
       try clear hfz6907_4
       try clear hfz6907_5
       try clear hfz6907_6
       try clear hfz6907_7
       try clear hfz6907_8
       try clear hfz6911_0
       try clear hfz6911_1
       try clear hfz6911_2
       try clear hfz6911_3
       try clear hfz6911_4
       try clear hfz6911_5
       try clear hfz6911_6
       try clear hfz6911_7
       try clear hfz6911_8
       try clear hfz16_0
       try clear hfz16_1
       try clear hfz16_2
       try clear hfz16_3
       try clear hfz16_4
       try clear hfz16_5
       try clear hfz16_6
       try clear hfz16_7
       try clear hfz16_8
       try clear hfz18_0
       try clear hfz18_1
       try clear hfz18_2
       try clear hfz18_3
       try clear hfz18_4
       try clear hfz18_5
       try clear hfz18_6
       try clear hfz18_7
       try clear hfz18_8
       try clear hfz24_0
       try clear hfz24_1
       try clear hfz24_2
       try clear hfz24_3
       try clear hfz24_4
       try clear hfz24_5
       try clear hfz24_6
       try clear hfz24_7
       try clear hfz24_8
       try clear hfz27_0
       try clear hfz27_1
       try clear hfz27_2
       try clear hfz27_3
       try clear hfz27_4
       try clear hfz27_5
       try clear hfz27_6
       try clear hfz27_7
       try clear hfz27_8
       try clear hfz32_0
       try clear hfz32_1
       try clear hfz32_2
       try clear hfz32_3
       try clear hfz32_4
       try clear hfz32_5
       try clear hfz32_6
       try clear hfz32_7
       try clear hfz32_8
       try clear hfz35_0
       try clear hfz35_1
       try clear hfz35_2
       try clear hfz35_3
       try clear hfz35_4
       try clear hfz35_5
       try clear hfz35_6
       try clear hfz35_7
       try clear hfz35_8
       try clear hfz41_0
       try clear hfz41_1
       try clear hfz41_2
       try clear hfz41_3
       try clear hfz41_4
       try clear hfz41_5
       try clear hfz41_6
       try clear hfz41_7
       try clear hfz41_8
       try clear hfz49_0
       try clear hfz49_1
       try clear hfz49_2
       try clear hfz49_3
       try clear hfz49_4
       try clear hfz49_5
       try clear hfz49_6
       try clear hfz49_7
       try clear hfz49_8
       try clear hfz52_0
       try clear hfz52_1
       try clear hfz52_2
       try clear hfz52_3
       try clear hfz52_4
       try clear hfz52_5
       try clear hfz52_6
       try clear hfz52_7
       try clear hfz52_8
       try clear hfz57_0
       try clear hfz57_1
       try clear hfz57_2
       try clear hfz57_3
       try clear hfz57_4
       try clear hfz57_5
       try clear hfz57_6
       try clear hfz57_7
       try clear hfz57_8
       try clear hfz60_0
       try clear hfz60_1
       try clear hfz60_2
       try clear hfz60_3
       try clear hfz60_4
       try clear hfz60_5
       try clear hfz60_6
       try clear hfz60_7
       try clear hfz60_8
       try clear hfz6620_0
       try clear hfz6620_1
       try clear hfz6620_2
       try clear hfz6620_3
       try clear hfz6620_4
       try clear hfz6620_5
       try clear hfz6620_6
       try clear hfz6620_7
       try clear hfz6620_8
       try clear hfz6787_0
       try clear hfz6787_1
       try clear hfz6787_2
       try clear hfz6787_3
       try clear hfz6787_4
       try clear hfz6787_5
       try clear hfz6787_6
       try clear hfz6787_7
       try clear hfz6787_8
       try clear hfz6790_0
       try clear hfz6790_1
       try clear hfz6790_2
       try clear hfz6790_3
       try clear hfz6790_4
       try clear hfz6790_5
       try clear hfz6790_6
       try clear hfz6790_7
       try clear hfz6790_8
       try clear hfz8_0
       try clear hfz8_1
       try clear hfz8_2
       try clear hfz8_3
       try clear hfz8_4
       try clear hfz8_5
       try clear hfz8_6
       try clear hfz8_7
       try clear hfz8_8
       try clear hfz6795_0
       try clear hfz6795_1
       try clear hfz6795_2
       try clear hfz6795_3
       try clear hfz6795_4
       try clear hfz6795_5
       try clear hfz6795_6
       try clear hfz6795_7
       try clear hfz6795_8
       try clear hfz6798_0
       try clear hfz6798_1
       try clear hfz6798_2
       try clear hfz6798_3
       try clear hfz6798_4
       try clear hfz6798_5
       try clear hfz6798_6
       try clear hfz6798_7
       try clear hfz6798_8
       obtain ⟨kq, x102_109, rfl, HA, HJ6863, HO_389008, HO_401008, HO_414008, HO_6913, BK363, BK388, BK400, BK413, BK456, HB⟩ := hcut
       have hl414008_109 := (Kd.R_reads' HO_414008.out).1
       rw [hl414008_109] at HO_414008
       (try simp only [hl414008_109])
       (try simp only [hl414008_109] at BK363)
       (try simp only [hl414008_109] at BK388)
       (try simp only [hl414008_109] at BK400)
       (try simp only [hl414008_109] at BK413)
       (try simp only [hl414008_109] at BK456)
       (try simp only [hl414008_109] at HO_389008)
       (try simp only [hl414008_109] at HO_401008)
       (try simp only [hl414008_109] at HO_6913)
       cases kq with
       | zero => exact absurd HA.out (by simp [laws_FnExactNoteAbout.j2])
       | succ kj109 =>
        have H := HA.out
        clear HA
        simp only [laws_FnExactNoteAbout.j2] at H
        by_cases c6914 : x102_109 = true
        focus
         subst c6914
         have H2141 : (some false) = some r := by rw [if_pos rfl] at H; exact H
         clear H
         have H := H2141
         clear H2141
         obtain rfl := Option.some.inj H
        rotate_left
        focus
         replace c6914 := Bool.eq_false_iff.mpr c6914
         subst c6914
         rw [if_neg (show ¬ (false = true) by decide)] at H
         replace H := Option.bind_eq_some_iff.mp H
         obtain ⟨t6915, A6916, H⟩ := H
         replace H : (if t6915 < 0 then (some false) else (if t6915 = t6822 then (some true) else (some false))) = some r := H
         have A6917 := mk_ A6916
         clear A6916
         by_cases c156 : t6915 < 0
         focus
          rw [if_pos c156] at H
          have c156b0 : decide (t6915 < 0) = true := decide_eq_true c156
          clear c156
          obtain rfl := Option.some.inj H
          have hnb6918 := NB413_363.out
          have hnc6918 := NB363_413.out
          have hnb6919 := NB413_388.out
          have hnc6919 := NB388_413.out
          have hnb6920 := NB413_400.out
          have hnc6920 := NB400_413.out
          have hnb6921 := NB413_456.out
          have hnc6921 := NB456_413.out
          obtain ⟨_, _, _, _, _, _, _, _, _, _, _, _, _, _, _, _, _, _⟩ := cells9_ BK413.out
         rotate_left
         focus
          rw [if_neg c156] at H
          have c156b0 : decide (t6915 < 0) = false := decide_eq_false c156
          clear c156
          by_cases c163 : t6915 = t6822
          rotate_left
          focus
           rw [if_neg c163] at H
           have c163b0 : (t6915 == t6822) = false := beq_eq_false_iff_ne.mpr c163
           have c163b1 : (t6915 != t6822) = true := bne_iff_ne.mpr c163
           obtain rfl := Option.some.inj H
           have hnb6923 := NB413_363.out
           have hnc6923 := NB363_413.out
           have hnb6924 := NB413_388.out
           have hnc6924 := NB388_413.out
           have hnb6925 := NB413_400.out
           have hnc6925 := NB400_413.out
           have hnb6926 := NB413_456.out
           have hnc6926 := NB456_413.out
           obtain ⟨_, _, _, _, _, _, _, _, _, _, _, _, _, _, _, _, _, _⟩ := cells9_ BK413.out
          rotate_left
          focus
           rw [if_pos c163] at H
           have c163b0 : (t6915 == t6822) = true := beq_iff_eq.mpr c163
           have c163b1 : (t6915 != t6822) = false := bne_eq_false_iff_eq.mpr c163
           clear c163
           obtain rfl := Option.some.inj H
           have hnb6928 := NB413_363.out
           have hnc6928 := NB363_413.out
           have hnb6929 := NB413_388.out
           have hnc6929 := NB388_413.out
           have hnb6930 := NB413_400.out
           have hnc6930 := NB400_413.out
           have hnb6931 := NB413_456.out
           have hnc6931 := NB456_413.out
           obtain ⟨_, _, _, _, _, _, _, _, _, _, _, _, _, _, _, _, _, _⟩ := cells9_ BK413.out
          rotate_left
         rotate_left 2
        rotate_left 3
        all_goals
         go_wp2_with (first | ((with_reducible refine gate_callee (f := 30) rfl ?_); refine goesL_ (some 105) rfl rfl Try.func30 (by kernel_rfl) rfl #[.agg #[.int .i64 t401, .int .i64 t402, .int .i64 t403, .int .i64 t404, .int .i64 t405, .int .i64 t406, .bool t407, .bool t408, .slice Ao42 t6823.length co42], .int .i64 1] rfl (by (try simp only [lm_, lo_, ln_]); try rfl) ?_; (with_reducible refine (laws_heldPacket.calls kj109 t401 t402 t403 t404 t405 t406 t407 t408 _ _ t6823 1 t6915 _ ?side1 ?side2 A6917.out).mono ?_); (case side1 => repeat (first | exact (Kd.R_reads' HO_414008.out).2.2 | (with_reducible refine Kd.C_alloc ?_ _) | (with_reducible refine Kd.C_drewN ?_ _) | (with_reducible refine Kd.C_drew ?_))); (case side2 => exact (Kd.R_reads' HO_414008.out).2.1); rintro e w940 ⟨rfl, hb⟩; refine ⟨_, rfl, ?_⟩; replace HO_389008 := mk_ (Kd.R_below (Kd.ur_ HO_389008.out) hb); replace HO_401008 := mk_ (Kd.R_below (Kd.ur_ HO_401008.out) hb); replace HO_414008 := mk_ (Kd.R_below (Kd.ur_ HO_414008.out) hb); replace HO_6913 := mk_ (Kd.R_below (Kd.ur_ HO_6913.out) hb); replace BK363 := mk_ (blk_below (u_ BK363.out) hb); replace BK388 := mk_ (blk_below (u_ BK388.out) hb); replace BK400 := mk_ (blk_below (u_ BK400.out) hb); replace BK413 := mk_ (blk_below (u_ BK413.out) hb); replace BK456 := mk_ (blk_below (u_ BK456.out) hb); replace HB := mk_ (below_step (us_ HB.out) hb)))
         go_ret
         exact ⟨by first | rfl | (simp [errW_none, errW_some] <;> rfl) | (simp [*, errW_none, errW_some] <;> rfl), us_ HB.out⟩

end Go.Proofs.Ytkkibccnpkbbjab.MFnExactNoteAbout
