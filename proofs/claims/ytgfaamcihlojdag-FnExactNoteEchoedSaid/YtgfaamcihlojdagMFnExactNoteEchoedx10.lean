/- Functions that the law FnExactNoteEchoed reaches, each with the proof that the machine's call comes to just its answer; no conditions but those that each theorem states. Printed by a program of this session over the kit's print. -/
import Derived.Test.YtgfaamcihlojdagMFnExactNoteEchoedx0
import Derived.Test.YtgfaamcihlojdagMFnExactNoteEchoedx1
import Derived.Test.YtgfaamcihlojdagMFnExactNoteEchoedx4
import Derived.Test.YtgfaamcihlojdagMFnExactNoteEchoedx5
import Derived.Test.YtgfaamcihlojdagMFnExactNoteEchoedx8
import Derived.Test.YtgfaamcihlojdagMFnExactNoteEchoedx9
namespace Go.Proofs.Ytgfaamcihlojdag.MFnExactNoteEchoed
open Go.RowKit Go.Proofs.YtgfaamcihlojdagV.PrintWords Go.Proofs.YtgfaamcihlojdagV.PrintLast Go.Proofs.YtgfaamcihlojdagV.PrintMore
attribute [local go_sem] max2_int min2_int max_two min_two max_three min_three max_four min_four   -- for this text's walks alone
set_option linter.unusedVariables false
set_option linter.unusedSimpArgs false

/-! ### laws_FnExactNoteEchoed: function 6 -/
mutual
def laws_FnExactNoteEchoed.j0 : Nat → Int → Bool → Bool → Bool → Int → Int → Int → Int → Int → Int → Bool → Bool → List Int → Int → Int → Int → Int → Int → Int → Bool → Bool → List Int → Int → Int → Int → Int → Int → Int → Bool → Bool → List Int → Int → Int → Int → Int → Int → Int → Bool → Bool → List Int → Option (Bool)
 | 0, _, _, _, _, _, _, _, _, _, _, _, _, _, _, _, _, _, _, _, _, _, _, _, _, _, _, _, _, _, _, _, _, _, _, _, _, _, _, _, _ => none
 | k + 1, x1, x7, x10, x44, x273000, x273001, x273002, x273003, x273004, x273005, x273006, x273007, x273008, x298000, x298001, x298002, x298003, x298004, x298005, x298006, x298007, x298008, x310000, x310001, x310002, x310003, x310004, x310005, x310006, x310007, x310008, x323000, x323001, x323002, x323003, x323004, x323005, x323006, x323007, x323008 => if x44 = true then (some false) else ((laws_toPacket.f k x273000 x273001 x273002 x273003 x273004 x273005 x273006 x273007 x273008).bind fun bt324 => ((laws_eqPacket.f k x310000 x310001 x310002 x310003 x310004 x310005 x310006 x310007 x310008 bt324.1 bt324.2.1 bt324.2.2.1 bt324.2.2.2.1 bt324.2.2.2.2.1 bt324.2.2.2.2.2.1 bt324.2.2.2.2.2.2.1 bt324.2.2.2.2.2.2.2.1 bt324.2.2.2.2.2.2.2.2).bind fun t335 => (if t335 = true then ((laws_markPacket.f k x310000 x310001 x310002 x310003 x310004 x310005 x310006 x310007 x310008 1).bind fun bt336 => (if bt336.1 < 0 then (laws_FnExactNoteEchoed.j1 k x1 x7 true x273000 x273001 x273002 x273003 x273004 x273005 x273006 x273007 x273008 x298000 x298001 x298002 x298003 x298004 x298005 x298006 x298007 x298008 x323000 x323001 x323002 x323003 x323004 x323005 x323006 x323007 x323008) else ((laws_eqPacket.f k x323000 x323001 x323002 x323003 x323004 x323005 x323006 x323007 x323008 x298000 x298001 x298002 x298003 x298004 x298005 x298006 x298007 x298008).bind fun t338 => (if t338 = true then (laws_FnExactNoteEchoed.j1 k x1 x7 (x10 != x7) x273000 x273001 x273002 x273003 x273004 x273005 x273006 x273007 x273008 x298000 x298001 x298002 x298003 x298004 x298005 x298006 x298007 x298008 x323000 x323001 x323002 x323003 x323004 x323005 x323006 x323007 x323008) else (laws_FnExactNoteEchoed.j1 k x1 x7 true x273000 x273001 x273002 x273003 x273004 x273005 x273006 x273007 x273008 x298000 x298001 x298002 x298003 x298004 x298005 x298006 x298007 x298008 x323000 x323001 x323002 x323003 x323004 x323005 x323006 x323007 x323008))))) else (some false))))
def laws_FnExactNoteEchoed.j1 : Nat → Int → Bool → Bool → Int → Int → Int → Int → Int → Int → Bool → Bool → List Int → Int → Int → Int → Int → Int → Int → Bool → Bool → List Int → Int → Int → Int → Int → Int → Int → Bool → Bool → List Int → Option (Bool)
 | 0, _, _, _, _, _, _, _, _, _, _, _, _, _, _, _, _, _, _, _, _, _, _, _, _, _, _, _, _, _, _ => none
 | k + 1, x1, x7, x65, x273000, x273001, x273002, x273003, x273004, x273005, x273006, x273007, x273008, x298000, x298001, x298002, x298003, x298004, x298005, x298006, x298007, x298008, x323000, x323001, x323002, x323003, x323004, x323005, x323006, x323007, x323008 => if x65 = true then (some false) else ((laws_markPacket.f k x323000 x323001 x323002 x323003 x323004 x323005 x323006 x323007 x323008 1).bind fun bt339 => ((laws_heldPacket.f k x323000 x323001 x323002 x323003 x323004 x323005 x323006 x323007 bt339.2 1).bind fun t341 => (if t341 < 0 then (some false) else (if t341 = bt339.1 then ((laws_toPacket.f k x273000 x273001 x273002 x273003 x273004 x273005 x273006 x273007 x273008).bind fun bt342 => ((impl_NoteEchoed.f k bt342.1 bt342.2.1 bt342.2.2.1 bt342.2.2.2.1 bt342.2.2.2.2.1 bt342.2.2.2.2.2.1 bt342.2.2.2.2.2.2.1 bt342.2.2.2.2.2.2.2.1 bt342.2.2.2.2.2.2.2.2 x1).bind fun bt353 => ((laws_eqPacket.f k bt353.1 bt353.2.1 bt353.2.2.1 bt353.2.2.2.1 bt353.2.2.2.2.1 bt353.2.2.2.2.2.1 bt353.2.2.2.2.2.2.1 bt353.2.2.2.2.2.2.2.1 bt353.2.2.2.2.2.2.2.2.1 x298000 x298001 x298002 x298003 x298004 x298005 x298006 x298007 x298008).bind fun t366 => (if t366 = true then (laws_FnExactNoteEchoed.j2 k bt339.1 (bt353.2.2.2.2.2.2.2.2.2 != x7) x323000 x323001 x323002 x323003 x323004 x323005 x323006 x323007 bt339.2) else (laws_FnExactNoteEchoed.j2 k bt339.1 true x323000 x323001 x323002 x323003 x323004 x323005 x323006 x323007 bt339.2))))) else (some false)))))
def laws_FnExactNoteEchoed.j2 : Nat → Int → Bool → Int → Int → Int → Int → Int → Int → Bool → Bool → List Int → Option (Bool)
 | 0, _, _, _, _, _, _, _, _, _, _, _ => none
 | k + 1, x12, x92, x323000, x323001, x323002, x323003, x323004, x323005, x323006, x323007, x323008 => if x92 = true then (some false) else ((laws_heldPacket.f k x323000 x323001 x323002 x323003 x323004 x323005 x323006 x323007 x323008 1).bind fun t367 => (if t367 < 0 then (some false) else (if t367 = x12 then (some true) else (some false))))
end
def laws_FnExactNoteEchoed.f (k : Nat) (a0_0 : Int) (a0_1 : Int) (a0_2 : Int) (a0_3 : Int) (a0_4 : Int) (a0_5 : Int) (a0_6 : Bool) (a0_7 : Bool) (l0_8 : List Int) (a1 : Int) : Option (Bool) := (laws_szPacket.f a0_0 a0_1 a0_2 a0_3 a0_4 a0_5 a0_6 a0_7 l0_8 1048576).bind fun t273 => (if t273 < 0 then (some true) else ((laws_toPacket.f k a0_0 a0_1 a0_2 a0_3 a0_4 a0_5 a0_6 a0_7 l0_8).bind fun bt274 => ((spec_NoteEchoed.f k bt274.1 bt274.2.1 bt274.2.2.1 bt274.2.2.2.1 bt274.2.2.2.2.1 bt274.2.2.2.2.2.1 bt274.2.2.2.2.2.2.1 bt274.2.2.2.2.2.2.2.1 bt274.2.2.2.2.2.2.2.2 a1).bind fun bt285 => ((laws_toPacket.f k a0_0 a0_1 a0_2 a0_3 a0_4 a0_5 a0_6 a0_7 l0_8).bind fun bt298 => ((impl_NoteEchoed.f k bt298.1 bt298.2.1 bt298.2.2.1 bt298.2.2.2.1 bt298.2.2.2.2.1 bt298.2.2.2.2.2.1 bt298.2.2.2.2.2.2.1 bt298.2.2.2.2.2.2.2.1 bt298.2.2.2.2.2.2.2.2 a1).bind fun bt310 => ((laws_eqPacket.f k bt310.1 bt310.2.1 bt310.2.2.1 bt310.2.2.2.1 bt310.2.2.2.2.1 bt310.2.2.2.2.2.1 bt310.2.2.2.2.2.2.1 bt310.2.2.2.2.2.2.2.1 bt310.2.2.2.2.2.2.2.2.1 bt285.1 bt285.2.1 bt285.2.2.1 bt285.2.2.2.1 bt285.2.2.2.2.1 bt285.2.2.2.2.2.1 bt285.2.2.2.2.2.2.1 bt285.2.2.2.2.2.2.2.1 bt285.2.2.2.2.2.2.2.2.1).bind fun t323 => (if t323 = true then (laws_FnExactNoteEchoed.j0 k a1 bt285.2.2.2.2.2.2.2.2.2 bt310.2.2.2.2.2.2.2.2.2 (bt310.2.2.2.2.2.2.2.2.2 != bt285.2.2.2.2.2.2.2.2.2) a0_0 a0_1 a0_2 a0_3 a0_4 a0_5 a0_6 a0_7 l0_8 bt285.1 bt285.2.1 bt285.2.2.1 bt285.2.2.2.1 bt285.2.2.2.2.1 bt285.2.2.2.2.2.1 bt285.2.2.2.2.2.2.1 bt285.2.2.2.2.2.2.2.1 bt285.2.2.2.2.2.2.2.2.1 bt298.1 bt298.2.1 bt298.2.2.1 bt298.2.2.2.1 bt298.2.2.2.2.1 bt298.2.2.2.2.2.1 bt298.2.2.2.2.2.2.1 bt298.2.2.2.2.2.2.2.1 bt298.2.2.2.2.2.2.2.2 bt310.1 bt310.2.1 bt310.2.2.1 bt310.2.2.2.1 bt310.2.2.2.2.1 bt310.2.2.2.2.2.1 bt310.2.2.2.2.2.2.1 bt310.2.2.2.2.2.2.2.1 bt310.2.2.2.2.2.2.2.2.1) else (laws_FnExactNoteEchoed.j0 k a1 bt285.2.2.2.2.2.2.2.2.2 bt310.2.2.2.2.2.2.2.2.2 true a0_0 a0_1 a0_2 a0_3 a0_4 a0_5 a0_6 a0_7 l0_8 bt285.1 bt285.2.1 bt285.2.2.1 bt285.2.2.2.1 bt285.2.2.2.2.1 bt285.2.2.2.2.2.1 bt285.2.2.2.2.2.2.1 bt285.2.2.2.2.2.2.2.1 bt285.2.2.2.2.2.2.2.2.1 bt298.1 bt298.2.1 bt298.2.2.1 bt298.2.2.2.1 bt298.2.2.2.2.1 bt298.2.2.2.2.2.1 bt298.2.2.2.2.2.2.1 bt298.2.2.2.2.2.2.2.1 bt298.2.2.2.2.2.2.2.2 bt310.1 bt310.2.1 bt310.2.2.1 bt310.2.2.2.1 bt310.2.2.2.2.1 bt310.2.2.2.2.2.1 bt310.2.2.2.2.2.2.1 bt310.2.2.2.2.2.2.2.1 bt310.2.2.2.2.2.2.2.2.1))))))))
theorem laws_FnExactNoteEchoed.mono_l : ∀ k, (∀ y0 y1 y2 y3 y4 y5 y6 y7 y8 y9 y10 y11 y12 y13 y14 y15 y16 y17 y18 y19 y20 y21 y22 y23 y24 y25 y26 y27 y28 y29 y30 y31 y32 y33 y34 y35 y36 y37 y38 y39, LeO (laws_FnExactNoteEchoed.j0 k y0 y1 y2 y3 y4 y5 y6 y7 y8 y9 y10 y11 y12 y13 y14 y15 y16 y17 y18 y19 y20 y21 y22 y23 y24 y25 y26 y27 y28 y29 y30 y31 y32 y33 y34 y35 y36 y37 y38 y39) (laws_FnExactNoteEchoed.j0 (k + 1) y0 y1 y2 y3 y4 y5 y6 y7 y8 y9 y10 y11 y12 y13 y14 y15 y16 y17 y18 y19 y20 y21 y22 y23 y24 y25 y26 y27 y28 y29 y30 y31 y32 y33 y34 y35 y36 y37 y38 y39)) ∧ (∀ y0 y1 y2 y3 y4 y5 y6 y7 y8 y9 y10 y11 y12 y13 y14 y15 y16 y17 y18 y19 y20 y21 y22 y23 y24 y25 y26 y27 y28 y29, LeO (laws_FnExactNoteEchoed.j1 k y0 y1 y2 y3 y4 y5 y6 y7 y8 y9 y10 y11 y12 y13 y14 y15 y16 y17 y18 y19 y20 y21 y22 y23 y24 y25 y26 y27 y28 y29) (laws_FnExactNoteEchoed.j1 (k + 1) y0 y1 y2 y3 y4 y5 y6 y7 y8 y9 y10 y11 y12 y13 y14 y15 y16 y17 y18 y19 y20 y21 y22 y23 y24 y25 y26 y27 y28 y29)) ∧ (∀ y0 y1 y2 y3 y4 y5 y6 y7 y8 y9 y10, LeO (laws_FnExactNoteEchoed.j2 k y0 y1 y2 y3 y4 y5 y6 y7 y8 y9 y10) (laws_FnExactNoteEchoed.j2 (k + 1) y0 y1 y2 y3 y4 y5 y6 y7 y8 y9 y10))
 | 0 => ⟨fun _ _ _ _ _ _ _ _ _ _ _ _ _ _ _ _ _ _ _ _ _ _ _ _ _ _ _ _ _ _ _ _ _ _ _ _ _ _ _ _ r h => by simp [laws_FnExactNoteEchoed.j0] at h, fun _ _ _ _ _ _ _ _ _ _ _ _ _ _ _ _ _ _ _ _ _ _ _ _ _ _ _ _ _ _ r h => by simp [laws_FnExactNoteEchoed.j1] at h, fun _ _ _ _ _ _ _ _ _ _ _ r h => by simp [laws_FnExactNoteEchoed.j2] at h⟩
 | k + 1 => by
  obtain ⟨ih0, ih1, ih2⟩ := laws_FnExactNoteEchoed.mono_l k
  refine ⟨?_, ?_, ?_⟩
  ·intro y0 y1 y2 y3 y4 y5 y6 y7 y8 y9 y10 y11 y12 y13 y14 y15 y16 y17 y18 y19 y20 y21 y22 y23 y24 y25 y26 y27 y28 y29 y30 y31 y32 y33 y34 y35 y36 y37 y38 y39
   unfold laws_FnExactNoteEchoed.j0
   repeat' first
   | (with_reducible exact ih0 _ _ _ _ _ _ _ _ _ _ _ _ _ _ _ _ _ _ _ _ _ _ _ _ _ _ _ _ _ _ _ _ _ _ _ _ _ _ _ _)
   | (with_reducible exact ih1 _ _ _ _ _ _ _ _ _ _ _ _ _ _ _ _ _ _ _ _ _ _ _ _ _ _ _ _ _ _)
   | (with_reducible exact ih2 _ _ _ _ _ _ _ _ _ _ _)
   | (with_reducible exact impl_NoteEchoed.mono _ _ _ _ _ _ _ _ _ _ _)
   | (with_reducible exact laws_eqPacket.mono _ _ _ _ _ _ _ _ _ _ _ _ _ _ _ _ _ _ _)
   | (with_reducible exact laws_heldPacket.mono _ _ _ _ _ _ _ _ _ _ _)
   | (with_reducible exact laws_markPacket.mono _ _ _ _ _ _ _ _ _ _ _)
   | (with_reducible exact laws_toPacket.mono _ _ _ _ _ _ _ _ _ _)
   | (with_reducible exact spec_NoteEchoed.mono _ _ _ _ _ _ _ _ _ _ _)
   | (with_reducible exact LeO.refl _)
   | (with_reducible exact LeO.none _)
   | (with_reducible refine LeO.ite ?_ ?_)
   | (with_reducible refine LeO.bind ?_ (fun _ => ?_))
   | exact ih0 _ _ _ _ _ _ _ _ _ _ _ _ _ _ _ _ _ _ _ _ _ _ _ _ _ _ _ _ _ _ _ _ _ _ _ _ _ _ _ _
   | exact ih1 _ _ _ _ _ _ _ _ _ _ _ _ _ _ _ _ _ _ _ _ _ _ _ _ _ _ _ _ _ _
   | exact ih2 _ _ _ _ _ _ _ _ _ _ _
   | exact impl_NoteEchoed.mono _ _ _ _ _ _ _ _ _ _ _
   | exact laws_eqPacket.mono _ _ _ _ _ _ _ _ _ _ _ _ _ _ _ _ _ _ _
   | exact laws_heldPacket.mono _ _ _ _ _ _ _ _ _ _ _
   | exact laws_markPacket.mono _ _ _ _ _ _ _ _ _ _ _
   | exact laws_toPacket.mono _ _ _ _ _ _ _ _ _ _
   | exact spec_NoteEchoed.mono _ _ _ _ _ _ _ _ _ _ _
   | exact LeO.none _
   | refine LeO.ite ?_ ?_
   | refine LeO.bind ?_ (fun _ => ?_)
  ·intro y0 y1 y2 y3 y4 y5 y6 y7 y8 y9 y10 y11 y12 y13 y14 y15 y16 y17 y18 y19 y20 y21 y22 y23 y24 y25 y26 y27 y28 y29
   unfold laws_FnExactNoteEchoed.j1
   repeat' first
   | (with_reducible exact ih0 _ _ _ _ _ _ _ _ _ _ _ _ _ _ _ _ _ _ _ _ _ _ _ _ _ _ _ _ _ _ _ _ _ _ _ _ _ _ _ _)
   | (with_reducible exact ih1 _ _ _ _ _ _ _ _ _ _ _ _ _ _ _ _ _ _ _ _ _ _ _ _ _ _ _ _ _ _)
   | (with_reducible exact ih2 _ _ _ _ _ _ _ _ _ _ _)
   | (with_reducible exact impl_NoteEchoed.mono _ _ _ _ _ _ _ _ _ _ _)
   | (with_reducible exact laws_eqPacket.mono _ _ _ _ _ _ _ _ _ _ _ _ _ _ _ _ _ _ _)
   | (with_reducible exact laws_heldPacket.mono _ _ _ _ _ _ _ _ _ _ _)
   | (with_reducible exact laws_markPacket.mono _ _ _ _ _ _ _ _ _ _ _)
   | (with_reducible exact laws_toPacket.mono _ _ _ _ _ _ _ _ _ _)
   | (with_reducible exact spec_NoteEchoed.mono _ _ _ _ _ _ _ _ _ _ _)
   | (with_reducible exact LeO.refl _)
   | (with_reducible exact LeO.none _)
   | (with_reducible refine LeO.ite ?_ ?_)
   | (with_reducible refine LeO.bind ?_ (fun _ => ?_))
   | exact ih0 _ _ _ _ _ _ _ _ _ _ _ _ _ _ _ _ _ _ _ _ _ _ _ _ _ _ _ _ _ _ _ _ _ _ _ _ _ _ _ _
   | exact ih1 _ _ _ _ _ _ _ _ _ _ _ _ _ _ _ _ _ _ _ _ _ _ _ _ _ _ _ _ _ _
   | exact ih2 _ _ _ _ _ _ _ _ _ _ _
   | exact impl_NoteEchoed.mono _ _ _ _ _ _ _ _ _ _ _
   | exact laws_eqPacket.mono _ _ _ _ _ _ _ _ _ _ _ _ _ _ _ _ _ _ _
   | exact laws_heldPacket.mono _ _ _ _ _ _ _ _ _ _ _
   | exact laws_markPacket.mono _ _ _ _ _ _ _ _ _ _ _
   | exact laws_toPacket.mono _ _ _ _ _ _ _ _ _ _
   | exact spec_NoteEchoed.mono _ _ _ _ _ _ _ _ _ _ _
   | exact LeO.none _
   | refine LeO.ite ?_ ?_
   | refine LeO.bind ?_ (fun _ => ?_)
  ·intro y0 y1 y2 y3 y4 y5 y6 y7 y8 y9 y10
   unfold laws_FnExactNoteEchoed.j2
   repeat' first
   | (with_reducible exact ih0 _ _ _ _ _ _ _ _ _ _ _ _ _ _ _ _ _ _ _ _ _ _ _ _ _ _ _ _ _ _ _ _ _ _ _ _ _ _ _ _)
   | (with_reducible exact ih1 _ _ _ _ _ _ _ _ _ _ _ _ _ _ _ _ _ _ _ _ _ _ _ _ _ _ _ _ _ _)
   | (with_reducible exact ih2 _ _ _ _ _ _ _ _ _ _ _)
   | (with_reducible exact impl_NoteEchoed.mono _ _ _ _ _ _ _ _ _ _ _)
   | (with_reducible exact laws_eqPacket.mono _ _ _ _ _ _ _ _ _ _ _ _ _ _ _ _ _ _ _)
   | (with_reducible exact laws_heldPacket.mono _ _ _ _ _ _ _ _ _ _ _)
   | (with_reducible exact laws_markPacket.mono _ _ _ _ _ _ _ _ _ _ _)
   | (with_reducible exact laws_toPacket.mono _ _ _ _ _ _ _ _ _ _)
   | (with_reducible exact spec_NoteEchoed.mono _ _ _ _ _ _ _ _ _ _ _)
   | (with_reducible exact LeO.refl _)
   | (with_reducible exact LeO.none _)
   | (with_reducible refine LeO.ite ?_ ?_)
   | (with_reducible refine LeO.bind ?_ (fun _ => ?_))
   | exact ih0 _ _ _ _ _ _ _ _ _ _ _ _ _ _ _ _ _ _ _ _ _ _ _ _ _ _ _ _ _ _ _ _ _ _ _ _ _ _ _ _
   | exact ih1 _ _ _ _ _ _ _ _ _ _ _ _ _ _ _ _ _ _ _ _ _ _ _ _ _ _ _ _ _ _
   | exact ih2 _ _ _ _ _ _ _ _ _ _ _
   | exact impl_NoteEchoed.mono _ _ _ _ _ _ _ _ _ _ _
   | exact laws_eqPacket.mono _ _ _ _ _ _ _ _ _ _ _ _ _ _ _ _ _ _ _
   | exact laws_heldPacket.mono _ _ _ _ _ _ _ _ _ _ _
   | exact laws_markPacket.mono _ _ _ _ _ _ _ _ _ _ _
   | exact laws_toPacket.mono _ _ _ _ _ _ _ _ _ _
   | exact spec_NoteEchoed.mono _ _ _ _ _ _ _ _ _ _ _
   | exact LeO.none _
   | refine LeO.ite ?_ ?_
   | refine LeO.bind ?_ (fun _ => ?_)
theorem laws_FnExactNoteEchoed.mono : ∀ a0 a1 a2 a3 a4 a5 a6 a7 a8 a9 k, LeO (laws_FnExactNoteEchoed.f k a0 a1 a2 a3 a4 a5 a6 a7 a8 a9) (laws_FnExactNoteEchoed.f (k + 1) a0 a1 a2 a3 a4 a5 a6 a7 a8 a9) := by
 intro a0 a1 a2 a3 a4 a5 a6 a7 a8 a9 k
 obtain ⟨ih0, ih1, ih2⟩ := laws_FnExactNoteEchoed.mono_l k
 unfold laws_FnExactNoteEchoed.f
 repeat' first
   | (with_reducible exact ih0 _ _ _ _ _ _ _ _ _ _ _ _ _ _ _ _ _ _ _ _ _ _ _ _ _ _ _ _ _ _ _ _ _ _ _ _ _ _ _ _)
   | (with_reducible exact ih1 _ _ _ _ _ _ _ _ _ _ _ _ _ _ _ _ _ _ _ _ _ _ _ _ _ _ _ _ _ _)
   | (with_reducible exact ih2 _ _ _ _ _ _ _ _ _ _ _)
   | (with_reducible exact impl_NoteEchoed.mono _ _ _ _ _ _ _ _ _ _ _)
   | (with_reducible exact laws_eqPacket.mono _ _ _ _ _ _ _ _ _ _ _ _ _ _ _ _ _ _ _)
   | (with_reducible exact laws_heldPacket.mono _ _ _ _ _ _ _ _ _ _ _)
   | (with_reducible exact laws_markPacket.mono _ _ _ _ _ _ _ _ _ _ _)
   | (with_reducible exact laws_toPacket.mono _ _ _ _ _ _ _ _ _ _)
   | (with_reducible exact spec_NoteEchoed.mono _ _ _ _ _ _ _ _ _ _ _)
   | (with_reducible exact LeO.refl _)
   | (with_reducible exact LeO.none _)
   | (with_reducible refine LeO.ite ?_ ?_)
   | (with_reducible refine LeO.bind ?_ (fun _ => ?_))
   | exact ih0 _ _ _ _ _ _ _ _ _ _ _ _ _ _ _ _ _ _ _ _ _ _ _ _ _ _ _ _ _ _ _ _ _ _ _ _ _ _ _ _
   | exact ih1 _ _ _ _ _ _ _ _ _ _ _ _ _ _ _ _ _ _ _ _ _ _ _ _ _ _ _ _ _ _
   | exact ih2 _ _ _ _ _ _ _ _ _ _ _
   | exact impl_NoteEchoed.mono _ _ _ _ _ _ _ _ _ _ _
   | exact laws_eqPacket.mono _ _ _ _ _ _ _ _ _ _ _ _ _ _ _ _ _ _ _
   | exact laws_heldPacket.mono _ _ _ _ _ _ _ _ _ _ _
   | exact laws_markPacket.mono _ _ _ _ _ _ _ _ _ _ _
   | exact laws_toPacket.mono _ _ _ _ _ _ _ _ _ _
   | exact spec_NoteEchoed.mono _ _ _ _ _ _ _ _ _ _ _
   | exact LeO.none _
   | refine LeO.ite ?_ ?_
   | refine LeO.bind ?_ (fun _ => ?_)
set_option maxHeartbeats 8000000 in
set_option maxRecDepth 100000 in
theorem laws_FnExactNoteEchoed.calls (k : Nat) (a0_0 : Int) (a0_1 : Int) (a0_2 : Int) (a0_3 : Int) (a0_4 : Int) (a0_5 : Int) (a0_6 : Bool) (a0_7 : Bool) (A0_8 : Option Addr) (c0_8 : Nat) (l0_8 : List Int) (a1 : Int) (r : Bool) (w : World) (hr0_8 : Kd.C (Kd.int .u8) w A0_8 l0_8.length l0_8) (hc0_8 : l0_8.length ≤ c0_8) (h : laws_FnExactNoteEchoed.f k a0_0 a0_1 a0_2 a0_3 a0_4 a0_5 a0_6 a0_7 l0_8 a1 = some r) :
  Calls Try.prog 6 #[.agg #[.int .i64 a0_0, .int .i64 a0_1, .int .i64 a0_2, .int .i64 a0_3, .int .i64 a0_4, .int .i64 a0_5, .bool a0_6, .bool a0_7, .slice A0_8 l0_8.length c0_8], .int .i64 a1] w fun e w' => e = .returned (.bool r) ∧ Below w.heap.size w w' := by
 have hu41 := Try.underlying41
 have hu24 := Try.underlying24
 have HR0_8 := mk_ hr0_8
 have HC0_8 := mk_ hc0_8
 clear hr0_8 hc0_8
 have HB := mk_ (Below.refl w.heap.size w)
 have H : ((laws_szPacket.f a0_0 a0_1 a0_2 a0_3 a0_4 a0_5 a0_6 a0_7 l0_8 1048576).bind fun t273 => (if t273 < 0 then (some true) else ((laws_toPacket.f k a0_0 a0_1 a0_2 a0_3 a0_4 a0_5 a0_6 a0_7 l0_8).bind fun bt274 => ((spec_NoteEchoed.f k bt274.1 bt274.2.1 bt274.2.2.1 bt274.2.2.2.1 bt274.2.2.2.2.1 bt274.2.2.2.2.2.1 bt274.2.2.2.2.2.2.1 bt274.2.2.2.2.2.2.2.1 bt274.2.2.2.2.2.2.2.2 a1).bind fun bt285 => ((laws_toPacket.f k a0_0 a0_1 a0_2 a0_3 a0_4 a0_5 a0_6 a0_7 l0_8).bind fun bt298 => ((impl_NoteEchoed.f k bt298.1 bt298.2.1 bt298.2.2.1 bt298.2.2.2.1 bt298.2.2.2.2.1 bt298.2.2.2.2.2.1 bt298.2.2.2.2.2.2.1 bt298.2.2.2.2.2.2.2.1 bt298.2.2.2.2.2.2.2.2 a1).bind fun bt310 => ((laws_eqPacket.f k bt310.1 bt310.2.1 bt310.2.2.1 bt310.2.2.2.1 bt310.2.2.2.2.1 bt310.2.2.2.2.2.1 bt310.2.2.2.2.2.2.1 bt310.2.2.2.2.2.2.2.1 bt310.2.2.2.2.2.2.2.2.1 bt285.1 bt285.2.1 bt285.2.2.1 bt285.2.2.2.1 bt285.2.2.2.2.1 bt285.2.2.2.2.2.1 bt285.2.2.2.2.2.2.1 bt285.2.2.2.2.2.2.2.1 bt285.2.2.2.2.2.2.2.2.1).bind fun t323 => (if t323 = true then (laws_FnExactNoteEchoed.j0 k a1 bt285.2.2.2.2.2.2.2.2.2 bt310.2.2.2.2.2.2.2.2.2 (bt310.2.2.2.2.2.2.2.2.2 != bt285.2.2.2.2.2.2.2.2.2) a0_0 a0_1 a0_2 a0_3 a0_4 a0_5 a0_6 a0_7 l0_8 bt285.1 bt285.2.1 bt285.2.2.1 bt285.2.2.2.1 bt285.2.2.2.2.1 bt285.2.2.2.2.2.1 bt285.2.2.2.2.2.2.1 bt285.2.2.2.2.2.2.2.1 bt285.2.2.2.2.2.2.2.2.1 bt298.1 bt298.2.1 bt298.2.2.1 bt298.2.2.2.1 bt298.2.2.2.2.1 bt298.2.2.2.2.2.1 bt298.2.2.2.2.2.2.1 bt298.2.2.2.2.2.2.2.1 bt298.2.2.2.2.2.2.2.2 bt310.1 bt310.2.1 bt310.2.2.1 bt310.2.2.2.1 bt310.2.2.2.2.1 bt310.2.2.2.2.2.1 bt310.2.2.2.2.2.2.1 bt310.2.2.2.2.2.2.2.1 bt310.2.2.2.2.2.2.2.2.1) else (laws_FnExactNoteEchoed.j0 k a1 bt285.2.2.2.2.2.2.2.2.2 bt310.2.2.2.2.2.2.2.2.2 true a0_0 a0_1 a0_2 a0_3 a0_4 a0_5 a0_6 a0_7 l0_8 bt285.1 bt285.2.1 bt285.2.2.1 bt285.2.2.2.1 bt285.2.2.2.2.1 bt285.2.2.2.2.2.1 bt285.2.2.2.2.2.2.1 bt285.2.2.2.2.2.2.2.1 bt285.2.2.2.2.2.2.2.2.1 bt298.1 bt298.2.1 bt298.2.2.1 bt298.2.2.2.1 bt298.2.2.2.2.1 bt298.2.2.2.2.2.1 bt298.2.2.2.2.2.2.1 bt298.2.2.2.2.2.2.2.1 bt298.2.2.2.2.2.2.2.2 bt310.1 bt310.2.1 bt310.2.2.1 bt310.2.2.2.1 bt310.2.2.2.2.1 bt310.2.2.2.2.2.1 bt310.2.2.2.2.2.2.1 bt310.2.2.2.2.2.2.2.1 bt310.2.2.2.2.2.2.2.2.1))))))))) = some r := h
 clear h
 replace H := Option.bind_eq_some_iff.mp H
 obtain ⟨t273, A30, H⟩ := H
 replace H : (if t273 < 0 then (some true) else ((laws_toPacket.f k a0_0 a0_1 a0_2 a0_3 a0_4 a0_5 a0_6 a0_7 l0_8).bind fun bt274 => ((spec_NoteEchoed.f k bt274.1 bt274.2.1 bt274.2.2.1 bt274.2.2.2.1 bt274.2.2.2.2.1 bt274.2.2.2.2.2.1 bt274.2.2.2.2.2.2.1 bt274.2.2.2.2.2.2.2.1 bt274.2.2.2.2.2.2.2.2 a1).bind fun bt285 => ((laws_toPacket.f k a0_0 a0_1 a0_2 a0_3 a0_4 a0_5 a0_6 a0_7 l0_8).bind fun bt298 => ((impl_NoteEchoed.f k bt298.1 bt298.2.1 bt298.2.2.1 bt298.2.2.2.1 bt298.2.2.2.2.1 bt298.2.2.2.2.2.1 bt298.2.2.2.2.2.2.1 bt298.2.2.2.2.2.2.2.1 bt298.2.2.2.2.2.2.2.2 a1).bind fun bt310 => ((laws_eqPacket.f k bt310.1 bt310.2.1 bt310.2.2.1 bt310.2.2.2.1 bt310.2.2.2.2.1 bt310.2.2.2.2.2.1 bt310.2.2.2.2.2.2.1 bt310.2.2.2.2.2.2.2.1 bt310.2.2.2.2.2.2.2.2.1 bt285.1 bt285.2.1 bt285.2.2.1 bt285.2.2.2.1 bt285.2.2.2.2.1 bt285.2.2.2.2.2.1 bt285.2.2.2.2.2.2.1 bt285.2.2.2.2.2.2.2.1 bt285.2.2.2.2.2.2.2.2.1).bind fun t323 => (if t323 = true then (laws_FnExactNoteEchoed.j0 k a1 bt285.2.2.2.2.2.2.2.2.2 bt310.2.2.2.2.2.2.2.2.2 (bt310.2.2.2.2.2.2.2.2.2 != bt285.2.2.2.2.2.2.2.2.2) a0_0 a0_1 a0_2 a0_3 a0_4 a0_5 a0_6 a0_7 l0_8 bt285.1 bt285.2.1 bt285.2.2.1 bt285.2.2.2.1 bt285.2.2.2.2.1 bt285.2.2.2.2.2.1 bt285.2.2.2.2.2.2.1 bt285.2.2.2.2.2.2.2.1 bt285.2.2.2.2.2.2.2.2.1 bt298.1 bt298.2.1 bt298.2.2.1 bt298.2.2.2.1 bt298.2.2.2.2.1 bt298.2.2.2.2.2.1 bt298.2.2.2.2.2.2.1 bt298.2.2.2.2.2.2.2.1 bt298.2.2.2.2.2.2.2.2 bt310.1 bt310.2.1 bt310.2.2.1 bt310.2.2.2.1 bt310.2.2.2.2.1 bt310.2.2.2.2.2.1 bt310.2.2.2.2.2.2.1 bt310.2.2.2.2.2.2.2.1 bt310.2.2.2.2.2.2.2.2.1) else (laws_FnExactNoteEchoed.j0 k a1 bt285.2.2.2.2.2.2.2.2.2 bt310.2.2.2.2.2.2.2.2.2 true a0_0 a0_1 a0_2 a0_3 a0_4 a0_5 a0_6 a0_7 l0_8 bt285.1 bt285.2.1 bt285.2.2.1 bt285.2.2.2.1 bt285.2.2.2.2.1 bt285.2.2.2.2.2.1 bt285.2.2.2.2.2.2.1 bt285.2.2.2.2.2.2.2.1 bt285.2.2.2.2.2.2.2.2.1 bt298.1 bt298.2.1 bt298.2.2.1 bt298.2.2.2.1 bt298.2.2.2.2.1 bt298.2.2.2.2.2.1 bt298.2.2.2.2.2.2.1 bt298.2.2.2.2.2.2.2.1 bt298.2.2.2.2.2.2.2.2 bt310.1 bt310.2.1 bt310.2.2.1 bt310.2.2.2.1 bt310.2.2.2.2.1 bt310.2.2.2.2.2.1 bt310.2.2.2.2.2.2.1 bt310.2.2.2.2.2.2.2.1 bt310.2.2.2.2.2.2.2.2.1)))))))) = some r := H
 have A3 := mk_ A30
 clear A30
 by_cases c4 : t273 < 0
 ·rw [if_pos c4] at H
  have c4b0 : decide (t273 < 0) = true := decide_eq_true c4
  clear c4
  obtain rfl := Option.some.inj H
  go_enter Try.func6, Try.ntmps6
  go_wp2_with (first | ((with_reducible refine gate_dst (N := 2) rfl ?_); refine box_event ?hg (N := 2) ?hd (cs := #[.int .i64 a0_0, .int .i64 a0_1, .int .i64 a0_2, .int .i64 a0_3, .int .i64 a0_4, .int .i64 a0_5, .bool a0_6, .bool a0_7, .slice A0_8 l0_8.length c0_8]) (t := 41) ?hr ?_; (case hd => rfl); (case hg => rfl); (case hr => first | (go_simp; done) | (go_simp; rfl)); intro gb272 hg w5 hbox hb; have n0_ := mk_ (below_step (ub_ HB.out) hb); have n1_ := mk_ (hbox); have n2_ := mk_ ((by rw [hg]; exact (below_size (ub_ HB.out)) : w.heap.size ≤ gb272)); have n3_ := mk_ ((by rw [hg]; exact (below_size (ub_ HB.out)) : w.heap.size ≤ gb272)); clear HB; have HB := n0_; have BK272 := n1_; have GW272 := n2_; have GE272 := ge_ n3_.out; clear n0_ n1_ n2_ n3_; clear hb hbox hg; obtain ⟨hcz6_0, hcz6_1, hcz6_2, hcz6_3, hcz6_4, hcz6_5, hcz6_6, hcz6_7, hcz6_8, hfz6_0, hfz6_1, hfz6_2, hfz6_3, hfz6_4, hfz6_5, hfz6_6, hfz6_7, hfz6_8⟩ := cells9_ BK272.out) | ((with_reducible refine gate_callee (f := 22) rfl ?_); refine goesL_ (some 18) rfl rfl Try.func22 (by kernel_rfl) rfl #[.agg #[.int .i64 a0_0, .int .i64 a0_1, .int .i64 a0_2, .int .i64 a0_3, .int .i64 a0_4, .int .i64 a0_5, .bool a0_6, .bool a0_7, .slice A0_8 l0_8.length c0_8], .int .i64 1048576] rfl (by (try simp only [lm_, lo_, ln_]); first | done | rfl | (simp only [List.length_drop, List.length_take]; rfl)) ?_; (with_reducible refine (laws_szPacket.calls a0_0 a0_1 a0_2 a0_3 a0_4 a0_5 a0_6 a0_7 _ _ l0_8 1048576 t273 _ ?side1 ?side2 A3.out).mono ?_); (case side1 => repeat (first | exact (Kd.C_below HR0_8.out HB.out) | (with_reducible refine Kd.C_alloc ?_ _) | (with_reducible refine Kd.C_drewN ?_ _) | (with_reducible refine Kd.C_drew ?_))); (case side2 => exact HC0_8.out); rintro e w7 ⟨rfl, hb⟩; refine ⟨_, rfl, ?_⟩; have n0_ := mk_ (blk_below (u_ BK272.out) hb); have n1_ := mk_ (below_step (us_ HB.out) hb); clear BK272; clear HB; have BK272 := n0_; have HB := n1_; clear n0_ n1_; (try clear hb); (try clear hb2); (try clear hk); (try clear hi)))
  go_ret
  exact ⟨by first | rfl | (simp [errW_none, errW_some] <;> rfl) | (simp [*, errW_none, errW_some] <;> rfl), us_ HB.out⟩
 rw [if_neg c4] at H
 have c4b0 : decide (t273 < 0) = false := decide_eq_false c4
 clear c4
 replace H := Option.bind_eq_some_iff.mp H
 obtain ⟨⟨t274, t275, t276, t277, t278, t279, t280, t281, t282⟩, A80, H⟩ := H
 replace H : ((spec_NoteEchoed.f k t274 t275 t276 t277 t278 t279 t280 t281 t282 a1).bind fun bt285 => ((laws_toPacket.f k a0_0 a0_1 a0_2 a0_3 a0_4 a0_5 a0_6 a0_7 l0_8).bind fun bt298 => ((impl_NoteEchoed.f k bt298.1 bt298.2.1 bt298.2.2.1 bt298.2.2.2.1 bt298.2.2.2.2.1 bt298.2.2.2.2.2.1 bt298.2.2.2.2.2.2.1 bt298.2.2.2.2.2.2.2.1 bt298.2.2.2.2.2.2.2.2 a1).bind fun bt310 => ((laws_eqPacket.f k bt310.1 bt310.2.1 bt310.2.2.1 bt310.2.2.2.1 bt310.2.2.2.2.1 bt310.2.2.2.2.2.1 bt310.2.2.2.2.2.2.1 bt310.2.2.2.2.2.2.2.1 bt310.2.2.2.2.2.2.2.2.1 bt285.1 bt285.2.1 bt285.2.2.1 bt285.2.2.2.1 bt285.2.2.2.2.1 bt285.2.2.2.2.2.1 bt285.2.2.2.2.2.2.1 bt285.2.2.2.2.2.2.2.1 bt285.2.2.2.2.2.2.2.2.1).bind fun t323 => (if t323 = true then (laws_FnExactNoteEchoed.j0 k a1 bt285.2.2.2.2.2.2.2.2.2 bt310.2.2.2.2.2.2.2.2.2 (bt310.2.2.2.2.2.2.2.2.2 != bt285.2.2.2.2.2.2.2.2.2) a0_0 a0_1 a0_2 a0_3 a0_4 a0_5 a0_6 a0_7 l0_8 bt285.1 bt285.2.1 bt285.2.2.1 bt285.2.2.2.1 bt285.2.2.2.2.1 bt285.2.2.2.2.2.1 bt285.2.2.2.2.2.2.1 bt285.2.2.2.2.2.2.2.1 bt285.2.2.2.2.2.2.2.2.1 bt298.1 bt298.2.1 bt298.2.2.1 bt298.2.2.2.1 bt298.2.2.2.2.1 bt298.2.2.2.2.2.1 bt298.2.2.2.2.2.2.1 bt298.2.2.2.2.2.2.2.1 bt298.2.2.2.2.2.2.2.2 bt310.1 bt310.2.1 bt310.2.2.1 bt310.2.2.2.1 bt310.2.2.2.2.1 bt310.2.2.2.2.2.1 bt310.2.2.2.2.2.2.1 bt310.2.2.2.2.2.2.2.1 bt310.2.2.2.2.2.2.2.2.1) else (laws_FnExactNoteEchoed.j0 k a1 bt285.2.2.2.2.2.2.2.2.2 bt310.2.2.2.2.2.2.2.2.2 true a0_0 a0_1 a0_2 a0_3 a0_4 a0_5 a0_6 a0_7 l0_8 bt285.1 bt285.2.1 bt285.2.2.1 bt285.2.2.2.1 bt285.2.2.2.2.1 bt285.2.2.2.2.2.1 bt285.2.2.2.2.2.2.1 bt285.2.2.2.2.2.2.2.1 bt285.2.2.2.2.2.2.2.2.1 bt298.1 bt298.2.1 bt298.2.2.1 bt298.2.2.2.1 bt298.2.2.2.2.1 bt298.2.2.2.2.2.1 bt298.2.2.2.2.2.2.1 bt298.2.2.2.2.2.2.2.1 bt298.2.2.2.2.2.2.2.2 bt310.1 bt310.2.1 bt310.2.2.1 bt310.2.2.2.1 bt310.2.2.2.2.1 bt310.2.2.2.2.2.1 bt310.2.2.2.2.2.2.1 bt310.2.2.2.2.2.2.2.1 bt310.2.2.2.2.2.2.2.2.1)))))) = some r := H
 have A8 := mk_ A80
 clear A80
 replace H := Option.bind_eq_some_iff.mp H
 obtain ⟨⟨t285, t286, t287, t288, t289, t290, t291, t292, t293, t296⟩, A90, H⟩ := H
 replace H : ((laws_toPacket.f k a0_0 a0_1 a0_2 a0_3 a0_4 a0_5 a0_6 a0_7 l0_8).bind fun bt298 => ((impl_NoteEchoed.f k bt298.1 bt298.2.1 bt298.2.2.1 bt298.2.2.2.1 bt298.2.2.2.2.1 bt298.2.2.2.2.2.1 bt298.2.2.2.2.2.2.1 bt298.2.2.2.2.2.2.2.1 bt298.2.2.2.2.2.2.2.2 a1).bind fun bt310 => ((laws_eqPacket.f k bt310.1 bt310.2.1 bt310.2.2.1 bt310.2.2.2.1 bt310.2.2.2.2.1 bt310.2.2.2.2.2.1 bt310.2.2.2.2.2.2.1 bt310.2.2.2.2.2.2.2.1 bt310.2.2.2.2.2.2.2.2.1 t285 t286 t287 t288 t289 t290 t291 t292 t293).bind fun t323 => (if t323 = true then (laws_FnExactNoteEchoed.j0 k a1 t296 bt310.2.2.2.2.2.2.2.2.2 (bt310.2.2.2.2.2.2.2.2.2 != t296) a0_0 a0_1 a0_2 a0_3 a0_4 a0_5 a0_6 a0_7 l0_8 t285 t286 t287 t288 t289 t290 t291 t292 t293 bt298.1 bt298.2.1 bt298.2.2.1 bt298.2.2.2.1 bt298.2.2.2.2.1 bt298.2.2.2.2.2.1 bt298.2.2.2.2.2.2.1 bt298.2.2.2.2.2.2.2.1 bt298.2.2.2.2.2.2.2.2 bt310.1 bt310.2.1 bt310.2.2.1 bt310.2.2.2.1 bt310.2.2.2.2.1 bt310.2.2.2.2.2.1 bt310.2.2.2.2.2.2.1 bt310.2.2.2.2.2.2.2.1 bt310.2.2.2.2.2.2.2.2.1) else (laws_FnExactNoteEchoed.j0 k a1 t296 bt310.2.2.2.2.2.2.2.2.2 true a0_0 a0_1 a0_2 a0_3 a0_4 a0_5 a0_6 a0_7 l0_8 t285 t286 t287 t288 t289 t290 t291 t292 t293 bt298.1 bt298.2.1 bt298.2.2.1 bt298.2.2.2.1 bt298.2.2.2.2.1 bt298.2.2.2.2.2.1 bt298.2.2.2.2.2.2.1 bt298.2.2.2.2.2.2.2.1 bt298.2.2.2.2.2.2.2.2 bt310.1 bt310.2.1 bt310.2.2.1 bt310.2.2.2.1 bt310.2.2.2.2.1 bt310.2.2.2.2.2.1 bt310.2.2.2.2.2.2.1 bt310.2.2.2.2.2.2.2.1 bt310.2.2.2.2.2.2.2.2.1))))) = some r := H
 have A9 := mk_ A90
 clear A90
 replace H := Option.bind_eq_some_iff.mp H
 obtain ⟨⟨t298, t299, t300, t301, t302, t303, t304, t305, t306⟩, A100, H⟩ := H
 replace H : ((impl_NoteEchoed.f k t298 t299 t300 t301 t302 t303 t304 t305 t306 a1).bind fun bt310 => ((laws_eqPacket.f k bt310.1 bt310.2.1 bt310.2.2.1 bt310.2.2.2.1 bt310.2.2.2.2.1 bt310.2.2.2.2.2.1 bt310.2.2.2.2.2.2.1 bt310.2.2.2.2.2.2.2.1 bt310.2.2.2.2.2.2.2.2.1 t285 t286 t287 t288 t289 t290 t291 t292 t293).bind fun t323 => (if t323 = true then (laws_FnExactNoteEchoed.j0 k a1 t296 bt310.2.2.2.2.2.2.2.2.2 (bt310.2.2.2.2.2.2.2.2.2 != t296) a0_0 a0_1 a0_2 a0_3 a0_4 a0_5 a0_6 a0_7 l0_8 t285 t286 t287 t288 t289 t290 t291 t292 t293 t298 t299 t300 t301 t302 t303 t304 t305 t306 bt310.1 bt310.2.1 bt310.2.2.1 bt310.2.2.2.1 bt310.2.2.2.2.1 bt310.2.2.2.2.2.1 bt310.2.2.2.2.2.2.1 bt310.2.2.2.2.2.2.2.1 bt310.2.2.2.2.2.2.2.2.1) else (laws_FnExactNoteEchoed.j0 k a1 t296 bt310.2.2.2.2.2.2.2.2.2 true a0_0 a0_1 a0_2 a0_3 a0_4 a0_5 a0_6 a0_7 l0_8 t285 t286 t287 t288 t289 t290 t291 t292 t293 t298 t299 t300 t301 t302 t303 t304 t305 t306 bt310.1 bt310.2.1 bt310.2.2.1 bt310.2.2.2.1 bt310.2.2.2.2.1 bt310.2.2.2.2.2.1 bt310.2.2.2.2.2.2.1 bt310.2.2.2.2.2.2.2.1 bt310.2.2.2.2.2.2.2.2.1)))) = some r := H
 have A10 := mk_ A100
 clear A100
 replace H := Option.bind_eq_some_iff.mp H
 obtain ⟨⟨t310, t311, t312, t313, t314, t315, t316, t317, t318, t321⟩, A110, H⟩ := H
 replace H : ((laws_eqPacket.f k t310 t311 t312 t313 t314 t315 t316 t317 t318 t285 t286 t287 t288 t289 t290 t291 t292 t293).bind fun t323 => (if t323 = true then (laws_FnExactNoteEchoed.j0 k a1 t296 t321 (t321 != t296) a0_0 a0_1 a0_2 a0_3 a0_4 a0_5 a0_6 a0_7 l0_8 t285 t286 t287 t288 t289 t290 t291 t292 t293 t298 t299 t300 t301 t302 t303 t304 t305 t306 t310 t311 t312 t313 t314 t315 t316 t317 t318) else (laws_FnExactNoteEchoed.j0 k a1 t296 t321 true a0_0 a0_1 a0_2 a0_3 a0_4 a0_5 a0_6 a0_7 l0_8 t285 t286 t287 t288 t289 t290 t291 t292 t293 t298 t299 t300 t301 t302 t303 t304 t305 t306 t310 t311 t312 t313 t314 t315 t316 t317 t318))) = some r := H
 have A11 := mk_ A110
 clear A110
 have HC12 := mk_ H
 clear H
 go_enter Try.func6, Try.ntmps6
 go_upto_region 8 with (first | ((with_reducible refine gate_dst (N := 2) rfl ?_); refine box_event ?hg (N := 2) ?hd (cs := #[.int .i64 a0_0, .int .i64 a0_1, .int .i64 a0_2, .int .i64 a0_3, .int .i64 a0_4, .int .i64 a0_5, .bool a0_6, .bool a0_7, .slice A0_8 l0_8.length c0_8]) (t := 41) ?hr ?_; (case hd => rfl); (case hg => rfl); (case hr => first | (go_simp; done) | (go_simp; rfl)); intro gb272 hg w13 hbox hb; have n0_ := mk_ (below_step (ub_ HB.out) hb); have n1_ := mk_ (hbox); have n2_ := mk_ ((by rw [hg]; exact (below_size (ub_ HB.out)) : w.heap.size ≤ gb272)); have n3_ := mk_ ((by rw [hg]; exact (below_size (ub_ HB.out)) : w.heap.size ≤ gb272)); clear HB; have HB := n0_; have BK272 := n1_; have GW272 := n2_; have GE272 := ge_ n3_.out; clear n0_ n1_ n2_ n3_; clear hb hbox hg; obtain ⟨hcz14_0, hcz14_1, hcz14_2, hcz14_3, hcz14_4, hcz14_5, hcz14_6, hcz14_7, hcz14_8, hfz14_0, hfz14_1, hfz14_2, hfz14_3, hfz14_4, hfz14_5, hfz14_6, hfz14_7, hfz14_8⟩ := cells9_ BK272.out) | ((with_reducible refine gate_callee (f := 22) rfl ?_); refine goesL_ (some 18) rfl rfl Try.func22 (by kernel_rfl) rfl #[.agg #[.int .i64 a0_0, .int .i64 a0_1, .int .i64 a0_2, .int .i64 a0_3, .int .i64 a0_4, .int .i64 a0_5, .bool a0_6, .bool a0_7, .slice A0_8 l0_8.length c0_8], .int .i64 1048576] rfl (by (try simp only [lm_, lo_, ln_]); first | done | rfl | (simp only [List.length_drop, List.length_take]; rfl)) ?_; (with_reducible refine (laws_szPacket.calls a0_0 a0_1 a0_2 a0_3 a0_4 a0_5 a0_6 a0_7 _ _ l0_8 1048576 t273 _ ?side1 ?side2 A3.out).mono ?_); (case side1 => repeat (first | exact (Kd.C_below HR0_8.out HB.out) | (with_reducible refine Kd.C_alloc ?_ _) | (with_reducible refine Kd.C_drewN ?_ _) | (with_reducible refine Kd.C_drew ?_))); (case side2 => exact HC0_8.out); rintro e w15 ⟨rfl, hb⟩; refine ⟨_, rfl, ?_⟩; have n0_ := mk_ (blk_below (u_ BK272.out) hb); have n1_ := mk_ (below_step (us_ HB.out) hb); clear BK272; clear HB; have BK272 := n0_; have HB := n1_; clear n0_ n1_; (try clear hb); (try clear hb2); (try clear hk); (try clear hi); obtain ⟨hcz16_0, hcz16_1, hcz16_2, hcz16_3, hcz16_4, hcz16_5, hcz16_6, hcz16_7, hcz16_8, hfz16_0, hfz16_1, hfz16_2, hfz16_3, hfz16_4, hfz16_5, hfz16_6, hfz16_7, hfz16_8⟩ := cells9_ BK272.out) | ((with_reducible refine gate_callee (f := 24) rfl ?_); refine goesL_ (some 23) rfl rfl Try.func24 (by kernel_rfl) rfl #[.agg #[.int .i64 a0_0, .int .i64 a0_1, .int .i64 a0_2, .int .i64 a0_3, .int .i64 a0_4, .int .i64 a0_5, .bool a0_6, .bool a0_7, .slice A0_8 l0_8.length c0_8]] rfl (by (try simp only [lm_, lo_, ln_]); first | done | rfl | (simp only [List.length_drop, List.length_take]; rfl)) ?_; (with_reducible refine (laws_toPacket.calls k a0_0 a0_1 a0_2 a0_3 a0_4 a0_5 a0_6 a0_7 _ _ l0_8 t274 t275 t276 t277 t278 t279 t280 t281 t282 _ ?side1 ?side2 A8.out).mono ?_); (case side1 => repeat (first | exact (Kd.C_below HR0_8.out HB.out) | (with_reducible refine Kd.C_alloc ?_ _) | (with_reducible refine Kd.C_drewN ?_ _) | (with_reducible refine Kd.C_drew ?_))); (case side2 => exact HC0_8.out); rintro e w17 ⟨v283, rfl, ho0, hb⟩; refine ⟨_, rfl, ?_⟩; have n0_ := mk_ (Kd.R_lower ho0 (below_size (us_ HB.out))); have n1_ := mk_ (blk_below (u_ BK272.out) hb); have n2_ := mk_ (below_step (us_ HB.out) hb); clear BK272; clear HB; have HO284 := n0_; have BK272 := n1_; have HB := n2_; clear n0_ n1_ n2_; (try clear hb); (try clear hb2); (try clear hk); (try clear hi); (try clear ho0); obtain ⟨Ao18, co18, eo18⟩ := Kd.R_slice HO284.out; subst eo18) | ((with_reducible refine gate_callee (f := 23) rfl ?_); refine goesL_ (some 25) rfl rfl Try.func23 (by kernel_rfl) rfl #[.agg #[.int .i64 t274, .int .i64 t275, .int .i64 t276, .int .i64 t277, .int .i64 t278, .int .i64 t279, .bool t280, .bool t281, .slice Ao18 t282.length co18], .int .i64 a1] rfl (by (try simp only [lm_, lo_, ln_]); first | done | rfl | (simp only [List.length_drop, List.length_take]; rfl)) ?_; (with_reducible refine (spec_NoteEchoed.calls k t274 t275 t276 t277 t278 t279 t280 t281 _ _ t282 a1 t285 t286 t287 t288 t289 t290 t291 t292 t293 t296 _ ?side1 ?side2 A9.out).mono ?_); (case side1 => repeat (first | exact (Kd.R_reads' HO284.out).2.2 | (with_reducible refine Kd.C_alloc ?_ _) | (with_reducible refine Kd.C_drewN ?_ _) | (with_reducible refine Kd.C_drew ?_))); (case side2 => exact (Kd.R_reads' HO284.out).2.1); rintro e w19 ⟨v294, rfl, ho0, hb⟩; refine ⟨_, rfl, ?_⟩; have n0_ := mk_ (Kd.R_elder' (Kd.ur_ HO284.out) (Kd.R_base ho0) hb); have n1_ := mk_ (Kd.R_lower (Kd.R_new' ho0 (Kd.R_lt (Kd.ur_ HO284.out))) (below_size (us_ HB.out))); have n2_ := mk_ (blk_below (u_ BK272.out) hb); have n3_ := mk_ (below_step (us_ HB.out) hb); clear HO284; clear BK272; clear HB; have HO284 := n0_; have HO295 := n1_; have BK272 := n2_; have HB := n3_; clear n0_ n1_ n2_ n3_; (try clear hb); (try clear hb2); (try clear hk); (try clear hi); (try clear ho0)) | ((with_reducible refine gate_dst (N := 6) rfl ?_); refine box_event ?hg (N := 6) ?hd (cs := #[.int .i64 0, .int .i64 0, .int .i64 0, .int .i64 0, .int .i64 0, .int .i64 0, .bool false, .bool false, .slice none 0 0]) (t := 24) ?hr ?_; (case hd => rfl); (case hg => rfl); (case hr => first | (go_simp; done) | (go_simp; rfl)); intro gb297 hg w20 hbox hb; have n0_ := mk_ (Kd.R_below (Kd.ur_ HO284.out) hb); have n1_ := mk_ (Kd.R_below (Kd.ur_ HO295.out) hb); have n2_ := mk_ (blk_below (u_ BK272.out) hb); have n3_ := mk_ (below_step (us_ HB.out) hb); have n4_ := mk_ (hbox); have n5_ := mk_ ((by rw [hg]; exact (below_size (us_ HB.out)) : w.heap.size ≤ gb297)); have n6_ := mk_ ((by rw [hg]; exact (below_size (us_ HB.out)) : w.heap.size ≤ gb297)); have n7_ := mk_ ((by rw [hg]; exact Nat.ne_of_lt (blk_lt (u_ BK272.out)) : gb272 ≠ gb297)); have n8_ := mk_ ((by rw [hg]; exact Nat.ne_of_gt (blk_lt (u_ BK272.out)) : gb297 ≠ gb272)); clear HO284; clear HO295; clear BK272; clear HB; have HO284 := n0_; have HO295 := n1_; have BK272 := n2_; have HB := n3_; have BK297 := n4_; have GW297 := n5_; have GE297 := ge_ n6_.out; have NB272_297 := nq_ n7_.out; have NB297_272 := nq_ n8_.out; clear n0_ n1_ n2_ n3_ n4_ n5_ n6_ n7_ n8_; clear hb hbox hg; have hnb21 := NB297_272.out; have hnc21 := NB272_297.out; obtain ⟨hcz22_0, hcz22_1, hcz22_2, hcz22_3, hcz22_4, hcz22_5, hcz22_6, hcz22_7, hcz22_8, hfz22_0, hfz22_1, hfz22_2, hfz22_3, hfz22_4, hfz22_5, hfz22_6, hfz22_7, hfz22_8⟩ := cells9_ BK297.out; obtain ⟨Ao23, co23, eo23⟩ := Kd.R_slice HO295.out; subst eo23; obtain ⟨hcz24_0, hcz24_1, hcz24_2, hcz24_3, hcz24_4, hcz24_5, hcz24_6, hcz24_7, hcz24_8, hfz24_0, hfz24_1, hfz24_2, hfz24_3, hfz24_4, hfz24_5, hfz24_6, hfz24_7, hfz24_8⟩ := cells9_ BK272.out) | ((with_reducible refine gate_callee (f := 24) rfl ?_); refine goesL_ (some 29) rfl rfl Try.func24 (by kernel_rfl) rfl #[.agg #[.int .i64 a0_0, .int .i64 a0_1, .int .i64 a0_2, .int .i64 a0_3, .int .i64 a0_4, .int .i64 a0_5, .bool a0_6, .bool a0_7, .slice A0_8 l0_8.length c0_8]] rfl (by (try simp only [lm_, lo_, ln_]); first | done | rfl | (simp only [List.length_drop, List.length_take]; rfl)) ?_; (with_reducible refine (laws_toPacket.calls k a0_0 a0_1 a0_2 a0_3 a0_4 a0_5 a0_6 a0_7 _ _ l0_8 t298 t299 t300 t301 t302 t303 t304 t305 t306 _ ?side1 ?side2 A10.out).mono ?_); (case side1 => exact Kd.C_below HR0_8.out (us_ HB.out)); (case side2 => exact HC0_8.out); rintro e w25 ⟨v307, rfl, ho0, hb⟩; refine ⟨_, rfl, ?_⟩; have n0_ := mk_ (Kd.R_elder' (by (with_reducible repeat (first | apply Kd.R_alloc | apply Kd.R_drewN | apply Kd.R_drew)); exact (Kd.R_mono (Kd.R_far (p := ⟨gb297, 8, none⟩) (Kd.R_far (p := ⟨gb297, 7, none⟩) (Kd.R_far (p := ⟨gb297, 6, none⟩) (Kd.R_far (p := ⟨gb297, 5, none⟩) (Kd.R_far (p := ⟨gb297, 4, none⟩) (Kd.R_far (p := ⟨gb297, 3, none⟩) (Kd.R_far (p := ⟨gb297, 2, none⟩) (Kd.R_far (p := ⟨gb297, 1, none⟩) (Kd.R_far (p := ⟨gb297, 0, none⟩) (Kd.R_types HO284.out BK297.out (by decide)) (fun _ hk => hk.2) (.int .i64 t285)) (fun _ hk => hk.2) (.int .i64 t286)) (fun _ hk => hk.2) (.int .i64 t287)) (fun _ hk => hk.2) (.int .i64 t288)) (fun _ hk => hk.2) (.int .i64 t289)) (fun _ hk => hk.2) (.int .i64 t290)) (fun _ hk => hk.2) (.bool t291)) (fun _ hk => hk.2) (.bool t292)) (fun _ hk => hk.2) (.slice Ao23 t293.length co23)) (fun _ h_ => by first | exact h_.1 | simp only [h_, ne_eq, not_false_eq_true, and_self]))) (Kd.R_base ho0) hb); have n1_ := mk_ (Kd.R_elder' (by (with_reducible repeat (first | apply Kd.R_alloc | apply Kd.R_drewN | apply Kd.R_drew)); exact (Kd.R_mono (Kd.R_far (p := ⟨gb297, 8, none⟩) (Kd.R_far (p := ⟨gb297, 7, none⟩) (Kd.R_far (p := ⟨gb297, 6, none⟩) (Kd.R_far (p := ⟨gb297, 5, none⟩) (Kd.R_far (p := ⟨gb297, 4, none⟩) (Kd.R_far (p := ⟨gb297, 3, none⟩) (Kd.R_far (p := ⟨gb297, 2, none⟩) (Kd.R_far (p := ⟨gb297, 1, none⟩) (Kd.R_far (p := ⟨gb297, 0, none⟩) (Kd.R_types HO295.out BK297.out (by decide)) (fun _ hk => hk.2) (.int .i64 t285)) (fun _ hk => hk.2) (.int .i64 t286)) (fun _ hk => hk.2) (.int .i64 t287)) (fun _ hk => hk.2) (.int .i64 t288)) (fun _ hk => hk.2) (.int .i64 t289)) (fun _ hk => hk.2) (.int .i64 t290)) (fun _ hk => hk.2) (.bool t291)) (fun _ hk => hk.2) (.bool t292)) (fun _ hk => hk.2) (.slice Ao23 t293.length co23)) (fun _ h_ => by first | exact h_.1 | simp only [h_, ne_eq, not_false_eq_true, and_self]))) (Kd.R_base ho0) hb); have n2_ := mk_ (Kd.R_lower (Kd.R_new' (Kd.R_new' ho0 (Kd.R_lt (by (with_reducible repeat (first | apply Kd.R_alloc | apply Kd.R_drewN | apply Kd.R_drew)); exact (Kd.R_mono (Kd.R_far (p := ⟨gb297, 8, none⟩) (Kd.R_far (p := ⟨gb297, 7, none⟩) (Kd.R_far (p := ⟨gb297, 6, none⟩) (Kd.R_far (p := ⟨gb297, 5, none⟩) (Kd.R_far (p := ⟨gb297, 4, none⟩) (Kd.R_far (p := ⟨gb297, 3, none⟩) (Kd.R_far (p := ⟨gb297, 2, none⟩) (Kd.R_far (p := ⟨gb297, 1, none⟩) (Kd.R_far (p := ⟨gb297, 0, none⟩) (Kd.R_types HO284.out BK297.out (by decide)) (fun _ hk => hk.2) (.int .i64 t285)) (fun _ hk => hk.2) (.int .i64 t286)) (fun _ hk => hk.2) (.int .i64 t287)) (fun _ hk => hk.2) (.int .i64 t288)) (fun _ hk => hk.2) (.int .i64 t289)) (fun _ hk => hk.2) (.int .i64 t290)) (fun _ hk => hk.2) (.bool t291)) (fun _ hk => hk.2) (.bool t292)) (fun _ hk => hk.2) (.slice Ao23 t293.length co23)) (fun _ h_ => by first | exact h_.1 | simp only [h_, ne_eq, not_false_eq_true, and_self]))))) (Kd.R_lt (by (with_reducible repeat (first | apply Kd.R_alloc | apply Kd.R_drewN | apply Kd.R_drew)); exact (Kd.R_mono (Kd.R_far (p := ⟨gb297, 8, none⟩) (Kd.R_far (p := ⟨gb297, 7, none⟩) (Kd.R_far (p := ⟨gb297, 6, none⟩) (Kd.R_far (p := ⟨gb297, 5, none⟩) (Kd.R_far (p := ⟨gb297, 4, none⟩) (Kd.R_far (p := ⟨gb297, 3, none⟩) (Kd.R_far (p := ⟨gb297, 2, none⟩) (Kd.R_far (p := ⟨gb297, 1, none⟩) (Kd.R_far (p := ⟨gb297, 0, none⟩) (Kd.R_types HO295.out BK297.out (by decide)) (fun _ hk => hk.2) (.int .i64 t285)) (fun _ hk => hk.2) (.int .i64 t286)) (fun _ hk => hk.2) (.int .i64 t287)) (fun _ hk => hk.2) (.int .i64 t288)) (fun _ hk => hk.2) (.int .i64 t289)) (fun _ hk => hk.2) (.int .i64 t290)) (fun _ hk => hk.2) (.bool t291)) (fun _ hk => hk.2) (.bool t292)) (fun _ hk => hk.2) (.slice Ao23 t293.length co23)) (fun _ h_ => by first | exact h_.1 | simp only [h_, ne_eq, not_false_eq_true, and_self]))))) (below_size (us_ HB.out))); have n3_ := mk_ (blk_below (g := gb272) (o := .cells #[.int .i64 a0_0, .int .i64 a0_1, .int .i64 a0_2, .int .i64 a0_3, .int .i64 a0_4, .int .i64 a0_5, .bool a0_6, .bool a0_7, .slice A0_8 l0_8.length c0_8] 41 (0, 0)) (uf_ BK272.out) hb); have n4_ := mk_ (blk_below (g := gb297) (o := .cells #[.int .i64 t285, .int .i64 t286, .int .i64 t287, .int .i64 t288, .int .i64 t289, .int .i64 t290, .bool t291, .bool t292, .slice Ao23 t293.length co23] 24 (0, 0)) (by (with_reducible repeat (first | refine bn_ ?_ _ | refine bw_ ?_ | refine ba_ ?_ _)); refine blk_put (cs := #[.int .i64 t285, .int .i64 t286, .int .i64 t287, .int .i64 t288, .int .i64 t289, .int .i64 t290, .bool t291, .bool t292, .slice none 0 0]) ?_ 8 _ rfl; (with_reducible repeat (first | refine bn_ ?_ _ | refine bw_ ?_ | refine ba_ ?_ _)); refine blk_put (cs := #[.int .i64 t285, .int .i64 t286, .int .i64 t287, .int .i64 t288, .int .i64 t289, .int .i64 t290, .bool t291, .bool false, .slice none 0 0]) ?_ 7 _ rfl; (with_reducible repeat (first | refine bn_ ?_ _ | refine bw_ ?_ | refine ba_ ?_ _)); refine blk_put (cs := #[.int .i64 t285, .int .i64 t286, .int .i64 t287, .int .i64 t288, .int .i64 t289, .int .i64 t290, .bool false, .bool false, .slice none 0 0]) ?_ 6 _ rfl; (with_reducible repeat (first | refine bn_ ?_ _ | refine bw_ ?_ | refine ba_ ?_ _)); refine blk_put (cs := #[.int .i64 t285, .int .i64 t286, .int .i64 t287, .int .i64 t288, .int .i64 t289, .int .i64 0, .bool false, .bool false, .slice none 0 0]) ?_ 5 _ rfl; (with_reducible repeat (first | refine bn_ ?_ _ | refine bw_ ?_ | refine ba_ ?_ _)); refine blk_put (cs := #[.int .i64 t285, .int .i64 t286, .int .i64 t287, .int .i64 t288, .int .i64 0, .int .i64 0, .bool false, .bool false, .slice none 0 0]) ?_ 4 _ rfl; (with_reducible repeat (first | refine bn_ ?_ _ | refine bw_ ?_ | refine ba_ ?_ _)); refine blk_put (cs := #[.int .i64 t285, .int .i64 t286, .int .i64 t287, .int .i64 0, .int .i64 0, .int .i64 0, .bool false, .bool false, .slice none 0 0]) ?_ 3 _ rfl; (with_reducible repeat (first | refine bn_ ?_ _ | refine bw_ ?_ | refine ba_ ?_ _)); refine blk_put (cs := #[.int .i64 t285, .int .i64 t286, .int .i64 0, .int .i64 0, .int .i64 0, .int .i64 0, .bool false, .bool false, .slice none 0 0]) ?_ 2 _ rfl; (with_reducible repeat (first | refine bn_ ?_ _ | refine bw_ ?_ | refine ba_ ?_ _)); refine blk_put (cs := #[.int .i64 t285, .int .i64 0, .int .i64 0, .int .i64 0, .int .i64 0, .int .i64 0, .bool false, .bool false, .slice none 0 0]) ?_ 1 _ rfl; (with_reducible repeat (first | refine bn_ ?_ _ | refine bw_ ?_ | refine ba_ ?_ _)); refine blk_put (cs := #[.int .i64 0, .int .i64 0, .int .i64 0, .int .i64 0, .int .i64 0, .int .i64 0, .bool false, .bool false, .slice none 0 0]) ?_ 0 _ rfl; (with_reducible repeat (first | refine bn_ ?_ _ | refine bw_ ?_ | refine ba_ ?_ _)); exact BK297.out) hb); have n5_ := mk_ (below_step (us_ HB.out) hb); clear HO284; clear HO295; clear BK272; clear BK297; clear HB; have HO284 := n0_; have HO295 := n1_; have HO308 := n2_; have BK272 := n3_; have BK297 := n4_; have HB := n5_; clear n0_ n1_ n2_ n3_ n4_ n5_; (try clear hb); (try clear hb2); (try clear hk); (try clear hi); (try clear ho0)) | ((with_reducible refine gate_dst (N := 8) rfl ?_); refine box_event ?hg (N := 8) ?hd (cs := #[.int .i64 0, .int .i64 0, .int .i64 0, .int .i64 0, .int .i64 0, .int .i64 0, .bool false, .bool false, .slice none 0 0]) (t := 24) ?hr ?_; (case hd => rfl); (case hg => rfl); (case hr => first | (go_simp; done) | (go_simp; rfl)); intro gb309 hg w26 hbox hb; have n0_ := mk_ (Kd.R_below (Kd.ur_ HO284.out) hb); have n1_ := mk_ (Kd.R_below (Kd.ur_ HO295.out) hb); have n2_ := mk_ (Kd.R_below (Kd.ur_ HO308.out) hb); have n3_ := mk_ (blk_below (u_ BK272.out) hb); have n4_ := mk_ (blk_below (u_ BK297.out) hb); have n5_ := mk_ (below_step (us_ HB.out) hb); have n6_ := mk_ (hbox); have n7_ := mk_ ((by rw [hg]; exact (below_size (us_ HB.out)) : w.heap.size ≤ gb309)); have n8_ := mk_ ((by rw [hg]; exact (below_size (us_ HB.out)) : w.heap.size ≤ gb309)); have n9_ := mk_ ((by rw [hg]; exact Nat.ne_of_lt (blk_lt (u_ BK272.out)) : gb272 ≠ gb309)); have n10_ := mk_ ((by rw [hg]; exact Nat.ne_of_gt (blk_lt (u_ BK272.out)) : gb309 ≠ gb272)); have n11_ := mk_ ((by rw [hg]; exact Nat.ne_of_lt (blk_lt (u_ BK297.out)) : gb297 ≠ gb309)); have n12_ := mk_ ((by rw [hg]; exact Nat.ne_of_gt (blk_lt (u_ BK297.out)) : gb309 ≠ gb297)); clear HO284; clear HO295; clear HO308; clear BK272; clear BK297; clear HB; have HO284 := n0_; have HO295 := n1_; have HO308 := n2_; have BK272 := n3_; have BK297 := n4_; have HB := n5_; have BK309 := n6_; have GW309 := n7_; have GE309 := ge_ n8_.out; have NB272_309 := nq_ n9_.out; have NB309_272 := nq_ n10_.out; have NB297_309 := nq_ n11_.out; have NB309_297 := nq_ n12_.out; clear n0_ n1_ n2_ n3_ n4_ n5_ n6_ n7_ n8_ n9_ n10_ n11_ n12_; clear hb hbox hg; have hnb27 := NB309_272.out; have hnc27 := NB272_309.out; have hnb28 := NB309_297.out; have hnc28 := NB297_309.out; obtain ⟨hcz29_0, hcz29_1, hcz29_2, hcz29_3, hcz29_4, hcz29_5, hcz29_6, hcz29_7, hcz29_8, hfz29_0, hfz29_1, hfz29_2, hfz29_3, hfz29_4, hfz29_5, hfz29_6, hfz29_7, hfz29_8⟩ := cells9_ BK309.out; obtain ⟨Ao30, co30, eo30⟩ := Kd.R_slice HO308.out; subst eo30) | ((with_reducible refine gate_callee (f := 25) rfl ?_); refine goesL_ (some 33) rfl rfl Try.func25 (by kernel_rfl) rfl #[.agg #[.int .i64 t298, .int .i64 t299, .int .i64 t300, .int .i64 t301, .int .i64 t302, .int .i64 t303, .bool t304, .bool t305, .slice Ao30 t306.length co30], .int .i64 a1] rfl (by (try simp only [lm_, lo_, ln_]); first | done | rfl | (simp only [List.length_drop, List.length_take]; rfl)) ?_; (with_reducible refine (impl_NoteEchoed.calls k t298 t299 t300 t301 t302 t303 t304 t305 _ _ t306 a1 t310 t311 t312 t313 t314 t315 t316 t317 t318 t321 _ ?side1 ?side2 A11.out).mono ?_); (case side1 => refine (Kd.R_reads' (e := 5) (base := w.heap.size) (ok := fun k_ => ((True ∧ some k_ ≠ (.slice Ao18 t282.length co18 : Value).ownBlock) ∧ some k_ ≠ (.slice Ao23 t293.length co23 : Value).ownBlock)) (n := t306.length) (c := co30) ?_).2.2; exact (by (with_reducible repeat (first | apply Kd.R_alloc | apply Kd.R_drewN | apply Kd.R_drew)); exact (Kd.R_mono (Kd.R_far (p := ⟨gb309, 8, none⟩) (Kd.R_far (p := ⟨gb309, 7, none⟩) (Kd.R_far (p := ⟨gb309, 6, none⟩) (Kd.R_far (p := ⟨gb309, 5, none⟩) (Kd.R_far (p := ⟨gb309, 4, none⟩) (Kd.R_far (p := ⟨gb309, 3, none⟩) (Kd.R_far (p := ⟨gb309, 2, none⟩) (Kd.R_far (p := ⟨gb309, 1, none⟩) (Kd.R_far (p := ⟨gb309, 0, none⟩) (Kd.R_types HO308.out BK309.out (by decide)) (fun _ hk => hk.2) (.int .i64 t298)) (fun _ hk => hk.2) (.int .i64 t299)) (fun _ hk => hk.2) (.int .i64 t300)) (fun _ hk => hk.2) (.int .i64 t301)) (fun _ hk => hk.2) (.int .i64 t302)) (fun _ hk => hk.2) (.int .i64 t303)) (fun _ hk => hk.2) (.bool t304)) (fun _ hk => hk.2) (.bool t305)) (fun _ hk => hk.2) (.slice Ao30 t306.length co30)) (fun _ h_ => by first | exact h_.1 | simp only [h_, ne_eq, not_false_eq_true, and_self])))); (case side2 => exact (Kd.R_reads' HO308.out).2.1); rintro e w31 ⟨v319, rfl, ho0, hb⟩; refine ⟨_, rfl, ?_⟩; have n0_ := mk_ (Kd.R_elder' (by (with_reducible repeat (first | apply Kd.R_alloc | apply Kd.R_drewN | apply Kd.R_drew)); exact (Kd.R_mono (Kd.R_far (p := ⟨gb309, 8, none⟩) (Kd.R_far (p := ⟨gb309, 7, none⟩) (Kd.R_far (p := ⟨gb309, 6, none⟩) (Kd.R_far (p := ⟨gb309, 5, none⟩) (Kd.R_far (p := ⟨gb309, 4, none⟩) (Kd.R_far (p := ⟨gb309, 3, none⟩) (Kd.R_far (p := ⟨gb309, 2, none⟩) (Kd.R_far (p := ⟨gb309, 1, none⟩) (Kd.R_far (p := ⟨gb309, 0, none⟩) (Kd.R_types HO284.out BK309.out (by decide)) (fun _ hk => hk.2) (.int .i64 t298)) (fun _ hk => hk.2) (.int .i64 t299)) (fun _ hk => hk.2) (.int .i64 t300)) (fun _ hk => hk.2) (.int .i64 t301)) (fun _ hk => hk.2) (.int .i64 t302)) (fun _ hk => hk.2) (.int .i64 t303)) (fun _ hk => hk.2) (.bool t304)) (fun _ hk => hk.2) (.bool t305)) (fun _ hk => hk.2) (.slice Ao30 t306.length co30)) (fun _ h_ => by first | exact h_.1 | simp only [h_, ne_eq, not_false_eq_true, and_self]))) (Kd.R_base ho0) hb); have n1_ := mk_ (Kd.R_elder' (by (with_reducible repeat (first | apply Kd.R_alloc | apply Kd.R_drewN | apply Kd.R_drew)); exact (Kd.R_mono (Kd.R_far (p := ⟨gb309, 8, none⟩) (Kd.R_far (p := ⟨gb309, 7, none⟩) (Kd.R_far (p := ⟨gb309, 6, none⟩) (Kd.R_far (p := ⟨gb309, 5, none⟩) (Kd.R_far (p := ⟨gb309, 4, none⟩) (Kd.R_far (p := ⟨gb309, 3, none⟩) (Kd.R_far (p := ⟨gb309, 2, none⟩) (Kd.R_far (p := ⟨gb309, 1, none⟩) (Kd.R_far (p := ⟨gb309, 0, none⟩) (Kd.R_types HO295.out BK309.out (by decide)) (fun _ hk => hk.2) (.int .i64 t298)) (fun _ hk => hk.2) (.int .i64 t299)) (fun _ hk => hk.2) (.int .i64 t300)) (fun _ hk => hk.2) (.int .i64 t301)) (fun _ hk => hk.2) (.int .i64 t302)) (fun _ hk => hk.2) (.int .i64 t303)) (fun _ hk => hk.2) (.bool t304)) (fun _ hk => hk.2) (.bool t305)) (fun _ hk => hk.2) (.slice Ao30 t306.length co30)) (fun _ h_ => by first | exact h_.1 | simp only [h_, ne_eq, not_false_eq_true, and_self]))) (Kd.R_base ho0) hb); have n2_ := mk_ (Kd.R_elder' (by (with_reducible repeat (first | apply Kd.R_alloc | apply Kd.R_drewN | apply Kd.R_drew)); exact (Kd.R_mono (Kd.R_far (p := ⟨gb309, 8, none⟩) (Kd.R_far (p := ⟨gb309, 7, none⟩) (Kd.R_far (p := ⟨gb309, 6, none⟩) (Kd.R_far (p := ⟨gb309, 5, none⟩) (Kd.R_far (p := ⟨gb309, 4, none⟩) (Kd.R_far (p := ⟨gb309, 3, none⟩) (Kd.R_far (p := ⟨gb309, 2, none⟩) (Kd.R_far (p := ⟨gb309, 1, none⟩) (Kd.R_far (p := ⟨gb309, 0, none⟩) (Kd.R_types HO308.out BK309.out (by decide)) (fun _ hk => hk.2) (.int .i64 t298)) (fun _ hk => hk.2) (.int .i64 t299)) (fun _ hk => hk.2) (.int .i64 t300)) (fun _ hk => hk.2) (.int .i64 t301)) (fun _ hk => hk.2) (.int .i64 t302)) (fun _ hk => hk.2) (.int .i64 t303)) (fun _ hk => hk.2) (.bool t304)) (fun _ hk => hk.2) (.bool t305)) (fun _ hk => hk.2) (.slice Ao30 t306.length co30)) (fun _ h_ => by first | exact h_.1 | simp only [h_, ne_eq, not_false_eq_true, and_self]))) (Kd.R_base ho0) hb); have n3_ := mk_ (Kd.R_lower (Kd.R_new' (Kd.R_new' (Kd.R_new' ho0 (Kd.R_lt (by (with_reducible repeat (first | apply Kd.R_alloc | apply Kd.R_drewN | apply Kd.R_drew)); exact (Kd.R_mono (Kd.R_far (p := ⟨gb309, 8, none⟩) (Kd.R_far (p := ⟨gb309, 7, none⟩) (Kd.R_far (p := ⟨gb309, 6, none⟩) (Kd.R_far (p := ⟨gb309, 5, none⟩) (Kd.R_far (p := ⟨gb309, 4, none⟩) (Kd.R_far (p := ⟨gb309, 3, none⟩) (Kd.R_far (p := ⟨gb309, 2, none⟩) (Kd.R_far (p := ⟨gb309, 1, none⟩) (Kd.R_far (p := ⟨gb309, 0, none⟩) (Kd.R_types HO284.out BK309.out (by decide)) (fun _ hk => hk.2) (.int .i64 t298)) (fun _ hk => hk.2) (.int .i64 t299)) (fun _ hk => hk.2) (.int .i64 t300)) (fun _ hk => hk.2) (.int .i64 t301)) (fun _ hk => hk.2) (.int .i64 t302)) (fun _ hk => hk.2) (.int .i64 t303)) (fun _ hk => hk.2) (.bool t304)) (fun _ hk => hk.2) (.bool t305)) (fun _ hk => hk.2) (.slice Ao30 t306.length co30)) (fun _ h_ => by first | exact h_.1 | simp only [h_, ne_eq, not_false_eq_true, and_self]))))) (Kd.R_lt (by (with_reducible repeat (first | apply Kd.R_alloc | apply Kd.R_drewN | apply Kd.R_drew)); exact (Kd.R_mono (Kd.R_far (p := ⟨gb309, 8, none⟩) (Kd.R_far (p := ⟨gb309, 7, none⟩) (Kd.R_far (p := ⟨gb309, 6, none⟩) (Kd.R_far (p := ⟨gb309, 5, none⟩) (Kd.R_far (p := ⟨gb309, 4, none⟩) (Kd.R_far (p := ⟨gb309, 3, none⟩) (Kd.R_far (p := ⟨gb309, 2, none⟩) (Kd.R_far (p := ⟨gb309, 1, none⟩) (Kd.R_far (p := ⟨gb309, 0, none⟩) (Kd.R_types HO295.out BK309.out (by decide)) (fun _ hk => hk.2) (.int .i64 t298)) (fun _ hk => hk.2) (.int .i64 t299)) (fun _ hk => hk.2) (.int .i64 t300)) (fun _ hk => hk.2) (.int .i64 t301)) (fun _ hk => hk.2) (.int .i64 t302)) (fun _ hk => hk.2) (.int .i64 t303)) (fun _ hk => hk.2) (.bool t304)) (fun _ hk => hk.2) (.bool t305)) (fun _ hk => hk.2) (.slice Ao30 t306.length co30)) (fun _ h_ => by first | exact h_.1 | simp only [h_, ne_eq, not_false_eq_true, and_self]))))) (Kd.R_lt (by (with_reducible repeat (first | apply Kd.R_alloc | apply Kd.R_drewN | apply Kd.R_drew)); exact (Kd.R_mono (Kd.R_far (p := ⟨gb309, 8, none⟩) (Kd.R_far (p := ⟨gb309, 7, none⟩) (Kd.R_far (p := ⟨gb309, 6, none⟩) (Kd.R_far (p := ⟨gb309, 5, none⟩) (Kd.R_far (p := ⟨gb309, 4, none⟩) (Kd.R_far (p := ⟨gb309, 3, none⟩) (Kd.R_far (p := ⟨gb309, 2, none⟩) (Kd.R_far (p := ⟨gb309, 1, none⟩) (Kd.R_far (p := ⟨gb309, 0, none⟩) (Kd.R_types HO308.out BK309.out (by decide)) (fun _ hk => hk.2) (.int .i64 t298)) (fun _ hk => hk.2) (.int .i64 t299)) (fun _ hk => hk.2) (.int .i64 t300)) (fun _ hk => hk.2) (.int .i64 t301)) (fun _ hk => hk.2) (.int .i64 t302)) (fun _ hk => hk.2) (.int .i64 t303)) (fun _ hk => hk.2) (.bool t304)) (fun _ hk => hk.2) (.bool t305)) (fun _ hk => hk.2) (.slice Ao30 t306.length co30)) (fun _ h_ => by first | exact h_.1 | simp only [h_, ne_eq, not_false_eq_true, and_self]))))) (below_size (us_ HB.out))); have n4_ := mk_ (blk_below (g := gb272) (o := .cells #[.int .i64 a0_0, .int .i64 a0_1, .int .i64 a0_2, .int .i64 a0_3, .int .i64 a0_4, .int .i64 a0_5, .bool a0_6, .bool a0_7, .slice A0_8 l0_8.length c0_8] 41 (0, 0)) (uf_ BK272.out) hb); have n5_ := mk_ (blk_below (g := gb297) (o := .cells #[.int .i64 t285, .int .i64 t286, .int .i64 t287, .int .i64 t288, .int .i64 t289, .int .i64 t290, .bool t291, .bool t292, .slice Ao23 t293.length co23] 24 (0, 0)) (uf_ BK297.out) hb); have n6_ := mk_ (blk_below (g := gb309) (o := .cells #[.int .i64 t298, .int .i64 t299, .int .i64 t300, .int .i64 t301, .int .i64 t302, .int .i64 t303, .bool t304, .bool t305, .slice Ao30 t306.length co30] 24 (0, 0)) (by (with_reducible repeat (first | refine bn_ ?_ _ | refine bw_ ?_ | refine ba_ ?_ _)); refine blk_put (cs := #[.int .i64 t298, .int .i64 t299, .int .i64 t300, .int .i64 t301, .int .i64 t302, .int .i64 t303, .bool t304, .bool t305, .slice none 0 0]) ?_ 8 _ rfl; (with_reducible repeat (first | refine bn_ ?_ _ | refine bw_ ?_ | refine ba_ ?_ _)); refine blk_put (cs := #[.int .i64 t298, .int .i64 t299, .int .i64 t300, .int .i64 t301, .int .i64 t302, .int .i64 t303, .bool t304, .bool false, .slice none 0 0]) ?_ 7 _ rfl; (with_reducible repeat (first | refine bn_ ?_ _ | refine bw_ ?_ | refine ba_ ?_ _)); refine blk_put (cs := #[.int .i64 t298, .int .i64 t299, .int .i64 t300, .int .i64 t301, .int .i64 t302, .int .i64 t303, .bool false, .bool false, .slice none 0 0]) ?_ 6 _ rfl; (with_reducible repeat (first | refine bn_ ?_ _ | refine bw_ ?_ | refine ba_ ?_ _)); refine blk_put (cs := #[.int .i64 t298, .int .i64 t299, .int .i64 t300, .int .i64 t301, .int .i64 t302, .int .i64 0, .bool false, .bool false, .slice none 0 0]) ?_ 5 _ rfl; (with_reducible repeat (first | refine bn_ ?_ _ | refine bw_ ?_ | refine ba_ ?_ _)); refine blk_put (cs := #[.int .i64 t298, .int .i64 t299, .int .i64 t300, .int .i64 t301, .int .i64 0, .int .i64 0, .bool false, .bool false, .slice none 0 0]) ?_ 4 _ rfl; (with_reducible repeat (first | refine bn_ ?_ _ | refine bw_ ?_ | refine ba_ ?_ _)); refine blk_put (cs := #[.int .i64 t298, .int .i64 t299, .int .i64 t300, .int .i64 0, .int .i64 0, .int .i64 0, .bool false, .bool false, .slice none 0 0]) ?_ 3 _ rfl; (with_reducible repeat (first | refine bn_ ?_ _ | refine bw_ ?_ | refine ba_ ?_ _)); refine blk_put (cs := #[.int .i64 t298, .int .i64 t299, .int .i64 0, .int .i64 0, .int .i64 0, .int .i64 0, .bool false, .bool false, .slice none 0 0]) ?_ 2 _ rfl; (with_reducible repeat (first | refine bn_ ?_ _ | refine bw_ ?_ | refine ba_ ?_ _)); refine blk_put (cs := #[.int .i64 t298, .int .i64 0, .int .i64 0, .int .i64 0, .int .i64 0, .int .i64 0, .bool false, .bool false, .slice none 0 0]) ?_ 1 _ rfl; (with_reducible repeat (first | refine bn_ ?_ _ | refine bw_ ?_ | refine ba_ ?_ _)); refine blk_put (cs := #[.int .i64 0, .int .i64 0, .int .i64 0, .int .i64 0, .int .i64 0, .int .i64 0, .bool false, .bool false, .slice none 0 0]) ?_ 0 _ rfl; (with_reducible repeat (first | refine bn_ ?_ _ | refine bw_ ?_ | refine ba_ ?_ _)); exact BK309.out) hb); have n7_ := mk_ (below_step (us_ HB.out) hb); clear HO284; clear HO295; clear HO308; clear BK272; clear BK297; clear BK309; clear HB; have HO284 := n0_; have HO295 := n1_; have HO308 := n2_; have HO320 := n3_; have BK272 := n4_; have BK297 := n5_; have BK309 := n6_; have HB := n7_; clear n0_ n1_ n2_ n3_ n4_ n5_ n6_ n7_; (try clear hb); (try clear hb2); (try clear hk); (try clear hi); (try clear ho0)) | ((with_reducible refine gate_dst (N := 9) rfl ?_); refine box_event ?hg (N := 9) ?hd (cs := #[.int .i64 0, .int .i64 0, .int .i64 0, .int .i64 0, .int .i64 0, .int .i64 0, .bool false, .bool false, .slice none 0 0]) (t := 24) ?hr ?_; (case hd => rfl); (case hg => rfl); (case hr => first | (go_simp; done) | (go_simp; rfl)); intro gb322 hg w32 hbox hb; have n0_ := mk_ (Kd.R_below (Kd.ur_ HO284.out) hb); have n1_ := mk_ (Kd.R_below (Kd.ur_ HO295.out) hb); have n2_ := mk_ (Kd.R_below (Kd.ur_ HO308.out) hb); have n3_ := mk_ (Kd.R_below (Kd.ur_ HO320.out) hb); have n4_ := mk_ (blk_below (u_ BK272.out) hb); have n5_ := mk_ (blk_below (u_ BK297.out) hb); have n6_ := mk_ (blk_below (u_ BK309.out) hb); have n7_ := mk_ (below_step (us_ HB.out) hb); have n8_ := mk_ (hbox); have n9_ := mk_ ((by rw [hg]; exact (below_size (us_ HB.out)) : w.heap.size ≤ gb322)); have n10_ := mk_ ((by rw [hg]; exact (below_size (us_ HB.out)) : w.heap.size ≤ gb322)); have n11_ := mk_ ((by rw [hg]; exact Nat.ne_of_lt (blk_lt (u_ BK272.out)) : gb272 ≠ gb322)); have n12_ := mk_ ((by rw [hg]; exact Nat.ne_of_gt (blk_lt (u_ BK272.out)) : gb322 ≠ gb272)); have n13_ := mk_ ((by rw [hg]; exact Nat.ne_of_lt (blk_lt (u_ BK297.out)) : gb297 ≠ gb322)); have n14_ := mk_ ((by rw [hg]; exact Nat.ne_of_gt (blk_lt (u_ BK297.out)) : gb322 ≠ gb297)); have n15_ := mk_ ((by rw [hg]; exact Nat.ne_of_lt (blk_lt (u_ BK309.out)) : gb309 ≠ gb322)); have n16_ := mk_ ((by rw [hg]; exact Nat.ne_of_gt (blk_lt (u_ BK309.out)) : gb322 ≠ gb309)); clear HO284; clear HO295; clear HO308; clear HO320; clear BK272; clear BK297; clear BK309; clear HB; have HO284 := n0_; have HO295 := n1_; have HO308 := n2_; have HO320 := n3_; have BK272 := n4_; have BK297 := n5_; have BK309 := n6_; have HB := n7_; have BK322 := n8_; have GW322 := n9_; have GE322 := ge_ n10_.out; have NB272_322 := nq_ n11_.out; have NB322_272 := nq_ n12_.out; have NB297_322 := nq_ n13_.out; have NB322_297 := nq_ n14_.out; have NB309_322 := nq_ n15_.out; have NB322_309 := nq_ n16_.out; clear n0_ n1_ n2_ n3_ n4_ n5_ n6_ n7_ n8_ n9_ n10_ n11_ n12_ n13_ n14_ n15_ n16_; clear hb hbox hg; have hnb33 := NB322_272.out; have hnc33 := NB272_322.out; have hnb34 := NB322_297.out; have hnc34 := NB297_322.out; have hnb35 := NB322_309.out; have hnc35 := NB309_322.out; obtain ⟨hcz36_0, hcz36_1, hcz36_2, hcz36_3, hcz36_4, hcz36_5, hcz36_6, hcz36_7, hcz36_8, hfz36_0, hfz36_1, hfz36_2, hfz36_3, hfz36_4, hfz36_5, hfz36_6, hfz36_7, hfz36_8⟩ := cells9_ BK322.out; obtain ⟨Ao37, co37, eo37⟩ := Kd.R_slice HO320.out; subst eo37))
 (try simp only [Act.put, la_, lz_, ls_])
 go_cut [44] (fun v44 wc => ∃ (kq : Nat) (x44_11 : Bool), v44 = .bool x44_11 ∧ Aside0 (laws_FnExactNoteEchoed.j0 kq a1 t296 t321 x44_11 a0_0 a0_1 a0_2 a0_3 a0_4 a0_5 a0_6 a0_7 l0_8 t285 t286 t287 t288 t289 t290 t291 t292 t293 t298 t299 t300 t301 t302 t303 t304 t305 t306 t310 t311 t312 t313 t314 t315 t316 t317 t318 = some r) ∧ Aside0 (kq ≤ k) ∧ Aside0 (Kd.R (Kd.int .u8) 5 wc w.heap.size (fun k_ => some k_ ≠ ((.slice Ao30 t306.length co30) : Value).ownBlock ∧ some k_ ≠ ((.slice Ao37 t318.length co37) : Value).ownBlock) (.slice Ao23 t293.length co23) t293) ∧ Aside0 (Kd.R (Kd.int .u8) 5 wc w.heap.size (fun k_ => some k_ ≠ ((.slice Ao23 t293.length co23) : Value).ownBlock ∧ some k_ ≠ ((.slice Ao37 t318.length co37) : Value).ownBlock) (.slice Ao30 t306.length co30) t306) ∧ Aside0 (Kd.R (Kd.int .u8) 5 wc w.heap.size (fun k_ => some k_ ≠ ((.slice Ao23 t293.length co23) : Value).ownBlock ∧ some k_ ≠ ((.slice Ao30 t306.length co30) : Value).ownBlock) (.slice Ao37 t318.length co37) t318) ∧ Aside0 (wc.heap[gb272]? = some (.cells #[.int .i64 a0_0, .int .i64 a0_1, .int .i64 a0_2, .int .i64 a0_3, .int .i64 a0_4, .int .i64 a0_5, .bool a0_6, .bool a0_7, (.slice A0_8 l0_8.length c0_8)] 41 (0, 0))) ∧ Aside0 (wc.heap[gb297]? = some (.cells #[.int .i64 t285, .int .i64 t286, .int .i64 t287, .int .i64 t288, .int .i64 t289, .int .i64 t290, .bool t291, .bool t292, (.slice Ao23 t293.length co23)] 24 (0, 0))) ∧ Aside0 (wc.heap[gb309]? = some (.cells #[.int .i64 t298, .int .i64 t299, .int .i64 t300, .int .i64 t301, .int .i64 t302, .int .i64 t303, .bool t304, .bool t305, (.slice Ao30 t306.length co30)] 24 (0, 0))) ∧ Aside0 (wc.heap[gb322]? = some (.cells #[.int .i64 t310, .int .i64 t311, .int .i64 t312, .int .i64 t313, .int .i64 t314, .int .i64 t315, .bool t316, .bool t317, (.slice Ao37 t318.length co37)] 24 (0, 0))) ∧ Aside0 (Below w.heap.size w wc))
 case first =>
  have H := HC12.out
  clear HC12
  replace H := Option.bind_eq_some_iff.mp H
  obtain ⟨t323, A380, H⟩ := H
  replace H : (if t323 = true then (laws_FnExactNoteEchoed.j0 k a1 t296 t321 (t321 != t296) a0_0 a0_1 a0_2 a0_3 a0_4 a0_5 a0_6 a0_7 l0_8 t285 t286 t287 t288 t289 t290 t291 t292 t293 t298 t299 t300 t301 t302 t303 t304 t305 t306 t310 t311 t312 t313 t314 t315 t316 t317 t318) else (laws_FnExactNoteEchoed.j0 k a1 t296 t321 true a0_0 a0_1 a0_2 a0_3 a0_4 a0_5 a0_6 a0_7 l0_8 t285 t286 t287 t288 t289 t290 t291 t292 t293 t298 t299 t300 t301 t302 t303 t304 t305 t306 t310 t311 t312 t313 t314 t315 t316 t317 t318)) = some r := H
  have A38 := mk_ A380
  clear A380
  by_cases c39 : t323 = true
  ·subst c39
   have H1 : (laws_FnExactNoteEchoed.j0 k a1 t296 t321 (t321 != t296) a0_0 a0_1 a0_2 a0_3 a0_4 a0_5 a0_6 a0_7 l0_8 t285 t286 t287 t288 t289 t290 t291 t292 t293 t298 t299 t300 t301 t302 t303 t304 t305 t306 t310 t311 t312 t313 t314 t315 t316 t317 t318) = some r := by rw [if_pos rfl] at H; exact H
   clear H
   have H := H1
   clear H1
   have H' := mk_ H
   clear H
   have hnb40 := NB322_272.out
   have hnc40 := NB272_322.out
   have hnb41 := NB322_297.out
   have hnc41 := NB297_322.out
   have hnb42 := NB322_309.out
   have hnc42 := NB309_322.out
   obtain ⟨hcz43_0, hcz43_1, hcz43_2, hcz43_3, hcz43_4, hcz43_5, hcz43_6, hcz43_7, hcz43_8, hfz43_0, hfz43_1, hfz43_2, hfz43_3, hfz43_4, hfz43_5, hfz43_6, hfz43_7, hfz43_8⟩ := cells9_ BK322.out
   have hnb44 := NB297_272.out
   have hnc44 := NB272_297.out
   have hnb45 := NB297_309.out
   have hnc45 := NB309_297.out
   obtain ⟨hcz46_0, hcz46_1, hcz46_2, hcz46_3, hcz46_4, hcz46_5, hcz46_6, hcz46_7, hcz46_8, hfz46_0, hfz46_1, hfz46_2, hfz46_3, hfz46_4, hfz46_5, hfz46_6, hfz46_7, hfz46_8⟩ := cells9_ BK297.out
   go_wp2_with (first | ((with_reducible refine gate_callee (f := 26) rfl ?_); refine goesL_ (some 38) rfl rfl Try.func26 (by kernel_rfl) rfl #[.agg #[.int .i64 t310, .int .i64 t311, .int .i64 t312, .int .i64 t313, .int .i64 t314, .int .i64 t315, .bool t316, .bool t317, .slice Ao37 t318.length co37], .agg #[.int .i64 t285, .int .i64 t286, .int .i64 t287, .int .i64 t288, .int .i64 t289, .int .i64 t290, .bool t291, .bool t292, .slice Ao23 t293.length co23]] rfl (by (try simp only [lm_, lo_, ln_]); first | done | rfl | (simp only [List.length_drop, List.length_take]; rfl)) ?_; (with_reducible refine (laws_eqPacket.calls k t310 t311 t312 t313 t314 t315 t316 t317 _ _ t318 t285 t286 t287 t288 t289 t290 t291 t292 _ _ t293 true _ ?side1 ?side2 ?side3 ?side4 A38.out).mono ?_); (case side1 => refine (Kd.R_reads' (e := 5) (base := w.heap.size) (ok := fun k_ => (((True ∧ some k_ ≠ (.slice Ao18 t282.length co18 : Value).ownBlock) ∧ some k_ ≠ (.slice Ao23 t293.length co23 : Value).ownBlock) ∧ some k_ ≠ (.slice Ao30 t306.length co30 : Value).ownBlock)) (n := t318.length) (c := co37) ?_).2.2; exact (by (with_reducible repeat (first | apply Kd.R_alloc | apply Kd.R_drewN | apply Kd.R_drew)); exact (Kd.R_mono (Kd.R_far (p := ⟨gb322, 8, none⟩) (Kd.R_far (p := ⟨gb322, 7, none⟩) (Kd.R_far (p := ⟨gb322, 6, none⟩) (Kd.R_far (p := ⟨gb322, 5, none⟩) (Kd.R_far (p := ⟨gb322, 4, none⟩) (Kd.R_far (p := ⟨gb322, 3, none⟩) (Kd.R_far (p := ⟨gb322, 2, none⟩) (Kd.R_far (p := ⟨gb322, 1, none⟩) (Kd.R_far (p := ⟨gb322, 0, none⟩) (Kd.R_types HO320.out BK322.out (by decide)) (fun _ hk => hk.2) (.int .i64 t310)) (fun _ hk => hk.2) (.int .i64 t311)) (fun _ hk => hk.2) (.int .i64 t312)) (fun _ hk => hk.2) (.int .i64 t313)) (fun _ hk => hk.2) (.int .i64 t314)) (fun _ hk => hk.2) (.int .i64 t315)) (fun _ hk => hk.2) (.bool t316)) (fun _ hk => hk.2) (.bool t317)) (fun _ hk => hk.2) (.slice Ao37 t318.length co37)) (fun _ h_ => by first | exact h_.1 | simp only [h_, ne_eq, not_false_eq_true, and_self])))); (case side2 => exact (Kd.R_reads' HO320.out).2.1); (case side3 => refine (Kd.R_reads' (e := 5) (base := w.heap.size) (ok := fun k_ => (((True ∧ some k_ ≠ (.slice Ao18 t282.length co18 : Value).ownBlock) ∧ some k_ ≠ (.slice Ao30 t306.length co30 : Value).ownBlock) ∧ some k_ ≠ (.slice Ao37 t318.length co37 : Value).ownBlock)) (n := t293.length) (c := co23) ?_).2.2; exact (by (with_reducible repeat (first | apply Kd.R_alloc | apply Kd.R_drewN | apply Kd.R_drew)); exact (Kd.R_mono (Kd.R_far (p := ⟨gb322, 8, none⟩) (Kd.R_far (p := ⟨gb322, 7, none⟩) (Kd.R_far (p := ⟨gb322, 6, none⟩) (Kd.R_far (p := ⟨gb322, 5, none⟩) (Kd.R_far (p := ⟨gb322, 4, none⟩) (Kd.R_far (p := ⟨gb322, 3, none⟩) (Kd.R_far (p := ⟨gb322, 2, none⟩) (Kd.R_far (p := ⟨gb322, 1, none⟩) (Kd.R_far (p := ⟨gb322, 0, none⟩) (Kd.R_types HO295.out BK322.out (by decide)) (fun _ hk => hk.2) (.int .i64 t310)) (fun _ hk => hk.2) (.int .i64 t311)) (fun _ hk => hk.2) (.int .i64 t312)) (fun _ hk => hk.2) (.int .i64 t313)) (fun _ hk => hk.2) (.int .i64 t314)) (fun _ hk => hk.2) (.int .i64 t315)) (fun _ hk => hk.2) (.bool t316)) (fun _ hk => hk.2) (.bool t317)) (fun _ hk => hk.2) (.slice Ao37 t318.length co37)) (fun _ h_ => by first | exact h_.1 | simp only [h_, ne_eq, not_false_eq_true, and_self])))); (case side4 => exact (Kd.R_reads' HO295.out).2.1); rintro e w47 ⟨rfl, hb⟩; refine ⟨_, rfl, ?_⟩; have n0_ := mk_ (Kd.R_below (by (with_reducible repeat (first | apply Kd.R_alloc | apply Kd.R_drewN | apply Kd.R_drew)); exact (Kd.R_mono (Kd.R_far (p := ⟨gb322, 8, none⟩) (Kd.R_far (p := ⟨gb322, 7, none⟩) (Kd.R_far (p := ⟨gb322, 6, none⟩) (Kd.R_far (p := ⟨gb322, 5, none⟩) (Kd.R_far (p := ⟨gb322, 4, none⟩) (Kd.R_far (p := ⟨gb322, 3, none⟩) (Kd.R_far (p := ⟨gb322, 2, none⟩) (Kd.R_far (p := ⟨gb322, 1, none⟩) (Kd.R_far (p := ⟨gb322, 0, none⟩) (Kd.R_types HO284.out BK322.out (by decide)) (fun _ hk => hk.2) (.int .i64 t310)) (fun _ hk => hk.2) (.int .i64 t311)) (fun _ hk => hk.2) (.int .i64 t312)) (fun _ hk => hk.2) (.int .i64 t313)) (fun _ hk => hk.2) (.int .i64 t314)) (fun _ hk => hk.2) (.int .i64 t315)) (fun _ hk => hk.2) (.bool t316)) (fun _ hk => hk.2) (.bool t317)) (fun _ hk => hk.2) (.slice Ao37 t318.length co37)) (fun _ h_ => by first | exact h_.1 | simp only [h_, ne_eq, not_false_eq_true, and_self]))) hb); have n1_ := mk_ (Kd.R_below (by (with_reducible repeat (first | apply Kd.R_alloc | apply Kd.R_drewN | apply Kd.R_drew)); exact (Kd.R_mono (Kd.R_far (p := ⟨gb322, 8, none⟩) (Kd.R_far (p := ⟨gb322, 7, none⟩) (Kd.R_far (p := ⟨gb322, 6, none⟩) (Kd.R_far (p := ⟨gb322, 5, none⟩) (Kd.R_far (p := ⟨gb322, 4, none⟩) (Kd.R_far (p := ⟨gb322, 3, none⟩) (Kd.R_far (p := ⟨gb322, 2, none⟩) (Kd.R_far (p := ⟨gb322, 1, none⟩) (Kd.R_far (p := ⟨gb322, 0, none⟩) (Kd.R_types HO295.out BK322.out (by decide)) (fun _ hk => hk.2) (.int .i64 t310)) (fun _ hk => hk.2) (.int .i64 t311)) (fun _ hk => hk.2) (.int .i64 t312)) (fun _ hk => hk.2) (.int .i64 t313)) (fun _ hk => hk.2) (.int .i64 t314)) (fun _ hk => hk.2) (.int .i64 t315)) (fun _ hk => hk.2) (.bool t316)) (fun _ hk => hk.2) (.bool t317)) (fun _ hk => hk.2) (.slice Ao37 t318.length co37)) (fun _ h_ => by first | exact h_.1 | simp only [h_, ne_eq, not_false_eq_true, and_self]))) hb); have n2_ := mk_ (Kd.R_below (by (with_reducible repeat (first | apply Kd.R_alloc | apply Kd.R_drewN | apply Kd.R_drew)); exact (Kd.R_mono (Kd.R_far (p := ⟨gb322, 8, none⟩) (Kd.R_far (p := ⟨gb322, 7, none⟩) (Kd.R_far (p := ⟨gb322, 6, none⟩) (Kd.R_far (p := ⟨gb322, 5, none⟩) (Kd.R_far (p := ⟨gb322, 4, none⟩) (Kd.R_far (p := ⟨gb322, 3, none⟩) (Kd.R_far (p := ⟨gb322, 2, none⟩) (Kd.R_far (p := ⟨gb322, 1, none⟩) (Kd.R_far (p := ⟨gb322, 0, none⟩) (Kd.R_types HO308.out BK322.out (by decide)) (fun _ hk => hk.2) (.int .i64 t310)) (fun _ hk => hk.2) (.int .i64 t311)) (fun _ hk => hk.2) (.int .i64 t312)) (fun _ hk => hk.2) (.int .i64 t313)) (fun _ hk => hk.2) (.int .i64 t314)) (fun _ hk => hk.2) (.int .i64 t315)) (fun _ hk => hk.2) (.bool t316)) (fun _ hk => hk.2) (.bool t317)) (fun _ hk => hk.2) (.slice Ao37 t318.length co37)) (fun _ h_ => by first | exact h_.1 | simp only [h_, ne_eq, not_false_eq_true, and_self]))) hb); have n3_ := mk_ (Kd.R_below (by (with_reducible repeat (first | apply Kd.R_alloc | apply Kd.R_drewN | apply Kd.R_drew)); exact (Kd.R_mono (Kd.R_far (p := ⟨gb322, 8, none⟩) (Kd.R_far (p := ⟨gb322, 7, none⟩) (Kd.R_far (p := ⟨gb322, 6, none⟩) (Kd.R_far (p := ⟨gb322, 5, none⟩) (Kd.R_far (p := ⟨gb322, 4, none⟩) (Kd.R_far (p := ⟨gb322, 3, none⟩) (Kd.R_far (p := ⟨gb322, 2, none⟩) (Kd.R_far (p := ⟨gb322, 1, none⟩) (Kd.R_far (p := ⟨gb322, 0, none⟩) (Kd.R_types HO320.out BK322.out (by decide)) (fun _ hk => hk.2) (.int .i64 t310)) (fun _ hk => hk.2) (.int .i64 t311)) (fun _ hk => hk.2) (.int .i64 t312)) (fun _ hk => hk.2) (.int .i64 t313)) (fun _ hk => hk.2) (.int .i64 t314)) (fun _ hk => hk.2) (.int .i64 t315)) (fun _ hk => hk.2) (.bool t316)) (fun _ hk => hk.2) (.bool t317)) (fun _ hk => hk.2) (.slice Ao37 t318.length co37)) (fun _ h_ => by first | exact h_.1 | simp only [h_, ne_eq, not_false_eq_true, and_self]))) hb); have n4_ := mk_ (blk_below (g := gb272) (o := .cells #[.int .i64 a0_0, .int .i64 a0_1, .int .i64 a0_2, .int .i64 a0_3, .int .i64 a0_4, .int .i64 a0_5, .bool a0_6, .bool a0_7, .slice A0_8 l0_8.length c0_8] 41 (0, 0)) (uf_ BK272.out) hb); have n5_ := mk_ (blk_below (g := gb297) (o := .cells #[.int .i64 t285, .int .i64 t286, .int .i64 t287, .int .i64 t288, .int .i64 t289, .int .i64 t290, .bool t291, .bool t292, .slice Ao23 t293.length co23] 24 (0, 0)) (uf_ BK297.out) hb); have n6_ := mk_ (blk_below (g := gb309) (o := .cells #[.int .i64 t298, .int .i64 t299, .int .i64 t300, .int .i64 t301, .int .i64 t302, .int .i64 t303, .bool t304, .bool t305, .slice Ao30 t306.length co30] 24 (0, 0)) (uf_ BK309.out) hb); have n7_ := mk_ (blk_below (g := gb322) (o := .cells #[.int .i64 t310, .int .i64 t311, .int .i64 t312, .int .i64 t313, .int .i64 t314, .int .i64 t315, .bool t316, .bool t317, .slice Ao37 t318.length co37] 24 (0, 0)) (by (with_reducible repeat (first | refine bn_ ?_ _ | refine bw_ ?_ | refine ba_ ?_ _)); refine blk_put (cs := #[.int .i64 t310, .int .i64 t311, .int .i64 t312, .int .i64 t313, .int .i64 t314, .int .i64 t315, .bool t316, .bool t317, .slice none 0 0]) ?_ 8 _ rfl; (with_reducible repeat (first | refine bn_ ?_ _ | refine bw_ ?_ | refine ba_ ?_ _)); refine blk_put (cs := #[.int .i64 t310, .int .i64 t311, .int .i64 t312, .int .i64 t313, .int .i64 t314, .int .i64 t315, .bool t316, .bool false, .slice none 0 0]) ?_ 7 _ rfl; (with_reducible repeat (first | refine bn_ ?_ _ | refine bw_ ?_ | refine ba_ ?_ _)); refine blk_put (cs := #[.int .i64 t310, .int .i64 t311, .int .i64 t312, .int .i64 t313, .int .i64 t314, .int .i64 t315, .bool false, .bool false, .slice none 0 0]) ?_ 6 _ rfl; (with_reducible repeat (first | refine bn_ ?_ _ | refine bw_ ?_ | refine ba_ ?_ _)); refine blk_put (cs := #[.int .i64 t310, .int .i64 t311, .int .i64 t312, .int .i64 t313, .int .i64 t314, .int .i64 0, .bool false, .bool false, .slice none 0 0]) ?_ 5 _ rfl; (with_reducible repeat (first | refine bn_ ?_ _ | refine bw_ ?_ | refine ba_ ?_ _)); refine blk_put (cs := #[.int .i64 t310, .int .i64 t311, .int .i64 t312, .int .i64 t313, .int .i64 0, .int .i64 0, .bool false, .bool false, .slice none 0 0]) ?_ 4 _ rfl; (with_reducible repeat (first | refine bn_ ?_ _ | refine bw_ ?_ | refine ba_ ?_ _)); refine blk_put (cs := #[.int .i64 t310, .int .i64 t311, .int .i64 t312, .int .i64 0, .int .i64 0, .int .i64 0, .bool false, .bool false, .slice none 0 0]) ?_ 3 _ rfl; (with_reducible repeat (first | refine bn_ ?_ _ | refine bw_ ?_ | refine ba_ ?_ _)); refine blk_put (cs := #[.int .i64 t310, .int .i64 t311, .int .i64 0, .int .i64 0, .int .i64 0, .int .i64 0, .bool false, .bool false, .slice none 0 0]) ?_ 2 _ rfl; (with_reducible repeat (first | refine bn_ ?_ _ | refine bw_ ?_ | refine ba_ ?_ _)); refine blk_put (cs := #[.int .i64 t310, .int .i64 0, .int .i64 0, .int .i64 0, .int .i64 0, .int .i64 0, .bool false, .bool false, .slice none 0 0]) ?_ 1 _ rfl; (with_reducible repeat (first | refine bn_ ?_ _ | refine bw_ ?_ | refine ba_ ?_ _)); refine blk_put (cs := #[.int .i64 0, .int .i64 0, .int .i64 0, .int .i64 0, .int .i64 0, .int .i64 0, .bool false, .bool false, .slice none 0 0]) ?_ 0 _ rfl; (with_reducible repeat (first | refine bn_ ?_ _ | refine bw_ ?_ | refine ba_ ?_ _)); exact BK322.out) hb); have n8_ := mk_ (below_step (us_ HB.out) hb); clear HO284; clear HO295; clear HO308; clear HO320; clear BK272; clear BK297; clear BK309; clear BK322; clear HB; have HO284 := n0_; have HO295 := n1_; have HO308 := n2_; have HO320 := n3_; have BK272 := n4_; have BK297 := n5_; have BK309 := n6_; have BK322 := n7_; have HB := n8_; clear n0_ n1_ n2_ n3_ n4_ n5_ n6_ n7_ n8_; (try clear hb); (try clear hb2); (try clear hk); (try clear hi)))
   go_meet
   case rel => exact ⟨_, ((t321 != t296)), (by first | rfl | (simp; done) | (simp [*]; done)), H', ⟨by first | omega | exact Nat.le_refl _⟩, ⟨by (with_reducible repeat (first | apply Kd.R_alloc | apply Kd.R_drewN | apply Kd.R_drew)); exact Kd.R_mono HO295.out (fun _ hk => ⟨hk.1.2, hk.2⟩)⟩, ⟨by (with_reducible repeat (first | apply Kd.R_alloc | apply Kd.R_drewN | apply Kd.R_drew)); exact Kd.R_mono HO308.out (fun _ hk => ⟨hk.1.2, hk.2⟩)⟩, ⟨by (with_reducible repeat (first | apply Kd.R_alloc | apply Kd.R_drewN | apply Kd.R_drew)); exact Kd.R_mono HO320.out (fun _ hk => ⟨hk.1.2, hk.2⟩)⟩, ⟨u_ BK272.out⟩, ⟨u_ BK297.out⟩, ⟨u_ BK309.out⟩, ⟨u_ BK322.out⟩, ⟨us_ HB.out⟩⟩
  replace c39 := Bool.eq_false_iff.mpr c39
  subst c39
  have H1 : (laws_FnExactNoteEchoed.j0 k a1 t296 t321 true a0_0 a0_1 a0_2 a0_3 a0_4 a0_5 a0_6 a0_7 l0_8 t285 t286 t287 t288 t289 t290 t291 t292 t293 t298 t299 t300 t301 t302 t303 t304 t305 t306 t310 t311 t312 t313 t314 t315 t316 t317 t318) = some r := by rw [if_neg (show ¬ (false = true) by decide)] at H; exact H
  clear H
  have H := H1
  clear H1
  have H' := mk_ H
  clear H
  have hnb48 := NB322_272.out
  have hnc48 := NB272_322.out
  have hnb49 := NB322_297.out
  have hnc49 := NB297_322.out
  have hnb50 := NB322_309.out
  have hnc50 := NB309_322.out
  obtain ⟨hcz51_0, hcz51_1, hcz51_2, hcz51_3, hcz51_4, hcz51_5, hcz51_6, hcz51_7, hcz51_8, hfz51_0, hfz51_1, hfz51_2, hfz51_3, hfz51_4, hfz51_5, hfz51_6, hfz51_7, hfz51_8⟩ := cells9_ BK322.out
  have hnb52 := NB297_272.out
  have hnc52 := NB272_297.out
  have hnb53 := NB297_309.out
  have hnc53 := NB309_297.out
  obtain ⟨hcz54_0, hcz54_1, hcz54_2, hcz54_3, hcz54_4, hcz54_5, hcz54_6, hcz54_7, hcz54_8, hfz54_0, hfz54_1, hfz54_2, hfz54_3, hfz54_4, hfz54_5, hfz54_6, hfz54_7, hfz54_8⟩ := cells9_ BK297.out
  go_wp2_with (first | ((with_reducible refine gate_callee (f := 26) rfl ?_); refine goesL_ (some 38) rfl rfl Try.func26 (by kernel_rfl) rfl #[.agg #[.int .i64 t310, .int .i64 t311, .int .i64 t312, .int .i64 t313, .int .i64 t314, .int .i64 t315, .bool t316, .bool t317, .slice Ao37 t318.length co37], .agg #[.int .i64 t285, .int .i64 t286, .int .i64 t287, .int .i64 t288, .int .i64 t289, .int .i64 t290, .bool t291, .bool t292, .slice Ao23 t293.length co23]] rfl (by (try simp only [lm_, lo_, ln_]); first | done | rfl | (simp only [List.length_drop, List.length_take]; rfl)) ?_; (with_reducible refine (laws_eqPacket.calls k t310 t311 t312 t313 t314 t315 t316 t317 _ _ t318 t285 t286 t287 t288 t289 t290 t291 t292 _ _ t293 false _ ?side1 ?side2 ?side3 ?side4 A38.out).mono ?_); (case side1 => refine (Kd.R_reads' (e := 5) (base := w.heap.size) (ok := fun k_ => (((True ∧ some k_ ≠ (.slice Ao18 t282.length co18 : Value).ownBlock) ∧ some k_ ≠ (.slice Ao23 t293.length co23 : Value).ownBlock) ∧ some k_ ≠ (.slice Ao30 t306.length co30 : Value).ownBlock)) (n := t318.length) (c := co37) ?_).2.2; exact (by (with_reducible repeat (first | apply Kd.R_alloc | apply Kd.R_drewN | apply Kd.R_drew)); exact (Kd.R_mono (Kd.R_far (p := ⟨gb322, 8, none⟩) (Kd.R_far (p := ⟨gb322, 7, none⟩) (Kd.R_far (p := ⟨gb322, 6, none⟩) (Kd.R_far (p := ⟨gb322, 5, none⟩) (Kd.R_far (p := ⟨gb322, 4, none⟩) (Kd.R_far (p := ⟨gb322, 3, none⟩) (Kd.R_far (p := ⟨gb322, 2, none⟩) (Kd.R_far (p := ⟨gb322, 1, none⟩) (Kd.R_far (p := ⟨gb322, 0, none⟩) (Kd.R_types HO320.out BK322.out (by decide)) (fun _ hk => hk.2) (.int .i64 t310)) (fun _ hk => hk.2) (.int .i64 t311)) (fun _ hk => hk.2) (.int .i64 t312)) (fun _ hk => hk.2) (.int .i64 t313)) (fun _ hk => hk.2) (.int .i64 t314)) (fun _ hk => hk.2) (.int .i64 t315)) (fun _ hk => hk.2) (.bool t316)) (fun _ hk => hk.2) (.bool t317)) (fun _ hk => hk.2) (.slice Ao37 t318.length co37)) (fun _ h_ => by first | exact h_.1 | simp only [h_, ne_eq, not_false_eq_true, and_self])))); (case side2 => exact (Kd.R_reads' HO320.out).2.1); (case side3 => refine (Kd.R_reads' (e := 5) (base := w.heap.size) (ok := fun k_ => (((True ∧ some k_ ≠ (.slice Ao18 t282.length co18 : Value).ownBlock) ∧ some k_ ≠ (.slice Ao30 t306.length co30 : Value).ownBlock) ∧ some k_ ≠ (.slice Ao37 t318.length co37 : Value).ownBlock)) (n := t293.length) (c := co23) ?_).2.2; exact (by (with_reducible repeat (first | apply Kd.R_alloc | apply Kd.R_drewN | apply Kd.R_drew)); exact (Kd.R_mono (Kd.R_far (p := ⟨gb322, 8, none⟩) (Kd.R_far (p := ⟨gb322, 7, none⟩) (Kd.R_far (p := ⟨gb322, 6, none⟩) (Kd.R_far (p := ⟨gb322, 5, none⟩) (Kd.R_far (p := ⟨gb322, 4, none⟩) (Kd.R_far (p := ⟨gb322, 3, none⟩) (Kd.R_far (p := ⟨gb322, 2, none⟩) (Kd.R_far (p := ⟨gb322, 1, none⟩) (Kd.R_far (p := ⟨gb322, 0, none⟩) (Kd.R_types HO295.out BK322.out (by decide)) (fun _ hk => hk.2) (.int .i64 t310)) (fun _ hk => hk.2) (.int .i64 t311)) (fun _ hk => hk.2) (.int .i64 t312)) (fun _ hk => hk.2) (.int .i64 t313)) (fun _ hk => hk.2) (.int .i64 t314)) (fun _ hk => hk.2) (.int .i64 t315)) (fun _ hk => hk.2) (.bool t316)) (fun _ hk => hk.2) (.bool t317)) (fun _ hk => hk.2) (.slice Ao37 t318.length co37)) (fun _ h_ => by first | exact h_.1 | simp only [h_, ne_eq, not_false_eq_true, and_self])))); (case side4 => exact (Kd.R_reads' HO295.out).2.1); rintro e w55 ⟨rfl, hb⟩; refine ⟨_, rfl, ?_⟩; have n0_ := mk_ (Kd.R_below (by (with_reducible repeat (first | apply Kd.R_alloc | apply Kd.R_drewN | apply Kd.R_drew)); exact (Kd.R_mono (Kd.R_far (p := ⟨gb322, 8, none⟩) (Kd.R_far (p := ⟨gb322, 7, none⟩) (Kd.R_far (p := ⟨gb322, 6, none⟩) (Kd.R_far (p := ⟨gb322, 5, none⟩) (Kd.R_far (p := ⟨gb322, 4, none⟩) (Kd.R_far (p := ⟨gb322, 3, none⟩) (Kd.R_far (p := ⟨gb322, 2, none⟩) (Kd.R_far (p := ⟨gb322, 1, none⟩) (Kd.R_far (p := ⟨gb322, 0, none⟩) (Kd.R_types HO284.out BK322.out (by decide)) (fun _ hk => hk.2) (.int .i64 t310)) (fun _ hk => hk.2) (.int .i64 t311)) (fun _ hk => hk.2) (.int .i64 t312)) (fun _ hk => hk.2) (.int .i64 t313)) (fun _ hk => hk.2) (.int .i64 t314)) (fun _ hk => hk.2) (.int .i64 t315)) (fun _ hk => hk.2) (.bool t316)) (fun _ hk => hk.2) (.bool t317)) (fun _ hk => hk.2) (.slice Ao37 t318.length co37)) (fun _ h_ => by first | exact h_.1 | simp only [h_, ne_eq, not_false_eq_true, and_self]))) hb); have n1_ := mk_ (Kd.R_below (by (with_reducible repeat (first | apply Kd.R_alloc | apply Kd.R_drewN | apply Kd.R_drew)); exact (Kd.R_mono (Kd.R_far (p := ⟨gb322, 8, none⟩) (Kd.R_far (p := ⟨gb322, 7, none⟩) (Kd.R_far (p := ⟨gb322, 6, none⟩) (Kd.R_far (p := ⟨gb322, 5, none⟩) (Kd.R_far (p := ⟨gb322, 4, none⟩) (Kd.R_far (p := ⟨gb322, 3, none⟩) (Kd.R_far (p := ⟨gb322, 2, none⟩) (Kd.R_far (p := ⟨gb322, 1, none⟩) (Kd.R_far (p := ⟨gb322, 0, none⟩) (Kd.R_types HO295.out BK322.out (by decide)) (fun _ hk => hk.2) (.int .i64 t310)) (fun _ hk => hk.2) (.int .i64 t311)) (fun _ hk => hk.2) (.int .i64 t312)) (fun _ hk => hk.2) (.int .i64 t313)) (fun _ hk => hk.2) (.int .i64 t314)) (fun _ hk => hk.2) (.int .i64 t315)) (fun _ hk => hk.2) (.bool t316)) (fun _ hk => hk.2) (.bool t317)) (fun _ hk => hk.2) (.slice Ao37 t318.length co37)) (fun _ h_ => by first | exact h_.1 | simp only [h_, ne_eq, not_false_eq_true, and_self]))) hb); have n2_ := mk_ (Kd.R_below (by (with_reducible repeat (first | apply Kd.R_alloc | apply Kd.R_drewN | apply Kd.R_drew)); exact (Kd.R_mono (Kd.R_far (p := ⟨gb322, 8, none⟩) (Kd.R_far (p := ⟨gb322, 7, none⟩) (Kd.R_far (p := ⟨gb322, 6, none⟩) (Kd.R_far (p := ⟨gb322, 5, none⟩) (Kd.R_far (p := ⟨gb322, 4, none⟩) (Kd.R_far (p := ⟨gb322, 3, none⟩) (Kd.R_far (p := ⟨gb322, 2, none⟩) (Kd.R_far (p := ⟨gb322, 1, none⟩) (Kd.R_far (p := ⟨gb322, 0, none⟩) (Kd.R_types HO308.out BK322.out (by decide)) (fun _ hk => hk.2) (.int .i64 t310)) (fun _ hk => hk.2) (.int .i64 t311)) (fun _ hk => hk.2) (.int .i64 t312)) (fun _ hk => hk.2) (.int .i64 t313)) (fun _ hk => hk.2) (.int .i64 t314)) (fun _ hk => hk.2) (.int .i64 t315)) (fun _ hk => hk.2) (.bool t316)) (fun _ hk => hk.2) (.bool t317)) (fun _ hk => hk.2) (.slice Ao37 t318.length co37)) (fun _ h_ => by first | exact h_.1 | simp only [h_, ne_eq, not_false_eq_true, and_self]))) hb); have n3_ := mk_ (Kd.R_below (by (with_reducible repeat (first | apply Kd.R_alloc | apply Kd.R_drewN | apply Kd.R_drew)); exact (Kd.R_mono (Kd.R_far (p := ⟨gb322, 8, none⟩) (Kd.R_far (p := ⟨gb322, 7, none⟩) (Kd.R_far (p := ⟨gb322, 6, none⟩) (Kd.R_far (p := ⟨gb322, 5, none⟩) (Kd.R_far (p := ⟨gb322, 4, none⟩) (Kd.R_far (p := ⟨gb322, 3, none⟩) (Kd.R_far (p := ⟨gb322, 2, none⟩) (Kd.R_far (p := ⟨gb322, 1, none⟩) (Kd.R_far (p := ⟨gb322, 0, none⟩) (Kd.R_types HO320.out BK322.out (by decide)) (fun _ hk => hk.2) (.int .i64 t310)) (fun _ hk => hk.2) (.int .i64 t311)) (fun _ hk => hk.2) (.int .i64 t312)) (fun _ hk => hk.2) (.int .i64 t313)) (fun _ hk => hk.2) (.int .i64 t314)) (fun _ hk => hk.2) (.int .i64 t315)) (fun _ hk => hk.2) (.bool t316)) (fun _ hk => hk.2) (.bool t317)) (fun _ hk => hk.2) (.slice Ao37 t318.length co37)) (fun _ h_ => by first | exact h_.1 | simp only [h_, ne_eq, not_false_eq_true, and_self]))) hb); have n4_ := mk_ (blk_below (g := gb272) (o := .cells #[.int .i64 a0_0, .int .i64 a0_1, .int .i64 a0_2, .int .i64 a0_3, .int .i64 a0_4, .int .i64 a0_5, .bool a0_6, .bool a0_7, .slice A0_8 l0_8.length c0_8] 41 (0, 0)) (uf_ BK272.out) hb); have n5_ := mk_ (blk_below (g := gb297) (o := .cells #[.int .i64 t285, .int .i64 t286, .int .i64 t287, .int .i64 t288, .int .i64 t289, .int .i64 t290, .bool t291, .bool t292, .slice Ao23 t293.length co23] 24 (0, 0)) (uf_ BK297.out) hb); have n6_ := mk_ (blk_below (g := gb309) (o := .cells #[.int .i64 t298, .int .i64 t299, .int .i64 t300, .int .i64 t301, .int .i64 t302, .int .i64 t303, .bool t304, .bool t305, .slice Ao30 t306.length co30] 24 (0, 0)) (uf_ BK309.out) hb); have n7_ := mk_ (blk_below (g := gb322) (o := .cells #[.int .i64 t310, .int .i64 t311, .int .i64 t312, .int .i64 t313, .int .i64 t314, .int .i64 t315, .bool t316, .bool t317, .slice Ao37 t318.length co37] 24 (0, 0)) (by (with_reducible repeat (first | refine bn_ ?_ _ | refine bw_ ?_ | refine ba_ ?_ _)); refine blk_put (cs := #[.int .i64 t310, .int .i64 t311, .int .i64 t312, .int .i64 t313, .int .i64 t314, .int .i64 t315, .bool t316, .bool t317, .slice none 0 0]) ?_ 8 _ rfl; (with_reducible repeat (first | refine bn_ ?_ _ | refine bw_ ?_ | refine ba_ ?_ _)); refine blk_put (cs := #[.int .i64 t310, .int .i64 t311, .int .i64 t312, .int .i64 t313, .int .i64 t314, .int .i64 t315, .bool t316, .bool false, .slice none 0 0]) ?_ 7 _ rfl; (with_reducible repeat (first | refine bn_ ?_ _ | refine bw_ ?_ | refine ba_ ?_ _)); refine blk_put (cs := #[.int .i64 t310, .int .i64 t311, .int .i64 t312, .int .i64 t313, .int .i64 t314, .int .i64 t315, .bool false, .bool false, .slice none 0 0]) ?_ 6 _ rfl; (with_reducible repeat (first | refine bn_ ?_ _ | refine bw_ ?_ | refine ba_ ?_ _)); refine blk_put (cs := #[.int .i64 t310, .int .i64 t311, .int .i64 t312, .int .i64 t313, .int .i64 t314, .int .i64 0, .bool false, .bool false, .slice none 0 0]) ?_ 5 _ rfl; (with_reducible repeat (first | refine bn_ ?_ _ | refine bw_ ?_ | refine ba_ ?_ _)); refine blk_put (cs := #[.int .i64 t310, .int .i64 t311, .int .i64 t312, .int .i64 t313, .int .i64 0, .int .i64 0, .bool false, .bool false, .slice none 0 0]) ?_ 4 _ rfl; (with_reducible repeat (first | refine bn_ ?_ _ | refine bw_ ?_ | refine ba_ ?_ _)); refine blk_put (cs := #[.int .i64 t310, .int .i64 t311, .int .i64 t312, .int .i64 0, .int .i64 0, .int .i64 0, .bool false, .bool false, .slice none 0 0]) ?_ 3 _ rfl; (with_reducible repeat (first | refine bn_ ?_ _ | refine bw_ ?_ | refine ba_ ?_ _)); refine blk_put (cs := #[.int .i64 t310, .int .i64 t311, .int .i64 0, .int .i64 0, .int .i64 0, .int .i64 0, .bool false, .bool false, .slice none 0 0]) ?_ 2 _ rfl; (with_reducible repeat (first | refine bn_ ?_ _ | refine bw_ ?_ | refine ba_ ?_ _)); refine blk_put (cs := #[.int .i64 t310, .int .i64 0, .int .i64 0, .int .i64 0, .int .i64 0, .int .i64 0, .bool false, .bool false, .slice none 0 0]) ?_ 1 _ rfl; (with_reducible repeat (first | refine bn_ ?_ _ | refine bw_ ?_ | refine ba_ ?_ _)); refine blk_put (cs := #[.int .i64 0, .int .i64 0, .int .i64 0, .int .i64 0, .int .i64 0, .int .i64 0, .bool false, .bool false, .slice none 0 0]) ?_ 0 _ rfl; (with_reducible repeat (first | refine bn_ ?_ _ | refine bw_ ?_ | refine ba_ ?_ _)); exact BK322.out) hb); have n8_ := mk_ (below_step (us_ HB.out) hb); clear HO284; clear HO295; clear HO308; clear HO320; clear BK272; clear BK297; clear BK309; clear BK322; clear HB; have HO284 := n0_; have HO295 := n1_; have HO308 := n2_; have HO320 := n3_; have BK272 := n4_; have BK297 := n5_; have BK309 := n6_; have BK322 := n7_; have HB := n8_; clear n0_ n1_ n2_ n3_ n4_ n5_ n6_ n7_ n8_; (try clear hb); (try clear hb2); (try clear hk); (try clear hi)))
  go_meet
  case rel => exact ⟨_, (true), (by first | rfl | (simp; done) | (simp [*]; done)), H', ⟨by first | omega | exact Nat.le_refl _⟩, ⟨by (with_reducible repeat (first | apply Kd.R_alloc | apply Kd.R_drewN | apply Kd.R_drew)); exact Kd.R_mono HO295.out (fun _ hk => ⟨hk.1.2, hk.2⟩)⟩, ⟨by (with_reducible repeat (first | apply Kd.R_alloc | apply Kd.R_drewN | apply Kd.R_drew)); exact Kd.R_mono HO308.out (fun _ hk => ⟨hk.1.2, hk.2⟩)⟩, ⟨by (with_reducible repeat (first | apply Kd.R_alloc | apply Kd.R_drewN | apply Kd.R_drew)); exact Kd.R_mono HO320.out (fun _ hk => ⟨hk.1.2, hk.2⟩)⟩, ⟨u_ BK272.out⟩, ⟨u_ BK297.out⟩, ⟨u_ BK309.out⟩, ⟨u_ BK322.out⟩, ⟨us_ HB.out⟩⟩
 case rest =>
  clear HC12
  try clear c2
  try clear p2
  try clear c3
  try clear c4
  try clear c4b0
  try clear c5
  try clear c6
  try clear c21
  try clear c22
  try clear c23
  try clear c24
  try clear c25
  try clear c26
  try clear c27
  try clear c28
  try clear c33
  try clear c34
  try clear c35
  try clear c39
  try clear c40
  try clear c41
  try clear c42
  try clear c44
  try clear c45
  try clear c48
  try clear c49
  try clear c50
  try clear c52
  try clear c53
  try clear hcz14_0
  try clear hcz14_1
  try clear hcz14_2
  try clear hcz14_3
  try clear hcz14_4
  try clear hcz14_5
  try clear hcz14_6
  try clear hcz14_7
  try clear hcz14_8
  try clear hcz16_0
  try clear hcz16_1
  try clear hcz16_2
  try clear hcz16_3
  try clear hcz16_4
  try clear hcz16_5
  try clear hcz16_6
  try clear hcz16_7
  try clear hcz16_8
  try clear hcz22_0
  try clear hcz22_1
  try clear hcz22_2
  try clear hcz22_3
  try clear hcz22_4
  try clear hcz22_5
  try clear hcz22_6
  try clear hcz22_7
  try clear hcz22_8
  try clear hcz24_0
  try clear hcz24_1
  try clear hcz24_2
  try clear hcz24_3
  try clear hcz24_4
  try clear hcz24_5
  try clear hcz24_6
  try clear hcz24_7
  try clear hcz24_8
  try clear hcz29_0
  try clear hcz29_1
  try clear hcz29_2
  try clear hcz29_3
  try clear hcz29_4
  try clear hcz29_5
  try clear hcz29_6
  try clear hcz29_7
  try clear hcz29_8
  try clear hcz36_0
  try clear hcz36_1
  try clear hcz36_2
  try clear hcz36_3
  try clear hcz36_4
  try clear hcz36_5
  try clear hcz36_6
  try clear hcz36_7
  try clear hcz36_8
  try clear hcz43_0
  try clear hcz43_1
  try clear hcz43_2
  try clear hcz43_3
  try clear hcz43_4
  try clear hcz43_5
  try clear hcz43_6
  try clear hcz43_7
  try clear hcz43_8
  try clear hcz46_0
  try clear hcz46_1
  try clear hcz46_2
  try clear hcz46_3
  try clear hcz46_4
  try clear hcz46_5
  try clear hcz46_6
  try clear hcz46_7
  try clear hcz46_8
  try clear hcz51_0
  try clear hcz51_1
  try clear hcz51_2
  try clear hcz51_3
  try clear hcz51_4
  try clear hcz51_5
  try clear hcz51_6
  try clear hcz51_7
  try clear hcz51_8
  try clear hcz54_0
  try clear hcz54_1
  try clear hcz54_2
  try clear hcz54_3
  try clear hcz54_4
  try clear hcz54_5
  try clear hcz54_6
  try clear hcz54_7
  try clear hcz54_8
  try clear hcz6_0
  try clear hcz6_1
  try clear hcz6_2
  try clear hcz6_3
  try clear hcz6_4
  try clear hcz6_5
  try clear hcz6_6
  try clear hcz6_7
  try clear hcz6_8
  try clear hfz14_0
  try clear hfz14_1
  try clear hfz14_2
  try clear hfz14_3
  try clear hfz14_4
  try clear hfz14_5
  try clear hfz14_6
  try clear hfz14_7
  try clear hfz14_8
  try clear hfz16_0
  try clear hfz16_1
  try clear hfz16_2
  try clear hfz16_3
  try clear hfz16_4
  try clear hfz16_5
  try clear hfz16_6
  try clear hfz16_7
  try clear hfz16_8
  try clear hfz22_0
  try clear hfz22_1
  try clear hfz22_2
  try clear hfz22_3
  try clear hfz22_4
  try clear hfz22_5
  try clear hfz22_6
  try clear hfz22_7
  try clear hfz22_8
  try clear hfz24_0
  try clear hfz24_1
  try clear hfz24_2
  try clear hfz24_3
  try clear hfz24_4
  try clear hfz24_5
  try clear hfz24_6
  try clear hfz24_7
  try clear hfz24_8
  try clear hfz29_0
  try clear hfz29_1
  try clear hfz29_2
  try clear hfz29_3
  try clear hfz29_4
  try clear hfz29_5
  try clear hfz29_6
  try clear hfz29_7
  try clear hfz29_8
  try clear hfz36_0
  try clear hfz36_1
  try clear hfz36_2
  try clear hfz36_3
  try clear hfz36_4
  try clear hfz36_5
  try clear hfz36_6
  try clear hfz36_7
  try clear hfz36_8
  try clear hfz43_0
  try clear hfz43_1
  try clear hfz43_2
  try clear hfz43_3
  try clear hfz43_4
  try clear hfz43_5
  try clear hfz43_6
  try clear hfz43_7
  try clear hfz43_8
  try clear hfz46_0
  try clear hfz46_1
  try clear hfz46_2
  try clear hfz46_3
  try clear hfz46_4
  try clear hfz46_5
  try clear hfz46_6
  try clear hfz46_7
  try clear hfz46_8
  try clear hfz51_0
  try clear hfz51_1
  try clear hfz51_2
  try clear hfz51_3
  try clear hfz51_4
  try clear hfz51_5
  try clear hfz51_6
  try clear hfz51_7
  try clear hfz51_8
  try clear hfz54_0
  try clear hfz54_1
  try clear hfz54_2
  try clear hfz54_3
  try clear hfz54_4
  try clear hfz54_5
  try clear hfz54_6
  try clear hfz54_7
  try clear hfz54_8
  try clear hfz6_0
  try clear hfz6_1
  try clear hfz6_2
  try clear hfz6_3
  try clear hfz6_4
  try clear hfz6_5
  try clear hfz6_6
  try clear hfz6_7
  try clear hfz6_8
  obtain ⟨kq, x44_11, rfl, HA, HJ11, HO_298008, HO_310008, HO_323008, BK272, BK297, BK309, BK322, HB⟩ := hcut
  cases kq with
  | zero => exact absurd HA.out (by simp [laws_FnExactNoteEchoed.j0])
  | succ kj11 =>
   have H := HA.out
   clear HA
   simp only [laws_FnExactNoteEchoed.j0] at H
   by_cases c56 : x44_11 = true
   ·subst c56
    have H1 : (some false) = some r := by rw [if_pos rfl] at H; exact H
    clear H
    have H := H1
    clear H1
    obtain rfl := Option.some.inj H
    go_wp2
    go_ret
    exact ⟨by first | rfl | (simp [errW_none, errW_some] <;> rfl) | (simp [*, errW_none, errW_some] <;> rfl), us_ HB.out⟩
   replace c56 := Bool.eq_false_iff.mpr c56
   subst c56
   have H1 : ((laws_toPacket.f kj11 a0_0 a0_1 a0_2 a0_3 a0_4 a0_5 a0_6 a0_7 l0_8).bind fun bt324 => ((laws_eqPacket.f kj11 t298 t299 t300 t301 t302 t303 t304 t305 t306 bt324.1 bt324.2.1 bt324.2.2.1 bt324.2.2.2.1 bt324.2.2.2.2.1 bt324.2.2.2.2.2.1 bt324.2.2.2.2.2.2.1 bt324.2.2.2.2.2.2.2.1 bt324.2.2.2.2.2.2.2.2).bind fun t335 => (if t335 = true then ((laws_markPacket.f kj11 t298 t299 t300 t301 t302 t303 t304 t305 t306 1).bind fun bt336 => (if bt336.1 < 0 then (laws_FnExactNoteEchoed.j1 kj11 a1 t296 true a0_0 a0_1 a0_2 a0_3 a0_4 a0_5 a0_6 a0_7 l0_8 t285 t286 t287 t288 t289 t290 t291 t292 t293 t310 t311 t312 t313 t314 t315 t316 t317 t318) else ((laws_eqPacket.f kj11 t310 t311 t312 t313 t314 t315 t316 t317 t318 t285 t286 t287 t288 t289 t290 t291 t292 t293).bind fun t338 => (if t338 = true then (laws_FnExactNoteEchoed.j1 kj11 a1 t296 (t321 != t296) a0_0 a0_1 a0_2 a0_3 a0_4 a0_5 a0_6 a0_7 l0_8 t285 t286 t287 t288 t289 t290 t291 t292 t293 t310 t311 t312 t313 t314 t315 t316 t317 t318) else (laws_FnExactNoteEchoed.j1 kj11 a1 t296 true a0_0 a0_1 a0_2 a0_3 a0_4 a0_5 a0_6 a0_7 l0_8 t285 t286 t287 t288 t289 t290 t291 t292 t293 t310 t311 t312 t313 t314 t315 t316 t317 t318))))) else (some false)))) = some r := by rw [if_neg (show ¬ (false = true) by decide)] at H; exact H
   clear H
   have H := H1
   clear H1
   replace H := Option.bind_eq_some_iff.mp H
   obtain ⟨⟨t324, t325, t326, t327, t328, t329, t330, t331, t332⟩, A570, H⟩ := H
   replace H : ((laws_eqPacket.f kj11 t298 t299 t300 t301 t302 t303 t304 t305 t306 t324 t325 t326 t327 t328 t329 t330 t331 t332).bind fun t335 => (if t335 = true then ((laws_markPacket.f kj11 t298 t299 t300 t301 t302 t303 t304 t305 t306 1).bind fun bt336 => (if bt336.1 < 0 then (laws_FnExactNoteEchoed.j1 kj11 a1 t296 true a0_0 a0_1 a0_2 a0_3 a0_4 a0_5 a0_6 a0_7 l0_8 t285 t286 t287 t288 t289 t290 t291 t292 t293 t310 t311 t312 t313 t314 t315 t316 t317 t318) else ((laws_eqPacket.f kj11 t310 t311 t312 t313 t314 t315 t316 t317 t318 t285 t286 t287 t288 t289 t290 t291 t292 t293).bind fun t338 => (if t338 = true then (laws_FnExactNoteEchoed.j1 kj11 a1 t296 (t321 != t296) a0_0 a0_1 a0_2 a0_3 a0_4 a0_5 a0_6 a0_7 l0_8 t285 t286 t287 t288 t289 t290 t291 t292 t293 t310 t311 t312 t313 t314 t315 t316 t317 t318) else (laws_FnExactNoteEchoed.j1 kj11 a1 t296 true a0_0 a0_1 a0_2 a0_3 a0_4 a0_5 a0_6 a0_7 l0_8 t285 t286 t287 t288 t289 t290 t291 t292 t293 t310 t311 t312 t313 t314 t315 t316 t317 t318))))) else (some false))) = some r := H
   have A57 := mk_ A570
   clear A570
   replace H := Option.bind_eq_some_iff.mp H
   obtain ⟨t335, A580, H⟩ := H
   replace H : (if t335 = true then ((laws_markPacket.f kj11 t298 t299 t300 t301 t302 t303 t304 t305 t306 1).bind fun bt336 => (if bt336.1 < 0 then (laws_FnExactNoteEchoed.j1 kj11 a1 t296 true a0_0 a0_1 a0_2 a0_3 a0_4 a0_5 a0_6 a0_7 l0_8 t285 t286 t287 t288 t289 t290 t291 t292 t293 t310 t311 t312 t313 t314 t315 t316 t317 t318) else ((laws_eqPacket.f kj11 t310 t311 t312 t313 t314 t315 t316 t317 t318 t285 t286 t287 t288 t289 t290 t291 t292 t293).bind fun t338 => (if t338 = true then (laws_FnExactNoteEchoed.j1 kj11 a1 t296 (t321 != t296) a0_0 a0_1 a0_2 a0_3 a0_4 a0_5 a0_6 a0_7 l0_8 t285 t286 t287 t288 t289 t290 t291 t292 t293 t310 t311 t312 t313 t314 t315 t316 t317 t318) else (laws_FnExactNoteEchoed.j1 kj11 a1 t296 true a0_0 a0_1 a0_2 a0_3 a0_4 a0_5 a0_6 a0_7 l0_8 t285 t286 t287 t288 t289 t290 t291 t292 t293 t310 t311 t312 t313 t314 t315 t316 t317 t318))))) else (some false)) = some r := H
   have A58 := mk_ A580
   clear A580
   by_cases c59 : t335 = true
   rotate_left
   ·replace c59 := Bool.eq_false_iff.mpr c59
    subst c59
    have H1 : (some false) = some r := by rw [if_neg (show ¬ (false = true) by decide)] at H; exact H
    clear H
    have H := H1
    clear H1
    obtain rfl := Option.some.inj H
    try go_wp2
    have n0_ := mk_ (Kd.R_drew HO_298008.out)
    have n1_ := mk_ (Kd.R_drew HO_310008.out)
    have n2_ := mk_ (Kd.R_drew HO_323008.out)
    have n3_ := mk_ (blk_drew BK272.out)
    have n4_ := mk_ (blk_drew BK297.out)
    have n5_ := mk_ (blk_drew BK309.out)
    have n6_ := mk_ (blk_drew BK322.out)
    have n7_ := mk_ (below_drew1 HB.out)
    clear HO_298008
    clear HO_310008
    clear HO_323008
    clear BK272
    clear BK297
    clear BK309
    clear BK322
    clear HB
    have HO_298008 := n0_
    have HO_310008 := n1_
    have HO_323008 := n2_
    have BK272 := n3_
    have BK297 := n4_
    have BK309 := n5_
    have BK322 := n6_
    have HB := n7_
    clear n0_ n1_ n2_ n3_ n4_ n5_ n6_ n7_
    refine start_ (n := 5) (S := fun w' => w'.cell? ⟨gb309, 0, none⟩ = some (.int .i64 t298) ∧ w'.cell? ⟨gb309, 1, none⟩ = some (.int .i64 t299) ∧ w'.cell? ⟨gb309, 2, none⟩ = some (.int .i64 t300) ∧ w'.cell? ⟨gb309, 3, none⟩ = some (.int .i64 t301) ∧ w'.cell? ⟨gb309, 4, none⟩ = some (.int .i64 t302) ∧ w'.cell? ⟨gb309, 5, none⟩ = some (.int .i64 t303) ∧ w'.cell? ⟨gb309, 6, none⟩ = some (.bool t304) ∧ w'.cell? ⟨gb309, 7, none⟩ = some (.bool t305) ∧ w'.cell? ⟨gb309, 8, none⟩ = some (.slice Ao30 t306.length co30) ∧ w'.cell? ⟨gb272, 0, none⟩ = some (.int .i64 a0_0) ∧ w'.cell? ⟨gb272, 1, none⟩ = some (.int .i64 a0_1) ∧ w'.cell? ⟨gb272, 2, none⟩ = some (.int .i64 a0_2) ∧ w'.cell? ⟨gb272, 3, none⟩ = some (.int .i64 a0_3) ∧ w'.cell? ⟨gb272, 4, none⟩ = some (.int .i64 a0_4) ∧ w'.cell? ⟨gb272, 5, none⟩ = some (.int .i64 a0_5) ∧ w'.cell? ⟨gb272, 6, none⟩ = some (.bool a0_6) ∧ w'.cell? ⟨gb272, 7, none⟩ = some (.bool a0_7) ∧ w'.cell? ⟨gb272, 8, none⟩ = some (.slice A0_8 l0_8.length c0_8)) (ds := []) #[false, false, false, false, false] (by kernel_rfl) rfl rfl ⟨(blk_cell BK309.out 0).trans rfl, (blk_cell BK309.out 1).trans rfl, (blk_cell BK309.out 2).trans rfl, (blk_cell BK309.out 3).trans rfl, (blk_cell BK309.out 4).trans rfl, (blk_cell BK309.out 5).trans rfl, (blk_cell BK309.out 6).trans rfl, (blk_cell BK309.out 7).trans rfl, (blk_cell BK309.out 8).trans rfl, (blk_cell BK272.out 0).trans rfl, (blk_cell BK272.out 1).trans rfl, (blk_cell BK272.out 2).trans rfl, (blk_cell BK272.out 3).trans rfl, (blk_cell BK272.out 4).trans rfl, (blk_cell BK272.out 5).trans rfl, (blk_cell BK272.out 6).trans rfl, (blk_cell BK272.out 7).trans rfl, (blk_cell BK272.out 8).trans rfl⟩ (fun hHeld => ?_)
    generalize wc.drew = w176 at HO_298008 HO_310008 HO_323008 BK272 BK297 BK309 BK322 HB hHeld ⊢
    refine take_ (i := 0) (N := some 45) (v := ?_) (a' := ?_) #[true, false, false, false, false] rfl rfl (by kernel_rfl) (fun _ _ _ h => h) (Or.inl ⟨by rfl, ?_⟩) hHeld ?_ ?_
    rotate_left
    ·rintro w' ⟨s0, s1, s2, s3, s4, s5, s6, s7, s8, s9, s10, s11, s12, s13, s14, s15, s16, s17⟩
     go_simp
     with_reducible rfl
    rotate_left
    ·simp only [Act.put, la_, lz_, ls_, i64_w, i32_w]
     rfl
    refine take_ (i := 1) (N := some 46) (v := ?_) (a' := ?_) #[true, true, false, false, false] rfl rfl (by kernel_rfl) (fun _ _ _ h => h) (Or.inl ⟨by rfl, ?_⟩) hHeld ?_ ?_
    rotate_left
    ·rintro w' ⟨s0, s1, s2, s3, s4, s5, s6, s7, s8, s9, s10, s11, s12, s13, s14, s15, s16, s17⟩
     go_simp
     with_reducible rfl
    rotate_left
    ·simp only [Act.put, la_, lz_, ls_, i64_w, i32_w]
     rfl
    refine one_ (i := 2) (N := some 47) #[true, true, true, false, false] rfl rfl (by kernel_rfl) (by decide) (fun K hK => ?_)
    refine goes_ Try.func24 (by kernel_rfl) rfl #[.agg #[.int .i64 a0_0, .int .i64 a0_1, .int .i64 a0_2, .int .i64 a0_3, .int .i64 a0_4, .int .i64 a0_5, .bool a0_6, .bool a0_7, .slice A0_8 l0_8.length c0_8]] (by rfl) rfl rfl (by (try simp only [lm_, lo_, ln_]); first | done | rfl | (simp only [List.length_drop, List.length_take]; rfl)) ?_
    with_reducible refine (laws_toPacket.calls kj11 a0_0 a0_1 a0_2 a0_3 a0_4 a0_5 a0_6 a0_7 _ _ l0_8 t324 t325 t326 t327 t328 t329 t330 t331 t332 _ ?side1 ?side2 A57.out).mono ?_
    (case side1 => repeat (first | exact (Kd.C_below HR0_8.out HB.out) | (with_reducible refine Kd.C_alloc ?_ _) | (with_reducible refine Kd.C_drewN ?_ _) | (with_reducible refine Kd.C_drew ?_)))
    (case side2 => exact HC0_8.out)
    rintro e w177 ⟨v333, rfl, ho0, hb⟩
    refine ⟨_, rfl, ?_⟩
    have n0_ := mk_ (Kd.R_elder' (Kd.ur_ HO_298008.out) (Kd.R_base ho0) hb)
    have n1_ := mk_ (Kd.R_elder' (Kd.ur_ HO_310008.out) (Kd.R_base ho0) hb)
    have n2_ := mk_ (Kd.R_elder' (Kd.ur_ HO_323008.out) (Kd.R_base ho0) hb)
    have n3_ := mk_ (Kd.R_lower (Kd.R_new' (Kd.R_new' (Kd.R_new' ho0 (Kd.R_lt (Kd.ur_ HO_298008.out))) (Kd.R_lt (Kd.ur_ HO_310008.out))) (Kd.R_lt (Kd.ur_ HO_323008.out))) (below_size (us_ HB.out)))
    have n4_ := mk_ (blk_below (u_ BK272.out) hb)
    have n5_ := mk_ (blk_below (u_ BK297.out) hb)
    have n6_ := mk_ (blk_below (u_ BK309.out) hb)
    have n7_ := mk_ (blk_below (u_ BK322.out) hb)
    have n8_ := mk_ (below_step (us_ HB.out) hb)
    clear HO_298008
    clear HO_310008
    clear HO_323008
    clear BK272
    clear BK297
    clear BK309
    clear BK322
    clear HB
    have HO_298008 := n0_
    have HO_310008 := n1_
    have HO_323008 := n2_
    have HO334 := n3_
    have BK272 := n4_
    have BK297 := n5_
    have BK309 := n6_
    have BK322 := n7_
    have HB := n8_
    clear n0_ n1_ n2_ n3_ n4_ n5_ n6_ n7_ n8_
    (try clear hb)
    (try clear hb2)
    (try clear hk)
    (try clear hi)
    (try clear ho0)
    obtain ⟨Ao178, co178, eo178⟩ := Kd.R_slice HO334.out
    (first | subst eo178 | (injection eo178 with f1_ f2_ f3_; have f4_ := f1_.symm; have f5_ := f3_.symm; clear f1_ f2_ f3_; subst f4_; subst f5_))
    refine hK.out _ _ ⟨(blk_cell BK309.out 0).trans rfl, (blk_cell BK309.out 1).trans rfl, (blk_cell BK309.out 2).trans rfl, (blk_cell BK309.out 3).trans rfl, (blk_cell BK309.out 4).trans rfl, (blk_cell BK309.out 5).trans rfl, (blk_cell BK309.out 6).trans rfl, (blk_cell BK309.out 7).trans rfl, (blk_cell BK309.out 8).trans rfl, (blk_cell BK272.out 0).trans rfl, (blk_cell BK272.out 1).trans rfl, (blk_cell BK272.out 2).trans rfl, (blk_cell BK272.out 3).trans rfl, (blk_cell BK272.out 4).trans rfl, (blk_cell BK272.out 5).trans rfl, (blk_cell BK272.out 6).trans rfl, (blk_cell BK272.out 7).trans rfl, (blk_cell BK272.out 8).trans rfl⟩ (fun hHeld => ?_)
    clear hK K
    refine norm_ (a' := ?_) ?_ ?_
    rotate_left
    ·show Act.put _ (some 47) _ = _
     simp only [Act.put, la_, lz_, ls_, i64_w, i32_w]
     rfl
    refine one_ (i := 3) (N := some 48) #[true, true, true, true, false] rfl rfl (by kernel_rfl) (by decide) (fun K hK => ?_)
    refine goes_ Try.func26 (by kernel_rfl) rfl #[.agg #[.int .i64 t298, .int .i64 t299, .int .i64 t300, .int .i64 t301, .int .i64 t302, .int .i64 t303, .bool t304, .bool t305, .slice Ao30 t306.length co30], .agg #[.int .i64 t324, .int .i64 t325, .int .i64 t326, .int .i64 t327, .int .i64 t328, .int .i64 t329, .bool t330, .bool t331, .slice Ao178 t332.length co178]] (by rfl) rfl rfl (by (try simp only [lm_, lo_, ln_]); first | done | rfl | (simp only [List.length_drop, List.length_take]; rfl)) ?_
    with_reducible refine (laws_eqPacket.calls kj11 t298 t299 t300 t301 t302 t303 t304 t305 _ _ t306 t324 t325 t326 t327 t328 t329 t330 t331 _ _ t332 false _ ?side1 ?side2 ?side3 ?side4 A58.out).mono ?_
    (case side1 => repeat (first | exact (Kd.R_reads' HO_310008.out).2.2 | (with_reducible refine Kd.C_alloc ?_ _) | (with_reducible refine Kd.C_drewN ?_ _) | (with_reducible refine Kd.C_drew ?_)))
    (case side2 => exact (Kd.R_reads' HO_310008.out).2.1)
    (case side3 => repeat (first | exact (Kd.R_reads' HO334.out).2.2 | (with_reducible refine Kd.C_alloc ?_ _) | (with_reducible refine Kd.C_drewN ?_ _) | (with_reducible refine Kd.C_drew ?_)))
    (case side4 => exact (Kd.R_reads' HO334.out).2.1)
    rintro e w179 ⟨rfl, hb⟩
    refine ⟨_, rfl, ?_⟩
    have n0_ := mk_ (Kd.R_below (Kd.ur_ HO_298008.out) hb)
    have n1_ := mk_ (Kd.R_below (Kd.ur_ HO_310008.out) hb)
    have n2_ := mk_ (Kd.R_below (Kd.ur_ HO_323008.out) hb)
    have n3_ := mk_ (Kd.R_below (Kd.ur_ HO334.out) hb)
    have n4_ := mk_ (blk_below (u_ BK272.out) hb)
    have n5_ := mk_ (blk_below (u_ BK297.out) hb)
    have n6_ := mk_ (blk_below (u_ BK309.out) hb)
    have n7_ := mk_ (blk_below (u_ BK322.out) hb)
    have n8_ := mk_ (below_step (us_ HB.out) hb)
    clear HO_298008
    clear HO_310008
    clear HO_323008
    clear HO334
    clear BK272
    clear BK297
    clear BK309
    clear BK322
    clear HB
    have HO_298008 := n0_
    have HO_310008 := n1_
    have HO_323008 := n2_
    have HO334 := n3_
    have BK272 := n4_
    have BK297 := n5_
    have BK309 := n6_
    have BK322 := n7_
    have HB := n8_
    clear n0_ n1_ n2_ n3_ n4_ n5_ n6_ n7_ n8_
    (try clear hb)
    (try clear hb2)
    (try clear hk)
    (try clear hi)
    refine hK.out _ _ ⟨(blk_cell BK309.out 0).trans rfl, (blk_cell BK309.out 1).trans rfl, (blk_cell BK309.out 2).trans rfl, (blk_cell BK309.out 3).trans rfl, (blk_cell BK309.out 4).trans rfl, (blk_cell BK309.out 5).trans rfl, (blk_cell BK309.out 6).trans rfl, (blk_cell BK309.out 7).trans rfl, (blk_cell BK309.out 8).trans rfl, (blk_cell BK272.out 0).trans rfl, (blk_cell BK272.out 1).trans rfl, (blk_cell BK272.out 2).trans rfl, (blk_cell BK272.out 3).trans rfl, (blk_cell BK272.out 4).trans rfl, (blk_cell BK272.out 5).trans rfl, (blk_cell BK272.out 6).trans rfl, (blk_cell BK272.out 7).trans rfl, (blk_cell BK272.out 8).trans rfl⟩ (fun hHeld => ?_)
    clear hK K
    refine norm_ (a' := ?_) ?_ ?_
    rotate_left
    ·show Act.put _ (some 48) _ = _
     simp only [Act.put, la_, lz_, ls_, i64_w, i32_w]
     rfl
    refine pure_ (i := 4) (N := some 49) (v := ?_) (a' := ?_) #[true, true, true, true, true] rfl rfl (by kernel_rfl) (fun _ _ _ h => h) (Or.inl ⟨by rfl, ?_⟩) ?_ ?_
    rotate_left
    ·intro w'
     go_simp
     with_reducible rfl
    rotate_left
    ·simp only [Act.put, la_, lz_, ls_, i64_w, i32_w]
     rfl
    refine done_ (by kernel_rfl) ?_
    try go_wp2
    go_ret
    exact ⟨by first | rfl | (simp [errW_none, errW_some] <;> rfl) | (simp [*, errW_none, errW_some] <;> rfl), us_ HB.out⟩
   subst c59
   have H1 : ((laws_markPacket.f kj11 t298 t299 t300 t301 t302 t303 t304 t305 t306 1).bind fun bt336 => (if bt336.1 < 0 then (laws_FnExactNoteEchoed.j1 kj11 a1 t296 true a0_0 a0_1 a0_2 a0_3 a0_4 a0_5 a0_6 a0_7 l0_8 t285 t286 t287 t288 t289 t290 t291 t292 t293 t310 t311 t312 t313 t314 t315 t316 t317 t318) else ((laws_eqPacket.f kj11 t310 t311 t312 t313 t314 t315 t316 t317 t318 t285 t286 t287 t288 t289 t290 t291 t292 t293).bind fun t338 => (if t338 = true then (laws_FnExactNoteEchoed.j1 kj11 a1 t296 (t321 != t296) a0_0 a0_1 a0_2 a0_3 a0_4 a0_5 a0_6 a0_7 l0_8 t285 t286 t287 t288 t289 t290 t291 t292 t293 t310 t311 t312 t313 t314 t315 t316 t317 t318) else (laws_FnExactNoteEchoed.j1 kj11 a1 t296 true a0_0 a0_1 a0_2 a0_3 a0_4 a0_5 a0_6 a0_7 l0_8 t285 t286 t287 t288 t289 t290 t291 t292 t293 t310 t311 t312 t313 t314 t315 t316 t317 t318))))) = some r := by rw [if_pos rfl] at H; exact H
   clear H
   have H := H1
   clear H1
   replace H := Option.bind_eq_some_iff.mp H
   obtain ⟨⟨t336, t337⟩, A600, H⟩ := H
   replace H : (if t336 < 0 then (laws_FnExactNoteEchoed.j1 kj11 a1 t296 true a0_0 a0_1 a0_2 a0_3 a0_4 a0_5 a0_6 a0_7 l0_8 t285 t286 t287 t288 t289 t290 t291 t292 t293 t310 t311 t312 t313 t314 t315 t316 t317 t318) else ((laws_eqPacket.f kj11 t310 t311 t312 t313 t314 t315 t316 t317 t318 t285 t286 t287 t288 t289 t290 t291 t292 t293).bind fun t338 => (if t338 = true then (laws_FnExactNoteEchoed.j1 kj11 a1 t296 (t321 != t296) a0_0 a0_1 a0_2 a0_3 a0_4 a0_5 a0_6 a0_7 l0_8 t285 t286 t287 t288 t289 t290 t291 t292 t293 t310 t311 t312 t313 t314 t315 t316 t317 t318) else (laws_FnExactNoteEchoed.j1 kj11 a1 t296 true a0_0 a0_1 a0_2 a0_3 a0_4 a0_5 a0_6 a0_7 l0_8 t285 t286 t287 t288 t289 t290 t291 t292 t293 t310 t311 t312 t313 t314 t315 t316 t317 t318)))) = some r := H
   have A60 := mk_ A600
   clear A600
   have HC61 := mk_ H
   clear H
   try go_wp2
   have n0_ := mk_ (Kd.R_drew HO_298008.out)
   have n1_ := mk_ (Kd.R_drew HO_310008.out)
   have n2_ := mk_ (Kd.R_drew HO_323008.out)
   have n3_ := mk_ (blk_drew BK272.out)
   have n4_ := mk_ (blk_drew BK297.out)
   have n5_ := mk_ (blk_drew BK309.out)
   have n6_ := mk_ (blk_drew BK322.out)
   have n7_ := mk_ (below_drew1 HB.out)
   clear HO_298008
   clear HO_310008
   clear HO_323008
   clear BK272
   clear BK297
   clear BK309
   clear BK322
   clear HB
   have HO_298008 := n0_
   have HO_310008 := n1_
   have HO_323008 := n2_
   have BK272 := n3_
   have BK297 := n4_
   have BK309 := n5_
   have BK322 := n6_
   have HB := n7_
   clear n0_ n1_ n2_ n3_ n4_ n5_ n6_ n7_
   refine start_ (n := 5) (S := fun w' => w'.cell? ⟨gb309, 0, none⟩ = some (.int .i64 t298) ∧ w'.cell? ⟨gb309, 1, none⟩ = some (.int .i64 t299) ∧ w'.cell? ⟨gb309, 2, none⟩ = some (.int .i64 t300) ∧ w'.cell? ⟨gb309, 3, none⟩ = some (.int .i64 t301) ∧ w'.cell? ⟨gb309, 4, none⟩ = some (.int .i64 t302) ∧ w'.cell? ⟨gb309, 5, none⟩ = some (.int .i64 t303) ∧ w'.cell? ⟨gb309, 6, none⟩ = some (.bool t304) ∧ w'.cell? ⟨gb309, 7, none⟩ = some (.bool t305) ∧ w'.cell? ⟨gb309, 8, none⟩ = some (.slice Ao30 t306.length co30) ∧ w'.cell? ⟨gb272, 0, none⟩ = some (.int .i64 a0_0) ∧ w'.cell? ⟨gb272, 1, none⟩ = some (.int .i64 a0_1) ∧ w'.cell? ⟨gb272, 2, none⟩ = some (.int .i64 a0_2) ∧ w'.cell? ⟨gb272, 3, none⟩ = some (.int .i64 a0_3) ∧ w'.cell? ⟨gb272, 4, none⟩ = some (.int .i64 a0_4) ∧ w'.cell? ⟨gb272, 5, none⟩ = some (.int .i64 a0_5) ∧ w'.cell? ⟨gb272, 6, none⟩ = some (.bool a0_6) ∧ w'.cell? ⟨gb272, 7, none⟩ = some (.bool a0_7) ∧ w'.cell? ⟨gb272, 8, none⟩ = some (.slice A0_8 l0_8.length c0_8)) (ds := []) #[false, false, false, false, false] (by kernel_rfl) rfl rfl ⟨(blk_cell BK309.out 0).trans rfl, (blk_cell BK309.out 1).trans rfl, (blk_cell BK309.out 2).trans rfl, (blk_cell BK309.out 3).trans rfl, (blk_cell BK309.out 4).trans rfl, (blk_cell BK309.out 5).trans rfl, (blk_cell BK309.out 6).trans rfl, (blk_cell BK309.out 7).trans rfl, (blk_cell BK309.out 8).trans rfl, (blk_cell BK272.out 0).trans rfl, (blk_cell BK272.out 1).trans rfl, (blk_cell BK272.out 2).trans rfl, (blk_cell BK272.out 3).trans rfl, (blk_cell BK272.out 4).trans rfl, (blk_cell BK272.out 5).trans rfl, (blk_cell BK272.out 6).trans rfl, (blk_cell BK272.out 7).trans rfl, (blk_cell BK272.out 8).trans rfl⟩ (fun hHeld => ?_)
   generalize wc.drew = w62 at HO_298008 HO_310008 HO_323008 BK272 BK297 BK309 BK322 HB hHeld ⊢
   refine take_ (i := 0) (N := some 45) (v := ?_) (a' := ?_) #[true, false, false, false, false] rfl rfl (by kernel_rfl) (fun _ _ _ h => h) (Or.inl ⟨by rfl, ?_⟩) hHeld ?_ ?_
   rotate_left
   ·rintro w' ⟨s0, s1, s2, s3, s4, s5, s6, s7, s8, s9, s10, s11, s12, s13, s14, s15, s16, s17⟩
    go_simp
    with_reducible rfl
   rotate_left
   ·simp only [Act.put, la_, lz_, ls_, i64_w, i32_w]
    rfl
   refine take_ (i := 1) (N := some 46) (v := ?_) (a' := ?_) #[true, true, false, false, false] rfl rfl (by kernel_rfl) (fun _ _ _ h => h) (Or.inl ⟨by rfl, ?_⟩) hHeld ?_ ?_
   rotate_left
   ·rintro w' ⟨s0, s1, s2, s3, s4, s5, s6, s7, s8, s9, s10, s11, s12, s13, s14, s15, s16, s17⟩
    go_simp
    with_reducible rfl
   rotate_left
   ·simp only [Act.put, la_, lz_, ls_, i64_w, i32_w]
    rfl
   refine one_ (i := 2) (N := some 47) #[true, true, true, false, false] rfl rfl (by kernel_rfl) (by decide) (fun K hK => ?_)
   refine goes_ Try.func24 (by kernel_rfl) rfl #[.agg #[.int .i64 a0_0, .int .i64 a0_1, .int .i64 a0_2, .int .i64 a0_3, .int .i64 a0_4, .int .i64 a0_5, .bool a0_6, .bool a0_7, .slice A0_8 l0_8.length c0_8]] (by rfl) rfl rfl (by (try simp only [lm_, lo_, ln_]); first | done | rfl | (simp only [List.length_drop, List.length_take]; rfl)) ?_
   with_reducible refine (laws_toPacket.calls kj11 a0_0 a0_1 a0_2 a0_3 a0_4 a0_5 a0_6 a0_7 _ _ l0_8 t324 t325 t326 t327 t328 t329 t330 t331 t332 _ ?side1 ?side2 A57.out).mono ?_
   (case side1 => repeat (first | exact (Kd.C_below HR0_8.out HB.out) | (with_reducible refine Kd.C_alloc ?_ _) | (with_reducible refine Kd.C_drewN ?_ _) | (with_reducible refine Kd.C_drew ?_)))
   (case side2 => exact HC0_8.out)
   rintro e w63 ⟨v333, rfl, ho0, hb⟩
   refine ⟨_, rfl, ?_⟩
   have n0_ := mk_ (Kd.R_elder' (Kd.ur_ HO_298008.out) (Kd.R_base ho0) hb)
   have n1_ := mk_ (Kd.R_elder' (Kd.ur_ HO_310008.out) (Kd.R_base ho0) hb)
   have n2_ := mk_ (Kd.R_elder' (Kd.ur_ HO_323008.out) (Kd.R_base ho0) hb)
   have n3_ := mk_ (Kd.R_lower (Kd.R_new' (Kd.R_new' (Kd.R_new' ho0 (Kd.R_lt (Kd.ur_ HO_298008.out))) (Kd.R_lt (Kd.ur_ HO_310008.out))) (Kd.R_lt (Kd.ur_ HO_323008.out))) (below_size (us_ HB.out)))
   have n4_ := mk_ (blk_below (u_ BK272.out) hb)
   have n5_ := mk_ (blk_below (u_ BK297.out) hb)
   have n6_ := mk_ (blk_below (u_ BK309.out) hb)
   have n7_ := mk_ (blk_below (u_ BK322.out) hb)
   have n8_ := mk_ (below_step (us_ HB.out) hb)
   clear HO_298008
   clear HO_310008
   clear HO_323008
   clear BK272
   clear BK297
   clear BK309
   clear BK322
   clear HB
   have HO_298008 := n0_
   have HO_310008 := n1_
   have HO_323008 := n2_
   have HO334 := n3_
   have BK272 := n4_
   have BK297 := n5_
   have BK309 := n6_
   have BK322 := n7_
   have HB := n8_
   clear n0_ n1_ n2_ n3_ n4_ n5_ n6_ n7_ n8_
   (try clear hb)
   (try clear hb2)
   (try clear hk)
   (try clear hi)
   (try clear ho0)
   obtain ⟨Ao64, co64, eo64⟩ := Kd.R_slice HO334.out
   (first | subst eo64 | (injection eo64 with f1_ f2_ f3_; have f4_ := f1_.symm; have f5_ := f3_.symm; clear f1_ f2_ f3_; subst f4_; subst f5_))
   refine hK.out _ _ ⟨(blk_cell BK309.out 0).trans rfl, (blk_cell BK309.out 1).trans rfl, (blk_cell BK309.out 2).trans rfl, (blk_cell BK309.out 3).trans rfl, (blk_cell BK309.out 4).trans rfl, (blk_cell BK309.out 5).trans rfl, (blk_cell BK309.out 6).trans rfl, (blk_cell BK309.out 7).trans rfl, (blk_cell BK309.out 8).trans rfl, (blk_cell BK272.out 0).trans rfl, (blk_cell BK272.out 1).trans rfl, (blk_cell BK272.out 2).trans rfl, (blk_cell BK272.out 3).trans rfl, (blk_cell BK272.out 4).trans rfl, (blk_cell BK272.out 5).trans rfl, (blk_cell BK272.out 6).trans rfl, (blk_cell BK272.out 7).trans rfl, (blk_cell BK272.out 8).trans rfl⟩ (fun hHeld => ?_)
   clear hK K
   refine norm_ (a' := ?_) ?_ ?_
   rotate_left
   ·show Act.put _ (some 47) _ = _
    simp only [Act.put, la_, lz_, ls_, i64_w, i32_w]
    rfl
   refine one_ (i := 3) (N := some 48) #[true, true, true, true, false] rfl rfl (by kernel_rfl) (by decide) (fun K hK => ?_)
   refine goes_ Try.func26 (by kernel_rfl) rfl #[.agg #[.int .i64 t298, .int .i64 t299, .int .i64 t300, .int .i64 t301, .int .i64 t302, .int .i64 t303, .bool t304, .bool t305, .slice Ao30 t306.length co30], .agg #[.int .i64 t324, .int .i64 t325, .int .i64 t326, .int .i64 t327, .int .i64 t328, .int .i64 t329, .bool t330, .bool t331, .slice Ao64 t332.length co64]] (by rfl) rfl rfl (by (try simp only [lm_, lo_, ln_]); first | done | rfl | (simp only [List.length_drop, List.length_take]; rfl)) ?_
   with_reducible refine (laws_eqPacket.calls kj11 t298 t299 t300 t301 t302 t303 t304 t305 _ _ t306 t324 t325 t326 t327 t328 t329 t330 t331 _ _ t332 true _ ?side1 ?side2 ?side3 ?side4 A58.out).mono ?_
   (case side1 => repeat (first | exact (Kd.R_reads' HO_310008.out).2.2 | (with_reducible refine Kd.C_alloc ?_ _) | (with_reducible refine Kd.C_drewN ?_ _) | (with_reducible refine Kd.C_drew ?_)))
   (case side2 => exact (Kd.R_reads' HO_310008.out).2.1)
   (case side3 => repeat (first | exact (Kd.R_reads' HO334.out).2.2 | (with_reducible refine Kd.C_alloc ?_ _) | (with_reducible refine Kd.C_drewN ?_ _) | (with_reducible refine Kd.C_drew ?_)))
   (case side4 => exact (Kd.R_reads' HO334.out).2.1)
   rintro e w65 ⟨rfl, hb⟩
   refine ⟨_, rfl, ?_⟩
   have n0_ := mk_ (Kd.R_below (Kd.ur_ HO_298008.out) hb)
   have n1_ := mk_ (Kd.R_below (Kd.ur_ HO_310008.out) hb)
   have n2_ := mk_ (Kd.R_below (Kd.ur_ HO_323008.out) hb)
   have n3_ := mk_ (Kd.R_below (Kd.ur_ HO334.out) hb)
   have n4_ := mk_ (blk_below (u_ BK272.out) hb)
   have n5_ := mk_ (blk_below (u_ BK297.out) hb)
   have n6_ := mk_ (blk_below (u_ BK309.out) hb)
   have n7_ := mk_ (blk_below (u_ BK322.out) hb)
   have n8_ := mk_ (below_step (us_ HB.out) hb)
   clear HO_298008
   clear HO_310008
   clear HO_323008
   clear HO334
   clear BK272
   clear BK297
   clear BK309
   clear BK322
   clear HB
   have HO_298008 := n0_
   have HO_310008 := n1_
   have HO_323008 := n2_
   have HO334 := n3_
   have BK272 := n4_
   have BK297 := n5_
   have BK309 := n6_
   have BK322 := n7_
   have HB := n8_
   clear n0_ n1_ n2_ n3_ n4_ n5_ n6_ n7_ n8_
   (try clear hb)
   (try clear hb2)
   (try clear hk)
   (try clear hi)
   refine hK.out _ _ ⟨(blk_cell BK309.out 0).trans rfl, (blk_cell BK309.out 1).trans rfl, (blk_cell BK309.out 2).trans rfl, (blk_cell BK309.out 3).trans rfl, (blk_cell BK309.out 4).trans rfl, (blk_cell BK309.out 5).trans rfl, (blk_cell BK309.out 6).trans rfl, (blk_cell BK309.out 7).trans rfl, (blk_cell BK309.out 8).trans rfl, (blk_cell BK272.out 0).trans rfl, (blk_cell BK272.out 1).trans rfl, (blk_cell BK272.out 2).trans rfl, (blk_cell BK272.out 3).trans rfl, (blk_cell BK272.out 4).trans rfl, (blk_cell BK272.out 5).trans rfl, (blk_cell BK272.out 6).trans rfl, (blk_cell BK272.out 7).trans rfl, (blk_cell BK272.out 8).trans rfl⟩ (fun hHeld => ?_)
   clear hK K
   refine norm_ (a' := ?_) ?_ ?_
   rotate_left
   ·show Act.put _ (some 48) _ = _
    simp only [Act.put, la_, lz_, ls_, i64_w, i32_w]
    rfl
   refine pure_ (i := 4) (N := some 49) (v := ?_) (a' := ?_) #[true, true, true, true, true] rfl rfl (by kernel_rfl) (fun _ _ _ h => h) (Or.inl ⟨by rfl, ?_⟩) ?_ ?_
   rotate_left
   ·intro w'
    go_simp
    with_reducible rfl
   rotate_left
   ·simp only [Act.put, la_, lz_, ls_, i64_w, i32_w]
    rfl
   refine done_ (by kernel_rfl) ?_
   have hnb66 := NB309_272.out
   have hnc66 := NB272_309.out
   have hnb67 := NB309_297.out
   have hnc67 := NB297_309.out
   have hnb68 := NB309_322.out
   have hnc68 := NB322_309.out
   obtain ⟨hcz69_0, hcz69_1, hcz69_2, hcz69_3, hcz69_4, hcz69_5, hcz69_6, hcz69_7, hcz69_8, hfz69_0, hfz69_1, hfz69_2, hfz69_3, hfz69_4, hfz69_5, hfz69_6, hfz69_7, hfz69_8⟩ := cells9_ BK309.out
   go_upto_region 14 with (first | ((with_reducible refine gate_callee (f := 27) rfl ?_); refine goesL_ (some 52) rfl rfl Try.func27 (by kernel_rfl) rfl #[.agg #[.int .i64 t298, .int .i64 t299, .int .i64 t300, .int .i64 t301, .int .i64 t302, .int .i64 t303, .bool t304, .bool t305, .slice Ao30 t306.length co30], .int .i64 1] rfl (by (try simp only [lm_, lo_, ln_]); first | done | rfl | (simp only [List.length_drop, List.length_take]; rfl)) ?_; (with_reducible refine (laws_markPacket.calls kj11 t298 t299 t300 t301 t302 t303 t304 t305 (fun k_ => some k_ = (.slice Ao30 t306.length co30 : Value).ownBlock) (.slice Ao30 t306.length co30) t306 1 t336 t337 w _ ?side1 ?side2 A60.out).mono ?_); (case side1 => repeat (first | (with_reducible first | exact HB.out | apply na_ | apply nn_ | apply nw_ | refine bs_ ?_ GE272.out | refine bs_ ?_ GE297.out | refine bs_ ?_ GE309.out | refine bs_ ?_ GE322.out) | exact HB.out)); (case side2 => exact Kd.R_tight rfl HO_310008.out); rintro e w70 ⟨rfl, hy0, hb, hkp⟩; refine ⟨_, rfl, ?_⟩; have n0_ := mk_ (Kd.R_mono (ok' := fun k_ => some k_ ≠ (.slice Ao30 t306.length co30 : Value).ownBlock ∧ some k_ ≠ (.slice Ao37 t318.length co37 : Value).ownBlock ∧ some k_ ≠ (.slice Ao64 t332.length co64 : Value).ownBlock) (Kd.R_keptB (HO_298008.out) hkp (fun k_ hk_ hs_ => by first | exact hk_.1.1 hs_ | exact absurd hs_ (by simp only [hk_, ne_eq, not_false_eq_true]))) (fun k_ hk_ => by first | exact ⟨hk_.1.1.1, hk_.1.1.2, hk_.1.2⟩ | simp only [hk_, ne_eq, not_false_eq_true, and_self])); have n1_ := mk_ (Kd.R_reok rfl hy0 (fun k_ e_ => HO_310008.out.1 k_ e_)); have n2_ := mk_ (Kd.R_mono (ok' := fun k_ => some k_ ≠ (.slice Ao23 t293.length co23 : Value).ownBlock ∧ some k_ ≠ (.slice Ao30 t306.length co30 : Value).ownBlock ∧ some k_ ≠ (.slice Ao64 t332.length co64 : Value).ownBlock) (Kd.R_keptB (HO_323008.out) hkp (fun k_ hk_ hs_ => by first | exact hk_.1.2 hs_ | exact absurd hs_ (by simp only [hk_, ne_eq, not_false_eq_true]))) (fun k_ hk_ => by first | exact ⟨hk_.1.1.1, hk_.1.1.2, hk_.1.2⟩ | simp only [hk_, ne_eq, not_false_eq_true, and_self])); have n3_ := mk_ (blk_kept (u_ BK272.out) hkp (fun hs_ => (fun e_ => (Kd.R_ne HO_310008.out BK272.out (by decide)) e_) hs_)); have n4_ := mk_ (blk_kept (u_ BK297.out) hkp (fun hs_ => (fun e_ => (Kd.R_ne HO_310008.out BK297.out (by decide)) e_) hs_)); have n5_ := mk_ (blk_kept (u_ BK309.out) hkp (fun hs_ => (fun e_ => (Kd.R_ne HO_310008.out BK309.out (by decide)) e_) hs_)); have n6_ := mk_ (blk_kept (u_ BK322.out) hkp (fun hs_ => (fun e_ => (Kd.R_ne HO_310008.out BK322.out (by decide)) e_) hs_)); have n7_ := mk_ (Kd.R_mono (ok' := fun k_ => some k_ ≠ (.slice Ao23 t293.length co23 : Value).ownBlock ∧ some k_ ≠ (.slice Ao30 t306.length co30 : Value).ownBlock ∧ some k_ ≠ (.slice Ao37 t318.length co37 : Value).ownBlock) (Kd.R_keptB (HO334.out) hkp (fun k_ hk_ hs_ => by first | exact hk_.1.2 hs_ | exact absurd hs_ (by simp only [hk_, ne_eq, not_false_eq_true]))) (fun k_ hk_ => by first | exact ⟨hk_.1.1.1.2, hk_.1.1.2, hk_.1.2⟩ | simp only [hk_, ne_eq, not_false_eq_true, and_self])); have n8_ := mk_ (hb); clear HO_298008; clear HO_310008; clear HO_323008; clear BK272; clear BK297; clear BK309; clear BK322; clear HO334; clear HB; have HO_298008 := n0_; have HO_310008 := n1_; have HO_323008 := n2_; have BK272 := n3_; have BK297 := n4_; have BK309 := n5_; have BK322 := n6_; have HO334 := n7_; have HB := n8_; clear n0_ n1_ n2_ n3_ n4_ n5_ n6_ n7_ n8_; (try clear hb); (try clear hkp); (try clear hy0)))
   (try simp only [Act.put, la_, lz_, ls_])
   go_cut [65] (fun v65 wc => ∃ (kq : Nat) (x65_60 : Bool), v65 = .bool x65_60 ∧ Aside0 (laws_FnExactNoteEchoed.j1 kq a1 t296 x65_60 a0_0 a0_1 a0_2 a0_3 a0_4 a0_5 a0_6 a0_7 l0_8 t285 t286 t287 t288 t289 t290 t291 t292 t293 t310 t311 t312 t313 t314 t315 t316 t317 t318 = some r) ∧ Aside0 (kq ≤ kj11) ∧ Aside0 (Kd.R (Kd.int .u8) 5 wc w.heap.size (fun k_ => some k_ ≠ ((.slice Ao30 t306.length co30) : Value).ownBlock ∧ some k_ ≠ ((.slice Ao37 t318.length co37) : Value).ownBlock) (.slice Ao23 t293.length co23) t293) ∧ Aside0 (Kd.R (Kd.int .u8) 5 wc w.heap.size (fun k_ => some k_ ≠ ((.slice Ao23 t293.length co23) : Value).ownBlock ∧ some k_ ≠ ((.slice Ao37 t318.length co37) : Value).ownBlock) (.slice Ao30 t306.length co30) t337) ∧ Aside0 (Kd.R (Kd.int .u8) 5 wc w.heap.size (fun k_ => some k_ ≠ ((.slice Ao23 t293.length co23) : Value).ownBlock ∧ some k_ ≠ ((.slice Ao30 t306.length co30) : Value).ownBlock) (.slice Ao37 t318.length co37) t318) ∧ Aside0 (wc.heap[gb272]? = some (.cells #[.int .i64 a0_0, .int .i64 a0_1, .int .i64 a0_2, .int .i64 a0_3, .int .i64 a0_4, .int .i64 a0_5, .bool a0_6, .bool a0_7, (.slice A0_8 l0_8.length c0_8)] 41 (0, 0))) ∧ Aside0 (wc.heap[gb297]? = some (.cells #[.int .i64 t285, .int .i64 t286, .int .i64 t287, .int .i64 t288, .int .i64 t289, .int .i64 t290, .bool t291, .bool t292, (.slice Ao23 t293.length co23)] 24 (0, 0))) ∧ Aside0 (wc.heap[gb309]? = some (.cells #[.int .i64 t298, .int .i64 t299, .int .i64 t300, .int .i64 t301, .int .i64 t302, .int .i64 t303, .bool t304, .bool t305, (.slice Ao30 t306.length co30)] 24 (0, 0))) ∧ Aside0 (wc.heap[gb322]? = some (.cells #[.int .i64 t310, .int .i64 t311, .int .i64 t312, .int .i64 t313, .int .i64 t314, .int .i64 t315, .bool t316, .bool t317, (.slice Ao37 t318.length co37)] 24 (0, 0))) ∧ Aside0 (Below w.heap.size w wc))
   case first =>
    have H := HC61.out
    clear HC61
    by_cases c71 : t336 < 0
    ·rw [if_pos c71] at H
     have c71b0 : decide (t336 < 0) = true := decide_eq_true c71
     clear c71
     (first | rw [c71b0] | (simp only [i64_w, i32_w]; rw [c71b0]) | skip)
     have H' := mk_ H
     clear H
     go_wp2
     go_meet
     case rel => exact ⟨_, (true), (by first | rfl | (simp; done) | (simp [*]; done)), H', ⟨by have := HJ11.out; first | omega | exact Nat.le_refl _⟩, ⟨by (with_reducible repeat (first | apply Kd.R_alloc | apply Kd.R_drewN | apply Kd.R_drew)); exact Kd.R_mono HO_298008.out (fun _ hk => ⟨hk.1, hk.2.1⟩)⟩, ⟨by (with_reducible repeat (first | apply Kd.R_alloc | apply Kd.R_drewN | apply Kd.R_drew)); exact Kd.R_mono HO_310008.out (fun _ hk => by first | exact ⟨hk.1.1, hk.1.2⟩ | exact hk.1 | exact hk | exact ⟨hk.1, hk.2⟩ | exact ⟨.inr hk.1, hk.2⟩ | simp only [hk, ne_eq, not_false_eq_true, and_self])⟩, ⟨by (with_reducible repeat (first | apply Kd.R_alloc | apply Kd.R_drewN | apply Kd.R_drew)); exact Kd.R_mono HO_323008.out (fun _ hk => ⟨hk.1, hk.2.1⟩)⟩, ⟨u_ BK272.out⟩, ⟨u_ BK297.out⟩, ⟨u_ BK309.out⟩, ⟨u_ BK322.out⟩, ⟨us_ HB.out⟩⟩
    rw [if_neg c71] at H
    have c71b0 : decide (t336 < 0) = false := decide_eq_false c71
    clear c71
    (first | rw [c71b0] | (simp only [i64_w, i32_w]; rw [c71b0]) | skip)
    replace H := Option.bind_eq_some_iff.mp H
    obtain ⟨t338, A720, H⟩ := H
    replace H : (if t338 = true then (laws_FnExactNoteEchoed.j1 kj11 a1 t296 (t321 != t296) a0_0 a0_1 a0_2 a0_3 a0_4 a0_5 a0_6 a0_7 l0_8 t285 t286 t287 t288 t289 t290 t291 t292 t293 t310 t311 t312 t313 t314 t315 t316 t317 t318) else (laws_FnExactNoteEchoed.j1 kj11 a1 t296 true a0_0 a0_1 a0_2 a0_3 a0_4 a0_5 a0_6 a0_7 l0_8 t285 t286 t287 t288 t289 t290 t291 t292 t293 t310 t311 t312 t313 t314 t315 t316 t317 t318)) = some r := H
    have A72 := mk_ A720
    clear A720
    by_cases c73 : t338 = true
    ·subst c73
     have H1 : (laws_FnExactNoteEchoed.j1 kj11 a1 t296 (t321 != t296) a0_0 a0_1 a0_2 a0_3 a0_4 a0_5 a0_6 a0_7 l0_8 t285 t286 t287 t288 t289 t290 t291 t292 t293 t310 t311 t312 t313 t314 t315 t316 t317 t318) = some r := by rw [if_pos rfl] at H; exact H
     clear H
     have H := H1
     clear H1
     have H' := mk_ H
     clear H
     have hnb74 := NB322_272.out
     have hnc74 := NB272_322.out
     have hnb75 := NB322_297.out
     have hnc75 := NB297_322.out
     have hnb76 := NB322_309.out
     have hnc76 := NB309_322.out
     obtain ⟨hcz77_0, hcz77_1, hcz77_2, hcz77_3, hcz77_4, hcz77_5, hcz77_6, hcz77_7, hcz77_8, hfz77_0, hfz77_1, hfz77_2, hfz77_3, hfz77_4, hfz77_5, hfz77_6, hfz77_7, hfz77_8⟩ := cells9_ BK322.out
     have hnb78 := NB297_272.out
     have hnc78 := NB272_297.out
     have hnb79 := NB297_309.out
     have hnc79 := NB309_297.out
     obtain ⟨hcz80_0, hcz80_1, hcz80_2, hcz80_3, hcz80_4, hcz80_5, hcz80_6, hcz80_7, hcz80_8, hfz80_0, hfz80_1, hfz80_2, hfz80_3, hfz80_4, hfz80_5, hfz80_6, hfz80_7, hfz80_8⟩ := cells9_ BK297.out
     go_wp2_with (first | (go_at_call 26; (with_reducible refine (laws_eqPacket.calls kj11 t310 t311 t312 t313 t314 t315 t316 t317 _ _ t318 t285 t286 t287 t288 t289 t290 t291 t292 _ _ t293 true _ ?side1 ?side2 ?side3 ?side4 A72.out).mono ?_); (case side1 => repeat (first | exact (Kd.R_reads' HO_323008.out).2.2 | (with_reducible refine Kd.C_alloc ?_ _) | (with_reducible refine Kd.C_drewN ?_ _) | (with_reducible refine Kd.C_drew ?_))); (case side2 => exact (Kd.R_reads' HO_323008.out).2.1); (case side3 => repeat (first | exact (Kd.R_reads' HO_298008.out).2.2 | (with_reducible refine Kd.C_alloc ?_ _) | (with_reducible refine Kd.C_drewN ?_ _) | (with_reducible refine Kd.C_drew ?_))); (case side4 => exact (Kd.R_reads' HO_298008.out).2.1); rintro e w81 ⟨rfl, hb⟩; have n0_ := mk_ (Kd.R_below (Kd.ur_ HO_298008.out) hb); have n1_ := mk_ (Kd.R_below (Kd.ur_ HO_310008.out) hb); have n2_ := mk_ (Kd.R_below (Kd.ur_ HO_323008.out) hb); have n3_ := mk_ (Kd.R_below (Kd.ur_ HO334.out) hb); have n4_ := mk_ (blk_below (u_ BK272.out) hb); have n5_ := mk_ (blk_below (u_ BK297.out) hb); have n6_ := mk_ (blk_below (u_ BK309.out) hb); have n7_ := mk_ (blk_below (u_ BK322.out) hb); have n8_ := mk_ (below_step (us_ HB.out) hb); clear HO_298008; clear HO_310008; clear HO_323008; clear HO334; clear BK272; clear BK297; clear BK309; clear BK322; clear HB; have HO_298008 := n0_; have HO_310008 := n1_; have HO_323008 := n2_; have HO334 := n3_; have BK272 := n4_; have BK297 := n5_; have BK309 := n6_; have BK322 := n7_; have HB := n8_; clear n0_ n1_ n2_ n3_ n4_ n5_ n6_ n7_ n8_; (try clear hb); (try clear hb2); (try clear hk); (try clear hi)))
     go_meet
     case rel => exact ⟨_, ((t321 != t296)), (by first | rfl | (simp; done) | (simp [*]; done)), H', ⟨by have := HJ11.out; first | omega | exact Nat.le_refl _⟩, ⟨by (with_reducible repeat (first | apply Kd.R_alloc | apply Kd.R_drewN | apply Kd.R_drew)); exact Kd.R_mono HO_298008.out (fun _ hk => ⟨hk.1, hk.2.1⟩)⟩, ⟨by (with_reducible repeat (first | apply Kd.R_alloc | apply Kd.R_drewN | apply Kd.R_drew)); exact Kd.R_mono HO_310008.out (fun _ hk => by first | exact ⟨hk.1.1, hk.1.2⟩ | exact hk.1 | exact hk | exact ⟨hk.1, hk.2⟩ | exact ⟨.inr hk.1, hk.2⟩ | simp only [hk, ne_eq, not_false_eq_true, and_self])⟩, ⟨by (with_reducible repeat (first | apply Kd.R_alloc | apply Kd.R_drewN | apply Kd.R_drew)); exact Kd.R_mono HO_323008.out (fun _ hk => ⟨hk.1, hk.2.1⟩)⟩, ⟨u_ BK272.out⟩, ⟨u_ BK297.out⟩, ⟨u_ BK309.out⟩, ⟨u_ BK322.out⟩, ⟨us_ HB.out⟩⟩
    replace c73 := Bool.eq_false_iff.mpr c73
    subst c73
    have H1 : (laws_FnExactNoteEchoed.j1 kj11 a1 t296 true a0_0 a0_1 a0_2 a0_3 a0_4 a0_5 a0_6 a0_7 l0_8 t285 t286 t287 t288 t289 t290 t291 t292 t293 t310 t311 t312 t313 t314 t315 t316 t317 t318) = some r := by rw [if_neg (show ¬ (false = true) by decide)] at H; exact H
    clear H
    have H := H1
    clear H1
    have H' := mk_ H
    clear H
    have hnb82 := NB322_272.out
    have hnc82 := NB272_322.out
    have hnb83 := NB322_297.out
    have hnc83 := NB297_322.out
    have hnb84 := NB322_309.out
    have hnc84 := NB309_322.out
    obtain ⟨hcz85_0, hcz85_1, hcz85_2, hcz85_3, hcz85_4, hcz85_5, hcz85_6, hcz85_7, hcz85_8, hfz85_0, hfz85_1, hfz85_2, hfz85_3, hfz85_4, hfz85_5, hfz85_6, hfz85_7, hfz85_8⟩ := cells9_ BK322.out
    have hnb86 := NB297_272.out
    have hnc86 := NB272_297.out
    have hnb87 := NB297_309.out
    have hnc87 := NB309_297.out
    obtain ⟨hcz88_0, hcz88_1, hcz88_2, hcz88_3, hcz88_4, hcz88_5, hcz88_6, hcz88_7, hcz88_8, hfz88_0, hfz88_1, hfz88_2, hfz88_3, hfz88_4, hfz88_5, hfz88_6, hfz88_7, hfz88_8⟩ := cells9_ BK297.out
    go_wp2_with (first | (go_at_call 26; (with_reducible refine (laws_eqPacket.calls kj11 t310 t311 t312 t313 t314 t315 t316 t317 _ _ t318 t285 t286 t287 t288 t289 t290 t291 t292 _ _ t293 false _ ?side1 ?side2 ?side3 ?side4 A72.out).mono ?_); (case side1 => repeat (first | exact (Kd.R_reads' HO_323008.out).2.2 | (with_reducible refine Kd.C_alloc ?_ _) | (with_reducible refine Kd.C_drewN ?_ _) | (with_reducible refine Kd.C_drew ?_))); (case side2 => exact (Kd.R_reads' HO_323008.out).2.1); (case side3 => repeat (first | exact (Kd.R_reads' HO_298008.out).2.2 | (with_reducible refine Kd.C_alloc ?_ _) | (with_reducible refine Kd.C_drewN ?_ _) | (with_reducible refine Kd.C_drew ?_))); (case side4 => exact (Kd.R_reads' HO_298008.out).2.1); rintro e w89 ⟨rfl, hb⟩; have n0_ := mk_ (Kd.R_below (Kd.ur_ HO_298008.out) hb); have n1_ := mk_ (Kd.R_below (Kd.ur_ HO_310008.out) hb); have n2_ := mk_ (Kd.R_below (Kd.ur_ HO_323008.out) hb); have n3_ := mk_ (Kd.R_below (Kd.ur_ HO334.out) hb); have n4_ := mk_ (blk_below (u_ BK272.out) hb); have n5_ := mk_ (blk_below (u_ BK297.out) hb); have n6_ := mk_ (blk_below (u_ BK309.out) hb); have n7_ := mk_ (blk_below (u_ BK322.out) hb); have n8_ := mk_ (below_step (us_ HB.out) hb); clear HO_298008; clear HO_310008; clear HO_323008; clear HO334; clear BK272; clear BK297; clear BK309; clear BK322; clear HB; have HO_298008 := n0_; have HO_310008 := n1_; have HO_323008 := n2_; have HO334 := n3_; have BK272 := n4_; have BK297 := n5_; have BK309 := n6_; have BK322 := n7_; have HB := n8_; clear n0_ n1_ n2_ n3_ n4_ n5_ n6_ n7_ n8_; (try clear hb); (try clear hb2); (try clear hk); (try clear hi)))
    go_meet
    case rel => exact ⟨_, (true), (by first | rfl | (simp; done) | (simp [*]; done)), H', ⟨by have := HJ11.out; first | omega | exact Nat.le_refl _⟩, ⟨by (with_reducible repeat (first | apply Kd.R_alloc | apply Kd.R_drewN | apply Kd.R_drew)); exact Kd.R_mono HO_298008.out (fun _ hk => ⟨hk.1, hk.2.1⟩)⟩, ⟨by (with_reducible repeat (first | apply Kd.R_alloc | apply Kd.R_drewN | apply Kd.R_drew)); exact Kd.R_mono HO_310008.out (fun _ hk => by first | exact ⟨hk.1.1, hk.1.2⟩ | exact hk.1 | exact hk | exact ⟨hk.1, hk.2⟩ | exact ⟨.inr hk.1, hk.2⟩ | simp only [hk, ne_eq, not_false_eq_true, and_self])⟩, ⟨by (with_reducible repeat (first | apply Kd.R_alloc | apply Kd.R_drewN | apply Kd.R_drew)); exact Kd.R_mono HO_323008.out (fun _ hk => ⟨hk.1, hk.2.1⟩)⟩, ⟨u_ BK272.out⟩, ⟨u_ BK297.out⟩, ⟨u_ BK309.out⟩, ⟨u_ BK322.out⟩, ⟨us_ HB.out⟩⟩
   case rest =>
    clear HC61
    try clear c2
    try clear p2
    try clear c3
    try clear c4
    try clear c4b0
    try clear c5
    try clear c6
    try clear c7
    try clear c8
    try clear c21
    try clear c22
    try clear c23
    try clear c24
    try clear c25
    try clear c26
    try clear c27
    try clear c28
    try clear c33
    try clear c34
    try clear c35
    try clear c39
    try clear c40
    try clear c41
    try clear c42
    try clear c44
    try clear c45
    try clear c48
    try clear c49
    try clear c50
    try clear c52
    try clear c53
    try clear c56
    try clear c59
    try clear c66
    try clear c67
    try clear c68
    try clear c71
    try clear c71b0
    try clear c73
    try clear c74
    try clear c75
    try clear c76
    try clear c78
    try clear c79
    try clear c82
    try clear c83
    try clear c84
    try clear c86
    try clear c87
    try clear hcz14_0
    try clear hcz14_1
    try clear hcz14_2
    try clear hcz14_3
    try clear hcz14_4
    try clear hcz14_5
    try clear hcz14_6
    try clear hcz14_7
    try clear hcz14_8
    try clear hcz16_0
    try clear hcz16_1
    try clear hcz16_2
    try clear hcz16_3
    try clear hcz16_4
    try clear hcz16_5
    try clear hcz16_6
    try clear hcz16_7
    try clear hcz16_8
    try clear hcz22_0
    try clear hcz22_1
    try clear hcz22_2
    try clear hcz22_3
    try clear hcz22_4
    try clear hcz22_5
    try clear hcz22_6
    try clear hcz22_7
    try clear hcz22_8
    try clear hcz24_0
    try clear hcz24_1
    try clear hcz24_2
    try clear hcz24_3
    try clear hcz24_4
    try clear hcz24_5
    try clear hcz24_6
    try clear hcz24_7
    try clear hcz24_8
    try clear hcz29_0
    try clear hcz29_1
    try clear hcz29_2
    try clear hcz29_3
    try clear hcz29_4
    try clear hcz29_5
    try clear hcz29_6
    try clear hcz29_7
    try clear hcz29_8
    try clear hcz36_0
    try clear hcz36_1
    try clear hcz36_2
    try clear hcz36_3
    try clear hcz36_4
    try clear hcz36_5
    try clear hcz36_6
    try clear hcz36_7
    try clear hcz36_8
    try clear hcz43_0
    try clear hcz43_1
    try clear hcz43_2
    try clear hcz43_3
    try clear hcz43_4
    try clear hcz43_5
    try clear hcz43_6
    try clear hcz43_7
    try clear hcz43_8
    try clear hcz46_0
    try clear hcz46_1
    try clear hcz46_2
    try clear hcz46_3
    try clear hcz46_4
    try clear hcz46_5
    try clear hcz46_6
    try clear hcz46_7
    try clear hcz46_8
    try clear hcz51_0
    try clear hcz51_1
    try clear hcz51_2
    try clear hcz51_3
    try clear hcz51_4
    try clear hcz51_5
    try clear hcz51_6
    try clear hcz51_7
    try clear hcz51_8
    try clear hcz54_0
    try clear hcz54_1
    try clear hcz54_2
    try clear hcz54_3
    try clear hcz54_4
    try clear hcz54_5
    try clear hcz54_6
    try clear hcz54_7
    try clear hcz54_8
    try clear hcz69_0
    try clear hcz69_1
    try clear hcz69_2
    try clear hcz69_3
    try clear hcz69_4
    try clear hcz69_5
    try clear hcz69_6
    try clear hcz69_7
    try clear hcz69_8
    try clear hcz6_0
    try clear hcz6_1
    try clear hcz6_2
    try clear hcz6_3
    try clear hcz6_4
    try clear hcz6_5
    try clear hcz6_6
    try clear hcz6_7
    try clear hcz6_8
    try clear hcz77_0
    try clear hcz77_1
    try clear hcz77_2
    try clear hcz77_3
    try clear hcz77_4
    try clear hcz77_5
    try clear hcz77_6
    try clear hcz77_7
    try clear hcz77_8
    try clear hcz80_0
    try clear hcz80_1
    try clear hcz80_2
    try clear hcz80_3
    try clear hcz80_4
    try clear hcz80_5
    try clear hcz80_6
    try clear hcz80_7
    try clear hcz80_8
    try clear hcz85_0
    try clear hcz85_1
    try clear hcz85_2
    try clear hcz85_3
    try clear hcz85_4
    try clear hcz85_5
    try clear hcz85_6
    try clear hcz85_7
    try clear hcz85_8
    try clear hcz88_0
    try clear hcz88_1
    try clear hcz88_2
    try clear hcz88_3
    try clear hcz88_4
    try clear hcz88_5
    try clear hcz88_6
    try clear hcz88_7
    try clear hcz88_8
    try clear hfz14_0
    try clear hfz14_1
    try clear hfz14_2
    try clear hfz14_3
    try clear hfz14_4
    try clear hfz14_5
    try clear hfz14_6
    try clear hfz14_7
    try clear hfz14_8
    try clear hfz16_0
    try clear hfz16_1
    try clear hfz16_2
    try clear hfz16_3
    try clear hfz16_4
    try clear hfz16_5
    try clear hfz16_6
    try clear hfz16_7
    try clear hfz16_8
    try clear hfz22_0
    try clear hfz22_1
    try clear hfz22_2
    try clear hfz22_3
    try clear hfz22_4
    try clear hfz22_5
    try clear hfz22_6
    try clear hfz22_7
    try clear hfz22_8
    try clear hfz24_0
    try clear hfz24_1
    try clear hfz24_2
    try clear hfz24_3
    try clear hfz24_4
    try clear hfz24_5
    try clear hfz24_6
    try clear hfz24_7
    try clear hfz24_8
    try clear hfz29_0
    try clear hfz29_1
    try clear hfz29_2
    try clear hfz29_3
    try clear hfz29_4
    try clear hfz29_5
    try clear hfz29_6
    try clear hfz29_7
    try clear hfz29_8
    try clear hfz36_0
    try clear hfz36_1
    try clear hfz36_2
    try clear hfz36_3
    try clear hfz36_4
    try clear hfz36_5
    try clear hfz36_6
    try clear hfz36_7
    try clear hfz36_8
    try clear hfz43_0
    try clear hfz43_1
    try clear hfz43_2
    try clear hfz43_3
    try clear hfz43_4
    try clear hfz43_5
    try clear hfz43_6
    try clear hfz43_7
    try clear hfz43_8
    try clear hfz46_0
    try clear hfz46_1
    try clear hfz46_2
    try clear hfz46_3
    try clear hfz46_4
    try clear hfz46_5
    try clear hfz46_6
    try clear hfz46_7
    try clear hfz46_8
    try clear hfz51_0
    try clear hfz51_1
    try clear hfz51_2
    try clear hfz51_3
    try clear hfz51_4
    try clear hfz51_5
    try clear hfz51_6
    try clear hfz51_7
    try clear hfz51_8
    try clear hfz54_0
    try clear hfz54_1
    try clear hfz54_2
    try clear hfz54_3
    try clear hfz54_4
    try clear hfz54_5
    try clear hfz54_6
    try clear hfz54_7
    try clear hfz54_8
    try clear hfz69_0
    try clear hfz69_1
    try clear hfz69_2
    try clear hfz69_3
    try clear hfz69_4
    try clear hfz69_5
    try clear hfz69_6
    try clear hfz69_7
    try clear hfz69_8
    try clear hfz6_0
    try clear hfz6_1
    try clear hfz6_2
    try clear hfz6_3
    try clear hfz6_4
    try clear hfz6_5
    try clear hfz6_6
    try clear hfz6_7
    try clear hfz6_8
    try clear hfz77_0
    try clear hfz77_1
    try clear hfz77_2
    try clear hfz77_3
    try clear hfz77_4
    try clear hfz77_5
    try clear hfz77_6
    try clear hfz77_7
    try clear hfz77_8
    try clear hfz80_0
    try clear hfz80_1
    try clear hfz80_2
    try clear hfz80_3
    try clear hfz80_4
    try clear hfz80_5
    try clear hfz80_6
    try clear hfz80_7
    try clear hfz80_8
    try clear hfz85_0
    try clear hfz85_1
    try clear hfz85_2
    try clear hfz85_3
    try clear hfz85_4
    try clear hfz85_5
    try clear hfz85_6
    try clear hfz85_7
    try clear hfz85_8
    try clear hfz88_0
    try clear hfz88_1
    try clear hfz88_2
    try clear hfz88_3
    try clear hfz88_4
    try clear hfz88_5
    try clear hfz88_6
    try clear hfz88_7
    try clear hfz88_8
    try clear p2
    obtain ⟨kq, x65_60, rfl, HA, HJ60, HO_298008, HO_310008, HO_323008, BK272, BK297, BK309, BK322, HB⟩ := hcut
    have hl310008_60 := (Kd.R_reads' HO_310008.out).1
    rw [hl310008_60] at HO_310008
    (try simp only [hl310008_60])
    (try simp only [hl310008_60] at BK272)
    (try simp only [hl310008_60] at BK297)
    (try simp only [hl310008_60] at BK309)
    (try simp only [hl310008_60] at BK322)
    (try simp only [hl310008_60] at HO_298008)
    (try simp only [hl310008_60] at HO_323008)
    cases kq with
    | zero => exact absurd HA.out (by simp [laws_FnExactNoteEchoed.j1])
    | succ kj60 =>
     have H := HA.out
     clear HA
     simp only [laws_FnExactNoteEchoed.j1] at H
     by_cases c90 : x65_60 = true
     ·subst c90
      have H1 : (some false) = some r := by rw [if_pos rfl] at H; exact H
      clear H
      have H := H1
      clear H1
      obtain rfl := Option.some.inj H
      go_wp2
      go_ret
      exact ⟨by first | rfl | (simp [errW_none, errW_some] <;> rfl) | (simp [*, errW_none, errW_some] <;> rfl), us_ HB.out⟩
     replace c90 := Bool.eq_false_iff.mpr c90
     subst c90
     have H1 : ((laws_markPacket.f kj60 t310 t311 t312 t313 t314 t315 t316 t317 t318 1).bind fun bt339 => ((laws_heldPacket.f kj60 t310 t311 t312 t313 t314 t315 t316 t317 bt339.2 1).bind fun t341 => (if t341 < 0 then (some false) else (if t341 = bt339.1 then ((laws_toPacket.f kj60 a0_0 a0_1 a0_2 a0_3 a0_4 a0_5 a0_6 a0_7 l0_8).bind fun bt342 => ((impl_NoteEchoed.f kj60 bt342.1 bt342.2.1 bt342.2.2.1 bt342.2.2.2.1 bt342.2.2.2.2.1 bt342.2.2.2.2.2.1 bt342.2.2.2.2.2.2.1 bt342.2.2.2.2.2.2.2.1 bt342.2.2.2.2.2.2.2.2 a1).bind fun bt353 => ((laws_eqPacket.f kj60 bt353.1 bt353.2.1 bt353.2.2.1 bt353.2.2.2.1 bt353.2.2.2.2.1 bt353.2.2.2.2.2.1 bt353.2.2.2.2.2.2.1 bt353.2.2.2.2.2.2.2.1 bt353.2.2.2.2.2.2.2.2.1 t285 t286 t287 t288 t289 t290 t291 t292 t293).bind fun t366 => (if t366 = true then (laws_FnExactNoteEchoed.j2 kj60 bt339.1 (bt353.2.2.2.2.2.2.2.2.2 != t296) t310 t311 t312 t313 t314 t315 t316 t317 bt339.2) else (laws_FnExactNoteEchoed.j2 kj60 bt339.1 true t310 t311 t312 t313 t314 t315 t316 t317 bt339.2))))) else (some false))))) = some r := by rw [if_neg (show ¬ (false = true) by decide)] at H; exact H
     clear H
     have H := H1
     clear H1
     replace H := Option.bind_eq_some_iff.mp H
     obtain ⟨⟨t339, t340⟩, A910, H⟩ := H
     replace H : ((laws_heldPacket.f kj60 t310 t311 t312 t313 t314 t315 t316 t317 t340 1).bind fun t341 => (if t341 < 0 then (some false) else (if t341 = t339 then ((laws_toPacket.f kj60 a0_0 a0_1 a0_2 a0_3 a0_4 a0_5 a0_6 a0_7 l0_8).bind fun bt342 => ((impl_NoteEchoed.f kj60 bt342.1 bt342.2.1 bt342.2.2.1 bt342.2.2.2.1 bt342.2.2.2.2.1 bt342.2.2.2.2.2.1 bt342.2.2.2.2.2.2.1 bt342.2.2.2.2.2.2.2.1 bt342.2.2.2.2.2.2.2.2 a1).bind fun bt353 => ((laws_eqPacket.f kj60 bt353.1 bt353.2.1 bt353.2.2.1 bt353.2.2.2.1 bt353.2.2.2.2.1 bt353.2.2.2.2.2.1 bt353.2.2.2.2.2.2.1 bt353.2.2.2.2.2.2.2.1 bt353.2.2.2.2.2.2.2.2.1 t285 t286 t287 t288 t289 t290 t291 t292 t293).bind fun t366 => (if t366 = true then (laws_FnExactNoteEchoed.j2 kj60 t339 (bt353.2.2.2.2.2.2.2.2.2 != t296) t310 t311 t312 t313 t314 t315 t316 t317 t340) else (laws_FnExactNoteEchoed.j2 kj60 t339 true t310 t311 t312 t313 t314 t315 t316 t317 t340))))) else (some false)))) = some r := H
     have A91 := mk_ A910
     clear A910
     replace H := Option.bind_eq_some_iff.mp H
     obtain ⟨t341, A920, H⟩ := H
     replace H : (if t341 < 0 then (some false) else (if t341 = t339 then ((laws_toPacket.f kj60 a0_0 a0_1 a0_2 a0_3 a0_4 a0_5 a0_6 a0_7 l0_8).bind fun bt342 => ((impl_NoteEchoed.f kj60 bt342.1 bt342.2.1 bt342.2.2.1 bt342.2.2.2.1 bt342.2.2.2.2.1 bt342.2.2.2.2.2.1 bt342.2.2.2.2.2.2.1 bt342.2.2.2.2.2.2.2.1 bt342.2.2.2.2.2.2.2.2 a1).bind fun bt353 => ((laws_eqPacket.f kj60 bt353.1 bt353.2.1 bt353.2.2.1 bt353.2.2.2.1 bt353.2.2.2.2.1 bt353.2.2.2.2.2.1 bt353.2.2.2.2.2.2.1 bt353.2.2.2.2.2.2.2.1 bt353.2.2.2.2.2.2.2.2.1 t285 t286 t287 t288 t289 t290 t291 t292 t293).bind fun t366 => (if t366 = true then (laws_FnExactNoteEchoed.j2 kj60 t339 (bt353.2.2.2.2.2.2.2.2.2 != t296) t310 t311 t312 t313 t314 t315 t316 t317 t340) else (laws_FnExactNoteEchoed.j2 kj60 t339 true t310 t311 t312 t313 t314 t315 t316 t317 t340))))) else (some false))) = some r := H
     have A92 := mk_ A920
     clear A920
     by_cases c93 : t341 < 0
     ·rw [if_pos c93] at H
      have c93b0 : decide (t341 < 0) = true := decide_eq_true c93
      clear c93
      obtain rfl := Option.some.inj H
      have hnb94 := NB322_272.out
      have hnc94 := NB272_322.out
      have hnb95 := NB322_297.out
      have hnc95 := NB297_322.out
      have hnb96 := NB322_309.out
      have hnc96 := NB309_322.out
      obtain ⟨hcz97_0, hcz97_1, hcz97_2, hcz97_3, hcz97_4, hcz97_5, hcz97_6, hcz97_7, hcz97_8, hfz97_0, hfz97_1, hfz97_2, hfz97_3, hfz97_4, hfz97_5, hfz97_6, hfz97_7, hfz97_8⟩ := cells9_ BK322.out
      go_wp2_with (first | ((with_reducible refine gate_callee (f := 27) rfl ?_); refine goesL_ (some 68) rfl rfl Try.func27 (by kernel_rfl) rfl #[.agg #[.int .i64 t310, .int .i64 t311, .int .i64 t312, .int .i64 t313, .int .i64 t314, .int .i64 t315, .bool t316, .bool t317, .slice Ao37 t318.length co37], .int .i64 1] rfl (by (try simp only [lm_, lo_, ln_]); first | done | rfl | (simp only [List.length_drop, List.length_take]; rfl)) ?_; (with_reducible refine (laws_markPacket.calls kj60 t310 t311 t312 t313 t314 t315 t316 t317 (fun k_ => some k_ = (.slice Ao37 t318.length co37 : Value).ownBlock) (.slice Ao37 t318.length co37) t318 1 t339 t340 w _ ?side1 ?side2 A91.out).mono ?_); (case side1 => repeat (first | (with_reducible first | exact HB.out | apply na_ | apply nn_ | apply nw_ | refine bs_ ?_ GE272.out | refine bs_ ?_ GE297.out | refine bs_ ?_ GE309.out | refine bs_ ?_ GE322.out) | exact HB.out)); (case side2 => exact Kd.R_tight rfl HO_323008.out); rintro e w98 ⟨rfl, hy0, hb, hkp⟩; refine ⟨_, rfl, ?_⟩; have n0_ := mk_ (Kd.R_mono (ok' := fun k_ => some k_ ≠ (.slice Ao30 t337.length co30 : Value).ownBlock ∧ some k_ ≠ (.slice Ao37 t318.length co37 : Value).ownBlock) (Kd.R_keptB (HO_298008.out) hkp (fun k_ hk_ hs_ => (hk_.2) hs_)) (fun k_ hk_ => by first | exact ⟨hk_.1.1, hk_.1.2⟩ | simp only [hk_, ne_eq, not_false_eq_true, and_self])); have n1_ := mk_ (Kd.R_mono (ok' := fun k_ => some k_ ≠ (.slice Ao23 t293.length co23 : Value).ownBlock ∧ some k_ ≠ (.slice Ao37 t318.length co37 : Value).ownBlock) (Kd.R_keptB (HO_310008.out) hkp (fun k_ hk_ hs_ => (hk_.2) hs_)) (fun k_ hk_ => by first | exact ⟨hk_.1.1, hk_.1.2⟩ | simp only [hk_, ne_eq, not_false_eq_true, and_self])); have n2_ := mk_ (Kd.R_reok rfl hy0 (fun k_ e_ => HO_323008.out.1 k_ e_)); have n3_ := mk_ (blk_kept (u_ BK272.out) hkp (fun hs_ => (fun e_ => (Kd.R_ne HO_323008.out BK272.out (by decide)) e_) hs_)); have n4_ := mk_ (blk_kept (u_ BK297.out) hkp (fun hs_ => (fun e_ => (Kd.R_ne HO_323008.out BK297.out (by decide)) e_) hs_)); have n5_ := mk_ (blk_kept (u_ BK309.out) hkp (fun hs_ => (fun e_ => (Kd.R_ne HO_323008.out BK309.out (by decide)) e_) hs_)); have n6_ := mk_ (blk_kept (u_ BK322.out) hkp (fun hs_ => (fun e_ => (Kd.R_ne HO_323008.out BK322.out (by decide)) e_) hs_)); have n7_ := mk_ (hb); clear HO_298008; clear HO_310008; clear HO_323008; clear BK272; clear BK297; clear BK309; clear BK322; clear HB; have HO_298008 := n0_; have HO_310008 := n1_; have HO_323008 := n2_; have BK272 := n3_; have BK297 := n4_; have BK309 := n5_; have BK322 := n6_; have HB := n7_; clear n0_ n1_ n2_ n3_ n4_ n5_ n6_ n7_; (try clear hb); (try clear hkp); (try clear hy0); obtain ⟨hcz99_0, hcz99_1, hcz99_2, hcz99_3, hcz99_4, hcz99_5, hcz99_6, hcz99_7, hcz99_8, hfz99_0, hfz99_1, hfz99_2, hfz99_3, hfz99_4, hfz99_5, hfz99_6, hfz99_7, hfz99_8⟩ := cells9_ BK322.out) | ((with_reducible refine gate_callee (f := 28) rfl ?_); refine goesL_ (some 71) rfl rfl Try.func28 (by kernel_rfl) rfl #[.agg #[.int .i64 t310, .int .i64 t311, .int .i64 t312, .int .i64 t313, .int .i64 t314, .int .i64 t315, .bool t316, .bool t317, .slice Ao37 t340.length co37], .int .i64 1] rfl (by (try simp only [List.map_toArray, List.map_cons, List.map_nil]); first | done | (rw [show t340.length = t318.length from (Kd.R_reads' HO_323008.out).1.symm] <;> rfl) | rfl | (simp only [List.length_drop, List.length_take]; rfl)) ?_; (with_reducible refine (laws_heldPacket.calls kj60 t310 t311 t312 t313 t314 t315 t316 t317 _ _ t340 1 t341 _ ?side1 ?side2 A92.out).mono ?_); (case side1 => repeat (first | exact (Kd.R_reads' HO_323008.out).2.2 | (with_reducible refine Kd.C_alloc ?_ _) | (with_reducible refine Kd.C_drewN ?_ _) | (with_reducible refine Kd.C_drew ?_))); (case side2 => rw [show t340.length = t318.length from (Kd.R_reads' HO_323008.out).1.symm]; exact (Kd.R_reads' HO_323008.out).2.1); rintro e w100 ⟨rfl, hb⟩; refine ⟨_, rfl, ?_⟩; have n0_ := mk_ (Kd.R_below (Kd.ur_ HO_298008.out) hb); have n1_ := mk_ (Kd.R_below (Kd.ur_ HO_310008.out) hb); have n2_ := mk_ (Kd.R_below (Kd.ur_ HO_323008.out) hb); have n3_ := mk_ (blk_below (u_ BK272.out) hb); have n4_ := mk_ (blk_below (u_ BK297.out) hb); have n5_ := mk_ (blk_below (u_ BK309.out) hb); have n6_ := mk_ (blk_below (u_ BK322.out) hb); have n7_ := mk_ (below_step (us_ HB.out) hb); clear HO_298008; clear HO_310008; clear HO_323008; clear BK272; clear BK297; clear BK309; clear BK322; clear HB; have HO_298008 := n0_; have HO_310008 := n1_; have HO_323008 := n2_; have BK272 := n3_; have BK297 := n4_; have BK309 := n5_; have BK322 := n6_; have HB := n7_; clear n0_ n1_ n2_ n3_ n4_ n5_ n6_ n7_; (try clear hb); (try clear hb2); (try clear hk); (try clear hi)))
      go_ret
      exact ⟨by first | rfl | (simp [errW_none, errW_some] <;> rfl) | (simp [*, errW_none, errW_some] <;> rfl), us_ HB.out⟩
     rw [if_neg c93] at H
     have c93b0 : decide (t341 < 0) = false := decide_eq_false c93
     clear c93
     by_cases c101 : t341 = t339
     rotate_left
     ·rw [if_neg c101] at H
      have c101b0 : (t341 == t339) = false := beq_eq_false_iff_ne.mpr c101
      have c101b1 : (t341 != t339) = true := bne_iff_ne.mpr c101
      obtain rfl := Option.some.inj H
      have hnb169 := NB322_272.out
      have hnc169 := NB272_322.out
      have hnb170 := NB322_297.out
      have hnc170 := NB297_322.out
      have hnb171 := NB322_309.out
      have hnc171 := NB309_322.out
      obtain ⟨hcz172_0, hcz172_1, hcz172_2, hcz172_3, hcz172_4, hcz172_5, hcz172_6, hcz172_7, hcz172_8, hfz172_0, hfz172_1, hfz172_2, hfz172_3, hfz172_4, hfz172_5, hfz172_6, hfz172_7, hfz172_8⟩ := cells9_ BK322.out
      go_wp2_with (first | ((with_reducible refine gate_callee (f := 27) rfl ?_); refine goesL_ (some 68) rfl rfl Try.func27 (by kernel_rfl) rfl #[.agg #[.int .i64 t310, .int .i64 t311, .int .i64 t312, .int .i64 t313, .int .i64 t314, .int .i64 t315, .bool t316, .bool t317, .slice Ao37 t318.length co37], .int .i64 1] rfl (by (try simp only [lm_, lo_, ln_]); first | done | rfl | (simp only [List.length_drop, List.length_take]; rfl)) ?_; (with_reducible refine (laws_markPacket.calls kj60 t310 t311 t312 t313 t314 t315 t316 t317 (fun k_ => some k_ = (.slice Ao37 t318.length co37 : Value).ownBlock) (.slice Ao37 t318.length co37) t318 1 t339 t340 w _ ?side1 ?side2 A91.out).mono ?_); (case side1 => repeat (first | (with_reducible first | exact HB.out | apply na_ | apply nn_ | apply nw_ | refine bs_ ?_ GE272.out | refine bs_ ?_ GE297.out | refine bs_ ?_ GE309.out | refine bs_ ?_ GE322.out) | exact HB.out)); (case side2 => exact Kd.R_tight rfl HO_323008.out); rintro e w173 ⟨rfl, hy0, hb, hkp⟩; refine ⟨_, rfl, ?_⟩; have n0_ := mk_ (Kd.R_mono (ok' := fun k_ => some k_ ≠ (.slice Ao30 t337.length co30 : Value).ownBlock ∧ some k_ ≠ (.slice Ao37 t318.length co37 : Value).ownBlock) (Kd.R_keptB (HO_298008.out) hkp (fun k_ hk_ hs_ => (hk_.2) hs_)) (fun k_ hk_ => by first | exact ⟨hk_.1.1, hk_.1.2⟩ | simp only [hk_, ne_eq, not_false_eq_true, and_self])); have n1_ := mk_ (Kd.R_mono (ok' := fun k_ => some k_ ≠ (.slice Ao23 t293.length co23 : Value).ownBlock ∧ some k_ ≠ (.slice Ao37 t318.length co37 : Value).ownBlock) (Kd.R_keptB (HO_310008.out) hkp (fun k_ hk_ hs_ => (hk_.2) hs_)) (fun k_ hk_ => by first | exact ⟨hk_.1.1, hk_.1.2⟩ | simp only [hk_, ne_eq, not_false_eq_true, and_self])); have n2_ := mk_ (Kd.R_reok rfl hy0 (fun k_ e_ => HO_323008.out.1 k_ e_)); have n3_ := mk_ (blk_kept (u_ BK272.out) hkp (fun hs_ => (fun e_ => (Kd.R_ne HO_323008.out BK272.out (by decide)) e_) hs_)); have n4_ := mk_ (blk_kept (u_ BK297.out) hkp (fun hs_ => (fun e_ => (Kd.R_ne HO_323008.out BK297.out (by decide)) e_) hs_)); have n5_ := mk_ (blk_kept (u_ BK309.out) hkp (fun hs_ => (fun e_ => (Kd.R_ne HO_323008.out BK309.out (by decide)) e_) hs_)); have n6_ := mk_ (blk_kept (u_ BK322.out) hkp (fun hs_ => (fun e_ => (Kd.R_ne HO_323008.out BK322.out (by decide)) e_) hs_)); have n7_ := mk_ (hb); clear HO_298008; clear HO_310008; clear HO_323008; clear BK272; clear BK297; clear BK309; clear BK322; clear HB; have HO_298008 := n0_; have HO_310008 := n1_; have HO_323008 := n2_; have BK272 := n3_; have BK297 := n4_; have BK309 := n5_; have BK322 := n6_; have HB := n7_; clear n0_ n1_ n2_ n3_ n4_ n5_ n6_ n7_; (try clear hb); (try clear hkp); (try clear hy0); obtain ⟨hcz174_0, hcz174_1, hcz174_2, hcz174_3, hcz174_4, hcz174_5, hcz174_6, hcz174_7, hcz174_8, hfz174_0, hfz174_1, hfz174_2, hfz174_3, hfz174_4, hfz174_5, hfz174_6, hfz174_7, hfz174_8⟩ := cells9_ BK322.out) | ((with_reducible refine gate_callee (f := 28) rfl ?_); refine goesL_ (some 71) rfl rfl Try.func28 (by kernel_rfl) rfl #[.agg #[.int .i64 t310, .int .i64 t311, .int .i64 t312, .int .i64 t313, .int .i64 t314, .int .i64 t315, .bool t316, .bool t317, .slice Ao37 t340.length co37], .int .i64 1] rfl (by (try simp only [List.map_toArray, List.map_cons, List.map_nil]); first | done | (rw [show t340.length = t318.length from (Kd.R_reads' HO_323008.out).1.symm] <;> rfl) | rfl | (simp only [List.length_drop, List.length_take]; rfl)) ?_; (with_reducible refine (laws_heldPacket.calls kj60 t310 t311 t312 t313 t314 t315 t316 t317 _ _ t340 1 t341 _ ?side1 ?side2 A92.out).mono ?_); (case side1 => repeat (first | exact (Kd.R_reads' HO_323008.out).2.2 | (with_reducible refine Kd.C_alloc ?_ _) | (with_reducible refine Kd.C_drewN ?_ _) | (with_reducible refine Kd.C_drew ?_))); (case side2 => rw [show t340.length = t318.length from (Kd.R_reads' HO_323008.out).1.symm]; exact (Kd.R_reads' HO_323008.out).2.1); rintro e w175 ⟨rfl, hb⟩; refine ⟨_, rfl, ?_⟩; have n0_ := mk_ (Kd.R_below (Kd.ur_ HO_298008.out) hb); have n1_ := mk_ (Kd.R_below (Kd.ur_ HO_310008.out) hb); have n2_ := mk_ (Kd.R_below (Kd.ur_ HO_323008.out) hb); have n3_ := mk_ (blk_below (u_ BK272.out) hb); have n4_ := mk_ (blk_below (u_ BK297.out) hb); have n5_ := mk_ (blk_below (u_ BK309.out) hb); have n6_ := mk_ (blk_below (u_ BK322.out) hb); have n7_ := mk_ (below_step (us_ HB.out) hb); clear HO_298008; clear HO_310008; clear HO_323008; clear BK272; clear BK297; clear BK309; clear BK322; clear HB; have HO_298008 := n0_; have HO_310008 := n1_; have HO_323008 := n2_; have BK272 := n3_; have BK297 := n4_; have BK309 := n5_; have BK322 := n6_; have HB := n7_; clear n0_ n1_ n2_ n3_ n4_ n5_ n6_ n7_; (try clear hb); (try clear hb2); (try clear hk); (try clear hi)))
      go_ret
      exact ⟨by first | rfl | (simp [errW_none, errW_some] <;> rfl) | (simp [*, errW_none, errW_some] <;> rfl), us_ HB.out⟩
     rw [if_pos c101] at H
     have c101b0 : (t341 == t339) = true := beq_iff_eq.mpr c101
     have c101b1 : (t341 != t339) = false := bne_eq_false_iff_eq.mpr c101
     clear c101
     replace H := Option.bind_eq_some_iff.mp H
     obtain ⟨⟨t342, t343, t344, t345, t346, t347, t348, t349, t350⟩, A1020, H⟩ := H
     replace H : ((impl_NoteEchoed.f kj60 t342 t343 t344 t345 t346 t347 t348 t349 t350 a1).bind fun bt353 => ((laws_eqPacket.f kj60 bt353.1 bt353.2.1 bt353.2.2.1 bt353.2.2.2.1 bt353.2.2.2.2.1 bt353.2.2.2.2.2.1 bt353.2.2.2.2.2.2.1 bt353.2.2.2.2.2.2.2.1 bt353.2.2.2.2.2.2.2.2.1 t285 t286 t287 t288 t289 t290 t291 t292 t293).bind fun t366 => (if t366 = true then (laws_FnExactNoteEchoed.j2 kj60 t339 (bt353.2.2.2.2.2.2.2.2.2 != t296) t310 t311 t312 t313 t314 t315 t316 t317 t340) else (laws_FnExactNoteEchoed.j2 kj60 t339 true t310 t311 t312 t313 t314 t315 t316 t317 t340)))) = some r := H
     have A102 := mk_ A1020
     clear A1020
     replace H := Option.bind_eq_some_iff.mp H
     obtain ⟨⟨t353, t354, t355, t356, t357, t358, t359, t360, t361, t364⟩, A1030, H⟩ := H
     replace H : ((laws_eqPacket.f kj60 t353 t354 t355 t356 t357 t358 t359 t360 t361 t285 t286 t287 t288 t289 t290 t291 t292 t293).bind fun t366 => (if t366 = true then (laws_FnExactNoteEchoed.j2 kj60 t339 (t364 != t296) t310 t311 t312 t313 t314 t315 t316 t317 t340) else (laws_FnExactNoteEchoed.j2 kj60 t339 true t310 t311 t312 t313 t314 t315 t316 t317 t340))) = some r := H
     have A103 := mk_ A1030
     clear A1030
     have HC104 := mk_ H
     clear H
     have hnb105 := NB322_272.out
     have hnc105 := NB272_322.out
     have hnb106 := NB322_297.out
     have hnc106 := NB297_322.out
     have hnb107 := NB322_309.out
     have hnc107 := NB309_322.out
     obtain ⟨hcz108_0, hcz108_1, hcz108_2, hcz108_3, hcz108_4, hcz108_5, hcz108_6, hcz108_7, hcz108_8, hfz108_0, hfz108_1, hfz108_2, hfz108_3, hfz108_4, hfz108_5, hfz108_6, hfz108_7, hfz108_8⟩ := cells9_ BK322.out
     go_upto_region 25 with (first | ((with_reducible refine gate_callee (f := 27) rfl ?_); refine goesL_ (some 68) rfl rfl Try.func27 (by kernel_rfl) rfl #[.agg #[.int .i64 t310, .int .i64 t311, .int .i64 t312, .int .i64 t313, .int .i64 t314, .int .i64 t315, .bool t316, .bool t317, .slice Ao37 t318.length co37], .int .i64 1] rfl (by (try simp only [lm_, lo_, ln_]); first | done | rfl | (simp only [List.length_drop, List.length_take]; rfl)) ?_; (with_reducible refine (laws_markPacket.calls kj60 t310 t311 t312 t313 t314 t315 t316 t317 (fun k_ => some k_ = (.slice Ao37 t318.length co37 : Value).ownBlock) (.slice Ao37 t318.length co37) t318 1 t339 t340 w _ ?side1 ?side2 A91.out).mono ?_); (case side1 => repeat (first | (with_reducible first | exact HB.out | apply na_ | apply nn_ | apply nw_ | refine bs_ ?_ GE272.out | refine bs_ ?_ GE297.out | refine bs_ ?_ GE309.out | refine bs_ ?_ GE322.out) | exact HB.out)); (case side2 => exact Kd.R_tight rfl HO_323008.out); rintro e w109 ⟨rfl, hy0, hb, hkp⟩; refine ⟨_, rfl, ?_⟩; have n0_ := mk_ (Kd.R_mono (ok' := fun k_ => some k_ ≠ (.slice Ao30 t337.length co30 : Value).ownBlock ∧ some k_ ≠ (.slice Ao37 t318.length co37 : Value).ownBlock) (Kd.R_keptB (HO_298008.out) hkp (fun k_ hk_ hs_ => (hk_.2) hs_)) (fun k_ hk_ => by first | exact ⟨hk_.1.1, hk_.1.2⟩ | simp only [hk_, ne_eq, not_false_eq_true, and_self])); have n1_ := mk_ (Kd.R_mono (ok' := fun k_ => some k_ ≠ (.slice Ao23 t293.length co23 : Value).ownBlock ∧ some k_ ≠ (.slice Ao37 t318.length co37 : Value).ownBlock) (Kd.R_keptB (HO_310008.out) hkp (fun k_ hk_ hs_ => (hk_.2) hs_)) (fun k_ hk_ => by first | exact ⟨hk_.1.1, hk_.1.2⟩ | simp only [hk_, ne_eq, not_false_eq_true, and_self])); have n2_ := mk_ (Kd.R_reok rfl hy0 (fun k_ e_ => HO_323008.out.1 k_ e_)); have n3_ := mk_ (blk_kept (u_ BK272.out) hkp (fun hs_ => (fun e_ => (Kd.R_ne HO_323008.out BK272.out (by decide)) e_) hs_)); have n4_ := mk_ (blk_kept (u_ BK297.out) hkp (fun hs_ => (fun e_ => (Kd.R_ne HO_323008.out BK297.out (by decide)) e_) hs_)); have n5_ := mk_ (blk_kept (u_ BK309.out) hkp (fun hs_ => (fun e_ => (Kd.R_ne HO_323008.out BK309.out (by decide)) e_) hs_)); have n6_ := mk_ (blk_kept (u_ BK322.out) hkp (fun hs_ => (fun e_ => (Kd.R_ne HO_323008.out BK322.out (by decide)) e_) hs_)); have n7_ := mk_ (hb); clear HO_298008; clear HO_310008; clear HO_323008; clear BK272; clear BK297; clear BK309; clear BK322; clear HB; have HO_298008 := n0_; have HO_310008 := n1_; have HO_323008 := n2_; have BK272 := n3_; have BK297 := n4_; have BK309 := n5_; have BK322 := n6_; have HB := n7_; clear n0_ n1_ n2_ n3_ n4_ n5_ n6_ n7_; (try clear hb); (try clear hkp); (try clear hy0); obtain ⟨hcz110_0, hcz110_1, hcz110_2, hcz110_3, hcz110_4, hcz110_5, hcz110_6, hcz110_7, hcz110_8, hfz110_0, hfz110_1, hfz110_2, hfz110_3, hfz110_4, hfz110_5, hfz110_6, hfz110_7, hfz110_8⟩ := cells9_ BK322.out) | ((with_reducible refine gate_callee (f := 28) rfl ?_); refine goesL_ (some 71) rfl rfl Try.func28 (by kernel_rfl) rfl #[.agg #[.int .i64 t310, .int .i64 t311, .int .i64 t312, .int .i64 t313, .int .i64 t314, .int .i64 t315, .bool t316, .bool t317, .slice Ao37 t340.length co37], .int .i64 1] rfl (by (try simp only [List.map_toArray, List.map_cons, List.map_nil]); first | done | (rw [show t340.length = t318.length from (Kd.R_reads' HO_323008.out).1.symm] <;> rfl) | rfl | (simp only [List.length_drop, List.length_take]; rfl)) ?_; (with_reducible refine (laws_heldPacket.calls kj60 t310 t311 t312 t313 t314 t315 t316 t317 _ _ t340 1 t341 _ ?side1 ?side2 A92.out).mono ?_); (case side1 => repeat (first | exact (Kd.R_reads' HO_323008.out).2.2 | (with_reducible refine Kd.C_alloc ?_ _) | (with_reducible refine Kd.C_drewN ?_ _) | (with_reducible refine Kd.C_drew ?_))); (case side2 => rw [show t340.length = t318.length from (Kd.R_reads' HO_323008.out).1.symm]; exact (Kd.R_reads' HO_323008.out).2.1); rintro e w111 ⟨rfl, hb⟩; refine ⟨_, rfl, ?_⟩; have n0_ := mk_ (Kd.R_below (Kd.ur_ HO_298008.out) hb); have n1_ := mk_ (Kd.R_below (Kd.ur_ HO_310008.out) hb); have n2_ := mk_ (Kd.R_below (Kd.ur_ HO_323008.out) hb); have n3_ := mk_ (blk_below (u_ BK272.out) hb); have n4_ := mk_ (blk_below (u_ BK297.out) hb); have n5_ := mk_ (blk_below (u_ BK309.out) hb); have n6_ := mk_ (blk_below (u_ BK322.out) hb); have n7_ := mk_ (below_step (us_ HB.out) hb); clear HO_298008; clear HO_310008; clear HO_323008; clear BK272; clear BK297; clear BK309; clear BK322; clear HB; have HO_298008 := n0_; have HO_310008 := n1_; have HO_323008 := n2_; have BK272 := n3_; have BK297 := n4_; have BK309 := n5_; have BK322 := n6_; have HB := n7_; clear n0_ n1_ n2_ n3_ n4_ n5_ n6_ n7_; (try clear hb); (try clear hb2); (try clear hk); (try clear hi); have hnb112 := NB272_297.out; have hnc112 := NB297_272.out; have hnb113 := NB272_309.out; have hnc113 := NB309_272.out; obtain ⟨hcz114_0, hcz114_1, hcz114_2, hcz114_3, hcz114_4, hcz114_5, hcz114_6, hcz114_7, hcz114_8, hfz114_0, hfz114_1, hfz114_2, hfz114_3, hfz114_4, hfz114_5, hfz114_6, hfz114_7, hfz114_8⟩ := cells9_ BK272.out) | ((with_reducible refine gate_callee (f := 24) rfl ?_); refine goesL_ (some 79) rfl rfl Try.func24 (by kernel_rfl) rfl #[.agg #[.int .i64 a0_0, .int .i64 a0_1, .int .i64 a0_2, .int .i64 a0_3, .int .i64 a0_4, .int .i64 a0_5, .bool a0_6, .bool a0_7, .slice A0_8 l0_8.length c0_8]] rfl (by (try simp only [lm_, lo_, ln_]); first | done | rfl | (simp only [List.length_drop, List.length_take]; rfl)) ?_; (with_reducible refine (laws_toPacket.calls kj60 a0_0 a0_1 a0_2 a0_3 a0_4 a0_5 a0_6 a0_7 _ _ l0_8 t342 t343 t344 t345 t346 t347 t348 t349 t350 _ ?side1 ?side2 A102.out).mono ?_); (case side1 => repeat (first | exact (Kd.C_below HR0_8.out HB.out) | (with_reducible refine Kd.C_alloc ?_ _) | (with_reducible refine Kd.C_drewN ?_ _) | (with_reducible refine Kd.C_drew ?_))); (case side2 => exact HC0_8.out); rintro e w115 ⟨v351, rfl, ho0, hb⟩; refine ⟨_, rfl, ?_⟩; have n0_ := mk_ (Kd.R_elder' (Kd.ur_ HO_298008.out) (Kd.R_base ho0) hb); have n1_ := mk_ (Kd.R_elder' (Kd.ur_ HO_310008.out) (Kd.R_base ho0) hb); have n2_ := mk_ (Kd.R_elder' (Kd.ur_ HO_323008.out) (Kd.R_base ho0) hb); have n3_ := mk_ (Kd.R_lower (Kd.R_new' (Kd.R_new' (Kd.R_new' ho0 (Kd.R_lt (Kd.ur_ HO_298008.out))) (Kd.R_lt (Kd.ur_ HO_310008.out))) (Kd.R_lt (Kd.ur_ HO_323008.out))) (below_size (us_ HB.out))); have n4_ := mk_ (blk_below (u_ BK272.out) hb); have n5_ := mk_ (blk_below (u_ BK297.out) hb); have n6_ := mk_ (blk_below (u_ BK309.out) hb); have n7_ := mk_ (blk_below (u_ BK322.out) hb); have n8_ := mk_ (below_step (us_ HB.out) hb); clear HO_298008; clear HO_310008; clear HO_323008; clear BK272; clear BK297; clear BK309; clear BK322; clear HB; have HO_298008 := n0_; have HO_310008 := n1_; have HO_323008 := n2_; have HO352 := n3_; have BK272 := n4_; have BK297 := n5_; have BK309 := n6_; have BK322 := n7_; have HB := n8_; clear n0_ n1_ n2_ n3_ n4_ n5_ n6_ n7_ n8_; (try clear hb); (try clear hb2); (try clear hk); (try clear hi); (try clear ho0); obtain ⟨Ao116, co116, eo116⟩ := Kd.R_slice HO352.out; subst eo116) | ((with_reducible refine gate_callee (f := 25) rfl ?_); refine goesL_ (some 81) rfl rfl Try.func25 (by kernel_rfl) rfl #[.agg #[.int .i64 t342, .int .i64 t343, .int .i64 t344, .int .i64 t345, .int .i64 t346, .int .i64 t347, .bool t348, .bool t349, .slice Ao116 t350.length co116], .int .i64 a1] rfl (by (try simp only [lm_, lo_, ln_]); first | done | rfl | (simp only [List.length_drop, List.length_take]; rfl)) ?_; (with_reducible refine (impl_NoteEchoed.calls kj60 t342 t343 t344 t345 t346 t347 t348 t349 _ _ t350 a1 t353 t354 t355 t356 t357 t358 t359 t360 t361 t364 _ ?side1 ?side2 A103.out).mono ?_); (case side1 => repeat (first | exact (Kd.R_reads' HO352.out).2.2 | (with_reducible refine Kd.C_alloc ?_ _) | (with_reducible refine Kd.C_drewN ?_ _) | (with_reducible refine Kd.C_drew ?_))); (case side2 => exact (Kd.R_reads' HO352.out).2.1); rintro e w117 ⟨v362, rfl, ho0, hb⟩; refine ⟨_, rfl, ?_⟩; have n0_ := mk_ (Kd.R_elder' (Kd.ur_ HO_298008.out) (Kd.R_base ho0) hb); have n1_ := mk_ (Kd.R_elder' (Kd.ur_ HO_310008.out) (Kd.R_base ho0) hb); have n2_ := mk_ (Kd.R_elder' (Kd.ur_ HO_323008.out) (Kd.R_base ho0) hb); have n3_ := mk_ (Kd.R_elder' (Kd.ur_ HO352.out) (Kd.R_base ho0) hb); have n4_ := mk_ (Kd.R_lower (Kd.R_new' (Kd.R_new' (Kd.R_new' (Kd.R_new' ho0 (Kd.R_lt (Kd.ur_ HO_298008.out))) (Kd.R_lt (Kd.ur_ HO_310008.out))) (Kd.R_lt (Kd.ur_ HO_323008.out))) (Kd.R_lt (Kd.ur_ HO352.out))) (below_size (us_ HB.out))); have n5_ := mk_ (blk_below (u_ BK272.out) hb); have n6_ := mk_ (blk_below (u_ BK297.out) hb); have n7_ := mk_ (blk_below (u_ BK309.out) hb); have n8_ := mk_ (blk_below (u_ BK322.out) hb); have n9_ := mk_ (below_step (us_ HB.out) hb); clear HO_298008; clear HO_310008; clear HO_323008; clear HO352; clear BK272; clear BK297; clear BK309; clear BK322; clear HB; have HO_298008 := n0_; have HO_310008 := n1_; have HO_323008 := n2_; have HO352 := n3_; have HO363 := n4_; have BK272 := n5_; have BK297 := n6_; have BK309 := n7_; have BK322 := n8_; have HB := n9_; clear n0_ n1_ n2_ n3_ n4_ n5_ n6_ n7_ n8_ n9_; (try clear hb); (try clear hb2); (try clear hk); (try clear hi); (try clear ho0)) | ((with_reducible refine gate_dst (N := 14) rfl ?_); refine box_event ?hg (N := 14) ?hd (cs := #[.int .i64 0, .int .i64 0, .int .i64 0, .int .i64 0, .int .i64 0, .int .i64 0, .bool false, .bool false, .slice none 0 0]) (t := 24) ?hr ?_; (case hd => rfl); (case hg => rfl); (case hr => first | (go_simp; done) | (go_simp; rfl)); intro gb365 hg w118 hbox hb; have n0_ := mk_ (Kd.R_below (Kd.ur_ HO_298008.out) hb); have n1_ := mk_ (Kd.R_below (Kd.ur_ HO_310008.out) hb); have n2_ := mk_ (Kd.R_below (Kd.ur_ HO_323008.out) hb); have n3_ := mk_ (Kd.R_below (Kd.ur_ HO352.out) hb); have n4_ := mk_ (Kd.R_below (Kd.ur_ HO363.out) hb); have n5_ := mk_ (blk_below (u_ BK272.out) hb); have n6_ := mk_ (blk_below (u_ BK297.out) hb); have n7_ := mk_ (blk_below (u_ BK309.out) hb); have n8_ := mk_ (blk_below (u_ BK322.out) hb); have n9_ := mk_ (below_step (us_ HB.out) hb); have n10_ := mk_ (hbox); have n11_ := mk_ ((by rw [hg]; exact (below_size (us_ HB.out)) : w.heap.size ≤ gb365)); have n12_ := mk_ ((by rw [hg]; exact (below_size (us_ HB.out)) : w.heap.size ≤ gb365)); have n13_ := mk_ ((by rw [hg]; exact Nat.ne_of_lt (blk_lt (u_ BK272.out)) : gb272 ≠ gb365)); have n14_ := mk_ ((by rw [hg]; exact Nat.ne_of_gt (blk_lt (u_ BK272.out)) : gb365 ≠ gb272)); have n15_ := mk_ ((by rw [hg]; exact Nat.ne_of_lt (blk_lt (u_ BK297.out)) : gb297 ≠ gb365)); have n16_ := mk_ ((by rw [hg]; exact Nat.ne_of_gt (blk_lt (u_ BK297.out)) : gb365 ≠ gb297)); have n17_ := mk_ ((by rw [hg]; exact Nat.ne_of_lt (blk_lt (u_ BK309.out)) : gb309 ≠ gb365)); have n18_ := mk_ ((by rw [hg]; exact Nat.ne_of_gt (blk_lt (u_ BK309.out)) : gb365 ≠ gb309)); have n19_ := mk_ ((by rw [hg]; exact Nat.ne_of_lt (blk_lt (u_ BK322.out)) : gb322 ≠ gb365)); have n20_ := mk_ ((by rw [hg]; exact Nat.ne_of_gt (blk_lt (u_ BK322.out)) : gb365 ≠ gb322)); clear HO_298008; clear HO_310008; clear HO_323008; clear HO352; clear HO363; clear BK272; clear BK297; clear BK309; clear BK322; clear HB; have HO_298008 := n0_; have HO_310008 := n1_; have HO_323008 := n2_; have HO352 := n3_; have HO363 := n4_; have BK272 := n5_; have BK297 := n6_; have BK309 := n7_; have BK322 := n8_; have HB := n9_; have BK365 := n10_; have GW365 := n11_; have GE365 := ge_ n12_.out; have NB272_365 := nq_ n13_.out; have NB365_272 := nq_ n14_.out; have NB297_365 := nq_ n15_.out; have NB365_297 := nq_ n16_.out; have NB309_365 := nq_ n17_.out; have NB365_309 := nq_ n18_.out; have NB322_365 := nq_ n19_.out; have NB365_322 := nq_ n20_.out; clear n0_ n1_ n2_ n3_ n4_ n5_ n6_ n7_ n8_ n9_ n10_ n11_ n12_ n13_ n14_ n15_ n16_ n17_ n18_ n19_ n20_; clear hb hbox hg; have hnb119 := NB365_272.out; have hnc119 := NB272_365.out; have hnb120 := NB365_297.out; have hnc120 := NB297_365.out; have hnb121 := NB365_309.out; have hnc121 := NB309_365.out; have hnb122 := NB365_322.out; have hnc122 := NB322_365.out; obtain ⟨hcz123_0, hcz123_1, hcz123_2, hcz123_3, hcz123_4, hcz123_5, hcz123_6, hcz123_7, hcz123_8, hfz123_0, hfz123_1, hfz123_2, hfz123_3, hfz123_4, hfz123_5, hfz123_6, hfz123_7, hfz123_8⟩ := cells9_ BK365.out; obtain ⟨Ao124, co124, eo124⟩ := Kd.R_slice HO363.out; subst eo124))
     (try simp only [Act.put, la_, lz_, ls_])
     go_cut [92] (fun v92 wc => ∃ (kq : Nat) (x92_103 : Bool), v92 = .bool x92_103 ∧ Aside0 (laws_FnExactNoteEchoed.j2 kq t339 x92_103 t310 t311 t312 t313 t314 t315 t316 t317 t340 = some r) ∧ Aside0 (kq ≤ kj60) ∧ Aside0 (Kd.R (Kd.int .u8) 5 wc w.heap.size (fun k_ => some k_ ≠ ((.slice Ao30 t337.length co30) : Value).ownBlock ∧ some k_ ≠ ((.slice Ao37 t318.length co37) : Value).ownBlock ∧ some k_ ≠ ((.slice Ao124 t361.length co124) : Value).ownBlock) (.slice Ao23 t293.length co23) t293) ∧ Aside0 (Kd.R (Kd.int .u8) 5 wc w.heap.size (fun k_ => some k_ ≠ ((.slice Ao23 t293.length co23) : Value).ownBlock ∧ some k_ ≠ ((.slice Ao37 t318.length co37) : Value).ownBlock ∧ some k_ ≠ ((.slice Ao124 t361.length co124) : Value).ownBlock) (.slice Ao30 t337.length co30) t337) ∧ Aside0 (Kd.R (Kd.int .u8) 5 wc w.heap.size (fun k_ => some k_ ≠ ((.slice Ao23 t293.length co23) : Value).ownBlock ∧ some k_ ≠ ((.slice Ao30 t337.length co30) : Value).ownBlock ∧ some k_ ≠ ((.slice Ao124 t361.length co124) : Value).ownBlock) (.slice Ao37 t318.length co37) t340) ∧ Aside0 (Kd.R (Kd.int .u8) 5 wc w.heap.size (fun k_ => some k_ ≠ ((.slice Ao23 t293.length co23) : Value).ownBlock ∧ some k_ ≠ ((.slice Ao30 t337.length co30) : Value).ownBlock ∧ some k_ ≠ ((.slice Ao37 t318.length co37) : Value).ownBlock) (.slice Ao124 t361.length co124) t361) ∧ Aside0 (wc.heap[gb272]? = some (.cells #[.int .i64 a0_0, .int .i64 a0_1, .int .i64 a0_2, .int .i64 a0_3, .int .i64 a0_4, .int .i64 a0_5, .bool a0_6, .bool a0_7, (.slice A0_8 l0_8.length c0_8)] 41 (0, 0))) ∧ Aside0 (wc.heap[gb297]? = some (.cells #[.int .i64 t285, .int .i64 t286, .int .i64 t287, .int .i64 t288, .int .i64 t289, .int .i64 t290, .bool t291, .bool t292, (.slice Ao23 t293.length co23)] 24 (0, 0))) ∧ Aside0 (wc.heap[gb309]? = some (.cells #[.int .i64 t298, .int .i64 t299, .int .i64 t300, .int .i64 t301, .int .i64 t302, .int .i64 t303, .bool t304, .bool t305, (.slice Ao30 t337.length co30)] 24 (0, 0))) ∧ Aside0 (wc.heap[gb322]? = some (.cells #[.int .i64 t310, .int .i64 t311, .int .i64 t312, .int .i64 t313, .int .i64 t314, .int .i64 t315, .bool t316, .bool t317, (.slice Ao37 t318.length co37)] 24 (0, 0))) ∧ Aside0 (wc.heap[gb365]? = some (.cells #[.int .i64 t353, .int .i64 t354, .int .i64 t355, .int .i64 t356, .int .i64 t357, .int .i64 t358, .bool t359, .bool t360, (.slice Ao124 t361.length co124)] 24 (0, 0))) ∧ Aside0 (Below w.heap.size w wc))
     case first =>
      have H := HC104.out
      clear HC104
      replace H := Option.bind_eq_some_iff.mp H
      obtain ⟨t366, A1250, H⟩ := H
      replace H : (if t366 = true then (laws_FnExactNoteEchoed.j2 kj60 t339 (t364 != t296) t310 t311 t312 t313 t314 t315 t316 t317 t340) else (laws_FnExactNoteEchoed.j2 kj60 t339 true t310 t311 t312 t313 t314 t315 t316 t317 t340)) = some r := H
      have A125 := mk_ A1250
      clear A1250
      by_cases c126 : t366 = true
      ·subst c126
       have H1 : (laws_FnExactNoteEchoed.j2 kj60 t339 (t364 != t296) t310 t311 t312 t313 t314 t315 t316 t317 t340) = some r := by rw [if_pos rfl] at H; exact H
       clear H
       have H := H1
       clear H1
       have H' := mk_ H
       clear H
       have hnb127 := NB365_272.out
       have hnc127 := NB272_365.out
       have hnb128 := NB365_297.out
       have hnc128 := NB297_365.out
       have hnb129 := NB365_309.out
       have hnc129 := NB309_365.out
       have hnb130 := NB365_322.out
       have hnc130 := NB322_365.out
       obtain ⟨hcz131_0, hcz131_1, hcz131_2, hcz131_3, hcz131_4, hcz131_5, hcz131_6, hcz131_7, hcz131_8, hfz131_0, hfz131_1, hfz131_2, hfz131_3, hfz131_4, hfz131_5, hfz131_6, hfz131_7, hfz131_8⟩ := cells9_ BK365.out
       have hnb132 := NB297_272.out
       have hnc132 := NB272_297.out
       have hnb133 := NB297_309.out
       have hnc133 := NB309_297.out
       have hnb134 := NB297_322.out
       have hnc134 := NB322_297.out
       obtain ⟨hcz135_0, hcz135_1, hcz135_2, hcz135_3, hcz135_4, hcz135_5, hcz135_6, hcz135_7, hcz135_8, hfz135_0, hfz135_1, hfz135_2, hfz135_3, hfz135_4, hfz135_5, hfz135_6, hfz135_7, hfz135_8⟩ := cells9_ BK297.out
       go_wp2_with (first | ((with_reducible refine gate_callee (f := 26) rfl ?_); refine goesL_ (some 86) rfl rfl Try.func26 (by kernel_rfl) rfl #[.agg #[.int .i64 t353, .int .i64 t354, .int .i64 t355, .int .i64 t356, .int .i64 t357, .int .i64 t358, .bool t359, .bool t360, .slice Ao124 t361.length co124], .agg #[.int .i64 t285, .int .i64 t286, .int .i64 t287, .int .i64 t288, .int .i64 t289, .int .i64 t290, .bool t291, .bool t292, .slice Ao23 t293.length co23]] rfl (by (try simp only [lm_, lo_, ln_]); first | done | rfl | (simp only [List.length_drop, List.length_take]; rfl)) ?_; (with_reducible refine (laws_eqPacket.calls kj60 t353 t354 t355 t356 t357 t358 t359 t360 _ _ t361 t285 t286 t287 t288 t289 t290 t291 t292 _ _ t293 true _ ?side1 ?side2 ?side3 ?side4 A125.out).mono ?_); (case side1 => refine (Kd.R_reads' (e := 5) (base := w.heap.size) (ok := fun k_ => ((((True ∧ some k_ ≠ (.slice Ao23 t293.length co23 : Value).ownBlock) ∧ some k_ ≠ (.slice Ao30 t337.length co30 : Value).ownBlock) ∧ some k_ ≠ (.slice Ao37 t318.length co37 : Value).ownBlock) ∧ some k_ ≠ (.slice Ao116 t350.length co116 : Value).ownBlock)) (n := t361.length) (c := co124) ?_).2.2; exact (by (with_reducible repeat (first | apply Kd.R_alloc | apply Kd.R_drewN | apply Kd.R_drew)); exact (Kd.R_mono (Kd.R_far (p := ⟨gb365, 8, none⟩) (Kd.R_far (p := ⟨gb365, 7, none⟩) (Kd.R_far (p := ⟨gb365, 6, none⟩) (Kd.R_far (p := ⟨gb365, 5, none⟩) (Kd.R_far (p := ⟨gb365, 4, none⟩) (Kd.R_far (p := ⟨gb365, 3, none⟩) (Kd.R_far (p := ⟨gb365, 2, none⟩) (Kd.R_far (p := ⟨gb365, 1, none⟩) (Kd.R_far (p := ⟨gb365, 0, none⟩) (Kd.R_types HO363.out BK365.out (by decide)) (fun _ hk => hk.2) (.int .i64 t353)) (fun _ hk => hk.2) (.int .i64 t354)) (fun _ hk => hk.2) (.int .i64 t355)) (fun _ hk => hk.2) (.int .i64 t356)) (fun _ hk => hk.2) (.int .i64 t357)) (fun _ hk => hk.2) (.int .i64 t358)) (fun _ hk => hk.2) (.bool t359)) (fun _ hk => hk.2) (.bool t360)) (fun _ hk => hk.2) (.slice Ao124 t361.length co124)) (fun _ h_ => by first | exact h_.1 | simp only [h_, ne_eq, not_false_eq_true, and_self])))); (case side2 => exact (Kd.R_reads' HO363.out).2.1); (case side3 => refine (Kd.R_reads' (e := 5) (base := w.heap.size) (ok := fun k_ => (((some k_ ≠ (.slice Ao30 t337.length co30 : Value).ownBlock ∧ some k_ ≠ (.slice Ao37 t318.length co37 : Value).ownBlock) ∧ some k_ ≠ (.slice Ao116 t350.length co116 : Value).ownBlock) ∧ some k_ ≠ (.slice Ao124 t361.length co124 : Value).ownBlock)) (n := t293.length) (c := co23) ?_).2.2; exact (by (with_reducible repeat (first | apply Kd.R_alloc | apply Kd.R_drewN | apply Kd.R_drew)); exact (Kd.R_mono (Kd.R_far (p := ⟨gb365, 8, none⟩) (Kd.R_far (p := ⟨gb365, 7, none⟩) (Kd.R_far (p := ⟨gb365, 6, none⟩) (Kd.R_far (p := ⟨gb365, 5, none⟩) (Kd.R_far (p := ⟨gb365, 4, none⟩) (Kd.R_far (p := ⟨gb365, 3, none⟩) (Kd.R_far (p := ⟨gb365, 2, none⟩) (Kd.R_far (p := ⟨gb365, 1, none⟩) (Kd.R_far (p := ⟨gb365, 0, none⟩) (Kd.R_types HO_298008.out BK365.out (by decide)) (fun _ hk => hk.2) (.int .i64 t353)) (fun _ hk => hk.2) (.int .i64 t354)) (fun _ hk => hk.2) (.int .i64 t355)) (fun _ hk => hk.2) (.int .i64 t356)) (fun _ hk => hk.2) (.int .i64 t357)) (fun _ hk => hk.2) (.int .i64 t358)) (fun _ hk => hk.2) (.bool t359)) (fun _ hk => hk.2) (.bool t360)) (fun _ hk => hk.2) (.slice Ao124 t361.length co124)) (fun _ h_ => by first | exact h_.1 | simp only [h_, ne_eq, not_false_eq_true, and_self])))); (case side4 => exact (Kd.R_reads' HO_298008.out).2.1); rintro e w136 ⟨rfl, hb⟩; refine ⟨_, rfl, ?_⟩; have n0_ := mk_ (Kd.R_below (by (with_reducible repeat (first | apply Kd.R_alloc | apply Kd.R_drewN | apply Kd.R_drew)); exact (Kd.R_mono (Kd.R_far (p := ⟨gb365, 8, none⟩) (Kd.R_far (p := ⟨gb365, 7, none⟩) (Kd.R_far (p := ⟨gb365, 6, none⟩) (Kd.R_far (p := ⟨gb365, 5, none⟩) (Kd.R_far (p := ⟨gb365, 4, none⟩) (Kd.R_far (p := ⟨gb365, 3, none⟩) (Kd.R_far (p := ⟨gb365, 2, none⟩) (Kd.R_far (p := ⟨gb365, 1, none⟩) (Kd.R_far (p := ⟨gb365, 0, none⟩) (Kd.R_types HO_298008.out BK365.out (by decide)) (fun _ hk => hk.2) (.int .i64 t353)) (fun _ hk => hk.2) (.int .i64 t354)) (fun _ hk => hk.2) (.int .i64 t355)) (fun _ hk => hk.2) (.int .i64 t356)) (fun _ hk => hk.2) (.int .i64 t357)) (fun _ hk => hk.2) (.int .i64 t358)) (fun _ hk => hk.2) (.bool t359)) (fun _ hk => hk.2) (.bool t360)) (fun _ hk => hk.2) (.slice Ao124 t361.length co124)) (fun _ h_ => by first | exact h_.1 | simp only [h_, ne_eq, not_false_eq_true, and_self]))) hb); have n1_ := mk_ (Kd.R_below (by (with_reducible repeat (first | apply Kd.R_alloc | apply Kd.R_drewN | apply Kd.R_drew)); exact (Kd.R_mono (Kd.R_far (p := ⟨gb365, 8, none⟩) (Kd.R_far (p := ⟨gb365, 7, none⟩) (Kd.R_far (p := ⟨gb365, 6, none⟩) (Kd.R_far (p := ⟨gb365, 5, none⟩) (Kd.R_far (p := ⟨gb365, 4, none⟩) (Kd.R_far (p := ⟨gb365, 3, none⟩) (Kd.R_far (p := ⟨gb365, 2, none⟩) (Kd.R_far (p := ⟨gb365, 1, none⟩) (Kd.R_far (p := ⟨gb365, 0, none⟩) (Kd.R_types HO_310008.out BK365.out (by decide)) (fun _ hk => hk.2) (.int .i64 t353)) (fun _ hk => hk.2) (.int .i64 t354)) (fun _ hk => hk.2) (.int .i64 t355)) (fun _ hk => hk.2) (.int .i64 t356)) (fun _ hk => hk.2) (.int .i64 t357)) (fun _ hk => hk.2) (.int .i64 t358)) (fun _ hk => hk.2) (.bool t359)) (fun _ hk => hk.2) (.bool t360)) (fun _ hk => hk.2) (.slice Ao124 t361.length co124)) (fun _ h_ => by first | exact h_.1 | simp only [h_, ne_eq, not_false_eq_true, and_self]))) hb); have n2_ := mk_ (Kd.R_below (by (with_reducible repeat (first | apply Kd.R_alloc | apply Kd.R_drewN | apply Kd.R_drew)); exact (Kd.R_mono (Kd.R_far (p := ⟨gb365, 8, none⟩) (Kd.R_far (p := ⟨gb365, 7, none⟩) (Kd.R_far (p := ⟨gb365, 6, none⟩) (Kd.R_far (p := ⟨gb365, 5, none⟩) (Kd.R_far (p := ⟨gb365, 4, none⟩) (Kd.R_far (p := ⟨gb365, 3, none⟩) (Kd.R_far (p := ⟨gb365, 2, none⟩) (Kd.R_far (p := ⟨gb365, 1, none⟩) (Kd.R_far (p := ⟨gb365, 0, none⟩) (Kd.R_types HO_323008.out BK365.out (by decide)) (fun _ hk => hk.2) (.int .i64 t353)) (fun _ hk => hk.2) (.int .i64 t354)) (fun _ hk => hk.2) (.int .i64 t355)) (fun _ hk => hk.2) (.int .i64 t356)) (fun _ hk => hk.2) (.int .i64 t357)) (fun _ hk => hk.2) (.int .i64 t358)) (fun _ hk => hk.2) (.bool t359)) (fun _ hk => hk.2) (.bool t360)) (fun _ hk => hk.2) (.slice Ao124 t361.length co124)) (fun _ h_ => by first | exact h_.1 | simp only [h_, ne_eq, not_false_eq_true, and_self]))) hb); have n3_ := mk_ (Kd.R_below (by (with_reducible repeat (first | apply Kd.R_alloc | apply Kd.R_drewN | apply Kd.R_drew)); exact (Kd.R_mono (Kd.R_far (p := ⟨gb365, 8, none⟩) (Kd.R_far (p := ⟨gb365, 7, none⟩) (Kd.R_far (p := ⟨gb365, 6, none⟩) (Kd.R_far (p := ⟨gb365, 5, none⟩) (Kd.R_far (p := ⟨gb365, 4, none⟩) (Kd.R_far (p := ⟨gb365, 3, none⟩) (Kd.R_far (p := ⟨gb365, 2, none⟩) (Kd.R_far (p := ⟨gb365, 1, none⟩) (Kd.R_far (p := ⟨gb365, 0, none⟩) (Kd.R_types HO352.out BK365.out (by decide)) (fun _ hk => hk.2) (.int .i64 t353)) (fun _ hk => hk.2) (.int .i64 t354)) (fun _ hk => hk.2) (.int .i64 t355)) (fun _ hk => hk.2) (.int .i64 t356)) (fun _ hk => hk.2) (.int .i64 t357)) (fun _ hk => hk.2) (.int .i64 t358)) (fun _ hk => hk.2) (.bool t359)) (fun _ hk => hk.2) (.bool t360)) (fun _ hk => hk.2) (.slice Ao124 t361.length co124)) (fun _ h_ => by first | exact h_.1 | simp only [h_, ne_eq, not_false_eq_true, and_self]))) hb); have n4_ := mk_ (Kd.R_below (by (with_reducible repeat (first | apply Kd.R_alloc | apply Kd.R_drewN | apply Kd.R_drew)); exact (Kd.R_mono (Kd.R_far (p := ⟨gb365, 8, none⟩) (Kd.R_far (p := ⟨gb365, 7, none⟩) (Kd.R_far (p := ⟨gb365, 6, none⟩) (Kd.R_far (p := ⟨gb365, 5, none⟩) (Kd.R_far (p := ⟨gb365, 4, none⟩) (Kd.R_far (p := ⟨gb365, 3, none⟩) (Kd.R_far (p := ⟨gb365, 2, none⟩) (Kd.R_far (p := ⟨gb365, 1, none⟩) (Kd.R_far (p := ⟨gb365, 0, none⟩) (Kd.R_types HO363.out BK365.out (by decide)) (fun _ hk => hk.2) (.int .i64 t353)) (fun _ hk => hk.2) (.int .i64 t354)) (fun _ hk => hk.2) (.int .i64 t355)) (fun _ hk => hk.2) (.int .i64 t356)) (fun _ hk => hk.2) (.int .i64 t357)) (fun _ hk => hk.2) (.int .i64 t358)) (fun _ hk => hk.2) (.bool t359)) (fun _ hk => hk.2) (.bool t360)) (fun _ hk => hk.2) (.slice Ao124 t361.length co124)) (fun _ h_ => by first | exact h_.1 | simp only [h_, ne_eq, not_false_eq_true, and_self]))) hb); have n5_ := mk_ (blk_below (g := gb272) (o := .cells #[.int .i64 a0_0, .int .i64 a0_1, .int .i64 a0_2, .int .i64 a0_3, .int .i64 a0_4, .int .i64 a0_5, .bool a0_6, .bool a0_7, .slice A0_8 l0_8.length c0_8] 41 (0, 0)) (uf_ BK272.out) hb); have n6_ := mk_ (blk_below (g := gb297) (o := .cells #[.int .i64 t285, .int .i64 t286, .int .i64 t287, .int .i64 t288, .int .i64 t289, .int .i64 t290, .bool t291, .bool t292, .slice Ao23 t293.length co23] 24 (0, 0)) (uf_ BK297.out) hb); have n7_ := mk_ (blk_below (g := gb309) (o := .cells #[.int .i64 t298, .int .i64 t299, .int .i64 t300, .int .i64 t301, .int .i64 t302, .int .i64 t303, .bool t304, .bool t305, .slice Ao30 t337.length co30] 24 (0, 0)) (uf_ BK309.out) hb); have n8_ := mk_ (blk_below (g := gb322) (o := .cells #[.int .i64 t310, .int .i64 t311, .int .i64 t312, .int .i64 t313, .int .i64 t314, .int .i64 t315, .bool t316, .bool t317, .slice Ao37 t318.length co37] 24 (0, 0)) (uf_ BK322.out) hb); have n9_ := mk_ (blk_below (g := gb365) (o := .cells #[.int .i64 t353, .int .i64 t354, .int .i64 t355, .int .i64 t356, .int .i64 t357, .int .i64 t358, .bool t359, .bool t360, .slice Ao124 t361.length co124] 24 (0, 0)) (by (with_reducible repeat (first | refine bn_ ?_ _ | refine bw_ ?_ | refine ba_ ?_ _)); refine blk_put (cs := #[.int .i64 t353, .int .i64 t354, .int .i64 t355, .int .i64 t356, .int .i64 t357, .int .i64 t358, .bool t359, .bool t360, .slice none 0 0]) ?_ 8 _ rfl; (with_reducible repeat (first | refine bn_ ?_ _ | refine bw_ ?_ | refine ba_ ?_ _)); refine blk_put (cs := #[.int .i64 t353, .int .i64 t354, .int .i64 t355, .int .i64 t356, .int .i64 t357, .int .i64 t358, .bool t359, .bool false, .slice none 0 0]) ?_ 7 _ rfl; (with_reducible repeat (first | refine bn_ ?_ _ | refine bw_ ?_ | refine ba_ ?_ _)); refine blk_put (cs := #[.int .i64 t353, .int .i64 t354, .int .i64 t355, .int .i64 t356, .int .i64 t357, .int .i64 t358, .bool false, .bool false, .slice none 0 0]) ?_ 6 _ rfl; (with_reducible repeat (first | refine bn_ ?_ _ | refine bw_ ?_ | refine ba_ ?_ _)); refine blk_put (cs := #[.int .i64 t353, .int .i64 t354, .int .i64 t355, .int .i64 t356, .int .i64 t357, .int .i64 0, .bool false, .bool false, .slice none 0 0]) ?_ 5 _ rfl; (with_reducible repeat (first | refine bn_ ?_ _ | refine bw_ ?_ | refine ba_ ?_ _)); refine blk_put (cs := #[.int .i64 t353, .int .i64 t354, .int .i64 t355, .int .i64 t356, .int .i64 0, .int .i64 0, .bool false, .bool false, .slice none 0 0]) ?_ 4 _ rfl; (with_reducible repeat (first | refine bn_ ?_ _ | refine bw_ ?_ | refine ba_ ?_ _)); refine blk_put (cs := #[.int .i64 t353, .int .i64 t354, .int .i64 t355, .int .i64 0, .int .i64 0, .int .i64 0, .bool false, .bool false, .slice none 0 0]) ?_ 3 _ rfl; (with_reducible repeat (first | refine bn_ ?_ _ | refine bw_ ?_ | refine ba_ ?_ _)); refine blk_put (cs := #[.int .i64 t353, .int .i64 t354, .int .i64 0, .int .i64 0, .int .i64 0, .int .i64 0, .bool false, .bool false, .slice none 0 0]) ?_ 2 _ rfl; (with_reducible repeat (first | refine bn_ ?_ _ | refine bw_ ?_ | refine ba_ ?_ _)); refine blk_put (cs := #[.int .i64 t353, .int .i64 0, .int .i64 0, .int .i64 0, .int .i64 0, .int .i64 0, .bool false, .bool false, .slice none 0 0]) ?_ 1 _ rfl; (with_reducible repeat (first | refine bn_ ?_ _ | refine bw_ ?_ | refine ba_ ?_ _)); refine blk_put (cs := #[.int .i64 0, .int .i64 0, .int .i64 0, .int .i64 0, .int .i64 0, .int .i64 0, .bool false, .bool false, .slice none 0 0]) ?_ 0 _ rfl; (with_reducible repeat (first | refine bn_ ?_ _ | refine bw_ ?_ | refine ba_ ?_ _)); exact BK365.out) hb); have n10_ := mk_ (below_step (us_ HB.out) hb); clear HO_298008; clear HO_310008; clear HO_323008; clear HO352; clear HO363; clear BK272; clear BK297; clear BK309; clear BK322; clear BK365; clear HB; have HO_298008 := n0_; have HO_310008 := n1_; have HO_323008 := n2_; have HO352 := n3_; have HO363 := n4_; have BK272 := n5_; have BK297 := n6_; have BK309 := n7_; have BK322 := n8_; have BK365 := n9_; have HB := n10_; clear n0_ n1_ n2_ n3_ n4_ n5_ n6_ n7_ n8_ n9_ n10_; (try clear hb); (try clear hb2); (try clear hk); (try clear hi)))
       go_meet
       case rel => exact ⟨_, ((t364 != t296)), (by first | rfl | (simp; done) | (simp [*]; done)), H', ⟨by have := HJ11.out; have := HJ60.out; first | omega | exact Nat.le_refl _⟩, ⟨by (try simp only [hl310008_60]); (with_reducible repeat (first | apply Kd.R_alloc | apply Kd.R_drewN | apply Kd.R_drew)); exact Kd.R_mono HO_298008.out (fun _ hk => by first | exact ⟨hk.1.1.1, ⟨hk.1.1.2, hk.2⟩⟩ | exact hk.1 | exact hk | exact ⟨hk.1, hk.2⟩ | exact ⟨.inr hk.1, hk.2⟩ | simp only [hk, ne_eq, not_false_eq_true, and_self])⟩, ⟨by (try simp only [hl310008_60]); (with_reducible repeat (first | apply Kd.R_alloc | apply Kd.R_drewN | apply Kd.R_drew)); exact Kd.R_mono HO_310008.out (fun _ hk => by first | exact ⟨hk.1.1.1, ⟨hk.1.1.2, hk.2⟩⟩ | exact hk.1 | exact hk | exact ⟨hk.1, hk.2⟩ | exact ⟨.inr hk.1, hk.2⟩ | simp only [hk, ne_eq, not_false_eq_true, and_self])⟩, ⟨by (try simp only [hl310008_60]); (with_reducible repeat (first | apply Kd.R_alloc | apply Kd.R_drewN | apply Kd.R_drew)); exact Kd.R_mono HO_323008.out (fun _ hk => by first | exact ⟨hk.1.1.1, ⟨hk.1.1.2, hk.2⟩⟩ | exact hk.1 | exact hk | exact ⟨hk.1, hk.2⟩ | exact ⟨.inr hk.1, hk.2⟩ | simp only [hk, ne_eq, not_false_eq_true, and_self])⟩, ⟨by (try simp only [hl310008_60]); (with_reducible repeat (first | apply Kd.R_alloc | apply Kd.R_drewN | apply Kd.R_drew)); exact Kd.R_mono HO363.out (fun _ hk => by first | exact ⟨hk.1.1.1.2, ⟨hk.1.1.2, hk.1.2⟩⟩ | exact hk.1 | exact hk | exact ⟨hk.1, hk.2⟩ | exact ⟨.inr hk.1, hk.2⟩ | simp only [hk, ne_eq, not_false_eq_true, and_self])⟩, ⟨by (try simp only [hl310008_60]); (with_reducible repeat (first | refine bn_ ?_ _ | refine bw_ ?_ | refine ba_ ?_ _)); exact BK272.out⟩, ⟨by (try simp only [hl310008_60]); (with_reducible repeat (first | refine bn_ ?_ _ | refine bw_ ?_ | refine ba_ ?_ _)); exact BK297.out⟩, ⟨by (try simp only [hl310008_60]); (with_reducible repeat (first | refine bn_ ?_ _ | refine bw_ ?_ | refine ba_ ?_ _)); exact BK309.out⟩, ⟨by (try simp only [hl310008_60]); (with_reducible repeat (first | refine bn_ ?_ _ | refine bw_ ?_ | refine ba_ ?_ _)); exact BK322.out⟩, ⟨by (try simp only [hl310008_60]); (with_reducible repeat (first | refine bn_ ?_ _ | refine bw_ ?_ | refine ba_ ?_ _)); exact BK365.out⟩, ⟨us_ HB.out⟩⟩
      replace c126 := Bool.eq_false_iff.mpr c126
      subst c126
      have H1 : (laws_FnExactNoteEchoed.j2 kj60 t339 true t310 t311 t312 t313 t314 t315 t316 t317 t340) = some r := by rw [if_neg (show ¬ (false = true) by decide)] at H; exact H
      clear H
      have H := H1
      clear H1
      have H' := mk_ H
      clear H
      have hnb137 := NB365_272.out
      have hnc137 := NB272_365.out
      have hnb138 := NB365_297.out
      have hnc138 := NB297_365.out
      have hnb139 := NB365_309.out
      have hnc139 := NB309_365.out
      have hnb140 := NB365_322.out
      have hnc140 := NB322_365.out
      obtain ⟨hcz141_0, hcz141_1, hcz141_2, hcz141_3, hcz141_4, hcz141_5, hcz141_6, hcz141_7, hcz141_8, hfz141_0, hfz141_1, hfz141_2, hfz141_3, hfz141_4, hfz141_5, hfz141_6, hfz141_7, hfz141_8⟩ := cells9_ BK365.out
      have hnb142 := NB297_272.out
      have hnc142 := NB272_297.out
      have hnb143 := NB297_309.out
      have hnc143 := NB309_297.out
      have hnb144 := NB297_322.out
      have hnc144 := NB322_297.out
      obtain ⟨hcz145_0, hcz145_1, hcz145_2, hcz145_3, hcz145_4, hcz145_5, hcz145_6, hcz145_7, hcz145_8, hfz145_0, hfz145_1, hfz145_2, hfz145_3, hfz145_4, hfz145_5, hfz145_6, hfz145_7, hfz145_8⟩ := cells9_ BK297.out
      go_wp2_with (first | ((with_reducible refine gate_callee (f := 26) rfl ?_); refine goesL_ (some 86) rfl rfl Try.func26 (by kernel_rfl) rfl #[.agg #[.int .i64 t353, .int .i64 t354, .int .i64 t355, .int .i64 t356, .int .i64 t357, .int .i64 t358, .bool t359, .bool t360, .slice Ao124 t361.length co124], .agg #[.int .i64 t285, .int .i64 t286, .int .i64 t287, .int .i64 t288, .int .i64 t289, .int .i64 t290, .bool t291, .bool t292, .slice Ao23 t293.length co23]] rfl (by (try simp only [lm_, lo_, ln_]); first | done | rfl | (simp only [List.length_drop, List.length_take]; rfl)) ?_; (with_reducible refine (laws_eqPacket.calls kj60 t353 t354 t355 t356 t357 t358 t359 t360 _ _ t361 t285 t286 t287 t288 t289 t290 t291 t292 _ _ t293 false _ ?side1 ?side2 ?side3 ?side4 A125.out).mono ?_); (case side1 => refine (Kd.R_reads' (e := 5) (base := w.heap.size) (ok := fun k_ => ((((True ∧ some k_ ≠ (.slice Ao23 t293.length co23 : Value).ownBlock) ∧ some k_ ≠ (.slice Ao30 t337.length co30 : Value).ownBlock) ∧ some k_ ≠ (.slice Ao37 t318.length co37 : Value).ownBlock) ∧ some k_ ≠ (.slice Ao116 t350.length co116 : Value).ownBlock)) (n := t361.length) (c := co124) ?_).2.2; exact (by (with_reducible repeat (first | apply Kd.R_alloc | apply Kd.R_drewN | apply Kd.R_drew)); exact (Kd.R_mono (Kd.R_far (p := ⟨gb365, 8, none⟩) (Kd.R_far (p := ⟨gb365, 7, none⟩) (Kd.R_far (p := ⟨gb365, 6, none⟩) (Kd.R_far (p := ⟨gb365, 5, none⟩) (Kd.R_far (p := ⟨gb365, 4, none⟩) (Kd.R_far (p := ⟨gb365, 3, none⟩) (Kd.R_far (p := ⟨gb365, 2, none⟩) (Kd.R_far (p := ⟨gb365, 1, none⟩) (Kd.R_far (p := ⟨gb365, 0, none⟩) (Kd.R_types HO363.out BK365.out (by decide)) (fun _ hk => hk.2) (.int .i64 t353)) (fun _ hk => hk.2) (.int .i64 t354)) (fun _ hk => hk.2) (.int .i64 t355)) (fun _ hk => hk.2) (.int .i64 t356)) (fun _ hk => hk.2) (.int .i64 t357)) (fun _ hk => hk.2) (.int .i64 t358)) (fun _ hk => hk.2) (.bool t359)) (fun _ hk => hk.2) (.bool t360)) (fun _ hk => hk.2) (.slice Ao124 t361.length co124)) (fun _ h_ => by first | exact h_.1 | simp only [h_, ne_eq, not_false_eq_true, and_self])))); (case side2 => exact (Kd.R_reads' HO363.out).2.1); (case side3 => refine (Kd.R_reads' (e := 5) (base := w.heap.size) (ok := fun k_ => (((some k_ ≠ (.slice Ao30 t337.length co30 : Value).ownBlock ∧ some k_ ≠ (.slice Ao37 t318.length co37 : Value).ownBlock) ∧ some k_ ≠ (.slice Ao116 t350.length co116 : Value).ownBlock) ∧ some k_ ≠ (.slice Ao124 t361.length co124 : Value).ownBlock)) (n := t293.length) (c := co23) ?_).2.2; exact (by (with_reducible repeat (first | apply Kd.R_alloc | apply Kd.R_drewN | apply Kd.R_drew)); exact (Kd.R_mono (Kd.R_far (p := ⟨gb365, 8, none⟩) (Kd.R_far (p := ⟨gb365, 7, none⟩) (Kd.R_far (p := ⟨gb365, 6, none⟩) (Kd.R_far (p := ⟨gb365, 5, none⟩) (Kd.R_far (p := ⟨gb365, 4, none⟩) (Kd.R_far (p := ⟨gb365, 3, none⟩) (Kd.R_far (p := ⟨gb365, 2, none⟩) (Kd.R_far (p := ⟨gb365, 1, none⟩) (Kd.R_far (p := ⟨gb365, 0, none⟩) (Kd.R_types HO_298008.out BK365.out (by decide)) (fun _ hk => hk.2) (.int .i64 t353)) (fun _ hk => hk.2) (.int .i64 t354)) (fun _ hk => hk.2) (.int .i64 t355)) (fun _ hk => hk.2) (.int .i64 t356)) (fun _ hk => hk.2) (.int .i64 t357)) (fun _ hk => hk.2) (.int .i64 t358)) (fun _ hk => hk.2) (.bool t359)) (fun _ hk => hk.2) (.bool t360)) (fun _ hk => hk.2) (.slice Ao124 t361.length co124)) (fun _ h_ => by first | exact h_.1 | simp only [h_, ne_eq, not_false_eq_true, and_self])))); (case side4 => exact (Kd.R_reads' HO_298008.out).2.1); rintro e w146 ⟨rfl, hb⟩; refine ⟨_, rfl, ?_⟩; have n0_ := mk_ (Kd.R_below (by (with_reducible repeat (first | apply Kd.R_alloc | apply Kd.R_drewN | apply Kd.R_drew)); exact (Kd.R_mono (Kd.R_far (p := ⟨gb365, 8, none⟩) (Kd.R_far (p := ⟨gb365, 7, none⟩) (Kd.R_far (p := ⟨gb365, 6, none⟩) (Kd.R_far (p := ⟨gb365, 5, none⟩) (Kd.R_far (p := ⟨gb365, 4, none⟩) (Kd.R_far (p := ⟨gb365, 3, none⟩) (Kd.R_far (p := ⟨gb365, 2, none⟩) (Kd.R_far (p := ⟨gb365, 1, none⟩) (Kd.R_far (p := ⟨gb365, 0, none⟩) (Kd.R_types HO_298008.out BK365.out (by decide)) (fun _ hk => hk.2) (.int .i64 t353)) (fun _ hk => hk.2) (.int .i64 t354)) (fun _ hk => hk.2) (.int .i64 t355)) (fun _ hk => hk.2) (.int .i64 t356)) (fun _ hk => hk.2) (.int .i64 t357)) (fun _ hk => hk.2) (.int .i64 t358)) (fun _ hk => hk.2) (.bool t359)) (fun _ hk => hk.2) (.bool t360)) (fun _ hk => hk.2) (.slice Ao124 t361.length co124)) (fun _ h_ => by first | exact h_.1 | simp only [h_, ne_eq, not_false_eq_true, and_self]))) hb); have n1_ := mk_ (Kd.R_below (by (with_reducible repeat (first | apply Kd.R_alloc | apply Kd.R_drewN | apply Kd.R_drew)); exact (Kd.R_mono (Kd.R_far (p := ⟨gb365, 8, none⟩) (Kd.R_far (p := ⟨gb365, 7, none⟩) (Kd.R_far (p := ⟨gb365, 6, none⟩) (Kd.R_far (p := ⟨gb365, 5, none⟩) (Kd.R_far (p := ⟨gb365, 4, none⟩) (Kd.R_far (p := ⟨gb365, 3, none⟩) (Kd.R_far (p := ⟨gb365, 2, none⟩) (Kd.R_far (p := ⟨gb365, 1, none⟩) (Kd.R_far (p := ⟨gb365, 0, none⟩) (Kd.R_types HO_310008.out BK365.out (by decide)) (fun _ hk => hk.2) (.int .i64 t353)) (fun _ hk => hk.2) (.int .i64 t354)) (fun _ hk => hk.2) (.int .i64 t355)) (fun _ hk => hk.2) (.int .i64 t356)) (fun _ hk => hk.2) (.int .i64 t357)) (fun _ hk => hk.2) (.int .i64 t358)) (fun _ hk => hk.2) (.bool t359)) (fun _ hk => hk.2) (.bool t360)) (fun _ hk => hk.2) (.slice Ao124 t361.length co124)) (fun _ h_ => by first | exact h_.1 | simp only [h_, ne_eq, not_false_eq_true, and_self]))) hb); have n2_ := mk_ (Kd.R_below (by (with_reducible repeat (first | apply Kd.R_alloc | apply Kd.R_drewN | apply Kd.R_drew)); exact (Kd.R_mono (Kd.R_far (p := ⟨gb365, 8, none⟩) (Kd.R_far (p := ⟨gb365, 7, none⟩) (Kd.R_far (p := ⟨gb365, 6, none⟩) (Kd.R_far (p := ⟨gb365, 5, none⟩) (Kd.R_far (p := ⟨gb365, 4, none⟩) (Kd.R_far (p := ⟨gb365, 3, none⟩) (Kd.R_far (p := ⟨gb365, 2, none⟩) (Kd.R_far (p := ⟨gb365, 1, none⟩) (Kd.R_far (p := ⟨gb365, 0, none⟩) (Kd.R_types HO_323008.out BK365.out (by decide)) (fun _ hk => hk.2) (.int .i64 t353)) (fun _ hk => hk.2) (.int .i64 t354)) (fun _ hk => hk.2) (.int .i64 t355)) (fun _ hk => hk.2) (.int .i64 t356)) (fun _ hk => hk.2) (.int .i64 t357)) (fun _ hk => hk.2) (.int .i64 t358)) (fun _ hk => hk.2) (.bool t359)) (fun _ hk => hk.2) (.bool t360)) (fun _ hk => hk.2) (.slice Ao124 t361.length co124)) (fun _ h_ => by first | exact h_.1 | simp only [h_, ne_eq, not_false_eq_true, and_self]))) hb); have n3_ := mk_ (Kd.R_below (by (with_reducible repeat (first | apply Kd.R_alloc | apply Kd.R_drewN | apply Kd.R_drew)); exact (Kd.R_mono (Kd.R_far (p := ⟨gb365, 8, none⟩) (Kd.R_far (p := ⟨gb365, 7, none⟩) (Kd.R_far (p := ⟨gb365, 6, none⟩) (Kd.R_far (p := ⟨gb365, 5, none⟩) (Kd.R_far (p := ⟨gb365, 4, none⟩) (Kd.R_far (p := ⟨gb365, 3, none⟩) (Kd.R_far (p := ⟨gb365, 2, none⟩) (Kd.R_far (p := ⟨gb365, 1, none⟩) (Kd.R_far (p := ⟨gb365, 0, none⟩) (Kd.R_types HO352.out BK365.out (by decide)) (fun _ hk => hk.2) (.int .i64 t353)) (fun _ hk => hk.2) (.int .i64 t354)) (fun _ hk => hk.2) (.int .i64 t355)) (fun _ hk => hk.2) (.int .i64 t356)) (fun _ hk => hk.2) (.int .i64 t357)) (fun _ hk => hk.2) (.int .i64 t358)) (fun _ hk => hk.2) (.bool t359)) (fun _ hk => hk.2) (.bool t360)) (fun _ hk => hk.2) (.slice Ao124 t361.length co124)) (fun _ h_ => by first | exact h_.1 | simp only [h_, ne_eq, not_false_eq_true, and_self]))) hb); have n4_ := mk_ (Kd.R_below (by (with_reducible repeat (first | apply Kd.R_alloc | apply Kd.R_drewN | apply Kd.R_drew)); exact (Kd.R_mono (Kd.R_far (p := ⟨gb365, 8, none⟩) (Kd.R_far (p := ⟨gb365, 7, none⟩) (Kd.R_far (p := ⟨gb365, 6, none⟩) (Kd.R_far (p := ⟨gb365, 5, none⟩) (Kd.R_far (p := ⟨gb365, 4, none⟩) (Kd.R_far (p := ⟨gb365, 3, none⟩) (Kd.R_far (p := ⟨gb365, 2, none⟩) (Kd.R_far (p := ⟨gb365, 1, none⟩) (Kd.R_far (p := ⟨gb365, 0, none⟩) (Kd.R_types HO363.out BK365.out (by decide)) (fun _ hk => hk.2) (.int .i64 t353)) (fun _ hk => hk.2) (.int .i64 t354)) (fun _ hk => hk.2) (.int .i64 t355)) (fun _ hk => hk.2) (.int .i64 t356)) (fun _ hk => hk.2) (.int .i64 t357)) (fun _ hk => hk.2) (.int .i64 t358)) (fun _ hk => hk.2) (.bool t359)) (fun _ hk => hk.2) (.bool t360)) (fun _ hk => hk.2) (.slice Ao124 t361.length co124)) (fun _ h_ => by first | exact h_.1 | simp only [h_, ne_eq, not_false_eq_true, and_self]))) hb); have n5_ := mk_ (blk_below (g := gb272) (o := .cells #[.int .i64 a0_0, .int .i64 a0_1, .int .i64 a0_2, .int .i64 a0_3, .int .i64 a0_4, .int .i64 a0_5, .bool a0_6, .bool a0_7, .slice A0_8 l0_8.length c0_8] 41 (0, 0)) (uf_ BK272.out) hb); have n6_ := mk_ (blk_below (g := gb297) (o := .cells #[.int .i64 t285, .int .i64 t286, .int .i64 t287, .int .i64 t288, .int .i64 t289, .int .i64 t290, .bool t291, .bool t292, .slice Ao23 t293.length co23] 24 (0, 0)) (uf_ BK297.out) hb); have n7_ := mk_ (blk_below (g := gb309) (o := .cells #[.int .i64 t298, .int .i64 t299, .int .i64 t300, .int .i64 t301, .int .i64 t302, .int .i64 t303, .bool t304, .bool t305, .slice Ao30 t337.length co30] 24 (0, 0)) (uf_ BK309.out) hb); have n8_ := mk_ (blk_below (g := gb322) (o := .cells #[.int .i64 t310, .int .i64 t311, .int .i64 t312, .int .i64 t313, .int .i64 t314, .int .i64 t315, .bool t316, .bool t317, .slice Ao37 t318.length co37] 24 (0, 0)) (uf_ BK322.out) hb); have n9_ := mk_ (blk_below (g := gb365) (o := .cells #[.int .i64 t353, .int .i64 t354, .int .i64 t355, .int .i64 t356, .int .i64 t357, .int .i64 t358, .bool t359, .bool t360, .slice Ao124 t361.length co124] 24 (0, 0)) (by (with_reducible repeat (first | refine bn_ ?_ _ | refine bw_ ?_ | refine ba_ ?_ _)); refine blk_put (cs := #[.int .i64 t353, .int .i64 t354, .int .i64 t355, .int .i64 t356, .int .i64 t357, .int .i64 t358, .bool t359, .bool t360, .slice none 0 0]) ?_ 8 _ rfl; (with_reducible repeat (first | refine bn_ ?_ _ | refine bw_ ?_ | refine ba_ ?_ _)); refine blk_put (cs := #[.int .i64 t353, .int .i64 t354, .int .i64 t355, .int .i64 t356, .int .i64 t357, .int .i64 t358, .bool t359, .bool false, .slice none 0 0]) ?_ 7 _ rfl; (with_reducible repeat (first | refine bn_ ?_ _ | refine bw_ ?_ | refine ba_ ?_ _)); refine blk_put (cs := #[.int .i64 t353, .int .i64 t354, .int .i64 t355, .int .i64 t356, .int .i64 t357, .int .i64 t358, .bool false, .bool false, .slice none 0 0]) ?_ 6 _ rfl; (with_reducible repeat (first | refine bn_ ?_ _ | refine bw_ ?_ | refine ba_ ?_ _)); refine blk_put (cs := #[.int .i64 t353, .int .i64 t354, .int .i64 t355, .int .i64 t356, .int .i64 t357, .int .i64 0, .bool false, .bool false, .slice none 0 0]) ?_ 5 _ rfl; (with_reducible repeat (first | refine bn_ ?_ _ | refine bw_ ?_ | refine ba_ ?_ _)); refine blk_put (cs := #[.int .i64 t353, .int .i64 t354, .int .i64 t355, .int .i64 t356, .int .i64 0, .int .i64 0, .bool false, .bool false, .slice none 0 0]) ?_ 4 _ rfl; (with_reducible repeat (first | refine bn_ ?_ _ | refine bw_ ?_ | refine ba_ ?_ _)); refine blk_put (cs := #[.int .i64 t353, .int .i64 t354, .int .i64 t355, .int .i64 0, .int .i64 0, .int .i64 0, .bool false, .bool false, .slice none 0 0]) ?_ 3 _ rfl; (with_reducible repeat (first | refine bn_ ?_ _ | refine bw_ ?_ | refine ba_ ?_ _)); refine blk_put (cs := #[.int .i64 t353, .int .i64 t354, .int .i64 0, .int .i64 0, .int .i64 0, .int .i64 0, .bool false, .bool false, .slice none 0 0]) ?_ 2 _ rfl; (with_reducible repeat (first | refine bn_ ?_ _ | refine bw_ ?_ | refine ba_ ?_ _)); refine blk_put (cs := #[.int .i64 t353, .int .i64 0, .int .i64 0, .int .i64 0, .int .i64 0, .int .i64 0, .bool false, .bool false, .slice none 0 0]) ?_ 1 _ rfl; (with_reducible repeat (first | refine bn_ ?_ _ | refine bw_ ?_ | refine ba_ ?_ _)); refine blk_put (cs := #[.int .i64 0, .int .i64 0, .int .i64 0, .int .i64 0, .int .i64 0, .int .i64 0, .bool false, .bool false, .slice none 0 0]) ?_ 0 _ rfl; (with_reducible repeat (first | refine bn_ ?_ _ | refine bw_ ?_ | refine ba_ ?_ _)); exact BK365.out) hb); have n10_ := mk_ (below_step (us_ HB.out) hb); clear HO_298008; clear HO_310008; clear HO_323008; clear HO352; clear HO363; clear BK272; clear BK297; clear BK309; clear BK322; clear BK365; clear HB; have HO_298008 := n0_; have HO_310008 := n1_; have HO_323008 := n2_; have HO352 := n3_; have HO363 := n4_; have BK272 := n5_; have BK297 := n6_; have BK309 := n7_; have BK322 := n8_; have BK365 := n9_; have HB := n10_; clear n0_ n1_ n2_ n3_ n4_ n5_ n6_ n7_ n8_ n9_ n10_; (try clear hb); (try clear hb2); (try clear hk); (try clear hi)))
      go_meet
      case rel => exact ⟨_, (true), (by first | rfl | (simp; done) | (simp [*]; done)), H', ⟨by have := HJ11.out; have := HJ60.out; first | omega | exact Nat.le_refl _⟩, ⟨by (try simp only [hl310008_60]); (with_reducible repeat (first | apply Kd.R_alloc | apply Kd.R_drewN | apply Kd.R_drew)); exact Kd.R_mono HO_298008.out (fun _ hk => by first | exact ⟨hk.1.1.1, ⟨hk.1.1.2, hk.2⟩⟩ | exact hk.1 | exact hk | exact ⟨hk.1, hk.2⟩ | exact ⟨.inr hk.1, hk.2⟩ | simp only [hk, ne_eq, not_false_eq_true, and_self])⟩, ⟨by (try simp only [hl310008_60]); (with_reducible repeat (first | apply Kd.R_alloc | apply Kd.R_drewN | apply Kd.R_drew)); exact Kd.R_mono HO_310008.out (fun _ hk => by first | exact ⟨hk.1.1.1, ⟨hk.1.1.2, hk.2⟩⟩ | exact hk.1 | exact hk | exact ⟨hk.1, hk.2⟩ | exact ⟨.inr hk.1, hk.2⟩ | simp only [hk, ne_eq, not_false_eq_true, and_self])⟩, ⟨by (try simp only [hl310008_60]); (with_reducible repeat (first | apply Kd.R_alloc | apply Kd.R_drewN | apply Kd.R_drew)); exact Kd.R_mono HO_323008.out (fun _ hk => by first | exact ⟨hk.1.1.1, ⟨hk.1.1.2, hk.2⟩⟩ | exact hk.1 | exact hk | exact ⟨hk.1, hk.2⟩ | exact ⟨.inr hk.1, hk.2⟩ | simp only [hk, ne_eq, not_false_eq_true, and_self])⟩, ⟨by (try simp only [hl310008_60]); (with_reducible repeat (first | apply Kd.R_alloc | apply Kd.R_drewN | apply Kd.R_drew)); exact Kd.R_mono HO363.out (fun _ hk => by first | exact ⟨hk.1.1.1.2, ⟨hk.1.1.2, hk.1.2⟩⟩ | exact hk.1 | exact hk | exact ⟨hk.1, hk.2⟩ | exact ⟨.inr hk.1, hk.2⟩ | simp only [hk, ne_eq, not_false_eq_true, and_self])⟩, ⟨by (try simp only [hl310008_60]); (with_reducible repeat (first | refine bn_ ?_ _ | refine bw_ ?_ | refine ba_ ?_ _)); exact BK272.out⟩, ⟨by (try simp only [hl310008_60]); (with_reducible repeat (first | refine bn_ ?_ _ | refine bw_ ?_ | refine ba_ ?_ _)); exact BK297.out⟩, ⟨by (try simp only [hl310008_60]); (with_reducible repeat (first | refine bn_ ?_ _ | refine bw_ ?_ | refine ba_ ?_ _)); exact BK309.out⟩, ⟨by (try simp only [hl310008_60]); (with_reducible repeat (first | refine bn_ ?_ _ | refine bw_ ?_ | refine ba_ ?_ _)); exact BK322.out⟩, ⟨by (try simp only [hl310008_60]); (with_reducible repeat (first | refine bn_ ?_ _ | refine bw_ ?_ | refine ba_ ?_ _)); exact BK365.out⟩, ⟨us_ HB.out⟩⟩
     case rest =>
      clear HC104
      try clear c1
      try clear c2
      try clear p2
      try clear c3
      try clear c4
      try clear c4b0
      try clear c5
      try clear c6
      try clear c7
      try clear c8
      try clear c9
      try clear c10
      try clear c11
      try clear c12
      try clear c13
      try clear c14
      try clear c21
      try clear c22
      try clear c23
      try clear c24
      try clear c25
      try clear c26
      try clear c27
      try clear c28
      try clear c33
      try clear c34
      try clear c35
      try clear c39
      try clear c40
      try clear c41
      try clear c42
      try clear c44
      try clear c45
      try clear c48
      try clear c49
      try clear c50
      try clear c52
      try clear c53
      try clear c56
      try clear c59
      try clear c66
      try clear c67
      try clear c68
      try clear c71
      try clear c71b0
      try clear c73
      try clear c74
      try clear c75
      try clear c76
      try clear c78
      try clear c79
      try clear c82
      try clear c83
      try clear c84
      try clear c86
      try clear c87
      try clear c90
      try clear c93
      try clear c93b0
      try clear c94
      try clear c95
      try clear c96
      try clear c101
      try clear c101b0
      try clear c101b1
      try clear c105
      try clear c106
      try clear c107
      try clear c112
      try clear c113
      try clear c119
      try clear c120
      try clear c121
      try clear c122
      try clear c126
      try clear c127
      try clear c128
      try clear c129
      try clear c130
      try clear c132
      try clear c133
      try clear c134
      try clear c137
      try clear c138
      try clear c139
      try clear c140
      try clear c142
      try clear c143
      try clear c144
      try clear hcz108_0
      try clear hcz108_1
      try clear hcz108_2
      try clear hcz108_3
      try clear hcz108_4
      try clear hcz108_5
      try clear hcz108_6
      try clear hcz108_7
      try clear hcz108_8
      try clear hcz110_0
      try clear hcz110_1
      try clear hcz110_2
      try clear hcz110_3
      try clear hcz110_4
      try clear hcz110_5
      try clear hcz110_6
      try clear hcz110_7
      try clear hcz110_8
      try clear hcz114_0
      try clear hcz114_1
      try clear hcz114_2
      try clear hcz114_3
      try clear hcz114_4
      try clear hcz114_5
      try clear hcz114_6
      try clear hcz114_7
      try clear hcz114_8
      try clear hcz123_0
      try clear hcz123_1
      try clear hcz123_2
      try clear hcz123_3
      try clear hcz123_4
      try clear hcz123_5
      try clear hcz123_6
      try clear hcz123_7
      try clear hcz123_8
      try clear hcz131_0
      try clear hcz131_1
      try clear hcz131_2
      try clear hcz131_3
      try clear hcz131_4
      try clear hcz131_5
      try clear hcz131_6
      try clear hcz131_7
      try clear hcz131_8
      try clear hcz135_0
      try clear hcz135_1
      try clear hcz135_2
      try clear hcz135_3
      try clear hcz135_4
      try clear hcz135_5
      try clear hcz135_6
      try clear hcz135_7
      try clear hcz135_8
      try clear hcz141_0
      try clear hcz141_1
      try clear hcz141_2
      try clear hcz141_3
      try clear hcz141_4
      try clear hcz141_5
      try clear hcz141_6
      try clear hcz141_7
      try clear hcz141_8
      try clear hcz145_0
      try clear hcz145_1
      try clear hcz145_2
      try clear hcz145_3
      try clear hcz145_4
      try clear hcz145_5
      try clear hcz145_6
      try clear hcz145_7
      try clear hcz145_8
      try clear hcz14_0
      try clear hcz14_1
      try clear hcz14_2
      try clear hcz14_3
      try clear hcz14_4
      try clear hcz14_5
      try clear hcz14_6
      try clear hcz14_7
      try clear hcz14_8
      try clear hcz16_0
      try clear hcz16_1
      try clear hcz16_2
      try clear hcz16_3
      try clear hcz16_4
      try clear hcz16_5
      try clear hcz16_6
      try clear hcz16_7
      try clear hcz16_8
      try clear hcz22_0
      try clear hcz22_1
      try clear hcz22_2
      try clear hcz22_3
      try clear hcz22_4
      try clear hcz22_5
      try clear hcz22_6
      try clear hcz22_7
      try clear hcz22_8
      try clear hcz24_0
      try clear hcz24_1
      try clear hcz24_2
      try clear hcz24_3
      try clear hcz24_4
      try clear hcz24_5
      try clear hcz24_6
      try clear hcz24_7
      try clear hcz24_8
      try clear hcz29_0
      try clear hcz29_1
      try clear hcz29_2
      try clear hcz29_3
      try clear hcz29_4
      try clear hcz29_5
      try clear hcz29_6
      try clear hcz29_7
      try clear hcz29_8
      try clear hcz36_0
      try clear hcz36_1
      try clear hcz36_2
      try clear hcz36_3
      try clear hcz36_4
      try clear hcz36_5
      try clear hcz36_6
      try clear hcz36_7
      try clear hcz36_8
      try clear hcz43_0
      try clear hcz43_1
      try clear hcz43_2
      try clear hcz43_3
      try clear hcz43_4
      try clear hcz43_5
      try clear hcz43_6
      try clear hcz43_7
      try clear hcz43_8
      try clear hcz46_0
      try clear hcz46_1
      try clear hcz46_2
      try clear hcz46_3
      try clear hcz46_4
      try clear hcz46_5
      try clear hcz46_6
      try clear hcz46_7
      try clear hcz46_8
      try clear hcz51_0
      try clear hcz51_1
      try clear hcz51_2
      try clear hcz51_3
      try clear hcz51_4
      try clear hcz51_5
      try clear hcz51_6
      try clear hcz51_7
      try clear hcz51_8
      try clear hcz54_0
      try clear hcz54_1
      try clear hcz54_2
      try clear hcz54_3
      try clear hcz54_4
      try clear hcz54_5
      try clear hcz54_6
      try clear hcz54_7
      try clear hcz54_8
      try clear hcz69_0
      try clear hcz69_1
      try clear hcz69_2
      try clear hcz69_3
      try clear hcz69_4
      try clear hcz69_5
      try clear hcz69_6
      try clear hcz69_7
      try clear hcz69_8
      try clear hcz6_0
      try clear hcz6_1
      try clear hcz6_2
      try clear hcz6_3
      try clear hcz6_4
      try clear hcz6_5
      try clear hcz6_6
      try clear hcz6_7
      try clear hcz6_8
      try clear hcz77_0
      try clear hcz77_1
      try clear hcz77_2
      try clear hcz77_3
      try clear hcz77_4
      try clear hcz77_5
      try clear hcz77_6
      try clear hcz77_7
      try clear hcz77_8
      try clear hcz80_0
      try clear hcz80_1
      try clear hcz80_2
      try clear hcz80_3
      try clear hcz80_4
      try clear hcz80_5
      try clear hcz80_6
      try clear hcz80_7
      try clear hcz80_8
      try clear hcz85_0
      try clear hcz85_1
      try clear hcz85_2
      try clear hcz85_3
      try clear hcz85_4
      try clear hcz85_5
      try clear hcz85_6
      try clear hcz85_7
      try clear hcz85_8
      try clear hcz88_0
      try clear hcz88_1
      try clear hcz88_2
      try clear hcz88_3
      try clear hcz88_4
      try clear hcz88_5
      try clear hcz88_6
      try clear hcz88_7
      try clear hcz88_8
      try clear hcz97_0
      try clear hcz97_1
      try clear hcz97_2
      try clear hcz97_3
      try clear hcz97_4
      try clear hcz97_5
      try clear hcz97_6
      try clear hcz97_7
      try clear hcz97_8
      try clear hcz99_0
      try clear hcz99_1
      try clear hcz99_2
      try clear hcz99_3
      try clear hcz99_4
      try clear hcz99_5
      try clear hcz99_6
      try clear hcz99_7
      try clear hcz99_8
      try clear hfz108_0
      try clear hfz108_1
      try clear hfz108_2
      try clear hfz108_3
      try clear hfz108_4
      try clear hfz108_5
      try clear hfz108_6
      try clear hfz108_7
      try clear hfz108_8
      try clear hfz110_0
      try clear hfz110_1
      try clear hfz110_2
      try clear hfz110_3
      try clear hfz110_4
      try clear hfz110_5
      try clear hfz110_6
      try clear hfz110_7
      try clear hfz110_8
      try clear hfz114_0
      try clear hfz114_1
      try clear hfz114_2
      try clear hfz114_3
      try clear hfz114_4
      try clear hfz114_5
      try clear hfz114_6
      try clear hfz114_7
      try clear hfz114_8
      try clear hfz123_0
      try clear hfz123_1
      try clear hfz123_2
      try clear hfz123_3
      try clear hfz123_4
      try clear hfz123_5
      try clear hfz123_6
      try clear hfz123_7
      try clear hfz123_8
      try clear hfz131_0
      try clear hfz131_1
      try clear hfz131_2
      try clear hfz131_3
      try clear hfz131_4
      try clear hfz131_5
      try clear hfz131_6
      try clear hfz131_7
      try clear hfz131_8
      try clear hfz135_0
      try clear hfz135_1
      try clear hfz135_2
      try clear hfz135_3
      try clear hfz135_4
      try clear hfz135_5
      try clear hfz135_6
      try clear hfz135_7
      try clear hfz135_8
      try clear hfz141_0
      try clear hfz141_1
      try clear hfz141_2
      try clear hfz141_3
      try clear hfz141_4
      try clear hfz141_5
      try clear hfz141_6
      try clear hfz141_7
      try clear hfz141_8
      try clear hfz145_0
      try clear hfz145_1
      try clear hfz145_2
      try clear hfz145_3
      try clear hfz145_4
      try clear hfz145_5
      try clear hfz145_6
      try clear hfz145_7
      try clear hfz145_8
      try clear hfz14_0
      try clear hfz14_1
      try clear hfz14_2
      try clear hfz14_3
      try clear hfz14_4
      try clear hfz14_5
      try clear hfz14_6
      try clear hfz14_7
      try clear hfz14_8
      try clear hfz16_0
      try clear hfz16_1
      try clear hfz16_2
      try clear hfz16_3
      try clear hfz16_4
      try clear hfz16_5
      try clear hfz16_6
      try clear hfz16_7
      try clear hfz16_8
      try clear hfz22_0
      try clear hfz22_1
      try clear hfz22_2
      try clear hfz22_3
      try clear hfz22_4
      try clear hfz22_5
      try clear hfz22_6
      try clear hfz22_7
      try clear hfz22_8
      try clear hfz24_0
      try clear hfz24_1
      try clear hfz24_2
      try clear hfz24_3
      try clear hfz24_4
      try clear hfz24_5
      try clear hfz24_6
      try clear hfz24_7
      try clear hfz24_8
      try clear hfz29_0
      try clear hfz29_1
      try clear hfz29_2
      try clear hfz29_3
      try clear hfz29_4
      try clear hfz29_5
      try clear hfz29_6
      try clear hfz29_7
      try clear hfz29_8
      try clear hfz36_0
      try clear hfz36_1
      try clear hfz36_2
      try clear hfz36_3
      try clear hfz36_4
      try clear hfz36_5
      try clear hfz36_6
      try clear hfz36_7
      try clear hfz36_8
      try clear hfz43_0
      try clear hfz43_1
      try clear hfz43_2
      try clear hfz43_3
      try clear hfz43_4
      try clear hfz43_5
      try clear hfz43_6
      try clear hfz43_7
      try clear hfz43_8
      try clear hfz46_0
      try clear hfz46_1
      try clear hfz46_2
      try clear hfz46_3
      try clear hfz46_4
      try clear hfz46_5
      try clear hfz46_6
      try clear hfz46_7
      try clear hfz46_8
      try clear hfz51_0
      try clear hfz51_1
      try clear hfz51_2
      try clear hfz51_3
      try clear hfz51_4
      try clear hfz51_5
      try clear hfz51_6
      try clear hfz51_7
      try clear hfz51_8
      try clear hfz54_0
      try clear hfz54_1
      try clear hfz54_2
      try clear hfz54_3
      try clear hfz54_4
      try clear hfz54_5
      try clear hfz54_6
      try clear hfz54_7
      try clear hfz54_8
      try clear hfz69_0
      try clear hfz69_1
      try clear hfz69_2
      try clear hfz69_3
      try clear hfz69_4
      try clear hfz69_5
      try clear hfz69_6
      try clear hfz69_7
      try clear hfz69_8
      try clear hfz6_0
      try clear hfz6_1
      try clear hfz6_2
      try clear hfz6_3
      try clear hfz6_4
      try clear hfz6_5
      try clear hfz6_6
      try clear hfz6_7
      try clear hfz6_8
      try clear hfz77_0
      try clear hfz77_1
      try clear hfz77_2
      try clear hfz77_3
      try clear hfz77_4
      try clear hfz77_5
      try clear hfz77_6
      try clear hfz77_7
      try clear hfz77_8
      try clear hfz80_0
      try clear hfz80_1
      try clear hfz80_2
      try clear hfz80_3
      try clear hfz80_4
      try clear hfz80_5
      try clear hfz80_6
      try clear hfz80_7
      try clear hfz80_8
      try clear hfz85_0
      try clear hfz85_1
      try clear hfz85_2
      try clear hfz85_3
      try clear hfz85_4
      try clear hfz85_5
      try clear hfz85_6
      try clear hfz85_7
      try clear hfz85_8
      try clear hfz88_0
      try clear hfz88_1
      try clear hfz88_2
      try clear hfz88_3
      try clear hfz88_4
      try clear hfz88_5
      try clear hfz88_6
      try clear hfz88_7
      try clear hfz88_8
      try clear hfz97_0
      try clear hfz97_1
      try clear hfz97_2
      try clear hfz97_3
      try clear hfz97_4
      try clear hfz97_5
      try clear hfz97_6
      try clear hfz97_7
      try clear hfz97_8
      try clear hfz99_0
      try clear hfz99_1
      try clear hfz99_2
      try clear hfz99_3
      try clear hfz99_4
      try clear hfz99_5
      try clear hfz99_6
      try clear hfz99_7
      try clear hfz99_8
      try clear p2
      obtain ⟨kq, x92_103, rfl, HA, HJ103, HO_298008, HO_310008, HO_323008, HO_366008, BK272, BK297, BK309, BK322, BK365, HB⟩ := hcut
      have hl323008_103 := (Kd.R_reads' HO_323008.out).1
      rw [hl323008_103] at HO_323008
      (try simp only [hl323008_103])
      (try simp only [hl323008_103] at BK272)
      (try simp only [hl323008_103] at BK297)
      (try simp only [hl323008_103] at BK309)
      (try simp only [hl323008_103] at BK322)
      (try simp only [hl323008_103] at BK365)
      (try simp only [hl323008_103] at HO_298008)
      (try simp only [hl323008_103] at HO_310008)
      (try simp only [hl323008_103] at HO_366008)
      cases kq with
      | zero => exact absurd HA.out (by simp [laws_FnExactNoteEchoed.j2])
      | succ kj103 =>
       have H := HA.out
       clear HA
       simp only [laws_FnExactNoteEchoed.j2] at H
       by_cases c147 : x92_103 = true
       ·subst c147
        have H1 : (some false) = some r := by rw [if_pos rfl] at H; exact H
        clear H
        have H := H1
        clear H1
        obtain rfl := Option.some.inj H
        go_wp2
        go_ret
        exact ⟨by first | rfl | (simp [errW_none, errW_some] <;> rfl) | (simp [*, errW_none, errW_some] <;> rfl), us_ HB.out⟩
       replace c147 := Bool.eq_false_iff.mpr c147
       subst c147
       have H1 : ((laws_heldPacket.f kj103 t310 t311 t312 t313 t314 t315 t316 t317 t340 1).bind fun t367 => (if t367 < 0 then (some false) else (if t367 = t339 then (some true) else (some false)))) = some r := by rw [if_neg (show ¬ (false = true) by decide)] at H; exact H
       clear H
       have H := H1
       clear H1
       replace H := Option.bind_eq_some_iff.mp H
       obtain ⟨t367, A1480, H⟩ := H
       replace H : (if t367 < 0 then (some false) else (if t367 = t339 then (some true) else (some false))) = some r := H
       have A148 := mk_ A1480
       clear A1480
       by_cases c149 : t367 < 0
       ·rw [if_pos c149] at H
        have c149b0 : decide (t367 < 0) = true := decide_eq_true c149
        clear c149
        obtain rfl := Option.some.inj H
        have hnb150 := NB322_272.out
        have hnc150 := NB272_322.out
        have hnb151 := NB322_297.out
        have hnc151 := NB297_322.out
        have hnb152 := NB322_309.out
        have hnc152 := NB309_322.out
        have hnb153 := NB322_365.out
        have hnc153 := NB365_322.out
        obtain ⟨hcz154_0, hcz154_1, hcz154_2, hcz154_3, hcz154_4, hcz154_5, hcz154_6, hcz154_7, hcz154_8, hfz154_0, hfz154_1, hfz154_2, hfz154_3, hfz154_4, hfz154_5, hfz154_6, hfz154_7, hfz154_8⟩ := cells9_ BK322.out
        go_wp2_with (first | ((with_reducible refine gate_callee (f := 28) rfl ?_); refine goesL_ (some 95) rfl rfl Try.func28 (by kernel_rfl) rfl #[.agg #[.int .i64 t310, .int .i64 t311, .int .i64 t312, .int .i64 t313, .int .i64 t314, .int .i64 t315, .bool t316, .bool t317, .slice Ao37 t340.length co37], .int .i64 1] rfl (by (try simp only [lm_, lo_, ln_]); first | done | rfl | (simp only [List.length_drop, List.length_take]; rfl)) ?_; (with_reducible refine (laws_heldPacket.calls kj103 t310 t311 t312 t313 t314 t315 t316 t317 _ _ t340 1 t367 _ ?side1 ?side2 A148.out).mono ?_); (case side1 => repeat (first | exact (Kd.R_reads' HO_323008.out).2.2 | (with_reducible refine Kd.C_alloc ?_ _) | (with_reducible refine Kd.C_drewN ?_ _) | (with_reducible refine Kd.C_drew ?_))); (case side2 => exact (Kd.R_reads' HO_323008.out).2.1); rintro e w155 ⟨rfl, hb⟩; refine ⟨_, rfl, ?_⟩; have n0_ := mk_ (Kd.R_below (Kd.ur_ HO_298008.out) hb); have n1_ := mk_ (Kd.R_below (Kd.ur_ HO_310008.out) hb); have n2_ := mk_ (Kd.R_below (Kd.ur_ HO_323008.out) hb); have n3_ := mk_ (Kd.R_below (Kd.ur_ HO_366008.out) hb); have n4_ := mk_ (blk_below (u_ BK272.out) hb); have n5_ := mk_ (blk_below (u_ BK297.out) hb); have n6_ := mk_ (blk_below (u_ BK309.out) hb); have n7_ := mk_ (blk_below (u_ BK322.out) hb); have n8_ := mk_ (blk_below (u_ BK365.out) hb); have n9_ := mk_ (below_step (us_ HB.out) hb); clear HO_298008; clear HO_310008; clear HO_323008; clear HO_366008; clear BK272; clear BK297; clear BK309; clear BK322; clear BK365; clear HB; have HO_298008 := n0_; have HO_310008 := n1_; have HO_323008 := n2_; have HO_366008 := n3_; have BK272 := n4_; have BK297 := n5_; have BK309 := n6_; have BK322 := n7_; have BK365 := n8_; have HB := n9_; clear n0_ n1_ n2_ n3_ n4_ n5_ n6_ n7_ n8_ n9_; (try clear hb); (try clear hb2); (try clear hk); (try clear hi)))
        go_ret
        exact ⟨by first | rfl | (simp [errW_none, errW_some] <;> rfl) | (simp [*, errW_none, errW_some] <;> rfl), us_ HB.out⟩
       rw [if_neg c149] at H
       have c149b0 : decide (t367 < 0) = false := decide_eq_false c149
       clear c149
       by_cases c156 : t367 = t339
       rotate_left
       ·rw [if_neg c156] at H
        have c156b0 : (t367 == t339) = false := beq_eq_false_iff_ne.mpr c156
        have c156b1 : (t367 != t339) = true := bne_iff_ne.mpr c156
        obtain rfl := Option.some.inj H
        have hnb163 := NB322_272.out
        have hnc163 := NB272_322.out
        have hnb164 := NB322_297.out
        have hnc164 := NB297_322.out
        have hnb165 := NB322_309.out
        have hnc165 := NB309_322.out
        have hnb166 := NB322_365.out
        have hnc166 := NB365_322.out
        obtain ⟨hcz167_0, hcz167_1, hcz167_2, hcz167_3, hcz167_4, hcz167_5, hcz167_6, hcz167_7, hcz167_8, hfz167_0, hfz167_1, hfz167_2, hfz167_3, hfz167_4, hfz167_5, hfz167_6, hfz167_7, hfz167_8⟩ := cells9_ BK322.out
        go_wp2_with (first | ((with_reducible refine gate_callee (f := 28) rfl ?_); refine goesL_ (some 95) rfl rfl Try.func28 (by kernel_rfl) rfl #[.agg #[.int .i64 t310, .int .i64 t311, .int .i64 t312, .int .i64 t313, .int .i64 t314, .int .i64 t315, .bool t316, .bool t317, .slice Ao37 t340.length co37], .int .i64 1] rfl (by (try simp only [lm_, lo_, ln_]); first | done | rfl | (simp only [List.length_drop, List.length_take]; rfl)) ?_; (with_reducible refine (laws_heldPacket.calls kj103 t310 t311 t312 t313 t314 t315 t316 t317 _ _ t340 1 t367 _ ?side1 ?side2 A148.out).mono ?_); (case side1 => repeat (first | exact (Kd.R_reads' HO_323008.out).2.2 | (with_reducible refine Kd.C_alloc ?_ _) | (with_reducible refine Kd.C_drewN ?_ _) | (with_reducible refine Kd.C_drew ?_))); (case side2 => exact (Kd.R_reads' HO_323008.out).2.1); rintro e w168 ⟨rfl, hb⟩; refine ⟨_, rfl, ?_⟩; have n0_ := mk_ (Kd.R_below (Kd.ur_ HO_298008.out) hb); have n1_ := mk_ (Kd.R_below (Kd.ur_ HO_310008.out) hb); have n2_ := mk_ (Kd.R_below (Kd.ur_ HO_323008.out) hb); have n3_ := mk_ (Kd.R_below (Kd.ur_ HO_366008.out) hb); have n4_ := mk_ (blk_below (u_ BK272.out) hb); have n5_ := mk_ (blk_below (u_ BK297.out) hb); have n6_ := mk_ (blk_below (u_ BK309.out) hb); have n7_ := mk_ (blk_below (u_ BK322.out) hb); have n8_ := mk_ (blk_below (u_ BK365.out) hb); have n9_ := mk_ (below_step (us_ HB.out) hb); clear HO_298008; clear HO_310008; clear HO_323008; clear HO_366008; clear BK272; clear BK297; clear BK309; clear BK322; clear BK365; clear HB; have HO_298008 := n0_; have HO_310008 := n1_; have HO_323008 := n2_; have HO_366008 := n3_; have BK272 := n4_; have BK297 := n5_; have BK309 := n6_; have BK322 := n7_; have BK365 := n8_; have HB := n9_; clear n0_ n1_ n2_ n3_ n4_ n5_ n6_ n7_ n8_ n9_; (try clear hb); (try clear hb2); (try clear hk); (try clear hi)))
        go_ret
        exact ⟨by first | rfl | (simp [errW_none, errW_some] <;> rfl) | (simp [*, errW_none, errW_some] <;> rfl), us_ HB.out⟩
       rw [if_pos c156] at H
       have c156b0 : (t367 == t339) = true := beq_iff_eq.mpr c156
       have c156b1 : (t367 != t339) = false := bne_eq_false_iff_eq.mpr c156
       clear c156
       obtain rfl := Option.some.inj H
       have hnb157 := NB322_272.out
       have hnc157 := NB272_322.out
       have hnb158 := NB322_297.out
       have hnc158 := NB297_322.out
       have hnb159 := NB322_309.out
       have hnc159 := NB309_322.out
       have hnb160 := NB322_365.out
       have hnc160 := NB365_322.out
       obtain ⟨hcz161_0, hcz161_1, hcz161_2, hcz161_3, hcz161_4, hcz161_5, hcz161_6, hcz161_7, hcz161_8, hfz161_0, hfz161_1, hfz161_2, hfz161_3, hfz161_4, hfz161_5, hfz161_6, hfz161_7, hfz161_8⟩ := cells9_ BK322.out
       go_wp2_with (first | ((with_reducible refine gate_callee (f := 28) rfl ?_); refine goesL_ (some 95) rfl rfl Try.func28 (by kernel_rfl) rfl #[.agg #[.int .i64 t310, .int .i64 t311, .int .i64 t312, .int .i64 t313, .int .i64 t314, .int .i64 t315, .bool t316, .bool t317, .slice Ao37 t340.length co37], .int .i64 1] rfl (by (try simp only [lm_, lo_, ln_]); first | done | rfl | (simp only [List.length_drop, List.length_take]; rfl)) ?_; (with_reducible refine (laws_heldPacket.calls kj103 t310 t311 t312 t313 t314 t315 t316 t317 _ _ t340 1 t367 _ ?side1 ?side2 A148.out).mono ?_); (case side1 => repeat (first | exact (Kd.R_reads' HO_323008.out).2.2 | (with_reducible refine Kd.C_alloc ?_ _) | (with_reducible refine Kd.C_drewN ?_ _) | (with_reducible refine Kd.C_drew ?_))); (case side2 => exact (Kd.R_reads' HO_323008.out).2.1); rintro e w162 ⟨rfl, hb⟩; refine ⟨_, rfl, ?_⟩; have n0_ := mk_ (Kd.R_below (Kd.ur_ HO_298008.out) hb); have n1_ := mk_ (Kd.R_below (Kd.ur_ HO_310008.out) hb); have n2_ := mk_ (Kd.R_below (Kd.ur_ HO_323008.out) hb); have n3_ := mk_ (Kd.R_below (Kd.ur_ HO_366008.out) hb); have n4_ := mk_ (blk_below (u_ BK272.out) hb); have n5_ := mk_ (blk_below (u_ BK297.out) hb); have n6_ := mk_ (blk_below (u_ BK309.out) hb); have n7_ := mk_ (blk_below (u_ BK322.out) hb); have n8_ := mk_ (blk_below (u_ BK365.out) hb); have n9_ := mk_ (below_step (us_ HB.out) hb); clear HO_298008; clear HO_310008; clear HO_323008; clear HO_366008; clear BK272; clear BK297; clear BK309; clear BK322; clear BK365; clear HB; have HO_298008 := n0_; have HO_310008 := n1_; have HO_323008 := n2_; have HO_366008 := n3_; have BK272 := n4_; have BK297 := n5_; have BK309 := n6_; have BK322 := n7_; have BK365 := n8_; have HB := n9_; clear n0_ n1_ n2_ n3_ n4_ n5_ n6_ n7_ n8_ n9_; (try clear hb); (try clear hb2); (try clear hk); (try clear hi)))
       go_ret
       exact ⟨by first | rfl | (simp [errW_none, errW_some] <;> rfl) | (simp [*, errW_none, errW_some] <;> rfl), us_ HB.out⟩

end Go.Proofs.Ytgfaamcihlojdag.MFnExactNoteEchoed
