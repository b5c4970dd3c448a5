/- The law FnExactPaceLate over numbers: the program's PaceLate answers as the reference's. No conditions. -/
import Derived.Test.YtgfaamcihlojdaaGFnExactPaceLate
namespace Go.Proofs.Ytgfaamcihlojdaa.Pure
open Go Go.RowKit Go.Proofs.Ytgfaamcihlojdaa.PFnExactPaceLate Go.Proofs.YtgfaamcihlojdaaW.PrintWords Go.Proofs.YtgfaamcihlojdaaW.PrintLast
set_option linter.unusedVariables false
set_option linter.unusedSimpArgs false
namespace FnExactPaceLate_
theorem inAll (x y z : Int) : ∃ t, spec_l1In.f x y z = some t := by
  unfold spec_l1In.f; split <;> exact ⟨_, rfl⟩
theorem main : GFnExactPaceLate.Stmt := by
  intro a b c _ _ _
  have hs : impl_PaceOk.f a b c = spec_PaceOk.f a b c := rfl
  have he : ∃ t, spec_PaceOk.f a b c = some t := by
    unfold spec_PaceOk.f
    obtain ⟨t0, h0⟩ := inAll a 1 64
    obtain ⟨t1, h1⟩ := inAll b 2 64
    obtain ⟨t2, h2⟩ := inAll c 0 (wrap64 (a - 1))
    rw [h0, h1, h2]
    cases t0 <;> cases t1 <;> exact ⟨_, rfl⟩
  obtain ⟨t, ht⟩ := he
  have hm : ∀ x : Int, mx 2 x = mx x 2 := by intro x; unfold mx; split <;> split <;> omega
  simp only [laws_FnExactPaceLate.f, laws_toPace.f, spec_PaceLate.f, impl_PaceLate.f, hs, ht, Option.bind_some, hm]
  cases t <;> simp [laws_eqPace.f]
end FnExactPaceLate_
theorem FnExactPaceLate : GFnExactPaceLate.Stmt := FnExactPaceLate_.main
end Go.Proofs.Ytgfaamcihlojdaa.Pure
