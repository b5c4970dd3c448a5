/- The law FnExactNoteOk: what values of its parameters are, and the statement over numbers and lists that its row rests on. No conditions but those that are written out. -/
import Derived.Test.YtgfaamcihlojdaaPFnExactNoteOkx2
namespace Go.Proofs.Ytgfaamcihlojdaa.GFnExactNoteOk
open Go.RowKit Go.Proofs.Ytgfaamcihlojdaa.PFnExactNoteOk Go.Proofs.YtgfaamcihlojdaaW.PrintWords Go.Proofs.YtgfaamcihlojdaaW.PrintLast
set_option linter.unusedVariables false

/-- What is to be proved: the law's function answers true. -/
def Stmt : Prop := ∀ (a0_0 : Int) (a0_1 : Int) (l0_2 : (List Int)), (fun n : Int => (Lit.int .i64 n).wf = true) a0_0 → (fun n : Int => (Lit.int .i64 n).wf = true) a0_1 → (fun xs : List Int => xs.length ≤ maxLen ∧ ∀ x ∈ xs, (fun n : Int => (Lit.int .u8 n).wf = true) x) l0_2 → ∃ k, laws_FnExactNoteOk.f k a0_0 a0_1 l0_2 = some true
end Go.Proofs.Ytgfaamcihlojdaa.GFnExactNoteOk
