/- The law FnExactPaceLate: what values of its parameters are, and the statement over numbers and lists that its row rests on. No conditions but those that are written out. -/
import Derived.Test.YtgfaamcihlojdaaPFnExactPaceLatex1
namespace Go.Proofs.Ytgfaamcihlojdaa.GFnExactPaceLate
open Go.RowKit Go.Proofs.Ytgfaamcihlojdaa.PFnExactPaceLate Go.Proofs.YtgfaamcihlojdaaW.PrintWords Go.Proofs.YtgfaamcihlojdaaW.PrintLast
set_option linter.unusedVariables false

/-- What is to be proved: the law's function answers true. -/
def Stmt : Prop := ∀ (a0_0 : Int) (a0_1 : Int) (a0_2 : Int), (fun n : Int => (Lit.int .i64 n).wf = true) a0_0 → (fun n : Int => (Lit.int .i64 n).wf = true) a0_1 → (fun n : Int => (Lit.int .i64 n).wf = true) a0_2 → laws_FnExactPaceLate.f a0_0 a0_1 a0_2 = some true
end Go.Proofs.Ytgfaamcihlojdaa.GFnExactPaceLate
