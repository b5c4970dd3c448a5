/- The law FnEarOk: what values of its parameters are, and the statement over numbers and lists that its row rests on. No conditions but those that are written out. -/
import Derived.Test.YtkkibccnpkbbjabMFnEarOkx9
namespace Go.Proofs.Ytkkibccnpkbbjab.GFnEarOk
open Go.RowKit Go.Proofs.Ytkkibccnpkbbjab.MFnEarOk Go.Proofs.YtkkibccnpkbbjabV.PrintWords Go.Proofs.YtkkibccnpkbbjabV.PrintLast
set_option linter.unusedVariables false

/-- What is to be proved: the law's function answers true. -/
def Stmt : Prop := ∀ (l0 : (List Int)), (fun xs : List Int => xs.length ≤ maxLen ∧ ∀ x ∈ xs, (fun n : Int => (Lit.int .u8 n).wf = true) x) l0 → ∃ k, laws_FnEarOk.f k l0 = some true
end Go.Proofs.Ytkkibccnpkbbjab.GFnEarOk
