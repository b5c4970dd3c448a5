/- The law FnSegmentOk: what values of its parameters are, and the statement over numbers and lists that its row rests on. No conditions but those that are written out. -/
import Derived.Test.YtfcocnhkimbpbacMFnSegmentOkx6
namespace Go.Proofs.Ytfcocnhkimbpbac.GFnSegmentOk
open Go.RowKit Go.Proofs.Ytfcocnhkimbpbac.MFnSegmentOk Go.Proofs.YtfcocnhkimbpbacV.PrintWords Go.Proofs.YtfcocnhkimbpbacV.PrintLast
set_option linter.unusedVariables false

/-- What is to be proved: the law's function answers true. -/
def Stmt : Prop := ∀ (l0 : (List Int)), (fun xs : List Int => xs.length ≤ maxLen ∧ ∀ x ∈ xs, (fun n : Int => (Lit.int .u8 n).wf = true) x) l0 → ∃ k, laws_FnSegmentOk.f k l0 = some true
end Go.Proofs.Ytfcocnhkimbpbac.GFnSegmentOk
