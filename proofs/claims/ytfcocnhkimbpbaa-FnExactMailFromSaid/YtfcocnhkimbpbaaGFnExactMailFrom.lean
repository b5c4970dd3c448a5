/- The law FnExactMailFrom: what values of its parameters are, and the statement over numbers and lists that its row rests on. No conditions but those that are written out. -/
import Derived.Test.YtfcocnhkimbpbaaMFnExactMailFromx7
namespace Go.Proofs.Ytfcocnhkimbpbaa.GFnExactMailFrom
open Go.RowKit Go.Proofs.Ytfcocnhkimbpbaa.MFnExactMailFrom Go.Proofs.YtfcocnhkimbpbaaV.PrintWords Go.Proofs.YtfcocnhkimbpbaaV.PrintLast
set_option linter.unusedVariables false

/-- What is to be proved: the law's function answers true. -/
def Stmt : Prop := ∀ (a0 : Int) (a1 : Int) (l2 : (List Int)), (fun n : Int => (Lit.int .i64 n).wf = true) a0 → (fun n : Int => (Lit.int .i64 n).wf = true) a1 → (fun xs : List Int => xs.length ≤ maxLen ∧ ∀ x ∈ xs, (fun n : Int => (Lit.int .u8 n).wf = true) x) l2 → ∃ k, laws_FnExactMailFrom.f k a0 a1 l2 = some true
end Go.Proofs.Ytfcocnhkimbpbaa.GFnExactMailFrom
