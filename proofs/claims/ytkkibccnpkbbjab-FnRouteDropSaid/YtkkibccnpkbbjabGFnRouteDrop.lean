/- The law FnRouteDrop: what values of its parameters are, and the statement over numbers and lists that its row rests on. No conditions but those that are written out. -/
import Derived.Test.YtkkibccnpkbbjabMFnRouteDropx15
namespace Go.Proofs.Ytkkibccnpkbbjab.GFnRouteDrop
open Go.RowKit Go.Proofs.Ytkkibccnpkbbjab.MFnRouteDrop Go.Proofs.YtkkibccnpkbbjabV.PrintWords Go.Proofs.YtkkibccnpkbbjabV.PrintLast
set_option linter.unusedVariables false

/-- What is to be proved: the law's function answers true. -/
def Stmt : Prop := ∀ (l0 : (List Int)), (fun xs : List Int => xs.length ≤ maxLen ∧ ∀ x ∈ xs, (fun n : Int => (Lit.int .u8 n).wf = true) x) l0 → ∃ k, laws_FnRouteDrop.ok k l0
end Go.Proofs.Ytkkibccnpkbbjab.GFnRouteDrop
