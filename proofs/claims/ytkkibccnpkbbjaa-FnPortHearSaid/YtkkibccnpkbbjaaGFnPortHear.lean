/- The law FnPortHear: what values of its parameters are, and the statement over numbers and lists that its row rests on. No conditions but those that are written out. -/
import Derived.Test.YtkkibccnpkbbjaaMFnPortHearx23
namespace Go.Proofs.Ytkkibccnpkbbjaa.GFnPortHear
open Go.RowKit Go.Proofs.Ytkkibccnpkbbjaa.MFnPortsOk Go.Proofs.YtkkibccnpkbbjaaV.PrintWords Go.Proofs.YtkkibccnpkbbjaaV.PrintLast
set_option linter.unusedVariables false

/-- What is to be proved: the law's function answers true. -/
def Stmt : Prop := ∀ (l0 : (List Int)), (fun xs : List Int => xs.length ≤ maxLen ∧ ∀ x ∈ xs, (fun n : Int => (Lit.int .u8 n).wf = true) x) l0 → ∃ k, laws_FnPortHear.ok k l0
end Go.Proofs.Ytkkibccnpkbbjaa.GFnPortHear
