/- The law FnExactNoteFault: what values of its parameters are, and the statement over numbers and lists that its row rests on. No conditions but those that are written out. -/
import Derived.Test.YtgfaamcihlojdaeMFnExactNoteFaultx7
namespace Go.Proofs.Ytgfaamcihlojdae.GFnExactNoteFault
open Go.RowKit Go.Proofs.Ytgfaamcihlojdae.MFnExactNoteFault Go.Proofs.YtgfaamcihlojdaeV.PrintWords Go.Proofs.YtgfaamcihlojdaeV.PrintLast
set_option linter.unusedVariables false

/-- What is to be proved: the law's function answers true. -/
def Stmt : Prop := ∀ (a0_0 : Int) (a0_1 : Int) (a0_2 : Int) (a0_3 : Int) (a0_4 : Int) (a0_5 : Int) (a0_6 : Bool) (a0_7 : Bool) (l0_8 : (List Int)), (fun n : Int => (Lit.int .i64 n).wf = true) a0_0 → (fun n : Int => (Lit.int .i64 n).wf = true) a0_1 → (fun n : Int => (Lit.int .i64 n).wf = true) a0_2 → (fun n : Int => (Lit.int .i64 n).wf = true) a0_3 → (fun n : Int => (Lit.int .i64 n).wf = true) a0_4 → (fun n : Int => (Lit.int .i64 n).wf = true) a0_5 → (fun xs : List Int => xs.length ≤ maxLen ∧ ∀ x ∈ xs, (fun n : Int => (Lit.int .u8 n).wf = true) x) l0_8 → ∃ k, laws_FnExactNoteFault.f k a0_0 a0_1 a0_2 a0_3 a0_4 a0_5 a0_6 a0_7 l0_8 = some true
end Go.Proofs.Ytgfaamcihlojdae.GFnExactNoteFault
