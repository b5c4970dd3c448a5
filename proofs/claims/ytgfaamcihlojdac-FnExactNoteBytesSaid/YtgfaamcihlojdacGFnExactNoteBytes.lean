/- The law FnExactNoteBytes: what values of its parameters are, and the statement over numbers and lists that its row rests on. No conditions but those that are written out. -/
import Derived.Test.YtgfaamcihlojdacMFnExactNoteBytesx4
namespace Go.Proofs.Ytgfaamcihlojdac.GFnExactNoteBytes
open Go.RowKit Go.Proofs.Ytgfaamcihlojdac.MFnExactNoteBytes Go.Proofs.YtgfaamcihlojdacV.PrintWords Go.Proofs.YtgfaamcihlojdacV.PrintLast
set_option linter.unusedVariables false

/-- What is to be proved: the law's function answers true. -/
def Stmt : Prop := ∀ (a0_0 : Int) (a0_1 : Int) (l0_2 : (List Int)), (fun n : Int => (Lit.int .i64 n).wf = true) a0_0 → (fun n : Int => (Lit.int .i64 n).wf = true) a0_1 → (fun xs : List Int => xs.length ≤ maxLen ∧ ∀ x ∈ xs, (fun n : Int => (Lit.int .u8 n).wf = true) x) l0_2 → ∃ k, laws_FnExactNoteBytes.f k a0_0 a0_1 l0_2 = some true
end Go.Proofs.Ytgfaamcihlojdac.GFnExactNoteBytes
