/- The law FnExactMailBytes: what values of its parameters are, and the statement over numbers and lists that its row rests on. No conditions but those that are written out. -/
import Derived.Test.YtfcocnhkimbpbaaMFnExactMailBytesx5
namespace Go.Proofs.Ytfcocnhkimbpbaa.GFnExactMailBytes
open Go.RowKit Go.Proofs.Ytfcocnhkimbpbaa.MFnExactMailBytes Go.Proofs.YtfcocnhkimbpbaaV.PrintWords Go.Proofs.YtfcocnhkimbpbaaV.PrintLast
set_option linter.unusedVariables false

/-- What is to be proved: the law's function answers true. -/
def Stmt : Prop := ∀ (a0_0 : Int) (a0_1 : Int) (a0_2 : Int) (l0_3 : (List Int)) (a1 : Int), (fun n : Int => (Lit.int .i64 n).wf = true) a0_0 → (fun n : Int => (Lit.int .i64 n).wf = true) a0_1 → (fun n : Int => (Lit.int .i64 n).wf = true) a0_2 → (fun xs : List Int => xs.length ≤ maxLen ∧ ∀ x ∈ xs, (fun n : Int => (Lit.int .u8 n).wf = true) x) l0_3 → (fun n : Int => (Lit.int .i64 n).wf = true) a1 → ∃ k, laws_FnExactMailBytes.f k a0_0 a0_1 a0_2 l0_3 a1 = some true
end Go.Proofs.Ytfcocnhkimbpbaa.GFnExactMailBytes
