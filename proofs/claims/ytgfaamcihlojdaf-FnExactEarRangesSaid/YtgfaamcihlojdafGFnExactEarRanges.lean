/- The law FnExactEarRanges: what values of its parameters are, and the statement over numbers and lists that its row rests on. No conditions but those that are written out. -/
import Derived.Test.YtgfaamcihlojdafMFnExactEarRangesx8
namespace Go.Proofs.Ytgfaamcihlojdaf.GFnExactEarRanges
open Go.RowKit Go.Proofs.Ytgfaamcihlojdaf.MFnExactEarRanges Go.Proofs.YtgfaamcihlojdafV.PrintWords Go.Proofs.YtgfaamcihlojdafV.PrintLast
set_option linter.unusedVariables false
/-- What a value of struct type 125 is. -/
def G125 (x : S125) : Prop := ((fun n : Int => (Lit.int .i64 n).wf = true) x.f0) ∧ ((fun n : Int => (Lit.int .u8 n).wf = true) x.f1)
/-- What is to be proved: the law's function answers true. -/
def Stmt : Prop := ∀ (a0_0 : Int) (a0_1 : Int) (l0_2 : (List Int)) (l0_3 : (List S125)), (fun n : Int => (Lit.int .i64 n).wf = true) a0_0 → (fun n : Int => (Lit.int .i64 n).wf = true) a0_1 → (fun xs : List Int => xs.length ≤ maxLen ∧ ∀ x ∈ xs, (fun n : Int => (Lit.int .u8 n).wf = true) x) l0_2 → (fun xs : List S125 => xs.length ≤ maxLen ∧ ∀ x ∈ xs, G125 x) l0_3 → ∃ k, laws_FnExactEarRanges.f k a0_0 a0_1 l0_2 l0_3 = some true
end Go.Proofs.Ytgfaamcihlojdaf.GFnExactEarRanges
