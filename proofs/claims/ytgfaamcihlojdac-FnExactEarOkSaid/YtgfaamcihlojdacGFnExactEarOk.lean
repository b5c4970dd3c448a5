/- The law FnExactEarOk: what values of its parameters are, and the statement over numbers and lists that its row rests on. No conditions but those that are written out. -/
import Derived.Test.YtgfaamcihlojdacPFnExactEarOkx5
namespace Go.Proofs.Ytgfaamcihlojdac.GFnExactEarOk
open Go.RowKit Go.Proofs.Ytgfaamcihlojdac.PFnExactEarOk Go.Proofs.YtgfaamcihlojdacW.PrintWords Go.Proofs.YtgfaamcihlojdacW.PrintLast
set_option linter.unusedVariables false
/-- What a value of struct type 123 is. -/
def G123 (x : S123) : Prop := ((fun n : Int => (Lit.int .i64 n).wf = true) x.f0) ∧ ((fun n : Int => (Lit.int .u8 n).wf = true) x.f1)
/-- What is to be proved: the law's function answers true. -/
def Stmt : Prop := ∀ (a0_0 : Int) (a0_1 : Int) (l0_2 : (List Int)) (l0_3 : (List S123)), (fun n : Int => (Lit.int .i64 n).wf = true) a0_0 → (fun n : Int => (Lit.int .i64 n).wf = true) a0_1 → (fun xs : List Int => xs.length ≤ maxLen ∧ ∀ x ∈ xs, (fun n : Int => (Lit.int .u8 n).wf = true) x) l0_2 → (fun xs : List S123 => xs.length ≤ maxLen ∧ ∀ x ∈ xs, G123 x) l0_3 → ∃ k, laws_FnExactEarOk.f k a0_0 a0_1 l0_2 l0_3 = some true
end Go.Proofs.Ytgfaamcihlojdac.GFnExactEarOk
