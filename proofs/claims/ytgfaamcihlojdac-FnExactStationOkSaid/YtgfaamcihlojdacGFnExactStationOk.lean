/- The law FnExactStationOk: what values of its parameters are, and the statement over numbers and lists that its row rests on. No conditions but those that are written out. -/
import Derived.Test.YtgfaamcihlojdacPFnExactStationOkx5
namespace Go.Proofs.Ytgfaamcihlojdac.GFnExactStationOk
open Go.RowKit Go.Proofs.Ytgfaamcihlojdac.PFnExactStationOk Go.Proofs.YtgfaamcihlojdacW.PrintWords Go.Proofs.YtgfaamcihlojdacW.PrintLast
set_option linter.unusedVariables false
/-- What a value of struct type 149 is. -/
def G149 (x : S149) : Prop := ((fun n : Int => (Lit.int .i64 n).wf = true) x.f0) ∧ ((fun n : Int => (Lit.int .i64 n).wf = true) x.f1) ∧ ((fun n : Int => (Lit.int .i64 n).wf = true) x.f2) ∧ ((fun n : Int => (Lit.int .i64 n).wf = true) x.f3)
/-- What is to be proved: the law's function answers true. -/
def Stmt : Prop := ∀ (a0_0 : Int) (l0_1 : (List S149)), (fun n : Int => (Lit.int .i64 n).wf = true) a0_0 → (fun xs : List S149 => xs.length ≤ maxLen ∧ ∀ x ∈ xs, G149 x) l0_1 → ∃ k, laws_FnExactStationOk.f k a0_0 l0_1 = some true
end Go.Proofs.Ytgfaamcihlojdac.GFnExactStationOk
