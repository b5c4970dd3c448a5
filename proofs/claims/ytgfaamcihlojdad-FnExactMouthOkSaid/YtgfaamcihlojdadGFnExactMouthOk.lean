/- The law FnExactMouthOk: what values of its parameters are, and the statement over numbers and lists that its row rests on. No conditions but those that are written out. -/
import Derived.Test.YtgfaamcihlojdadMFnExactMouthOkx6
namespace Go.Proofs.Ytgfaamcihlojdad.GFnExactMouthOk
open Go.RowKit Go.Proofs.Ytgfaamcihlojdad.MFnExactMouthOk Go.Proofs.YtgfaamcihlojdadV.PrintWords Go.Proofs.YtgfaamcihlojdadV.PrintLast
set_option linter.unusedVariables false
/-- What a value of struct type 90 is. -/
def G90 (x : S90) : Prop := ((fun n : Int => (Lit.int .i64 n).wf = true) x.f0) ∧ ((fun n : Int => (Lit.int .i64 n).wf = true) x.f1)
/-- What is to be proved: the law's function answers true. -/
def Stmt : Prop := ∀ (a0_0 : Int) (l0_1 : (List Int)) (a0_2 : Int) (a0_3 : Int) (l0_4 : (List S90)), (fun n : Int => (Lit.int .i64 n).wf = true) a0_0 → (fun xs : List Int => xs.length ≤ maxLen ∧ ∀ x ∈ xs, (fun n : Int => (Lit.int .u8 n).wf = true) x) l0_1 → (fun n : Int => (Lit.int .i64 n).wf = true) a0_2 → (fun n : Int => (Lit.int .i64 n).wf = true) a0_3 → (fun xs : List S90 => xs.length ≤ maxLen ∧ ∀ x ∈ xs, G90 x) l0_4 → ∃ k, laws_FnExactMouthOk.f k a0_0 l0_1 a0_2 a0_3 l0_4 = some true
end Go.Proofs.Ytgfaamcihlojdad.GFnExactMouthOk
