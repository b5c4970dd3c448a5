/- The law FnExactNetOk: what values of its parameters are, and the statement over numbers and lists that its row rests on. No conditions but those that are written out. -/
import Derived.Test.YtfcocnhkimbpbacMFnExactNetOkx6
namespace Go.Proofs.Ytfcocnhkimbpbac.GFnExactNetOk
open Go.RowKit Go.Proofs.Ytfcocnhkimbpbac.MFnExactNetOk Go.Proofs.YtfcocnhkimbpbacV.PrintWords Go.Proofs.YtfcocnhkimbpbacV.PrintLast
set_option linter.unusedVariables false
/-- What a value of struct type 138 is. -/
def G138 (x : S138) : Prop := ((fun n : Int => (Lit.int .i64 n).wf = true) x.f0) ∧ ((fun n : Int => (Lit.int .i64 n).wf = true) x.f1) ∧ ((fun n : Int => (Lit.int .i64 n).wf = true) x.f2) ∧ ((fun n : Int => (Lit.int .i64 n).wf = true) x.f3)
/-- What a value of struct type 75 is. -/
def G75 (x : S75) : Prop := ((fun n : Int => (Lit.int .i64 n).wf = true) x.f0) ∧ ((fun xs : List S138 => xs.length ≤ maxLen ∧ ∀ x ∈ xs, G138 x) x.f1)
/-- What is to be proved: the law's function answers true. -/
def Stmt : Prop := ∀ (l0 : (List S75)), (fun xs : List S75 => xs.length ≤ maxLen ∧ ∀ x ∈ xs, G75 x) l0 → ∃ k, laws_FnExactNetOk.f k l0 = some true
end Go.Proofs.Ytfcocnhkimbpbac.GFnExactNetOk
