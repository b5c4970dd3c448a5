/- The law FnExactPortListen: what values of its parameters are, and the statement over numbers and lists that its row rests on. No conditions but those that are written out. -/
import Derived.Test.YtkkibccnpkbbjaaMFnExactPortListenx21
namespace Go.Proofs.Ytkkibccnpkbbjaa.GFnExactPortListen
open Go.RowKit Go.Proofs.Ytkkibccnpkbbjaa.MFnExactPortTake Go.Proofs.YtkkibccnpkbbjaaV.PrintWords Go.Proofs.YtkkibccnpkbbjaaV.PrintLast
set_option linter.unusedVariables false
/-- What a value of struct type 105 is. -/
def G105 (x : S105) : Prop := ((fun n : Int => (Lit.int .i64 n).wf = true) x.f0) ∧ ((fun n : Int => (Lit.int .i64 n).wf = true) x.f1) ∧ ((fun n : Int => (Lit.int .i64 n).wf = true) x.f2) ∧ ((fun xs : List Int => xs.length ≤ maxLen ∧ ∀ x ∈ xs, (fun n : Int => (Lit.int .u8 n).wf = true) x) x.f3)
/-- What a value of struct type 64 is. -/
def G64 (x : S64) : Prop := ((fun n : Int => (Lit.int .i64 n).wf = true) x.f0) ∧ ((fun xs : List S105 => xs.length ≤ maxLen ∧ ∀ x ∈ xs, G105 x) x.f1)
/-- What is to be proved: the law's function answers true. -/
def Stmt : Prop := ∀ (l0 : (List S64)) (a1 : Int), (fun xs : List S64 => xs.length ≤ maxLen ∧ ∀ x ∈ xs, G64 x) l0 → (fun n : Int => (Lit.int .i64 n).wf = true) a1 → ∃ k, laws_FnExactPortListen.ok k l0 a1
end Go.Proofs.Ytkkibccnpkbbjaa.GFnExactPortListen
