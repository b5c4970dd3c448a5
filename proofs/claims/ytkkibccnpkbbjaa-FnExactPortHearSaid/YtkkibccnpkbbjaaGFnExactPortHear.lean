/- The law FnExactPortHear: what values of its parameters are, and the statement over numbers and lists that its row rests on. No conditions but those that are written out. -/
import Derived.Test.YtkkibccnpkbbjaaMFnExactPortHearx18
namespace Go.Proofs.Ytkkibccnpkbbjaa.GFnExactPortHear
open Go.RowKit Go.Proofs.Ytkkibccnpkbbjaa.MFnExactPortHear Go.Proofs.YtkkibccnpkbbjaaV.PrintWords Go.Proofs.YtkkibccnpkbbjaaV.PrintLast
set_option linter.unusedVariables false
/-- What a value of struct type 105 is. -/
def G105 (x : S105) : Prop := ((fun n : Int => (Lit.int .i64 n).wf = true) x.f0) ∧ ((fun n : Int => (Lit.int .i64 n).wf = true) x.f1) ∧ ((fun n : Int => (Lit.int .i64 n).wf = true) x.f2) ∧ ((fun xs : List Int => xs.length ≤ maxLen ∧ ∀ x ∈ xs, (fun n : Int => (Lit.int .u8 n).wf = true) x) x.f3)
/-- What a value of struct type 64 is. -/
def G64 (x : S64) : Prop := ((fun n : Int => (Lit.int .i64 n).wf = true) x.f0) ∧ ((fun xs : List S105 => xs.length ≤ maxLen ∧ ∀ x ∈ xs, G105 x) x.f1)
/-- What is to be proved: the law's function answers true. -/
def Stmt : Prop := ∀ (l0 : (List S64)) (a1 : Int) (a2_0 : Int) (a2_1 : Int) (a2_2 : Int) (a2_3 : Int) (a2_4 : Int) (a2_5 : Int) (a2_6 : Bool) (a2_7 : Bool) (l2_8 : (List Int)), (fun xs : List S64 => xs.length ≤ maxLen ∧ ∀ x ∈ xs, G64 x) l0 → (fun n : Int => (Lit.int .i64 n).wf = true) a1 → (fun n : Int => (Lit.int .i64 n).wf = true) a2_0 → (fun n : Int => (Lit.int .i64 n).wf = true) a2_1 → (fun n : Int => (Lit.int .i64 n).wf = true) a2_2 → (fun n : Int => (Lit.int .i64 n).wf = true) a2_3 → (fun n : Int => (Lit.int .i64 n).wf = true) a2_4 → (fun n : Int => (Lit.int .i64 n).wf = true) a2_5 → (fun xs : List Int => xs.length ≤ maxLen ∧ ∀ x ∈ xs, (fun n : Int => (Lit.int .u8 n).wf = true) x) l2_8 → ∃ k, laws_FnExactPortHear.ok k l0 a1 a2_0 a2_1 a2_2 a2_3 a2_4 a2_5 a2_6 a2_7 l2_8
end Go.Proofs.Ytkkibccnpkbbjaa.GFnExactPortHear
