/- The law FnExactSegmentLong: what values of its parameters are, and the statement over numbers and lists that its row rests on. No conditions but those that are written out. -/
import Derived.Test.YtgfaamcihlojdadPFnExactSegmentLongx3
namespace Go.Proofs.Ytgfaamcihlojdad.GFnExactSegmentLong
open Go.RowKit Go.Proofs.Ytgfaamcihlojdad.PFnExactSegmentLong Go.Proofs.YtgfaamcihlojdadW.PrintWords Go.Proofs.YtgfaamcihlojdadW.PrintLast
set_option linter.unusedVariables false
/-- What a value of struct type 90 is. -/
def G90 (x : S90) : Prop := ((fun n : Int => (Lit.int .i64 n).wf = true) x.f0) ∧ ((fun n : Int => (Lit.int .i64 n).wf = true) x.f1)
/-- What is to be proved: the law's function answers true. -/
def Stmt : Prop := ∀ (a0_0 : Int) (a0_1 : Int) (a0_2 : Int) (a0_3 : Int) (a0_4 : Int) (a0_5 : Bool) (a0_6 : Bool) (a0_7 : Bool) (a0_8 : Bool) (l0_9 : (List S90)) (l0_10 : (List Int)), (fun n : Int => (Lit.int .i64 n).wf = true) a0_0 → (fun n : Int => (Lit.int .i64 n).wf = true) a0_1 → (fun n : Int => (Lit.int .i64 n).wf = true) a0_2 → (fun n : Int => (Lit.int .i64 n).wf = true) a0_3 → (fun n : Int => (Lit.int .i64 n).wf = true) a0_4 → (fun xs : List S90 => xs.length ≤ maxLen ∧ ∀ x ∈ xs, G90 x) l0_9 → (fun xs : List Int => xs.length ≤ maxLen ∧ ∀ x ∈ xs, (fun n : Int => (Lit.int .u8 n).wf = true) x) l0_10 → ∃ k, laws_FnExactSegmentLong.f k a0_0 a0_1 a0_2 a0_3 a0_4 a0_5 a0_6 a0_7 a0_8 l0_9 l0_10 = some true
end Go.Proofs.Ytgfaamcihlojdad.GFnExactSegmentLong
