/- The law FnExactSegmentOk: what values of its parameters are, and the statement over numbers and lists that its row rests on. No conditions but those that are written out. -/
import Derived.Test.YtfcocnhkimbpbacMFnExactSegmentOkx6
namespace Go.Proofs.Ytfcocnhkimbpbac.GFnExactSegmentOk
open Go.RowKit Go.Proofs.Ytfcocnhkimbpbac.MFnExactSegmentOk Go.Proofs.YtfcocnhkimbpbacV.PrintWords Go.Proofs.YtfcocnhkimbpbacV.PrintLast
set_option linter.unusedVariables false
/-- What a value of struct type 120 is. -/
def G120 (x : S120) : Prop := ((fun n : Int => (Lit.int .i64 n).wf = true) x.f0) ∧ ((fun n : Int => (Lit.int .i64 n).wf = true) x.f1)
/-- What is to be proved: the law's function answers true. -/
def Stmt : Prop := ∀ (a0_0 : Int) (a0_1 : Int) (a0_2 : Int) (a0_3 : Int) (a0_4 : Int) (a0_5 : Bool) (a0_6 : Bool) (a0_7 : Bool) (a0_8 : Bool) (l0_9 : (List S120)) (l0_10 : (List Int)), (fun n : Int => (Lit.int .i64 n).wf = true) a0_0 → (fun n : Int => (Lit.int .i64 n).wf = true) a0_1 → (fun n : Int => (Lit.int .i64 n).wf = true) a0_2 → (fun n : Int => (Lit.int .i64 n).wf = true) a0_3 → (fun n : Int => (Lit.int .i64 n).wf = true) a0_4 → (fun xs : List S120 => xs.length ≤ maxLen ∧ ∀ x ∈ xs, G120 x) l0_9 → (fun xs : List Int => xs.length ≤ maxLen ∧ ∀ x ∈ xs, (fun n : Int => (Lit.int .u8 n).wf = true) x) l0_10 → ∃ k, laws_FnExactSegmentOk.f k a0_0 a0_1 a0_2 a0_3 a0_4 a0_5 a0_6 a0_7 a0_8 l0_9 l0_10 = some true
end Go.Proofs.Ytfcocnhkimbpbac.GFnExactSegmentOk
