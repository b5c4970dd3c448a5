/- The law FnExactPathRoom: what values of its parameters are, and the statement over numbers and lists that its row rests on. No conditions but those that are written out. -/
import Derived.Test.YtdclgfdkomoedaaMFnExactPathRoomx8
namespace Go.Proofs.Ytdclgfdkomoedaa.GFnExactPathRoom
open Go.RowKit Go.Proofs.Ytdclgfdkomoedaa.MFnExactPathRoom Go.Proofs.YtdclgfdkomoedaaV.PrintWords Go.Proofs.YtdclgfdkomoedaaV.PrintLast
set_option linter.unusedVariables false
/-- What a value of struct type 161 is. -/
def G161 (x : S161) : Prop := ((fun n : Int => (Lit.int .i64 n).wf = true) x.f0) ∧ ((fun n : Int => (Lit.int .i64 n).wf = true) x.f1) ∧ ((fun n : Int => (Lit.int .i64 n).wf = true) x.f2) ∧ ((fun n : Int => (Lit.int .i64 n).wf = true) x.f3)
/-- What a value of struct type 89 is. -/
def G89 (x : S89) : Prop := ((fun n : Int => (Lit.int .i64 n).wf = true) x.f0) ∧ ((fun xs : List S161 => xs.length ≤ maxLen ∧ ∀ x ∈ xs, G161 x) x.f1)
/-- What is to be proved: the law's function answers true. -/
def Stmt : Prop := ∀ (l0 : (List S89)) (a1 : Int) (a2 : Int), (fun xs : List S89 => xs.length ≤ maxLen ∧ ∀ x ∈ xs, G89 x) l0 → (fun n : Int => (Lit.int .i64 n).wf = true) a1 → (fun n : Int => (Lit.int .i64 n).wf = true) a2 → ∃ k, laws_FnExactPathRoom.f k l0 a1 a2 = some true
end Go.Proofs.Ytdclgfdkomoedaa.GFnExactPathRoom
