/- The law FnExactNoteAbout: what values of its parameters are, and the statement over numbers and lists that its row rests on. No conditions but those that are written out. -/
import Derived.Test.YtkkibccnpkbbjabMFnExactNoteAboutx14
namespace Go.Proofs.Ytkkibccnpkbbjab.GFnExactNoteAbout
open Go.RowKit Go.Proofs.Ytkkibccnpkbbjab.MFnExactNoteAbout Go.Proofs.YtkkibccnpkbbjabV.PrintWords Go.Proofs.YtkkibccnpkbbjabV.PrintLast
set_option linter.unusedVariables false

/-- What is to be proved: the law's function answers true. -/
def Stmt : Prop := ∀ (a0_0 : Int) (a0_1 : Int) (a0_2 : Int) (a0_3 : Int) (a0_4 : Int) (a0_5 : Int) (a0_6 : Bool) (a0_7 : Bool) (l0_8 : (List Int)) (a1 : Int) (a2 : Int) (a3 : Int), (fun n : Int => (Lit.int .i64 n).wf = true) a0_0 → (fun n : Int => (Lit.int .i64 n).wf = true) a0_1 → (fun n : Int => (Lit.int .i64 n).wf = true) a0_2 → (fun n : Int => (Lit.int .i64 n).wf = true) a0_3 → (fun n : Int => (Lit.int .i64 n).wf = true) a0_4 → (fun n : Int => (Lit.int .i64 n).wf = true) a0_5 → (fun xs : List Int => xs.length ≤ maxLen ∧ ∀ x ∈ xs, (fun n : Int => (Lit.int .u8 n).wf = true) x) l0_8 → (fun n : Int => (Lit.int .i64 n).wf = true) a1 → (fun n : Int => (Lit.int .i64 n).wf = true) a2 → (fun n : Int => (Lit.int .i64 n).wf = true) a3 → ∃ k, laws_FnExactNoteAbout.f k a0_0 a0_1 a0_2 a0_3 a0_4 a0_5 a0_6 a0_7 l0_8 a1 a2 a3 = some true
end Go.Proofs.Ytkkibccnpkbbjab.GFnExactNoteAbout
