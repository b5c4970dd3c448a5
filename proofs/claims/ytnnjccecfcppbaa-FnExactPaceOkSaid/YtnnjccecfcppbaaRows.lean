/-
  No cell of these rows narrows 'for every input' (looked for: loops, veiled, ifaces, maps, wideKeys, modest, calm, conditions, laid).
  DERIVED. THE GIVEN ROWS OF THIS SEAT. 6 by the template 'for every input the law returns true; each argument reads behind the call as it read before'; 0 by the template 'total and deterministic' (their statements: YtnnjccecfcppbaaTotals.lean).
  GIVEN WITH THE SEED: the statements are not yours to turn. If you find one false, say at which input.
  Laid BY PROGRAM, IN A SANDBOX (cutbox-rows.mjs): the forced cells as the released guide's own fill.sh prints them over the translation 1622f4195266c03f… (all of the seat's roots in one cut). By AI agents, Wed Nov 11 2026. No macro, syntax, notation, axiom, sorry.
-/
import Derived.Test.YtnnjccecfcppbaaChecked
import GoSem.Claim
import GoSem.ClaimJoined
import GoSem.ClaimMapViews
import Derived.JoinedTies
import Derived.KernelRfl
namespace Go.Proofs.Ytnnjccecfcppbaa
/- THE CELL 'sum', in the pinned program and in every row, IS THE sha256 OF THE DUMP (.gsa) THAT YtnnjccecfcppbaaProg.lean LOADS. Nothing in Lean hashes anything: it is a label: what it is worth is what the hold of that sum in a sandbox is worth. -/
noncomputable def Try.pinned : Pinned := { name := "ytnnjccecfcppbaa", sum := "1622f4195266c03f6c0a8d217e3bed7d808977d289e2850ad9e67ce3826f0c2d", checked := Try.checked }
namespace Rows
def none {H : Type} : Left H := { results := [], args := [] }

/-- 'laws.FnExactSeqOf': WHATEVER THE INPUT: true; the input reads as it did. -/
def fnExactSeqOfSpec : ChangeSpec := { name := "fnExactSeqOf", fn := fun _ => fun
  | [d] => { results := [.lit (.bool true)], args := [d] }
  | _ => none }
def fnExactSeqOfRow : OpenClaim := { program := "ytnnjccecfcppbaa", sum := "1622f4195266c03f6c0a8d217e3bed7d808977d289e2850ad9e67ce3826f0c2d", func := "loop.example/netstack/laws.FnExactSeqOf", spec := "fnExactSeqOf", apart := false }
def FnExactSeqOfSaid : Prop := fnExactSeqOfRow.holds Try.pinned (OpenSpec.ofChange fnExactSeqOfSpec)

/-- ITS FALSE NEIGHBOUR: 'it returns false'. Refute it at one input. -/
def fnExactSeqOfWrong : ChangeSpec := { name := "fnExactSeqOf", fn := fun _ => fun
  | [d] => { results := [.lit (.bool false)], args := [d] }
  | _ => none }
def FnExactSeqOfWrongFalsely : Prop := fnExactSeqOfRow.holds Try.pinned (OpenSpec.ofChange fnExactSeqOfWrong)

/-- 'laws.FnExactSeqLess': WHATEVER THE INPUT: true; the input reads as it did. -/
def fnExactSeqLessSpec : ChangeSpec := { name := "fnExactSeqLess", fn := fun _ => fun
  | [d1, d2] => { results := [.lit (.bool true)], args := [d1, d2] }
  | _ => none }
def fnExactSeqLessRow : OpenClaim := { program := "ytnnjccecfcppbaa", sum := "1622f4195266c03f6c0a8d217e3bed7d808977d289e2850ad9e67ce3826f0c2d", func := "loop.example/netstack/laws.FnExactSeqLess", spec := "fnExactSeqLess", apart := false }
def FnExactSeqLessSaid : Prop := fnExactSeqLessRow.holds Try.pinned (OpenSpec.ofChange fnExactSeqLessSpec)

/-- ITS FALSE NEIGHBOUR: 'it returns false'. Refute it at one input. -/
def fnExactSeqLessWrong : ChangeSpec := { name := "fnExactSeqLess", fn := fun _ => fun
  | [d1, d2] => { results := [.lit (.bool false)], args := [d1, d2] }
  | _ => none }
def FnExactSeqLessWrongFalsely : Prop := fnExactSeqLessRow.holds Try.pinned (OpenSpec.ofChange fnExactSeqLessWrong)

/-- 'laws.FnExactClockNew': WHATEVER THE INPUT: true; the input reads as it did. -/
def fnExactClockNewSpec : ChangeSpec := { name := "fnExactClockNew", fn := fun _ => fun
  | [d] => { results := [.lit (.bool true)], args := [d] }
  | _ => none }
def fnExactClockNewRow : OpenClaim := { program := "ytnnjccecfcppbaa", sum := "1622f4195266c03f6c0a8d217e3bed7d808977d289e2850ad9e67ce3826f0c2d", func := "loop.example/netstack/laws.FnExactClockNew", spec := "fnExactClockNew", apart := false }
def FnExactClockNewSaid : Prop := fnExactClockNewRow.holds Try.pinned (OpenSpec.ofChange fnExactClockNewSpec)

/-- ITS FALSE NEIGHBOUR: 'it returns false'. Refute it at one input. -/
def fnExactClockNewWrong : ChangeSpec := { name := "fnExactClockNew", fn := fun _ => fun
  | [d] => { results := [.lit (.bool false)], args := [d] }
  | _ => none }
def FnExactClockNewWrongFalsely : Prop := fnExactClockNewRow.holds Try.pinned (OpenSpec.ofChange fnExactClockNewWrong)

/-- 'laws.FnExactClockOk': WHATEVER THE INPUT: true; the input reads as it did. -/
def fnExactClockOkSpec : ChangeSpec := { name := "fnExactClockOk", fn := fun _ => fun
  | [d] => { results := [.lit (.bool true)], args := [d] }
  | _ => none }
def fnExactClockOkRow : OpenClaim := { program := "ytnnjccecfcppbaa", sum := "1622f4195266c03f6c0a8d217e3bed7d808977d289e2850ad9e67ce3826f0c2d", func := "loop.example/netstack/laws.FnExactClockOk", spec := "fnExactClockOk", apart := false }
def FnExactClockOkSaid : Prop := fnExactClockOkRow.holds Try.pinned (OpenSpec.ofChange fnExactClockOkSpec)

/-- ITS FALSE NEIGHBOUR: 'it returns false'. Refute it at one input. -/
def fnExactClockOkWrong : ChangeSpec := { name := "fnExactClockOk", fn := fun _ => fun
  | [d] => { results := [.lit (.bool false)], args := [d] }
  | _ => none }
def FnExactClockOkWrongFalsely : Prop := fnExactClockOkRow.holds Try.pinned (OpenSpec.ofChange fnExactClockOkWrong)

/-- 'laws.FnExactPaceOk': WHATEVER THE INPUT: true; the input reads as it did. -/
def fnExactPaceOkSpec : ChangeSpec := { name := "fnExactPaceOk", fn := fun _ => fun
  | [d] => { results := [.lit (.bool true)], args := [d] }
  | _ => none }
def fnExactPaceOkRow : OpenClaim := { program := "ytnnjccecfcppbaa", sum := "1622f4195266c03f6c0a8d217e3bed7d808977d289e2850ad9e67ce3826f0c2d", func := "loop.example/netstack/laws.FnExactPaceOk", spec := "fnExactPaceOk", apart := false }
def FnExactPaceOkSaid : Prop := fnExactPaceOkRow.holds Try.pinned (OpenSpec.ofChange fnExactPaceOkSpec)

/-- ITS FALSE NEIGHBOUR: 'it returns false'. Refute it at one input. -/
def fnExactPaceOkWrong : ChangeSpec := { name := "fnExactPaceOk", fn := fun _ => fun
  | [d] => { results := [.lit (.bool false)], args := [d] }
  | _ => none }
def FnExactPaceOkWrongFalsely : Prop := fnExactPaceOkRow.holds Try.pinned (OpenSpec.ofChange fnExactPaceOkWrong)

/-- 'laws.FnExactSeqPlace': WHATEVER THE INPUT: true; the input reads as it did. -/
def fnExactSeqPlaceSpec : ChangeSpec := { name := "fnExactSeqPlace", fn := fun _ => fun
  | [d1, d2] => { results := [.lit (.bool true)], args := [d1, d2] }
  | _ => none }
def fnExactSeqPlaceRow : OpenClaim := { program := "ytnnjccecfcppbaa", sum := "1622f4195266c03f6c0a8d217e3bed7d808977d289e2850ad9e67ce3826f0c2d", func := "loop.example/netstack/laws.FnExactSeqPlace", spec := "fnExactSeqPlace", apart := false }
def FnExactSeqPlaceSaid : Prop := fnExactSeqPlaceRow.holds Try.pinned (OpenSpec.ofChange fnExactSeqPlaceSpec)

/-- ITS FALSE NEIGHBOUR: 'it returns false'. Refute it at one input. -/
def fnExactSeqPlaceWrong : ChangeSpec := { name := "fnExactSeqPlace", fn := fun _ => fun
  | [d1, d2] => { results := [.lit (.bool false)], args := [d1, d2] }
  | _ => none }
def FnExactSeqPlaceWrongFalsely : Prop := fnExactSeqPlaceRow.holds Try.pinned (OpenSpec.ofChange fnExactSeqPlaceWrong)

/- THE SECOND FORM. 'bulk': how many values and letters a reading holds, each counted each time it is reached (what is shared counts as often as it is met; a slice's spare places count too). A statement '..UptoSaid' is the law's where the arguments, and the package variables that the reading takes, are together of bulk at most 1048576: NARROWER than '..Said'. Prove '..Said' where nothing that the law and all that it calls make is longer than what came in: it says more and counts as full. Else prove '..UptoSaid'. A law counts once. -/
mutual
def uptoBulk {H : Type} : DataW H → Nat
  | .lit (.string bytes) => bytes.length + 1
  | .lit _ => 1
  | .nil => 1
  | .ptr d => uptoBulk d + 1
  | .slice elems spare => uptoBulkAll elems + uptoBulkAll spare + 1
  | .agg parts => uptoBulkAll parts + 1
  | .iface _ d => uptoBulk d + 1
  | .map entries => uptoBulkEntries entries + 1
  | .held _ => 1
def uptoBulkAll {H : Type} : List (DataW H) → Nat
  | [] => 0
  | d :: r => uptoBulk d + uptoBulkAll r
def uptoBulkEntries {H : Type} : List (Lit × DataW H) → Nat
  | [] => 0
  | x :: r => uptoBulkEntry x + uptoBulkEntries r
def uptoBulkEntry {H : Type} : Lit × DataW H → Nat
  | (.string bytes, d) => bytes.length + uptoBulk d + 1
  | (_, d) => uptoBulk d + 1
 end
def uptoSmall : (H : Type) → List (DataW H) → Bool := fun _ ds => decide (uptoBulkAll ds ≤ 1048576)
def OpenSpec.upto (s : _root_.Go.ChangeSpec) : _root_.Go.OpenSpec := { _root_.Go.OpenSpec.ofChange s with cond := some uptoSmall }

/-- 'laws.FnExactSeqOf', WHERE WHAT IT READS IS OF BULK AT MOST 1048576: true; the input reads as it did. -/
def fnExactSeqOfUptoRow : OpenClaim := { program := "ytnnjccecfcppbaa", sum := "1622f4195266c03f6c0a8d217e3bed7d808977d289e2850ad9e67ce3826f0c2d", func := "loop.example/netstack/laws.FnExactSeqOf", spec := "fnExactSeqOf", apart := false, narrowed := true }
def FnExactSeqOfUptoSaid : Prop := fnExactSeqOfUptoRow.holds Try.pinned (OpenSpec.upto fnExactSeqOfSpec)

/-- 'laws.FnExactSeqLess', WHERE WHAT IT READS IS OF BULK AT MOST 1048576: true; the input reads as it did. -/
def fnExactSeqLessUptoRow : OpenClaim := { program := "ytnnjccecfcppbaa", sum := "1622f4195266c03f6c0a8d217e3bed7d808977d289e2850ad9e67ce3826f0c2d", func := "loop.example/netstack/laws.FnExactSeqLess", spec := "fnExactSeqLess", apart := false, narrowed := true }
def FnExactSeqLessUptoSaid : Prop := fnExactSeqLessUptoRow.holds Try.pinned (OpenSpec.upto fnExactSeqLessSpec)

/-- 'laws.FnExactClockNew', WHERE WHAT IT READS IS OF BULK AT MOST 1048576: true; the input reads as it did. -/
def fnExactClockNewUptoRow : OpenClaim := { program := "ytnnjccecfcppbaa", sum := "1622f4195266c03f6c0a8d217e3bed7d808977d289e2850ad9e67ce3826f0c2d", func := "loop.example/netstack/laws.FnExactClockNew", spec := "fnExactClockNew", apart := false, narrowed := true }
def FnExactClockNewUptoSaid : Prop := fnExactClockNewUptoRow.holds Try.pinned (OpenSpec.upto fnExactClockNewSpec)

/-- 'laws.FnExactClockOk', WHERE WHAT IT READS IS OF BULK AT MOST 1048576: true; the input reads as it did. -/
def fnExactClockOkUptoRow : OpenClaim := { program := "ytnnjccecfcppbaa", sum := "1622f4195266c03f6c0a8d217e3bed7d808977d289e2850ad9e67ce3826f0c2d", func := "loop.example/netstack/laws.FnExactClockOk", spec := "fnExactClockOk", apart := false, narrowed := true }
def FnExactClockOkUptoSaid : Prop := fnExactClockOkUptoRow.holds Try.pinned (OpenSpec.upto fnExactClockOkSpec)

/-- 'laws.FnExactPaceOk', WHERE WHAT IT READS IS OF BULK AT MOST 1048576: true; the input reads as it did. -/
def fnExactPaceOkUptoRow : OpenClaim := { program := "ytnnjccecfcppbaa", sum := "1622f4195266c03f6c0a8d217e3bed7d808977d289e2850ad9e67ce3826f0c2d", func := "loop.example/netstack/laws.FnExactPaceOk", spec := "fnExactPaceOk", apart := false, narrowed := true }
def FnExactPaceOkUptoSaid : Prop := fnExactPaceOkUptoRow.holds Try.pinned (OpenSpec.upto fnExactPaceOkSpec)

/-- 'laws.FnExactSeqPlace', WHERE WHAT IT READS IS OF BULK AT MOST 1048576: true; the input reads as it did. -/
def fnExactSeqPlaceUptoRow : OpenClaim := { program := "ytnnjccecfcppbaa", sum := "1622f4195266c03f6c0a8d217e3bed7d808977d289e2850ad9e67ce3826f0c2d", func := "loop.example/netstack/laws.FnExactSeqPlace", spec := "fnExactSeqPlace", apart := false, narrowed := true }
def FnExactSeqPlaceUptoSaid : Prop := fnExactSeqPlaceUptoRow.holds Try.pinned (OpenSpec.upto fnExactSeqPlaceSpec)

end Rows
end Go.Proofs.Ytnnjccecfcppbaa
