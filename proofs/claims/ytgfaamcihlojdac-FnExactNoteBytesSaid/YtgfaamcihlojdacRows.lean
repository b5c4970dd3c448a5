/-
  No cell of these rows narrows 'for every input' (looked for: loops, veiled, ifaces, maps, wideKeys, modest, calm, conditions, laid).
  DERIVED. THE GIVEN ROWS OF THIS SEAT. 6 by the template 'for every input the law returns true; each argument reads behind the call as it read before'; 0 by the template 'total and deterministic' (their statements: YtgfaamcihlojdacTotals.lean).
  GIVEN WITH THE SEED: the statements are not yours to turn. If you find one false, say at which input.
  Laid BY PROGRAM, IN A SANDBOX (cutbox-rows.mjs): the forced cells as the released guide's own fill.sh prints them over the translation acb040e839e96d93… (all of the seat's roots in one cut). By AI agents, Wed Nov 11 2026. No macro, syntax, notation, axiom, sorry.
-/
import Derived.Test.YtgfaamcihlojdacChecked
import GoSem.Claim
import GoSem.ClaimJoined
import GoSem.ClaimMapViews
import Derived.JoinedTies
import Derived.KernelRfl
namespace Go.Proofs.Ytgfaamcihlojdac
/- THE CELL 'sum', in the pinned program and in every row, IS THE sha256 OF THE DUMP (.gsa) THAT YtgfaamcihlojdacProg.lean LOADS. Nothing in Lean hashes anything: it is a label: what it is worth is what the hold of that sum in a sandbox is worth. -/
noncomputable def Try.pinned : Pinned := { name := "ytgfaamcihlojdac", sum := "acb040e839e96d930a9806b9d330c9f0c9cc97b12c371eecc9f0db6b4a580f68", checked := Try.checked }
namespace Rows
def none {H : Type} : Left H := { results := [], args := [] }

/-- 'laws.FnExactEarOk': WHATEVER THE INPUT: true; the input reads as it did. -/
def fnExactEarOkSpec : ChangeSpec := { name := "fnExactEarOk", fn := fun _ => fun
  | [d] => { results := [.lit (.bool true)], args := [d] }
  | _ => none }
def fnExactEarOkRow : OpenClaim := { program := "ytgfaamcihlojdac", sum := "acb040e839e96d930a9806b9d330c9f0c9cc97b12c371eecc9f0db6b4a580f68", func := "loop.example/netstack/laws.FnExactEarOk", spec := "fnExactEarOk", apart := false }
def FnExactEarOkSaid : Prop := fnExactEarOkRow.holds Try.pinned (OpenSpec.ofChange fnExactEarOkSpec)

/-- ITS FALSE NEIGHBOUR: 'it returns false'. Refute it at one input. -/
def fnExactEarOkWrong : ChangeSpec := { name := "fnExactEarOk", fn := fun _ => fun
  | [d] => { results := [.lit (.bool false)], args := [d] }
  | _ => none }
def FnExactEarOkWrongFalsely : Prop := fnExactEarOkRow.holds Try.pinned (OpenSpec.ofChange fnExactEarOkWrong)

/-- 'laws.FnSegmentOk': WHATEVER THE INPUT: true; the input reads as it did. -/
def fnSegmentOkSpec : ChangeSpec := { name := "fnSegmentOk", fn := fun _ => fun
  | [d] => { results := [.lit (.bool true)], args := [d] }
  | _ => none }
def fnSegmentOkRow : OpenClaim := { program := "ytgfaamcihlojdac", sum := "acb040e839e96d930a9806b9d330c9f0c9cc97b12c371eecc9f0db6b4a580f68", func := "loop.example/netstack/laws.FnSegmentOk", spec := "fnSegmentOk", unfollowed := true, recurses := true, apart := false }
def FnSegmentOkSaid : Prop := fnSegmentOkRow.holds Try.pinned (OpenSpec.ofChange fnSegmentOkSpec)

/-- ITS FALSE NEIGHBOUR: 'it returns false'. Refute it at one input. -/
def fnSegmentOkWrong : ChangeSpec := { name := "fnSegmentOk", fn := fun _ => fun
  | [d] => { results := [.lit (.bool false)], args := [d] }
  | _ => none }
def FnSegmentOkWrongFalsely : Prop := fnSegmentOkRow.holds Try.pinned (OpenSpec.ofChange fnSegmentOkWrong)

/-- 'laws.FnExactPortHear': WHATEVER THE INPUT: true; the input reads as it did. -/
def fnExactPortHearSpec : ChangeSpec := { name := "fnExactPortHear", fn := fun _ => fun
  | [d1, d2, d3] => { results := [.lit (.bool true)], args := [d1, d2, d3] }
  | _ => none }
def fnExactPortHearRow : OpenClaim := { program := "ytgfaamcihlojdac", sum := "acb040e839e96d930a9806b9d330c9f0c9cc97b12c371eecc9f0db6b4a580f68", func := "loop.example/netstack/laws.FnExactPortHear", spec := "fnExactPortHear", unfollowed := true, recurses := true, apart := false }
def FnExactPortHearSaid : Prop := fnExactPortHearRow.holds Try.pinned (OpenSpec.ofChange fnExactPortHearSpec)

/-- ITS FALSE NEIGHBOUR: 'it returns false'. Refute it at one input. -/
def fnExactPortHearWrong : ChangeSpec := { name := "fnExactPortHear", fn := fun _ => fun
  | [d1, d2, d3] => { results := [.lit (.bool false)], args := [d1, d2, d3] }
  | _ => none }
def FnExactPortHearWrongFalsely : Prop := fnExactPortHearRow.holds Try.pinned (OpenSpec.ofChange fnExactPortHearWrong)

/-- 'laws.FnExactEarFree': WHATEVER THE INPUT: true; the input reads as it did. -/
def fnExactEarFreeSpec : ChangeSpec := { name := "fnExactEarFree", fn := fun _ => fun
  | [d] => { results := [.lit (.bool true)], args := [d] }
  | _ => none }
def fnExactEarFreeRow : OpenClaim := { program := "ytgfaamcihlojdac", sum := "acb040e839e96d930a9806b9d330c9f0c9cc97b12c371eecc9f0db6b4a580f68", func := "loop.example/netstack/laws.FnExactEarFree", spec := "fnExactEarFree", apart := false }
def FnExactEarFreeSaid : Prop := fnExactEarFreeRow.holds Try.pinned (OpenSpec.ofChange fnExactEarFreeSpec)

/-- ITS FALSE NEIGHBOUR: 'it returns false'. Refute it at one input. -/
def fnExactEarFreeWrong : ChangeSpec := { name := "fnExactEarFree", fn := fun _ => fun
  | [d] => { results := [.lit (.bool false)], args := [d] }
  | _ => none }
def FnExactEarFreeWrongFalsely : Prop := fnExactEarFreeRow.holds Try.pinned (OpenSpec.ofChange fnExactEarFreeWrong)

/-- 'laws.FnExactNoteBytes': WHATEVER THE INPUT: true; the input reads as it did. -/
def fnExactNoteBytesSpec : ChangeSpec := { name := "fnExactNoteBytes", fn := fun _ => fun
  | [d] => { results := [.lit (.bool true)], args := [d] }
  | _ => none }
def fnExactNoteBytesRow : OpenClaim := { program := "ytgfaamcihlojdac", sum := "acb040e839e96d930a9806b9d330c9f0c9cc97b12c371eecc9f0db6b4a580f68", func := "loop.example/netstack/laws.FnExactNoteBytes", spec := "fnExactNoteBytes", apart := false }
def FnExactNoteBytesSaid : Prop := fnExactNoteBytesRow.holds Try.pinned (OpenSpec.ofChange fnExactNoteBytesSpec)

/-- ITS FALSE NEIGHBOUR: 'it returns false'. Refute it at one input. -/
def fnExactNoteBytesWrong : ChangeSpec := { name := "fnExactNoteBytes", fn := fun _ => fun
  | [d] => { results := [.lit (.bool false)], args := [d] }
  | _ => none }
def FnExactNoteBytesWrongFalsely : Prop := fnExactNoteBytesRow.holds Try.pinned (OpenSpec.ofChange fnExactNoteBytesWrong)

/-- 'laws.FnExactStationOk': WHATEVER THE INPUT: true; the input reads as it did. -/
def fnExactStationOkSpec : ChangeSpec := { name := "fnExactStationOk", fn := fun _ => fun
  | [d] => { results := [.lit (.bool true)], args := [d] }
  | _ => none }
def fnExactStationOkRow : OpenClaim := { program := "ytgfaamcihlojdac", sum := "acb040e839e96d930a9806b9d330c9f0c9cc97b12c371eecc9f0db6b4a580f68", func := "loop.example/netstack/laws.FnExactStationOk", spec := "fnExactStationOk", apart := false }
def FnExactStationOkSaid : Prop := fnExactStationOkRow.holds Try.pinned (OpenSpec.ofChange fnExactStationOkSpec)

/-- ITS FALSE NEIGHBOUR: 'it returns false'. Refute it at one input. -/
def fnExactStationOkWrong : ChangeSpec := { name := "fnExactStationOk", fn := fun _ => fun
  | [d] => { results := [.lit (.bool false)], args := [d] }
  | _ => none }
def FnExactStationOkWrongFalsely : Prop := fnExactStationOkRow.holds Try.pinned (OpenSpec.ofChange fnExactStationOkWrong)

/- THE SECOND FORM. 'bulk': how many values and letters a reading holds, each counted each time it is reached (what is shared counts as often as it is met; a slice's spare places count too). A statement '..UptoSaid' is the law's where the arguments, and the package variables that the reading takes, are together of bulk at most 1048576: NARROWER than '..Said'. Prove '..Said' where nothing that the law and all that it calls make is longer than what came in: it says more and counts as full. Else prove '..UptoSaid'. A law counts once. -/
mutual
def uptoBulk {H : Type} : DataW H → Nat
  | .lit (.string bytes) => bytes.length + 1
  | .lit _ => 1
  | .nil => 1
  | .ptr d => uptoBulk d + 1
  | .slice elems spare => uptoBulkAll elems + uptoBulkAll spare + 1
  | .agg parts => uptoBulkAll parts + 1
  | .iface _ d => uptoBulk d + 1
  | .map entries => uptoBulkEntries entries + 1
  | .held _ => 1
def uptoBulkAll {H : Type} : List (DataW H) → Nat
  | [] => 0
  | d :: r => uptoBulk d + uptoBulkAll r
def uptoBulkEntries {H : Type} : List (Lit × DataW H) → Nat
  | [] => 0
  | x :: r => uptoBulkEntry x + uptoBulkEntries r
def uptoBulkEntry {H : Type} : Lit × DataW H → Nat
  | (.string bytes, d) => bytes.length + uptoBulk d + 1
  | (_, d) => uptoBulk d + 1
 end
def uptoSmall : (H : Type) → List (DataW H) → Bool := fun _ ds => decide (uptoBulkAll ds ≤ 1048576)
def OpenSpec.upto (s : _root_.Go.ChangeSpec) : _root_.Go.OpenSpec := { _root_.Go.OpenSpec.ofChange s with cond := some uptoSmall }

/-- 'laws.FnExactEarOk', WHERE WHAT IT READS IS OF BULK AT MOST 1048576: true; the input reads as it did. -/
def fnExactEarOkUptoRow : OpenClaim := { program := "ytgfaamcihlojdac", sum := "acb040e839e96d930a9806b9d330c9f0c9cc97b12c371eecc9f0db6b4a580f68", func := "loop.example/netstack/laws.FnExactEarOk", spec := "fnExactEarOk", apart := false, narrowed := true }
def FnExactEarOkUptoSaid : Prop := fnExactEarOkUptoRow.holds Try.pinned (OpenSpec.upto fnExactEarOkSpec)

/-- 'laws.FnSegmentOk', WHERE WHAT IT READS IS OF BULK AT MOST 1048576: true; the input reads as it did. -/
def fnSegmentOkUptoRow : OpenClaim := { program := "ytgfaamcihlojdac", sum := "acb040e839e96d930a9806b9d330c9f0c9cc97b12c371eecc9f0db6b4a580f68", func := "loop.example/netstack/laws.FnSegmentOk", spec := "fnSegmentOk", unfollowed := true, recurses := true, apart := false, narrowed := true }
def FnSegmentOkUptoSaid : Prop := fnSegmentOkUptoRow.holds Try.pinned (OpenSpec.upto fnSegmentOkSpec)

/-- 'laws.FnExactPortHear', WHERE WHAT IT READS IS OF BULK AT MOST 1048576: true; the input reads as it did. -/
def fnExactPortHearUptoRow : OpenClaim := { program := "ytgfaamcihlojdac", sum := "acb040e839e96d930a9806b9d330c9f0c9cc97b12c371eecc9f0db6b4a580f68", func := "loop.example/netstack/laws.FnExactPortHear", spec := "fnExactPortHear", unfollowed := true, recurses := true, apart := false, narrowed := true }
def FnExactPortHearUptoSaid : Prop := fnExactPortHearUptoRow.holds Try.pinned (OpenSpec.upto fnExactPortHearSpec)

/-- 'laws.FnExactEarFree', WHERE WHAT IT READS IS OF BULK AT MOST 1048576: true; the input reads as it did. -/
def fnExactEarFreeUptoRow : OpenClaim := { program := "ytgfaamcihlojdac", sum := "acb040e839e96d930a9806b9d330c9f0c9cc97b12c371eecc9f0db6b4a580f68", func := "loop.example/netstack/laws.FnExactEarFree", spec := "fnExactEarFree", apart := false, narrowed := true }
def FnExactEarFreeUptoSaid : Prop := fnExactEarFreeUptoRow.holds Try.pinned (OpenSpec.upto fnExactEarFreeSpec)

/-- 'laws.FnExactNoteBytes', WHERE WHAT IT READS IS OF BULK AT MOST 1048576: true; the input reads as it did. -/
def fnExactNoteBytesUptoRow : OpenClaim := { program := "ytgfaamcihlojdac", sum := "acb040e839e96d930a9806b9d330c9f0c9cc97b12c371eecc9f0db6b4a580f68", func := "loop.example/netstack/laws.FnExactNoteBytes", spec := "fnExactNoteBytes", apart := false, narrowed := true }
def FnExactNoteBytesUptoSaid : Prop := fnExactNoteBytesUptoRow.holds Try.pinned (OpenSpec.upto fnExactNoteBytesSpec)

/-- 'laws.FnExactStationOk', WHERE WHAT IT READS IS OF BULK AT MOST 1048576: true; the input reads as it did. -/
def fnExactStationOkUptoRow : OpenClaim := { program := "ytgfaamcihlojdac", sum := "acb040e839e96d930a9806b9d330c9f0c9cc97b12c371eecc9f0db6b4a580f68", func := "loop.example/netstack/laws.FnExactStationOk", spec := "fnExactStationOk", apart := false, narrowed := true }
def FnExactStationOkUptoSaid : Prop := fnExactStationOkUptoRow.holds Try.pinned (OpenSpec.upto fnExactStationOkSpec)

end Rows
end Go.Proofs.Ytgfaamcihlojdac
