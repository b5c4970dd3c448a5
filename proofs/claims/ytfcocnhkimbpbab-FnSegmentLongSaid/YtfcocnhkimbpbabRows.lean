/-
  No cell of these rows narrows 'for every input' (looked for: loops, veiled, ifaces, maps, wideKeys, modest, calm, conditions, laid).
  DERIVED. THE GIVEN ROWS OF THIS SEAT. 6 by the template 'for every input the law returns true; each argument reads behind the call as it read before'; 0 by the template 'total and deterministic' (their statements: YtfcocnhkimbpbabTotals.lean).
  GIVEN WITH THE SEED: the statements are not yours to turn. If you find one false, say at which input.
  Laid BY PROGRAM, IN A SANDBOX (cutbox-rows.mjs): the forced cells as the released guide's own fill.sh prints them over the translation 2aeba4413f5a2fa9… (all of the seat's roots in one cut). By AI agents, Wed Nov 11 2026. No macro, syntax, notation, axiom, sorry.
-/
import Derived.Test.YtfcocnhkimbpbabChecked
import GoSem.Claim
import GoSem.ClaimJoined
import GoSem.ClaimMapViews
import Derived.JoinedTies
import Derived.KernelRfl
namespace Go.Proofs.Ytfcocnhkimbpbab
/- THE CELL 'sum', in the pinned program and in every row, IS THE sha256 OF THE DUMP (.gsa) THAT YtfcocnhkimbpbabProg.lean LOADS. Nothing in Lean hashes anything: it is a label: what it is worth is what the hold of that sum in a sandbox is worth. -/
noncomputable def Try.pinned : Pinned := { name := "ytfcocnhkimbpbab", sum := "2aeba4413f5a2fa9eac53f5adf363efab96feba7599241fa3e9438f6bb4d193f", checked := Try.checked }
namespace Rows
def none {H : Type} : Left H := { results := [], args := [] }

/-- 'laws.FnNoteFault': WHATEVER THE INPUT: true; the input reads as it did. -/
def fnNoteFaultSpec : ChangeSpec := { name := "fnNoteFault", fn := fun _ => fun
  | [d] => { results := [.lit (.bool true)], args := [d] }
  | _ => none }
def fnNoteFaultRow : OpenClaim := { program := "ytfcocnhkimbpbab", sum := "2aeba4413f5a2fa9eac53f5adf363efab96feba7599241fa3e9438f6bb4d193f", func := "loop.example/netstack/laws.FnNoteFault", spec := "fnNoteFault", apart := false }
def FnNoteFaultSaid : Prop := fnNoteFaultRow.holds Try.pinned (OpenSpec.ofChange fnNoteFaultSpec)

/-- ITS FALSE NEIGHBOUR: 'it returns false'. Refute it at one input. -/
def fnNoteFaultWrong : ChangeSpec := { name := "fnNoteFault", fn := fun _ => fun
  | [d] => { results := [.lit (.bool false)], args := [d] }
  | _ => none }
def FnNoteFaultWrongFalsely : Prop := fnNoteFaultRow.holds Try.pinned (OpenSpec.ofChange fnNoteFaultWrong)

/-- 'laws.FnSegmentLong': WHATEVER THE INPUT: true; the input reads as it did. -/
def fnSegmentLongSpec : ChangeSpec := { name := "fnSegmentLong", fn := fun _ => fun
  | [d] => { results := [.lit (.bool true)], args := [d] }
  | _ => none }
def fnSegmentLongRow : OpenClaim := { program := "ytfcocnhkimbpbab", sum := "2aeba4413f5a2fa9eac53f5adf363efab96feba7599241fa3e9438f6bb4d193f", func := "loop.example/netstack/laws.FnSegmentLong", spec := "fnSegmentLong", apart := false }
def FnSegmentLongSaid : Prop := fnSegmentLongRow.holds Try.pinned (OpenSpec.ofChange fnSegmentLongSpec)

/-- ITS FALSE NEIGHBOUR: 'it returns false'. Refute it at one input. -/
def fnSegmentLongWrong : ChangeSpec := { name := "fnSegmentLong", fn := fun _ => fun
  | [d] => { results := [.lit (.bool false)], args := [d] }
  | _ => none }
def FnSegmentLongWrongFalsely : Prop := fnSegmentLongRow.holds Try.pinned (OpenSpec.ofChange fnSegmentLongWrong)

/-- 'laws.FnEarOk': WHATEVER THE INPUT: true; the input reads as it did. -/
def fnEarOkSpec : ChangeSpec := { name := "fnEarOk", fn := fun _ => fun
  | [d] => { results := [.lit (.bool true)], args := [d] }
  | _ => none }
def fnEarOkRow : OpenClaim := { program := "ytfcocnhkimbpbab", sum := "2aeba4413f5a2fa9eac53f5adf363efab96feba7599241fa3e9438f6bb4d193f", func := "loop.example/netstack/laws.FnEarOk", spec := "fnEarOk", apart := false }
def FnEarOkSaid : Prop := fnEarOkRow.holds Try.pinned (OpenSpec.ofChange fnEarOkSpec)

/-- ITS FALSE NEIGHBOUR: 'it returns false'. Refute it at one input. -/
def fnEarOkWrong : ChangeSpec := { name := "fnEarOk", fn := fun _ => fun
  | [d] => { results := [.lit (.bool false)], args := [d] }
  | _ => none }
def FnEarOkWrongFalsely : Prop := fnEarOkRow.holds Try.pinned (OpenSpec.ofChange fnEarOkWrong)

/-- 'laws.FnEarRanges': WHATEVER THE INPUT: true; the input reads as it did. -/
def fnEarRangesSpec : ChangeSpec := { name := "fnEarRanges", fn := fun _ => fun
  | [d] => { results := [.lit (.bool true)], args := [d] }
  | _ => none }
def fnEarRangesRow : OpenClaim := { program := "ytfcocnhkimbpbab", sum := "2aeba4413f5a2fa9eac53f5adf363efab96feba7599241fa3e9438f6bb4d193f", func := "loop.example/netstack/laws.FnEarRanges", spec := "fnEarRanges", apart := false }
def FnEarRangesSaid : Prop := fnEarRangesRow.holds Try.pinned (OpenSpec.ofChange fnEarRangesSpec)

/-- ITS FALSE NEIGHBOUR: 'it returns false'. Refute it at one input. -/
def fnEarRangesWrong : ChangeSpec := { name := "fnEarRanges", fn := fun _ => fun
  | [d] => { results := [.lit (.bool false)], args := [d] }
  | _ => none }
def FnEarRangesWrongFalsely : Prop := fnEarRangesRow.holds Try.pinned (OpenSpec.ofChange fnEarRangesWrong)

/-- 'laws.FnExactSegmentBytes': WHATEVER THE INPUT: true; the input reads as it did. -/
def fnExactSegmentBytesSpec : ChangeSpec := { name := "fnExactSegmentBytes", fn := fun _ => fun
  | [d1, d2, d3] => { results := [.lit (.bool true)], args := [d1, d2, d3] }
  | _ => none }
def fnExactSegmentBytesRow : OpenClaim := { program := "ytfcocnhkimbpbab", sum := "2aeba4413f5a2fa9eac53f5adf363efab96feba7599241fa3e9438f6bb4d193f", func := "loop.example/netstack/laws.FnExactSegmentBytes", spec := "fnExactSegmentBytes", unfollowed := true, recurses := true, apart := false }
def FnExactSegmentBytesSaid : Prop := fnExactSegmentBytesRow.holds Try.pinned (OpenSpec.ofChange fnExactSegmentBytesSpec)

/-- ITS FALSE NEIGHBOUR: 'it returns false'. Refute it at one input. -/
def fnExactSegmentBytesWrong : ChangeSpec := { name := "fnExactSegmentBytes", fn := fun _ => fun
  | [d1, d2, d3] => { results := [.lit (.bool false)], args := [d1, d2, d3] }
  | _ => none }
def FnExactSegmentBytesWrongFalsely : Prop := fnExactSegmentBytesRow.holds Try.pinned (OpenSpec.ofChange fnExactSegmentBytesWrong)

/-- 'laws.FnExactNoteAbout': WHATEVER THE INPUT: true; the input reads as it did. -/
def fnExactNoteAboutSpec : ChangeSpec := { name := "fnExactNoteAbout", fn := fun _ => fun
  | [d1, d2, d3, d4] => { results := [.lit (.bool true)], args := [d1, d2, d3, d4] }
  | _ => none }
def fnExactNoteAboutRow : OpenClaim := { program := "ytfcocnhkimbpbab", sum := "2aeba4413f5a2fa9eac53f5adf363efab96feba7599241fa3e9438f6bb4d193f", func := "loop.example/netstack/laws.FnExactNoteAbout", spec := "fnExactNoteAbout", unfollowed := true, recurses := true, apart := false }
def FnExactNoteAboutSaid : Prop := fnExactNoteAboutRow.holds Try.pinned (OpenSpec.ofChange fnExactNoteAboutSpec)

/-- ITS FALSE NEIGHBOUR: 'it returns false'. Refute it at one input. -/
def fnExactNoteAboutWrong : ChangeSpec := { name := "fnExactNoteAbout", fn := fun _ => fun
  | [d1, d2, d3, d4] => { results := [.lit (.bool false)], args := [d1, d2, d3, d4] }
  | _ => none }
def FnExactNoteAboutWrongFalsely : Prop := fnExactNoteAboutRow.holds Try.pinned (OpenSpec.ofChange fnExactNoteAboutWrong)

/- THE SECOND FORM. 'bulk': how many values and letters a reading holds, each counted each time it is reached (what is shared counts as often as it is met; a slice's spare places count too). A statement '..UptoSaid' is the law's where the arguments, and the package variables that the reading takes, are together of bulk at most 1048576: NARROWER than '..Said'. Prove '..Said' where nothing that the law and all that it calls make is longer than what came in: it says more and counts as full. Else prove '..UptoSaid'. A law counts once. -/
mutual
def uptoBulk {H : Type} : DataW H → Nat
  | .lit (.string bytes) => bytes.length + 1
  | .lit _ => 1
  | .nil => 1
  | .ptr d => uptoBulk d + 1
  | .slice elems spare => uptoBulkAll elems + uptoBulkAll spare + 1
  | .agg parts => uptoBulkAll parts + 1
  | .iface _ d => uptoBulk d + 1
  | .map entries => uptoBulkEntries entries + 1
  | .held _ => 1
def uptoBulkAll {H : Type} : List (DataW H) → Nat
  | [] => 0
  | d :: r => uptoBulk d + uptoBulkAll r
def uptoBulkEntries {H : Type} : List (Lit × DataW H) → Nat
  | [] => 0
  | x :: r => uptoBulkEntry x + uptoBulkEntries r
def uptoBulkEntry {H : Type} : Lit × DataW H → Nat
  | (.string bytes, d) => bytes.length + uptoBulk d + 1
  | (_, d) => uptoBulk d + 1
 end
def uptoSmall : (H : Type) → List (DataW H) → Bool := fun _ ds => decide (uptoBulkAll ds ≤ 1048576)
def OpenSpec.upto (s : _root_.Go.ChangeSpec) : _root_.Go.OpenSpec := { _root_.Go.OpenSpec.ofChange s with cond := some uptoSmall }

/-- 'laws.FnNoteFault', WHERE WHAT IT READS IS OF BULK AT MOST 1048576: true; the input reads as it did. -/
def fnNoteFaultUptoRow : OpenClaim := { program := "ytfcocnhkimbpbab", sum := "2aeba4413f5a2fa9eac53f5adf363efab96feba7599241fa3e9438f6bb4d193f", func := "loop.example/netstack/laws.FnNoteFault", spec := "fnNoteFault", apart := false, narrowed := true }
def FnNoteFaultUptoSaid : Prop := fnNoteFaultUptoRow.holds Try.pinned (OpenSpec.upto fnNoteFaultSpec)

/-- 'laws.FnSegmentLong', WHERE WHAT IT READS IS OF BULK AT MOST 1048576: true; the input reads as it did. -/
def fnSegmentLongUptoRow : OpenClaim := { program := "ytfcocnhkimbpbab", sum := "2aeba4413f5a2fa9eac53f5adf363efab96feba7599241fa3e9438f6bb4d193f", func := "loop.example/netstack/laws.FnSegmentLong", spec := "fnSegmentLong", apart := false, narrowed := true }
def FnSegmentLongUptoSaid : Prop := fnSegmentLongUptoRow.holds Try.pinned (OpenSpec.upto fnSegmentLongSpec)

/-- 'laws.FnEarOk', WHERE WHAT IT READS IS OF BULK AT MOST 1048576: true; the input reads as it did. -/
def fnEarOkUptoRow : OpenClaim := { program := "ytfcocnhkimbpbab", sum := "2aeba4413f5a2fa9eac53f5adf363efab96feba7599241fa3e9438f6bb4d193f", func := "loop.example/netstack/laws.FnEarOk", spec := "fnEarOk", apart := false, narrowed := true }
def FnEarOkUptoSaid : Prop := fnEarOkUptoRow.holds Try.pinned (OpenSpec.upto fnEarOkSpec)

/-- 'laws.FnEarRanges', WHERE WHAT IT READS IS OF BULK AT MOST 1048576: true; the input reads as it did. -/
def fnEarRangesUptoRow : OpenClaim := { program := "ytfcocnhkimbpbab", sum := "2aeba4413f5a2fa9eac53f5adf363efab96feba7599241fa3e9438f6bb4d193f", func := "loop.example/netstack/laws.FnEarRanges", spec := "fnEarRanges", apart := false, narrowed := true }
def FnEarRangesUptoSaid : Prop := fnEarRangesUptoRow.holds Try.pinned (OpenSpec.upto fnEarRangesSpec)

/-- 'laws.FnExactSegmentBytes', WHERE WHAT IT READS IS OF BULK AT MOST 1048576: true; the input reads as it did. -/
def fnExactSegmentBytesUptoRow : OpenClaim := { program := "ytfcocnhkimbpbab", sum := "2aeba4413f5a2fa9eac53f5adf363efab96feba7599241fa3e9438f6bb4d193f", func := "loop.example/netstack/laws.FnExactSegmentBytes", spec := "fnExactSegmentBytes", unfollowed := true, recurses := true, apart := false, narrowed := true }
def FnExactSegmentBytesUptoSaid : Prop := fnExactSegmentBytesUptoRow.holds Try.pinned (OpenSpec.upto fnExactSegmentBytesSpec)

/-- 'laws.FnExactNoteAbout', WHERE WHAT IT READS IS OF BULK AT MOST 1048576: true; the input reads as it did. -/
def fnExactNoteAboutUptoRow : OpenClaim := { program := "ytfcocnhkimbpbab", sum := "2aeba4413f5a2fa9eac53f5adf363efab96feba7599241fa3e9438f6bb4d193f", func := "loop.example/netstack/laws.FnExactNoteAbout", spec := "fnExactNoteAbout", unfollowed := true, recurses := true, apart := false, narrowed := true }
def FnExactNoteAboutUptoSaid : Prop := fnExactNoteAboutUptoRow.holds Try.pinned (OpenSpec.upto fnExactNoteAboutSpec)

end Rows
end Go.Proofs.Ytfcocnhkimbpbab
