/-
  No cell of these rows narrows 'for every input' (looked for: loops, veiled, ifaces, maps, wideKeys, modest, calm, conditions, laid).
  DERIVED. THE GIVEN ROWS OF THIS SEAT. 6 by the template 'for every input the law returns true; each argument reads behind the call as it read before'; 0 by the template 'total and deterministic' (their statements: YtgfaamcihlojdadTotals.lean).
  GIVEN WITH THE SEED: the statements are not yours to turn. If you find one false, say at which input.
  Laid BY PROGRAM, IN A SANDBOX (cutbox-rows.mjs): the forced cells as the released guide's own fill.sh prints them over the translation edb22b2e7fa58bd7… (all of the seat's roots in one cut). By AI agents, Wed Nov 11 2026. No macro, syntax, notation, axiom, sorry.
-/
import Derived.Test.YtgfaamcihlojdadChecked
import GoSem.Claim
import GoSem.ClaimJoined
import GoSem.ClaimMapViews
import Derived.JoinedTies
import Derived.KernelRfl
namespace Go.Proofs.Ytgfaamcihlojdad
/- THE CELL 'sum', in the pinned program and in every row, IS THE sha256 OF THE DUMP (.gsa) THAT YtgfaamcihlojdadProg.lean LOADS. Nothing in Lean hashes anything: it is a label: what it is worth is what the hold of that sum in a sandbox is worth. -/
noncomputable def Try.pinned : Pinned := { name := "ytgfaamcihlojdad", sum := "edb22b2e7fa58bd7917bef224c3f84a772d64474ad67300cbb5cab8df820faae", checked := Try.checked }
namespace Rows
def none {H : Type} : Left H := { results := [], args := [] }

/-- 'laws.FnExactSegmentLong': WHATEVER THE INPUT: true; the input reads as it did. -/
def fnExactSegmentLongSpec : ChangeSpec := { name := "fnExactSegmentLong", fn := fun _ => fun
  | [d] => { results := [.lit (.bool true)], args := [d] }
  | _ => none }
def fnExactSegmentLongRow : OpenClaim := { program := "ytgfaamcihlojdad", sum := "edb22b2e7fa58bd7917bef224c3f84a772d64474ad67300cbb5cab8df820faae", func := "loop.example/netstack/laws.FnExactSegmentLong", spec := "fnExactSegmentLong", apart := false }
def FnExactSegmentLongSaid : Prop := fnExactSegmentLongRow.holds Try.pinned (OpenSpec.ofChange fnExactSegmentLongSpec)

/-- ITS FALSE NEIGHBOUR: 'it returns false'. Refute it at one input. -/
def fnExactSegmentLongWrong : ChangeSpec := { name := "fnExactSegmentLong", fn := fun _ => fun
  | [d] => { results := [.lit (.bool false)], args := [d] }
  | _ => none }
def FnExactSegmentLongWrongFalsely : Prop := fnExactSegmentLongRow.holds Try.pinned (OpenSpec.ofChange fnExactSegmentLongWrong)

/-- 'laws.FnExactMouthOk': WHATEVER THE INPUT: true; the input reads as it did. -/
def fnExactMouthOkSpec : ChangeSpec := { name := "fnExactMouthOk", fn := fun _ => fun
  | [d] => { results := [.lit (.bool true)], args := [d] }
  | _ => none }
def fnExactMouthOkRow : OpenClaim := { program := "ytgfaamcihlojdad", sum := "edb22b2e7fa58bd7917bef224c3f84a772d64474ad67300cbb5cab8df820faae", func := "loop.example/netstack/laws.FnExactMouthOk", spec := "fnExactMouthOk", apart := false }
def FnExactMouthOkSaid : Prop := fnExactMouthOkRow.holds Try.pinned (OpenSpec.ofChange fnExactMouthOkSpec)

/-- ITS FALSE NEIGHBOUR: 'it returns false'. Refute it at one input. -/
def fnExactMouthOkWrong : ChangeSpec := { name := "fnExactMouthOk", fn := fun _ => fun
  | [d] => { results := [.lit (.bool false)], args := [d] }
  | _ => none }
def FnExactMouthOkWrongFalsely : Prop := fnExactMouthOkRow.holds Try.pinned (OpenSpec.ofChange fnExactMouthOkWrong)

/-- 'laws.FnEarOk': WHATEVER THE INPUT: true; the input reads as it did. -/
def fnEarOkSpec : ChangeSpec := { name := "fnEarOk", fn := fun _ => fun
  | [d] => { results := [.lit (.bool true)], args := [d] }
  | _ => none }
def fnEarOkRow : OpenClaim := { program := "ytgfaamcihlojdad", sum := "edb22b2e7fa58bd7917bef224c3f84a772d64474ad67300cbb5cab8df820faae", func := "loop.example/netstack/laws.FnEarOk", spec := "fnEarOk", apart := false }
def FnEarOkSaid : Prop := fnEarOkRow.holds Try.pinned (OpenSpec.ofChange fnEarOkSpec)

/-- ITS FALSE NEIGHBOUR: 'it returns false'. Refute it at one input. -/
def fnEarOkWrong : ChangeSpec := { name := "fnEarOk", fn := fun _ => fun
  | [d] => { results := [.lit (.bool false)], args := [d] }
  | _ => none }
def FnEarOkWrongFalsely : Prop := fnEarOkRow.holds Try.pinned (OpenSpec.ofChange fnEarOkWrong)

/-- 'laws.FnStationOk': WHATEVER THE INPUT: true; the input reads as it did. -/
def fnStationOkSpec : ChangeSpec := { name := "fnStationOk", fn := fun _ => fun
  | [d] => { results := [.lit (.bool true)], args := [d] }
  | _ => none }
def fnStationOkRow : OpenClaim := { program := "ytgfaamcihlojdad", sum := "edb22b2e7fa58bd7917bef224c3f84a772d64474ad67300cbb5cab8df820faae", func := "loop.example/netstack/laws.FnStationOk", spec := "fnStationOk", apart := false }
def FnStationOkSaid : Prop := fnStationOkRow.holds Try.pinned (OpenSpec.ofChange fnStationOkSpec)

/-- ITS FALSE NEIGHBOUR: 'it returns false'. Refute it at one input. -/
def fnStationOkWrong : ChangeSpec := { name := "fnStationOk", fn := fun _ => fun
  | [d] => { results := [.lit (.bool false)], args := [d] }
  | _ => none }
def FnStationOkWrongFalsely : Prop := fnStationOkRow.holds Try.pinned (OpenSpec.ofChange fnStationOkWrong)

/-- 'laws.FnExactNoteFrom': WHATEVER THE INPUT: true; the input reads as it did. -/
def fnExactNoteFromSpec : ChangeSpec := { name := "fnExactNoteFrom", fn := fun _ => fun
  | [d] => { results := [.lit (.bool true)], args := [d] }
  | _ => none }
def fnExactNoteFromRow : OpenClaim := { program := "ytgfaamcihlojdad", sum := "edb22b2e7fa58bd7917bef224c3f84a772d64474ad67300cbb5cab8df820faae", func := "loop.example/netstack/laws.FnExactNoteFrom", spec := "fnExactNoteFrom", apart := false }
def FnExactNoteFromSaid : Prop := fnExactNoteFromRow.holds Try.pinned (OpenSpec.ofChange fnExactNoteFromSpec)

/-- ITS FALSE NEIGHBOUR: 'it returns false'. Refute it at one input. -/
def fnExactNoteFromWrong : ChangeSpec := { name := "fnExactNoteFrom", fn := fun _ => fun
  | [d] => { results := [.lit (.bool false)], args := [d] }
  | _ => none }
def FnExactNoteFromWrongFalsely : Prop := fnExactNoteFromRow.holds Try.pinned (OpenSpec.ofChange fnExactNoteFromWrong)

/-- 'laws.FnExactSegmentOk': WHATEVER THE INPUT: true; the input reads as it did. -/
def fnExactSegmentOkSpec : ChangeSpec := { name := "fnExactSegmentOk", fn := fun _ => fun
  | [d] => { results := [.lit (.bool true)], args := [d] }
  | _ => none }
def fnExactSegmentOkRow : OpenClaim := { program := "ytgfaamcihlojdad", sum := "edb22b2e7fa58bd7917bef224c3f84a772d64474ad67300cbb5cab8df820faae", func := "loop.example/netstack/laws.FnExactSegmentOk", spec := "fnExactSegmentOk", unfollowed := true, recurses := true, apart := false }
def FnExactSegmentOkSaid : Prop := fnExactSegmentOkRow.holds Try.pinned (OpenSpec.ofChange fnExactSegmentOkSpec)

/-- ITS FALSE NEIGHBOUR: 'it returns false'. Refute it at one input. -/
def fnExactSegmentOkWrong : ChangeSpec := { name := "fnExactSegmentOk", fn := fun _ => fun
  | [d] => { results := [.lit (.bool false)], args := [d] }
  | _ => none }
def FnExactSegmentOkWrongFalsely : Prop := fnExactSegmentOkRow.holds Try.pinned (OpenSpec.ofChange fnExactSegmentOkWrong)

/- THE SECOND FORM. 'bulk': how many values and letters a reading holds, each counted each time it is reached (what is shared counts as often as it is met; a slice's spare places count too). A statement '..UptoSaid' is the law's where the arguments, and the package variables that the reading takes, are together of bulk at most 1048576: NARROWER than '..Said'. Prove '..Said' where nothing that the law and all that it calls make is longer than what came in: it says more and counts as full. Else prove '..UptoSaid'. A law counts once. -/
mutual
def uptoBulk {H : Type} : DataW H → Nat
  | .lit (.string bytes) => bytes.length + 1
  | .lit _ => 1
  | .nil => 1
  | .ptr d => uptoBulk d + 1
  | .slice elems spare => uptoBulkAll elems + uptoBulkAll spare + 1
  | .agg parts => uptoBulkAll parts + 1
  | .iface _ d => uptoBulk d + 1
  | .map entries => uptoBulkEntries entries + 1
  | .held _ => 1
def uptoBulkAll {H : Type} : List (DataW H) → Nat
  | [] => 0
  | d :: r => uptoBulk d + uptoBulkAll r
def uptoBulkEntries {H : Type} : List (Lit × DataW H) → Nat
  | [] => 0
  | x :: r => uptoBulkEntry x + uptoBulkEntries r
def uptoBulkEntry {H : Type} : Lit × DataW H → Nat
  | (.string bytes, d) => bytes.length + uptoBulk d + 1
  | (_, d) => uptoBulk d + 1
 end
def uptoSmall : (H : Type) → List (DataW H) → Bool := fun _ ds => decide (uptoBulkAll ds ≤ 1048576)
def OpenSpec.upto (s : _root_.Go.ChangeSpec) : _root_.Go.OpenSpec := { _root_.Go.OpenSpec.ofChange s with cond := some uptoSmall }

/-- 'laws.FnExactSegmentLong', WHERE WHAT IT READS IS OF BULK AT MOST 1048576: true; the input reads as it did. -/
def fnExactSegmentLongUptoRow : OpenClaim := { program := "ytgfaamcihlojdad", sum := "edb22b2e7fa58bd7917bef224c3f84a772d64474ad67300cbb5cab8df820faae", func := "loop.example/netstack/laws.FnExactSegmentLong", spec := "fnExactSegmentLong", apart := false, narrowed := true }
def FnExactSegmentLongUptoSaid : Prop := fnExactSegmentLongUptoRow.holds Try.pinned (OpenSpec.upto fnExactSegmentLongSpec)

/-- 'laws.FnExactMouthOk', WHERE WHAT IT READS IS OF BULK AT MOST 1048576: true; the input reads as it did. -/
def fnExactMouthOkUptoRow : OpenClaim := { program := "ytgfaamcihlojdad", sum := "edb22b2e7fa58bd7917bef224c3f84a772d64474ad67300cbb5cab8df820faae", func := "loop.example/netstack/laws.FnExactMouthOk", spec := "fnExactMouthOk", apart := false, narrowed := true }
def FnExactMouthOkUptoSaid : Prop := fnExactMouthOkUptoRow.holds Try.pinned (OpenSpec.upto fnExactMouthOkSpec)

/-- 'laws.FnEarOk', WHERE WHAT IT READS IS OF BULK AT MOST 1048576: true; the input reads as it did. -/
def fnEarOkUptoRow : OpenClaim := { program := "ytgfaamcihlojdad", sum := "edb22b2e7fa58bd7917bef224c3f84a772d64474ad67300cbb5cab8df820faae", func := "loop.example/netstack/laws.FnEarOk", spec := "fnEarOk", apart := false, narrowed := true }
def FnEarOkUptoSaid : Prop := fnEarOkUptoRow.holds Try.pinned (OpenSpec.upto fnEarOkSpec)

/-- 'laws.FnStationOk', WHERE WHAT IT READS IS OF BULK AT MOST 1048576: true; the input reads as it did. -/
def fnStationOkUptoRow : OpenClaim := { program := "ytgfaamcihlojdad", sum := "edb22b2e7fa58bd7917bef224c3f84a772d64474ad67300cbb5cab8df820faae", func := "loop.example/netstack/laws.FnStationOk", spec := "fnStationOk", apart := false, narrowed := true }
def FnStationOkUptoSaid : Prop := fnStationOkUptoRow.holds Try.pinned (OpenSpec.upto fnStationOkSpec)

/-- 'laws.FnExactNoteFrom', WHERE WHAT IT READS IS OF BULK AT MOST 1048576: true; the input reads as it did. -/
def fnExactNoteFromUptoRow : OpenClaim := { program := "ytgfaamcihlojdad", sum := "edb22b2e7fa58bd7917bef224c3f84a772d64474ad67300cbb5cab8df820faae", func := "loop.example/netstack/laws.FnExactNoteFrom", spec := "fnExactNoteFrom", apart := false, narrowed := true }
def FnExactNoteFromUptoSaid : Prop := fnExactNoteFromUptoRow.holds Try.pinned (OpenSpec.upto fnExactNoteFromSpec)

/-- 'laws.FnExactSegmentOk', WHERE WHAT IT READS IS OF BULK AT MOST 1048576: true; the input reads as it did. -/
def fnExactSegmentOkUptoRow : OpenClaim := { program := "ytgfaamcihlojdad", sum := "edb22b2e7fa58bd7917bef224c3f84a772d64474ad67300cbb5cab8df820faae", func := "loop.example/netstack/laws.FnExactSegmentOk", spec := "fnExactSegmentOk", unfollowed := true, recurses := true, apart := false, narrowed := true }
def FnExactSegmentOkUptoSaid : Prop := fnExactSegmentOkUptoRow.holds Try.pinned (OpenSpec.upto fnExactSegmentOkSpec)

end Rows
end Go.Proofs.Ytgfaamcihlojdad
