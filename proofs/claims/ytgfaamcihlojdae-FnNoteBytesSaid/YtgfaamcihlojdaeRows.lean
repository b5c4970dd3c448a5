/-
  No cell of these rows narrows 'for every input' (looked for: loops, veiled, ifaces, maps, wideKeys, modest, calm, conditions, laid).
  DERIVED. THE GIVEN ROWS OF THIS SEAT. 6 by the template 'for every input the law returns true; each argument reads behind the call as it read before'; 0 by the template 'total and deterministic' (their statements: YtgfaamcihlojdaeTotals.lean).
  GIVEN WITH THE SEED: the statements are not yours to turn. If you find one false, say at which input.
  Laid BY PROGRAM, IN A SANDBOX (cutbox-rows.mjs): the forced cells as the released guide's own fill.sh prints them over the translation 59d6499e7f49bcf3… (all of the seat's roots in one cut). By AI agents, Wed Nov 11 2026. No macro, syntax, notation, axiom, sorry.
-/
import Derived.Test.YtgfaamcihlojdaeChecked
import GoSem.Claim
import GoSem.ClaimJoined
import GoSem.ClaimMapViews
import Derived.JoinedTies
import Derived.KernelRfl
namespace Go.Proofs.Ytgfaamcihlojdae
/- THE CELL 'sum', in the pinned program and in every row, IS THE sha256 OF THE DUMP (.gsa) THAT YtgfaamcihlojdaeProg.lean LOADS. Nothing in Lean hashes anything: it is a label: what it is worth is what the hold of that sum in a sandbox is worth. -/
noncomputable def Try.pinned : Pinned := { name := "ytgfaamcihlojdae", sum := "59d6499e7f49bcf36531cf0829766b49b4f535dea45358a7d50349351321b5c2", checked := Try.checked }
namespace Rows
def none {H : Type} : Left H := { results := [], args := [] }

/-- 'laws.FnMouthOk': WHATEVER THE INPUT: true; the input reads as it did. -/
def fnMouthOkSpec : ChangeSpec := { name := "fnMouthOk", fn := fun _ => fun
  | [d] => { results := [.lit (.bool true)], args := [d] }
  | _ => none }
def fnMouthOkRow : OpenClaim := { program := "ytgfaamcihlojdae", sum := "59d6499e7f49bcf36531cf0829766b49b4f535dea45358a7d50349351321b5c2", func := "loop.example/netstack/laws.FnMouthOk", spec := "fnMouthOk", apart := false }
def FnMouthOkSaid : Prop := fnMouthOkRow.holds Try.pinned (OpenSpec.ofChange fnMouthOkSpec)

/-- ITS FALSE NEIGHBOUR: 'it returns false'. Refute it at one input. -/
def fnMouthOkWrong : ChangeSpec := { name := "fnMouthOk", fn := fun _ => fun
  | [d] => { results := [.lit (.bool false)], args := [d] }
  | _ => none }
def FnMouthOkWrongFalsely : Prop := fnMouthOkRow.holds Try.pinned (OpenSpec.ofChange fnMouthOkWrong)

/-- 'laws.FnNoteBytes': WHATEVER THE INPUT: true; the input reads as it did. -/
def fnNoteBytesSpec : ChangeSpec := { name := "fnNoteBytes", fn := fun _ => fun
  | [d] => { results := [.lit (.bool true)], args := [d] }
  | _ => none }
def fnNoteBytesRow : OpenClaim := { program := "ytgfaamcihlojdae", sum := "59d6499e7f49bcf36531cf0829766b49b4f535dea45358a7d50349351321b5c2", func := "loop.example/netstack/laws.FnNoteBytes", spec := "fnNoteBytes", apart := false }
def FnNoteBytesSaid : Prop := fnNoteBytesRow.holds Try.pinned (OpenSpec.ofChange fnNoteBytesSpec)

/-- ITS FALSE NEIGHBOUR: 'it returns false'. Refute it at one input. -/
def fnNoteBytesWrong : ChangeSpec := { name := "fnNoteBytes", fn := fun _ => fun
  | [d] => { results := [.lit (.bool false)], args := [d] }
  | _ => none }
def FnNoteBytesWrongFalsely : Prop := fnNoteBytesRow.holds Try.pinned (OpenSpec.ofChange fnNoteBytesWrong)

/-- 'laws.FnExactPortsOk': WHATEVER THE INPUT: true; the input reads as it did. -/
def fnExactPortsOkSpec : ChangeSpec := { name := "fnExactPortsOk", fn := fun _ => fun
  | [d] => { results := [.lit (.bool true)], args := [d] }
  | _ => none }
def fnExactPortsOkRow : OpenClaim := { program := "ytgfaamcihlojdae", sum := "59d6499e7f49bcf36531cf0829766b49b4f535dea45358a7d50349351321b5c2", func := "loop.example/netstack/laws.FnExactPortsOk", spec := "fnExactPortsOk", unfollowed := true, recurses := true, apart := false }
def FnExactPortsOkSaid : Prop := fnExactPortsOkRow.holds Try.pinned (OpenSpec.ofChange fnExactPortsOkSpec)

/-- ITS FALSE NEIGHBOUR: 'it returns false'. Refute it at one input. -/
def fnExactPortsOkWrong : ChangeSpec := { name := "fnExactPortsOk", fn := fun _ => fun
  | [d] => { results := [.lit (.bool false)], args := [d] }
  | _ => none }
def FnExactPortsOkWrongFalsely : Prop := fnExactPortsOkRow.holds Try.pinned (OpenSpec.ofChange fnExactPortsOkWrong)

/-- 'laws.FnNetOk': WHATEVER THE INPUT: true; the input reads as it did. -/
def fnNetOkSpec : ChangeSpec := { name := "fnNetOk", fn := fun _ => fun
  | [d] => { results := [.lit (.bool true)], args := [d] }
  | _ => none }
def fnNetOkRow : OpenClaim := { program := "ytgfaamcihlojdae", sum := "59d6499e7f49bcf36531cf0829766b49b4f535dea45358a7d50349351321b5c2", func := "loop.example/netstack/laws.FnNetOk", spec := "fnNetOk", unfollowed := true, recurses := true, apart := false }
def FnNetOkSaid : Prop := fnNetOkRow.holds Try.pinned (OpenSpec.ofChange fnNetOkSpec)

/-- ITS FALSE NEIGHBOUR: 'it returns false'. Refute it at one input. -/
def fnNetOkWrong : ChangeSpec := { name := "fnNetOk", fn := fun _ => fun
  | [d] => { results := [.lit (.bool false)], args := [d] }
  | _ => none }
def FnNetOkWrongFalsely : Prop := fnNetOkRow.holds Try.pinned (OpenSpec.ofChange fnNetOkWrong)

/-- 'laws.FnExactNoteFault': WHATEVER THE INPUT: true; the input reads as it did. -/
def fnExactNoteFaultSpec : ChangeSpec := { name := "fnExactNoteFault", fn := fun _ => fun
  | [d] => { results := [.lit (.bool true)], args := [d] }
  | _ => none }
def fnExactNoteFaultRow : OpenClaim := { program := "ytgfaamcihlojdae", sum := "59d6499e7f49bcf36531cf0829766b49b4f535dea45358a7d50349351321b5c2", func := "loop.example/netstack/laws.FnExactNoteFault", spec := "fnExactNoteFault", apart := false }
def FnExactNoteFaultSaid : Prop := fnExactNoteFaultRow.holds Try.pinned (OpenSpec.ofChange fnExactNoteFaultSpec)

/-- ITS FALSE NEIGHBOUR: 'it returns false'. Refute it at one input. -/
def fnExactNoteFaultWrong : ChangeSpec := { name := "fnExactNoteFault", fn := fun _ => fun
  | [d] => { results := [.lit (.bool false)], args := [d] }
  | _ => none }
def FnExactNoteFaultWrongFalsely : Prop := fnExactNoteFaultRow.holds Try.pinned (OpenSpec.ofChange fnExactNoteFaultWrong)

/-- 'laws.FnExactMailBytes': WHATEVER THE INPUT: true; the input reads as it did. -/
def fnExactMailBytesSpec : ChangeSpec := { name := "fnExactMailBytes", fn := fun _ => fun
  | [d1, d2] => { results := [.lit (.bool true)], args := [d1, d2] }
  | _ => none }
def fnExactMailBytesRow : OpenClaim := { program := "ytgfaamcihlojdae", sum := "59d6499e7f49bcf36531cf0829766b49b4f535dea45358a7d50349351321b5c2", func := "loop.example/netstack/laws.FnExactMailBytes", spec := "fnExactMailBytes", unfollowed := true, recurses := true, apart := false }
def FnExactMailBytesSaid : Prop := fnExactMailBytesRow.holds Try.pinned (OpenSpec.ofChange fnExactMailBytesSpec)

/-- ITS FALSE NEIGHBOUR: 'it returns false'. Refute it at one input. -/
def fnExactMailBytesWrong : ChangeSpec := { name := "fnExactMailBytes", fn := fun _ => fun
  | [d1, d2] => { results := [.lit (.bool false)], args := [d1, d2] }
  | _ => none }
def FnExactMailBytesWrongFalsely : Prop := fnExactMailBytesRow.holds Try.pinned (OpenSpec.ofChange fnExactMailBytesWrong)

/- THE SECOND FORM. 'bulk': how many values and letters a reading holds, each counted each time it is reached (what is shared counts as often as it is met; a slice's spare places count too). A statement '..UptoSaid' is the law's where the arguments, and the package variables that the reading takes, are together of bulk at most 1048576: NARROWER than '..Said'. Prove '..Said' where nothing that the law and all that it calls make is longer than what came in: it says more and counts as full. Else prove '..UptoSaid'. A law counts once. -/
mutual
def uptoBulk {H : Type} : DataW H → Nat
  | .lit (.string bytes) => bytes.length + 1
  | .lit _ => 1
  | .nil => 1
  | .ptr d => uptoBulk d + 1
  | .slice elems spare => uptoBulkAll elems + uptoBulkAll spare + 1
  | .agg parts => uptoBulkAll parts + 1
  | .iface _ d => uptoBulk d + 1
  | .map entries => uptoBulkEntries entries + 1
  | .held _ => 1
def uptoBulkAll {H : Type} : List (DataW H) → Nat
  | [] => 0
  | d :: r => uptoBulk d + uptoBulkAll r
def uptoBulkEntries {H : Type} : List (Lit × DataW H) → Nat
  | [] => 0
  | x :: r => uptoBulkEntry x + uptoBulkEntries r
def uptoBulkEntry {H : Type} : Lit × DataW H → Nat
  | (.string bytes, d) => bytes.length + uptoBulk d + 1
  | (_, d) => uptoBulk d + 1
 end
def uptoSmall : (H : Type) → List (DataW H) → Bool := fun _ ds => decide (uptoBulkAll ds ≤ 1048576)
def OpenSpec.upto (s : _root_.Go.ChangeSpec) : _root_.Go.OpenSpec := { _root_.Go.OpenSpec.ofChange s with cond := some uptoSmall }

/-- 'laws.FnMouthOk', WHERE WHAT IT READS IS OF BULK AT MOST 1048576: true; the input reads as it did. -/
def fnMouthOkUptoRow : OpenClaim := { program := "ytgfaamcihlojdae", sum := "59d6499e7f49bcf36531cf0829766b49b4f535dea45358a7d50349351321b5c2", func := "loop.example/netstack/laws.FnMouthOk", spec := "fnMouthOk", apart := false, narrowed := true }
def FnMouthOkUptoSaid : Prop := fnMouthOkUptoRow.holds Try.pinned (OpenSpec.upto fnMouthOkSpec)

/-- 'laws.FnNoteBytes', WHERE WHAT IT READS IS OF BULK AT MOST 1048576: true; the input reads as it did. -/
def fnNoteBytesUptoRow : OpenClaim := { program := "ytgfaamcihlojdae", sum := "59d6499e7f49bcf36531cf0829766b49b4f535dea45358a7d50349351321b5c2", func := "loop.example/netstack/laws.FnNoteBytes", spec := "fnNoteBytes", apart := false, narrowed := true }
def FnNoteBytesUptoSaid : Prop := fnNoteBytesUptoRow.holds Try.pinned (OpenSpec.upto fnNoteBytesSpec)

/-- 'laws.FnExactPortsOk', WHERE WHAT IT READS IS OF BULK AT MOST 1048576: true; the input reads as it did. -/
def fnExactPortsOkUptoRow : OpenClaim := { program := "ytgfaamcihlojdae", sum := "59d6499e7f49bcf36531cf0829766b49b4f535dea45358a7d50349351321b5c2", func := "loop.example/netstack/laws.FnExactPortsOk", spec := "fnExactPortsOk", unfollowed := true, recurses := true, apart := false, narrowed := true }
def FnExactPortsOkUptoSaid : Prop := fnExactPortsOkUptoRow.holds Try.pinned (OpenSpec.upto fnExactPortsOkSpec)

/-- 'laws.FnNetOk', WHERE WHAT IT READS IS OF BULK AT MOST 1048576: true; the input reads as it did. -/
def fnNetOkUptoRow : OpenClaim := { program := "ytgfaamcihlojdae", sum := "59d6499e7f49bcf36531cf0829766b49b4f535dea45358a7d50349351321b5c2", func := "loop.example/netstack/laws.FnNetOk", spec := "fnNetOk", unfollowed := true, recurses := true, apart := false, narrowed := true }
def FnNetOkUptoSaid : Prop := fnNetOkUptoRow.holds Try.pinned (OpenSpec.upto fnNetOkSpec)

/-- 'laws.FnExactNoteFault', WHERE WHAT IT READS IS OF BULK AT MOST 1048576: true; the input reads as it did. -/
def fnExactNoteFaultUptoRow : OpenClaim := { program := "ytgfaamcihlojdae", sum := "59d6499e7f49bcf36531cf0829766b49b4f535dea45358a7d50349351321b5c2", func := "loop.example/netstack/laws.FnExactNoteFault", spec := "fnExactNoteFault", apart := false, narrowed := true }
def FnExactNoteFaultUptoSaid : Prop := fnExactNoteFaultUptoRow.holds Try.pinned (OpenSpec.upto fnExactNoteFaultSpec)

/-- 'laws.FnExactMailBytes', WHERE WHAT IT READS IS OF BULK AT MOST 1048576: true; the input reads as it did. -/
def fnExactMailBytesUptoRow : OpenClaim := { program := "ytgfaamcihlojdae", sum := "59d6499e7f49bcf36531cf0829766b49b4f535dea45358a7d50349351321b5c2", func := "loop.example/netstack/laws.FnExactMailBytes", spec := "fnExactMailBytes", unfollowed := true, recurses := true, apart := false, narrowed := true }
def FnExactMailBytesUptoSaid : Prop := fnExactMailBytesUptoRow.holds Try.pinned (OpenSpec.upto fnExactMailBytesSpec)

end Rows
end Go.Proofs.Ytgfaamcihlojdae
