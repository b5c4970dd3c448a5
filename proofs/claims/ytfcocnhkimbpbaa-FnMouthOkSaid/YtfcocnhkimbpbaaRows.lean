/-
  No cell of these rows narrows 'for every input' (looked for: loops, veiled, ifaces, maps, wideKeys, modest, calm, conditions, laid).
  DERIVED. THE GIVEN ROWS OF THIS SEAT. 6 by the template 'for every input the law returns true; each argument reads behind the call as it read before'; 0 by the template 'total and deterministic' (their statements: YtfcocnhkimbpbaaTotals.lean).
  GIVEN WITH THE SEED: the statements are not yours to turn. If you find one false, say at which input.
  Laid BY PROGRAM, IN A SANDBOX (cutbox-rows.mjs): the forced cells as the released guide's own fill.sh prints them over the translation d43d8f6f5effb84a… (all of the seat's roots in one cut). By AI agents, Wed Nov 11 2026. No macro, syntax, notation, axiom, sorry.
-/
import Derived.Test.YtfcocnhkimbpbaaChecked
import GoSem.Claim
import GoSem.ClaimJoined
import GoSem.ClaimMapViews
import Derived.JoinedTies
import Derived.KernelRfl
namespace Go.Proofs.Ytfcocnhkimbpbaa
/- THE CELL 'sum', in the pinned program and in every row, IS THE sha256 OF THE DUMP (.gsa) THAT YtfcocnhkimbpbaaProg.lean LOADS. Nothing in Lean hashes anything: it is a label: what it is worth is what the hold of that sum in a sandbox is worth. -/
noncomputable def Try.pinned : Pinned := { name := "ytfcocnhkimbpbaa", sum := "d43d8f6f5effb84a93f727587d8b13b3e09c5dc85153691203e7de6e837c5d58", checked := Try.checked }
namespace Rows
def none {H : Type} : Left H := { results := [], args := [] }

/-- 'laws.FnExactMailBytes': WHATEVER THE INPUT: true; the input reads as it did. -/
def fnExactMailBytesSpec : ChangeSpec := { name := "fnExactMailBytes", fn := fun _ => fun
  | [d1, d2] => { results := [.lit (.bool true)], args := [d1, d2] }
  | _ => none }
def fnExactMailBytesRow : OpenClaim := { program := "ytfcocnhkimbpbaa", sum := "d43d8f6f5effb84a93f727587d8b13b3e09c5dc85153691203e7de6e837c5d58", func := "loop.example/netstack/laws.FnExactMailBytes", spec := "fnExactMailBytes", unfollowed := true, recurses := true, apart := false }
def FnExactMailBytesSaid : Prop := fnExactMailBytesRow.holds Try.pinned (OpenSpec.ofChange fnExactMailBytesSpec)

/-- ITS FALSE NEIGHBOUR: 'it returns false'. Refute it at one input. -/
def fnExactMailBytesWrong : ChangeSpec := { name := "fnExactMailBytes", fn := fun _ => fun
  | [d1, d2] => { results := [.lit (.bool false)], args := [d1, d2] }
  | _ => none }
def FnExactMailBytesWrongFalsely : Prop := fnExactMailBytesRow.holds Try.pinned (OpenSpec.ofChange fnExactMailBytesWrong)

/-- 'laws.FnMailBytes': WHATEVER THE INPUT: true; the input reads as it did. -/
def fnMailBytesSpec : ChangeSpec := { name := "fnMailBytes", fn := fun _ => fun
  | [d] => { results := [.lit (.bool true)], args := [d] }
  | _ => none }
def fnMailBytesRow : OpenClaim := { program := "ytfcocnhkimbpbaa", sum := "d43d8f6f5effb84a93f727587d8b13b3e09c5dc85153691203e7de6e837c5d58", func := "loop.example/netstack/laws.FnMailBytes", spec := "fnMailBytes", unfollowed := true, recurses := true, apart := false }
def FnMailBytesSaid : Prop := fnMailBytesRow.holds Try.pinned (OpenSpec.ofChange fnMailBytesSpec)

/-- ITS FALSE NEIGHBOUR: 'it returns false'. Refute it at one input. -/
def fnMailBytesWrong : ChangeSpec := { name := "fnMailBytes", fn := fun _ => fun
  | [d] => { results := [.lit (.bool false)], args := [d] }
  | _ => none }
def FnMailBytesWrongFalsely : Prop := fnMailBytesRow.holds Try.pinned (OpenSpec.ofChange fnMailBytesWrong)

/-- 'laws.FnExactMailFrom': WHATEVER THE INPUT: true; the input reads as it did. -/
def fnExactMailFromSpec : ChangeSpec := { name := "fnExactMailFrom", fn := fun _ => fun
  | [d1, d2, d3] => { results := [.lit (.bool true)], args := [d1, d2, d3] }
  | _ => none }
def fnExactMailFromRow : OpenClaim := { program := "ytfcocnhkimbpbaa", sum := "d43d8f6f5effb84a93f727587d8b13b3e09c5dc85153691203e7de6e837c5d58", func := "loop.example/netstack/laws.FnExactMailFrom", spec := "fnExactMailFrom", unfollowed := true, recurses := true, apart := false }
def FnExactMailFromSaid : Prop := fnExactMailFromRow.holds Try.pinned (OpenSpec.ofChange fnExactMailFromSpec)

/-- ITS FALSE NEIGHBOUR: 'it returns false'. Refute it at one input. -/
def fnExactMailFromWrong : ChangeSpec := { name := "fnExactMailFrom", fn := fun _ => fun
  | [d1, d2, d3] => { results := [.lit (.bool false)], args := [d1, d2, d3] }
  | _ => none }
def FnExactMailFromWrongFalsely : Prop := fnExactMailFromRow.holds Try.pinned (OpenSpec.ofChange fnExactMailFromWrong)

/-- 'laws.FnMailFrom': WHATEVER THE INPUT: true; the input reads as it did. -/
def fnMailFromSpec : ChangeSpec := { name := "fnMailFrom", fn := fun _ => fun
  | [d] => { results := [.lit (.bool true)], args := [d] }
  | _ => none }
def fnMailFromRow : OpenClaim := { program := "ytfcocnhkimbpbaa", sum := "d43d8f6f5effb84a93f727587d8b13b3e09c5dc85153691203e7de6e837c5d58", func := "loop.example/netstack/laws.FnMailFrom", spec := "fnMailFrom", unfollowed := true, recurses := true, apart := false }
def FnMailFromSaid : Prop := fnMailFromRow.holds Try.pinned (OpenSpec.ofChange fnMailFromSpec)

/-- ITS FALSE NEIGHBOUR: 'it returns false'. Refute it at one input. -/
def fnMailFromWrong : ChangeSpec := { name := "fnMailFrom", fn := fun _ => fun
  | [d] => { results := [.lit (.bool false)], args := [d] }
  | _ => none }
def FnMailFromWrongFalsely : Prop := fnMailFromRow.holds Try.pinned (OpenSpec.ofChange fnMailFromWrong)

/-- 'laws.FnStationOk': WHATEVER THE INPUT: true; the input reads as it did. -/
def fnStationOkSpec : ChangeSpec := { name := "fnStationOk", fn := fun _ => fun
  | [d] => { results := [.lit (.bool true)], args := [d] }
  | _ => none }
def fnStationOkRow : OpenClaim := { program := "ytfcocnhkimbpbaa", sum := "d43d8f6f5effb84a93f727587d8b13b3e09c5dc85153691203e7de6e837c5d58", func := "loop.example/netstack/laws.FnStationOk", spec := "fnStationOk", apart := false }
def FnStationOkSaid : Prop := fnStationOkRow.holds Try.pinned (OpenSpec.ofChange fnStationOkSpec)

/-- ITS FALSE NEIGHBOUR: 'it returns false'. Refute it at one input. -/
def fnStationOkWrong : ChangeSpec := { name := "fnStationOk", fn := fun _ => fun
  | [d] => { results := [.lit (.bool false)], args := [d] }
  | _ => none }
def FnStationOkWrongFalsely : Prop := fnStationOkRow.holds Try.pinned (OpenSpec.ofChange fnStationOkWrong)

/-- 'laws.FnMouthOk': WHATEVER THE INPUT: true; the input reads as it did. -/
def fnMouthOkSpec : ChangeSpec := { name := "fnMouthOk", fn := fun _ => fun
  | [d] => { results := [.lit (.bool true)], args := [d] }
  | _ => none }
def fnMouthOkRow : OpenClaim := { program := "ytfcocnhkimbpbaa", sum := "d43d8f6f5effb84a93f727587d8b13b3e09c5dc85153691203e7de6e837c5d58", func := "loop.example/netstack/laws.FnMouthOk", spec := "fnMouthOk", apart := false }
def FnMouthOkSaid : Prop := fnMouthOkRow.holds Try.pinned (OpenSpec.ofChange fnMouthOkSpec)

/-- ITS FALSE NEIGHBOUR: 'it returns false'. Refute it at one input. -/
def fnMouthOkWrong : ChangeSpec := { name := "fnMouthOk", fn := fun _ => fun
  | [d] => { results := [.lit (.bool false)], args := [d] }
  | _ => none }
def FnMouthOkWrongFalsely : Prop := fnMouthOkRow.holds Try.pinned (OpenSpec.ofChange fnMouthOkWrong)

/- THE SECOND FORM. 'bulk': how many values and letters a reading holds, each counted each time it is reached (what is shared counts as often as it is met; a slice's spare places count too). A statement '..UptoSaid' is the law's where the arguments, and the package variables that the reading takes, are together of bulk at most 1048576: NARROWER than '..Said'. Prove '..Said' where nothing that the law and all that it calls make is longer than what came in: it says more and counts as full. Else prove '..UptoSaid'. A law counts once. -/
mutual
def uptoBulk {H : Type} : DataW H → Nat
  | .lit (.string bytes) => bytes.length + 1
  | .lit _ => 1
  | .nil => 1
  | .ptr d => uptoBulk d + 1
  | .slice elems spare => uptoBulkAll elems + uptoBulkAll spare + 1
  | .agg parts => uptoBulkAll parts + 1
  | .iface _ d => uptoBulk d + 1
  | .map entries => uptoBulkEntries entries + 1
  | .held _ => 1
def uptoBulkAll {H : Type} : List (DataW H) → Nat
  | [] => 0
  | d :: r => uptoBulk d + uptoBulkAll r
def uptoBulkEntries {H : Type} : List (Lit × DataW H) → Nat
  | [] => 0
  | x :: r => uptoBulkEntry x + uptoBulkEntries r
def uptoBulkEntry {H : Type} : Lit × DataW H → Nat
  | (.string bytes, d) => bytes.length + uptoBulk d + 1
  | (_, d) => uptoBulk d + 1
 end
def uptoSmall : (H : Type) → List (DataW H) → Bool := fun _ ds => decide (uptoBulkAll ds ≤ 1048576)
def OpenSpec.upto (s : _root_.Go.ChangeSpec) : _root_.Go.OpenSpec := { _root_.Go.OpenSpec.ofChange s with cond := some uptoSmall }

/-- 'laws.FnExactMailBytes', WHERE WHAT IT READS IS OF BULK AT MOST 1048576: true; the input reads as it did. -/
def fnExactMailBytesUptoRow : OpenClaim := { program := "ytfcocnhkimbpbaa", sum := "d43d8f6f5effb84a93f727587d8b13b3e09c5dc85153691203e7de6e837c5d58", func := "loop.example/netstack/laws.FnExactMailBytes", spec := "fnExactMailBytes", unfollowed := true, recurses := true, apart := false, narrowed := true }
def FnExactMailBytesUptoSaid : Prop := fnExactMailBytesUptoRow.holds Try.pinned (OpenSpec.upto fnExactMailBytesSpec)

/-- 'laws.FnMailBytes', WHERE WHAT IT READS IS OF BULK AT MOST 1048576: true; the input reads as it did. -/
def fnMailBytesUptoRow : OpenClaim := { program := "ytfcocnhkimbpbaa", sum := "d43d8f6f5effb84a93f727587d8b13b3e09c5dc85153691203e7de6e837c5d58", func := "loop.example/netstack/laws.FnMailBytes", spec := "fnMailBytes", unfollowed := true, recurses := true, apart := false, narrowed := true }
def FnMailBytesUptoSaid : Prop := fnMailBytesUptoRow.holds Try.pinned (OpenSpec.upto fnMailBytesSpec)

/-- 'laws.FnExactMailFrom', WHERE WHAT IT READS IS OF BULK AT MOST 1048576: true; the input reads as it did. -/
def fnExactMailFromUptoRow : OpenClaim := { program := "ytfcocnhkimbpbaa", sum := "d43d8f6f5effb84a93f727587d8b13b3e09c5dc85153691203e7de6e837c5d58", func := "loop.example/netstack/laws.FnExactMailFrom", spec := "fnExactMailFrom", unfollowed := true, recurses := true, apart := false, narrowed := true }
def FnExactMailFromUptoSaid : Prop := fnExactMailFromUptoRow.holds Try.pinned (OpenSpec.upto fnExactMailFromSpec)

/-- 'laws.FnMailFrom', WHERE WHAT IT READS IS OF BULK AT MOST 1048576: true; the input reads as it did. -/
def fnMailFromUptoRow : OpenClaim := { program := "ytfcocnhkimbpbaa", sum := "d43d8f6f5effb84a93f727587d8b13b3e09c5dc85153691203e7de6e837c5d58", func := "loop.example/netstack/laws.FnMailFrom", spec := "fnMailFrom", unfollowed := true, recurses := true, apart := false, narrowed := true }
def FnMailFromUptoSaid : Prop := fnMailFromUptoRow.holds Try.pinned (OpenSpec.upto fnMailFromSpec)

/-- 'laws.FnStationOk', WHERE WHAT IT READS IS OF BULK AT MOST 1048576: true; the input reads as it did. -/
def fnStationOkUptoRow : OpenClaim := { program := "ytfcocnhkimbpbaa", sum := "d43d8f6f5effb84a93f727587d8b13b3e09c5dc85153691203e7de6e837c5d58", func := "loop.example/netstack/laws.FnStationOk", spec := "fnStationOk", apart := false, narrowed := true }
def FnStationOkUptoSaid : Prop := fnStationOkUptoRow.holds Try.pinned (OpenSpec.upto fnStationOkSpec)

/-- 'laws.FnMouthOk', WHERE WHAT IT READS IS OF BULK AT MOST 1048576: true; the input reads as it did. -/
def fnMouthOkUptoRow : OpenClaim := { program := "ytfcocnhkimbpbaa", sum := "d43d8f6f5effb84a93f727587d8b13b3e09c5dc85153691203e7de6e837c5d58", func := "loop.example/netstack/laws.FnMouthOk", spec := "fnMouthOk", apart := false, narrowed := true }
def FnMouthOkUptoSaid : Prop := fnMouthOkUptoRow.holds Try.pinned (OpenSpec.upto fnMouthOkSpec)

end Rows
end Go.Proofs.Ytfcocnhkimbpbaa
