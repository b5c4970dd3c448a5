/-
  No cell of these rows narrows 'for every input' (looked for: loops, veiled, ifaces, maps, wideKeys, modest, calm, conditions, laid).
  DERIVED. THE GIVEN ROWS OF THIS SEAT. 8 by the template 'for every input the law returns true; each argument reads behind the call as it read before'; 0 by the template 'total and deterministic' (their statements: YtkkibccnpkbbjaaTotals.lean).
  GIVEN WITH THE SEED: the statements are not yours to turn. If you find one false, say at which input.
  Laid BY PROGRAM, IN A SANDBOX (cutbox-rows.mjs): the forced cells as the released guide's own fill.sh prints them over the translation 0501bf59dce972ed… (all of the seat's roots in one cut). By AI agents, Wed Nov 11 2026. No macro, syntax, notation, axiom, sorry.
-/
import Derived.Test.YtkkibccnpkbbjaaChecked
import GoSem.Claim
import GoSem.ClaimJoined
import GoSem.ClaimMapViews
import Derived.JoinedTies
import Derived.KernelRfl
namespace Go.Proofs.Ytkkibccnpkbbjaa
/- THE CELL 'sum', in the pinned program and in every row, IS THE sha256 OF THE DUMP (.gsa) THAT YtkkibccnpkbbjaaProg.lean LOADS. Nothing in Lean hashes anything: it is a label: what it is worth is what the hold of that sum in a sandbox is worth. -/
noncomputable def Try.pinned : Pinned := { name := "ytkkibccnpkbbjaa", sum := "0501bf59dce972ed092a678b39c696c16ea7a907a5e6124d6484ae5dcdefac63", checked := Try.checked }
namespace Rows
def none {H : Type} : Left H := { results := [], args := [] }

/-- 'laws.FnExactPortsOk': WHATEVER THE INPUT: true; the input reads as it did. -/
def fnExactPortsOkSpec : ChangeSpec := { name := "fnExactPortsOk", fn := fun _ => fun
  | [d] => { results := [.lit (.bool true)], args := [d] }
  | _ => none }
def fnExactPortsOkRow : OpenClaim := { program := "ytkkibccnpkbbjaa", sum := "0501bf59dce972ed092a678b39c696c16ea7a907a5e6124d6484ae5dcdefac63", func := "loop.example/netstack/laws.FnExactPortsOk", spec := "fnExactPortsOk", unfollowed := true, recurses := true, apart := false }
def FnExactPortsOkSaid : Prop := fnExactPortsOkRow.holds Try.pinned (OpenSpec.ofChange fnExactPortsOkSpec)

/-- ITS FALSE NEIGHBOUR: 'it returns false'. Refute it at one input. -/
def fnExactPortsOkWrong : ChangeSpec := { name := "fnExactPortsOk", fn := fun _ => fun
  | [d] => { results := [.lit (.bool false)], args := [d] }
  | _ => none }
def FnExactPortsOkWrongFalsely : Prop := fnExactPortsOkRow.holds Try.pinned (OpenSpec.ofChange fnExactPortsOkWrong)

/-- 'laws.FnPortsOk': WHATEVER THE INPUT: true; the input reads as it did. -/
def fnPortsOkSpec : ChangeSpec := { name := "fnPortsOk", fn := fun _ => fun
  | [d] => { results := [.lit (.bool true)], args := [d] }
  | _ => none }
def fnPortsOkRow : OpenClaim := { program := "ytkkibccnpkbbjaa", sum := "0501bf59dce972ed092a678b39c696c16ea7a907a5e6124d6484ae5dcdefac63", func := "loop.example/netstack/laws.FnPortsOk", spec := "fnPortsOk", unfollowed := true, recurses := true, apart := false }
def FnPortsOkSaid : Prop := fnPortsOkRow.holds Try.pinned (OpenSpec.ofChange fnPortsOkSpec)

/-- ITS FALSE NEIGHBOUR: 'it returns false'. Refute it at one input. -/
def fnPortsOkWrong : ChangeSpec := { name := "fnPortsOk", fn := fun _ => fun
  | [d] => { results := [.lit (.bool false)], args := [d] }
  | _ => none }
def FnPortsOkWrongFalsely : Prop := fnPortsOkRow.holds Try.pinned (OpenSpec.ofChange fnPortsOkWrong)

/-- 'laws.FnExactPortListen': WHATEVER THE INPUT: true; the input reads as it did. -/
def fnExactPortListenSpec : ChangeSpec := { name := "fnExactPortListen", fn := fun _ => fun
  | [d1, d2] => { results := [.lit (.bool true)], args := [d1, d2] }
  | _ => none }
def fnExactPortListenRow : OpenClaim := { program := "ytkkibccnpkbbjaa", sum := "0501bf59dce972ed092a678b39c696c16ea7a907a5e6124d6484ae5dcdefac63", func := "loop.example/netstack/laws.FnExactPortListen", spec := "fnExactPortListen", inPlace := ["slices.overlaps[loop.example/netstack/impl.Port]"], unfollowed := true, recurses := true, apart := false }
def FnExactPortListenSaid : Prop := fnExactPortListenRow.holds Try.pinned (OpenSpec.ofChange fnExactPortListenSpec)

/-- ITS FALSE NEIGHBOUR: 'it returns false'. Refute it at one input. -/
def fnExactPortListenWrong : ChangeSpec := { name := "fnExactPortListen", fn := fun _ => fun
  | [d1, d2] => { results := [.lit (.bool false)], args := [d1, d2] }
  | _ => none }
def FnExactPortListenWrongFalsely : Prop := fnExactPortListenRow.holds Try.pinned (OpenSpec.ofChange fnExactPortListenWrong)

/-- 'laws.FnPortListen': WHATEVER THE INPUT: true; the input reads as it did. -/
def fnPortListenSpec : ChangeSpec := { name := "fnPortListen", fn := fun _ => fun
  | [d] => { results := [.lit (.bool true)], args := [d] }
  | _ => none }
def fnPortListenRow : OpenClaim := { program := "ytkkibccnpkbbjaa", sum := "0501bf59dce972ed092a678b39c696c16ea7a907a5e6124d6484ae5dcdefac63", func := "loop.example/netstack/laws.FnPortListen", spec := "fnPortListen", inPlace := ["slices.overlaps[loop.example/netstack/impl.Port]"], unfollowed := true, recurses := true, apart := false }
def FnPortListenSaid : Prop := fnPortListenRow.holds Try.pinned (OpenSpec.ofChange fnPortListenSpec)

/-- ITS FALSE NEIGHBOUR: 'it returns false'. Refute it at one input. -/
def fnPortListenWrong : ChangeSpec := { name := "fnPortListen", fn := fun _ => fun
  | [d] => { results := [.lit (.bool false)], args := [d] }
  | _ => none }
def FnPortListenWrongFalsely : Prop := fnPortListenRow.holds Try.pinned (OpenSpec.ofChange fnPortListenWrong)

/-- 'laws.FnExactPortTake': WHATEVER THE INPUT: true; the input reads as it did. -/
def fnExactPortTakeSpec : ChangeSpec := { name := "fnExactPortTake", fn := fun _ => fun
  | [d1, d2] => { results := [.lit (.bool true)], args := [d1, d2] }
  | _ => none }
def fnExactPortTakeRow : OpenClaim := { program := "ytkkibccnpkbbjaa", sum := "0501bf59dce972ed092a678b39c696c16ea7a907a5e6124d6484ae5dcdefac63", func := "loop.example/netstack/laws.FnExactPortTake", spec := "fnExactPortTake", unfollowed := true, recurses := true, apart := false }
def FnExactPortTakeSaid : Prop := fnExactPortTakeRow.holds Try.pinned (OpenSpec.ofChange fnExactPortTakeSpec)

/-- ITS FALSE NEIGHBOUR: 'it returns false'. Refute it at one input. -/
def fnExactPortTakeWrong : ChangeSpec := { name := "fnExactPortTake", fn := fun _ => fun
  | [d1, d2] => { results := [.lit (.bool false)], args := [d1, d2] }
  | _ => none }
def FnExactPortTakeWrongFalsely : Prop := fnExactPortTakeRow.holds Try.pinned (OpenSpec.ofChange fnExactPortTakeWrong)

/-- 'laws.FnPortTake': WHATEVER THE INPUT: true; the input reads as it did. -/
def fnPortTakeSpec : ChangeSpec := { name := "fnPortTake", fn := fun _ => fun
  | [d] => { results := [.lit (.bool true)], args := [d] }
  | _ => none }
def fnPortTakeRow : OpenClaim := { program := "ytkkibccnpkbbjaa", sum := "0501bf59dce972ed092a678b39c696c16ea7a907a5e6124d6484ae5dcdefac63", func := "loop.example/netstack/laws.FnPortTake", spec := "fnPortTake", unfollowed := true, recurses := true, apart := false }
def FnPortTakeSaid : Prop := fnPortTakeRow.holds Try.pinned (OpenSpec.ofChange fnPortTakeSpec)

/-- ITS FALSE NEIGHBOUR: 'it returns false'. Refute it at one input. -/
def fnPortTakeWrong : ChangeSpec := { name := "fnPortTake", fn := fun _ => fun
  | [d] => { results := [.lit (.bool false)], args := [d] }
  | _ => none }
def FnPortTakeWrongFalsely : Prop := fnPortTakeRow.holds Try.pinned (OpenSpec.ofChange fnPortTakeWrong)

/-- 'laws.FnExactPortHear': WHATEVER THE INPUT: true; the input reads as it did. -/
def fnExactPortHearSpec : ChangeSpec := { name := "fnExactPortHear", fn := fun _ => fun
  | [d1, d2, d3] => { results := [.lit (.bool true)], args := [d1, d2, d3] }
  | _ => none }
def fnExactPortHearRow : OpenClaim := { program := "ytkkibccnpkbbjaa", sum := "0501bf59dce972ed092a678b39c696c16ea7a907a5e6124d6484ae5dcdefac63", func := "loop.example/netstack/laws.FnExactPortHear", spec := "fnExactPortHear", unfollowed := true, recurses := true, apart := false }
def FnExactPortHearSaid : Prop := fnExactPortHearRow.holds Try.pinned (OpenSpec.ofChange fnExactPortHearSpec)

/-- ITS FALSE NEIGHBOUR: 'it returns false'. Refute it at one input. -/
def fnExactPortHearWrong : ChangeSpec := { name := "fnExactPortHear", fn := fun _ => fun
  | [d1, d2, d3] => { results := [.lit (.bool false)], args := [d1, d2, d3] }
  | _ => none }
def FnExactPortHearWrongFalsely : Prop := fnExactPortHearRow.holds Try.pinned (OpenSpec.ofChange fnExactPortHearWrong)

/-- 'laws.FnPortHear': WHATEVER THE INPUT: true; the input reads as it did. -/
def fnPortHearSpec : ChangeSpec := { name := "fnPortHear", fn := fun _ => fun
  | [d] => { results := [.lit (.bool true)], args := [d] }
  | _ => none }
def fnPortHearRow : OpenClaim := { program := "ytkkibccnpkbbjaa", sum := "0501bf59dce972ed092a678b39c696c16ea7a907a5e6124d6484ae5dcdefac63", func := "loop.example/netstack/laws.FnPortHear", spec := "fnPortHear", unfollowed := true, recurses := true, apart := false }
def FnPortHearSaid : Prop := fnPortHearRow.holds Try.pinned (OpenSpec.ofChange fnPortHearSpec)

/-- ITS FALSE NEIGHBOUR: 'it returns false'. Refute it at one input. -/
def fnPortHearWrong : ChangeSpec := { name := "fnPortHear", fn := fun _ => fun
  | [d] => { results := [.lit (.bool false)], args := [d] }
  | _ => none }
def FnPortHearWrongFalsely : Prop := fnPortHearRow.holds Try.pinned (OpenSpec.ofChange fnPortHearWrong)

/- THE SECOND FORM. 'bulk': how many values and letters a reading holds, each counted each time it is reached (what is shared counts as often as it is met; a slice's spare places count too). A statement '..UptoSaid' is the law's where the arguments, and the package variables that the reading takes, are together of bulk at most 1048576: NARROWER than '..Said'. Prove '..Said' where nothing that the law and all that it calls make is longer than what came in: it says more and counts as full. Else prove '..UptoSaid'. A law counts once. -/
mutual
def uptoBulk {H : Type} : DataW H → Nat
  | .lit (.string bytes) => bytes.length + 1
  | .lit _ => 1
  | .nil => 1
  | .ptr d => uptoBulk d + 1
  | .slice elems spare => uptoBulkAll elems + uptoBulkAll spare + 1
  | .agg parts => uptoBulkAll parts + 1
  | .iface _ d => uptoBulk d + 1
  | .map entries => uptoBulkEntries entries + 1
  | .held _ => 1
def uptoBulkAll {H : Type} : List (DataW H) → Nat
  | [] => 0
  | d :: r => uptoBulk d + uptoBulkAll r
def uptoBulkEntries {H : Type} : List (Lit × DataW H) → Nat
  | [] => 0
  | x :: r => uptoBulkEntry x + uptoBulkEntries r
def uptoBulkEntry {H : Type} : Lit × DataW H → Nat
  | (.string bytes, d) => bytes.length + uptoBulk d + 1
  | (_, d) => uptoBulk d + 1
 end
def uptoSmall : (H : Type) → List (DataW H) → Bool := fun _ ds => decide (uptoBulkAll ds ≤ 1048576)
def OpenSpec.upto (s : _root_.Go.ChangeSpec) : _root_.Go.OpenSpec := { _root_.Go.OpenSpec.ofChange s with cond := some uptoSmall }

/-- 'laws.FnExactPortsOk', WHERE WHAT IT READS IS OF BULK AT MOST 1048576: true; the input reads as it did. -/
def fnExactPortsOkUptoRow : OpenClaim := { program := "ytkkibccnpkbbjaa", sum := "0501bf59dce972ed092a678b39c696c16ea7a907a5e6124d6484ae5dcdefac63", func := "loop.example/netstack/laws.FnExactPortsOk", spec := "fnExactPortsOk", unfollowed := true, recurses := true, apart := false, narrowed := true }
def FnExactPortsOkUptoSaid : Prop := fnExactPortsOkUptoRow.holds Try.pinned (OpenSpec.upto fnExactPortsOkSpec)

/-- 'laws.FnPortsOk', WHERE WHAT IT READS IS OF BULK AT MOST 1048576: true; the input reads as it did. -/
def fnPortsOkUptoRow : OpenClaim := { program := "ytkkibccnpkbbjaa", sum := "0501bf59dce972ed092a678b39c696c16ea7a907a5e6124d6484ae5dcdefac63", func := "loop.example/netstack/laws.FnPortsOk", spec := "fnPortsOk", unfollowed := true, recurses := true, apart := false, narrowed := true }
def FnPortsOkUptoSaid : Prop := fnPortsOkUptoRow.holds Try.pinned (OpenSpec.upto fnPortsOkSpec)

/-- 'laws.FnExactPortListen', WHERE WHAT IT READS IS OF BULK AT MOST 1048576: true; the input reads as it did. -/
def fnExactPortListenUptoRow : OpenClaim := { program := "ytkkibccnpkbbjaa", sum := "0501bf59dce972ed092a678b39c696c16ea7a907a5e6124d6484ae5dcdefac63", func := "loop.example/netstack/laws.FnExactPortListen", spec := "fnExactPortListen", inPlace := ["slices.overlaps[loop.example/netstack/impl.Port]"], unfollowed := true, recurses := true, apart := false, narrowed := true }
def FnExactPortListenUptoSaid : Prop := fnExactPortListenUptoRow.holds Try.pinned (OpenSpec.upto fnExactPortListenSpec)

/-- 'laws.FnPortListen', WHERE WHAT IT READS IS OF BULK AT MOST 1048576: true; the input reads as it did. -/
def fnPortListenUptoRow : OpenClaim := { program := "ytkkibccnpkbbjaa", sum := "0501bf59dce972ed092a678b39c696c16ea7a907a5e6124d6484ae5dcdefac63", func := "loop.example/netstack/laws.FnPortListen", spec := "fnPortListen", inPlace := ["slices.overlaps[loop.example/netstack/impl.Port]"], unfollowed := true, recurses := true, apart := false, narrowed := true }
def FnPortListenUptoSaid : Prop := fnPortListenUptoRow.holds Try.pinned (OpenSpec.upto fnPortListenSpec)

/-- 'laws.FnExactPortTake', WHERE WHAT IT READS IS OF BULK AT MOST 1048576: true; the input reads as it did. -/
def fnExactPortTakeUptoRow : OpenClaim := { program := "ytkkibccnpkbbjaa", sum := "0501bf59dce972ed092a678b39c696c16ea7a907a5e6124d6484ae5dcdefac63", func := "loop.example/netstack/laws.FnExactPortTake", spec := "fnExactPortTake", unfollowed := true, recurses := true, apart := false, narrowed := true }
def FnExactPortTakeUptoSaid : Prop := fnExactPortTakeUptoRow.holds Try.pinned (OpenSpec.upto fnExactPortTakeSpec)

/-- 'laws.FnPortTake', WHERE WHAT IT READS IS OF BULK AT MOST 1048576: true; the input reads as it did. -/
def fnPortTakeUptoRow : OpenClaim := { program := "ytkkibccnpkbbjaa", sum := "0501bf59dce972ed092a678b39c696c16ea7a907a5e6124d6484ae5dcdefac63", func := "loop.example/netstack/laws.FnPortTake", spec := "fnPortTake", unfollowed := true, recurses := true, apart := false, narrowed := true }
def FnPortTakeUptoSaid : Prop := fnPortTakeUptoRow.holds Try.pinned (OpenSpec.upto fnPortTakeSpec)

/-- 'laws.FnExactPortHear', WHERE WHAT IT READS IS OF BULK AT MOST 1048576: true; the input reads as it did. -/
def fnExactPortHearUptoRow : OpenClaim := { program := "ytkkibccnpkbbjaa", sum := "0501bf59dce972ed092a678b39c696c16ea7a907a5e6124d6484ae5dcdefac63", func := "loop.example/netstack/laws.FnExactPortHear", spec := "fnExactPortHear", unfollowed := true, recurses := true, apart := false, narrowed := true }
def FnExactPortHearUptoSaid : Prop := fnExactPortHearUptoRow.holds Try.pinned (OpenSpec.upto fnExactPortHearSpec)

/-- 'laws.FnPortHear', WHERE WHAT IT READS IS OF BULK AT MOST 1048576: true; the input reads as it did. -/
def fnPortHearUptoRow : OpenClaim := { program := "ytkkibccnpkbbjaa", sum := "0501bf59dce972ed092a678b39c696c16ea7a907a5e6124d6484ae5dcdefac63", func := "loop.example/netstack/laws.FnPortHear", spec := "fnPortHear", unfollowed := true, recurses := true, apart := false, narrowed := true }
def FnPortHearUptoSaid : Prop := fnPortHearUptoRow.holds Try.pinned (OpenSpec.upto fnPortHearSpec)

end Rows
end Go.Proofs.Ytkkibccnpkbbjaa
