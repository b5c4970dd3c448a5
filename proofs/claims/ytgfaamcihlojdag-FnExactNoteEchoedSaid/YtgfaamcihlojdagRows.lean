/-
  No cell of these rows narrows 'for every input' (looked for: loops, veiled, ifaces, maps, wideKeys, modest, calm, conditions, laid).
  DERIVED. THE GIVEN ROWS OF THIS SEAT. 6 by the template 'for every input the law returns true; each argument reads behind the call as it read before'; 0 by the template 'total and deterministic' (their statements: YtgfaamcihlojdagTotals.lean).
  GIVEN WITH THE SEED: the statements are not yours to turn. If you find one false, say at which input.
  Laid BY PROGRAM, IN A SANDBOX (cutbox-rows.mjs): the forced cells as the released guide's own fill.sh prints them over the translation 98d4210ee9b535cc… (all of the seat's roots in one cut). By AI agents, Wed Nov 11 2026. No macro, syntax, notation, axiom, sorry.
-/
import Derived.Test.YtgfaamcihlojdagChecked
import GoSem.Claim
import GoSem.ClaimJoined
import GoSem.ClaimMapViews
import Derived.JoinedTies
import Derived.KernelRfl
namespace Go.Proofs.Ytgfaamcihlojdag
/- THE CELL 'sum', in the pinned program and in every row, IS THE sha256 OF THE DUMP (.gsa) THAT YtgfaamcihlojdagProg.lean LOADS. Nothing in Lean hashes anything: it is a label: what it is worth is what the hold of that sum in a sandbox is worth. -/
noncomputable def Try.pinned : Pinned := { name := "ytgfaamcihlojdag", sum := "98d4210ee9b535cca87ff53b809652eb280a243a37e7060f484cf3cdeab58134", checked := Try.checked }
namespace Rows
def none {H : Type} : Left H := { results := [], args := [] }

/-- 'laws.FnNoteFault': WHATEVER THE INPUT: true; the input reads as it did. -/
def fnNoteFaultSpec : ChangeSpec := { name := "fnNoteFault", fn := fun _ => fun
  | [d] => { results := [.lit (.bool true)], args := [d] }
  | _ => none }
def fnNoteFaultRow : OpenClaim := { program := "ytgfaamcihlojdag", sum := "98d4210ee9b535cca87ff53b809652eb280a243a37e7060f484cf3cdeab58134", func := "loop.example/netstack/laws.FnNoteFault", spec := "fnNoteFault", apart := false }
def FnNoteFaultSaid : Prop := fnNoteFaultRow.holds Try.pinned (OpenSpec.ofChange fnNoteFaultSpec)

/-- ITS FALSE NEIGHBOUR: 'it returns false'. Refute it at one input. -/
def fnNoteFaultWrong : ChangeSpec := { name := "fnNoteFault", fn := fun _ => fun
  | [d] => { results := [.lit (.bool false)], args := [d] }
  | _ => none }
def FnNoteFaultWrongFalsely : Prop := fnNoteFaultRow.holds Try.pinned (OpenSpec.ofChange fnNoteFaultWrong)

/-- 'laws.FnPortsOk': WHATEVER THE INPUT: true; the input reads as it did. -/
def fnPortsOkSpec : ChangeSpec := { name := "fnPortsOk", fn := fun _ => fun
  | [d] => { results := [.lit (.bool true)], args := [d] }
  | _ => none }
def fnPortsOkRow : OpenClaim := { program := "ytgfaamcihlojdag", sum := "98d4210ee9b535cca87ff53b809652eb280a243a37e7060f484cf3cdeab58134", func := "loop.example/netstack/laws.FnPortsOk", spec := "fnPortsOk", unfollowed := true, recurses := true, apart := false }
def FnPortsOkSaid : Prop := fnPortsOkRow.holds Try.pinned (OpenSpec.ofChange fnPortsOkSpec)

/-- ITS FALSE NEIGHBOUR: 'it returns false'. Refute it at one input. -/
def fnPortsOkWrong : ChangeSpec := { name := "fnPortsOk", fn := fun _ => fun
  | [d] => { results := [.lit (.bool false)], args := [d] }
  | _ => none }
def FnPortsOkWrongFalsely : Prop := fnPortsOkRow.holds Try.pinned (OpenSpec.ofChange fnPortsOkWrong)

/-- 'laws.FnMailFrom': WHATEVER THE INPUT: true; the input reads as it did. -/
def fnMailFromSpec : ChangeSpec := { name := "fnMailFrom", fn := fun _ => fun
  | [d] => { results := [.lit (.bool true)], args := [d] }
  | _ => none }
def fnMailFromRow : OpenClaim := { program := "ytgfaamcihlojdag", sum := "98d4210ee9b535cca87ff53b809652eb280a243a37e7060f484cf3cdeab58134", func := "loop.example/netstack/laws.FnMailFrom", spec := "fnMailFrom", unfollowed := true, recurses := true, apart := false }
def FnMailFromSaid : Prop := fnMailFromRow.holds Try.pinned (OpenSpec.ofChange fnMailFromSpec)

/-- ITS FALSE NEIGHBOUR: 'it returns false'. Refute it at one input. -/
def fnMailFromWrong : ChangeSpec := { name := "fnMailFrom", fn := fun _ => fun
  | [d] => { results := [.lit (.bool false)], args := [d] }
  | _ => none }
def FnMailFromWrongFalsely : Prop := fnMailFromRow.holds Try.pinned (OpenSpec.ofChange fnMailFromWrong)

/-- 'laws.FnExactNoteEchoed': WHATEVER THE INPUT: true; the input reads as it did. -/
def fnExactNoteEchoedSpec : ChangeSpec := { name := "fnExactNoteEchoed", fn := fun _ => fun
  | [d1, d2] => { results := [.lit (.bool true)], args := [d1, d2] }
  | _ => none }
def fnExactNoteEchoedRow : OpenClaim := { program := "ytgfaamcihlojdag", sum := "98d4210ee9b535cca87ff53b809652eb280a243a37e7060f484cf3cdeab58134", func := "loop.example/netstack/laws.FnExactNoteEchoed", spec := "fnExactNoteEchoed", apart := false }
def FnExactNoteEchoedSaid : Prop := fnExactNoteEchoedRow.holds Try.pinned (OpenSpec.ofChange fnExactNoteEchoedSpec)

/-- ITS FALSE NEIGHBOUR: 'it returns false'. Refute it at one input. -/
def fnExactNoteEchoedWrong : ChangeSpec := { name := "fnExactNoteEchoed", fn := fun _ => fun
  | [d1, d2] => { results := [.lit (.bool false)], args := [d1, d2] }
  | _ => none }
def FnExactNoteEchoedWrongFalsely : Prop := fnExactNoteEchoedRow.holds Try.pinned (OpenSpec.ofChange fnExactNoteEchoedWrong)

/-- 'laws.FnPathRoom': WHATEVER THE INPUT: true; the input reads as it did. -/
def fnPathRoomSpec : ChangeSpec := { name := "fnPathRoom", fn := fun _ => fun
  | [d] => { results := [.lit (.bool true)], args := [d] }
  | _ => none }
def fnPathRoomRow : OpenClaim := { program := "ytgfaamcihlojdag", sum := "98d4210ee9b535cca87ff53b809652eb280a243a37e7060f484cf3cdeab58134", func := "loop.example/netstack/laws.FnPathRoom", spec := "fnPathRoom", unfollowed := true, recurses := true, apart := false }
def FnPathRoomSaid : Prop := fnPathRoomRow.holds Try.pinned (OpenSpec.ofChange fnPathRoomSpec)

/-- ITS FALSE NEIGHBOUR: 'it returns false'. Refute it at one input. -/
def fnPathRoomWrong : ChangeSpec := { name := "fnPathRoom", fn := fun _ => fun
  | [d] => { results := [.lit (.bool false)], args := [d] }
  | _ => none }
def FnPathRoomWrongFalsely : Prop := fnPathRoomRow.holds Try.pinned (OpenSpec.ofChange fnPathRoomWrong)

/-- 'laws.FnNoteEchoed': WHATEVER THE INPUT: true; the input reads as it did. -/
def fnNoteEchoedSpec : ChangeSpec := { name := "fnNoteEchoed", fn := fun _ => fun
  | [d] => { results := [.lit (.bool true)], args := [d] }
  | _ => none }
def fnNoteEchoedRow : OpenClaim := { program := "ytgfaamcihlojdag", sum := "98d4210ee9b535cca87ff53b809652eb280a243a37e7060f484cf3cdeab58134", func := "loop.example/netstack/laws.FnNoteEchoed", spec := "fnNoteEchoed", apart := false }
def FnNoteEchoedSaid : Prop := fnNoteEchoedRow.holds Try.pinned (OpenSpec.ofChange fnNoteEchoedSpec)

/-- ITS FALSE NEIGHBOUR: 'it returns false'. Refute it at one input. -/
def fnNoteEchoedWrong : ChangeSpec := { name := "fnNoteEchoed", fn := fun _ => fun
  | [d] => { results := [.lit (.bool false)], args := [d] }
  | _ => none }
def FnNoteEchoedWrongFalsely : Prop := fnNoteEchoedRow.holds Try.pinned (OpenSpec.ofChange fnNoteEchoedWrong)

/- THE SECOND FORM. 'bulk': how many values and letters a reading holds, each counted each time it is reached (what is shared counts as often as it is met; a slice's spare places count too). A statement '..UptoSaid' is the law's where the arguments, and the package variables that the reading takes, are together of bulk at most 1048576: NARROWER than '..Said'. Prove '..Said' where nothing that the law and all that it calls make is longer than what came in: it says more and counts as full. Else prove '..UptoSaid'. A law counts once. -/
mutual
def uptoBulk {H : Type} : DataW H → Nat
  | .lit (.string bytes) => bytes.length + 1
  | .lit _ => 1
  | .nil => 1
  | .ptr d => uptoBulk d + 1
  | .slice elems spare => uptoBulkAll elems + uptoBulkAll spare + 1
  | .agg parts => uptoBulkAll parts + 1
  | .iface _ d => uptoBulk d + 1
  | .map entries => uptoBulkEntries entries + 1
  | .held _ => 1
def uptoBulkAll {H : Type} : List (DataW H) → Nat
  | [] => 0
  | d :: r => uptoBulk d + uptoBulkAll r
def uptoBulkEntries {H : Type} : List (Lit × DataW H) → Nat
  | [] => 0
  | x :: r => uptoBulkEntry x + uptoBulkEntries r
def uptoBulkEntry {H : Type} : Lit × DataW H → Nat
  | (.string bytes, d) => bytes.length + uptoBulk d + 1
  | (_, d) => uptoBulk d + 1
 end
def uptoSmall : (H : Type) → List (DataW H) → Bool := fun _ ds => decide (uptoBulkAll ds ≤ 1048576)
def OpenSpec.upto (s : _root_.Go.ChangeSpec) : _root_.Go.OpenSpec := { _root_.Go.OpenSpec.ofChange s with cond := some uptoSmall }

/-- 'laws.FnNoteFault', WHERE WHAT IT READS IS OF BULK AT MOST 1048576: true; the input reads as it did. -/
def fnNoteFaultUptoRow : OpenClaim := { program := "ytgfaamcihlojdag", sum := "98d4210ee9b535cca87ff53b809652eb280a243a37e7060f484cf3cdeab58134", func := "loop.example/netstack/laws.FnNoteFault", spec := "fnNoteFault", apart := false, narrowed := true }
def FnNoteFaultUptoSaid : Prop := fnNoteFaultUptoRow.holds Try.pinned (OpenSpec.upto fnNoteFaultSpec)

/-- 'laws.FnPortsOk', WHERE WHAT IT READS IS OF BULK AT MOST 1048576: true; the input reads as it did. -/
def fnPortsOkUptoRow : OpenClaim := { program := "ytgfaamcihlojdag", sum := "98d4210ee9b535cca87ff53b809652eb280a243a37e7060f484cf3cdeab58134", func := "loop.example/netstack/laws.FnPortsOk", spec := "fnPortsOk", unfollowed := true, recurses := true, apart := false, narrowed := true }
def FnPortsOkUptoSaid : Prop := fnPortsOkUptoRow.holds Try.pinned (OpenSpec.upto fnPortsOkSpec)

/-- 'laws.FnMailFrom', WHERE WHAT IT READS IS OF BULK AT MOST 1048576: true; the input reads as it did. -/
def fnMailFromUptoRow : OpenClaim := { program := "ytgfaamcihlojdag", sum := "98d4210ee9b535cca87ff53b809652eb280a243a37e7060f484cf3cdeab58134", func := "loop.example/netstack/laws.FnMailFrom", spec := "fnMailFrom", unfollowed := true, recurses := true, apart := false, narrowed := true }
def FnMailFromUptoSaid : Prop := fnMailFromUptoRow.holds Try.pinned (OpenSpec.upto fnMailFromSpec)

/-- 'laws.FnExactNoteEchoed', WHERE WHAT IT READS IS OF BULK AT MOST 1048576: true; the input reads as it did. -/
def fnExactNoteEchoedUptoRow : OpenClaim := { program := "ytgfaamcihlojdag", sum := "98d4210ee9b535cca87ff53b809652eb280a243a37e7060f484cf3cdeab58134", func := "loop.example/netstack/laws.FnExactNoteEchoed", spec := "fnExactNoteEchoed", apart := false, narrowed := true }
def FnExactNoteEchoedUptoSaid : Prop := fnExactNoteEchoedUptoRow.holds Try.pinned (OpenSpec.upto fnExactNoteEchoedSpec)

/-- 'laws.FnPathRoom', WHERE WHAT IT READS IS OF BULK AT MOST 1048576: true; the input reads as it did. -/
def fnPathRoomUptoRow : OpenClaim := { program := "ytgfaamcihlojdag", sum := "98d4210ee9b535cca87ff53b809652eb280a243a37e7060f484cf3cdeab58134", func := "loop.example/netstack/laws.FnPathRoom", spec := "fnPathRoom", unfollowed := true, recurses := true, apart := false, narrowed := true }
def FnPathRoomUptoSaid : Prop := fnPathRoomUptoRow.holds Try.pinned (OpenSpec.upto fnPathRoomSpec)

/-- 'laws.FnNoteEchoed', WHERE WHAT IT READS IS OF BULK AT MOST 1048576: true; the input reads as it did. -/
def fnNoteEchoedUptoRow : OpenClaim := { program := "ytgfaamcihlojdag", sum := "98d4210ee9b535cca87ff53b809652eb280a243a37e7060f484cf3cdeab58134", func := "loop.example/netstack/laws.FnNoteEchoed", spec := "fnNoteEchoed", apart := false, narrowed := true }
def FnNoteEchoedUptoSaid : Prop := fnNoteEchoedUptoRow.holds Try.pinned (OpenSpec.upto fnNoteEchoedSpec)

end Rows
end Go.Proofs.Ytgfaamcihlojdag
