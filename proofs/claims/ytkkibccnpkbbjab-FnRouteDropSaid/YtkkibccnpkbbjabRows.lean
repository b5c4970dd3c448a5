/-
  No cell of these rows narrows 'for every input' (looked for: loops, veiled, ifaces, maps, wideKeys, modest, calm, conditions, laid).
  DERIVED. THE GIVEN ROWS OF THIS SEAT. 7 by the template 'for every input the law returns true; each argument reads behind the call as it read before'; 0 by the template 'total and deterministic' (their statements: YtkkibccnpkbbjabTotals.lean).
  GIVEN WITH THE SEED: the statements are not yours to turn. If you find one false, say at which input.
  Laid BY PROGRAM, IN A SANDBOX (cutbox-rows.mjs): the forced cells as the released guide's own fill.sh prints them over the translation 38e42bcb8e5e50bc… (all of the seat's roots in one cut). By AI agents, Wed Nov 11 2026. No macro, syntax, notation, axiom, sorry.
-/
import Derived.Test.YtkkibccnpkbbjabChecked
import GoSem.Claim
import GoSem.ClaimJoined
import GoSem.ClaimMapViews
import Derived.JoinedTies
import Derived.KernelRfl
namespace Go.Proofs.Ytkkibccnpkbbjab
/- THE CELL 'sum', in the pinned program and in every row, IS THE sha256 OF THE DUMP (.gsa) THAT YtkkibccnpkbbjabProg.lean LOADS. Nothing in Lean hashes anything: it is a label: what it is worth is what the hold of that sum in a sandbox is worth. -/
noncomputable def Try.pinned : Pinned := { name := "ytkkibccnpkbbjab", sum := "38e42bcb8e5e50bc7578794aa1a42b91577cdfa83a09310b1cc3dcbaadf4cfaf", checked := Try.checked }
namespace Rows
def none {H : Type} : Left H := { results := [], args := [] }

/-- 'laws.FnPathRoom': WHATEVER THE INPUT: true; the input reads as it did. -/
def fnPathRoomSpec : ChangeSpec := { name := "fnPathRoom", fn := fun _ => fun
  | [d] => { results := [.lit (.bool true)], args := [d] }
  | _ => none }
def fnPathRoomRow : OpenClaim := { program := "ytkkibccnpkbbjab", sum := "38e42bcb8e5e50bc7578794aa1a42b91577cdfa83a09310b1cc3dcbaadf4cfaf", func := "loop.example/netstack/laws.FnPathRoom", spec := "fnPathRoom", unfollowed := true, recurses := true, apart := false }
def FnPathRoomSaid : Prop := fnPathRoomRow.holds Try.pinned (OpenSpec.ofChange fnPathRoomSpec)

/-- ITS FALSE NEIGHBOUR: 'it returns false'. Refute it at one input. -/
def fnPathRoomWrong : ChangeSpec := { name := "fnPathRoom", fn := fun _ => fun
  | [d] => { results := [.lit (.bool false)], args := [d] }
  | _ => none }
def FnPathRoomWrongFalsely : Prop := fnPathRoomRow.holds Try.pinned (OpenSpec.ofChange fnPathRoomWrong)

/-- 'laws.FnNoteEchoed': WHATEVER THE INPUT: true; the input reads as it did. -/
def fnNoteEchoedSpec : ChangeSpec := { name := "fnNoteEchoed", fn := fun _ => fun
  | [d] => { results := [.lit (.bool true)], args := [d] }
  | _ => none }
def fnNoteEchoedRow : OpenClaim := { program := "ytkkibccnpkbbjab", sum := "38e42bcb8e5e50bc7578794aa1a42b91577cdfa83a09310b1cc3dcbaadf4cfaf", func := "loop.example/netstack/laws.FnNoteEchoed", spec := "fnNoteEchoed", apart := false }
def FnNoteEchoedSaid : Prop := fnNoteEchoedRow.holds Try.pinned (OpenSpec.ofChange fnNoteEchoedSpec)

/-- ITS FALSE NEIGHBOUR: 'it returns false'. Refute it at one input. -/
def fnNoteEchoedWrong : ChangeSpec := { name := "fnNoteEchoed", fn := fun _ => fun
  | [d] => { results := [.lit (.bool false)], args := [d] }
  | _ => none }
def FnNoteEchoedWrongFalsely : Prop := fnNoteEchoedRow.holds Try.pinned (OpenSpec.ofChange fnNoteEchoedWrong)

/-- 'laws.FnNoteAbout': WHATEVER THE INPUT: true; the input reads as it did. -/
def fnNoteAboutSpec : ChangeSpec := { name := "fnNoteAbout", fn := fun _ => fun
  | [d] => { results := [.lit (.bool true)], args := [d] }
  | _ => none }
def fnNoteAboutRow : OpenClaim := { program := "ytkkibccnpkbbjab", sum := "38e42bcb8e5e50bc7578794aa1a42b91577cdfa83a09310b1cc3dcbaadf4cfaf", func := "loop.example/netstack/laws.FnNoteAbout", spec := "fnNoteAbout", unfollowed := true, recurses := true, apart := false }
def FnNoteAboutSaid : Prop := fnNoteAboutRow.holds Try.pinned (OpenSpec.ofChange fnNoteAboutSpec)

/-- ITS FALSE NEIGHBOUR: 'it returns false'. Refute it at one input. -/
def fnNoteAboutWrong : ChangeSpec := { name := "fnNoteAbout", fn := fun _ => fun
  | [d] => { results := [.lit (.bool false)], args := [d] }
  | _ => none }
def FnNoteAboutWrongFalsely : Prop := fnNoteAboutRow.holds Try.pinned (OpenSpec.ofChange fnNoteAboutWrong)

/-- 'laws.FnExactNoteAbout': WHATEVER THE INPUT: true; the input reads as it did. -/
def fnExactNoteAboutSpec : ChangeSpec := { name := "fnExactNoteAbout", fn := fun _ => fun
  | [d1, d2, d3, d4] => { results := [.lit (.bool true)], args := [d1, d2, d3, d4] }
  | _ => none }
def fnExactNoteAboutRow : OpenClaim := { program := "ytkkibccnpkbbjab", sum := "38e42bcb8e5e50bc7578794aa1a42b91577cdfa83a09310b1cc3dcbaadf4cfaf", func := "loop.example/netstack/laws.FnExactNoteAbout", spec := "fnExactNoteAbout", unfollowed := true, recurses := true, apart := false }
def FnExactNoteAboutSaid : Prop := fnExactNoteAboutRow.holds Try.pinned (OpenSpec.ofChange fnExactNoteAboutSpec)

/-- ITS FALSE NEIGHBOUR: 'it returns false'. Refute it at one input. -/
def fnExactNoteAboutWrong : ChangeSpec := { name := "fnExactNoteAbout", fn := fun _ => fun
  | [d1, d2, d3, d4] => { results := [.lit (.bool false)], args := [d1, d2, d3, d4] }
  | _ => none }
def FnExactNoteAboutWrongFalsely : Prop := fnExactNoteAboutRow.holds Try.pinned (OpenSpec.ofChange fnExactNoteAboutWrong)

/-- 'laws.FnEarOk': WHATEVER THE INPUT: true; the input reads as it did. -/
def fnEarOkSpec : ChangeSpec := { name := "fnEarOk", fn := fun _ => fun
  | [d] => { results := [.lit (.bool true)], args := [d] }
  | _ => none }
def fnEarOkRow : OpenClaim := { program := "ytkkibccnpkbbjab", sum := "38e42bcb8e5e50bc7578794aa1a42b91577cdfa83a09310b1cc3dcbaadf4cfaf", func := "loop.example/netstack/laws.FnEarOk", spec := "fnEarOk", apart := false }
def FnEarOkSaid : Prop := fnEarOkRow.holds Try.pinned (OpenSpec.ofChange fnEarOkSpec)

/-- ITS FALSE NEIGHBOUR: 'it returns false'. Refute it at one input. -/
def fnEarOkWrong : ChangeSpec := { name := "fnEarOk", fn := fun _ => fun
  | [d] => { results := [.lit (.bool false)], args := [d] }
  | _ => none }
def FnEarOkWrongFalsely : Prop := fnEarOkRow.holds Try.pinned (OpenSpec.ofChange fnEarOkWrong)

/-- 'laws.FnEarRanges': WHATEVER THE INPUT: true; the input reads as it did. -/
def fnEarRangesSpec : ChangeSpec := { name := "fnEarRanges", fn := fun _ => fun
  | [d] => { results := [.lit (.bool true)], args := [d] }
  | _ => none }
def fnEarRangesRow : OpenClaim := { program := "ytkkibccnpkbbjab", sum := "38e42bcb8e5e50bc7578794aa1a42b91577cdfa83a09310b1cc3dcbaadf4cfaf", func := "loop.example/netstack/laws.FnEarRanges", spec := "fnEarRanges", apart := false }
def FnEarRangesSaid : Prop := fnEarRangesRow.holds Try.pinned (OpenSpec.ofChange fnEarRangesSpec)

/-- ITS FALSE NEIGHBOUR: 'it returns false'. Refute it at one input. -/
def fnEarRangesWrong : ChangeSpec := { name := "fnEarRanges", fn := fun _ => fun
  | [d] => { results := [.lit (.bool false)], args := [d] }
  | _ => none }
def FnEarRangesWrongFalsely : Prop := fnEarRangesRow.holds Try.pinned (OpenSpec.ofChange fnEarRangesWrong)

/-- 'laws.FnRouteDrop': WHATEVER THE INPUT: true; the input reads as it did. -/
def fnRouteDropSpec : ChangeSpec := { name := "fnRouteDrop", fn := fun _ => fun
  | [d] => { results := [.lit (.bool true)], args := [d] }
  | _ => none }
def fnRouteDropRow : OpenClaim := { program := "ytkkibccnpkbbjab", sum := "38e42bcb8e5e50bc7578794aa1a42b91577cdfa83a09310b1cc3dcbaadf4cfaf", func := "loop.example/netstack/laws.FnRouteDrop", spec := "fnRouteDrop", inPlace := ["slices.overlaps[loop.example/netstack/impl.Route]"], unfollowed := true, recurses := true, apart := false }
def FnRouteDropSaid : Prop := fnRouteDropRow.holds Try.pinned (OpenSpec.ofChange fnRouteDropSpec)

/-- ITS FALSE NEIGHBOUR: 'it returns false'. Refute it at one input. -/
def fnRouteDropWrong : ChangeSpec := { name := "fnRouteDrop", fn := fun _ => fun
  | [d] => { results := [.lit (.bool false)], args := [d] }
  | _ => none }
def FnRouteDropWrongFalsely : Prop := fnRouteDropRow.holds Try.pinned (OpenSpec.ofChange fnRouteDropWrong)

/- THE SECOND FORM. 'bulk': how many values and letters a reading holds, each counted each time it is reached (what is shared counts as often as it is met; a slice's spare places count too). A statement '..UptoSaid' is the law's where the arguments, and the package variables that the reading takes, are together of bulk at most 1048576: NARROWER than '..Said'. Prove '..Said' where nothing that the law and all that it calls make is longer than what came in: it says more and counts as full. Else prove '..UptoSaid'. A law counts once. -/
mutual
def uptoBulk {H : Type} : DataW H → Nat
  | .lit (.string bytes) => bytes.length + 1
  | .lit _ => 1
  | .nil => 1
  | .ptr d => uptoBulk d + 1
  | .slice elems spare => uptoBulkAll elems + uptoBulkAll spare + 1
  | .agg parts => uptoBulkAll parts + 1
  | .iface _ d => uptoBulk d + 1
  | .map entries => uptoBulkEntries entries + 1
  | .held _ => 1
def uptoBulkAll {H : Type} : List (DataW H) → Nat
  | [] => 0
  | d :: r => uptoBulk d + uptoBulkAll r
def uptoBulkEntries {H : Type} : List (Lit × DataW H) → Nat
  | [] => 0
  | x :: r => uptoBulkEntry x + uptoBulkEntries r
def uptoBulkEntry {H : Type} : Lit × DataW H → Nat
  | (.string bytes, d) => bytes.length + uptoBulk d + 1
  | (_, d) => uptoBulk d + 1
 end
def uptoSmall : (H : Type) → List (DataW H) → Bool := fun _ ds => decide (uptoBulkAll ds ≤ 1048576)
def OpenSpec.upto (s : _root_.Go.ChangeSpec) : _root_.Go.OpenSpec := { _root_.Go.OpenSpec.ofChange s with cond := some uptoSmall }

/-- 'laws.FnPathRoom', WHERE WHAT IT READS IS OF BULK AT MOST 1048576: true; the input reads as it did. -/
def fnPathRoomUptoRow : OpenClaim := { program := "ytkkibccnpkbbjab", sum := "38e42bcb8e5e50bc7578794aa1a42b91577cdfa83a09310b1cc3dcbaadf4cfaf", func := "loop.example/netstack/laws.FnPathRoom", spec := "fnPathRoom", unfollowed := true, recurses := true, apart := false, narrowed := true }
def FnPathRoomUptoSaid : Prop := fnPathRoomUptoRow.holds Try.pinned (OpenSpec.upto fnPathRoomSpec)

/-- 'laws.FnNoteEchoed', WHERE WHAT IT READS IS OF BULK AT MOST 1048576: true; the input reads as it did. -/
def fnNoteEchoedUptoRow : OpenClaim := { program := "ytkkibccnpkbbjab", sum := "38e42bcb8e5e50bc7578794aa1a42b91577cdfa83a09310b1cc3dcbaadf4cfaf", func := "loop.example/netstack/laws.FnNoteEchoed", spec := "fnNoteEchoed", apart := false, narrowed := true }
def FnNoteEchoedUptoSaid : Prop := fnNoteEchoedUptoRow.holds Try.pinned (OpenSpec.upto fnNoteEchoedSpec)

/-- 'laws.FnNoteAbout', WHERE WHAT IT READS IS OF BULK AT MOST 1048576: true; the input reads as it did. -/
def fnNoteAboutUptoRow : OpenClaim := { program := "ytkkibccnpkbbjab", sum := "38e42bcb8e5e50bc7578794aa1a42b91577cdfa83a09310b1cc3dcbaadf4cfaf", func := "loop.example/netstack/laws.FnNoteAbout", spec := "fnNoteAbout", unfollowed := true, recurses := true, apart := false, narrowed := true }
def FnNoteAboutUptoSaid : Prop := fnNoteAboutUptoRow.holds Try.pinned (OpenSpec.upto fnNoteAboutSpec)

/-- 'laws.FnExactNoteAbout', WHERE WHAT IT READS IS OF BULK AT MOST 1048576: true; the input reads as it did. -/
def fnExactNoteAboutUptoRow : OpenClaim := { program := "ytkkibccnpkbbjab", sum := "38e42bcb8e5e50bc7578794aa1a42b91577cdfa83a09310b1cc3dcbaadf4cfaf", func := "loop.example/netstack/laws.FnExactNoteAbout", spec := "fnExactNoteAbout", unfollowed := true, recurses := true, apart := false, narrowed := true }
def FnExactNoteAboutUptoSaid : Prop := fnExactNoteAboutUptoRow.holds Try.pinned (OpenSpec.upto fnExactNoteAboutSpec)

/-- 'laws.FnEarOk', WHERE WHAT IT READS IS OF BULK AT MOST 1048576: true; the input reads as it did. -/
def fnEarOkUptoRow : OpenClaim := { program := "ytkkibccnpkbbjab", sum := "38e42bcb8e5e50bc7578794aa1a42b91577cdfa83a09310b1cc3dcbaadf4cfaf", func := "loop.example/netstack/laws.FnEarOk", spec := "fnEarOk", apart := false, narrowed := true }
def FnEarOkUptoSaid : Prop := fnEarOkUptoRow.holds Try.pinned (OpenSpec.upto fnEarOkSpec)

/-- 'laws.FnEarRanges', WHERE WHAT IT READS IS OF BULK AT MOST 1048576: true; the input reads as it did. -/
def fnEarRangesUptoRow : OpenClaim := { program := "ytkkibccnpkbbjab", sum := "38e42bcb8e5e50bc7578794aa1a42b91577cdfa83a09310b1cc3dcbaadf4cfaf", func := "loop.example/netstack/laws.FnEarRanges", spec := "fnEarRanges", apart := false, narrowed := true }
def FnEarRangesUptoSaid : Prop := fnEarRangesUptoRow.holds Try.pinned (OpenSpec.upto fnEarRangesSpec)

/-- 'laws.FnRouteDrop', WHERE WHAT IT READS IS OF BULK AT MOST 1048576: true; the input reads as it did. -/
def fnRouteDropUptoRow : OpenClaim := { program := "ytkkibccnpkbbjab", sum := "38e42bcb8e5e50bc7578794aa1a42b91577cdfa83a09310b1cc3dcbaadf4cfaf", func := "loop.example/netstack/laws.FnRouteDrop", spec := "fnRouteDrop", inPlace := ["slices.overlaps[loop.example/netstack/impl.Route]"], unfollowed := true, recurses := true, apart := false, narrowed := true }
def FnRouteDropUptoSaid : Prop := fnRouteDropUptoRow.holds Try.pinned (OpenSpec.upto fnRouteDropSpec)

end Rows
end Go.Proofs.Ytkkibccnpkbbjab
