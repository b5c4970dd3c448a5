/-
  No cell of these rows narrows 'for every input' (looked for: loops, veiled, ifaces, maps, wideKeys, modest, calm, conditions, laid).
  DERIVED. THE GIVEN ROWS OF THIS SEAT. 6 by the template 'for every input the law returns true; each argument reads behind the call as it read before'; 0 by the template 'total and deterministic' (their statements: YtdclgfdkomoedaaTotals.lean).
  GIVEN WITH THE SEED: the statements are not yours to turn. If you find one false, say at which input.
  Laid BY PROGRAM, IN A SANDBOX (cutbox-rows.mjs): the forced cells as the released guide's own fill.sh prints them over the translation e0c2fa2c0ec623c9… (all of the seat's roots in one cut). By AI agents, Wed Nov 11 2026. No macro, syntax, notation, axiom, sorry.
-/
import Derived.Test.YtdclgfdkomoedaaChecked
import GoSem.Claim
import GoSem.ClaimJoined
import GoSem.ClaimMapViews
import Derived.JoinedTies
import Derived.KernelRfl
namespace Go.Proofs.Ytdclgfdkomoedaa
/- THE CELL 'sum', in the pinned program and in every row, IS THE sha256 OF THE DUMP (.gsa) THAT YtdclgfdkomoedaaProg.lean LOADS. Nothing in Lean hashes anything: it is a label: what it is worth is what the hold of that sum in a sandbox is worth. -/
noncomputable def Try.pinned : Pinned := { name := "ytdclgfdkomoedaa", sum := "e0c2fa2c0ec623c908ddb7b154e70bdd5cb15ef688364ecfea6cca22b087edbb", checked := Try.checked }
namespace Rows
def none {H : Type} : Left H := { results := [], args := [] }

/-- 'laws.FnNoteAbout': WHATEVER THE INPUT: true; the input reads as it did. -/
def fnNoteAboutSpec : ChangeSpec := { name := "fnNoteAbout", fn := fun _ => fun
  | [d] => { results := [.lit (.bool true)], args := [d] }
  | _ => none }
def fnNoteAboutRow : OpenClaim := { program := "ytdclgfdkomoedaa", sum := "e0c2fa2c0ec623c908ddb7b154e70bdd5cb15ef688364ecfea6cca22b087edbb", func := "loop.example/netstack/laws.FnNoteAbout", spec := "fnNoteAbout", unfollowed := true, recurses := true, apart := false }
def FnNoteAboutSaid : Prop := fnNoteAboutRow.holds Try.pinned (OpenSpec.ofChange fnNoteAboutSpec)

/-- ITS FALSE NEIGHBOUR: 'it returns false'. Refute it at one input. -/
def fnNoteAboutWrong : ChangeSpec := { name := "fnNoteAbout", fn := fun _ => fun
  | [d] => { results := [.lit (.bool false)], args := [d] }
  | _ => none }
def FnNoteAboutWrongFalsely : Prop := fnNoteAboutRow.holds Try.pinned (OpenSpec.ofChange fnNoteAboutWrong)

/-- 'laws.FnNoteEchoed': WHATEVER THE INPUT: true; the input reads as it did. -/
def fnNoteEchoedSpec : ChangeSpec := { name := "fnNoteEchoed", fn := fun _ => fun
  | [d] => { results := [.lit (.bool true)], args := [d] }
  | _ => none }
def fnNoteEchoedRow : OpenClaim := { program := "ytdclgfdkomoedaa", sum := "e0c2fa2c0ec623c908ddb7b154e70bdd5cb15ef688364ecfea6cca22b087edbb", func := "loop.example/netstack/laws.FnNoteEchoed", spec := "fnNoteEchoed", apart := false }
def FnNoteEchoedSaid : Prop := fnNoteEchoedRow.holds Try.pinned (OpenSpec.ofChange fnNoteEchoedSpec)

/-- ITS FALSE NEIGHBOUR: 'it returns false'. Refute it at one input. -/
def fnNoteEchoedWrong : ChangeSpec := { name := "fnNoteEchoed", fn := fun _ => fun
  | [d] => { results := [.lit (.bool false)], args := [d] }
  | _ => none }
def FnNoteEchoedWrongFalsely : Prop := fnNoteEchoedRow.holds Try.pinned (OpenSpec.ofChange fnNoteEchoedWrong)

/-- 'laws.FnExactPathRoom': WHATEVER THE INPUT: true; the input reads as it did. -/
def fnExactPathRoomSpec : ChangeSpec := { name := "fnExactPathRoom", fn := fun _ => fun
  | [d1, d2, d3] => { results := [.lit (.bool true)], args := [d1, d2, d3] }
  | _ => none }
def fnExactPathRoomRow : OpenClaim := { program := "ytdclgfdkomoedaa", sum := "e0c2fa2c0ec623c908ddb7b154e70bdd5cb15ef688364ecfea6cca22b087edbb", func := "loop.example/netstack/laws.FnExactPathRoom", spec := "fnExactPathRoom", unfollowed := true, recurses := true, apart := false }
def FnExactPathRoomSaid : Prop := fnExactPathRoomRow.holds Try.pinned (OpenSpec.ofChange fnExactPathRoomSpec)

/-- ITS FALSE NEIGHBOUR: 'it returns false'. Refute it at one input. -/
def fnExactPathRoomWrong : ChangeSpec := { name := "fnExactPathRoom", fn := fun _ => fun
  | [d1, d2, d3] => { results := [.lit (.bool false)], args := [d1, d2, d3] }
  | _ => none }
def FnExactPathRoomWrongFalsely : Prop := fnExactPathRoomRow.holds Try.pinned (OpenSpec.ofChange fnExactPathRoomWrong)

/-- 'laws.FnPathRoom': WHATEVER THE INPUT: true; the input reads as it did. -/
def fnPathRoomSpec : ChangeSpec := { name := "fnPathRoom", fn := fun _ => fun
  | [d] => { results := [.lit (.bool true)], args := [d] }
  | _ => none }
def fnPathRoomRow : OpenClaim := { program := "ytdclgfdkomoedaa", sum := "e0c2fa2c0ec623c908ddb7b154e70bdd5cb15ef688364ecfea6cca22b087edbb", func := "loop.example/netstack/laws.FnPathRoom", spec := "fnPathRoom", unfollowed := true, recurses := true, apart := false }
def FnPathRoomSaid : Prop := fnPathRoomRow.holds Try.pinned (OpenSpec.ofChange fnPathRoomSpec)

/-- ITS FALSE NEIGHBOUR: 'it returns false'. Refute it at one input. -/
def fnPathRoomWrong : ChangeSpec := { name := "fnPathRoom", fn := fun _ => fun
  | [d] => { results := [.lit (.bool false)], args := [d] }
  | _ => none }
def FnPathRoomWrongFalsely : Prop := fnPathRoomRow.holds Try.pinned (OpenSpec.ofChange fnPathRoomWrong)

/-- 'laws.FnRouteDrop': WHATEVER THE INPUT: true; the input reads as it did. -/
def fnRouteDropSpec : ChangeSpec := { name := "fnRouteDrop", fn := fun _ => fun
  | [d] => { results := [.lit (.bool true)], args := [d] }
  | _ => none }
def fnRouteDropRow : OpenClaim := { program := "ytdclgfdkomoedaa", sum := "e0c2fa2c0ec623c908ddb7b154e70bdd5cb15ef688364ecfea6cca22b087edbb", func := "loop.example/netstack/laws.FnRouteDrop", spec := "fnRouteDrop", inPlace := ["slices.overlaps[loop.example/netstack/impl.Route]"], unfollowed := true, recurses := true, apart := false }
def FnRouteDropSaid : Prop := fnRouteDropRow.holds Try.pinned (OpenSpec.ofChange fnRouteDropSpec)

/-- ITS FALSE NEIGHBOUR: 'it returns false'. Refute it at one input. -/
def fnRouteDropWrong : ChangeSpec := { name := "fnRouteDrop", fn := fun _ => fun
  | [d] => { results := [.lit (.bool false)], args := [d] }
  | _ => none }
def FnRouteDropWrongFalsely : Prop := fnRouteDropRow.holds Try.pinned (OpenSpec.ofChange fnRouteDropWrong)

/-- 'laws.FnExactPortListen': WHATEVER THE INPUT: true; the input reads as it did. -/
def fnExactPortListenSpec : ChangeSpec := { name := "fnExactPortListen", fn := fun _ => fun
  | [d1, d2] => { results := [.lit (.bool true)], args := [d1, d2] }
  | _ => none }
def fnExactPortListenRow : OpenClaim := { program := "ytdclgfdkomoedaa", sum := "e0c2fa2c0ec623c908ddb7b154e70bdd5cb15ef688364ecfea6cca22b087edbb", func := "loop.example/netstack/laws.FnExactPortListen", spec := "fnExactPortListen", inPlace := ["slices.overlaps[loop.example/netstack/impl.Port]"], unfollowed := true, recurses := true, apart := false }
def FnExactPortListenSaid : Prop := fnExactPortListenRow.holds Try.pinned (OpenSpec.ofChange fnExactPortListenSpec)

/-- ITS FALSE NEIGHBOUR: 'it returns false'. Refute it at one input. -/
def fnExactPortListenWrong : ChangeSpec := { name := "fnExactPortListen", fn := fun _ => fun
  | [d1, d2] => { results := [.lit (.bool false)], args := [d1, d2] }
  | _ => none }
def FnExactPortListenWrongFalsely : Prop := fnExactPortListenRow.holds Try.pinned (OpenSpec.ofChange fnExactPortListenWrong)

/- THE SECOND FORM. 'bulk': how many values and letters a reading holds, each counted each time it is reached (what is shared counts as often as it is met; a slice's spare places count too). A statement '..UptoSaid' is the law's where the arguments, and the package variables that the reading takes, are together of bulk at most 1048576: NARROWER than '..Said'. Prove '..Said' where nothing that the law and all that it calls make is longer than what came in: it says more and counts as full. Else prove '..UptoSaid'. A law counts once. -/
mutual
def uptoBulk {H : Type} : DataW H → Nat
  | .lit (.string bytes) => bytes.length + 1
  | .lit _ => 1
  | .nil => 1
  | .ptr d => uptoBulk d + 1
  | .slice elems spare => uptoBulkAll elems + uptoBulkAll spare + 1
  | .agg parts => uptoBulkAll parts + 1
  | .iface _ d => uptoBulk d + 1
  | .map entries => uptoBulkEntries entries + 1
  | .held _ => 1
def uptoBulkAll {H : Type} : List (DataW H) → Nat
  | [] => 0
  | d :: r => uptoBulk d + uptoBulkAll r
def uptoBulkEntries {H : Type} : List (Lit × DataW H) → Nat
  | [] => 0
  | x :: r => uptoBulkEntry x + uptoBulkEntries r
def uptoBulkEntry {H : Type} : Lit × DataW H → Nat
  | (.string bytes, d) => bytes.length + uptoBulk d + 1
  | (_, d) => uptoBulk d + 1
 end
def uptoSmall : (H : Type) → List (DataW H) → Bool := fun _ ds => decide (uptoBulkAll ds ≤ 1048576)
def OpenSpec.upto (s : _root_.Go.ChangeSpec) : _root_.Go.OpenSpec := { _root_.Go.OpenSpec.ofChange s with cond := some uptoSmall }

/-- 'laws.FnNoteAbout', WHERE WHAT IT READS IS OF BULK AT MOST 1048576: true; the input reads as it did. -/
def fnNoteAboutUptoRow : OpenClaim := { program := "ytdclgfdkomoedaa", sum := "e0c2fa2c0ec623c908ddb7b154e70bdd5cb15ef688364ecfea6cca22b087edbb", func := "loop.example/netstack/laws.FnNoteAbout", spec := "fnNoteAbout", unfollowed := true, recurses := true, apart := false, narrowed := true }
def FnNoteAboutUptoSaid : Prop := fnNoteAboutUptoRow.holds Try.pinned (OpenSpec.upto fnNoteAboutSpec)

/-- 'laws.FnNoteEchoed', WHERE WHAT IT READS IS OF BULK AT MOST 1048576: true; the input reads as it did. -/
def fnNoteEchoedUptoRow : OpenClaim := { program := "ytdclgfdkomoedaa", sum := "e0c2fa2c0ec623c908ddb7b154e70bdd5cb15ef688364ecfea6cca22b087edbb", func := "loop.example/netstack/laws.FnNoteEchoed", spec := "fnNoteEchoed", apart := false, narrowed := true }
def FnNoteEchoedUptoSaid : Prop := fnNoteEchoedUptoRow.holds Try.pinned (OpenSpec.upto fnNoteEchoedSpec)

/-- 'laws.FnExactPathRoom', WHERE WHAT IT READS IS OF BULK AT MOST 1048576: true; the input reads as it did. -/
def fnExactPathRoomUptoRow : OpenClaim := { program := "ytdclgfdkomoedaa", sum := "e0c2fa2c0ec623c908ddb7b154e70bdd5cb15ef688364ecfea6cca22b087edbb", func := "loop.example/netstack/laws.FnExactPathRoom", spec := "fnExactPathRoom", unfollowed := true, recurses := true, apart := false, narrowed := true }
def FnExactPathRoomUptoSaid : Prop := fnExactPathRoomUptoRow.holds Try.pinned (OpenSpec.upto fnExactPathRoomSpec)

/-- 'laws.FnPathRoom', WHERE WHAT IT READS IS OF BULK AT MOST 1048576: true; the input reads as it did. -/
def fnPathRoomUptoRow : OpenClaim := { program := "ytdclgfdkomoedaa", sum := "e0c2fa2c0ec623c908ddb7b154e70bdd5cb15ef688364ecfea6cca22b087edbb", func := "loop.example/netstack/laws.FnPathRoom", spec := "fnPathRoom", unfollowed := true, recurses := true, apart := false, narrowed := true }
def FnPathRoomUptoSaid : Prop := fnPathRoomUptoRow.holds Try.pinned (OpenSpec.upto fnPathRoomSpec)

/-- 'laws.FnRouteDrop', WHERE WHAT IT READS IS OF BULK AT MOST 1048576: true; the input reads as it did. -/
def fnRouteDropUptoRow : OpenClaim := { program := "ytdclgfdkomoedaa", sum := "e0c2fa2c0ec623c908ddb7b154e70bdd5cb15ef688364ecfea6cca22b087edbb", func := "loop.example/netstack/laws.FnRouteDrop", spec := "fnRouteDrop", inPlace := ["slices.overlaps[loop.example/netstack/impl.Route]"], unfollowed := true, recurses := true, apart := false, narrowed := true }
def FnRouteDropUptoSaid : Prop := fnRouteDropUptoRow.holds Try.pinned (OpenSpec.upto fnRouteDropSpec)

/-- 'laws.FnExactPortListen', WHERE WHAT IT READS IS OF BULK AT MOST 1048576: true; the input reads as it did. -/
def fnExactPortListenUptoRow : OpenClaim := { program := "ytdclgfdkomoedaa", sum := "e0c2fa2c0ec623c908ddb7b154e70bdd5cb15ef688364ecfea6cca22b087edbb", func := "loop.example/netstack/laws.FnExactPortListen", spec := "fnExactPortListen", inPlace := ["slices.overlaps[loop.example/netstack/impl.Port]"], unfollowed := true, recurses := true, apart := false, narrowed := true }
def FnExactPortListenUptoSaid : Prop := fnExactPortListenUptoRow.holds Try.pinned (OpenSpec.upto fnExactPortListenSpec)

end Rows
end Go.Proofs.Ytdclgfdkomoedaa
