/-
  No cell of these rows narrows 'for every input' (looked for: loops, veiled, ifaces, maps, wideKeys, modest, calm, conditions, laid).
  DERIVED. THE GIVEN ROWS OF THIS SEAT. 6 by the template 'for every input the law returns true; each argument reads behind the call as it read before'; 0 by the template 'total and deterministic' (their statements: YtgfaamcihlojdaaTotals.lean).
  GIVEN WITH THE SEED: the statements are not yours to turn. If you find one false, say at which input.
  Laid BY PROGRAM, IN A SANDBOX (cutbox-rows.mjs): the forced cells as the released guide's own fill.sh prints them over the translation 0d396676f32802dc… (all of the seat's roots in one cut). By AI agents, Wed Nov 11 2026. No macro, syntax, notation, axiom, sorry.
-/
import Derived.Test.YtgfaamcihlojdaaChecked
import GoSem.Claim
import GoSem.ClaimJoined
import GoSem.ClaimMapViews
import Derived.JoinedTies
import Derived.KernelRfl
namespace Go.Proofs.Ytgfaamcihlojdaa
/- THE CELL 'sum', in the pinned program and in every row, IS THE sha256 OF THE DUMP (.gsa) THAT YtgfaamcihlojdaaProg.lean LOADS. Nothing in Lean hashes anything: it is a label: what it is worth is what the hold of that sum in a sandbox is worth. -/
noncomputable def Try.pinned : Pinned := { name := "ytgfaamcihlojdaa", sum := "0d396676f32802dcfb4cc615a3d6abd3a008fc1647f2b6d882be8871e6dede09", checked := Try.checked }
namespace Rows
def none {H : Type} : Left H := { results := [], args := [] }

/-- 'laws.FnExactPortListen': WHATEVER THE INPUT: true; the input reads as it did. -/
def fnExactPortListenSpec : ChangeSpec := { name := "fnExactPortListen", fn := fun _ => fun
  | [d1, d2] => { results := [.lit (.bool true)], args := [d1, d2] }
  | _ => none }
def fnExactPortListenRow : OpenClaim := { program := "ytgfaamcihlojdaa", sum := "0d396676f32802dcfb4cc615a3d6abd3a008fc1647f2b6d882be8871e6dede09", func := "loop.example/netstack/laws.FnExactPortListen", spec := "fnExactPortListen", inPlace := ["slices.overlaps[loop.example/netstack/impl.Port]"], unfollowed := true, recurses := true, apart := false }
def FnExactPortListenSaid : Prop := fnExactPortListenRow.holds Try.pinned (OpenSpec.ofChange fnExactPortListenSpec)

/-- ITS FALSE NEIGHBOUR: 'it returns false'. Refute it at one input. -/
def fnExactPortListenWrong : ChangeSpec := { name := "fnExactPortListen", fn := fun _ => fun
  | [d1, d2] => { results := [.lit (.bool false)], args := [d1, d2] }
  | _ => none }
def FnExactPortListenWrongFalsely : Prop := fnExactPortListenRow.holds Try.pinned (OpenSpec.ofChange fnExactPortListenWrong)

/-- 'laws.FnExactPaceLate': WHATEVER THE INPUT: true; the input reads as it did. -/
def fnExactPaceLateSpec : ChangeSpec := { name := "fnExactPaceLate", fn := fun _ => fun
  | [d] => { results := [.lit (.bool true)], args := [d] }
  | _ => none }
def fnExactPaceLateRow : OpenClaim := { program := "ytgfaamcihlojdaa", sum := "0d396676f32802dcfb4cc615a3d6abd3a008fc1647f2b6d882be8871e6dede09", func := "loop.example/netstack/laws.FnExactPaceLate", spec := "fnExactPaceLate", apart := false }
def FnExactPaceLateSaid : Prop := fnExactPaceLateRow.holds Try.pinned (OpenSpec.ofChange fnExactPaceLateSpec)

/-- ITS FALSE NEIGHBOUR: 'it returns false'. Refute it at one input. -/
def fnExactPaceLateWrong : ChangeSpec := { name := "fnExactPaceLate", fn := fun _ => fun
  | [d] => { results := [.lit (.bool false)], args := [d] }
  | _ => none }
def FnExactPaceLateWrongFalsely : Prop := fnExactPaceLateRow.holds Try.pinned (OpenSpec.ofChange fnExactPaceLateWrong)

/-- 'laws.FnClockNew': WHATEVER THE INPUT: true; the input reads as it did. -/
def fnClockNewSpec : ChangeSpec := { name := "fnClockNew", fn := fun _ => fun
  | [d] => { results := [.lit (.bool true)], args := [d] }
  | _ => none }
def fnClockNewRow : OpenClaim := { program := "ytgfaamcihlojdaa", sum := "0d396676f32802dcfb4cc615a3d6abd3a008fc1647f2b6d882be8871e6dede09", func := "loop.example/netstack/laws.FnClockNew", spec := "fnClockNew", apart := false }
def FnClockNewSaid : Prop := fnClockNewRow.holds Try.pinned (OpenSpec.ofChange fnClockNewSpec)

/-- ITS FALSE NEIGHBOUR: 'it returns false'. Refute it at one input. -/
def fnClockNewWrong : ChangeSpec := { name := "fnClockNew", fn := fun _ => fun
  | [d] => { results := [.lit (.bool false)], args := [d] }
  | _ => none }
def FnClockNewWrongFalsely : Prop := fnClockNewRow.holds Try.pinned (OpenSpec.ofChange fnClockNewWrong)

/-- 'laws.FnSeqLess': WHATEVER THE INPUT: true; the input reads as it did. -/
def fnSeqLessSpec : ChangeSpec := { name := "fnSeqLess", fn := fun _ => fun
  | [d] => { results := [.lit (.bool true)], args := [d] }
  | _ => none }
def fnSeqLessRow : OpenClaim := { program := "ytgfaamcihlojdaa", sum := "0d396676f32802dcfb4cc615a3d6abd3a008fc1647f2b6d882be8871e6dede09", func := "loop.example/netstack/laws.FnSeqLess", spec := "fnSeqLess", apart := false }
def FnSeqLessSaid : Prop := fnSeqLessRow.holds Try.pinned (OpenSpec.ofChange fnSeqLessSpec)

/-- ITS FALSE NEIGHBOUR: 'it returns false'. Refute it at one input. -/
def fnSeqLessWrong : ChangeSpec := { name := "fnSeqLess", fn := fun _ => fun
  | [d] => { results := [.lit (.bool false)], args := [d] }
  | _ => none }
def FnSeqLessWrongFalsely : Prop := fnSeqLessRow.holds Try.pinned (OpenSpec.ofChange fnSeqLessWrong)

/-- 'laws.FnSeqOf': WHATEVER THE INPUT: true; the input reads as it did. -/
def fnSeqOfSpec : ChangeSpec := { name := "fnSeqOf", fn := fun _ => fun
  | [d] => { results := [.lit (.bool true)], args := [d] }
  | _ => none }
def fnSeqOfRow : OpenClaim := { program := "ytgfaamcihlojdaa", sum := "0d396676f32802dcfb4cc615a3d6abd3a008fc1647f2b6d882be8871e6dede09", func := "loop.example/netstack/laws.FnSeqOf", spec := "fnSeqOf", apart := false }
def FnSeqOfSaid : Prop := fnSeqOfRow.holds Try.pinned (OpenSpec.ofChange fnSeqOfSpec)

/-- ITS FALSE NEIGHBOUR: 'it returns false'. Refute it at one input. -/
def fnSeqOfWrong : ChangeSpec := { name := "fnSeqOf", fn := fun _ => fun
  | [d] => { results := [.lit (.bool false)], args := [d] }
  | _ => none }
def FnSeqOfWrongFalsely : Prop := fnSeqOfRow.holds Try.pinned (OpenSpec.ofChange fnSeqOfWrong)

/-- 'laws.FnExactNoteOk': WHATEVER THE INPUT: true; the input reads as it did. -/
def fnExactNoteOkSpec : ChangeSpec := { name := "fnExactNoteOk", fn := fun _ => fun
  | [d] => { results := [.lit (.bool true)], args := [d] }
  | _ => none }
def fnExactNoteOkRow : OpenClaim := { program := "ytgfaamcihlojdaa", sum := "0d396676f32802dcfb4cc615a3d6abd3a008fc1647f2b6d882be8871e6dede09", func := "loop.example/netstack/laws.FnExactNoteOk", spec := "fnExactNoteOk", apart := false }
def FnExactNoteOkSaid : Prop := fnExactNoteOkRow.holds Try.pinned (OpenSpec.ofChange fnExactNoteOkSpec)

/-- ITS FALSE NEIGHBOUR: 'it returns false'. Refute it at one input. -/
def fnExactNoteOkWrong : ChangeSpec := { name := "fnExactNoteOk", fn := fun _ => fun
  | [d] => { results := [.lit (.bool false)], args := [d] }
  | _ => none }
def FnExactNoteOkWrongFalsely : Prop := fnExactNoteOkRow.holds Try.pinned (OpenSpec.ofChange fnExactNoteOkWrong)

/- THE SECOND FORM. 'bulk': how many values and letters a reading holds, each counted each time it is reached (what is shared counts as often as it is met; a slice's spare places count too). A statement '..UptoSaid' is the law's where the arguments, and the package variables that the reading takes, are together of bulk at most 1048576: NARROWER than '..Said'. Prove '..Said' where nothing that the law and all that it calls make is longer than what came in: it says more and counts as full. Else prove '..UptoSaid'. A law counts once. -/
mutual
def uptoBulk {H : Type} : DataW H → Nat
  | .lit (.string bytes) => bytes.length + 1
  | .lit _ => 1
  | .nil => 1
  | .ptr d => uptoBulk d + 1
  | .slice elems spare => uptoBulkAll elems + uptoBulkAll spare + 1
  | .agg parts => uptoBulkAll parts + 1
  | .iface _ d => uptoBulk d + 1
  | .map entries => uptoBulkEntries entries + 1
  | .held _ => 1
def uptoBulkAll {H : Type} : List (DataW H) → Nat
  | [] => 0
  | d :: r => uptoBulk d + uptoBulkAll r
def uptoBulkEntries {H : Type} : List (Lit × DataW H) → Nat
  | [] => 0
  | x :: r => uptoBulkEntry x + uptoBulkEntries r
def uptoBulkEntry {H : Type} : Lit × DataW H → Nat
  | (.string bytes, d) => bytes.length + uptoBulk d + 1
  | (_, d) => uptoBulk d + 1
 end
def uptoSmall : (H : Type) → List (DataW H) → Bool := fun _ ds => decide (uptoBulkAll ds ≤ 1048576)
def OpenSpec.upto (s : _root_.Go.ChangeSpec) : _root_.Go.OpenSpec := { _root_.Go.OpenSpec.ofChange s with cond := some uptoSmall }

/-- 'laws.FnExactPortListen', WHERE WHAT IT READS IS OF BULK AT MOST 1048576: true; the input reads as it did. -/
def fnExactPortListenUptoRow : OpenClaim := { program := "ytgfaamcihlojdaa", sum := "0d396676f32802dcfb4cc615a3d6abd3a008fc1647f2b6d882be8871e6dede09", func := "loop.example/netstack/laws.FnExactPortListen", spec := "fnExactPortListen", inPlace := ["slices.overlaps[loop.example/netstack/impl.Port]"], unfollowed := true, recurses := true, apart := false, narrowed := true }
def FnExactPortListenUptoSaid : Prop := fnExactPortListenUptoRow.holds Try.pinned (OpenSpec.upto fnExactPortListenSpec)

/-- 'laws.FnExactPaceLate', WHERE WHAT IT READS IS OF BULK AT MOST 1048576: true; the input reads as it did. -/
def fnExactPaceLateUptoRow : OpenClaim := { program := "ytgfaamcihlojdaa", sum := "0d396676f32802dcfb4cc615a3d6abd3a008fc1647f2b6d882be8871e6dede09", func := "loop.example/netstack/laws.FnExactPaceLate", spec := "fnExactPaceLate", apart := false, narrowed := true }
def FnExactPaceLateUptoSaid : Prop := fnExactPaceLateUptoRow.holds Try.pinned (OpenSpec.upto fnExactPaceLateSpec)

/-- 'laws.FnClockNew', WHERE WHAT IT READS IS OF BULK AT MOST 1048576: true; the input reads as it did. -/
def fnClockNewUptoRow : OpenClaim := { program := "ytgfaamcihlojdaa", sum := "0d396676f32802dcfb4cc615a3d6abd3a008fc1647f2b6d882be8871e6dede09", func := "loop.example/netstack/laws.FnClockNew", spec := "fnClockNew", apart := false, narrowed := true }
def FnClockNewUptoSaid : Prop := fnClockNewUptoRow.holds Try.pinned (OpenSpec.upto fnClockNewSpec)

/-- 'laws.FnSeqLess', WHERE WHAT IT READS IS OF BULK AT MOST 1048576: true; the input reads as it did. -/
def fnSeqLessUptoRow : OpenClaim := { program := "ytgfaamcihlojdaa", sum := "0d396676f32802dcfb4cc615a3d6abd3a008fc1647f2b6d882be8871e6dede09", func := "loop.example/netstack/laws.FnSeqLess", spec := "fnSeqLess", apart := false, narrowed := true }
def FnSeqLessUptoSaid : Prop := fnSeqLessUptoRow.holds Try.pinned (OpenSpec.upto fnSeqLessSpec)

/-- 'laws.FnSeqOf', WHERE WHAT IT READS IS OF BULK AT MOST 1048576: true; the input reads as it did. -/
def fnSeqOfUptoRow : OpenClaim := { program := "ytgfaamcihlojdaa", sum := "0d396676f32802dcfb4cc615a3d6abd3a008fc1647f2b6d882be8871e6dede09", func := "loop.example/netstack/laws.FnSeqOf", spec := "fnSeqOf", apart := false, narrowed := true }
def FnSeqOfUptoSaid : Prop := fnSeqOfUptoRow.holds Try.pinned (OpenSpec.upto fnSeqOfSpec)

/-- 'laws.FnExactNoteOk', WHERE WHAT IT READS IS OF BULK AT MOST 1048576: true; the input reads as it did. -/
def fnExactNoteOkUptoRow : OpenClaim := { program := "ytgfaamcihlojdaa", sum := "0d396676f32802dcfb4cc615a3d6abd3a008fc1647f2b6d882be8871e6dede09", func := "loop.example/netstack/laws.FnExactNoteOk", spec := "fnExactNoteOk", apart := false, narrowed := true }
def FnExactNoteOkUptoSaid : Prop := fnExactNoteOkUptoRow.holds Try.pinned (OpenSpec.upto fnExactNoteOkSpec)

end Rows
end Go.Proofs.Ytgfaamcihlojdaa
