/-
  No cell of these rows narrows 'for every input' (looked for: loops, veiled, ifaces, maps, wideKeys, modest, calm, conditions, laid).
  DERIVED. THE GIVEN ROWS OF THIS SEAT. 6 by the template 'for every input the law returns true; each argument reads behind the call as it read before'; 0 by the template 'total and deterministic' (their statements: YtgfaamcihlojdabTotals.lean).
  GIVEN WITH THE SEED: the statements are not yours to turn. If you find one false, say at which input.
  Laid BY PROGRAM, IN A SANDBOX (cutbox-rows.mjs): the forced cells as the released guide's own fill.sh prints them over the translation 5e3a67b19d0cf522… (all of the seat's roots in one cut). By AI agents, Wed Nov 11 2026. No macro, syntax, notation, axiom, sorry.
-/
import Derived.Test.YtgfaamcihlojdabChecked
import GoSem.Claim
import GoSem.ClaimJoined
import GoSem.ClaimMapViews
import Derived.JoinedTies
import Derived.KernelRfl
namespace Go.Proofs.Ytgfaamcihlojdab
/- THE CELL 'sum', in the pinned program and in every row, IS THE sha256 OF THE DUMP (.gsa) THAT YtgfaamcihlojdabProg.lean LOADS. Nothing in Lean hashes anything: it is a label: what it is worth is what the hold of that sum in a sandbox is worth. -/
noncomputable def Try.pinned : Pinned := { name := "ytgfaamcihlojdab", sum := "5e3a67b19d0cf522b541f3ddc537d0c4c4b4d707e486fa9bfe4604590548066b", checked := Try.checked }
namespace Rows
def none {H : Type} : Left H := { results := [], args := [] }

/-- 'laws.FnExactMailOk': WHATEVER THE INPUT: true; the input reads as it did. -/
def fnExactMailOkSpec : ChangeSpec := { name := "fnExactMailOk", fn := fun _ => fun
  | [d] => { results := [.lit (.bool true)], args := [d] }
  | _ => none }
def fnExactMailOkRow : OpenClaim := { program := "ytgfaamcihlojdab", sum := "5e3a67b19d0cf522b541f3ddc537d0c4c4b4d707e486fa9bfe4604590548066b", func := "loop.example/netstack/laws.FnExactMailOk", spec := "fnExactMailOk", apart := false }
def FnExactMailOkSaid : Prop := fnExactMailOkRow.holds Try.pinned (OpenSpec.ofChange fnExactMailOkSpec)

/-- ITS FALSE NEIGHBOUR: 'it returns false'. Refute it at one input. -/
def fnExactMailOkWrong : ChangeSpec := { name := "fnExactMailOk", fn := fun _ => fun
  | [d] => { results := [.lit (.bool false)], args := [d] }
  | _ => none }
def FnExactMailOkWrongFalsely : Prop := fnExactMailOkRow.holds Try.pinned (OpenSpec.ofChange fnExactMailOkWrong)

/-- 'laws.FnPortHear': WHATEVER THE INPUT: true; the input reads as it did. -/
def fnPortHearSpec : ChangeSpec := { name := "fnPortHear", fn := fun _ => fun
  | [d] => { results := [.lit (.bool true)], args := [d] }
  | _ => none }
def fnPortHearRow : OpenClaim := { program := "ytgfaamcihlojdab", sum := "5e3a67b19d0cf522b541f3ddc537d0c4c4b4d707e486fa9bfe4604590548066b", func := "loop.example/netstack/laws.FnPortHear", spec := "fnPortHear", unfollowed := true, recurses := true, apart := false }
def FnPortHearSaid : Prop := fnPortHearRow.holds Try.pinned (OpenSpec.ofChange fnPortHearSpec)

/-- ITS FALSE NEIGHBOUR: 'it returns false'. Refute it at one input. -/
def fnPortHearWrong : ChangeSpec := { name := "fnPortHear", fn := fun _ => fun
  | [d] => { results := [.lit (.bool false)], args := [d] }
  | _ => none }
def FnPortHearWrongFalsely : Prop := fnPortHearRow.holds Try.pinned (OpenSpec.ofChange fnPortHearWrong)

/-- 'laws.FnSeqPlace': WHATEVER THE INPUT: true; the input reads as it did. -/
def fnSeqPlaceSpec : ChangeSpec := { name := "fnSeqPlace", fn := fun _ => fun
  | [d] => { results := [.lit (.bool true)], args := [d] }
  | _ => none }
def fnSeqPlaceRow : OpenClaim := { program := "ytgfaamcihlojdab", sum := "5e3a67b19d0cf522b541f3ddc537d0c4c4b4d707e486fa9bfe4604590548066b", func := "loop.example/netstack/laws.FnSeqPlace", spec := "fnSeqPlace", apart := false }
def FnSeqPlaceSaid : Prop := fnSeqPlaceRow.holds Try.pinned (OpenSpec.ofChange fnSeqPlaceSpec)

/-- ITS FALSE NEIGHBOUR: 'it returns false'. Refute it at one input. -/
def fnSeqPlaceWrong : ChangeSpec := { name := "fnSeqPlace", fn := fun _ => fun
  | [d] => { results := [.lit (.bool false)], args := [d] }
  | _ => none }
def FnSeqPlaceWrongFalsely : Prop := fnSeqPlaceRow.holds Try.pinned (OpenSpec.ofChange fnSeqPlaceWrong)

/-- 'laws.FnMailOk': WHATEVER THE INPUT: true; the input reads as it did. -/
def fnMailOkSpec : ChangeSpec := { name := "fnMailOk", fn := fun _ => fun
  | [d] => { results := [.lit (.bool true)], args := [d] }
  | _ => none }
def fnMailOkRow : OpenClaim := { program := "ytgfaamcihlojdab", sum := "5e3a67b19d0cf522b541f3ddc537d0c4c4b4d707e486fa9bfe4604590548066b", func := "loop.example/netstack/laws.FnMailOk", spec := "fnMailOk", apart := false }
def FnMailOkSaid : Prop := fnMailOkRow.holds Try.pinned (OpenSpec.ofChange fnMailOkSpec)

/-- ITS FALSE NEIGHBOUR: 'it returns false'. Refute it at one input. -/
def fnMailOkWrong : ChangeSpec := { name := "fnMailOk", fn := fun _ => fun
  | [d] => { results := [.lit (.bool false)], args := [d] }
  | _ => none }
def FnMailOkWrongFalsely : Prop := fnMailOkRow.holds Try.pinned (OpenSpec.ofChange fnMailOkWrong)

/-- 'laws.FnNoteOk': WHATEVER THE INPUT: true; the input reads as it did. -/
def fnNoteOkSpec : ChangeSpec := { name := "fnNoteOk", fn := fun _ => fun
  | [d] => { results := [.lit (.bool true)], args := [d] }
  | _ => none }
def fnNoteOkRow : OpenClaim := { program := "ytgfaamcihlojdab", sum := "5e3a67b19d0cf522b541f3ddc537d0c4c4b4d707e486fa9bfe4604590548066b", func := "loop.example/netstack/laws.FnNoteOk", spec := "fnNoteOk", apart := false }
def FnNoteOkSaid : Prop := fnNoteOkRow.holds Try.pinned (OpenSpec.ofChange fnNoteOkSpec)

/-- ITS FALSE NEIGHBOUR: 'it returns false'. Refute it at one input. -/
def fnNoteOkWrong : ChangeSpec := { name := "fnNoteOk", fn := fun _ => fun
  | [d] => { results := [.lit (.bool false)], args := [d] }
  | _ => none }
def FnNoteOkWrongFalsely : Prop := fnNoteOkRow.holds Try.pinned (OpenSpec.ofChange fnNoteOkWrong)

/-- 'laws.FnSegmentLong': WHATEVER THE INPUT: true; the input reads as it did. -/
def fnSegmentLongSpec : ChangeSpec := { name := "fnSegmentLong", fn := fun _ => fun
  | [d] => { results := [.lit (.bool true)], args := [d] }
  | _ => none }
def fnSegmentLongRow : OpenClaim := { program := "ytgfaamcihlojdab", sum := "5e3a67b19d0cf522b541f3ddc537d0c4c4b4d707e486fa9bfe4604590548066b", func := "loop.example/netstack/laws.FnSegmentLong", spec := "fnSegmentLong", apart := false }
def FnSegmentLongSaid : Prop := fnSegmentLongRow.holds Try.pinned (OpenSpec.ofChange fnSegmentLongSpec)

/-- ITS FALSE NEIGHBOUR: 'it returns false'. Refute it at one input. -/
def fnSegmentLongWrong : ChangeSpec := { name := "fnSegmentLong", fn := fun _ => fun
  | [d] => { results := [.lit (.bool false)], args := [d] }
  | _ => none }
def FnSegmentLongWrongFalsely : Prop := fnSegmentLongRow.holds Try.pinned (OpenSpec.ofChange fnSegmentLongWrong)

/- THE SECOND FORM. 'bulk': how many values and letters a reading holds, each counted each time it is reached (what is shared counts as often as it is met; a slice's spare places count too). A statement '..UptoSaid' is the law's where the arguments, and the package variables that the reading takes, are together of bulk at most 1048576: NARROWER than '..Said'. Prove '..Said' where nothing that the law and all that it calls make is longer than what came in: it says more and counts as full. Else prove '..UptoSaid'. A law counts once. -/
mutual
def uptoBulk {H : Type} : DataW H → Nat
  | .lit (.string bytes) => bytes.length + 1
  | .lit _ => 1
  | .nil => 1
  | .ptr d => uptoBulk d + 1
  | .slice elems spare => uptoBulkAll elems + uptoBulkAll spare + 1
  | .agg parts => uptoBulkAll parts + 1
  | .iface _ d => uptoBulk d + 1
  | .map entries => uptoBulkEntries entries + 1
  | .held _ => 1
def uptoBulkAll {H : Type} : List (DataW H) → Nat
  | [] => 0
  | d :: r => uptoBulk d + uptoBulkAll r
def uptoBulkEntries {H : Type} : List (Lit × DataW H) → Nat
  | [] => 0
  | x :: r => uptoBulkEntry x + uptoBulkEntries r
def uptoBulkEntry {H : Type} : Lit × DataW H → Nat
  | (.string bytes, d) => bytes.length + uptoBulk d + 1
  | (_, d) => uptoBulk d + 1
 end
def uptoSmall : (H : Type) → List (DataW H) → Bool := fun _ ds => decide (uptoBulkAll ds ≤ 1048576)
def OpenSpec.upto (s : _root_.Go.ChangeSpec) : _root_.Go.OpenSpec := { _root_.Go.OpenSpec.ofChange s with cond := some uptoSmall }

/-- 'laws.FnExactMailOk', WHERE WHAT IT READS IS OF BULK AT MOST 1048576: true; the input reads as it did. -/
def fnExactMailOkUptoRow : OpenClaim := { program := "ytgfaamcihlojdab", sum := "5e3a67b19d0cf522b541f3ddc537d0c4c4b4d707e486fa9bfe4604590548066b", func := "loop.example/netstack/laws.FnExactMailOk", spec := "fnExactMailOk", apart := false, narrowed := true }
def FnExactMailOkUptoSaid : Prop := fnExactMailOkUptoRow.holds Try.pinned (OpenSpec.upto fnExactMailOkSpec)

/-- 'laws.FnPortHear', WHERE WHAT IT READS IS OF BULK AT MOST 1048576: true; the input reads as it did. -/
def fnPortHearUptoRow : OpenClaim := { program := "ytgfaamcihlojdab", sum := "5e3a67b19d0cf522b541f3ddc537d0c4c4b4d707e486fa9bfe4604590548066b", func := "loop.example/netstack/laws.FnPortHear", spec := "fnPortHear", unfollowed := true, recurses := true, apart := false, narrowed := true }
def FnPortHearUptoSaid : Prop := fnPortHearUptoRow.holds Try.pinned (OpenSpec.upto fnPortHearSpec)

/-- 'laws.FnSeqPlace', WHERE WHAT IT READS IS OF BULK AT MOST 1048576: true; the input reads as it did. -/
def fnSeqPlaceUptoRow : OpenClaim := { program := "ytgfaamcihlojdab", sum := "5e3a67b19d0cf522b541f3ddc537d0c4c4b4d707e486fa9bfe4604590548066b", func := "loop.example/netstack/laws.FnSeqPlace", spec := "fnSeqPlace", apart := false, narrowed := true }
def FnSeqPlaceUptoSaid : Prop := fnSeqPlaceUptoRow.holds Try.pinned (OpenSpec.upto fnSeqPlaceSpec)

/-- 'laws.FnMailOk', WHERE WHAT IT READS IS OF BULK AT MOST 1048576: true; the input reads as it did. -/
def fnMailOkUptoRow : OpenClaim := { program := "ytgfaamcihlojdab", sum := "5e3a67b19d0cf522b541f3ddc537d0c4c4b4d707e486fa9bfe4604590548066b", func := "loop.example/netstack/laws.FnMailOk", spec := "fnMailOk", apart := false, narrowed := true }
def FnMailOkUptoSaid : Prop := fnMailOkUptoRow.holds Try.pinned (OpenSpec.upto fnMailOkSpec)

/-- 'laws.FnNoteOk', WHERE WHAT IT READS IS OF BULK AT MOST 1048576: true; the input reads as it did. -/
def fnNoteOkUptoRow : OpenClaim := { program := "ytgfaamcihlojdab", sum := "5e3a67b19d0cf522b541f3ddc537d0c4c4b4d707e486fa9bfe4604590548066b", func := "loop.example/netstack/laws.FnNoteOk", spec := "fnNoteOk", apart := false, narrowed := true }
def FnNoteOkUptoSaid : Prop := fnNoteOkUptoRow.holds Try.pinned (OpenSpec.upto fnNoteOkSpec)

/-- 'laws.FnSegmentLong', WHERE WHAT IT READS IS OF BULK AT MOST 1048576: true; the input reads as it did. -/
def fnSegmentLongUptoRow : OpenClaim := { program := "ytgfaamcihlojdab", sum := "5e3a67b19d0cf522b541f3ddc537d0c4c4b4d707e486fa9bfe4604590548066b", func := "loop.example/netstack/laws.FnSegmentLong", spec := "fnSegmentLong", apart := false, narrowed := true }
def FnSegmentLongUptoSaid : Prop := fnSegmentLongUptoRow.holds Try.pinned (OpenSpec.upto fnSegmentLongSpec)

end Rows
end Go.Proofs.Ytgfaamcihlojdab
