/-
  No cell of these rows narrows 'for every input' (looked for: loops, veiled, ifaces, maps, wideKeys, modest, calm, conditions, laid).
  DERIVED. THE GIVEN ROWS OF THIS SEAT. 6 by the template 'for every input the law returns true; each argument reads behind the call as it read before'; 0 by the template 'total and deterministic' (their statements: YtgfaamcihlojdafTotals.lean).
  GIVEN WITH THE SEED: the statements are not yours to turn. If you find one false, say at which input.
  Laid BY PROGRAM, IN A SANDBOX (cutbox-rows.mjs): the forced cells as the released guide's own fill.sh prints them over the translation f60132e3ae19a5e9… (all of the seat's roots in one cut). By AI agents, Wed Nov 11 2026. No macro, syntax, notation, axiom, sorry.
-/
import Derived.Test.YtgfaamcihlojdafChecked
import GoSem.Claim
import GoSem.ClaimJoined
import GoSem.ClaimMapViews
import Derived.JoinedTies
import Derived.KernelRfl
namespace Go.Proofs.Ytgfaamcihlojdaf
/- THE CELL 'sum', in the pinned program and in every row, IS THE sha256 OF THE DUMP (.gsa) THAT YtgfaamcihlojdafProg.lean LOADS. Nothing in Lean hashes anything: it is a label: what it is worth is what the hold of that sum in a sandbox is worth. -/
noncomputable def Try.pinned : Pinned := { name := "ytgfaamcihlojdaf", sum := "f60132e3ae19a5e9a8e931c7f271c6fa1bb61c128ad2806bc04c3076da826f42", checked := Try.checked }
namespace Rows
def none {H : Type} : Left H := { results := [], args := [] }

/-- 'laws.FnExactNetOk': WHATEVER THE INPUT: true; the input reads as it did. -/
def fnExactNetOkSpec : ChangeSpec := { name := "fnExactNetOk", fn := fun _ => fun
  | [d] => { results := [.lit (.bool true)], args := [d] }
  | _ => none }
def fnExactNetOkRow : OpenClaim := { program := "ytgfaamcihlojdaf", sum := "f60132e3ae19a5e9a8e931c7f271c6fa1bb61c128ad2806bc04c3076da826f42", func := "loop.example/netstack/laws.FnExactNetOk", spec := "fnExactNetOk", unfollowed := true, recurses := true, apart := false }
def FnExactNetOkSaid : Prop := fnExactNetOkRow.holds Try.pinned (OpenSpec.ofChange fnExactNetOkSpec)

/-- ITS FALSE NEIGHBOUR: 'it returns false'. Refute it at one input. -/
def fnExactNetOkWrong : ChangeSpec := { name := "fnExactNetOk", fn := fun _ => fun
  | [d] => { results := [.lit (.bool false)], args := [d] }
  | _ => none }
def FnExactNetOkWrongFalsely : Prop := fnExactNetOkRow.holds Try.pinned (OpenSpec.ofChange fnExactNetOkWrong)

/-- 'laws.FnEarRanges': WHATEVER THE INPUT: true; the input reads as it did. -/
def fnEarRangesSpec : ChangeSpec := { name := "fnEarRanges", fn := fun _ => fun
  | [d] => { results := [.lit (.bool true)], args := [d] }
  | _ => none }
def fnEarRangesRow : OpenClaim := { program := "ytgfaamcihlojdaf", sum := "f60132e3ae19a5e9a8e931c7f271c6fa1bb61c128ad2806bc04c3076da826f42", func := "loop.example/netstack/laws.FnEarRanges", spec := "fnEarRanges", apart := false }
def FnEarRangesSaid : Prop := fnEarRangesRow.holds Try.pinned (OpenSpec.ofChange fnEarRangesSpec)

/-- ITS FALSE NEIGHBOUR: 'it returns false'. Refute it at one input. -/
def fnEarRangesWrong : ChangeSpec := { name := "fnEarRanges", fn := fun _ => fun
  | [d] => { results := [.lit (.bool false)], args := [d] }
  | _ => none }
def FnEarRangesWrongFalsely : Prop := fnEarRangesRow.holds Try.pinned (OpenSpec.ofChange fnEarRangesWrong)

/-- 'laws.FnNoteFrom': WHATEVER THE INPUT: true; the input reads as it did. -/
def fnNoteFromSpec : ChangeSpec := { name := "fnNoteFrom", fn := fun _ => fun
  | [d] => { results := [.lit (.bool true)], args := [d] }
  | _ => none }
def fnNoteFromRow : OpenClaim := { program := "ytgfaamcihlojdaf", sum := "f60132e3ae19a5e9a8e931c7f271c6fa1bb61c128ad2806bc04c3076da826f42", func := "loop.example/netstack/laws.FnNoteFrom", spec := "fnNoteFrom", apart := false }
def FnNoteFromSaid : Prop := fnNoteFromRow.holds Try.pinned (OpenSpec.ofChange fnNoteFromSpec)

/-- ITS FALSE NEIGHBOUR: 'it returns false'. Refute it at one input. -/
def fnNoteFromWrong : ChangeSpec := { name := "fnNoteFrom", fn := fun _ => fun
  | [d] => { results := [.lit (.bool false)], args := [d] }
  | _ => none }
def FnNoteFromWrongFalsely : Prop := fnNoteFromRow.holds Try.pinned (OpenSpec.ofChange fnNoteFromWrong)

/-- 'laws.FnMailBytes': WHATEVER THE INPUT: true; the input reads as it did. -/
def fnMailBytesSpec : ChangeSpec := { name := "fnMailBytes", fn := fun _ => fun
  | [d] => { results := [.lit (.bool true)], args := [d] }
  | _ => none }
def fnMailBytesRow : OpenClaim := { program := "ytgfaamcihlojdaf", sum := "f60132e3ae19a5e9a8e931c7f271c6fa1bb61c128ad2806bc04c3076da826f42", func := "loop.example/netstack/laws.FnMailBytes", spec := "fnMailBytes", unfollowed := true, recurses := true, apart := false }
def FnMailBytesSaid : Prop := fnMailBytesRow.holds Try.pinned (OpenSpec.ofChange fnMailBytesSpec)

/-- ITS FALSE NEIGHBOUR: 'it returns false'. Refute it at one input. -/
def fnMailBytesWrong : ChangeSpec := { name := "fnMailBytes", fn := fun _ => fun
  | [d] => { results := [.lit (.bool false)], args := [d] }
  | _ => none }
def FnMailBytesWrongFalsely : Prop := fnMailBytesRow.holds Try.pinned (OpenSpec.ofChange fnMailBytesWrong)

/-- 'laws.FnExactEarRanges': WHATEVER THE INPUT: true; the input reads as it did. -/
def fnExactEarRangesSpec : ChangeSpec := { name := "fnExactEarRanges", fn := fun _ => fun
  | [d] => { results := [.lit (.bool true)], args := [d] }
  | _ => none }
def fnExactEarRangesRow : OpenClaim := { program := "ytgfaamcihlojdaf", sum := "f60132e3ae19a5e9a8e931c7f271c6fa1bb61c128ad2806bc04c3076da826f42", func := "loop.example/netstack/laws.FnExactEarRanges", spec := "fnExactEarRanges", apart := false }
def FnExactEarRangesSaid : Prop := fnExactEarRangesRow.holds Try.pinned (OpenSpec.ofChange fnExactEarRangesSpec)

/-- ITS FALSE NEIGHBOUR: 'it returns false'. Refute it at one input. -/
def fnExactEarRangesWrong : ChangeSpec := { name := "fnExactEarRanges", fn := fun _ => fun
  | [d] => { results := [.lit (.bool false)], args := [d] }
  | _ => none }
def FnExactEarRangesWrongFalsely : Prop := fnExactEarRangesRow.holds Try.pinned (OpenSpec.ofChange fnExactEarRangesWrong)

/-- 'laws.FnExactMailFrom': WHATEVER THE INPUT: true; the input reads as it did. -/
def fnExactMailFromSpec : ChangeSpec := { name := "fnExactMailFrom", fn := fun _ => fun
  | [d1, d2, d3] => { results := [.lit (.bool true)], args := [d1, d2, d3] }
  | _ => none }
def fnExactMailFromRow : OpenClaim := { program := "ytgfaamcihlojdaf", sum := "f60132e3ae19a5e9a8e931c7f271c6fa1bb61c128ad2806bc04c3076da826f42", func := "loop.example/netstack/laws.FnExactMailFrom", spec := "fnExactMailFrom", unfollowed := true, recurses := true, apart := false }
def FnExactMailFromSaid : Prop := fnExactMailFromRow.holds Try.pinned (OpenSpec.ofChange fnExactMailFromSpec)

/-- ITS FALSE NEIGHBOUR: 'it returns false'. Refute it at one input. -/
def fnExactMailFromWrong : ChangeSpec := { name := "fnExactMailFrom", fn := fun _ => fun
  | [d1, d2, d3] => { results := [.lit (.bool false)], args := [d1, d2, d3] }
  | _ => none }
def FnExactMailFromWrongFalsely : Prop := fnExactMailFromRow.holds Try.pinned (OpenSpec.ofChange fnExactMailFromWrong)

/- THE SECOND FORM. 'bulk': how many values and letters a reading holds, each counted each time it is reached (what is shared counts as often as it is met; a slice's spare places count too). A statement '..UptoSaid' is the law's where the arguments, and the package variables that the reading takes, are together of bulk at most 1048576: NARROWER than '..Said'. Prove '..Said' where nothing that the law and all that it calls make is longer than what came in: it says more and counts as full. Else prove '..UptoSaid'. A law counts once. -/
mutual
def uptoBulk {H : Type} : DataW H → Nat
  | .lit (.string bytes) => bytes.length + 1
  | .lit _ => 1
  | .nil => 1
  | .ptr d => uptoBulk d + 1
  | .slice elems spare => uptoBulkAll elems + uptoBulkAll spare + 1
  | .agg parts => uptoBulkAll parts + 1
  | .iface _ d => uptoBulk d + 1
  | .map entries => uptoBulkEntries entries + 1
  | .held _ => 1
def uptoBulkAll {H : Type} : List (DataW H) → Nat
  | [] => 0
  | d :: r => uptoBulk d + uptoBulkAll r
def uptoBulkEntries {H : Type} : List (Lit × DataW H) → Nat
  | [] => 0
  | x :: r => uptoBulkEntry x + uptoBulkEntries r
def uptoBulkEntry {H : Type} : Lit × DataW H → Nat
  | (.string bytes, d) => bytes.length + uptoBulk d + 1
  | (_, d) => uptoBulk d + 1
 end
def uptoSmall : (H : Type) → List (DataW H) → Bool := fun _ ds => decide (uptoBulkAll ds ≤ 1048576)
def OpenSpec.upto (s : _root_.Go.ChangeSpec) : _root_.Go.OpenSpec := { _root_.Go.OpenSpec.ofChange s with cond := some uptoSmall }

/-- 'laws.FnExactNetOk', WHERE WHAT IT READS IS OF BULK AT MOST 1048576: true; the input reads as it did. -/
def fnExactNetOkUptoRow : OpenClaim := { program := "ytgfaamcihlojdaf", sum := "f60132e3ae19a5e9a8e931c7f271c6fa1bb61c128ad2806bc04c3076da826f42", func := "loop.example/netstack/laws.FnExactNetOk", spec := "fnExactNetOk", unfollowed := true, recurses := true, apart := false, narrowed := true }
def FnExactNetOkUptoSaid : Prop := fnExactNetOkUptoRow.holds Try.pinned (OpenSpec.upto fnExactNetOkSpec)

/-- 'laws.FnEarRanges', WHERE WHAT IT READS IS OF BULK AT MOST 1048576: true; the input reads as it did. -/
def fnEarRangesUptoRow : OpenClaim := { program := "ytgfaamcihlojdaf", sum := "f60132e3ae19a5e9a8e931c7f271c6fa1bb61c128ad2806bc04c3076da826f42", func := "loop.example/netstack/laws.FnEarRanges", spec := "fnEarRanges", apart := false, narrowed := true }
def FnEarRangesUptoSaid : Prop := fnEarRangesUptoRow.holds Try.pinned (OpenSpec.upto fnEarRangesSpec)

/-- 'laws.FnNoteFrom', WHERE WHAT IT READS IS OF BULK AT MOST 1048576: true; the input reads as it did. -/
def fnNoteFromUptoRow : OpenClaim := { program := "ytgfaamcihlojdaf", sum := "f60132e3ae19a5e9a8e931c7f271c6fa1bb61c128ad2806bc04c3076da826f42", func := "loop.example/netstack/laws.FnNoteFrom", spec := "fnNoteFrom", apart := false, narrowed := true }
def FnNoteFromUptoSaid : Prop := fnNoteFromUptoRow.holds Try.pinned (OpenSpec.upto fnNoteFromSpec)

/-- 'laws.FnMailBytes', WHERE WHAT IT READS IS OF BULK AT MOST 1048576: true; the input reads as it did. -/
def fnMailBytesUptoRow : OpenClaim := { program := "ytgfaamcihlojdaf", sum := "f60132e3ae19a5e9a8e931c7f271c6fa1bb61c128ad2806bc04c3076da826f42", func := "loop.example/netstack/laws.FnMailBytes", spec := "fnMailBytes", unfollowed := true, recurses := true, apart := false, narrowed := true }
def FnMailBytesUptoSaid : Prop := fnMailBytesUptoRow.holds Try.pinned (OpenSpec.upto fnMailBytesSpec)

/-- 'laws.FnExactEarRanges', WHERE WHAT IT READS IS OF BULK AT MOST 1048576: true; the input reads as it did. -/
def fnExactEarRangesUptoRow : OpenClaim := { program := "ytgfaamcihlojdaf", sum := "f60132e3ae19a5e9a8e931c7f271c6fa1bb61c128ad2806bc04c3076da826f42", func := "loop.example/netstack/laws.FnExactEarRanges", spec := "fnExactEarRanges", apart := false, narrowed := true }
def FnExactEarRangesUptoSaid : Prop := fnExactEarRangesUptoRow.holds Try.pinned (OpenSpec.upto fnExactEarRangesSpec)

/-- 'laws.FnExactMailFrom', WHERE WHAT IT READS IS OF BULK AT MOST 1048576: true; the input reads as it did. -/
def fnExactMailFromUptoRow : OpenClaim := { program := "ytgfaamcihlojdaf", sum := "f60132e3ae19a5e9a8e931c7f271c6fa1bb61c128ad2806bc04c3076da826f42", func := "loop.example/netstack/laws.FnExactMailFrom", spec := "fnExactMailFrom", unfollowed := true, recurses := true, apart := false, narrowed := true }
def FnExactMailFromUptoSaid : Prop := fnExactMailFromUptoRow.holds Try.pinned (OpenSpec.upto fnExactMailFromSpec)

end Rows
end Go.Proofs.Ytgfaamcihlojdaf
