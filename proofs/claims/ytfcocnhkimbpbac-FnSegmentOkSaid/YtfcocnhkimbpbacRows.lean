/-
  No cell of these rows narrows 'for every input' (looked for: loops, veiled, ifaces, maps, wideKeys, modest, calm, conditions, laid).
  DERIVED. THE GIVEN ROWS OF THIS SEAT. 6 by the template 'for every input the law returns true; each argument reads behind the call as it read before'; 0 by the template 'total and deterministic' (their statements: YtfcocnhkimbpbacTotals.lean).
  GIVEN WITH THE SEED: the statements are not yours to turn. If you find one false, say at which input.
  Laid BY PROGRAM, IN A SANDBOX (cutbox-rows.mjs): the forced cells as the released guide's own fill.sh prints them over the translation ad436bf4d4f1d5ad… (all of the seat's roots in one cut). By AI agents, Wed Nov 11 2026. No macro, syntax, notation, axiom, sorry.
-/
import Derived.Test.YtfcocnhkimbpbacChecked
import GoSem.Claim
import GoSem.ClaimJoined
import GoSem.ClaimMapViews
import Derived.JoinedTies
import Derived.KernelRfl
namespace Go.Proofs.Ytfcocnhkimbpbac
/- THE CELL 'sum', in the pinned program and in every row, IS THE sha256 OF THE DUMP (.gsa) THAT YtfcocnhkimbpbacProg.lean LOADS. Nothing in Lean hashes anything: it is a label: what it is worth is what the hold of that sum in a sandbox is worth. -/
noncomputable def Try.pinned : Pinned := { name := "ytfcocnhkimbpbac", sum := "ad436bf4d4f1d5adf66f5be6b252c642f699fa6e3ea80add381fc36f0abee09d", checked := Try.checked }
namespace Rows
def none {H : Type} : Left H := { results := [], args := [] }

/-- 'laws.FnExactPortsOk': WHATEVER THE INPUT: true; the input reads as it did. -/
def fnExactPortsOkSpec : ChangeSpec := { name := "fnExactPortsOk", fn := fun _ => fun
  | [d] => { results := [.lit (.bool true)], args := [d] }
  | _ => none }
def fnExactPortsOkRow : OpenClaim := { program := "ytfcocnhkimbpbac", sum := "ad436bf4d4f1d5adf66f5be6b252c642f699fa6e3ea80add381fc36f0abee09d", func := "loop.example/netstack/laws.FnExactPortsOk", spec := "fnExactPortsOk", unfollowed := true, recurses := true, apart := false }
def FnExactPortsOkSaid : Prop := fnExactPortsOkRow.holds Try.pinned (OpenSpec.ofChange fnExactPortsOkSpec)

/-- ITS FALSE NEIGHBOUR: 'it returns false'. Refute it at one input. -/
def fnExactPortsOkWrong : ChangeSpec := { name := "fnExactPortsOk", fn := fun _ => fun
  | [d] => { results := [.lit (.bool false)], args := [d] }
  | _ => none }
def FnExactPortsOkWrongFalsely : Prop := fnExactPortsOkRow.holds Try.pinned (OpenSpec.ofChange fnExactPortsOkWrong)

/-- 'laws.FnPortsOk': WHATEVER THE INPUT: true; the input reads as it did. -/
def fnPortsOkSpec : ChangeSpec := { name := "fnPortsOk", fn := fun _ => fun
  | [d] => { results := [.lit (.bool true)], args := [d] }
  | _ => none }
def fnPortsOkRow : OpenClaim := { program := "ytfcocnhkimbpbac", sum := "ad436bf4d4f1d5adf66f5be6b252c642f699fa6e3ea80add381fc36f0abee09d", func := "loop.example/netstack/laws.FnPortsOk", spec := "fnPortsOk", unfollowed := true, recurses := true, apart := false }
def FnPortsOkSaid : Prop := fnPortsOkRow.holds Try.pinned (OpenSpec.ofChange fnPortsOkSpec)

/-- ITS FALSE NEIGHBOUR: 'it returns false'. Refute it at one input. -/
def fnPortsOkWrong : ChangeSpec := { name := "fnPortsOk", fn := fun _ => fun
  | [d] => { results := [.lit (.bool false)], args := [d] }
  | _ => none }
def FnPortsOkWrongFalsely : Prop := fnPortsOkRow.holds Try.pinned (OpenSpec.ofChange fnPortsOkWrong)

/-- 'laws.FnExactNetOk': WHATEVER THE INPUT: true; the input reads as it did. -/
def fnExactNetOkSpec : ChangeSpec := { name := "fnExactNetOk", fn := fun _ => fun
  | [d] => { results := [.lit (.bool true)], args := [d] }
  | _ => none }
def fnExactNetOkRow : OpenClaim := { program := "ytfcocnhkimbpbac", sum := "ad436bf4d4f1d5adf66f5be6b252c642f699fa6e3ea80add381fc36f0abee09d", func := "loop.example/netstack/laws.FnExactNetOk", spec := "fnExactNetOk", unfollowed := true, recurses := true, apart := false }
def FnExactNetOkSaid : Prop := fnExactNetOkRow.holds Try.pinned (OpenSpec.ofChange fnExactNetOkSpec)

/-- ITS FALSE NEIGHBOUR: 'it returns false'. Refute it at one input. -/
def fnExactNetOkWrong : ChangeSpec := { name := "fnExactNetOk", fn := fun _ => fun
  | [d] => { results := [.lit (.bool false)], args := [d] }
  | _ => none }
def FnExactNetOkWrongFalsely : Prop := fnExactNetOkRow.holds Try.pinned (OpenSpec.ofChange fnExactNetOkWrong)

/-- 'laws.FnNetOk': WHATEVER THE INPUT: true; the input reads as it did. -/
def fnNetOkSpec : ChangeSpec := { name := "fnNetOk", fn := fun _ => fun
  | [d] => { results := [.lit (.bool true)], args := [d] }
  | _ => none }
def fnNetOkRow : OpenClaim := { program := "ytfcocnhkimbpbac", sum := "ad436bf4d4f1d5adf66f5be6b252c642f699fa6e3ea80add381fc36f0abee09d", func := "loop.example/netstack/laws.FnNetOk", spec := "fnNetOk", unfollowed := true, recurses := true, apart := false }
def FnNetOkSaid : Prop := fnNetOkRow.holds Try.pinned (OpenSpec.ofChange fnNetOkSpec)

/-- ITS FALSE NEIGHBOUR: 'it returns false'. Refute it at one input. -/
def fnNetOkWrong : ChangeSpec := { name := "fnNetOk", fn := fun _ => fun
  | [d] => { results := [.lit (.bool false)], args := [d] }
  | _ => none }
def FnNetOkWrongFalsely : Prop := fnNetOkRow.holds Try.pinned (OpenSpec.ofChange fnNetOkWrong)

/-- 'laws.FnExactSegmentOk': WHATEVER THE INPUT: true; the input reads as it did. -/
def fnExactSegmentOkSpec : ChangeSpec := { name := "fnExactSegmentOk", fn := fun _ => fun
  | [d] => { results := [.lit (.bool true)], args := [d] }
  | _ => none }
def fnExactSegmentOkRow : OpenClaim := { program := "ytfcocnhkimbpbac", sum := "ad436bf4d4f1d5adf66f5be6b252c642f699fa6e3ea80add381fc36f0abee09d", func := "loop.example/netstack/laws.FnExactSegmentOk", spec := "fnExactSegmentOk", unfollowed := true, recurses := true, apart := false }
def FnExactSegmentOkSaid : Prop := fnExactSegmentOkRow.holds Try.pinned (OpenSpec.ofChange fnExactSegmentOkSpec)

/-- ITS FALSE NEIGHBOUR: 'it returns false'. Refute it at one input. -/
def fnExactSegmentOkWrong : ChangeSpec := { name := "fnExactSegmentOk", fn := fun _ => fun
  | [d] => { results := [.lit (.bool false)], args := [d] }
  | _ => none }
def FnExactSegmentOkWrongFalsely : Prop := fnExactSegmentOkRow.holds Try.pinned (OpenSpec.ofChange fnExactSegmentOkWrong)

/-- 'laws.FnSegmentOk': WHATEVER THE INPUT: true; the input reads as it did. -/
def fnSegmentOkSpec : ChangeSpec := { name := "fnSegmentOk", fn := fun _ => fun
  | [d] => { results := [.lit (.bool true)], args := [d] }
  | _ => none }
def fnSegmentOkRow : OpenClaim := { program := "ytfcocnhkimbpbac", sum := "ad436bf4d4f1d5adf66f5be6b252c642f699fa6e3ea80add381fc36f0abee09d", func := "loop.example/netstack/laws.FnSegmentOk", spec := "fnSegmentOk", unfollowed := true, recurses := true, apart := false }
def FnSegmentOkSaid : Prop := fnSegmentOkRow.holds Try.pinned (OpenSpec.ofChange fnSegmentOkSpec)

/-- ITS FALSE NEIGHBOUR: 'it returns false'. Refute it at one input. -/
def fnSegmentOkWrong : ChangeSpec := { name := "fnSegmentOk", fn := fun _ => fun
  | [d] => { results := [.lit (.bool false)], args := [d] }
  | _ => none }
def FnSegmentOkWrongFalsely : Prop := fnSegmentOkRow.holds Try.pinned (OpenSpec.ofChange fnSegmentOkWrong)

/- THE SECOND FORM. 'bulk': how many values and letters a reading holds, each counted each time it is reached (what is shared counts as often as it is met; a slice's spare places count too). A statement '..UptoSaid' is the law's where the arguments, and the package variables that the reading takes, are together of bulk at most 1048576: NARROWER than '..Said'. Prove '..Said' where nothing that the law and all that it calls make is longer than what came in: it says more and counts as full. Else prove '..UptoSaid'. A law counts once. -/
mutual
def uptoBulk {H : Type} : DataW H → Nat
  | .lit (.string bytes) => bytes.length + 1
  | .lit _ => 1
  | .nil => 1
  | .ptr d => uptoBulk d + 1
  | .slice elems spare => uptoBulkAll elems + uptoBulkAll spare + 1
  | .agg parts => uptoBulkAll parts + 1
  | .iface _ d => uptoBulk d + 1
  | .map entries => uptoBulkEntries entries + 1
  | .held _ => 1
def uptoBulkAll {H : Type} : List (DataW H) → Nat
  | [] => 0
  | d :: r => uptoBulk d + uptoBulkAll r
def uptoBulkEntries {H : Type} : List (Lit × DataW H) → Nat
  | [] => 0
  | x :: r => uptoBulkEntry x + uptoBulkEntries r
def uptoBulkEntry {H : Type} : Lit × DataW H → Nat
  | (.string bytes, d) => bytes.length + uptoBulk d + 1
  | (_, d) => uptoBulk d + 1
 end
def uptoSmall : (H : Type) → List (DataW H) → Bool := fun _ ds => decide (uptoBulkAll ds ≤ 1048576)
def OpenSpec.upto (s : _root_.Go.ChangeSpec) : _root_.Go.OpenSpec := { _root_.Go.OpenSpec.ofChange s with cond := some uptoSmall }

/-- 'laws.FnExactPortsOk', WHERE WHAT IT READS IS OF BULK AT MOST 1048576: true; the input reads as it did. -/
def fnExactPortsOkUptoRow : OpenClaim := { program := "ytfcocnhkimbpbac", sum := "ad436bf4d4f1d5adf66f5be6b252c642f699fa6e3ea80add381fc36f0abee09d", func := "loop.example/netstack/laws.FnExactPortsOk", spec := "fnExactPortsOk", unfollowed := true, recurses := true, apart := false, narrowed := true }
def FnExactPortsOkUptoSaid : Prop := fnExactPortsOkUptoRow.holds Try.pinned (OpenSpec.upto fnExactPortsOkSpec)

/-- 'laws.FnPortsOk', WHERE WHAT IT READS IS OF BULK AT MOST 1048576: true; the input reads as it did. -/
def fnPortsOkUptoRow : OpenClaim := { program := "ytfcocnhkimbpbac", sum := "ad436bf4d4f1d5adf66f5be6b252c642f699fa6e3ea80add381fc36f0abee09d", func := "loop.example/netstack/laws.FnPortsOk", spec := "fnPortsOk", unfollowed := true, recurses := true, apart := false, narrowed := true }
def FnPortsOkUptoSaid : Prop := fnPortsOkUptoRow.holds Try.pinned (OpenSpec.upto fnPortsOkSpec)

/-- 'laws.FnExactNetOk', WHERE WHAT IT READS IS OF BULK AT MOST 1048576: true; the input reads as it did. -/
def fnExactNetOkUptoRow : OpenClaim := { program := "ytfcocnhkimbpbac", sum := "ad436bf4d4f1d5adf66f5be6b252c642f699fa6e3ea80add381fc36f0abee09d", func := "loop.example/netstack/laws.FnExactNetOk", spec := "fnExactNetOk", unfollowed := true, recurses := true, apart := false, narrowed := true }
def FnExactNetOkUptoSaid : Prop := fnExactNetOkUptoRow.holds Try.pinned (OpenSpec.upto fnExactNetOkSpec)

/-- 'laws.FnNetOk', WHERE WHAT IT READS IS OF BULK AT MOST 1048576: true; the input reads as it did. -/
def fnNetOkUptoRow : OpenClaim := { program := "ytfcocnhkimbpbac", sum := "ad436bf4d4f1d5adf66f5be6b252c642f699fa6e3ea80add381fc36f0abee09d", func := "loop.example/netstack/laws.FnNetOk", spec := "fnNetOk", unfollowed := true, recurses := true, apart := false, narrowed := true }
def FnNetOkUptoSaid : Prop := fnNetOkUptoRow.holds Try.pinned (OpenSpec.upto fnNetOkSpec)

/-- 'laws.FnExactSegmentOk', WHERE WHAT IT READS IS OF BULK AT MOST 1048576: true; the input reads as it did. -/
def fnExactSegmentOkUptoRow : OpenClaim := { program := "ytfcocnhkimbpbac", sum := "ad436bf4d4f1d5adf66f5be6b252c642f699fa6e3ea80add381fc36f0abee09d", func := "loop.example/netstack/laws.FnExactSegmentOk", spec := "fnExactSegmentOk", unfollowed := true, recurses := true, apart := false, narrowed := true }
def FnExactSegmentOkUptoSaid : Prop := fnExactSegmentOkUptoRow.holds Try.pinned (OpenSpec.upto fnExactSegmentOkSpec)

/-- 'laws.FnSegmentOk', WHERE WHAT IT READS IS OF BULK AT MOST 1048576: true; the input reads as it did. -/
def fnSegmentOkUptoRow : OpenClaim := { program := "ytfcocnhkimbpbac", sum := "ad436bf4d4f1d5adf66f5be6b252c642f699fa6e3ea80add381fc36f0abee09d", func := "loop.example/netstack/laws.FnSegmentOk", spec := "fnSegmentOk", unfollowed := true, recurses := true, apart := false, narrowed := true }
def FnSegmentOkUptoSaid : Prop := fnSegmentOkUptoRow.holds Try.pinned (OpenSpec.upto fnSegmentOkSpec)

end Rows
end Go.Proofs.Ytfcocnhkimbpbac
