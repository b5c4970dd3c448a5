/- Words of the print (its part InvWords) over rows whose capacity may end before their block: turned by this session from the printed words of this seat. No conditions but those that each theorem states. -/
import Derived.Test.YtkkibccnpkbbjaaVInv
import Derived.Test.YtkkibccnpkbbjaaVFootNe
namespace Go.Proofs.YtkkibccnpkbbjaaV.PrintWords
open Go.RowKit
end Go.Proofs.YtkkibccnpkbbjaaV.PrintWords
namespace Go.Proofs.YtkkibccnpkbbjaaV.PrintLast
section
variable {ops : Array Oper} {a : Act} {o og : Oper} {g : Nat} {t : Tmp} {u : Bool}
end
end Go.Proofs.YtkkibccnpkbbjaaV.PrintLast
