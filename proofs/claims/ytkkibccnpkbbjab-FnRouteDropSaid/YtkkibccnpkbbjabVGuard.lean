/- Words of the print (its part Guard) over rows whose capacity may end before their block: turned by this session from the printed words of this seat. No conditions but those that each theorem states. -/
import Derived.Test.YtkkibccnpkbbjabVWords
namespace Go.Proofs.YtkkibccnpkbbjabV.PrintWords
open Go.RowKit
section
variable {P : Program} {ops : Array Oper} {rest : List Oper} {o : Oper} {a : Act} {Q : Exit → Act → World → Prop} {W : World}
end
end Go.Proofs.YtkkibccnpkbbjabV.PrintWords
