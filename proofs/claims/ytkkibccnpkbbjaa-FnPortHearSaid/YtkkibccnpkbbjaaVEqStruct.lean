/- Words of the print (its part EqStruct) over rows whose capacity may end before their block: turned by this session from the printed words of this seat. No conditions but those that each theorem states. -/
import Derived.Test.YtkkibccnpkbbjaaVWords
import Derived.Laws.StructEq
namespace Go.Proofs.YtkkibccnpkbbjaaV.PrintWords
open Go.RowKit
section
variable {P : Program} {d : Nat} {xs ys : Array Value} {f : Field} {fs : List Field} {a b : Value} {r s : Bool} {w : World}
end
end Go.Proofs.YtkkibccnpkbbjaaV.PrintWords
