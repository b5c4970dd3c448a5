/- Words of the print (its part At) over rows whose capacity may end before their block: turned by this session from the printed words of this seat. No conditions but those that each theorem states. -/
import Derived.Test.YtkkibccnpkbbjaaVFootNe
namespace Go.Proofs.YtkkibccnpkbbjaaV.PrintWords
open Go.RowKit
section
variable {w w' u : World} {m B g : Nat} {o : Obj} {row : Option Nat} {S : Nat → Prop} {a : Addr} {v : Value}
end
namespace Kd
section
variable {α : Type} {d : Kd α} {e base n m : Nat} {ok : Nat → Prop} {w w' : World} {v : Value} {A : Option Addr} {xs : List α}
end
end Kd
end Go.Proofs.YtkkibccnpkbbjaaV.PrintWords
