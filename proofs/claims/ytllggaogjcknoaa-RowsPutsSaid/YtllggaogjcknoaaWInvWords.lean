import Derived.Test.YtllggaogjcknoaaWInv
import Derived.Test.YtllggaogjcknoaaWFootNe
namespace Go.Proofs.YtllggaogjcknoaaW.PrintWords
open Go.RowKit
end Go.Proofs.YtllggaogjcknoaaW.PrintWords
namespace Go.Proofs.YtllggaogjcknoaaW.PrintLast
section
variable {ops : Array Oper} {a : Act} {o og : Oper} {g : Nat} {t : Tmp} {u : Bool}
end
end Go.Proofs.YtllggaogjcknoaaW.PrintLast
