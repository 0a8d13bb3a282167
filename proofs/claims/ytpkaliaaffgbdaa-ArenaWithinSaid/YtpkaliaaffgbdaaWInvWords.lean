import Derived.Test.YtpkaliaaffgbdaaWInv
import Derived.Test.YtpkaliaaffgbdaaWFootNe
namespace Go.Proofs.YtpkaliaaffgbdaaW.PrintWords
open Go.RowKit
end Go.Proofs.YtpkaliaaffgbdaaW.PrintWords
namespace Go.Proofs.YtpkaliaaffgbdaaW.PrintLast
section
variable {ops : Array Oper} {a : Act} {o og : Oper} {g : Nat} {t : Tmp} {u : Bool}
end
end Go.Proofs.YtpkaliaaffgbdaaW.PrintLast
