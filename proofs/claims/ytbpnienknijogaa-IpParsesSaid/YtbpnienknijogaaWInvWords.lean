import Derived.Test.YtbpnienknijogaaWInv
import Derived.Test.YtbpnienknijogaaWFootNe
namespace Go.Proofs.YtbpnienknijogaaW.PrintWords
open Go.RowKit
end Go.Proofs.YtbpnienknijogaaW.PrintWords
namespace Go.Proofs.YtbpnienknijogaaW.PrintLast
section
variable {ops : Array Oper} {a : Act} {o og : Oper} {g : Nat} {t : Tmp} {u : Bool}
end
end Go.Proofs.YtbpnienknijogaaW.PrintLast
