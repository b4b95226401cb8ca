import Derived.Test.YtkdibloahkhgoaaWInv
import Derived.Test.YtkdibloahkhgoaaWFootNe
namespace Go.Proofs.YtkdibloahkhgoaaW.PrintWords
open Go.RowKit
end Go.Proofs.YtkdibloahkhgoaaW.PrintWords
namespace Go.Proofs.YtkdibloahkhgoaaW.PrintLast
section
variable {ops : Array Oper} {a : Act} {o og : Oper} {g : Nat} {t : Tmp} {u : Bool}
end
end Go.Proofs.YtkdibloahkhgoaaW.PrintLast
