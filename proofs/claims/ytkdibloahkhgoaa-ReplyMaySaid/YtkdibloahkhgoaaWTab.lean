import Derived.Test.YtkdibloahkhgoaaWLast
import Derived.Test.YtkdibloahkhgoaaWWords
namespace Go.Proofs.YtkdibloahkhgoaaW.PrintLast
open Go.Proofs.YtkdibloahkhgoaaW.PrintWords (Aside0)
section
variable {md : Region.Mode} {ops : Array Oper} {T : Bool × List (List Nat × List Nat)} {l l' li lj lk : Array Bool} {ds : List Nat} {i j k : Nat}
end
end Go.Proofs.YtkdibloahkhgoaaW.PrintLast
