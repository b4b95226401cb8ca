/- copy of a word of two bytes into a row of one's own, and a region that draws its order of which but one operation may come up at a time: it is walked in that order. No condition. -/
import Derived.Test.YtkdibloahkhgoaaQWords
import Derived.Test.YtkdibloahkhgoaaWLast
import Derived.Test.YtkdibloahkhgoaaWTab
import Derived.Laws.CopyOwn
namespace Go.Proofs.YtkdibloahkhgoaaW.PrintWords
open Go.RowKit Go.Proofs.YtkdibloahkhgoaaW.PrintLast

section
variable {P : Program} {ops : Array Oper} {Q : Exit → Act → World → Prop} {md : Region.Mode}
end
section
variable {P : Program} {ops : Array Oper} {Q : Exit → Act → World → Prop} {rest : List Oper} {o : Oper} {a : Act}
end
end Go.Proofs.YtkdibloahkhgoaaW.PrintWords
