import Derived.Test.YtbpnienknijogaaWInv
import Derived.Test.YtbpnienknijogaaWFootNe
namespace Go.Proofs.YtbpnienknijogaaW.PrintWords
open Go.RowKit
end Go.Proofs.YtbpnienknijogaaW.PrintWords
namespace Go.Proofs.YtbpnienknijogaaW.PrintLast
section
variable {ops : Array Oper} {a : Act} {o og : Oper} {g : Nat} {t : Tmp} {u : Bool}
/-- A guarded operation whose guard has yielded what it wants. -/
theorem wanted_on (hg : o.guard = some (g, u)) (ho : ops[g]? = some og) (hd : og.dst = some t) (hv : a.tmps[t]? = some (.bool u)) : Region.wanted o (yielded ops a.tmps) = true := by
  simp [Region.wanted, hg, yielded, ho, hd, hv]
end
end Go.Proofs.YtbpnienknijogaaW.PrintLast
