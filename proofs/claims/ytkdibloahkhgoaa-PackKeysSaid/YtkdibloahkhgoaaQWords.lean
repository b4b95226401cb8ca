/- Words of this session's own beside the printed words: a row's length spelled otherwise, an element's row whose length is spelled otherwise, a nil row, the question whether a slice is nil. No condition. -/
import Derived.Test.YtkdibloahkhgoaaWMore
import Derived.Test.YtkdibloahkhgoaaWShare
import Derived.Test.YtkdibloahkhgoaaWApart
import Derived.Lib.SliceRun
namespace Go.Proofs.YtkdibloahkhgoaaW.PrintWords
open Go.RowKit

end Go.Proofs.YtkdibloahkhgoaaW.PrintWords
