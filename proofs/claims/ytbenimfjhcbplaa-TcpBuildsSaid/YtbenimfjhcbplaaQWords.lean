/- Words of this session's own beside the printed words: a row's length spelled otherwise, an element's row whose length is spelled otherwise, a nil row, the question whether a slice is nil. No condition. -/
import Derived.Test.YtbenimfjhcbplaaWMore
import Derived.Test.YtbenimfjhcbplaaWShare
import Derived.Test.YtbenimfjhcbplaaWApart
import Derived.Lib.SliceRun
namespace Go.Proofs.YtbenimfjhcbplaaW.PrintWords
open Go.RowKit

theorem FK_slice_of {α : Type} {d : Kd α} {e : Nat} {W : World} {ok : Nat → Prop} {A : Option Addr} {n c : Nat} {l : List α} (h : n = l.length) (hl : n ≤ c) (hf : Kd.F d W ok A n l) : Kd.FK (Kd.slice e d) W ok l [.slice A n c] := by
  subst h
  exact Kd.FK_slice_mk hl hf

end Go.Proofs.YtbenimfjhcbplaaW.PrintWords
