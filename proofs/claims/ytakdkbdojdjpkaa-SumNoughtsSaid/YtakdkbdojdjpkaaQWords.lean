/- Words of this session's own beside the printed words: a row's length spelled otherwise, and an element's row whose length is spelled otherwise. No condition. -/
import Derived.Test.YtakdkbdojdjpkaaWMore
import Derived.Test.YtakdkbdojdjpkaaWShare
import Derived.Test.YtakdkbdojdjpkaaWApart
namespace Go.Proofs.YtakdkbdojdjpkaaW.PrintWords
open Go.RowKit

theorem RR_len {α : Type} {R : α → List Value → Prop} {size : Nat} {w : World} {A : Option Addr} {n m : Nat} {ps : List α} (h : n = m) (hc : ReadsRow R size w A n ps) : ReadsRow R size w A m ps := h ▸ hc

theorem FK_slice_of {α : Type} {d : Kd α} {e : Nat} {W : World} {ok : Nat → Prop} {A : Option Addr} {n c : Nat} {l : List α} (h : n = l.length) (hl : n ≤ c) (hf : Kd.F d W ok A n l) : Kd.FK (Kd.slice e d) W ok l [.slice A n c] := by
  subst h
  exact Kd.FK_slice_mk hl hf

end Go.Proofs.YtakdkbdojdjpkaaW.PrintWords
