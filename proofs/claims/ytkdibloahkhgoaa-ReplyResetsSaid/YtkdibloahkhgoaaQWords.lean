/- Words of this session's own beside the printed words: a row's length spelled otherwise, an element's row whose length is spelled otherwise, a nil row, the question whether a slice is nil. No condition. -/
import Derived.Test.YtkdibloahkhgoaaWMore
import Derived.Test.YtkdibloahkhgoaaWShare
import Derived.Test.YtkdibloahkhgoaaWApart
import Derived.Lib.SliceRun
namespace Go.Proofs.YtkdibloahkhgoaaW.PrintWords
open Go.RowKit

theorem RR_len {α : Type} {R : α → List Value → Prop} {size : Nat} {w : World} {A : Option Addr} {n m : Nat} {ps : List α} (h : n = m) (hc : ReadsRow R size w A n ps) : ReadsRow R size w A m ps := h ▸ hc

theorem FK_slice_of {α : Type} {d : Kd α} {e : Nat} {W : World} {ok : Nat → Prop} {A : Option Addr} {n c : Nat} {l : List α} (h : n = l.length) (hl : n ≤ c) (hf : Kd.F d W ok A n l) : Kd.FK (Kd.slice e d) W ok l [.slice A n c] := by
  subst h
  exact Kd.FK_slice_mk hl hf

theorem C_none {α : Type} {d : Kd α} {w : World} {n : Nat} {l : List α} (h : Kd.C d w none n l) : n = 0 ∧ l = [] := by
  have h0 : n = 0 := by
    rcases Nat.eq_zero_or_pos n with h0 | h0
    · exact h0
    · obtain ⟨ad, he, _⟩ := h.2.2 h0
      cases he
  exact ⟨h0, List.eq_nil_of_length_eq_zero (by rw [h.1, h0])⟩

theorem run_isNil {P : Program} {t e : TypeId} (h : P.underlying t = some (.slice e)) (a : Option Addr) (n c : Nat) : ∀ w : World, (binOp .eql t (.slice a n c) (.slice none 0 0)).run P w = .ok (.bool a.isNone) w :=
  fun w => Lib.run_eql_slice_nil w t e a n c 0 0 h

end Go.Proofs.YtkdibloahkhgoaaW.PrintWords
