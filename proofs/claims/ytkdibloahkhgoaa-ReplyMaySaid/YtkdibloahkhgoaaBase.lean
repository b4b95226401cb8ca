/- Plain lemmas of this session's own on bits, lists of bytes and the sum of words that the proofs of this seat share. No condition. -/
import Derived.Laws.BitsLemmas
import Derived.RowKit
import Derived.Laws.BytesArg
namespace Go.Proofs.Ytkdibloahkhgoaa.Base
open Go Go.RowKit

/-- a bind, told so that it is rewritten and not unfolded -/
theorem ob {α β : Type} (a : α) (f : α → Option β) : (some a).bind f = f a := by rw [Option.bind_some]

theorem u32_of {x : Int} (h : (Lit.int .u32 x).wf = true) : 0 ≤ x ∧ x ≤ 4294967295 := by
  simp [Lit.wf, IntKind.min, IntKind.max, IntKind.signed, IntKind.bits] at h
  omega

end Go.Proofs.Ytkdibloahkhgoaa.Base
