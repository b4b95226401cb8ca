/- Plain lemmas of this session's own on bits, lists of bytes and the sum of words that the proofs of this seat share. No condition. -/
import Derived.Laws.BitsLemmas
import Derived.RowKit
import Derived.Laws.BytesArg
namespace Go.Proofs.Ytkdibloahkhgoaa.Base
open Go Go.RowKit

theorem w64 {n : Int} (h0 : -9223372036854775808 ≤ n) (h1 : n ≤ 9223372036854775807) : wrap64 n = n := by unfold wrap64; omega

/-- a bind, told so that it is rewritten and not unfolded -/
theorem ob {α β : Type} (a : α) (f : α → Option β) : (some a).bind f = f a := by rw [Option.bind_some]

/-- the sum of the words -/
def sm : List Int → Int
  | [] => 0
  | [a] => a * 256
  | a :: b :: t => a * 256 + b + sm t
/-- a sum of 16 bits -/
def fo (n : Int) : Int := if n = 0 then 0 else (n - 1) % 65535 + 1
/-- the checksum -/
def ck (l : List Int) : Int := 65535 - fo (sm l)
end Go.Proofs.Ytkdibloahkhgoaa.Base
