/- fewer than eight bytes are rejected as an ICMP message. No condition besides the law's own guard. -/
import Derived.Test.YtbenimfjhcbplaaQIcmpShortx2
import Derived.Test.YtbenimfjhcbplaaBase
namespace Go.Proofs.Ytbenimfjhcbplaa.Pure
open Go.RowKit Go.Proofs.Ytbenimfjhcbplaa.QIcmpShort Go.Proofs.YtbenimfjhcbplaaW.PrintWords Go.Proofs.YtbenimfjhcbplaaW.PrintLast Go.Proofs.YtbenimfjhcbplaaW.PrintMore Go.Proofs.Ytbenimfjhcbplaa.Base
open Go
set_option linter.unusedVariables false
set_option linter.unusedSimpArgs false

theorem IcmpShort : castellanlaw7_IcmpShort.Pure := by
  intro l h0 h1 hb
  have hk : castellanlaw7_known.f = some true := by decide
  refine ⟨0, ?_⟩
  unfold castellanlaw7_IcmpShort.f icmp_Parse.f
  by_cases c : (l.length : Int) > 7
  · rw [if_pos c]
  · rw [if_neg c, if_pos (by omega), ob, if_pos rfl, if_pos rfl, if_pos (by rfl), hk]; rfl

end Go.Proofs.Ytbenimfjhcbplaa.Pure
