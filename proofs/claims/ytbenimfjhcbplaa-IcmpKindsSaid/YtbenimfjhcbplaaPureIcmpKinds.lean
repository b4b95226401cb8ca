/- no type of an ICMP message is both an error's and a query's, and no negative number is either. No condition. -/
import Derived.Test.YtbenimfjhcbplaaQIcmpKindsx1
import Derived.Test.YtbenimfjhcbplaaBase
namespace Go.Proofs.Ytbenimfjhcbplaa.Pure
open Go.RowKit Go.Proofs.Ytbenimfjhcbplaa.QIcmpKinds Go.Proofs.YtbenimfjhcbplaaW.PrintWords Go.Proofs.YtbenimfjhcbplaaW.PrintLast Go.Proofs.Ytbenimfjhcbplaa.Base
open Go
set_option linter.unusedVariables false
set_option linter.unusedSimpArgs false

theorem IcmpKinds : castellanlaw7_IcmpKinds.Pure := by
  intro a ha
  have hk : castellanlaw7_known.f = some true := by decide
  have hbad : icmp_Bad.f a = some (a == 3 || a == 4 || a == 5 || a == 11 || a == 12) := by
    unfold icmp_Bad.f
    repeat' split
    all_goals simp [*]
  have hq : icmp_Query.f a = some (a == 0 || a == 8 || a == 13 || a == 14) := by
    unfold icmp_Query.f
    repeat' split
    all_goals simp [*]
  unfold castellanlaw7_IcmpKinds.f
  rw [hbad, hq, hk]
  simp only [Option.bind_some]
  by_cases c1 : (a == 3 || a == 4 || a == 5 || a == 11 || a == 12) = true
  · have c2 : (a == 0 || a == 8 || a == 13 || a == 14) = false := by
      simp only [Bool.or_eq_true, beq_iff_eq] at c1
      simp only [Bool.or_eq_false_iff, beq_eq_false_iff_ne]
      omega
    have c3 : a ≥ 0 := by simp only [Bool.or_eq_true, beq_iff_eq] at c1; omega
    rw [c2, if_pos c1, if_neg (by decide), if_pos c3]
  · rw [if_neg c1]
    by_cases c3 : a ≥ 0
    · rw [if_pos c3]
    · have c2 : (a == 0 || a == 8 || a == 13 || a == 14) = false := by
        simp only [Bool.or_eq_false_iff, beq_eq_false_iff_ne]
        omega
      rw [if_neg c3, if_neg c1, c2, if_neg (by decide)]

end Go.Proofs.Ytbenimfjhcbplaa.Pure
