/- a quote is a prefix of the packet of at most sixty-eight bytes. No condition besides the law's own guard. -/
import Derived.Test.YtbenimfjhcbplaaQIcmpQuotesx2
import Derived.Test.YtbenimfjhcbplaaBase
namespace Go.Proofs.Ytbenimfjhcbplaa.Pure
open Go.RowKit Go.Proofs.Ytbenimfjhcbplaa.QIcmpQuotes Go.Proofs.YtbenimfjhcbplaaW.PrintWords Go.Proofs.YtbenimfjhcbplaaW.PrintLast Go.Proofs.YtbenimfjhcbplaaW.PrintMore Go.Proofs.Ytbenimfjhcbplaa.Base
open Go
set_option linter.unusedVariables false
set_option linter.unusedSimpArgs false

/-- the length of a header, by its first byte -/
def hd (l : List Int) : Int := if l.length = 0 then 0 else atz l 0 % 16 * 4
theorem hd_range (l : List Int) : 0 ≤ hd l ∧ hd l ≤ 60 := by unfold hd; split <;> omega
theorem header_is (l : List Int) (hb : Byt l) : ip_Header.f l = some (hd l) := by
  unfold ip_Header.f hd
  by_cases c : l.length = 0
  · rw [if_pos (by omega), if_pos c]
  · have b := atz_byt hb 0
    have e : rd l 0 = atz l 0 := by unfold rd atz; rw [if_pos (by omega)]
    rw [if_neg (by omega), if_pos (by omega), if_neg c, e, and_u8_15 _ b.1 b.2, w64 (n := atz l 0 % 16) (by omega) (by omega), w64 (by omega) (by omega)]

theorem clone_is (l : List Int) (hl : l.length < 140737488355328) : bytes_Clone.f l = some l := by
  unfold bytes_Clone.f
  rw [ob, if_pos (by rw [List.length_nil]; omega), List.nil_append]

theorem mn_is (a b : Int) : mn a b = min a b := by
  unfold mn
  split <;> omega
theorem quote_is (l : List Int) (hb : Byt l) (hl : l.length ≤ 1048576) : icmp_Quote.f l = some (l.take (hd l + 8).toNat) := by
  have hr := hd_range l
  unfold icmp_Quote.f
  rw [header_is l hb, ob, w64 (n := hd l + 8) (by omega) (by omega), mn_is, if_pos (by omega), if_pos (by omega), clone_is _ (by rw [List.length_take]; omega), ob]
  congr 1
  rcases Int.le_total (l.length : Int) (hd l + 8) with h | h
  · rw [Int.min_eq_left h, List.take_of_length_le (by omega), List.take_of_length_le (by omega)]
  · rw [Int.min_eq_right h]

theorem IcmpQuotes : castellanlaw7_IcmpQuotes.Pure := by
  intro l h0 h1 hb
  have hb := byt_of hb
  have hk : castellanlaw7_known.f = some true := by decide
  have hr := hd_range l
  unfold castellanlaw7_IcmpQuotes.f
  by_cases c : (l.length : Int) > 1500
  · rw [if_pos c]
  · rw [if_neg c, quote_is l hb (by omega), ob]
    have hq : (l.take (hd l + 8).toNat).length = min (hd l + 8).toNat l.length := List.length_take
    have ht : l.take ((((l.take (hd l + 8).toNat).length : Nat) : Int)).toNat = l.take (hd l + 8).toNat := by
      rw [show ((((l.take (hd l + 8).toNat).length : Nat) : Int)).toNat = (l.take (hd l + 8).toNat).length by omega, hq]
      rcases Nat.le_total (hd l + 8).toNat l.length with h | h
      · rw [Nat.min_eq_left h]
      · rw [Nat.min_eq_right h, List.take_of_length_le (Nat.le_refl _), List.take_of_length_le h]
    have hm : mn ((l.take (hd l + 8).toNat).length : Int) (l.length : Int) = ((l.take (hd l + 8).toNat).length : Int) := by rw [mn_is]; omega
    rw [if_pos (by omega), if_pos (by omega), hm, if_pos (by omega), if_pos (by omega), ht, if_pos rfl, hk]
    by_cases c2 : (l.length : Int) < 68
    · rw [if_pos c2]; rfl
    · rw [if_neg c2, if_pos (by omega)]; rfl

end Go.Proofs.Ytbenimfjhcbplaa.Pure
