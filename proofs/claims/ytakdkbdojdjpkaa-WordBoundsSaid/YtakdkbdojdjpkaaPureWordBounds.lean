/- a byte that is not there counts as 0, and integers are reduced modulo the size of their field. No condition besides the law's own guards. -/
import Derived.Test.YtakdkbdojdjpkaaQWordBoundsx2
import Derived.Test.YtakdkbdojdjpkaaBase
namespace Go.Proofs.Ytakdkbdojdjpkaa.Pure
open Go.RowKit Go.Proofs.Ytakdkbdojdjpkaa.QWordBounds Go.Proofs.YtakdkbdojdjpkaaW.PrintWords Go.Proofs.YtakdkbdojdjpkaaW.PrintLast Go.Proofs.Ytakdkbdojdjpkaa.Base
open Go
set_option linter.unusedVariables false
set_option linter.unusedSimpArgs false

theorem at_is (l : List Int) (i m : Int) (hl : l.length ≤ 1099511627776) (h0 : -9223372036854775808 ≤ i) (h1 : i ≤ 2199023255552) (hm0 : 0 ≤ m) (hm : m ≤ 8) : word_at.f l i m = some (atz l (i + m)) := by
  unfold word_at.f
  have e1 : wrap64 (-m) = -m := w64 (by omega) (by omega)
  have e2 : wrap64 ((l.length : Int) - m) = l.length - m := w64 (by omega) (by omega)
  rw [e1, e2]
  by_cases c1 : i < -m
  · rw [if_pos c1, atz_neg l (by omega)]
  · rw [if_neg c1]
    by_cases c2 : i ≥ (l.length : Int) - m
    · rw [if_pos c2, atz_ge l (by omega)]
    · rw [if_neg c2]
      have e3 : wrap64 (i + m) = i + m := w64 (by omega) (by omega)
      rw [e3, if_pos (by omega), if_pos (by omega)]
      unfold rd atz; rw [if_pos (by omega)]

theorem get16_is (l : List Int) (i : Int) (hb : Byt l) (hl : l.length ≤ 1099511627776) (h0 : -9223372036854775808 ≤ i) (h1 : i ≤ 2199023255552) : word_Get16.f l i = some (g16 l i) := by
  unfold word_Get16.f
  rw [at_is l i 0 hl h0 h1 (by omega) (by omega), at_is l i 1 hl h0 h1 (by omega) (by omega)]
  simp only [Option.bind_some, Int.add_zero]
  have b0 := atz_byt hb i
  have b1 := atz_byt hb (i + 1)
  rw [w64 (n := atz l i) (by omega) (by omega), w64 (n := atz l (i + 1)) (by omega) (by omega), w64 (n := atz l i * 256) (by omega) (by omega), or_i64_8 _ _ (by omega) (by omega) (by omega) (by omega)]
  rfl

theorem get32_step (l : List Int) (i : Int) (hb : Byt l) (hl : l.length ≤ 1099511627776) (h0 : -9223372036854775808 ≤ i) (h1 : i ≤ 2199023255552) (k : Nat) (x j : Int) (hx0 : 0 ≤ x) (hx : x < 16777216) (hj0 : 0 ≤ j) (hj : j < 4) :
    word_Get32.l0 (k + 1) l i x j = word_Get32.l0 k l i (x * 256 + atz l (i + j)) (j + 1) := by
  have b0 := atz_byt hb (i + j)
  simp only [word_Get32.l0]
  rw [if_pos hj, at_is l i j hl h0 h1 hj0 (by omega)]
  simp only [Option.bind_some]
  rw [w64 (n := j + 1) (by omega) (by omega), Int.emod_eq_of_lt (a := x * 256) (by omega) (by omega), Int.emod_eq_of_lt (a := atz l (i + j)) (by omega) (by omega), or_u32_8 _ _ hx0 hx (by omega) (by omega)]
theorem get32_is (l : List Int) (i : Int) (hb : Byt l) (hl : l.length ≤ 1099511627776) (h0 : -9223372036854775808 ≤ i) (h1 : i ≤ 2199023255552) (k : Nat) (hk : 5 ≤ k) : word_Get32.f k l i = some (g32 l i) := by
  obtain ⟨k, rfl⟩ : ∃ m, k = m + 5 := ⟨k - 5, by omega⟩
  have b0 := atz_byt hb (i + 0)
  have b1 := atz_byt hb (i + (0 + 1))
  have b2 := atz_byt hb (i + (0 + 1 + 1))
  have b3 := atz_byt hb (i + (0 + 1 + 1 + 1))
  unfold word_Get32.f
  rw [get32_step l i hb hl h0 h1 (k + 4) 0 0 (by omega) (by omega) (by omega) (by omega), get32_step l i hb hl h0 h1 (k + 3) _ _ (by omega) (by omega) (by omega) (by omega),
    get32_step l i hb hl h0 h1 (k + 2) _ _ (by omega) (by omega) (by omega) (by omega), get32_step l i hb hl h0 h1 (k + 1) _ _ (by omega) (by omega) (by omega) (by omega)]
  simp only [word_Get32.l0]
  rw [if_neg (by omega)]
  unfold g32
  rw [show i + (0 + 1) = i + 1 by omega, show i + (0 + 1 + 1) = i + 2 by omega, show i + (0 + 1 + 1 + 1) = i + 3 by omega, Int.add_zero]
  congr 1; omega

theorem wordKnown_is : castellanlaw1_known.f = some true := by
  have hb : Byt [1, 2] := byt_cons (by omega) (byt_cons (by omega) byt_nil)
  unfold castellanlaw1_known.f word_Put16.f
  simp only [Option.bind_some]
  rw [if_pos (by decide +kernel), get16_is [1, 2] 0 hb (by simp) (by omega) (by omega)]
  rfl

theorem WordBounds : castellanlaw1_WordBounds.Pure := by
  intro l n over h0 h1 hb hn ho
  have hb := byt_of hb
  refine ⟨7, ?_⟩
  unfold castellanlaw1_WordBounds.f
  have ht : castellanlaw1_WordBounds.j0 7 l n over true = some true := by simp only [castellanlaw1_WordBounds.j0]; rfl
  by_cases c1 : (l.length : Int) > 500
  · rw [if_pos c1]; exact ht
  rw [if_neg c1]
  by_cases c2 : n < 0
  · rw [if_pos c2]; exact ht
  rw [if_neg c2]
  by_cases c3 : n > 65535
  · rw [if_pos c3]; exact ht
  rw [if_neg c3]
  by_cases c4 : over < 0
  · rw [if_pos c4]; exact ht
  rw [if_neg c4]
  by_cases c5 : over > 1000
  · rw [decide_eq_true c5]; exact ht
  rw [decide_eq_false c5]
  have hp : Byt (p16 n) := byt_p16 n
  have e1 : wrap64 (65536 * over) = 65536 * over := w64 (by omega) (by omega)
  have e2 : wrap64 (n + 65536 * over) = n + 65536 * over := w64 (by omega) (by omega)
  have e3 : word_Put16.f (wrap64 (n + wrap64 (65536 * over))) = some (p16 n) := by
    rw [e1, e2]
    unfold word_Put16.f p16
    rw [show (n + 65536 * over) / 256 % 256 = n / 256 % 256 by omega, show (n + 65536 * over) % 256 = n % 256 by omega]
  have e4 : word_Put16.f n = some (p16 n) := rfl
  have e5 : word_Get16.f (p16 n) 0 = some n := by
    rw [get16_is (p16 n) 0 hp (by simp [p16]) (by omega) (by omega)]
    simp [g16, p16, atz]; omega
  have e6 : word_Get16.f l l.length = some 0 := by
    rw [get16_is l l.length hb (by omega) (by omega) (by omega)]
    unfold g16; rw [atz_ge l (by omega), atz_ge l (by omega)]; rfl
  have e7 : word_Get32.f 6 l (-4) = some 0 := by
    rw [get32_is l (-4) hb (by omega) (by omega) (by omega) 6 (by omega)]
    unfold g32; rw [atz_neg l (by omega), atz_neg l (by omega), atz_neg l (by omega), atz_neg l (by omega)]; rfl
  generalize p16 n = L at e3 e4 e5
  simp only [castellanlaw1_WordBounds.j0]
  rw [if_neg (by decide), e3, Option.bind_some, e6, Option.bind_some, if_pos rfl, e7, Option.bind_some, if_pos rfl, e4, Option.bind_some, if_pos rfl, e5, Option.bind_some, if_pos rfl, wordKnown_is]; rfl

end Go.Proofs.Ytakdkbdojdjpkaa.Pure
