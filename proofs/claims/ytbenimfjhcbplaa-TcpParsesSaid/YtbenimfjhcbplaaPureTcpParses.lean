/- Parse agrees with the specification for all bytes. No condition besides the law's own guard. -/
import Derived.Test.YtbenimfjhcbplaaQTcpParsesx4
import Derived.Test.YtbenimfjhcbplaaBase
namespace Go.Proofs.Ytbenimfjhcbplaa.Pure
open Go.RowKit Go.Proofs.Ytbenimfjhcbplaa.QTcpParses Go.Proofs.YtbenimfjhcbplaaW.PrintWords Go.Proofs.YtbenimfjhcbplaaW.PrintLast Go.Proofs.YtbenimfjhcbplaaW.PrintMore Go.Proofs.Ytbenimfjhcbplaa.Base
open Go
set_option linter.unusedVariables false
set_option linter.unusedSimpArgs false

theorem at_is (l : List Int) (i m : Int) (hl : l.length ≤ 1099511627776) (h0 : -9223372036854775808 ≤ i) (h1 : i ≤ 2199023255552) (hm0 : 0 ≤ m) (hm : m ≤ 8) : word_at.f l i m = some (atz l (i + m)) := by
  unfold word_at.f
  have e1 : wrap64 (-m) = -m := w64 (by omega) (by omega)
  have e2 : wrap64 ((l.length : Int) - m) = l.length - m := w64 (by omega) (by omega)
  rw [e1, e2]
  by_cases c1 : i < -m
  · rw [if_pos c1, atz_neg l (by omega)]
  · rw [if_neg c1]
    by_cases c2 : i ≥ (l.length : Int) - m
    · rw [if_pos c2, atz_ge l (by omega)]
    · rw [if_neg c2]
      have e3 : wrap64 (i + m) = i + m := w64 (by omega) (by omega)
      rw [e3, if_pos (by omega), if_pos (by omega)]
      unfold rd atz; rw [if_pos (by omega)]

theorem get16_is (l : List Int) (i : Int) (hb : Byt l) (hl : l.length ≤ 1099511627776) (h0 : -9223372036854775808 ≤ i) (h1 : i ≤ 2199023255552) : word_Get16.f l i = some (g16 l i) := by
  unfold word_Get16.f
  rw [at_is l i 0 hl h0 h1 (by omega) (by omega), at_is l i 1 hl h0 h1 (by omega) (by omega)]
  simp only [Option.bind_some, Int.add_zero]
  have b0 := atz_byt hb i
  have b1 := atz_byt hb (i + 1)
  rw [w64 (n := atz l i) (by omega) (by omega), w64 (n := atz l (i + 1)) (by omega) (by omega), w64 (n := atz l i * 256) (by omega) (by omega), or_i64_8 _ _ (by omega) (by omega) (by omega) (by omega)]
  rfl

theorem get32_step (l : List Int) (i : Int) (hb : Byt l) (hl : l.length ≤ 1099511627776) (h0 : -9223372036854775808 ≤ i) (h1 : i ≤ 2199023255552) (k : Nat) (x j : Int) (hx0 : 0 ≤ x) (hx : x < 16777216) (hj0 : 0 ≤ j) (hj : j < 4) :
    word_Get32.l0 (k + 1) l i x j = word_Get32.l0 k l i (x * 256 + atz l (i + j)) (j + 1) := by
  have b0 := atz_byt hb (i + j)
  simp only [word_Get32.l0]
  rw [if_pos hj, at_is l i j hl h0 h1 hj0 (by omega)]
  simp only [Option.bind_some]
  rw [w64 (n := j + 1) (by omega) (by omega), Int.emod_eq_of_lt (a := x * 256) (by omega) (by omega), Int.emod_eq_of_lt (a := atz l (i + j)) (by omega) (by omega), or_u32_8 _ _ hx0 hx (by omega) (by omega)]
theorem get32_is (l : List Int) (i : Int) (hb : Byt l) (hl : l.length ≤ 1099511627776) (h0 : -9223372036854775808 ≤ i) (h1 : i ≤ 2199023255552) (k : Nat) (hk : 5 ≤ k) : word_Get32.f k l i = some (g32 l i) := by
  obtain ⟨k, rfl⟩ : ∃ m, k = m + 5 := ⟨k - 5, by omega⟩
  have b0 := atz_byt hb (i + 0)
  have b1 := atz_byt hb (i + (0 + 1))
  have b2 := atz_byt hb (i + (0 + 1 + 1))
  have b3 := atz_byt hb (i + (0 + 1 + 1 + 1))
  unfold word_Get32.f
  rw [get32_step l i hb hl h0 h1 (k + 4) 0 0 (by omega) (by omega) (by omega) (by omega), get32_step l i hb hl h0 h1 (k + 3) _ _ (by omega) (by omega) (by omega) (by omega),
    get32_step l i hb hl h0 h1 (k + 2) _ _ (by omega) (by omega) (by omega) (by omega), get32_step l i hb hl h0 h1 (k + 1) _ _ (by omega) (by omega) (by omega) (by omega)]
  simp only [word_Get32.l0]
  rw [if_neg (by omega)]
  unfold g32
  rw [show i + (0 + 1) = i + 1 by omega, show i + (0 + 1 + 1) = i + 2 by omega, show i + (0 + 1 + 1 + 1) = i + 3 by omega, Int.add_zero]
  congr 1; omega

theorem rat_is (l : List Int) (i : Int) (hb : Byt l) : castellanref1_at.f l i = some (atz l i) := by
  unfold castellanref1_at.f
  by_cases c1 : i < 0
  · rw [if_pos c1, atz_neg l c1]
  · rw [if_neg c1]
    by_cases c2 : i ≥ (l.length : Int)
    · rw [if_pos c2, atz_ge l c2]
    · rw [if_neg c2, if_pos (by omega), if_pos (by omega)]
      have b := getD_byt hb i.toNat
      unfold rd atz; rw [if_pos (by omega), Int.emod_eq_of_lt (by omega) (by omega)]

theorem rget16_is (l : List Int) (i : Int) (hb : Byt l) (h0 : -9223372036854775808 ≤ i) (h1 : i ≤ 2199023255552) : castellanref1_Get16.f l i = some (g16 l i) := by
  unfold castellanref1_Get16.f
  rw [w64 (n := i + 1) (by omega) (by omega), rat_is l i hb, rat_is l (i + 1) hb]
  simp only [Option.bind_some]
  have b0 := atz_byt hb i
  have b1 := atz_byt hb (i + 1)
  rw [Int.emod_eq_of_lt (a := atz l i * 256) (by omega) (by omega), or_u32_8 _ _ (by omega) (by omega) (by omega) (by omega), w64 (by omega) (by omega)]
  rfl

theorem rget32_is (l : List Int) (i : Int) (hb : Byt l) (h0 : -9223372036854775808 ≤ i) (h1 : i ≤ 2199023255552) : castellanref1_Get32.f l i = some (g32 l i) := by
  unfold castellanref1_Get32.f
  rw [w64 (n := i + 1) (by omega) (by omega), w64 (n := i + 2) (by omega) (by omega), w64 (n := i + 3) (by omega) (by omega), rat_is l i hb, rat_is l (i + 1) hb, rat_is l (i + 2) hb, rat_is l (i + 3) hb]
  simp only [Option.bind_some]
  have b0 := atz_byt hb i
  have b1 := atz_byt hb (i + 1)
  have b2 := atz_byt hb (i + 2)
  have b3 := atz_byt hb (i + 3)
  rw [Int.emod_eq_of_lt (a := atz l i * 16777216) (by omega) (by omega), Int.emod_eq_of_lt (a := atz l (i + 1) * 65536) (by omega) (by omega), Int.emod_eq_of_lt (a := atz l (i + 2) * 256) (by omega) (by omega),
    or_u32_24 _ _ (by omega) (by omega) (by omega) (by omega), show atz l i * 16777216 + atz l (i + 1) * 65536 = (atz l i * 256 + atz l (i + 1)) * 65536 by omega, or_u32_16 _ _ (by omega) (by omega) (by omega) (by omega),
    show (atz l i * 256 + atz l (i + 1)) * 65536 + atz l (i + 2) * 256 = ((atz l i * 256 + atz l (i + 1)) * 256 + atz l (i + 2)) * 256 by omega, or_u32_8 _ _ (by omega) (by omega) (by omega) (by omega)]
  unfold g32; congr 1; omega

theorem clone_is (l : List Int) (hl : l.length < 140737488355328) : bytes_Clone.f l = some l := by
  unfold bytes_Clone.f
  rw [ob, if_pos (by rw [List.length_nil]; omega), List.nil_append]

/-- what a reset counts -/
def tk (f n : Int) : Int := if Go.bits .and .i64 f 1 = 0 then (if Go.bits .and .i64 f 2 = 0 then n else (n + 1) % 4294967296) else ((if Go.bits .and .i64 f 2 = 0 then n else (n + 1) % 4294967296) + 1) % 4294967296
theorem treset_no (a b s k f w u : Int) (o d : List Int) (K : Nat) (h : Go.bits .and .i64 f 4 ≠ 0) : tcp_Reset.f K a b s k f w u o d = some (0, 0, 0, 0, 0, 0, 0, ([] : List Int), ([] : List Int), false) := by
  unfold tcp_Reset.f; rw [if_neg h]
theorem treset_ack (a b s k f w u : Int) (o d : List Int) (K : Nat) (h : Go.bits .and .i64 f 4 = 0) (h2 : Go.bits .and .i64 f 16 ≠ 0) : tcp_Reset.f K a b s k f w u o d = some (b, a, k, 0, 4, 0, 0, ([] : List Int), ([] : List Int), true) := by
  unfold tcp_Reset.f; rw [if_pos h, if_neg h2]
theorem treset_cnt (a b s k f w u : Int) (o d : List Int) (K : Nat) (hK : 3 ≤ K) (h : Go.bits .and .i64 f 4 = 0) (h2 : Go.bits .and .i64 f 16 = 0) :
    tcp_Reset.f K a b s k f w u o d = some (b, a, 0, tk f ((s + (d.length : Int)) % 4294967296), 20, 0, 0, ([] : List Int), ([] : List Int), true) := by
  obtain ⟨j, rfl⟩ : ∃ j, K = j + 3 := ⟨K - 3, by omega⟩
  unfold tcp_Reset.f
  rw [if_pos h, if_pos h2, ob]
  generalize (s + (d.length : Int)) % 4294967296 = n
  have e0 : wrap64 (0 + 1) = 1 := by unfold wrap64; omega
  have e1 : wrap64 (1 + 1) = 2 := by unfold wrap64; omega
  have r0 : rd ([2, 1] : List Int) 0 = 2 := rfl
  have r1 : rd ([2, 1] : List Int) 1 = 1 := rfl
  have l2 : ((([2, 1] : List Int).length : Nat) : Int) = 2 := rfl
  unfold tk
  simp only [tcp_Reset.l0, e0, e1, r0, r1, l2]
  by_cases c2 : Go.bits .and .i64 f 2 = 0 <;> by_cases c1 : Go.bits .and .i64 f 1 = 0 <;> simp [c1, c2]
theorem tknown (K : Nat) (hK : 3 ≤ K) : castellanlaw5_known.f K = some true := by
  unfold castellanlaw5_known.f
  rw [treset_cnt 1 2 5 0 2 0 0 [] [] K hK rfl rfl, ob]
  rfl

theorem rd_byt {l : List Int} (hb : Byt l) (i : Int) : 0 ≤ rd l i ∧ rd l i < 256 := by unfold rd; exact getD_byt hb _
/-- what a segment is read as -/
def tp (l : List Int) : Int × Int × Int × Int × Int × Int × Int × List Int × List Int × Int :=
  if (l.length : Int) < 20 then (0, 0, 0, 0, 0, 0, 0, ([] : List Int), ([] : List Int), 3) else if rd l 12 / 16 * 4 < 20 then (0, 0, 0, 0, 0, 0, 0, ([] : List Int), ([] : List Int), 2) else if rd l 12 / 16 * 4 > (l.length : Int) then (0, 0, 0, 0, 0, 0, 0, ([] : List Int), ([] : List Int), 3)
  else (g16 l 0, g16 l 2, g32 l 4, g32 l 8, rd l 13 % 64, g16 l 14, g16 l 18, (l.take (rd l 12 / 16 * 4).toNat).drop 20, l.drop (rd l 12 / 16 * 4).toNat, 0)
theorem tcpparse_is (l : List Int) (hb : Byt l) (hl : l.length ≤ 1048576) (K : Nat) (hK : 5 ≤ K) : tcp_Parse.f K l = some (tp l) := by
  have h12 := rd_byt hb 12
  have h13 := rd_byt hb 13
  unfold tcp_Parse.f tp
  by_cases c : (l.length : Int) < 20
  · rw [if_pos c, if_pos c]
  rw [if_neg c, if_neg c, if_pos (by omega), w64 (n := rd l 12 / 16) (by omega) (by omega), w64 (n := rd l 12 / 16 * 4) (by omega) (by omega)]
  by_cases c2 : rd l 12 / 16 * 4 < 20
  · rw [if_neg (by omega), if_pos c2, if_pos c2]
  by_cases c3 : rd l 12 / 16 * 4 > (l.length : Int)
  · rw [if_pos (by omega), if_neg c2, if_pos c3]
  rw [if_neg (by omega), if_neg c2, if_neg c2, if_neg c3, get16_is _ 0 hb (by omega) (by omega) (by omega), ob, get16_is _ 2 hb (by omega) (by omega) (by omega), ob, get32_is _ 4 hb (by omega) (by omega) (by omega) K hK, ob, get32_is _ 8 hb (by omega) (by omega) (by omega) K hK, ob, if_pos (by omega), get16_is _ 14 hb (by omega) (by omega) (by omega), ob, get16_is _ 18 hb (by omega) (by omega) (by omega), ob, if_pos (by omega), if_pos (by omega), clone_is _ (by rw [List.length_drop, List.length_take]; omega), ob, if_pos (by omega), clone_is _ (by rw [List.length_drop]; omega), ob, and_u8_63 _ h13.1 h13.2, w64 (n := rd l 13 % 64) (by omega) (by omega)]
theorem rtcpparse_is (l : List Int) (hb : Byt l) (hl : l.length ≤ 1048576) : castellanref5_Parse.f l = some (tp l) := by
  have h12 := rd_byt hb 12
  have h13 := rd_byt hb 13
  unfold castellanref5_Parse.f tp
  by_cases c : (l.length : Int) < 20
  · rw [if_pos c, if_pos c]
  rw [if_neg c, if_neg c, if_pos (by omega), w64 (n := rd l 12 / 16) (by omega) (by omega), w64 (n := 4 * (rd l 12 / 16)) (by omega) (by omega), Int.mul_comm 4]
  by_cases c2 : rd l 12 / 16 * 4 < 20
  · rw [if_pos c2, if_pos c2]
  by_cases c3 : rd l 12 / 16 * 4 > (l.length : Int)
  · rw [if_neg c2, if_neg c2, if_pos c3, if_pos c3]
  rw [if_neg c2, if_neg c2, if_neg c3, if_neg c3, rget16_is _ 0 hb (by omega) (by omega), ob, rget16_is _ 2 hb (by omega) (by omega), ob, rget32_is _ 4 hb (by omega) (by omega), ob, rget32_is _ 8 hb (by omega) (by omega), ob, if_pos (by omega), rget16_is _ 14 hb (by omega) (by omega), ob, rget16_is _ 18 hb (by omega) (by omega), ob, ob, if_pos (by omega), if_pos (by omega), if_pos (by rw [List.length_drop, List.length_take]; simp; omega), ob, if_pos (by omega), if_pos (by rw [List.length_drop]; simp; omega), List.nil_append, List.nil_append, and_u8_63 _ h13.1 h13.2, w64 (n := rd l 13 % 64) (by omega) (by omega)]

theorem TcpParses : castellanlaw5_TcpParses.Pure := by
  intro l h1 h2 hl
  have hl := byt_of hl
  have hkn := tknown 5 (by omega)
  refine ⟨5, ?_⟩
  unfold castellanlaw5_TcpParses.f
  by_cases c : (l.length : Int) > 2000
  · rw [if_pos c]
  have hs (a b c d e f g : Int) (x y : List Int) : castellanref5_Same.f a b c d e f g x y a b c d e f g x y = some true := by
    unfold castellanref5_Same.f
    rw [if_pos rfl, if_pos rfl, if_pos rfl, if_pos rfl, if_pos rfl, if_pos rfl, if_pos rfl, if_pos rfl, beq_self_eq_true]
  rw [if_neg c, tcpparse_is l hl (by omega) 5 (by omega), ob, rtcpparse_is l hl (by omega), ob, hs, ob, if_pos rfl, if_pos rfl, hkn]
  rfl

end Go.Proofs.Ytbenimfjhcbplaa.Pure
