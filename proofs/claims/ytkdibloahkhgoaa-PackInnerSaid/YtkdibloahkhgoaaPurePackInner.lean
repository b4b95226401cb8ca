/- the Inner of an error about a packet is the key of this packet, whatever its checksum and length are. No condition besides the law's own guards. -/
import Derived.Test.YtkdibloahkhgoaaQPackInnerx99
import Derived.Test.YtkdibloahkhgoaaBase
namespace Go.Proofs.Ytkdibloahkhgoaa.Pure
open Go.RowKit Go.Proofs.Ytkdibloahkhgoaa.QPackInner Go.Proofs.YtkdibloahkhgoaaW.PrintWords Go.Proofs.YtkdibloahkhgoaaW.PrintLast Go.Proofs.YtkdibloahkhgoaaW.PrintMore Go.Proofs.Ytkdibloahkhgoaa.Base
open Go
set_option linter.unusedVariables false
set_option linter.unusedSimpArgs false

theorem at_is (l : List Int) (i m : Int) (hl : l.length ≤ 1099511627776) (h0 : -9223372036854775808 ≤ i) (h1 : i ≤ 2199023255552) (hm0 : 0 ≤ m) (hm : m ≤ 8) : word_at.f l i m = some (atz l (i + m)) := by
  unfold word_at.f
  have e1 : wrap64 (-m) = -m := w64 (by omega) (by omega)
  have e2 : wrap64 ((l.length : Int) - m) = l.length - m := w64 (by omega) (by omega)
  rw [e1, e2]
  by_cases c1 : i < -m
  · rw [if_pos c1, atz_neg l (by omega)]
  · rw [if_neg c1]
    by_cases c2 : i ≥ (l.length : Int) - m
    · rw [if_pos c2, atz_ge l (by omega)]
    · rw [if_neg c2]
      have e3 : wrap64 (i + m) = i + m := w64 (by omega) (by omega)
      rw [e3, if_pos (by omega), if_pos (by omega)]
      unfold rd atz; rw [if_pos (by omega)]

theorem get16_is (l : List Int) (i : Int) (hb : Byt l) (hl : l.length ≤ 1099511627776) (h0 : -9223372036854775808 ≤ i) (h1 : i ≤ 2199023255552) : word_Get16.f l i = some (g16 l i) := by
  unfold word_Get16.f
  rw [at_is l i 0 hl h0 h1 (by omega) (by omega), at_is l i 1 hl h0 h1 (by omega) (by omega)]
  simp only [Option.bind_some, Int.add_zero]
  have b0 := atz_byt hb i
  have b1 := atz_byt hb (i + 1)
  rw [w64 (n := atz l i) (by omega) (by omega), w64 (n := atz l (i + 1)) (by omega) (by omega), w64 (n := atz l i * 256) (by omega) (by omega), or_i64_8 _ _ (by omega) (by omega) (by omega) (by omega)]
  rfl

theorem get32_step (l : List Int) (i : Int) (hb : Byt l) (hl : l.length ≤ 1099511627776) (h0 : -9223372036854775808 ≤ i) (h1 : i ≤ 2199023255552) (k : Nat) (x j : Int) (hx0 : 0 ≤ x) (hx : x < 16777216) (hj0 : 0 ≤ j) (hj : j < 4) :
    word_Get32.l0 (k + 1) l i x j = word_Get32.l0 k l i (x * 256 + atz l (i + j)) (j + 1) := by
  have b0 := atz_byt hb (i + j)
  simp only [word_Get32.l0]
  rw [if_pos hj, at_is l i j hl h0 h1 hj0 (by omega)]
  simp only [Option.bind_some]
  rw [w64 (n := j + 1) (by omega) (by omega), Int.emod_eq_of_lt (a := x * 256) (by omega) (by omega), Int.emod_eq_of_lt (a := atz l (i + j)) (by omega) (by omega), or_u32_8 _ _ hx0 hx (by omega) (by omega)]
theorem get32_is (l : List Int) (i : Int) (hb : Byt l) (hl : l.length ≤ 1099511627776) (h0 : -9223372036854775808 ≤ i) (h1 : i ≤ 2199023255552) (k : Nat) (hk : 5 ≤ k) : word_Get32.f k l i = some (g32 l i) := by
  obtain ⟨k, rfl⟩ : ∃ m, k = m + 5 := ⟨k - 5, by omega⟩
  have b0 := atz_byt hb (i + 0)
  have b1 := atz_byt hb (i + (0 + 1))
  have b2 := atz_byt hb (i + (0 + 1 + 1))
  have b3 := atz_byt hb (i + (0 + 1 + 1 + 1))
  unfold word_Get32.f
  rw [get32_step l i hb hl h0 h1 (k + 4) 0 0 (by omega) (by omega) (by omega) (by omega), get32_step l i hb hl h0 h1 (k + 3) _ _ (by omega) (by omega) (by omega) (by omega),
    get32_step l i hb hl h0 h1 (k + 2) _ _ (by omega) (by omega) (by omega) (by omega), get32_step l i hb hl h0 h1 (k + 1) _ _ (by omega) (by omega) (by omega) (by omega)]
  simp only [word_Get32.l0]
  rw [if_neg (by omega)]
  unfold g32
  rw [show i + (0 + 1) = i + 1 by omega, show i + (0 + 1 + 1) = i + 2 by omega, show i + (0 + 1 + 1 + 1) = i + 3 by omega, Int.add_zero]
  congr 1; omega

theorem rput16_is (n : Int) : castellanref1_Put16.f n = some (p16 n) := rfl

theorem folded_is : ∀ (d k : Nat) (n : Int), 0 ≤ n → n ≤ 65535 * (d + 1) → n < 4611686018427387904 → d < k → sum_folded.l0 k n = some (fo n)
  | d, 0, _, _, _, _, hk => absurd hk (by omega)
  | d, k + 1, n, h0, h1, h2, hk => by
    simp only [sum_folded.l0]
    by_cases c : n > 65535
    · rw [if_pos c, and_u64_65535, wrap_u64, Int.emod_eq_of_lt (by omega) (by omega)]
      cases d with
      | zero => omega
      | succ d => rw [folded_is d k _ (by omega) (by omega) (by omega) (by omega), fo_step (by omega)]
    · rw [if_neg c, fo_small h0 (by omega)]
theorem foldedf_is (d k : Nat) (n : Int) (h0 : 0 ≤ n) (h1 : n ≤ 65535 * (d + 1)) (h2 : n < 4611686018427387904) (hk : d < k) : sum_folded.f k n = some (fo n) := folded_is d k n h0 h1 h2 hk

theorem of_l1 (rows : List (List Int)) (n x11 : Int) (row : List Int) (hb : Byt row) (hl : row.length ≤ 1099511627776) : ∀ (d k i : Nat) (acc : Int) (low : Bool), i + d = row.length → 0 ≤ acc → acc + 65280 * d < 4611686018427387904 →
    sum_Of.l1 (k + d + 1) acc low rows n x11 row (row.length : Int) (i : Int) = sum_Of.l0 k (acc + sp low (row.drop i)) (low ^^ odd d) rows n (wrap64 (x11 + 1))
  | 0, k, i, acc, low, hi, h0, h1 => by
    simp only [sum_Of.l1]
    rw [if_neg (by omega), List.drop_eq_nil_of_le (by omega)]
    simp [sp, odd]
  | d + 1, k, i, acc, low, hi, h0, h1 => by
    have hlt : i < row.length := by omega
    have b := getD_byt hb i
    have e : k + (d + 1) + 1 = (k + d + 1) + 1 := by omega
    rw [e, sum_Of.l1]
    rw [if_pos (by omega), if_pos (by omega), if_pos (by omega)]
    have er : rd row (i : Int) = row.getD i 0 := by unfold rd; simp
    have ew : wrap64 ((i : Int) + 1) = ((i + 1 : Nat) : Int) := by rw [w64 (by omega) (by omega)]; omega
    rw [er, ew, drop_cons_getD hlt]
    cases low with
    | true =>
      rw [if_pos rfl, wrap_u64, wrap_u64, Int.emod_eq_of_lt (a := row.getD i 0) (by omega) (by omega), Int.emod_eq_of_lt (a := acc + row.getD i 0) (by omega) (by omega), of_l1 rows n x11 row hb hl d k (i + 1) _ _ (by omega) (by omega) (by omega)]
      rw [odd_succ, sp, Int.add_assoc]; simp
    | false =>
      rw [if_neg (by decide), wrap_u64, wrap_u64, wrap_u64, Int.emod_eq_of_lt (a := row.getD i 0) (by omega) (by omega), Int.emod_eq_of_lt (a := row.getD i 0 * 256) (by omega) (by omega), Int.emod_eq_of_lt (a := acc + row.getD i 0 * 256) (by omega) (by omega), of_l1 rows n x11 row hb hl d k (i + 1) _ _ (by omega) (by omega) (by omega)]
      rw [odd_succ, sp, Int.add_assoc]; simp
theorem of_l0 (rows : List (List Int)) (hb : BytL rows) (hl : rows.flatten.length ≤ 1048576) (hn : rows.length ≤ 1048576) : ∀ (m k j : Nat) (acc : Int) (low : Bool), j + m = rows.length → 0 ≤ acc → acc + 65280 * (rows.drop j).flatten.length ≤ 68451041280 →
    2 * m + (rows.drop j).flatten.length + 1048576 < k → sum_Of.l0 k acc low rows (rows.length : Int) (j : Int) = some (65535 - fo (acc + sp low (rows.drop j).flatten))
  | 0, 0, _, _, _, _, _, _, hk => absurd hk (by omega)
  | 0, k + 1, j, acc, low, hj, h0, h1, hk => by
    simp only [sum_Of.l0]
    rw [if_neg (by omega), List.drop_eq_nil_of_le (by omega)]
    have ha : acc ≤ 68451041280 := by have : (0 : Int) ≤ (rows.drop j).flatten.length := by omega
                                      omega
    rw [foldedf_is 1048575 k acc h0 (by omega) (by omega) (by omega)]
    have := fo_range acc
    simp only [Option.bind_some, List.flatten_nil, sp, Int.add_zero]
    rw [wrap_u64, Int.emod_eq_of_lt (by omega) (by omega), w64 (by omega) (by omega)]
  | m + 1, k, j, acc, low, hj, h0, h1, hk => by
    have hlt : j < rows.length := by omega
    have ed : rows.drop j = rows.getD j [] :: rows.drop (j + 1) := drop_cons_getD_L hlt
    have hbr : Byt (rows.getD j []) := hb _ (by rw [List.getD_eq_getElem?_getD, List.getElem?_eq_getElem hlt]; exact List.getElem_mem hlt)
    have hlr : (rows.getD j []).length + (rows.drop (j + 1)).flatten.length = (rows.drop j).flatten.length := by rw [ed]; simp
    have hll : (rows.drop j).flatten.length ≤ rows.flatten.length := by
      have := congrArg (fun z => z.flatten.length) (List.take_append_drop j rows)
      simp only [List.flatten_append, List.length_append] at this
      omega
    obtain ⟨k', rfl⟩ : ∃ z, k = (z + (rows.getD j []).length + 1) + 1 := ⟨k - (rows.getD j []).length - 2, by omega⟩
    simp only [sum_Of.l0]
    have er : rd_L1 rows (j : Int) = rows.getD j [] := by unfold rd_L1; simp
    have ew : wrap64 ((j : Int) + 1) = ((j + 1 : Nat) : Int) := by rw [w64 (by omega) (by omega)]; omega
    have hs0 := sp_nonneg low hbr
    have hs1 := sp_le low hbr
    rw [if_pos (by omega), if_pos (by omega), if_pos (by omega), er]
    have h2 := of_l1 rows (rows.length : Int) (j : Int) (rows.getD j []) hbr (by omega) (rows.getD j []).length k' 0 acc low (by omega) h0 (by omega)
    rw [List.drop_zero] at h2
    refine h2.trans ?_
    rw [ew, of_l0 rows hb hl hn m k' (j + 1) _ _ (by omega) (by omega) (by omega) (by omega)]
    rw [ed, List.flatten_cons, sp_append, Int.add_assoc]
/-- more than enough rounds -/
def KO : Nat := 5000000
theorem of_is (rows : List (List Int)) (hb : BytL rows) (hl : rows.flatten.length ≤ 1048576) (hn : rows.length ≤ 1048576) (k : Nat) (hk : KO ≤ k) : sum_Of.f k rows = some (ck rows.flatten) := by
  unfold KO at hk
  unfold sum_Of.f
  have h := of_l0 rows hb hl hn rows.length k 0 0 false (by omega) (by omega) (by rw [List.drop_zero]; omega) (by rw [List.drop_zero]; omega)
  rw [List.drop_zero, Int.zero_add, sp_false] at h
  exact h
theorem of1_is (l : List Int) (hb : Byt l) (hl : l.length ≤ 1048576) (k : Nat) (hk : KO ≤ k) : sum_Of.f k [l] = some (ck l) := by
  rw [of_is [l] (fun x hx => by simp at hx; subst hx; exact hb) (by simpa using hl) (by simp) k hk]; simp
theorem of2_is (a b : List Int) (ha : Byt a) (hb : Byt b) (hl : a.length + b.length ≤ 1048576) (k : Nat) (hk : KO ≤ k) : sum_Of.f k [a, b] = some (ck (a ++ b)) := by
  rw [of_is [a, b] (fun x hx => by simp at hx; rcases hx with rfl | rfl <;> assumption) (by simpa using hl) (by simp) k hk]; simp

theorem right_is (l : List Int) (hb : Byt l) (hl : l.length ≤ 1048576) (k : Nat) (hk : KO ≤ k) : sum_Right.f k l = some (ck l == 0) := by
  unfold sum_Right.f
  rw [of1_is l hb hl k hk]; rfl

theorem rat_is (l : List Int) (i : Int) (hb : Byt l) : castellanref1_at.f l i = some (atz l i) := by
  unfold castellanref1_at.f
  by_cases c1 : i < 0
  · rw [if_pos c1, atz_neg l c1]
  · rw [if_neg c1]
    by_cases c2 : i ≥ (l.length : Int)
    · rw [if_pos c2, atz_ge l c2]
    · rw [if_neg c2, if_pos (by omega), if_pos (by omega)]
      have b := getD_byt hb i.toNat
      unfold rd atz; rw [if_pos (by omega), Int.emod_eq_of_lt (by omega) (by omega)]

theorem rget16_is (l : List Int) (i : Int) (hb : Byt l) (h0 : -9223372036854775808 ≤ i) (h1 : i ≤ 2199023255552) : castellanref1_Get16.f l i = some (g16 l i) := by
  unfold castellanref1_Get16.f
  rw [w64 (n := i + 1) (by omega) (by omega), rat_is l i hb, rat_is l (i + 1) hb]
  simp only [Option.bind_some]
  have b0 := atz_byt hb i
  have b1 := atz_byt hb (i + 1)
  rw [Int.emod_eq_of_lt (a := atz l i * 256) (by omega) (by omega), or_u32_8 _ _ (by omega) (by omega) (by omega) (by omega), w64 (by omega) (by omega)]
  rfl

theorem rget32_is (l : List Int) (i : Int) (hb : Byt l) (h0 : -9223372036854775808 ≤ i) (h1 : i ≤ 2199023255552) : castellanref1_Get32.f l i = some (g32 l i) := by
  unfold castellanref1_Get32.f
  rw [w64 (n := i + 1) (by omega) (by omega), w64 (n := i + 2) (by omega) (by omega), w64 (n := i + 3) (by omega) (by omega), rat_is l i hb, rat_is l (i + 1) hb, rat_is l (i + 2) hb, rat_is l (i + 3) hb]
  simp only [Option.bind_some]
  have b0 := atz_byt hb i
  have b1 := atz_byt hb (i + 1)
  have b2 := atz_byt hb (i + 2)
  have b3 := atz_byt hb (i + 3)
  rw [Int.emod_eq_of_lt (a := atz l i * 16777216) (by omega) (by omega), Int.emod_eq_of_lt (a := atz l (i + 1) * 65536) (by omega) (by omega), Int.emod_eq_of_lt (a := atz l (i + 2) * 256) (by omega) (by omega),
    or_u32_24 _ _ (by omega) (by omega) (by omega) (by omega), show atz l i * 16777216 + atz l (i + 1) * 65536 = (atz l i * 256 + atz l (i + 1)) * 65536 by omega, or_u32_16 _ _ (by omega) (by omega) (by omega) (by omega),
    show (atz l i * 256 + atz l (i + 1)) * 65536 + atz l (i + 2) * 256 = ((atz l i * 256 + atz l (i + 1)) * 256 + atz l (i + 2)) * 256 by omega, or_u32_8 _ _ (by omega) (by omega) (by omega) (by omega)]
  unfold g32; congr 1; omega

theorem rfold_is : ∀ (d k : Nat) (n : Int), 0 ≤ n → n ≤ 65535 * (d + 1) → n < 4611686018427387904 → d < k → castellanref2_fold.l0 k n = some (fo n)
  | d, 0, _, _, _, _, hk => absurd hk (by omega)
  | d, k + 1, n, h0, h1, h2, hk => by
    simp only [castellanref2_fold.l0]
    by_cases c : n > 65535
    · rw [if_pos c, and_i64_65535, w64 (by omega) (by omega)]
      cases d with
      | zero => omega
      | succ d => rw [rfold_is d k _ (by omega) (by omega) (by omega) (by omega), Int.add_comm, fo_step (by omega)]
    · rw [if_neg c, fo_small h0 (by omega)]
theorem rfoldf_is (d k : Nat) (n : Int) (h0 : 0 ≤ n) (h1 : n ≤ 65535 * (d + 1)) (h2 : n < 4611686018427387904) (hk : d < k) : castellanref2_fold.f k n = some (fo n) := rfold_is d k n h0 h1 h2 hk

theorem sm_drop (l : List Int) (i : Nat) (h : i < l.length) : sm (l.drop i) = g16 l i + sm (l.drop (i + 2)) := by
  rw [drop_cons_getD h]
  unfold g16 atz
  rw [if_pos (by omega), if_pos (by omega), show ((i : Int)).toNat = i by omega, show ((i : Int) + 1).toNat = i + 1 by omega]
  rcases Nat.lt_or_ge (i + 1) l.length with h1 | h1
  · rw [drop_cons_getD h1]; simp only [sm]
  · rw [List.drop_eq_nil_of_le h1, List.drop_eq_nil_of_le (show l.length ≤ i + 2 by omega)]
    simp [sm, List.getD_eq_getElem?_getD, List.getElem?_eq_none h1]
theorem rof_l0 (l : List Int) (hb : Byt l) (hl : l.length ≤ 1048576) : ∀ (d k i : Nat) (n : Int), l.length ≤ i + d → 0 ≤ n → n ≤ 65535 → i ≤ l.length + 1 → d + 10 < k → castellanref2_Of.l0 k l n (i : Int) = some (65535 - fo (n + sm (l.drop i)))
  | d, 0, _, _, _, _, _, _, hk => absurd hk (by omega)
  | d, k + 1, i, n, hi, h0, h1, h2, hk => by
    simp only [castellanref2_Of.l0]
    by_cases c : (i : Int) < l.length
    · have hg := g16_lt hb (i : Int)
      rw [if_pos c, rget16_is l i hb (by omega) (by omega)]
      simp only [Option.bind_some]
      rw [w64 (n := n + g16 l i) (by omega) (by omega), rfoldf_is 3 k _ (by omega) (by omega) (by omega) (by omega)]
      simp only [Option.bind_some]
      have hr := fo_range (n + g16 l i)
      have ew : wrap64 ((i : Int) + 2) = ((i + 2 : Nat) : Int) := by rw [w64 (by omega) (by omega)]; omega
      cases d with
      | zero => omega
      | succ d =>
        have hs := sm_nonneg (byt_drop hb (i + 2))
        rw [ew, rof_l0 l hb hl d k (i + 2) _ (by omega) (by omega) (by omega) (by omega) (by omega), fo_add (by omega) hs, sm_drop l i (by omega), Int.add_assoc]
    · rw [if_neg c, List.drop_eq_nil_of_le (by omega)]
      simp only [sm, Int.add_zero]
      rw [fo_small h0 h1, w64 (by omega) (by omega)]
theorem rof_is (l : List Int) (hb : Byt l) (hl : l.length ≤ 1048576) (k : Nat) (hk : KO ≤ k) : castellanref2_Of.f k l = some (ck l) := by
  unfold KO at hk
  unfold castellanref2_Of.f
  have h := rof_l0 l hb hl l.length k 0 0 (by omega) (by omega) (by omega) (by omega) (by omega)
  rw [List.drop_zero, Int.zero_add] at h
  exact h

theorem rright_is (l : List Int) (hb : Byt l) (hl : l.length ≤ 1048576) (k : Nat) (hk : KO ≤ k) : castellanref2_Right.f k l = some (ck l == 0) := by
  unfold castellanref2_Right.f
  rw [rof_is l hb hl k hk]; rfl

theorem clone_is (l : List Int) (hl : l.length < 140737488355328) : bytes_Clone.f l = some l := by
  unfold bytes_Clone.f
  rw [ob, if_pos (by rw [List.length_nil]; omega), List.nil_append]

/-- the length of a header, by its first byte -/
def hd (l : List Int) : Int := if l.length = 0 then 0 else atz l 0 % 16 * 4
theorem hd_range (l : List Int) : 0 ≤ hd l ∧ hd l ≤ 60 := by unfold hd; split <;> omega
theorem header_is (l : List Int) (hb : Byt l) : ip_Header.f l = some (hd l) := by
  unfold ip_Header.f hd
  by_cases c : l.length = 0
  · rw [if_pos (by omega), if_pos c]
  · have b := atz_byt hb 0
    have e : rd l 0 = atz l 0 := by unfold rd atz; rw [if_pos (by omega)]
    rw [if_neg (by omega), if_pos (by omega), if_neg c, e, and_u8_15 _ b.1 b.2, w64 (n := atz l 0 % 16) (by omega) (by omega), w64 (by omega) (by omega)]

theorem nat_or_bit (i x : Nat) (h : x / 2 ^ i % 2 = 0) : x ||| 2 ^ i = x + 2 ^ i := by
  have hr : x % 2 ^ i < 2 ^ i := Nat.mod_lt _ (Nat.two_pow_pos i)
  have hp : 2 ^ i < 2 ^ (i + 1) := Nat.pow_lt_pow_right (by decide) (by omega)
  have e1 : x = 2 ^ (i + 1) * (x / 2 ^ (i + 1)) + x % 2 ^ i := by
    have a := Nat.div_add_mod x (2 ^ (i + 1))
    have b : x % 2 ^ (i + 1) = x % 2 ^ i := by rw [Nat.pow_succ, Nat.mod_mul, h]; omega
    rw [b] at a
    exact a.symm
  have e2 : x % 2 ^ i ||| 2 ^ i = 2 ^ i * 1 + x % 2 ^ i := by rw [Nat.two_pow_add_eq_or_of_lt hr 1, Nat.or_comm, Nat.mul_one]
  generalize x / 2 ^ (i + 1) = q at e1
  generalize x % 2 ^ i = r at *
  rw [e1, Nat.two_pow_add_eq_or_of_lt (by omega) q, Nat.or_assoc, e2, ← Nat.two_pow_add_eq_or_of_lt (by rw [Nat.pow_succ]; omega) q, ← Nat.two_pow_add_eq_or_of_lt (by omega) q]
  omega
theorem or_nat (a b : Nat) (ha : a < 2 ^ 62) (hb : b < 2 ^ 62) : Go.bits .or .i64 (a : Int) (b : Int) = ((a ||| b : Nat) : Int) := by
  have hx : a ||| b < 2 ^ 62 := Nat.or_lt_two_pow ha hb
  show IntKind.i64.wrap (((BitVec.ofInt 64 (a : Int)) ||| (BitVec.ofInt 64 (b : Int))).toNat : Int) = _
  rw [BitVec.ofInt_natCast, BitVec.ofInt_natCast, BitVec.toNat_or, BitVec.toNat_ofNat, BitVec.toNat_ofNat, Nat.mod_eq_of_lt (by omega), Nat.mod_eq_of_lt (by omega), wraps_i64 _ (by omega) (by omega)]
theorem and_nat (a b : Nat) (ha : a < 2 ^ 62) (hb : b < 2 ^ 62) : Go.bits .and .i64 (a : Int) (b : Int) = ((a &&& b : Nat) : Int) := by
  have hx : a &&& b < 2 ^ 62 := Nat.and_lt_two_pow a hb
  show IntKind.i64.wrap (((BitVec.ofInt 64 (a : Int)) &&& (BitVec.ofInt 64 (b : Int))).toNat : Int) = _
  rw [BitVec.ofInt_natCast, BitVec.ofInt_natCast, BitVec.toNat_and, BitVec.toNat_ofNat, BitVec.toNat_ofNat, Nat.mod_eq_of_lt (by omega), Nat.mod_eq_of_lt (by omega), wraps_i64 _ (by omega) (by omega)]
theorem or_bit (i : Nat) (hi : i ≤ 60) (x : Int) (h0 : 0 ≤ x) (h1 : x < 4611686018427387904) (h : x / 2 ^ i % 2 = 0) : Go.bits .or .i64 x (2 ^ i) = x + 2 ^ i := by
  obtain ⟨n, rfl⟩ := Int.eq_ofNat_of_zero_le h0
  have hp : (2 : Nat) ^ i ≤ 2 ^ 60 := Nat.pow_le_pow_right (by decide) hi
  have e : ((2 : Int) ^ i) = ((2 ^ i : Nat) : Int) := by push_cast; rfl
  rw [e] at h ⊢
  rw [or_nat n (2 ^ i) (by omega) (by omega), nat_or_bit i n (by exact_mod_cast h)]
  push_cast; rfl
theorem nat_and_bit (i n : Nat) : n &&& 2 ^ i = n / 2 ^ i % 2 * 2 ^ i := by
  apply Nat.eq_of_testBit_eq
  intro j
  rw [Nat.testBit_and, Nat.testBit_two_pow]
  rcases Nat.mod_two_eq_zero_or_one (n / 2 ^ i) with c | c
  · rw [c, Nat.zero_mul, Nat.zero_testBit]
    by_cases h : i = j
    · subst h; rw [Nat.testBit_eq_decide_div_mod_eq, c]; rfl
    · rw [decide_eq_false h, Bool.and_false]
  · rw [c, Nat.one_mul, Nat.testBit_two_pow]
    by_cases h : i = j
    · subst h; rw [Nat.testBit_eq_decide_div_mod_eq, c]; simp
    · rw [decide_eq_false h, Bool.and_false]
theorem and_bit (i : Nat) (hi : i ≤ 60) (x : Int) (h0 : 0 ≤ x) (h1 : x < 4611686018427387904) : Go.bits .and .i64 x (2 ^ i) = x / 2 ^ i % 2 * 2 ^ i := by
  obtain ⟨n, rfl⟩ := Int.eq_ofNat_of_zero_le h0
  have hp : (2 : Nat) ^ i ≤ 2 ^ 60 := Nat.pow_le_pow_right (by decide) hi
  have e : ((2 : Int) ^ i) = ((2 ^ i : Nat) : Int) := by push_cast; rfl
  rw [e, and_nat n (2 ^ i) (by omega) (by omega), nat_and_bit]
  push_cast; rfl
theorem or_8192 (x : Int) (h0 : 0 ≤ x) (h1 : x < 65536) (h : x / 8192 % 2 = 0) : Go.bits .or .i64 x 8192 = x + 8192 := by simpa using or_bit 13 (by decide) x h0 (by omega) (by simpa using h)
theorem or_16384 (x : Int) (h0 : 0 ≤ x) (h1 : x < 65536) (h : x / 16384 % 2 = 0) : Go.bits .or .i64 x 16384 = x + 16384 := by simpa using or_bit 14 (by decide) x h0 (by omega) (by simpa using h)
theorem and_8192 (x : Int) (h0 : 0 ≤ x) (h1 : x < 65536) : Go.bits .and .i64 x 8192 = x / 8192 % 2 * 8192 := by simpa using and_bit 13 (by decide) x h0 (by omega)
theorem and_16384 (x : Int) (h0 : 0 ≤ x) (h1 : x < 65536) : Go.bits .and .i64 x 16384 = x / 16384 % 2 * 16384 := by simpa using and_bit 14 (by decide) x h0 (by omega)
theorem and_32768 (x : Int) (h0 : 0 ≤ x) (h1 : x < 65536) : Go.bits .and .i64 x 32768 = x / 32768 % 2 * 32768 := by simpa using and_bit 15 (by decide) x h0 (by omega)

/-- an IP header as it is built, ahead of its checksum -/
def ih (tos id fl ttl pr s t : Int) (o : List Int) (n : Int) : List Int := [64 + (20 + (o.length : Int)) / 4, tos] ++ (p16 (20 + (o.length : Int) + n) ++ (p16 id ++ (p16 fl ++ ([ttl, pr, 0, 0] ++ (p32 s ++ (p32 t ++ o))))))
def ihs (tos id fl ttl pr s t : Int) (o : List Int) (n : Int) : List Int := ((ih tos id fl ttl pr s t o n).set 10 (ck (ih tos id fl ttl pr s t o n) / 256 % 256)).set 11 (ck (ih tos id fl ttl pr s t o n) % 256)
/-- the flags and the offset -/
def flg (df mf : Bool) (off : Int) : Int := off + (if df then 16384 else 0) + (if mf then 8192 else 0)
theorem ih_len (tos id fl ttl pr s t : Int) (o : List Int) (n : Int) : (ih tos id fl ttl pr s t o n).length = 20 + o.length := by simp [ih, p16, p32]; omega
theorem ihs_len (tos id fl ttl pr s t : Int) (o : List Int) (n : Int) : (ihs tos id fl ttl pr s t o n).length = 20 + o.length := by unfold ihs; rw [List.length_set, List.length_set, ih_len]
theorem ih_byt {tos ttl pr : Int} (id fl s t : Int) {o : List Int} (n : Int) (h1 : 0 ≤ tos ∧ tos ≤ 255) (h2 : 0 ≤ ttl ∧ ttl ≤ 255) (h3 : 0 ≤ pr ∧ pr ≤ 255) (ho : Byt o) (hl : o.length ≤ 40) : Byt (ih tos id fl ttl pr s t o n) :=
  byt_append (byt_cons (by omega) (byt_cons (by omega) byt_nil)) (byt_append (byt_p16 _) (byt_append (byt_p16 id) (byt_append (byt_p16 fl) (byt_append (byt_cons (by omega) (byt_cons (by omega) (byt_cons (by omega) (byt_cons (by omega) byt_nil)))) (byt_append (byt_p32 s) (byt_append (byt_p32 t) ho))))))
theorem ihs_byt {tos ttl pr : Int} (id fl s t : Int) {o : List Int} (n : Int) (h1 : 0 ≤ tos ∧ tos ≤ 255) (h2 : 0 ≤ ttl ∧ ttl ≤ 255) (h3 : 0 ≤ pr ∧ pr ≤ 255) (ho : Byt o) (hl : o.length ≤ 40) : Byt (ihs tos id fl ttl pr s t o n) :=
  byt_set (byt_set (ih_byt id fl s t n h1 h2 h3 ho hl) _ (by omega)) _ (by omega)
theorem ihs_fo {tos ttl pr : Int} (id fl s t : Int) {o : List Int} (n : Int) (h1 : 0 ≤ tos ∧ tos ≤ 255) (h2 : 0 ≤ ttl ∧ ttl ≤ 255) (h3 : 0 ≤ pr ∧ pr ≤ 255) (ho : Byt o) (hl : o.length ≤ 40) : fo (sm (ihs tos id fl ttl pr s t o n)) = 65535 := by
  have h := sm_set2 (ih tos id fl ttl pr s t o n) 5 (ck (ih tos id fl ttl pr s t o n) / 256 % 256) (ck (ih tos id fl ttl pr s t o n) % 256) (by rw [ih_len]; omega)
  have e2 : (ih tos id fl ttl pr s t o n).getD (2 * 5) 0 = 0 := rfl
  have e3 : (ih tos id fl ttl pr s t o n).getD (2 * 5 + 1) 0 = 0 := rfl
  rw [e2, e3] at h
  have hr := ck_range (ih tos id fl ttl pr s t o n)
  have e : sm (ihs tos id fl ttl pr s t o n) = sm (ih tos id fl ttl pr s t o n) + ck (ih tos id fl ttl pr s t o n) := by refine Eq.trans h ?_; omega
  rw [e]
  exact fo_comp (sm_nonneg (ih_byt id fl s t n h1 h2 h3 ho hl))
theorem or_64 (x : Int) (h0 : 0 ≤ x) (h : x < 16) : Go.bits .or .i64 64 x = 64 + x := or_i64 4 (by decide) 64 x (by omega) (by decide) (by omega) h0 (by omega)
/-- what fits -/
def IpFit (tos id off ttl pr : Int) (o : List Int) : Prop := (0 ≤ tos ∧ tos ≤ 255) ∧ (0 ≤ ttl ∧ ttl ≤ 255) ∧ (0 ≤ pr ∧ pr ≤ 255) ∧ (0 ≤ id ∧ id ≤ 65535) ∧ (0 ≤ off ∧ off ≤ 8191) ∧ (o.length : Int) % 4 = 0 ∧ o.length ≤ 40

theorem atz_rd {l : List Int} {i : Int} (h : 0 ≤ i) : rd l i = atz l i := by unfold rd atz; rw [if_pos h]
/-- what a packet is looked at as -/
def lk (l : List Int) : Int := if (l.length : Int) < 20 then 3 else if atz l 0 / 16 ≠ 4 ∨ hd l < 20 then 2 else if (l.length : Int) < hd l then 3 else if ck (l.take (hd l).toNat) ≠ 0 then 4 else if g16 l 2 < hd l ∨ g16 l 6 / 32768 % 2 = 1 then 2 else if g16 l 2 > (l.length : Int) then 3 else 0
theorem looked_is (l : List Int) (hb : Byt l) (hl : l.length ≤ 1048576) (K : Nat) (hK : KO ≤ K) : ip_looked.f (K + 2) l = some (lk l) := by
  have hr := hd_range l
  have b0 := atz_byt hb 0
  have g2 := g16_lt hb 2
  have g6 := g16_lt hb 6
  unfold ip_looked.f lk
  rw [header_is l hb, ob]
  by_cases c1 : (l.length : Int) < 20
  · rw [if_pos c1, if_pos c1]
  rw [if_neg c1, if_neg c1, if_pos (by omega), atz_rd (by omega)]
  have tr (x : Int) : ip_looked.j0 (K + 2) l x true = some 2 := by simp only [ip_looked.j0]; rfl
  by_cases c2 : atz l 0 / 16 = 4
  · rw [if_pos c2]
    by_cases c3 : hd l < 20
    · rw [decide_eq_true c3, if_pos (.inr c3)]; exact tr _
    rw [decide_eq_false c3, if_neg (by omega)]
    simp only [ip_looked.j0]
    rw [if_neg (by decide)]
    by_cases c4 : (l.length : Int) < hd l
    · rw [if_pos c4, if_pos c4]
    rw [if_neg c4, if_neg c4, if_pos (by omega), if_pos (by omega), right_is _ (byt_take hb _) (by rw [List.length_take]; omega) (K + 1) (by omega), ob]
    by_cases c5 : ck (l.take (hd l).toNat) = 0
    · rw [if_neg (show ¬ ck (l.take (hd l).toNat) ≠ 0 from fun h => h c5), if_pos (by rw [c5]; rfl), get16_is l 2 hb (by omega) (by omega) (by omega), ob]
      have tr1 : ip_looked.j1 (K + 1) l true = some 2 := by simp only [ip_looked.j1]; rfl
      by_cases c6 : g16 l 2 < hd l
      · rw [if_pos c6, if_pos (.inl c6)]; exact tr1
      rw [if_neg c6, get16_is l 6 hb (by omega) (by omega) (by omega), ob, and_32768 _ g6.1 (by omega)]
      by_cases c7 : g16 l 6 / 32768 % 2 = 1
      · rw [if_pos (.inr c7), c7]; exact tr1
      rw [if_neg (by omega), show g16 l 6 / 32768 % 2 = 0 by omega]
      simp only [ip_looked.j1]
      rw [if_neg (by decide), get16_is l 2 hb (by omega) (by omega) (by omega), ob]
      by_cases c8 : g16 l 2 > (l.length : Int)
      · rw [if_pos c8, if_pos c8]
      · rw [if_neg c8, if_neg c8]
    · rw [if_pos c5, if_neg (by simpa using c5)]
  · rw [if_neg c2, if_pos (.inl c2)]; exact tr _
/-- what a packet is read as -/
def ipp (l : List Int) : Int × Int × Bool × Bool × Int × Int × Int × Int × Int × List Int × List Int × Int :=
  if lk l = 0 then (atz l 1, g16 l 4, g16 l 6 / 16384 % 2 == 1, g16 l 6 / 8192 % 2 == 1, g16 l 6 % 8192, atz l 8, atz l 9, g32 l 12, g32 l 16, (l.take (hd l).toNat).drop 20, (l.take (g16 l 2).toNat).drop (hd l).toNat, 0)
  else (0, 0, false, false, 0, 0, 0, 0, 0, ([] : List Int), ([] : List Int), lk l)
theorem lk_zero {l : List Int} (h : lk l = 0) : 20 ≤ (l.length : Int) ∧ 20 ≤ hd l ∧ hd l ≤ l.length ∧ hd l ≤ g16 l 2 ∧ g16 l 2 ≤ l.length := by
  unfold lk at h
  split at h
  · omega
  split at h
  · omega
  split at h
  · omega
  split at h
  · omega
  split at h
  · omega
  split at h
  · omega
  · omega
theorem bit_ne {x : Int} (h : x = 0 ∨ x = 1) (m : Int) (hm : m ≠ 0) : (x * m != 0) = (x == 1) := by
  rcases h with h | h <;> subst h
  · simp
  · simp [hm]
theorem ipparse_is (l : List Int) (hb : Byt l) (hl : l.length ≤ 1048576) (K : Nat) (hK : KO ≤ K) : ip_Parse.f (K + 2) l = some (ipp l) := by
  have hKO : 5 ≤ KO := by unfold KO; omega
  have g6 := g16_lt hb 6
  have g2 := g16_lt hb 2
  have hr := hd_range l
  have b1 := atz_byt hb 1
  have b8 := atz_byt hb 8
  have b9 := atz_byt hb 9
  unfold ip_Parse.f ipp
  rw [looked_is l hb hl K hK, ob]
  by_cases c : lk l = 0
  · obtain ⟨z1, z2, z3, z4, z5⟩ := lk_zero c
    rw [if_pos c, if_pos c, header_is l hb, ob, get16_is l 6 hb (by omega) (by omega) (by omega), ob, if_pos (by omega), get16_is l 4 hb (by omega) (by omega) (by omega), ob, if_pos (by omega), if_pos (by omega), get32_is l 12 hb (by omega) (by omega) (by omega) (K + 2) (by omega), ob, get32_is l 16 hb (by omega) (by omega) (by omega) (K + 2) (by omega), ob, if_pos (by omega), if_pos (by omega), clone_is _ (by rw [List.length_drop, List.length_take]; omega), ob, get16_is l 2 hb (by omega) (by omega) (by omega), ob, if_pos (by omega), if_pos (by omega), if_pos (by omega), clone_is _ (by rw [List.length_drop, List.length_take]; omega), ob, atz_rd (by omega), atz_rd (by omega), atz_rd (by omega), w64 (n := atz l 1) (by omega) (by omega), w64 (n := atz l 8) (by omega) (by omega), w64 (n := atz l 9) (by omega) (by omega), and_16384 _ g6.1 (by omega), and_8192 _ g6.1 (by omega), and_i64_8191, bit_ne (by omega) 16384 (by decide), bit_ne (by omega) 8192 (by decide)]
  · rw [if_neg c, if_neg c]

/-- what is read behind a packet that was built, whatever follows it -/
theorem ihs_parts {tos id fl ttl pr : Int} (s t : Int) {o : List Int} (n : Int) (m : List Int) (hl : o.length ≤ 40) (h4 : (o.length : Int) % 4 = 0) (hn : 0 ≤ n ∧ 20 + o.length + n ≤ 65535) :
    hd (ihs tos id fl ttl pr s t o n ++ m) = 20 + o.length ∧ atz (ihs tos id fl ttl pr s t o n ++ m) 0 / 16 = 4 ∧ g16 (ihs tos id fl ttl pr s t o n ++ m) 2 = 20 + o.length + n := by
  have hL := ihs_len tos id fl ttl pr s t o n
  have g (i : Int) (h : i < 20) : atz (ihs tos id fl ttl pr s t o n ++ m) i = atz (ihs tos id fl ttl pr s t o n) i := atz_append_left _ m (by omega)
  have e0 : atz (ihs tos id fl ttl pr s t o n) 0 = 64 + (20 + (o.length : Int)) / 4 := rfl
  have e2 : atz (ihs tos id fl ttl pr s t o n) 2 = (20 + (o.length : Int) + n) / 256 % 256 := rfl
  have e3 : atz (ihs tos id fl ttl pr s t o n) 3 = (20 + (o.length : Int) + n) % 256 := rfl
  refine ⟨?_, ?_, ?_⟩
  · unfold hd; rw [if_neg (by rw [List.length_append]; omega), g 0 (by omega), e0]; omega
  · rw [g 0 (by omega), e0]; omega
  · unfold g16; rw [show (2 : Int) + 1 = 3 from rfl, g 2 (by omega), g 3 (by omega), e2, e3]; omega
theorem flg_parts (df mf : Bool) {off : Int} (h : 0 ≤ off ∧ off ≤ 8191) : 0 ≤ flg df mf off ∧ flg df mf off < 32768 ∧ (flg df mf off / 16384 % 2 == 1) = df ∧ (flg df mf off / 8192 % 2 == 1) = mf ∧ flg df mf off % 8192 = off := by
  unfold flg
  cases df <;> cases mf <;> simp <;> omega
theorem ip_back (tos id off ttl pr s t : Int) (df mf : Bool) (o d m : List Int) (hf : IpFit tos id off ttl pr o) (hs : 0 ≤ s ∧ s ≤ 4294967295) (ht : 0 ≤ t ∧ t ≤ 4294967295) (ho : Byt o) (hd : 20 + o.length + d.length ≤ 65535) :
    ipp (ihs tos id (flg df mf off) ttl pr s t o d.length ++ d ++ m) = (tos, id, df, mf, off, ttl, pr, s, t, o, d, 0) := by
  obtain ⟨h1, h2, h3, h4, h5, h6, h7⟩ := hf
  obtain ⟨f0, f1, f2, f3, f4⟩ := flg_parts df mf h5
  generalize hFL : flg df mf off = fl at f0 f1 f2 f3 f4
  obtain ⟨p1, p2, p3⟩ := ihs_parts (tos := tos) (id := id) (fl := fl) (ttl := ttl) (pr := pr) s t (o := o) (d.length : Int) (d ++ m) h7 h6 (by omega)
  have hfo := ihs_fo id fl s t (o := o) (d.length : Int) h1 h2 h3 ho h7
  have hL := ihs_len tos id fl ttl pr s t o d.length
  have g (i : Int) (h : i < 20) : atz (ihs tos id fl ttl pr s t o d.length ++ (d ++ m)) i = atz (ihs tos id fl ttl pr s t o d.length) i := atz_append_left _ (d ++ m) (by omega)
  have gg (i : Int) (h : i < 19) : g16 (ihs tos id fl ttl pr s t o d.length ++ (d ++ m)) i = g16 (ihs tos id fl ttl pr s t o d.length) i := by unfold g16; rw [g i (by omega), g (i + 1) (by omega)]
  have gl (i : Int) (h : i < 17) : g32 (ihs tos id fl ttl pr s t o d.length ++ (d ++ m)) i = g32 (ihs tos id fl ttl pr s t o d.length) i := by unfold g32; rw [g i (by omega), g (i + 1) (by omega), g (i + 2) (by omega), g (i + 3) (by omega)]
  have q4 : g16 (ihs tos id fl ttl pr s t o d.length) 4 = id := by
    have a : atz (ihs tos id fl ttl pr s t o d.length) 4 = id / 256 % 256 := rfl
    have b : atz (ihs tos id fl ttl pr s t o d.length) 5 = id % 256 := rfl
    unfold g16; rw [show (4 : Int) + 1 = 5 from rfl, a, b]; omega
  have q6 : g16 (ihs tos id fl ttl pr s t o d.length) 6 = fl := by
    have a : atz (ihs tos id fl ttl pr s t o d.length) 6 = fl / 256 % 256 := rfl
    have b : atz (ihs tos id fl ttl pr s t o d.length) 7 = fl % 256 := rfl
    unfold g16; rw [show (6 : Int) + 1 = 7 from rfl, a, b]; omega
  have qs : g32 (ihs tos id fl ttl pr s t o d.length) 12 = s := by
    have a : atz (ihs tos id fl ttl pr s t o d.length) 12 = s / 16777216 % 256 := rfl
    have b : atz (ihs tos id fl ttl pr s t o d.length) 13 = s / 65536 % 256 := rfl
    have c : atz (ihs tos id fl ttl pr s t o d.length) 14 = s / 256 % 256 := rfl
    have e : atz (ihs tos id fl ttl pr s t o d.length) 15 = s % 256 := rfl
    unfold g32; rw [show (12 : Int) + 1 = 13 from rfl, show (12 : Int) + 2 = 14 from rfl, show (12 : Int) + 3 = 15 from rfl, a, b, c, e]; omega
  have qt : g32 (ihs tos id fl ttl pr s t o d.length) 16 = t := by
    have a : atz (ihs tos id fl ttl pr s t o d.length) 16 = t / 16777216 % 256 := rfl
    have b : atz (ihs tos id fl ttl pr s t o d.length) 17 = t / 65536 % 256 := rfl
    have c : atz (ihs tos id fl ttl pr s t o d.length) 18 = t / 256 % 256 := rfl
    have e : atz (ihs tos id fl ttl pr s t o d.length) 19 = t % 256 := rfl
    unfold g32; rw [show (16 : Int) + 1 = 17 from rfl, show (16 : Int) + 2 = 18 from rfl, show (16 : Int) + 3 = 19 from rfl, a, b, c, e]; omega
  have d20 : (ihs tos id fl ttl pr s t o d.length).drop 20 = o := rfl
  have tk : (ihs tos id fl ttl pr s t o d.length ++ (d ++ m)).take (20 + (o.length : Int)).toNat = ihs tos id fl ttl pr s t o d.length := by
    rw [show (20 + (o.length : Int)).toNat = (ihs tos id fl ttl pr s t o d.length).length by omega, List.take_left]
  have td : ((ihs tos id fl ttl pr s t o d.length ++ (d ++ m)).take (20 + (o.length : Int) + (d.length : Int)).toNat).drop (20 + (o.length : Int)).toNat = d := by
    rw [← List.append_assoc, show (20 + (o.length : Int) + (d.length : Int)).toNat = (ihs tos id fl ttl pr s t o d.length ++ d).length by rw [List.length_append]; omega, List.take_left, show (20 + (o.length : Int)).toNat = (ihs tos id fl ttl pr s t o d.length).length by omega, List.drop_left]
  have hX : ((ihs tos id fl ttl pr s t o d.length ++ (d ++ m)).length : Int) = 20 + o.length + d.length + m.length := by rw [List.length_append, List.length_append]; omega
  have hck : ck (ihs tos id fl ttl pr s t o d.length) = 0 := by unfold ck; rw [hfo]; rfl
  have hlk : lk (ihs tos id fl ttl pr s t o d.length ++ (d ++ m)) = 0 := by
    unfold lk
    rw [p1, p2, p3, tk, gg 6 (by omega), q6, if_neg (by omega), if_neg (by omega), if_neg (by omega), if_neg (by omega), if_neg (by omega), if_neg (by omega)]
  rw [List.append_assoc]
  unfold ipp
  rw [if_pos hlk, p1, p3, tk, td, gg 6 (by omega), gg 4 (by omega), q6, q4, gl 12 (by omega), gl 16 (by omega), qs, qt, d20, g 1 (by omega), g 8 (by omega), g 9 (by omega), f2, f3, f4]
  rfl

theorem ref4_is (tos id off ttl pr s t : Int) (df mf : Bool) (o d : List Int) : ∃ q, castellanref4_Is.f tos id df mf off ttl pr s t o d = some q ∧ (q = true → IpFit tos id off ttl pr o) ∧ (q = false → ¬ IpFit tos id off ttl pr o) := by
  unfold castellanref4_Is.f IpFit
  rcases Decidable.em (tos ≥ 0) with c0 | c0
  rotate_left
  · rw [if_neg c0]; exact ⟨false, rfl, (fun h => Bool.noConfusion h), (fun _ h => by omega)⟩
  rw [if_pos c0]
  rcases Decidable.em (tos ≤ 255) with c1 | c1
  rotate_left
  · rw [if_neg c1]; exact ⟨false, rfl, (fun h => Bool.noConfusion h), (fun _ h => by omega)⟩
  rw [if_pos c1]
  rcases Decidable.em (ttl ≥ 0) with c2 | c2
  rotate_left
  · rw [if_neg c2]; exact ⟨false, rfl, (fun h => Bool.noConfusion h), (fun _ h => by omega)⟩
  rw [if_pos c2]
  rcases Decidable.em (ttl ≤ 255) with c3 | c3
  rotate_left
  · rw [if_neg c3]; exact ⟨false, rfl, (fun h => Bool.noConfusion h), (fun _ h => by omega)⟩
  rw [if_pos c3]
  rcases Decidable.em (pr ≥ 0) with c4 | c4
  rotate_left
  · rw [if_neg c4]; exact ⟨false, rfl, (fun h => Bool.noConfusion h), (fun _ h => by omega)⟩
  rw [if_pos c4]
  rcases Decidable.em (pr ≤ 255) with c5 | c5
  rotate_left
  · rw [if_neg c5]; exact ⟨false, rfl, (fun h => Bool.noConfusion h), (fun _ h => by omega)⟩
  rw [if_pos c5]
  rcases Decidable.em (id ≥ 0) with c6 | c6
  rotate_left
  · rw [if_neg c6]; exact ⟨false, rfl, (fun h => Bool.noConfusion h), (fun _ h => by omega)⟩
  rw [if_pos c6]
  rcases Decidable.em (id ≤ 65535) with c7 | c7
  rotate_left
  · rw [if_neg c7]; exact ⟨false, rfl, (fun h => Bool.noConfusion h), (fun _ h => by omega)⟩
  rw [if_pos c7]
  rcases Decidable.em (off ≥ 0) with c8 | c8
  rotate_left
  · rw [if_neg c8]; exact ⟨false, rfl, (fun h => Bool.noConfusion h), (fun _ h => by omega)⟩
  rw [if_pos c8]
  rcases Decidable.em (off ≤ 8191) with c9 | c9
  rotate_left
  · rw [if_neg c9]; exact ⟨false, rfl, (fun h => Bool.noConfusion h), (fun _ h => by omega)⟩
  rw [if_pos c9]
  rcases Decidable.em ((o.length : Int) % 4 = 0) with c10 | c10
  rotate_left
  · rw [if_neg c10]; exact ⟨false, rfl, (fun h => Bool.noConfusion h), (fun _ h => by omega)⟩
  rw [if_pos c10]
  refine ⟨_, rfl, fun h => ?_, fun h => ?_⟩
  · rw [decide_eq_true_iff] at h; omega
  · rw [decide_eq_false_iff_not] at h; omega

theorem rbuildj1_is (tos id fl off ttl pr s t : Int) (df mf : Bool) (o d : List Int) (h1 : 0 ≤ tos ∧ tos ≤ 255) (h2 : 0 ≤ ttl ∧ ttl ≤ 255) (h3 : 0 ≤ pr ∧ pr ≤ 255) (ho : Byt o) (hl : o.length ≤ 40) (hl2 : d.length ≤ 65535) (K : Nat) (hK : KO ≤ K) :
    castellanref4_Build.j1 (K + 1) (20 + (o.length : Int)) fl tos id df mf off ttl pr s t o d = some (ihs tos id fl ttl pr s t o d.length ++ d, 0) := by
  have hq : (wrap64 (Int.tdiv (20 + (o.length : Int)) 4)) = (20 + (o.length : Int)) / 4 := by rw [Int.tdiv_eq_ediv_of_nonneg (by omega), w64 (by omega) (by omega)]
  have hn := ih_len tos id fl ttl pr s t o d.length
  have e : [64 + (20 + (o.length : Int)) / 4, tos] ++ p16 (20 + (o.length : Int) + d.length) ++ p16 id ++ p16 fl ++ [ttl, pr, 0, 0] ++ p32 s ++ p32 t ++ o = ih tos id fl ttl pr s t o d.length := by simp [ih]
  simp only [castellanref4_Build.j1]
  rw [w64 (n := 20 + (o.length : Int) + d.length) (by omega) (by omega), hq, w64 (n := 64 + (20 + (o.length : Int)) / 4) (by omega) (by omega), Int.emod_eq_of_lt (a := 64 + (20 + (o.length : Int)) / 4) (by omega) (by omega), Int.emod_eq_of_lt (a := tos) (by omega) (by omega), Int.emod_eq_of_lt (a := ttl) (by omega) (by omega), Int.emod_eq_of_lt (a := pr) (by omega) (by omega)]
  simp only [rput16_is, show ∀ n, castellanref1_Put32.f n = some (p32 n) from fun _ => rfl, ob]
  rw [if_pos (by simp [p16]), if_pos (by simp [p16]), if_pos (by simp [p16]), if_pos (by simp [p16]), if_pos (by simp [p16, p32]), if_pos (by simp [p16, p32]), if_pos (by simp [p16, p32]; omega), e, rof_is _ (ih_byt id fl s t d.length h1 h2 h3 ho hl) (by omega) K hK]
  simp only [ob]
  rw [if_pos (by simp [p16]), if_pos (by simp [p16]), if_pos (by omega), if_pos (by omega), if_pos (by rw [List.length_set, List.length_set]; omega)]
  rfl
theorem rbuild_is (tos id off ttl pr s t : Int) (df mf : Bool) (o d : List Int) (hf : IpFit tos id off ttl pr o) (ho : Byt o) (hd : 20 + o.length + d.length ≤ 65535) (K : Nat) (hK : KO ≤ K) :
    castellanref4_Build.f (K + 3) tos id df mf off ttl pr s t o d = some (ihs tos id (flg df mf off) ttl pr s t o d.length ++ d, 0) := by
  obtain ⟨q, hq, -, hq3⟩ := ref4_is tos id off ttl pr s t df mf o d
  have hf' := hf
  obtain ⟨h1, h2, h3, h4, h5, h6, h7⟩ := hf'
  unfold castellanref4_Build.f
  rw [hq, ob]
  cases q with
  | false => exact absurd hf (hq3 rfl)
  | true =>
    rw [if_pos rfl, w64 (n := 20 + (o.length : Int)) (by omega) (by omega), w64 (n := 20 + (o.length : Int) + (d.length : Int)) (by omega) (by omega), if_neg (by omega)]
    unfold flg
    cases df with
    | true =>
      rw [if_pos rfl, if_pos rfl, or_16384 _ (by omega) (by omega) (by omega)]
      simp only [castellanref4_Build.j0]
      cases mf with
      | true => rw [if_pos rfl, if_pos rfl, or_8192 _ (by omega) (by omega) (by omega)]; exact rbuildj1_is tos id _ off ttl pr s t _ _ o d h1 h2 h3 ho h7 (by omega) (K + 1) (by omega)
      | false => rw [if_neg (by decide), if_neg (by decide), Int.add_zero]; exact rbuildj1_is tos id _ off ttl pr s t _ _ o d h1 h2 h3 ho h7 (by omega) (K + 1) (by omega)
    | false =>
      rw [if_neg (by decide), if_neg (by decide), Int.add_zero]
      simp only [castellanref4_Build.j0]
      cases mf with
      | true => rw [if_pos rfl, if_pos rfl, or_8192 _ (by omega) (by omega) (by omega)]; exact rbuildj1_is tos id _ off ttl pr s t _ _ o d h1 h2 h3 ho h7 (by omega) (K + 1) (by omega)
      | false => rw [if_neg (by decide), if_neg (by decide), Int.add_zero]; exact rbuildj1_is tos id _ off ttl pr s t _ _ o d h1 h2 h3 ho h7 (by omega) (K + 1) (by omega)

theorem rheader_is (l : List Int) (hb : Byt l) : castellanref4_Header.f l = some (hd l) := by
  rw [← header_is l hb]
  unfold castellanref4_Header.f ip_Header.f
  rw [Int.mul_comm 4]

theorem rlook_is (l : List Int) (hb : Byt l) (hl : l.length ≤ 1048576) (K : Nat) (hK : KO ≤ K) : castellanref4_look.f (K + 2) l = some (lk l) := by
  have hr := hd_range l
  have b0 := atz_byt hb 0
  have b6 := atz_byt hb 6
  have b7 := atz_byt hb 7
  have g2 := g16_lt hb 2
  have e6 : g16 l 6 / 32768 % 2 = atz l 6 / 128 := by unfold g16; rw [show (6 : Int) + 1 = 7 from rfl]; omega
  unfold castellanref4_look.f lk
  rw [rheader_is l hb, ob]
  by_cases c1 : (l.length : Int) < 20
  · rw [if_pos c1, if_pos c1]
  rw [if_neg c1, if_neg c1, if_pos (by omega), atz_rd (by omega)]
  have tr (x : Int) : castellanref4_look.j0 (K + 2) l x true = some 2 := by simp only [castellanref4_look.j0]; rfl
  by_cases c2 : atz l 0 / 16 = 4
  · rw [if_pos c2]
    by_cases c3 : hd l < 20
    · rw [decide_eq_true c3, if_pos (.inr c3)]; exact tr _
    rw [decide_eq_false c3, if_neg (by omega)]
    simp only [castellanref4_look.j0]
    rw [if_neg (by decide)]
    by_cases c4 : (l.length : Int) < hd l
    · rw [if_pos c4, if_pos c4]
    rw [if_neg c4, if_neg c4, if_pos (by omega), if_pos (by omega), rright_is _ (byt_take hb _) (by rw [List.length_take]; omega) (K + 1) (by omega), ob]
    by_cases c5 : ck (l.take (hd l).toNat) = 0
    · rw [if_neg (show ¬ ck (l.take (hd l).toNat) ≠ 0 from fun h => h c5), if_pos (by rw [c5]; rfl), rget16_is l 2 hb (by omega) (by omega), ob]
      have tr1 : castellanref4_look.j1 (K + 1) l true = some 2 := by simp only [castellanref4_look.j1]; rfl
      by_cases c6 : g16 l 2 < hd l
      · rw [if_pos c6, if_pos (.inl c6)]; exact tr1
      rw [if_neg c6, if_pos (by omega), atz_rd (by omega)]
      by_cases c7 : g16 l 6 / 32768 % 2 = 1
      · rw [if_pos (.inr c7), show atz l 6 / 128 = 1 by omega]; exact tr1
      rw [if_neg (by omega), show atz l 6 / 128 = 0 by omega]
      simp only [castellanref4_look.j1]
      rw [if_neg (by decide), rget16_is l 2 hb (by omega) (by omega), ob]
      by_cases c8 : g16 l 2 > (l.length : Int)
      · rw [if_pos c8, if_pos c8]
      · rw [if_neg c8, if_neg c8]
    · rw [if_pos c5, if_neg (by simpa using c5)]
  · rw [if_neg c2, if_pos (.inl c2)]; exact tr _

theorem mx_is (a b : Int) : mx a b = max a b := by
  unfold mx
  split <;> omega
theorem mn_min (a b : Int) : mn a b = min a b := by
  unfold mn
  split <;> omega
theorem and_1 (x : Int) : Go.bits .and .i64 x 1 = x % 2 := by simpa using and_i64 1 (by decide) x
theorem ripparse_is (l : List Int) (hb : Byt l) (hl : l.length ≤ 1048576) (K : Nat) (hK : KO ≤ K) : castellanref4_Parse.f (K + 2) l = some (ipp l) := by
  have g2 := g16_lt hb 2
  have g6 := g16_lt hb 6
  have hr := hd_range l
  have b1 := atz_byt hb 1
  have b8 := atz_byt hb 8
  have b9 := atz_byt hb 9
  unfold castellanref4_Parse.f ipp
  rw [rlook_is l hb hl K hK, ob]
  by_cases c : lk l = 0
  · obtain ⟨z1, z2, z3, z4, z5⟩ := lk_zero c
    have em : mn (mx (g16 l 2) (hd l)) (l.length : Int) = g16 l 2 := by rw [mx_is, mn_min]; omega
    unfold castellanref4_Read.f
    rw [if_pos c, if_pos c, rheader_is l hb, ob, rget16_is l 2 hb (by omega) (by omega), ob, rget16_is l 6 hb (by omega) (by omega), ob, if_pos (by omega), rget16_is l 4 hb (by omega) (by omega), ob, if_pos (by omega), if_pos (by omega), rget32_is l 12 hb (by omega) (by omega), ob, rget32_is l 16 hb (by omega) (by omega), ob, ob, if_pos (by omega), if_pos (by omega), if_pos (by rw [List.length_drop, List.length_take]; simp; omega), ob, em, if_pos (by omega), if_pos (by omega), if_pos (by omega), if_pos (by rw [List.length_drop, List.length_take]; simp; omega), ob, List.nil_append, List.nil_append, atz_rd (by omega), atz_rd (by omega), atz_rd (by omega), w64 (n := atz l 1) (by omega) (by omega), w64 (n := atz l 8) (by omega) (by omega), w64 (n := atz l 9) (by omega) (by omega), and_1, and_1, and_i64_8191]
  · rw [if_neg c, if_neg c]

/-- an ICMP message as it is built -/
def im (t c r : Int) (d : List Int) : List Int := [t, c, 0, 0] ++ (p32 r ++ d)
def ims (t c r : Int) (d : List Int) : List Int := ((im t c r d).set 2 (ck (im t c r d) / 256 % 256)).set 3 (ck (im t c r d) % 256)
theorem im_byt {t c r : Int} {d : List Int} (ht : 0 ≤ t ∧ t ≤ 255) (hc : 0 ≤ c ∧ c ≤ 255) (hd : Byt d) : Byt (im t c r d) :=
  byt_append (byt_cons (by omega) (byt_cons (by omega) (byt_cons (by omega) (byt_cons (by omega) byt_nil)))) (byt_append (byt_p32 r) hd)
theorem im_len (t c r : Int) (d : List Int) : (im t c r d).length = 8 + d.length := by simp [im, p32]; omega
theorem ims_len (t c r : Int) (d : List Int) : (ims t c r d).length = 8 + d.length := by unfold ims; rw [List.length_set, List.length_set, im_len]
theorem ims_byt {t c r : Int} {d : List Int} (ht : 0 ≤ t ∧ t ≤ 255) (hc : 0 ≤ c ∧ c ≤ 255) (hd : Byt d) : Byt (ims t c r d) :=
  byt_set (byt_set (im_byt ht hc hd) _ (by omega)) _ (by omega)
theorem ims_sm {t c r : Int} {d : List Int} : sm (ims t c r d) = sm (im t c r d) + ck (im t c r d) := by
  have h := sm_set2 (im t c r d) 1 (ck (im t c r d) / 256 % 256) (ck (im t c r d) % 256) (by rw [im_len]; omega)
  have e2 : (im t c r d).getD (2 * 1) 0 = 0 := rfl
  have e3 : (im t c r d).getD (2 * 1 + 1) 0 = 0 := rfl
  rw [e2, e3] at h
  have hr := ck_range (im t c r d)
  refine Eq.trans h ?_
  omega
theorem ims_ck {t c r : Int} {d : List Int} (ht : 0 ≤ t ∧ t ≤ 255) (hc : 0 ≤ c ∧ c ≤ 255) (hd : Byt d) : fo (sm (ims t c r d)) = 65535 := by
  rw [ims_sm]
  exact fo_comp (sm_nonneg (im_byt ht hc hd))

/-- what an ICMP message is read as -/
def mp (l : List Int) : Int × Int × Int × List Int × Int := if (l.length : Int) < 8 then (0, 0, 0, ([] : List Int), 3) else if ck l = 0 then (rd l 0, rd l 1, g32 l 4, l.drop 8, 0) else (0, 0, 0, ([] : List Int), 4)
theorem rd_byt {l : List Int} (hb : Byt l) (i : Int) : 0 ≤ rd l i ∧ rd l i < 256 := by unfold rd; exact getD_byt hb _
theorem mparse_is (l : List Int) (hb : Byt l) (hl : l.length ≤ 1048576) (K : Nat) (hK : KO ≤ K) : icmp_Parse.f K l = some (mp l) := by
  have hKO : 5 ≤ KO := by unfold KO; omega
  have h0 := rd_byt hb 0
  have h1 := rd_byt hb 1
  unfold icmp_Parse.f mp
  by_cases c : (l.length : Int) < 8
  · rw [if_pos c, if_pos c]
  · rw [if_neg c, if_neg c, right_is l hb hl K hK, ob]
    by_cases c2 : ck l = 0
    · rw [if_pos (by rw [c2]; rfl), if_pos c2, if_pos (by omega), if_pos (by omega), get32_is l 4 hb (by omega) (by omega) (by omega) K (by omega), ob, if_pos (by omega), clone_is _ (by rw [List.length_drop]; omega), ob, w64 (by omega) (by omega), w64 (by omega) (by omega)]
    · rw [if_neg (by simpa using c2), if_neg c2]

theorem mn_is (a b : Int) : mn a b = min a b := by
  unfold mn
  split <;> omega

theorem rquote_is (l : List Int) (hb : Byt l) (hl : l.length ≤ 1048576) : castellanref7_Quote.f l = some (l.take (hd l + 8).toNat) := by
  have hr := hd_range l
  unfold castellanref7_Quote.f
  rw [ob, rheader_is l hb, ob, w64 (n := hd l + 8) (by omega) (by omega), mn_is, if_pos (by omega), if_pos (by omega), if_pos (by rw [List.length_take]; simp; omega), List.nil_append]
  congr 1
  rcases Int.le_total (l.length : Int) (hd l + 8) with h | h
  · rw [Int.min_eq_left h, List.take_of_length_le (by omega), List.take_of_length_le (by omega)]
  · rw [Int.min_eq_right h]

theorem rmparse_is (l : List Int) (hb : Byt l) (hl : l.length ≤ 1048576) (K : Nat) (hK : KO ≤ K) : castellanref7_Parse.f K l = some (mp l) := by
  have h0 := rd_byt hb 0
  have h1 := rd_byt hb 1
  unfold castellanref7_Parse.f castellanref7_Read.f mp
  by_cases c : (l.length : Int) < 8
  · rw [if_pos c, if_pos c]
  · rw [if_neg c, if_neg c, rright_is l hb hl K hK, ob]
    by_cases c2 : ck l = 0
    · rw [if_pos (by rw [c2]; rfl), if_pos c2, if_pos (by omega), if_pos (by omega), rget32_is l 4 hb (by omega) (by omega), ob, ob, if_pos (by omega), if_pos (by rw [List.length_drop]; simp; omega), ob, w64 (by omega) (by omega), w64 (by omega) (by omega), List.nil_append]
    · rw [if_neg (by simpa using c2), if_neg c2]

theorem query_some (x : Int) : ∃ q, castellanref7_Query.f x = some q := by
  unfold castellanref7_Query.f
  by_cases c1 : x = 0
  · exact ⟨_, if_pos c1⟩
  rw [if_neg c1]
  by_cases c2 : x = 8
  · exact ⟨_, if_pos c2⟩
  rw [if_neg c2]
  by_cases c3 : x = 13
  · exact ⟨_, if_pos c3⟩
  rw [if_neg c3]
  exact ⟨_, rfl⟩
theorem inner_some (l : List Int) (hb : Byt l) (hl : l.length ≤ 1048576) : ∃ r, castellanref8_inner.f l = some r := by
  have hr := hd_range l
  unfold castellanref8_inner.f
  rw [rheader_is l hb, ob]
  by_cases c1 : (l.length : Int) < 20
  · exact ⟨_, if_pos c1⟩
  rw [if_neg c1]
  by_cases c2 : rd l 0 / 16 = 4
  · rw [if_pos c2]
    by_cases c3 : hd l < 20
    · exact ⟨_, if_pos c3⟩
    rw [if_neg c3, w64 (n := hd l + 8) (by omega) (by omega)]
    by_cases c4 : (l.length : Int) < hd l + 8
    · exact ⟨_, if_pos c4⟩
    rw [if_neg c4, rget16_is l 6 hb (by omega) (by omega), ob]
    by_cases c5 : Go.bits .and .i64 (g16 l 6) 8191 = 0
    · rw [if_pos c5, rget32_is l 12 hb (by omega) (by omega), ob, rget32_is l 16 hb (by omega) (by omega), ob]
      unfold castellanref8_inner.g
      rw [w64 (n := hd l + 2) (by omega) (by omega), w64 (n := hd l + 4) (by omega) (by omega), rget16_is l (hd l) hb (by omega) (by omega), ob, rget16_is l (hd l + 2) hb (by omega) (by omega), ob, rget16_is l (hd l + 4) hb (by omega) (by omega)]
      by_cases p1 : wrap64 (rd l 9) = 6
      · exact ⟨_, if_pos p1⟩
      rw [if_neg p1]
      by_cases p2 : wrap64 (rd l 9) = 17
      · exact ⟨_, if_pos p2⟩
      rw [if_neg p2]
      by_cases p3 : wrap64 (rd l 9) = 1
      · rw [if_pos p3, if_pos ⟨by omega, by omega⟩]
        obtain ⟨q, hq⟩ := query_some (wrap64 (rd l (hd l)))
        rw [hq, ob, ob]
        cases q
        · exact ⟨_, if_neg Bool.false_ne_true⟩
        · exact ⟨_, if_pos rfl⟩
      · exact ⟨_, if_neg p3⟩
    · exact ⟨_, if_neg c5⟩
  · exact ⟨_, if_neg c2⟩
theorem rread_is (l : List Int) (hb : Byt l) (hl : l.length ≤ 1048576) (c : ¬ (l.length : Int) < 8) : castellanref7_Read.f l = some (rd l 0, rd l 1, g32 l 4, l.drop 8) := by
  have h0 := rd_byt hb 0
  have h1 := rd_byt hb 1
  unfold castellanref7_Read.f
  rw [if_pos (by omega), if_pos (by omega), rget32_is l 4 hb (by omega) (by omega), ob, ob, if_pos (by omega), if_pos (by rw [List.length_drop]; simp; omega), w64 (by omega) (by omega), w64 (by omega) (by omega), List.nil_append]

/-- what a segment is read as -/
def tp (l : List Int) : Int × Int × Int × Int × Int × Int × Int × List Int × List Int × Int :=
  if (l.length : Int) < 20 then (0, 0, 0, 0, 0, 0, 0, ([] : List Int), ([] : List Int), 3) else if rd l 12 / 16 * 4 < 20 then (0, 0, 0, 0, 0, 0, 0, ([] : List Int), ([] : List Int), 2) else if rd l 12 / 16 * 4 > (l.length : Int) then (0, 0, 0, 0, 0, 0, 0, ([] : List Int), ([] : List Int), 3)
  else (g16 l 0, g16 l 2, g32 l 4, g32 l 8, rd l 13 % 64, g16 l 14, g16 l 18, (l.take (rd l 12 / 16 * 4).toNat).drop 20, l.drop (rd l 12 / 16 * 4).toNat, 0)
theorem rtcpparse_is (l : List Int) (hb : Byt l) (hl : l.length ≤ 1048576) : castellanref5_Parse.f l = some (tp l) := by
  have h12 := rd_byt hb 12
  have h13 := rd_byt hb 13
  unfold castellanref5_Parse.f tp
  by_cases c : (l.length : Int) < 20
  · rw [if_pos c, if_pos c]
  rw [if_neg c, if_neg c, if_pos (by omega), w64 (n := rd l 12 / 16) (by omega) (by omega), w64 (n := 4 * (rd l 12 / 16)) (by omega) (by omega), Int.mul_comm 4]
  by_cases c2 : rd l 12 / 16 * 4 < 20
  · rw [if_pos c2, if_pos c2]
  by_cases c3 : rd l 12 / 16 * 4 > (l.length : Int)
  · rw [if_neg c2, if_neg c2, if_pos c3, if_pos c3]
  rw [if_neg c2, if_neg c2, if_neg c3, if_neg c3, rget16_is _ 0 hb (by omega) (by omega), ob, rget16_is _ 2 hb (by omega) (by omega), ob, rget32_is _ 4 hb (by omega) (by omega), ob, rget32_is _ 8 hb (by omega) (by omega), ob, if_pos (by omega), rget16_is _ 14 hb (by omega) (by omega), ob, rget16_is _ 18 hb (by omega) (by omega), ob, ob, if_pos (by omega), if_pos (by omega), if_pos (by rw [List.length_drop, List.length_take]; simp; omega), ob, if_pos (by omega), if_pos (by rw [List.length_drop]; simp; omega), List.nil_append, List.nil_append, and_u8_63 _ h13.1 h13.2, w64 (n := rd l 13 % 64) (by omega) (by omega)]
/-- what a datagram is read as -/
def up (l : List Int) : Int × Int × List Int × Int := if (l.length : Int) < 8 then (0, 0, ([] : List Int), 3) else if g16 l 4 < 8 then (0, 0, ([] : List Int), 2) else if g16 l 4 > (l.length : Int) then (0, 0, ([] : List Int), 3) else (g16 l 0, g16 l 2, (l.take (g16 l 4).toNat).drop 8, 0)
theorem rudparse_is (l : List Int) (hb : Byt l) (hl : l.length ≤ 1048576) : castellanref6_Parse.f l = some (up l) := by
  have hg := g16_lt hb 4
  unfold castellanref6_Parse.f up
  rw [rget16_is l 4 hb (by omega) (by omega), ob]
  by_cases c1 : (l.length : Int) < 8
  · rw [if_pos c1, if_pos c1]
  rw [if_neg c1, if_neg c1]
  by_cases c2 : g16 l 4 < 8
  · rw [if_pos c2, if_pos c2]
  rw [if_neg c2, if_neg c2]
  by_cases c3 : g16 l 4 > (l.length : Int)
  · rw [if_pos c3, if_pos c3]
  rw [if_neg c3, if_neg c3, rget16_is l 0 hb (by omega) (by omega), ob, rget16_is l 2 hb (by omega) (by omega), ob, ob, if_pos (by omega), if_pos (by omega), if_pos (by rw [List.length_drop, List.length_take]; simp; omega), List.nil_append]
theorem rbuild7_is (t c r : Int) (d : List Int) (ht : 0 ≤ t ∧ t ≤ 255) (hc : 0 ≤ c ∧ c ≤ 255) (hd : Byt d) (hl : d.length ≤ 65000) (K : Nat) (hK : KO ≤ K) : castellanref7_Build.f (K + 1) t c r d = some (ims t c r d, 0) := by
  have e : [t, c, 0, 0] ++ p32 r ++ d = im t c r d := by unfold im; rw [List.append_assoc]
  have hn := im_len t c r d
  unfold castellanref7_Build.f
  rw [if_neg (by omega), if_neg (by omega), if_neg (by omega), if_neg (by omega), decide_eq_false (by omega)]
  simp only [castellanref7_Build.j0]
  rw [if_neg (by decide), show castellanref1_Put32.f r = some (p32 r) from rfl, Int.emod_eq_of_lt (a := t) (by omega) (by omega), Int.emod_eq_of_lt (a := c) (by omega) (by omega)]
  simp only [ob]
  rw [if_pos (by simp [p32]), if_pos (by simp [p32]; omega), e, rof_is _ (im_byt ht hc hd) (by omega) K hK, ob, show castellanref1_Put16.f (ck (im t c r d)) = some (p16 (ck (im t c r d))) from rfl, ob, if_pos (by simp [p16]), if_pos (by simp [p16]), if_pos (by omega), if_pos (by omega)]
  rfl
theorem atz_take (l : List Int) {i : Int} {n : Nat} (h : i < n) : atz (l.take n) i = atz l i := by
  unfold atz
  split
  · rw [List.getD_eq_getElem?_getD, List.getD_eq_getElem?_getD, List.getElem?_take_of_lt (by omega)]
  · rfl
theorem g16_take (l : List Int) {i : Int} {n : Nat} (h : i + 1 < n) : g16 (l.take n) i = g16 l i := by
  unfold g16; rw [atz_take l (by omega), atz_take l h]
theorem atz_set_ne (l : List Int) {i : Int} {j : Nat} (v : Int) (h : i ≠ j) : atz (l.set j v) i = atz l i := by
  unfold atz
  split
  · exact lgetD_set_ne l v (by omega)
  · rfl
theorem and_8191 (x : Int) : Go.bits .and .i64 x 8191 = x % 8192 := by simpa using and_i64 13 (by decide) x
theorem query_bad (x : Int) : (castellanref7_Query.f x = some false ∧ ∃ b, castellanref7_Bad.f x = some b) ∨ (castellanref7_Query.f x = some true ∧ castellanref7_Bad.f x = some false) := by
  by_cases h0 : x = 0
  · subst h0; exact .inr ⟨rfl, rfl⟩
  by_cases h1 : x = 8
  · subst h1; exact .inr ⟨rfl, rfl⟩
  by_cases h2 : x = 13
  · subst h2; exact .inr ⟨rfl, rfl⟩
  by_cases h3 : x = 14
  · subst h3; exact .inr ⟨rfl, rfl⟩
  refine .inl ⟨?_, ?_⟩
  · unfold castellanref7_Query.f
    rw [if_neg h0, if_neg h1, if_neg h2, beq_eq_false_iff_ne.mpr h3]
  · unfold castellanref7_Bad.f
    by_cases c1 : x = 3
    · exact ⟨_, if_pos c1⟩
    rw [if_neg c1]
    by_cases c2 : x = 4
    · exact ⟨_, if_pos c2⟩
    rw [if_neg c2]
    by_cases c3 : x = 5
    · exact ⟨_, if_pos c3⟩
    rw [if_neg c3]
    by_cases c4 : x = 11
    · exact ⟨_, if_pos c4⟩
    rw [if_neg c4]
    exact ⟨_, rfl⟩
theorem message_some (K : Nat) (hK : KO ≤ K) (cl : Int) (d : List Int) (hb : Byt d) (hl : d.length ≤ 1048576) : ∃ a ty co key e, castellanref8_message.f K cl d = some (a, ty, co, key, e) := by
  unfold castellanref8_message.f
  rw [rmparse_is d hb hl K hK, ob]
  by_cases c1 : (mp d).2.2.2.2 = 3
  · exact ⟨_, _, _, _, _, if_pos c1⟩
  rw [if_neg c1]
  have c8 : ¬ (d.length : Int) < 8 := by
    intro h
    apply c1
    unfold mp
    rw [if_pos h]
  have hg : ∃ a ty co key e, castellanref8_message.g d = some (a, ty, co, key, e) := by
    unfold castellanref8_message.g
    rw [rread_is d hb hl c8, ob]
    dsimp only
    obtain ⟨key, hkey⟩ := inner_some (d.drop 8) (byt_drop hb 8) (by rw [List.length_drop]; omega)
    rcases query_bad (rd d 0) with ⟨h1, b, h2⟩ | ⟨h1, h2⟩
    · rw [h1, ob, h2, ob, if_neg (by decide)]
      cases b with
      | false => exact ⟨_, _, _, _, _, if_neg (by decide)⟩
      | true => rw [if_pos rfl, hkey, ob]; exact ⟨_, _, _, _, _, rfl⟩
    · rw [h1, ob, h2, ob, if_pos rfl]
      exact ⟨_, _, _, _, _, if_neg (by decide)⟩
  by_cases c2 : (mp d).2.2.2.2 = 0
  · rw [if_pos c2]; exact hg
  rw [if_neg c2]
  by_cases c3 : cl = 0
  · exact ⟨_, _, _, _, _, if_pos c3⟩
  rw [if_neg c3]
  exact hg
theorem inside_some (K : Nat) (hK : KO ≤ K) (p cl : Int) (d : List Int) (hb : Byt d) (hl : d.length ≤ 1048576) :
    ∃ a b fl ty co key e, castellanref8_inside.f K p cl d = some (a, b, fl, ty, co, key, e) ∧ (e = 0 → (p = 6 ∨ p = 17) → a = g16 d 0 ∧ b = g16 d 2) := by
  unfold castellanref8_inside.f
  by_cases p1 : p = 6
  · rw [if_pos p1, rtcpparse_is d hb hl, ob]
    refine ⟨_, _, _, _, _, _, _, rfl, ?_⟩
    unfold tp
    by_cases c1 : (d.length : Int) < 20
    · rw [if_pos c1]; intro h; exact absurd h (by decide)
    rw [if_neg c1]
    by_cases c2 : rd d 12 / 16 * 4 < 20
    · rw [if_pos c2]; intro h; exact absurd h (by decide)
    rw [if_neg c2]
    by_cases c3 : rd d 12 / 16 * 4 > (d.length : Int)
    · rw [if_pos c3]; intro h; exact absurd h (by decide)
    rw [if_neg c3]
    exact fun _ _ => ⟨rfl, rfl⟩
  rw [if_neg p1]
  by_cases p2 : p = 17
  · rw [if_pos p2, rudparse_is d hb hl, ob, rget16_is d 0 hb (by omega) (by omega), ob, rget16_is d 2 hb (by omega) (by omega), ob]
    have hne : ∀ x : Int, (if x < 2 then 2 else x) = 0 → False := by intro x h; split at h <;> omega
    by_cases c1 : (d.length : Int) < 8
    · rw [if_pos c1]; exact ⟨_, _, _, _, _, _, _, rfl, fun h => (hne _ h).elim⟩
    rw [if_neg c1]
    by_cases c2 : (up d).2.2.2 = 0
    · rw [if_pos c2]; exact ⟨_, _, _, _, _, _, _, rfl, fun _ _ => ⟨rfl, rfl⟩⟩
    rw [if_neg c2]
    by_cases c3 : cl = 0
    · rw [if_pos c3]; exact ⟨_, _, _, _, _, _, _, rfl, fun h => (hne _ h).elim⟩
    rw [if_neg c3]
    exact ⟨_, _, _, _, _, _, _, rfl, fun _ _ => ⟨rfl, rfl⟩⟩
  rw [if_neg p2]
  by_cases p3 : p = 1
  · obtain ⟨a, ty, co, key, e, hm⟩ := message_some K hK cl d hb hl
    rw [if_pos p3, hm, ob]
    exact ⟨_, _, _, _, _, _, _, rfl, fun _ h => by omega⟩
  · rw [if_neg p3]
    exact ⟨_, _, _, _, _, _, _, rfl, fun _ h => by omega⟩
theorem ref8_some (K : Nat) (hK : KO ≤ K) (F : List Int) (hFb : Byt F) (hFl : F.length ≤ 1048576) (tos id off ttl pr s t : Int) (df mf : Bool) (o d : List Int) (hdb : Byt d) (hdl : d.length ≤ 1048576) (hpp : ipp F = (tos, id, df, mf, off, ttl, pr, s, t, o, d, 0)) :
    ∃ (q1 q2 : Int) (q3 q4 : Bool) (q5 q6 q7 q8 q9 : Int) (q10 q11 : List Int) (q12 q13 q14 q15 q16 q17 : Int) (key : Option K5) (e : Int), castellanref8_Parse.f (K + 2) F = some (q1, q2, q3, q4, q5, q6, q7, q8, q9, q10, q11, q12, q13, q14, q15, q16, q17, key, e) ∧
      (off = 0 → e = 0 → (pr = 6 ∨ pr = 17) → q7 = pr ∧ q8 = s ∧ q9 = t ∧ q13 = g16 d 0 ∧ q14 = g16 d 2) := by
  unfold castellanref8_Parse.f
  rw [ripparse_is F hFb hFl K hK, ob, hpp]
  dsimp only
  unfold castellanref8_Parse.g
  rw [if_pos rfl]
  by_cases c : off = 0
  · rw [if_pos c]
    obtain ⟨a, b, fl, ty, co, key, e, hi, he⟩ := inside_some (K + 2) (by omega) pr (if mf = true then 1 else 0) d hdb hdl
    rw [hi, ob]
    dsimp only
    by_cases c2 : e = 0
    · rw [if_pos c2]
      exact ⟨_, _, _, _, _, _, _, _, _, _, _, _, _, _, _, _, _, _, _, rfl, fun _ _ hp => ⟨rfl, rfl, rfl, he c2 hp⟩⟩
    · rw [if_neg c2]
      exact ⟨_, _, _, _, _, _, _, _, _, _, _, _, _, _, _, _, _, _, _, rfl, fun _ h => absurd h c2⟩
  · rw [if_neg c]
    exact ⟨_, _, _, _, _, _, _, _, _, _, _, _, _, _, _, _, _, _, _, rfl, fun h => absurd h c⟩
theorem pg_some (dl : List Int) (hb : Byt dl) (hl : dl.length = 8) (p s t : Int) : ∃ ka kb : Int, pack_inner.g dl p s t = some (some (p, s, t, ka, kb)) ∧ ((p = 6 ∨ p = 17) → ka = g16 dl 0 ∧ kb = g16 dl 2) := by
  have hp : pack_ports.f dl = some (g16 dl 0, g16 dl 2) := by
    unfold pack_ports.f
    rw [get16_is dl 0 hb (by omega) (by omega) (by omega), ob, get16_is dl 2 hb (by omega) (by omega) (by omega), ob]
  unfold pack_inner.g
  by_cases p1 : p = 6
  · rw [if_pos p1, hp, ob]; exact ⟨_, _, rfl, fun _ => ⟨rfl, rfl⟩⟩
  rw [if_neg p1]
  by_cases p2 : p = 17
  · rw [if_pos p2, hp, ob]; exact ⟨_, _, rfl, fun _ => ⟨rfl, rfl⟩⟩
  rw [if_neg p2]
  by_cases p3 : p = 1
  · have hq : ∃ q, icmp_Query.f (wrap64 (rd dl 0)) = some q := by
      generalize wrap64 (rd dl 0) = x
      unfold icmp_Query.f
      by_cases c1 : x = 0
      · exact ⟨_, if_pos c1⟩
      rw [if_neg c1]
      by_cases c2 : x = 8
      · exact ⟨_, if_pos c2⟩
      rw [if_neg c2]
      by_cases c3 : x = 13
      · exact ⟨_, if_pos c3⟩
      rw [if_neg c3]
      by_cases c4 : x = 14
      · exact ⟨_, if_pos c4⟩
      exact ⟨_, if_neg c4⟩
    obtain ⟨q, hq⟩ := hq
    rw [if_pos p3, hq, ob, get16_is dl 4 hb (by omega) (by omega) (by omega), ob]
    cases q with
    | false => exact ⟨_, _, if_neg (by decide), fun h => by omega⟩
    | true => exact ⟨_, _, if_pos rfl, fun h => by omega⟩
  · exact ⟨_, _, if_neg p3, fun h => by omega⟩
theorem pinner_is (K : Nat) (hK : KO ≤ K) (D : List Int) (hb : Byt D) (hl : (D.length : Int) = hd D + 8) (h20 : 20 ≤ hd D) (h4 : atz D 0 / 16 = 4) :
    pack_inner.f K D = if g16 D 6 % 8192 = 0 then pack_inner.g (D.drop (hd D).toNat) (atz D 9) (g32 D 12) (g32 D 16) else some none := by
  have hr := hd_range D
  have h5 : 5 ≤ K := by unfold KO at hK; omega
  have b9 := atz_byt hb 9
  unfold pack_inner.f
  rw [header_is D hb, ob, if_neg (by omega), atz_rd (by decide), if_pos h4, if_neg (by omega), w64 (n := hd D + 8) (by omega) (by omega), if_neg (by omega), get16_is D 6 hb (by omega) (by omega) (by omega), ob, and_8191]
  by_cases c : g16 D 6 % 8192 = 0
  · rw [if_pos c, if_pos c, get32_is D 12 hb (by omega) (by omega) (by omega) K h5, ob, get32_is D 16 hb (by omega) (by omega) (by omega) K h5, ob, if_pos ⟨by omega, by omega, by rw [List.length_drop]; omega⟩, atz_rd (by decide), w64 (by omega) (by omega)]
  · rw [if_neg c, if_neg c]

theorem PackInner : castellanlaw8_PackInner.Pure := by
  intro tos id df mf off ttl pr s t o d src dst sp h1 h2 h3 h4 h5 hs ht h6 h7 ho h8 h9 hdb hsrc hdst hsp
  have ho := byt_of ho
  have hdb := byt_of hdb
  have hs := u32_of hs
  have ht := u32_of ht
  have hsrc := u32_of hsrc
  have hdst := u32_of hdst
  have hspb := byt_of (l := [sp]) (fun x hx => by rw [List.mem_singleton.1 hx]; exact hsp) sp (List.mem_singleton.2 rfl)
  obtain ⟨K, hK⟩ : ∃ K : Nat, KO = K := ⟨_, rfl⟩
  have hK5 : 5 ≤ K := by rw [← hK]; unfold KO; omega
  refine ⟨K + 6, ?_⟩
  unfold castellanlaw8_PackInner.f
  by_cases l1 : (o.length : Int) > 60
  · exact .inl (by unfold castellanlaw8_long.f; rw [if_pos l1])
  by_cases l2 : (d.length : Int) > 1500
  · exact .inl (by unfold castellanlaw8_long.f; rw [if_neg l1, decide_eq_true l2])
  refine .inr ⟨by unfold castellanlaw8_long.f; rw [if_neg l1, decide_eq_false l2], ?_⟩
  obtain ⟨q, hq, hq2, -⟩ := ref4_is tos id off ttl pr s t df mf o d
  cases q with
  | false => exact .inl hq
  | true =>
    refine .inr ⟨hq, ?_⟩
    by_cases l3 : (d.length : Int) < 8
    · exact .inl l3
    refine .inr ⟨l3, ?_⟩
    have hfit := hq2 rfl
    have hfit' := hfit
    obtain ⟨f1, f2, f3, f4, f5, f6, f7⟩ := hfit'
    have hby := ihs_byt id (flg df mf off) s t (d.length : Int) f1 f2 f3 ho f7
    have hL := ihs_len tos id (flg df mf off) ttl pr s t o d.length
    have hpp := ip_back tos id off ttl pr s t df mf o d [] hfit hs ht ho (by omega)
    obtain ⟨p1, p2, p3⟩ := ihs_parts (tos := tos) (id := id) (fl := flg df mf off) (ttl := ttl) (pr := pr) s t (o := o) (d.length : Int) d f7 f6 (by omega)
    rw [List.append_nil] at hpp
    have hB := rbuild_is tos id off ttl pr s t df mf o d hfit ho (by omega) (K + 3) (by omega)
    have hFb := byt_append hby hdb
    have hFl : (ihs tos id (flg df mf off) ttl pr s t o d.length ++ d).length = 20 + o.length + d.length := by rw [List.length_append, hL]
    have hFd : (ihs tos id (flg df mf off) ttl pr s t o d.length ++ d).drop (hd (ihs tos id (flg df mf off) ttl pr s t o d.length ++ d)).toNat = d := by
      rw [p1, show (20 + (o.length : Int)).toNat = (ihs tos id (flg df mf off) ttl pr s t o d.length).length by omega, List.drop_left]
    generalize ihs tos id (flg df mf off) ttl pr s t o d.length ++ d = F at hpp hFb hFl p1 p2 p3 hB hFd
    clear hby hL hfit hq2 hq
    have hlk : lk F = 0 := by
      rcases Decidable.em (lk F = 0) with c | c
      · exact c
      · unfold ipp at hpp
        rw [if_neg c] at hpp
        exact congrArg (fun z : Int × Int × Bool × Bool × Int × Int × Int × Int × Int × List Int × List Int × Int => z.2.2.2.2.2.2.2.2.2.2.2) hpp
    have hpo : g16 F 6 % 8192 = off ∧ atz F 9 = pr ∧ g32 F 12 = s ∧ g32 F 16 = t := by
      have hpp' := hpp
      unfold ipp at hpp'
      rw [if_pos hlk] at hpp'
      simp only [Prod.mk.injEq] at hpp'
      exact ⟨hpp'.2.2.2.2.1, hpp'.2.2.2.2.2.2.1, hpp'.2.2.2.2.2.2.2.1, hpp'.2.2.2.2.2.2.2.2.1⟩
    obtain ⟨e5, e7, e8, e9⟩ := hpo
    obtain ⟨q1, q2, q3, q4, q5, q6, q7, q8, q9, q10, q11, q12, q13, q14, q15, q16, q17, key8, er, hP, hPe⟩ := ref8_some (K + 4) (by omega) F hFb (by omega) tos id off ttl pr s t df mf o d hdb (by omega) hpp
    have hXr : 0 ≤ Go.bits .xor .u8 (rd F 10) sp ∧ Go.bits .xor .u8 (rd F 10) sp < 256 := by
      have hx := xor_u8 (rd F 10) sp (rd_byt hFb 10).1 (rd_byt hFb 10).2 hspb.1 hspb.2
      exact ⟨hx.1, hx.2.1⟩
    generalize hX0 : Go.bits .xor .u8 (rd F 10) sp = X at hXr
    have hGb := byt_set hFb 10 hXr
    have hGl : (F.set 10 X).length = F.length := List.length_set
    have hGh : hd (F.set 10 X) = hd F := by unfold hd; rw [hGl, atz_set_ne F X (by decide)]
    have hQ := rquote_is (F.set 10 X) hGb (by omega)
    rw [hGh] at hQ
    have hDa : ∀ i : Int, i < 28 → i ≠ 10 → atz ((F.set 10 X).take (hd F + 8).toNat) i = atz F i := fun i hi hn => by rw [atz_take _ (by omega), atz_set_ne F X hn]
    have hDl : (((F.set 10 X).take (hd F + 8).toNat).length : Int) = hd F + 8 := by rw [List.length_take, hGl]; omega
    have hDb := byt_take hGb (hd F + 8).toNat
    have hDd : ((F.set 10 X).take (hd F + 8).toNat).drop (hd F).toNat = d.take 8 := by
      rw [List.drop_take, List.drop_set_of_lt (by omega), hFd]
      congr 1
      omega
    generalize (F.set 10 X).take (hd F + 8).toNat = D at hQ hDa hDl hDb hDd
    have hDh : hd D = hd F := by
      have a0 := hDa 0 (by omega) (by omega)
      unfold hd
      rw [if_neg (by omega), if_neg (by omega), a0]
    have d6 : g16 D 6 = g16 F 6 := by unfold g16; rw [hDa 6 (by omega) (by omega), hDa (6 + 1) (by omega) (by omega)]
    have d12 : g32 D 12 = g32 F 12 := by unfold g32; rw [hDa 12 (by omega) (by omega), hDa (12 + 1) (by omega) (by omega), hDa (12 + 2) (by omega) (by omega), hDa (12 + 3) (by omega) (by omega)]
    have d16 : g32 D 16 = g32 F 16 := by unfold g32; rw [hDa 16 (by omega) (by omega), hDa (16 + 1) (by omega) (by omega), hDa (16 + 2) (by omega) (by omega), hDa (16 + 3) (by omega) (by omega)]
    have hPI := pinner_is (K + 6) (by omega) D hDb (by omega) (by omega) (by rw [hDa 0 (by omega) (by omega)]; exact p2)
    rw [d6, d12, d16, hDa 9 (by omega) (by omega), hDh, hDd, e5, e7, e8, e9] at hPI
    have hRb : Byt (ims 3 1 0 D) := ims_byt (by omega) (by omega) hDb
    have hRl : (ims 3 1 0 D).length = 8 + D.length := ims_len 3 1 0 D
    have hRf : fo (sm (ims 3 1 0 D)) = 65535 := ims_ck (by omega) (by omega) hDb
    have r0 : rd (ims 3 1 0 D) 0 = 3 := rfl
    have r1 : rd (ims 3 1 0 D) 1 = 1 := rfl
    have r8 : (ims 3 1 0 D).drop 8 = D := rfl
    have hIB := rbuild7_is 3 1 0 D (by omega) (by omega) hDb (by omega) (K + 5) (by omega)
    generalize ims 3 1 0 D = M at hRb hRl hRf r0 r1 r8 hIB
    have hMc : ck M = 0 := by unfold ck; rw [hRf]; rfl
    have hfit2 : IpFit 0 0 0 9 1 [] := ⟨by omega, by omega, by omega, by omega, by omega, by decide, by decide⟩
    have hpp2 := ip_back 0 0 0 9 1 src dst false false [] M [] hfit2 hsrc hdst byt_nil (by simp; omega)
    have hby2 := ihs_byt (tos := 0) (ttl := 9) (pr := 1) 0 (flg false false 0) src dst (o := []) M.length (by omega) (by omega) (by omega) byt_nil (by simp)
    have hL2 := ihs_len 0 0 (flg false false 0) 9 1 src dst [] M.length
    rw [List.append_nil] at hpp2
    have hPB := rbuild_is 0 0 0 9 1 src dst false false [] M hfit2 byt_nil (by simp; omega) (K + 3) (by omega)
    have hXb := byt_append hby2 hRb
    have hXl : (ihs 0 0 (flg false false 0) 9 1 src dst [] M.length ++ M).length ≤ 1048576 := by rw [List.length_append, hL2, hRl]; simp; omega
    generalize ihs 0 0 (flg false false 0) 9 1 src dst [] M.length ++ M = Y at hpp2 hPB hXb hXl
    have hmp := mparse_is M hRb (by omega) (K + 6) (by omega)
    have hmpe : mp M = (3, 1, g32 M 4, D, 0) := by
      unfold mp
      rw [if_neg (show ¬ ((M.length : Int) < 8) by omega), if_pos hMc, r0, r1, r8]
    rw [hmpe] at hmp
    have hIP := ipparse_is Y hXb hXl (K + 4) (by omega)
    have hpack : ∀ key, pack_inner.f (K + 6) D = some key → pack_Parse.f (K + 6) Y = some (0, 0, false, false, 0, 9, 1, src, dst, [], M, 0, 0, 0, 0, 3, 1, key, 0) := by
      intro key hkey
      unfold pack_Parse.f
      rw [show K + 6 = (K + 4) + 2 from rfl, hIP, ob, hpp2]
      dsimp only
      unfold pack_Parse.g pack_ofICMP.f
      rw [if_pos rfl, if_pos rfl, if_pos rfl, if_pos rfl, show K + 4 + 2 = K + 6 from rfl, hmp, ob]
      dsimp only
      rw [if_neg (by decide), if_pos rfl]
      unfold pack_ofICMP.g
      rw [if_pos (by omega), r0, r1, r8, show wrap64 3 = 3 from w64 (by omega) (by omega), show wrap64 1 = 1 from w64 (by omega) (by omega), show icmp_Query.f 3 = some false from rfl, ob, if_neg (by decide), show icmp_Bad.f 3 = some true from rfl, ob, if_pos rfl, hkey, ob, ob]
      dsimp only
      rw [if_pos rfl]
    by_cases c : off = 0
    · rw [if_pos c] at hPI
      obtain ⟨ka, kb, hg, hgp⟩ := pg_some (d.take 8) (byt_take hdb 8) (by rw [List.length_take]; omega) pr s t
      rw [hg] at hPI
      rw [g16_take d (by omega), g16_take d (by omega)] at hgp
      refine ⟨F, D, M, Y, 0, 0, er, key8, _, q1, q2, q3, q4, q5, q6, q7, q8, q9, q10, q11, q12, q13, q14, q15, q16, q17, _, _, _, _, _, _, _, _, _, _, _, _, _, _, _, _, _, hB, hP, by omega, by rw [hX0]; exact hQ, hIB, hPB, hpack _ hPI, .inr ⟨c, ka, kb, rfl, ?_⟩⟩
      by_cases ce : er = 0
      · by_cases cp : pr = 6 ∨ pr = 17
        · obtain ⟨w1, w2, w3, w4, w5⟩ := hPe c ce cp
          obtain ⟨v1, v2⟩ := hgp cp
          refine .inr (.inr ⟨ce, ?_, w1, w2, w3, by rw [w4, v1], by rw [w5, v2]⟩)
          rcases cp with cp | cp
          · exact .inl cp
          · exact .inr ⟨by omega, cp⟩
        · exact .inr (.inl ⟨ce, fun h => cp (.inl h), fun h => cp (.inr h)⟩)
      · exact .inl ce
    · rw [if_neg c] at hPI
      exact ⟨F, D, M, Y, 0, 0, er, key8, _, q1, q2, q3, q4, q5, q6, q7, q8, q9, q10, q11, q12, q13, q14, q15, q16, q17, _, _, _, _, _, _, _, _, _, _, _, _, _, _, _, _, _, hB, hP, by omega, by rw [hX0]; exact hQ, hIB, hPB, hpack _ hPI, .inl ⟨c, rfl⟩⟩

end Go.Proofs.Ytkdibloahkhgoaa.Pure
