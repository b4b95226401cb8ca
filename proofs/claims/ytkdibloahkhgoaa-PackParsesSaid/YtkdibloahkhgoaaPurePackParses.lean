/- any bytes are looked at as the document says, or the error is the same. No condition besides the law's own guards. -/
import Derived.Test.YtkdibloahkhgoaaQPackParsesx14
import Derived.Test.YtkdibloahkhgoaaBase
namespace Go.Proofs.Ytkdibloahkhgoaa.Pure
open Go.RowKit Go.Proofs.Ytkdibloahkhgoaa.QPackParses Go.Proofs.YtkdibloahkhgoaaW.PrintWords Go.Proofs.YtkdibloahkhgoaaW.PrintLast Go.Proofs.YtkdibloahkhgoaaW.PrintMore Go.Proofs.Ytkdibloahkhgoaa.Base
open Go
set_option linter.unusedVariables false
set_option linter.unusedSimpArgs false

theorem at_is (l : List Int) (i m : Int) (hl : l.length ≤ 1099511627776) (h0 : -9223372036854775808 ≤ i) (h1 : i ≤ 2199023255552) (hm0 : 0 ≤ m) (hm : m ≤ 8) : word_at.f l i m = some (atz l (i + m)) := by
  unfold word_at.f
  have e1 : wrap64 (-m) = -m := w64 (by omega) (by omega)
  have e2 : wrap64 ((l.length : Int) - m) = l.length - m := w64 (by omega) (by omega)
  rw [e1, e2]
  by_cases c1 : i < -m
  · rw [if_pos c1, atz_neg l (by omega)]
  · rw [if_neg c1]
    by_cases c2 : i ≥ (l.length : Int) - m
    · rw [if_pos c2, atz_ge l (by omega)]
    · rw [if_neg c2]
      have e3 : wrap64 (i + m) = i + m := w64 (by omega) (by omega)
      rw [e3, if_pos (by omega), if_pos (by omega)]
      unfold rd atz; rw [if_pos (by omega)]

theorem get16_is (l : List Int) (i : Int) (hb : Byt l) (hl : l.length ≤ 1099511627776) (h0 : -9223372036854775808 ≤ i) (h1 : i ≤ 2199023255552) : word_Get16.f l i = some (g16 l i) := by
  unfold word_Get16.f
  rw [at_is l i 0 hl h0 h1 (by omega) (by omega), at_is l i 1 hl h0 h1 (by omega) (by omega)]
  simp only [Option.bind_some, Int.add_zero]
  have b0 := atz_byt hb i
  have b1 := atz_byt hb (i + 1)
  rw [w64 (n := atz l i) (by omega) (by omega), w64 (n := atz l (i + 1)) (by omega) (by omega), w64 (n := atz l i * 256) (by omega) (by omega), or_i64_8 _ _ (by omega) (by omega) (by omega) (by omega)]
  rfl

theorem get32_step (l : List Int) (i : Int) (hb : Byt l) (hl : l.length ≤ 1099511627776) (h0 : -9223372036854775808 ≤ i) (h1 : i ≤ 2199023255552) (k : Nat) (x j : Int) (hx0 : 0 ≤ x) (hx : x < 16777216) (hj0 : 0 ≤ j) (hj : j < 4) :
    word_Get32.l0 (k + 1) l i x j = word_Get32.l0 k l i (x * 256 + atz l (i + j)) (j + 1) := by
  have b0 := atz_byt hb (i + j)
  simp only [word_Get32.l0]
  rw [if_pos hj, at_is l i j hl h0 h1 hj0 (by omega)]
  simp only [Option.bind_some]
  rw [w64 (n := j + 1) (by omega) (by omega), Int.emod_eq_of_lt (a := x * 256) (by omega) (by omega), Int.emod_eq_of_lt (a := atz l (i + j)) (by omega) (by omega), or_u32_8 _ _ hx0 hx (by omega) (by omega)]
theorem get32_is (l : List Int) (i : Int) (hb : Byt l) (hl : l.length ≤ 1099511627776) (h0 : -9223372036854775808 ≤ i) (h1 : i ≤ 2199023255552) (k : Nat) (hk : 5 ≤ k) : word_Get32.f k l i = some (g32 l i) := by
  obtain ⟨k, rfl⟩ : ∃ m, k = m + 5 := ⟨k - 5, by omega⟩
  have b0 := atz_byt hb (i + 0)
  have b1 := atz_byt hb (i + (0 + 1))
  have b2 := atz_byt hb (i + (0 + 1 + 1))
  have b3 := atz_byt hb (i + (0 + 1 + 1 + 1))
  unfold word_Get32.f
  rw [get32_step l i hb hl h0 h1 (k + 4) 0 0 (by omega) (by omega) (by omega) (by omega), get32_step l i hb hl h0 h1 (k + 3) _ _ (by omega) (by omega) (by omega) (by omega),
    get32_step l i hb hl h0 h1 (k + 2) _ _ (by omega) (by omega) (by omega) (by omega), get32_step l i hb hl h0 h1 (k + 1) _ _ (by omega) (by omega) (by omega) (by omega)]
  simp only [word_Get32.l0]
  rw [if_neg (by omega)]
  unfold g32
  rw [show i + (0 + 1) = i + 1 by omega, show i + (0 + 1 + 1) = i + 2 by omega, show i + (0 + 1 + 1 + 1) = i + 3 by omega, Int.add_zero]
  congr 1; omega

theorem folded_is : ∀ (d k : Nat) (n : Int), 0 ≤ n → n ≤ 65535 * (d + 1) → n < 4611686018427387904 → d < k → sum_folded.l0 k n = some (fo n)
  | d, 0, _, _, _, _, hk => absurd hk (by omega)
  | d, k + 1, n, h0, h1, h2, hk => by
    simp only [sum_folded.l0]
    by_cases c : n > 65535
    · rw [if_pos c, and_u64_65535, wrap_u64, Int.emod_eq_of_lt (by omega) (by omega)]
      cases d with
      | zero => omega
      | succ d => rw [folded_is d k _ (by omega) (by omega) (by omega) (by omega), fo_step (by omega)]
    · rw [if_neg c, fo_small h0 (by omega)]
theorem foldedf_is (d k : Nat) (n : Int) (h0 : 0 ≤ n) (h1 : n ≤ 65535 * (d + 1)) (h2 : n < 4611686018427387904) (hk : d < k) : sum_folded.f k n = some (fo n) := folded_is d k n h0 h1 h2 hk

theorem of_l1 (rows : List (List Int)) (n x11 : Int) (row : List Int) (hb : Byt row) (hl : row.length ≤ 1099511627776) : ∀ (d k i : Nat) (acc : Int) (low : Bool), i + d = row.length → 0 ≤ acc → acc + 65280 * d < 4611686018427387904 →
    sum_Of.l1 (k + d + 1) acc low rows n x11 row (row.length : Int) (i : Int) = sum_Of.l0 k (acc + sp low (row.drop i)) (low ^^ odd d) rows n (wrap64 (x11 + 1))
  | 0, k, i, acc, low, hi, h0, h1 => by
    simp only [sum_Of.l1]
    rw [if_neg (by omega), List.drop_eq_nil_of_le (by omega)]
    simp [sp, odd]
  | d + 1, k, i, acc, low, hi, h0, h1 => by
    have hlt : i < row.length := by omega
    have b := getD_byt hb i
    have e : k + (d + 1) + 1 = (k + d + 1) + 1 := by omega
    rw [e, sum_Of.l1]
    rw [if_pos (by omega), if_pos (by omega), if_pos (by omega)]
    have er : rd row (i : Int) = row.getD i 0 := by unfold rd; simp
    have ew : wrap64 ((i : Int) + 1) = ((i + 1 : Nat) : Int) := by rw [w64 (by omega) (by omega)]; omega
    rw [er, ew, drop_cons_getD hlt]
    cases low with
    | true =>
      rw [if_pos rfl, wrap_u64, wrap_u64, Int.emod_eq_of_lt (a := row.getD i 0) (by omega) (by omega), Int.emod_eq_of_lt (a := acc + row.getD i 0) (by omega) (by omega), of_l1 rows n x11 row hb hl d k (i + 1) _ _ (by omega) (by omega) (by omega)]
      rw [odd_succ, sp, Int.add_assoc]; simp
    | false =>
      rw [if_neg (by decide), wrap_u64, wrap_u64, wrap_u64, Int.emod_eq_of_lt (a := row.getD i 0) (by omega) (by omega), Int.emod_eq_of_lt (a := row.getD i 0 * 256) (by omega) (by omega), Int.emod_eq_of_lt (a := acc + row.getD i 0 * 256) (by omega) (by omega), of_l1 rows n x11 row hb hl d k (i + 1) _ _ (by omega) (by omega) (by omega)]
      rw [odd_succ, sp, Int.add_assoc]; simp
theorem of_l0 (rows : List (List Int)) (hb : BytL rows) (hl : rows.flatten.length ≤ 1048576) (hn : rows.length ≤ 1048576) : ∀ (m k j : Nat) (acc : Int) (low : Bool), j + m = rows.length → 0 ≤ acc → acc + 65280 * (rows.drop j).flatten.length ≤ 68451041280 →
    2 * m + (rows.drop j).flatten.length + 1048576 < k → sum_Of.l0 k acc low rows (rows.length : Int) (j : Int) = some (65535 - fo (acc + sp low (rows.drop j).flatten))
  | 0, 0, _, _, _, _, _, _, hk => absurd hk (by omega)
  | 0, k + 1, j, acc, low, hj, h0, h1, hk => by
    simp only [sum_Of.l0]
    rw [if_neg (by omega), List.drop_eq_nil_of_le (by omega)]
    have ha : acc ≤ 68451041280 := by have : (0 : Int) ≤ (rows.drop j).flatten.length := by omega
                                      omega
    rw [foldedf_is 1048575 k acc h0 (by omega) (by omega) (by omega)]
    have := fo_range acc
    simp only [Option.bind_some, List.flatten_nil, sp, Int.add_zero]
    rw [wrap_u64, Int.emod_eq_of_lt (by omega) (by omega), w64 (by omega) (by omega)]
  | m + 1, k, j, acc, low, hj, h0, h1, hk => by
    have hlt : j < rows.length := by omega
    have ed : rows.drop j = rows.getD j [] :: rows.drop (j + 1) := drop_cons_getD_L hlt
    have hbr : Byt (rows.getD j []) := hb _ (by rw [List.getD_eq_getElem?_getD, List.getElem?_eq_getElem hlt]; exact List.getElem_mem hlt)
    have hlr : (rows.getD j []).length + (rows.drop (j + 1)).flatten.length = (rows.drop j).flatten.length := by rw [ed]; simp
    have hll : (rows.drop j).flatten.length ≤ rows.flatten.length := by
      have := congrArg (fun z => z.flatten.length) (List.take_append_drop j rows)
      simp only [List.flatten_append, List.length_append] at this
      omega
    obtain ⟨k', rfl⟩ : ∃ z, k = (z + (rows.getD j []).length + 1) + 1 := ⟨k - (rows.getD j []).length - 2, by omega⟩
    simp only [sum_Of.l0]
    have er : rd_L1 rows (j : Int) = rows.getD j [] := by unfold rd_L1; simp
    have ew : wrap64 ((j : Int) + 1) = ((j + 1 : Nat) : Int) := by rw [w64 (by omega) (by omega)]; omega
    have hs0 := sp_nonneg low hbr
    have hs1 := sp_le low hbr
    rw [if_pos (by omega), if_pos (by omega), if_pos (by omega), er]
    have h2 := of_l1 rows (rows.length : Int) (j : Int) (rows.getD j []) hbr (by omega) (rows.getD j []).length k' 0 acc low (by omega) h0 (by omega)
    rw [List.drop_zero] at h2
    refine h2.trans ?_
    rw [ew, of_l0 rows hb hl hn m k' (j + 1) _ _ (by omega) (by omega) (by omega) (by omega)]
    rw [ed, List.flatten_cons, sp_append, Int.add_assoc]
/-- more than enough rounds -/
def KO : Nat := 5000000
theorem of_is (rows : List (List Int)) (hb : BytL rows) (hl : rows.flatten.length ≤ 1048576) (hn : rows.length ≤ 1048576) (k : Nat) (hk : KO ≤ k) : sum_Of.f k rows = some (ck rows.flatten) := by
  unfold KO at hk
  unfold sum_Of.f
  have h := of_l0 rows hb hl hn rows.length k 0 0 false (by omega) (by omega) (by rw [List.drop_zero]; omega) (by rw [List.drop_zero]; omega)
  rw [List.drop_zero, Int.zero_add, sp_false] at h
  exact h
theorem of1_is (l : List Int) (hb : Byt l) (hl : l.length ≤ 1048576) (k : Nat) (hk : KO ≤ k) : sum_Of.f k [l] = some (ck l) := by
  rw [of_is [l] (fun x hx => by simp at hx; subst hx; exact hb) (by simpa using hl) (by simp) k hk]; simp
theorem of2_is (a b : List Int) (ha : Byt a) (hb : Byt b) (hl : a.length + b.length ≤ 1048576) (k : Nat) (hk : KO ≤ k) : sum_Of.f k [a, b] = some (ck (a ++ b)) := by
  rw [of_is [a, b] (fun x hx => by simp at hx; rcases hx with rfl | rfl <;> assumption) (by simpa using hl) (by simp) k hk]; simp

theorem right_is (l : List Int) (hb : Byt l) (hl : l.length ≤ 1048576) (k : Nat) (hk : KO ≤ k) : sum_Right.f k l = some (ck l == 0) := by
  unfold sum_Right.f
  rw [of1_is l hb hl k hk]; rfl

theorem rat_is (l : List Int) (i : Int) (hb : Byt l) : castellanref1_at.f l i = some (atz l i) := by
  unfold castellanref1_at.f
  by_cases c1 : i < 0
  · rw [if_pos c1, atz_neg l c1]
  · rw [if_neg c1]
    by_cases c2 : i ≥ (l.length : Int)
    · rw [if_pos c2, atz_ge l c2]
    · rw [if_neg c2, if_pos (by omega), if_pos (by omega)]
      have b := getD_byt hb i.toNat
      unfold rd atz; rw [if_pos (by omega), Int.emod_eq_of_lt (by omega) (by omega)]

theorem rget16_is (l : List Int) (i : Int) (hb : Byt l) (h0 : -9223372036854775808 ≤ i) (h1 : i ≤ 2199023255552) : castellanref1_Get16.f l i = some (g16 l i) := by
  unfold castellanref1_Get16.f
  rw [w64 (n := i + 1) (by omega) (by omega), rat_is l i hb, rat_is l (i + 1) hb]
  simp only [Option.bind_some]
  have b0 := atz_byt hb i
  have b1 := atz_byt hb (i + 1)
  rw [Int.emod_eq_of_lt (a := atz l i * 256) (by omega) (by omega), or_u32_8 _ _ (by omega) (by omega) (by omega) (by omega), w64 (by omega) (by omega)]
  rfl

theorem rget32_is (l : List Int) (i : Int) (hb : Byt l) (h0 : -9223372036854775808 ≤ i) (h1 : i ≤ 2199023255552) : castellanref1_Get32.f l i = some (g32 l i) := by
  unfold castellanref1_Get32.f
  rw [w64 (n := i + 1) (by omega) (by omega), w64 (n := i + 2) (by omega) (by omega), w64 (n := i + 3) (by omega) (by omega), rat_is l i hb, rat_is l (i + 1) hb, rat_is l (i + 2) hb, rat_is l (i + 3) hb]
  simp only [Option.bind_some]
  have b0 := atz_byt hb i
  have b1 := atz_byt hb (i + 1)
  have b2 := atz_byt hb (i + 2)
  have b3 := atz_byt hb (i + 3)
  rw [Int.emod_eq_of_lt (a := atz l i * 16777216) (by omega) (by omega), Int.emod_eq_of_lt (a := atz l (i + 1) * 65536) (by omega) (by omega), Int.emod_eq_of_lt (a := atz l (i + 2) * 256) (by omega) (by omega),
    or_u32_24 _ _ (by omega) (by omega) (by omega) (by omega), show atz l i * 16777216 + atz l (i + 1) * 65536 = (atz l i * 256 + atz l (i + 1)) * 65536 by omega, or_u32_16 _ _ (by omega) (by omega) (by omega) (by omega),
    show (atz l i * 256 + atz l (i + 1)) * 65536 + atz l (i + 2) * 256 = ((atz l i * 256 + atz l (i + 1)) * 256 + atz l (i + 2)) * 256 by omega, or_u32_8 _ _ (by omega) (by omega) (by omega) (by omega)]
  unfold g32; congr 1; omega

theorem rfold_is : ∀ (d k : Nat) (n : Int), 0 ≤ n → n ≤ 65535 * (d + 1) → n < 4611686018427387904 → d < k → castellanref2_fold.l0 k n = some (fo n)
  | d, 0, _, _, _, _, hk => absurd hk (by omega)
  | d, k + 1, n, h0, h1, h2, hk => by
    simp only [castellanref2_fold.l0]
    by_cases c : n > 65535
    · rw [if_pos c, and_i64_65535, w64 (by omega) (by omega)]
      cases d with
      | zero => omega
      | succ d => rw [rfold_is d k _ (by omega) (by omega) (by omega) (by omega), Int.add_comm, fo_step (by omega)]
    · rw [if_neg c, fo_small h0 (by omega)]
theorem rfoldf_is (d k : Nat) (n : Int) (h0 : 0 ≤ n) (h1 : n ≤ 65535 * (d + 1)) (h2 : n < 4611686018427387904) (hk : d < k) : castellanref2_fold.f k n = some (fo n) := rfold_is d k n h0 h1 h2 hk

theorem sm_drop (l : List Int) (i : Nat) (h : i < l.length) : sm (l.drop i) = g16 l i + sm (l.drop (i + 2)) := by
  rw [drop_cons_getD h]
  unfold g16 atz
  rw [if_pos (by omega), if_pos (by omega), show ((i : Int)).toNat = i by omega, show ((i : Int) + 1).toNat = i + 1 by omega]
  rcases Nat.lt_or_ge (i + 1) l.length with h1 | h1
  · rw [drop_cons_getD h1]; simp only [sm]
  · rw [List.drop_eq_nil_of_le h1, List.drop_eq_nil_of_le (show l.length ≤ i + 2 by omega)]
    simp [sm, List.getD_eq_getElem?_getD, List.getElem?_eq_none h1]
theorem rof_l0 (l : List Int) (hb : Byt l) (hl : l.length ≤ 1048576) : ∀ (d k i : Nat) (n : Int), l.length ≤ i + d → 0 ≤ n → n ≤ 65535 → i ≤ l.length + 1 → d + 10 < k → castellanref2_Of.l0 k l n (i : Int) = some (65535 - fo (n + sm (l.drop i)))
  | d, 0, _, _, _, _, _, _, hk => absurd hk (by omega)
  | d, k + 1, i, n, hi, h0, h1, h2, hk => by
    simp only [castellanref2_Of.l0]
    by_cases c : (i : Int) < l.length
    · have hg := g16_lt hb (i : Int)
      rw [if_pos c, rget16_is l i hb (by omega) (by omega)]
      simp only [Option.bind_some]
      rw [w64 (n := n + g16 l i) (by omega) (by omega), rfoldf_is 3 k _ (by omega) (by omega) (by omega) (by omega)]
      simp only [Option.bind_some]
      have hr := fo_range (n + g16 l i)
      have ew : wrap64 ((i : Int) + 2) = ((i + 2 : Nat) : Int) := by rw [w64 (by omega) (by omega)]; omega
      cases d with
      | zero => omega
      | succ d =>
        have hs := sm_nonneg (byt_drop hb (i + 2))
        rw [ew, rof_l0 l hb hl d k (i + 2) _ (by omega) (by omega) (by omega) (by omega) (by omega), fo_add (by omega) hs, sm_drop l i (by omega), Int.add_assoc]
    · rw [if_neg c, List.drop_eq_nil_of_le (by omega)]
      simp only [sm, Int.add_zero]
      rw [fo_small h0 h1, w64 (by omega) (by omega)]
theorem rof_is (l : List Int) (hb : Byt l) (hl : l.length ≤ 1048576) (k : Nat) (hk : KO ≤ k) : castellanref2_Of.f k l = some (ck l) := by
  unfold KO at hk
  unfold castellanref2_Of.f
  have h := rof_l0 l hb hl l.length k 0 0 (by omega) (by omega) (by omega) (by omega) (by omega)
  rw [List.drop_zero, Int.zero_add] at h
  exact h

theorem rright_is (l : List Int) (hb : Byt l) (hl : l.length ≤ 1048576) (k : Nat) (hk : KO ≤ k) : castellanref2_Right.f k l = some (ck l == 0) := by
  unfold castellanref2_Right.f
  rw [rof_is l hb hl k hk]; rfl

theorem clone_is (l : List Int) (hl : l.length < 140737488355328) : bytes_Clone.f l = some l := by
  unfold bytes_Clone.f
  rw [ob, if_pos (by rw [List.length_nil]; omega), List.nil_append]

/-- the length of a header, by its first byte -/
def hd (l : List Int) : Int := if l.length = 0 then 0 else atz l 0 % 16 * 4
theorem hd_range (l : List Int) : 0 ≤ hd l ∧ hd l ≤ 60 := by unfold hd; split <;> omega
theorem header_is (l : List Int) (hb : Byt l) : ip_Header.f l = some (hd l) := by
  unfold ip_Header.f hd
  by_cases c : l.length = 0
  · rw [if_pos (by omega), if_pos c]
  · have b := atz_byt hb 0
    have e : rd l 0 = atz l 0 := by unfold rd atz; rw [if_pos (by omega)]
    rw [if_neg (by omega), if_pos (by omega), if_neg c, e, and_u8_15 _ b.1 b.2, w64 (n := atz l 0 % 16) (by omega) (by omega), w64 (by omega) (by omega)]

theorem nat_or_bit (i x : Nat) (h : x / 2 ^ i % 2 = 0) : x ||| 2 ^ i = x + 2 ^ i := by
  have hr : x % 2 ^ i < 2 ^ i := Nat.mod_lt _ (Nat.two_pow_pos i)
  have hp : 2 ^ i < 2 ^ (i + 1) := Nat.pow_lt_pow_right (by decide) (by omega)
  have e1 : x = 2 ^ (i + 1) * (x / 2 ^ (i + 1)) + x % 2 ^ i := by
    have a := Nat.div_add_mod x (2 ^ (i + 1))
    have b : x % 2 ^ (i + 1) = x % 2 ^ i := by rw [Nat.pow_succ, Nat.mod_mul, h]; omega
    rw [b] at a
    exact a.symm
  have e2 : x % 2 ^ i ||| 2 ^ i = 2 ^ i * 1 + x % 2 ^ i := by rw [Nat.two_pow_add_eq_or_of_lt hr 1, Nat.or_comm, Nat.mul_one]
  generalize x / 2 ^ (i + 1) = q at e1
  generalize x % 2 ^ i = r at *
  rw [e1, Nat.two_pow_add_eq_or_of_lt (by omega) q, Nat.or_assoc, e2, ← Nat.two_pow_add_eq_or_of_lt (by rw [Nat.pow_succ]; omega) q, ← Nat.two_pow_add_eq_or_of_lt (by omega) q]
  omega
theorem or_nat (a b : Nat) (ha : a < 2 ^ 62) (hb : b < 2 ^ 62) : Go.bits .or .i64 (a : Int) (b : Int) = ((a ||| b : Nat) : Int) := by
  have hx : a ||| b < 2 ^ 62 := Nat.or_lt_two_pow ha hb
  show IntKind.i64.wrap (((BitVec.ofInt 64 (a : Int)) ||| (BitVec.ofInt 64 (b : Int))).toNat : Int) = _
  rw [BitVec.ofInt_natCast, BitVec.ofInt_natCast, BitVec.toNat_or, BitVec.toNat_ofNat, BitVec.toNat_ofNat, Nat.mod_eq_of_lt (by omega), Nat.mod_eq_of_lt (by omega), wraps_i64 _ (by omega) (by omega)]
theorem and_nat (a b : Nat) (ha : a < 2 ^ 62) (hb : b < 2 ^ 62) : Go.bits .and .i64 (a : Int) (b : Int) = ((a &&& b : Nat) : Int) := by
  have hx : a &&& b < 2 ^ 62 := Nat.and_lt_two_pow a hb
  show IntKind.i64.wrap (((BitVec.ofInt 64 (a : Int)) &&& (BitVec.ofInt 64 (b : Int))).toNat : Int) = _
  rw [BitVec.ofInt_natCast, BitVec.ofInt_natCast, BitVec.toNat_and, BitVec.toNat_ofNat, BitVec.toNat_ofNat, Nat.mod_eq_of_lt (by omega), Nat.mod_eq_of_lt (by omega), wraps_i64 _ (by omega) (by omega)]
theorem or_bit (i : Nat) (hi : i ≤ 60) (x : Int) (h0 : 0 ≤ x) (h1 : x < 4611686018427387904) (h : x / 2 ^ i % 2 = 0) : Go.bits .or .i64 x (2 ^ i) = x + 2 ^ i := by
  obtain ⟨n, rfl⟩ := Int.eq_ofNat_of_zero_le h0
  have hp : (2 : Nat) ^ i ≤ 2 ^ 60 := Nat.pow_le_pow_right (by decide) hi
  have e : ((2 : Int) ^ i) = ((2 ^ i : Nat) : Int) := by push_cast; rfl
  rw [e] at h ⊢
  rw [or_nat n (2 ^ i) (by omega) (by omega), nat_or_bit i n (by exact_mod_cast h)]
  push_cast; rfl
theorem nat_and_bit (i n : Nat) : n &&& 2 ^ i = n / 2 ^ i % 2 * 2 ^ i := by
  apply Nat.eq_of_testBit_eq
  intro j
  rw [Nat.testBit_and, Nat.testBit_two_pow]
  rcases Nat.mod_two_eq_zero_or_one (n / 2 ^ i) with c | c
  · rw [c, Nat.zero_mul, Nat.zero_testBit]
    by_cases h : i = j
    · subst h; rw [Nat.testBit_eq_decide_div_mod_eq, c]; rfl
    · rw [decide_eq_false h, Bool.and_false]
  · rw [c, Nat.one_mul, Nat.testBit_two_pow]
    by_cases h : i = j
    · subst h; rw [Nat.testBit_eq_decide_div_mod_eq, c]; simp
    · rw [decide_eq_false h, Bool.and_false]
theorem and_bit (i : Nat) (hi : i ≤ 60) (x : Int) (h0 : 0 ≤ x) (h1 : x < 4611686018427387904) : Go.bits .and .i64 x (2 ^ i) = x / 2 ^ i % 2 * 2 ^ i := by
  obtain ⟨n, rfl⟩ := Int.eq_ofNat_of_zero_le h0
  have hp : (2 : Nat) ^ i ≤ 2 ^ 60 := Nat.pow_le_pow_right (by decide) hi
  have e : ((2 : Int) ^ i) = ((2 ^ i : Nat) : Int) := by push_cast; rfl
  rw [e, and_nat n (2 ^ i) (by omega) (by omega), nat_and_bit]
  push_cast; rfl
theorem or_8192 (x : Int) (h0 : 0 ≤ x) (h1 : x < 65536) (h : x / 8192 % 2 = 0) : Go.bits .or .i64 x 8192 = x + 8192 := by simpa using or_bit 13 (by decide) x h0 (by omega) (by simpa using h)
theorem or_16384 (x : Int) (h0 : 0 ≤ x) (h1 : x < 65536) (h : x / 16384 % 2 = 0) : Go.bits .or .i64 x 16384 = x + 16384 := by simpa using or_bit 14 (by decide) x h0 (by omega) (by simpa using h)
theorem and_8192 (x : Int) (h0 : 0 ≤ x) (h1 : x < 65536) : Go.bits .and .i64 x 8192 = x / 8192 % 2 * 8192 := by simpa using and_bit 13 (by decide) x h0 (by omega)
theorem and_16384 (x : Int) (h0 : 0 ≤ x) (h1 : x < 65536) : Go.bits .and .i64 x 16384 = x / 16384 % 2 * 16384 := by simpa using and_bit 14 (by decide) x h0 (by omega)
theorem and_32768 (x : Int) (h0 : 0 ≤ x) (h1 : x < 65536) : Go.bits .and .i64 x 32768 = x / 32768 % 2 * 32768 := by simpa using and_bit 15 (by decide) x h0 (by omega)

theorem atz_rd {l : List Int} {i : Int} (h : 0 ≤ i) : rd l i = atz l i := by unfold rd atz; rw [if_pos h]
/-- what a packet is looked at as -/
def lk (l : List Int) : Int := if (l.length : Int) < 20 then 3 else if atz l 0 / 16 ≠ 4 ∨ hd l < 20 then 2 else if (l.length : Int) < hd l then 3 else if ck (l.take (hd l).toNat) ≠ 0 then 4 else if g16 l 2 < hd l ∨ g16 l 6 / 32768 % 2 = 1 then 2 else if g16 l 2 > (l.length : Int) then 3 else 0
theorem looked_is (l : List Int) (hb : Byt l) (hl : l.length ≤ 1048576) (K : Nat) (hK : KO ≤ K) : ip_looked.f (K + 2) l = some (lk l) := by
  have hr := hd_range l
  have b0 := atz_byt hb 0
  have g2 := g16_lt hb 2
  have g6 := g16_lt hb 6
  unfold ip_looked.f lk
  rw [header_is l hb, ob]
  by_cases c1 : (l.length : Int) < 20
  · rw [if_pos c1, if_pos c1]
  rw [if_neg c1, if_neg c1, if_pos (by omega), atz_rd (by omega)]
  have tr (x : Int) : ip_looked.j0 (K + 2) l x true = some 2 := by simp only [ip_looked.j0]; rfl
  by_cases c2 : atz l 0 / 16 = 4
  · rw [if_pos c2]
    by_cases c3 : hd l < 20
    · rw [decide_eq_true c3, if_pos (.inr c3)]; exact tr _
    rw [decide_eq_false c3, if_neg (by omega)]
    simp only [ip_looked.j0]
    rw [if_neg (by decide)]
    by_cases c4 : (l.length : Int) < hd l
    · rw [if_pos c4, if_pos c4]
    rw [if_neg c4, if_neg c4, if_pos (by omega), if_pos (by omega), right_is _ (byt_take hb _) (by rw [List.length_take]; omega) (K + 1) (by omega), ob]
    by_cases c5 : ck (l.take (hd l).toNat) = 0
    · rw [if_neg (show ¬ ck (l.take (hd l).toNat) ≠ 0 from fun h => h c5), if_pos (by rw [c5]; rfl), get16_is l 2 hb (by omega) (by omega) (by omega), ob]
      have tr1 : ip_looked.j1 (K + 1) l true = some 2 := by simp only [ip_looked.j1]; rfl
      by_cases c6 : g16 l 2 < hd l
      · rw [if_pos c6, if_pos (.inl c6)]; exact tr1
      rw [if_neg c6, get16_is l 6 hb (by omega) (by omega) (by omega), ob, and_32768 _ g6.1 (by omega)]
      by_cases c7 : g16 l 6 / 32768 % 2 = 1
      · rw [if_pos (.inr c7), c7]; exact tr1
      rw [if_neg (by omega), show g16 l 6 / 32768 % 2 = 0 by omega]
      simp only [ip_looked.j1]
      rw [if_neg (by decide), get16_is l 2 hb (by omega) (by omega) (by omega), ob]
      by_cases c8 : g16 l 2 > (l.length : Int)
      · rw [if_pos c8, if_pos c8]
      · rw [if_neg c8, if_neg c8]
    · rw [if_pos c5, if_neg (by simpa using c5)]
  · rw [if_neg c2, if_pos (.inl c2)]; exact tr _
/-- what a packet is read as -/
def ipp (l : List Int) : Int × Int × Bool × Bool × Int × Int × Int × Int × Int × List Int × List Int × Int :=
  if lk l = 0 then (atz l 1, g16 l 4, g16 l 6 / 16384 % 2 == 1, g16 l 6 / 8192 % 2 == 1, g16 l 6 % 8192, atz l 8, atz l 9, g32 l 12, g32 l 16, (l.take (hd l).toNat).drop 20, (l.take (g16 l 2).toNat).drop (hd l).toNat, 0)
  else (0, 0, false, false, 0, 0, 0, 0, 0, ([] : List Int), ([] : List Int), lk l)
theorem lk_zero {l : List Int} (h : lk l = 0) : 20 ≤ (l.length : Int) ∧ 20 ≤ hd l ∧ hd l ≤ l.length ∧ hd l ≤ g16 l 2 ∧ g16 l 2 ≤ l.length := by
  unfold lk at h
  split at h
  · omega
  split at h
  · omega
  split at h
  · omega
  split at h
  · omega
  split at h
  · omega
  split at h
  · omega
  · omega
theorem bit_ne {x : Int} (h : x = 0 ∨ x = 1) (m : Int) (hm : m ≠ 0) : (x * m != 0) = (x == 1) := by
  rcases h with h | h <;> subst h
  · simp
  · simp [hm]
theorem ipparse_is (l : List Int) (hb : Byt l) (hl : l.length ≤ 1048576) (K : Nat) (hK : KO ≤ K) : ip_Parse.f (K + 2) l = some (ipp l) := by
  have hKO : 5 ≤ KO := by unfold KO; omega
  have g6 := g16_lt hb 6
  have g2 := g16_lt hb 2
  have hr := hd_range l
  have b1 := atz_byt hb 1
  have b8 := atz_byt hb 8
  have b9 := atz_byt hb 9
  unfold ip_Parse.f ipp
  rw [looked_is l hb hl K hK, ob]
  by_cases c : lk l = 0
  · obtain ⟨z1, z2, z3, z4, z5⟩ := lk_zero c
    rw [if_pos c, if_pos c, header_is l hb, ob, get16_is l 6 hb (by omega) (by omega) (by omega), ob, if_pos (by omega), get16_is l 4 hb (by omega) (by omega) (by omega), ob, if_pos (by omega), if_pos (by omega), get32_is l 12 hb (by omega) (by omega) (by omega) (K + 2) (by omega), ob, get32_is l 16 hb (by omega) (by omega) (by omega) (K + 2) (by omega), ob, if_pos (by omega), if_pos (by omega), clone_is _ (by rw [List.length_drop, List.length_take]; omega), ob, get16_is l 2 hb (by omega) (by omega) (by omega), ob, if_pos (by omega), if_pos (by omega), if_pos (by omega), clone_is _ (by rw [List.length_drop, List.length_take]; omega), ob, atz_rd (by omega), atz_rd (by omega), atz_rd (by omega), w64 (n := atz l 1) (by omega) (by omega), w64 (n := atz l 8) (by omega) (by omega), w64 (n := atz l 9) (by omega) (by omega), and_16384 _ g6.1 (by omega), and_8192 _ g6.1 (by omega), and_i64_8191, bit_ne (by omega) 16384 (by decide), bit_ne (by omega) 8192 (by decide)]
  · rw [if_neg c, if_neg c]

theorem rheader_is (l : List Int) (hb : Byt l) : castellanref4_Header.f l = some (hd l) := by
  rw [← header_is l hb]
  unfold castellanref4_Header.f ip_Header.f
  rw [Int.mul_comm 4]

theorem rlook_is (l : List Int) (hb : Byt l) (hl : l.length ≤ 1048576) (K : Nat) (hK : KO ≤ K) : castellanref4_look.f (K + 2) l = some (lk l) := by
  have hr := hd_range l
  have b0 := atz_byt hb 0
  have b6 := atz_byt hb 6
  have b7 := atz_byt hb 7
  have g2 := g16_lt hb 2
  have e6 : g16 l 6 / 32768 % 2 = atz l 6 / 128 := by unfold g16; rw [show (6 : Int) + 1 = 7 from rfl]; omega
  unfold castellanref4_look.f lk
  rw [rheader_is l hb, ob]
  by_cases c1 : (l.length : Int) < 20
  · rw [if_pos c1, if_pos c1]
  rw [if_neg c1, if_neg c1, if_pos (by omega), atz_rd (by omega)]
  have tr (x : Int) : castellanref4_look.j0 (K + 2) l x true = some 2 := by simp only [castellanref4_look.j0]; rfl
  by_cases c2 : atz l 0 / 16 = 4
  · rw [if_pos c2]
    by_cases c3 : hd l < 20
    · rw [decide_eq_true c3, if_pos (.inr c3)]; exact tr _
    rw [decide_eq_false c3, if_neg (by omega)]
    simp only [castellanref4_look.j0]
    rw [if_neg (by decide)]
    by_cases c4 : (l.length : Int) < hd l
    · rw [if_pos c4, if_pos c4]
    rw [if_neg c4, if_neg c4, if_pos (by omega), if_pos (by omega), rright_is _ (byt_take hb _) (by rw [List.length_take]; omega) (K + 1) (by omega), ob]
    by_cases c5 : ck (l.take (hd l).toNat) = 0
    · rw [if_neg (show ¬ ck (l.take (hd l).toNat) ≠ 0 from fun h => h c5), if_pos (by rw [c5]; rfl), rget16_is l 2 hb (by omega) (by omega), ob]
      have tr1 : castellanref4_look.j1 (K + 1) l true = some 2 := by simp only [castellanref4_look.j1]; rfl
      by_cases c6 : g16 l 2 < hd l
      · rw [if_pos c6, if_pos (.inl c6)]; exact tr1
      rw [if_neg c6, if_pos (by omega), atz_rd (by omega)]
      by_cases c7 : g16 l 6 / 32768 % 2 = 1
      · rw [if_pos (.inr c7), show atz l 6 / 128 = 1 by omega]; exact tr1
      rw [if_neg (by omega), show atz l 6 / 128 = 0 by omega]
      simp only [castellanref4_look.j1]
      rw [if_neg (by decide), rget16_is l 2 hb (by omega) (by omega), ob]
      by_cases c8 : g16 l 2 > (l.length : Int)
      · rw [if_pos c8, if_pos c8]
      · rw [if_neg c8, if_neg c8]
    · rw [if_pos c5, if_neg (by simpa using c5)]
  · rw [if_neg c2, if_pos (.inl c2)]; exact tr _

theorem mx_is (a b : Int) : mx a b = max a b := by
  unfold mx
  split <;> omega
theorem mn_min (a b : Int) : mn a b = min a b := by
  unfold mn
  split <;> omega
theorem and_1 (x : Int) : Go.bits .and .i64 x 1 = x % 2 := by simpa using and_i64 1 (by decide) x
theorem ripparse_is (l : List Int) (hb : Byt l) (hl : l.length ≤ 1048576) (K : Nat) (hK : KO ≤ K) : castellanref4_Parse.f (K + 2) l = some (ipp l) := by
  have g2 := g16_lt hb 2
  have g6 := g16_lt hb 6
  have hr := hd_range l
  have b1 := atz_byt hb 1
  have b8 := atz_byt hb 8
  have b9 := atz_byt hb 9
  unfold castellanref4_Parse.f ipp
  rw [rlook_is l hb hl K hK, ob]
  by_cases c : lk l = 0
  · obtain ⟨z1, z2, z3, z4, z5⟩ := lk_zero c
    have em : mn (mx (g16 l 2) (hd l)) (l.length : Int) = g16 l 2 := by rw [mx_is, mn_min]; omega
    unfold castellanref4_Read.f
    rw [if_pos c, if_pos c, rheader_is l hb, ob, rget16_is l 2 hb (by omega) (by omega), ob, rget16_is l 6 hb (by omega) (by omega), ob, if_pos (by omega), rget16_is l 4 hb (by omega) (by omega), ob, if_pos (by omega), if_pos (by omega), rget32_is l 12 hb (by omega) (by omega), ob, rget32_is l 16 hb (by omega) (by omega), ob, ob, if_pos (by omega), if_pos (by omega), if_pos (by rw [List.length_drop, List.length_take]; simp; omega), ob, em, if_pos (by omega), if_pos (by omega), if_pos (by omega), if_pos (by rw [List.length_drop, List.length_take]; simp; omega), ob, List.nil_append, List.nil_append, atz_rd (by omega), atz_rd (by omega), atz_rd (by omega), w64 (n := atz l 1) (by omega) (by omega), w64 (n := atz l 8) (by omega) (by omega), w64 (n := atz l 9) (by omega) (by omega), and_1, and_1, and_i64_8191]
  · rw [if_neg c, if_neg c]

/-- what an ICMP message is read as -/
def mp (l : List Int) : Int × Int × Int × List Int × Int := if (l.length : Int) < 8 then (0, 0, 0, ([] : List Int), 3) else if ck l = 0 then (rd l 0, rd l 1, g32 l 4, l.drop 8, 0) else (0, 0, 0, ([] : List Int), 4)
theorem rd_byt {l : List Int} (hb : Byt l) (i : Int) : 0 ≤ rd l i ∧ rd l i < 256 := by unfold rd; exact getD_byt hb _
theorem mparse_is (l : List Int) (hb : Byt l) (hl : l.length ≤ 1048576) (K : Nat) (hK : KO ≤ K) : icmp_Parse.f K l = some (mp l) := by
  have hKO : 5 ≤ KO := by unfold KO; omega
  have h0 := rd_byt hb 0
  have h1 := rd_byt hb 1
  unfold icmp_Parse.f mp
  by_cases c : (l.length : Int) < 8
  · rw [if_pos c, if_pos c]
  · rw [if_neg c, if_neg c, right_is l hb hl K hK, ob]
    by_cases c2 : ck l = 0
    · rw [if_pos (by rw [c2]; rfl), if_pos c2, if_pos (by omega), if_pos (by omega), get32_is l 4 hb (by omega) (by omega) (by omega) K (by omega), ob, if_pos (by omega), clone_is _ (by rw [List.length_drop]; omega), ob, w64 (by omega) (by omega), w64 (by omega) (by omega)]
    · rw [if_neg (by simpa using c2), if_neg c2]

theorem rmparse_is (l : List Int) (hb : Byt l) (hl : l.length ≤ 1048576) (K : Nat) (hK : KO ≤ K) : castellanref7_Parse.f K l = some (mp l) := by
  have h0 := rd_byt hb 0
  have h1 := rd_byt hb 1
  unfold castellanref7_Parse.f castellanref7_Read.f mp
  by_cases c : (l.length : Int) < 8
  · rw [if_pos c, if_pos c]
  · rw [if_neg c, if_neg c, rright_is l hb hl K hK, ob]
    by_cases c2 : ck l = 0
    · rw [if_pos (by rw [c2]; rfl), if_pos c2, if_pos (by omega), if_pos (by omega), rget32_is l 4 hb (by omega) (by omega), ob, ob, if_pos (by omega), if_pos (by rw [List.length_drop]; simp; omega), ob, w64 (by omega) (by omega), w64 (by omega) (by omega), List.nil_append]
    · rw [if_neg (by simpa using c2), if_neg c2]

theorem ports_is (l : List Int) (hb : Byt l) (hl : l.length ≤ 1048576) : pack_ports.f l = some (g16 l 0, g16 l 2) := by
  unfold pack_ports.f
  rw [get16_is l 0 hb (by omega) (by omega) (by omega), ob, get16_is l 2 hb (by omega) (by omega) (by omega), ob]

theorem query_some (x : Int) : ∃ q, castellanref7_Query.f x = some q := by
  unfold castellanref7_Query.f
  by_cases c1 : x = 0
  · exact ⟨_, if_pos c1⟩
  rw [if_neg c1]
  by_cases c2 : x = 8
  · exact ⟨_, if_pos c2⟩
  rw [if_neg c2]
  by_cases c3 : x = 13
  · exact ⟨_, if_pos c3⟩
  rw [if_neg c3]
  exact ⟨_, rfl⟩
theorem inner_some (l : List Int) (hb : Byt l) (hl : l.length ≤ 1048576) : ∃ r, castellanref8_inner.f l = some r := by
  have hr := hd_range l
  unfold castellanref8_inner.f
  rw [rheader_is l hb, ob]
  by_cases c1 : (l.length : Int) < 20
  · exact ⟨_, if_pos c1⟩
  rw [if_neg c1]
  by_cases c2 : rd l 0 / 16 = 4
  · rw [if_pos c2]
    by_cases c3 : hd l < 20
    · exact ⟨_, if_pos c3⟩
    rw [if_neg c3, w64 (n := hd l + 8) (by omega) (by omega)]
    by_cases c4 : (l.length : Int) < hd l + 8
    · exact ⟨_, if_pos c4⟩
    rw [if_neg c4, rget16_is l 6 hb (by omega) (by omega), ob]
    by_cases c5 : Go.bits .and .i64 (g16 l 6) 8191 = 0
    · rw [if_pos c5, rget32_is l 12 hb (by omega) (by omega), ob, rget32_is l 16 hb (by omega) (by omega), ob]
      unfold castellanref8_inner.g
      rw [w64 (n := hd l + 2) (by omega) (by omega), w64 (n := hd l + 4) (by omega) (by omega), rget16_is l (hd l) hb (by omega) (by omega), ob, rget16_is l (hd l + 2) hb (by omega) (by omega), ob, rget16_is l (hd l + 4) hb (by omega) (by omega)]
      by_cases p1 : wrap64 (rd l 9) = 6
      · exact ⟨_, if_pos p1⟩
      rw [if_neg p1]
      by_cases p2 : wrap64 (rd l 9) = 17
      · exact ⟨_, if_pos p2⟩
      rw [if_neg p2]
      by_cases p3 : wrap64 (rd l 9) = 1
      · rw [if_pos p3, if_pos ⟨by omega, by omega⟩]
        obtain ⟨q, hq⟩ := query_some (wrap64 (rd l (hd l)))
        rw [hq, ob, ob]
        cases q
        · exact ⟨_, if_neg Bool.false_ne_true⟩
        · exact ⟨_, if_pos rfl⟩
      · exact ⟨_, if_neg p3⟩
    · exact ⟨_, if_neg c5⟩
  · exact ⟨_, if_neg c2⟩
theorem rread_is (l : List Int) (hb : Byt l) (hl : l.length ≤ 1048576) (c : ¬ (l.length : Int) < 8) : castellanref7_Read.f l = some (rd l 0, rd l 1, g32 l 4, l.drop 8) := by
  have h0 := rd_byt hb 0
  have h1 := rd_byt hb 1
  unfold castellanref7_Read.f
  rw [if_pos (by omega), if_pos (by omega), rget32_is l 4 hb (by omega) (by omega), ob, ob, if_pos (by omega), if_pos (by rw [List.length_drop]; simp; omega), w64 (by omega) (by omega), w64 (by omega) (by omega), List.nil_append]

def tp (l : List Int) : Int × Int × Int × Int × Int × Int × Int × List Int × List Int × Int :=
  if (l.length : Int) < 20 then (0, 0, 0, 0, 0, 0, 0, ([] : List Int), ([] : List Int), 3) else if rd l 12 / 16 * 4 < 20 then (0, 0, 0, 0, 0, 0, 0, ([] : List Int), ([] : List Int), 2) else if rd l 12 / 16 * 4 > (l.length : Int) then (0, 0, 0, 0, 0, 0, 0, ([] : List Int), ([] : List Int), 3)
  else (g16 l 0, g16 l 2, g32 l 4, g32 l 8, rd l 13 % 64, g16 l 14, g16 l 18, (l.take (rd l 12 / 16 * 4).toNat).drop 20, l.drop (rd l 12 / 16 * 4).toNat, 0)
theorem tcpparse_is (l : List Int) (hb : Byt l) (hl : l.length ≤ 1048576) (K : Nat) (hK : 5 ≤ K) : tcp_Parse.f K l = some (tp l) := by
  have h12 := rd_byt hb 12
  have h13 := rd_byt hb 13
  unfold tcp_Parse.f tp
  by_cases c : (l.length : Int) < 20
  · rw [if_pos c, if_pos c]
  rw [if_neg c, if_neg c, if_pos (by omega), w64 (n := rd l 12 / 16) (by omega) (by omega), w64 (n := rd l 12 / 16 * 4) (by omega) (by omega)]
  by_cases c2 : rd l 12 / 16 * 4 < 20
  · rw [if_neg (by omega), if_pos c2, if_pos c2]
  by_cases c3 : rd l 12 / 16 * 4 > (l.length : Int)
  · rw [if_pos (by omega), if_neg c2, if_pos c3]
  rw [if_neg (by omega), if_neg c2, if_neg c2, if_neg c3, get16_is _ 0 hb (by omega) (by omega) (by omega), ob, get16_is _ 2 hb (by omega) (by omega) (by omega), ob, get32_is _ 4 hb (by omega) (by omega) (by omega) K hK, ob, get32_is _ 8 hb (by omega) (by omega) (by omega) K hK, ob, if_pos (by omega), get16_is _ 14 hb (by omega) (by omega) (by omega), ob, get16_is _ 18 hb (by omega) (by omega) (by omega), ob, if_pos (by omega), if_pos (by omega), clone_is _ (by rw [List.length_drop, List.length_take]; omega), ob, if_pos (by omega), clone_is _ (by rw [List.length_drop]; omega), ob, and_u8_63 _ h13.1 h13.2, w64 (n := rd l 13 % 64) (by omega) (by omega)]
theorem rtcpparse_is (l : List Int) (hb : Byt l) (hl : l.length ≤ 1048576) : castellanref5_Parse.f l = some (tp l) := by
  have h12 := rd_byt hb 12
  have h13 := rd_byt hb 13
  unfold castellanref5_Parse.f tp
  by_cases c : (l.length : Int) < 20
  · rw [if_pos c, if_pos c]
  rw [if_neg c, if_neg c, if_pos (by omega), w64 (n := rd l 12 / 16) (by omega) (by omega), w64 (n := 4 * (rd l 12 / 16)) (by omega) (by omega), Int.mul_comm 4]
  by_cases c2 : rd l 12 / 16 * 4 < 20
  · rw [if_pos c2, if_pos c2]
  by_cases c3 : rd l 12 / 16 * 4 > (l.length : Int)
  · rw [if_neg c2, if_neg c2, if_pos c3, if_pos c3]
  rw [if_neg c2, if_neg c2, if_neg c3, if_neg c3, rget16_is _ 0 hb (by omega) (by omega), ob, rget16_is _ 2 hb (by omega) (by omega), ob, rget32_is _ 4 hb (by omega) (by omega), ob, rget32_is _ 8 hb (by omega) (by omega), ob, if_pos (by omega), rget16_is _ 14 hb (by omega) (by omega), ob, rget16_is _ 18 hb (by omega) (by omega), ob, ob, if_pos (by omega), if_pos (by omega), if_pos (by rw [List.length_drop, List.length_take]; simp; omega), ob, if_pos (by omega), if_pos (by rw [List.length_drop]; simp; omega), List.nil_append, List.nil_append, and_u8_63 _ h13.1 h13.2, w64 (n := rd l 13 % 64) (by omega) (by omega)]
def up (l : List Int) : Int × Int × List Int × Int := if (l.length : Int) < 8 then (0, 0, ([] : List Int), 3) else if g16 l 4 < 8 then (0, 0, ([] : List Int), 2) else if g16 l 4 > (l.length : Int) then (0, 0, ([] : List Int), 3) else (g16 l 0, g16 l 2, (l.take (g16 l 4).toNat).drop 8, 0)
theorem udparse_is (l : List Int) (hb : Byt l) (hl : l.length ≤ 1048576) : udp_Parse.f l = some (up l) := by
  have hg := g16_lt hb 4
  unfold udp_Parse.f up
  rw [get16_is l 4 hb (by omega) (by omega) (by omega), ob]
  by_cases c1 : (l.length : Int) < 8
  · rw [if_pos c1, if_pos c1]
  rw [if_neg c1, if_neg c1]
  by_cases c2 : g16 l 4 < 8
  · rw [if_pos c2, if_pos c2]
  rw [if_neg c2, if_neg c2]
  by_cases c3 : g16 l 4 > (l.length : Int)
  · rw [if_pos c3, if_pos c3]
  rw [if_neg c3, if_neg c3, get16_is l 0 hb (by omega) (by omega) (by omega), ob, get16_is l 2 hb (by omega) (by omega) (by omega), ob, if_pos (by omega), if_pos (by omega), clone_is _ (by rw [List.length_drop, List.length_take]; omega), ob]
theorem rudparse_is (l : List Int) (hb : Byt l) (hl : l.length ≤ 1048576) : castellanref6_Parse.f l = some (up l) := by
  have hg := g16_lt hb 4
  unfold castellanref6_Parse.f up
  rw [rget16_is l 4 hb (by omega) (by omega), ob]
  by_cases c1 : (l.length : Int) < 8
  · rw [if_pos c1, if_pos c1]
  rw [if_neg c1, if_neg c1]
  by_cases c2 : g16 l 4 < 8
  · rw [if_pos c2, if_pos c2]
  rw [if_neg c2, if_neg c2]
  by_cases c3 : g16 l 4 > (l.length : Int)
  · rw [if_pos c3, if_pos c3]
  rw [if_neg c3, if_neg c3, rget16_is l 0 hb (by omega) (by omega), ob, rget16_is l 2 hb (by omega) (by omega), ob, ob, if_pos (by omega), if_pos (by omega), if_pos (by rw [List.length_drop, List.length_take]; simp; omega), List.nil_append]
theorem and_8191 (x : Int) : Go.bits .and .i64 x 8191 = x % 8192 := by simpa using and_i64 13 (by decide) x
theorem query_bad (x : Int) : (castellanref7_Query.f x = some false ∧ ∃ b, castellanref7_Bad.f x = some b) ∨ (castellanref7_Query.f x = some true ∧ castellanref7_Bad.f x = some false) := by
  by_cases h0 : x = 0
  · subst h0; exact .inr ⟨rfl, rfl⟩
  by_cases h1 : x = 8
  · subst h1; exact .inr ⟨rfl, rfl⟩
  by_cases h2 : x = 13
  · subst h2; exact .inr ⟨rfl, rfl⟩
  by_cases h3 : x = 14
  · subst h3; exact .inr ⟨rfl, rfl⟩
  refine .inl ⟨?_, ?_⟩
  · unfold castellanref7_Query.f
    rw [if_neg h0, if_neg h1, if_neg h2, beq_eq_false_iff_ne.mpr h3]
  · unfold castellanref7_Bad.f
    by_cases c1 : x = 3
    · exact ⟨_, if_pos c1⟩
    rw [if_neg c1]
    by_cases c2 : x = 4
    · exact ⟨_, if_pos c2⟩
    rw [if_neg c2]
    by_cases c3 : x = 5
    · exact ⟨_, if_pos c3⟩
    rw [if_neg c3]
    by_cases c4 : x = 11
    · exact ⟨_, if_pos c4⟩
    rw [if_neg c4]
    exact ⟨_, rfl⟩
theorem atz_drop (l : List Int) (n : Nat) {i : Int} (h : 0 ≤ i) : atz (l.drop n) i = atz l ((n : Int) + i) := by
  unfold atz
  rw [if_pos h, if_pos (by omega), List.getD_eq_getElem?_getD, List.getD_eq_getElem?_getD, List.getElem?_drop]
  congr 2
  omega
theorem iquery_is (x : Int) : icmp_Query.f x = castellanref7_Query.f x := by
  unfold icmp_Query.f castellanref7_Query.f
  by_cases c1 : x = 0
  · rw [if_pos c1, if_pos c1]
  rw [if_neg c1, if_neg c1]
  by_cases c2 : x = 8
  · rw [if_pos c2, if_pos c2]
  rw [if_neg c2, if_neg c2]
  by_cases c3 : x = 13
  · rw [if_pos c3, if_pos c3]
  rw [if_neg c3, if_neg c3]
  by_cases c4 : x = 14
  · rw [if_pos c4, beq_iff_eq.mpr c4]
  · rw [if_neg c4, beq_eq_false_iff_ne.mpr c4]
theorem ibad_is (x : Int) : icmp_Bad.f x = castellanref7_Bad.f x := by
  unfold icmp_Bad.f castellanref7_Bad.f
  by_cases c1 : x = 3
  · rw [if_pos c1, if_pos c1]
  rw [if_neg c1, if_neg c1]
  by_cases c2 : x = 4
  · rw [if_pos c2, if_pos c2]
  rw [if_neg c2, if_neg c2]
  by_cases c3 : x = 5
  · rw [if_pos c3, if_pos c3]
  rw [if_neg c3, if_neg c3]
  by_cases c4 : x = 11
  · rw [if_pos c4, if_pos c4]
  rw [if_neg c4, if_neg c4]
  by_cases c5 : x = 12
  · rw [if_pos c5, beq_iff_eq.mpr c5]
  · rw [if_neg c5, beq_eq_false_iff_ne.mpr c5]
theorem inner_both (K : Nat) (hK : KO ≤ K) (l : List Int) (hb : Byt l) (hl : l.length ≤ 1048576) : ∃ r, castellanref8_inner.f l = some r ∧ pack_inner.f K l = some r := by
  have hr := hd_range l
  have h5 : 5 ≤ K := by unfold KO at hK; omega
  unfold castellanref8_inner.f pack_inner.f
  rw [rheader_is l hb, header_is l hb, ob, ob]
  by_cases c1 : (l.length : Int) < 20
  · exact ⟨_, if_pos c1, if_pos c1⟩
  rw [if_neg c1, if_neg c1]
  by_cases c2 : rd l 0 / 16 = 4
  rotate_left
  · exact ⟨_, if_neg c2, if_neg c2⟩
  rw [if_pos c2, if_pos c2]
  by_cases c3 : hd l < 20
  · exact ⟨_, if_pos c3, if_pos c3⟩
  rw [if_neg c3, if_neg c3, w64 (n := hd l + 8) (by omega) (by omega)]
  by_cases c4 : (l.length : Int) < hd l + 8
  · exact ⟨_, if_pos c4, if_pos c4⟩
  rw [if_neg c4, if_neg c4, rget16_is l 6 hb (by omega) (by omega), get16_is l 6 hb (by omega) (by omega) (by omega), ob, ob]
  by_cases c5 : Go.bits .and .i64 (g16 l 6) 8191 = 0
  rotate_left
  · exact ⟨_, if_neg c5, if_neg c5⟩
  have hdl : ((l.drop (hd l).toNat).length : Int) = l.length - hd l := by rw [List.length_drop]; omega
  have hdb := byt_drop hb (hd l).toNat
  rw [if_pos c5, if_pos c5, rget32_is l 12 hb (by omega) (by omega), ob, rget32_is l 16 hb (by omega) (by omega), ob, get32_is l 12 hb (by omega) (by omega) (by omega) K h5, ob, get32_is l 16 hb (by omega) (by omega) (by omega) K h5, ob, if_pos ⟨by omega, by omega, by omega⟩]
  have e0 : rd (l.drop (hd l).toNat) 0 = rd l (hd l) := by rw [atz_rd (by decide), atz_rd (by omega), atz_drop l _ (by decide)]; congr 1; omega
  have eg : ∀ i : Int, 0 ≤ i → g16 (l.drop (hd l).toNat) i = g16 l (hd l + i) := fun i hi => by
    unfold g16
    rw [atz_drop l _ hi, atz_drop l _ (by omega), show (((hd l).toNat : Int) + i) = hd l + i by omega, show (((hd l).toNat : Int) + (i + 1)) = hd l + i + 1 by omega]
  unfold castellanref8_inner.g pack_inner.g
  rw [w64 (n := hd l + 2) (by omega) (by omega), w64 (n := hd l + 4) (by omega) (by omega), rget16_is l (hd l) hb (by omega) (by omega), ob, rget16_is l (hd l + 2) hb (by omega) (by omega), ob, rget16_is l (hd l + 4) hb (by omega) (by omega), ports_is _ hdb (by omega), ob, eg 0 (by omega), eg 2 (by omega), get16_is _ 4 hdb (by omega) (by omega) (by omega), eg 4 (by omega), Int.add_zero, e0, iquery_is]
  by_cases p1 : wrap64 (rd l 9) = 6
  · exact ⟨_, if_pos p1, if_pos p1⟩
  rw [if_neg p1, if_neg p1]
  by_cases p2 : wrap64 (rd l 9) = 17
  · exact ⟨_, if_pos p2, if_pos p2⟩
  rw [if_neg p2, if_neg p2]
  by_cases p3 : wrap64 (rd l 9) = 1
  · rw [if_pos p3, if_pos p3, if_pos ⟨by omega, by omega⟩]
    obtain ⟨q, hq⟩ := query_some (wrap64 (rd l (hd l)))
    rw [hq, ob, ob, ob]
    cases q
    · exact ⟨_, if_neg Bool.false_ne_true, if_neg Bool.false_ne_true⟩
    · exact ⟨_, if_pos rfl, if_pos rfl⟩
  · exact ⟨_, if_neg p3, if_neg p3⟩
theorem icmp_both (K : Nat) (hK : KO ≤ K) (cl : Int) (hcl : cl = 0 ∨ cl = 1) (d : List Int) (hb : Byt d) (hl : d.length ≤ 1048576) : ∃ a ty co key e, castellanref8_message.f K cl d = some (a, ty, co, key, e) ∧ pack_ofICMP.f K cl d = some (a, ty, co, key, e) := by
  have b0 := rd_byt hb 0
  have b1 := rd_byt hb 1
  unfold castellanref8_message.f pack_ofICMP.f
  rw [rmparse_is d hb hl K hK, mparse_is d hb hl K hK, ob, ob]
  by_cases c8 : (d.length : Int) < 8
  · have hm : (mp d).2.2.2.2 = 3 := by unfold mp; rw [if_pos c8]
    rw [hm, if_pos rfl]
    rcases hcl with rfl | rfl
    · exact ⟨_, _, _, _, _, rfl, by rw [if_neg (by decide), if_neg (by decide)]⟩
    · exact ⟨_, _, _, _, _, rfl, by rw [if_pos rfl, if_pos c8]⟩
  have h3 : ¬ (mp d).2.2.2.2 = 3 := by
    unfold mp
    rw [if_neg c8]
    by_cases c : ck d = 0
    · rw [if_pos c]; exact fun h => absurd (show (0 : Int) = 3 from h) (by decide)
    · rw [if_neg c]; exact fun h => absurd (show (4 : Int) = 3 from h) (by decide)
  rw [if_neg h3]
  have hg : ∃ a ty co key e, castellanref8_message.g d = some (a, ty, co, key, e) ∧ pack_ofICMP.g K d = some (a, ty, co, key, e) := by
    obtain ⟨key, hk1, hk2⟩ := inner_both K hK (d.drop 8) (byt_drop hb 8) (by rw [List.length_drop]; omega)
    have e16 : wrap64 (g32 d 4 / 65536) = g16 d 4 := by
      have x4 := atz_byt hb 4
      have x5 := atz_byt hb (4 + 1)
      have x6 := atz_byt hb (4 + 2)
      have x7 := atz_byt hb (4 + 3)
      rw [w64 (by unfold g32; omega) (by unfold g32; omega)]
      unfold g32 g16
      omega
    unfold castellanref8_message.g pack_ofICMP.g
    rw [rread_is d hb hl c8, ob, if_pos (by omega), w64 (n := rd d 0) (by omega) (by omega), w64 (n := rd d 1) (by omega) (by omega), iquery_is, ibad_is, get16_is d 4 hb (by omega) (by omega) (by omega), ob]
    dsimp only
    rcases query_bad (rd d 0) with ⟨q1, b, q2⟩ | ⟨q1, q2⟩
    · rw [q1, ob, ob, q2, ob, ob, if_neg Bool.false_ne_true, if_neg Bool.false_ne_true]
      cases b with
      | false => exact ⟨_, _, _, _, _, if_neg Bool.false_ne_true, if_neg Bool.false_ne_true⟩
      | true => rw [if_pos rfl, if_pos rfl, hk1, hk2, ob]; (try rw [ob]); exact ⟨_, _, _, _, _, rfl, rfl⟩
    · rw [q1, ob, ob, q2, ob, if_pos (show true = true from rfl), if_pos (show true = true from rfl), if_neg Bool.false_ne_true, e16]
      exact ⟨_, _, _, _, _, rfl, rfl⟩
  obtain ⟨a, ty, co, key, e, g1, g2⟩ := hg
  rw [g1, g2]
  by_cases c2 : (mp d).2.2.2.2 = 0
  · rw [if_pos c2, if_pos c2]
    rcases hcl with rfl | rfl
    · exact ⟨_, _, _, _, _, rfl, if_neg (by decide)⟩
    · exact ⟨_, _, _, _, _, rfl, by rw [if_pos rfl, if_neg c8]⟩
  · rw [if_neg c2, if_neg c2]
    rcases hcl with rfl | rfl
    · exact ⟨_, _, _, _, _, if_pos rfl, if_neg (by decide)⟩
    · exact ⟨_, _, _, _, _, if_neg (by decide), by rw [if_pos rfl, if_neg c8]⟩

theorem PackParses : castellanlaw8_PackParses.Pure := by
  intro l h1 h2 hb
  have hb := byt_of hb
  obtain ⟨K, hK⟩ : ∃ K : Nat, KO = K := ⟨_, rfl⟩
  have hK5 : 5 ≤ K := by rw [← hK]; unfold KO; omega
  refine ⟨K + 2, ?_⟩
  unfold castellanlaw8_PackParses.f
  by_cases c : (l.length : Int) > 2000
  · exact .inl c
  refine .inr ⟨c, ?_⟩
  have hl : l.length ≤ 1048576 := by omega
  unfold pack_Parse.f castellanref8_Parse.f
  rw [ipparse_is l hb hl K (by omega), ripparse_is l hb hl K (by omega), ob, ob]
  have hdb : Byt (ipp l).2.2.2.2.2.2.2.2.2.2.1 ∧ (ipp l).2.2.2.2.2.2.2.2.2.2.1.length ≤ 1048576 := by
    unfold ipp
    split
    · exact ⟨byt_drop (byt_take hb _) _, by dsimp only; rw [List.length_drop, List.length_take]; omega⟩
    · exact ⟨byt_nil, by simp⟩
  generalize ipp l = p at hdb
  obtain ⟨t1, t2, t3, t4, t5, t6, t7, t8, t9, t10, d, t12⟩ := p
  dsimp only at hdb ⊢
  obtain ⟨db, dl⟩ := hdb
  unfold pack_Parse.g castellanref8_Parse.g
  by_cases c1 : t12 = 0
  rotate_left
  · rw [if_neg c1]; (try rw [if_neg c1]); exact ⟨_, _, _, _, _, _, _, _, _, _, _, _, _, _, _, _, _, _, _, rfl, rfl⟩
  rw [if_pos c1]; (try rw [if_pos c1])
  by_cases c2 : t5 = 0
  rotate_left
  · rw [if_neg c2]; (try rw [if_neg c2]); exact ⟨_, _, _, _, _, _, _, _, _, _, _, _, _, _, _, _, _, _, _, rfl, rfl⟩
  rw [if_pos c2]; (try rw [if_pos c2])
  have hcl : (if t4 = true then (1 : Int) else 0) = 0 ∨ (if t4 = true then (1 : Int) else 0) = 1 := by cases t4 <;> simp
  generalize (if t4 = true then (1 : Int) else 0) = cl at hcl
  unfold castellanref8_inside.f
  by_cases p1 : t7 = 6
  · rw [if_pos p1, if_pos p1, tcpparse_is d db dl (K + 2) (by omega), rtcpparse_is d db dl, ob, ob, ob]
    (try dsimp only)
    by_cases e : (tp d).2.2.2.2.2.2.2.2.2 = 0
    · rw [if_pos e]; (try rw [if_pos e]); exact ⟨_, _, _, _, _, _, _, _, _, _, _, _, _, _, _, _, _, _, _, rfl, rfl⟩
    · rw [if_neg e]; (try rw [if_neg e]); exact ⟨_, _, _, _, _, _, _, _, _, _, _, _, _, _, _, _, _, _, _, rfl, rfl⟩
  rw [if_neg p1]; (try rw [if_neg p1])
  by_cases p2 : t7 = 17
  · rw [if_pos p2, if_pos p2, udparse_is d db dl, rudparse_is d db dl, ports_is d db dl, rget16_is d 0 db (by omega) (by omega), rget16_is d 2 db (by omega) (by omega), ob, ob, ob, ob, ob]
    (try dsimp only)
    by_cases c8 : (d.length : Int) < 8
    · have hu : (up d).2.2.2 = 3 := by unfold up; rw [if_pos c8]
      rw [hu, if_pos c8, if_pos c8, if_neg (show ¬ (3 : Int) < 2 by decide), ob]
      (try dsimp only)
      rw [if_neg (show ¬ (3 : Int) = 0 by decide)]
      have e3 : (if cl = 1 then (3 : Int) else 3) = 3 := by split <;> rfl
      rw [e3, if_neg (show ¬ (3 : Int) = 0 by decide)]
      exact ⟨_, _, _, _, _, _, _, _, _, _, _, _, _, _, _, _, _, _, _, rfl, rfl⟩
    rw [if_neg c8]; (try rw [if_neg c8])
    by_cases e : (up d).2.2.2 = 0
    · have e0 : (if cl = 1 then (0 : Int) else (up d).2.2.2) = 0 := by rw [e]; split <;> rfl
      rw [e0, if_pos e, ob]
      (try dsimp only)
      rw [if_pos rfl]; (try rw [if_pos rfl])
      exact ⟨_, _, _, _, _, _, _, _, _, _, _, _, _, _, _, _, _, _, _, rfl, rfl⟩
    rw [if_neg e]
    rcases hcl with rfl | rfl
    · have hn : ¬ (up d).2.2.2 < 2 := by
        intro h
        unfold up at h e
        rw [if_neg c8] at h e
        split at h
        · exact absurd h (by decide)
        · rename_i c9
          rw [if_neg c9] at e
          split at h
          · exact absurd h (by decide)
          · rename_i c10
            rw [if_neg c10] at e
            exact e rfl
      rw [if_pos rfl, if_neg hn, ob, if_neg (show ¬ (0 : Int) = 1 by decide), if_neg e]
      (try dsimp only)
      rw [if_neg e]
      exact ⟨_, _, _, _, _, _, _, _, _, _, _, _, _, _, _, _, _, _, _, rfl, rfl⟩
    · rw [if_neg (show ¬ (1 : Int) = 0 by decide), ob, if_pos rfl, if_pos rfl]
      (try dsimp only)
      (try rw [if_pos rfl])
      exact ⟨_, _, _, _, _, _, _, _, _, _, _, _, _, _, _, _, _, _, _, rfl, rfl⟩
  rw [if_neg p2]; (try rw [if_neg p2])
  by_cases p3 : t7 = 1
  · obtain ⟨a, ty, co, key, e, m1, m2⟩ := icmp_both (K + 2) (by omega) cl hcl d db dl
    rw [if_pos p3, if_pos p3, m1, m2, ob, ob, ob]
    (try dsimp only)
    by_cases ce : e = 0
    · rw [if_pos ce]; (try rw [if_pos ce]); exact ⟨_, _, _, _, _, _, _, _, _, _, _, _, _, _, _, _, _, _, _, rfl, rfl⟩
    · rw [if_neg ce]; (try rw [if_neg ce]); exact ⟨_, _, _, _, _, _, _, _, _, _, _, _, _, _, _, _, _, _, _, rfl, rfl⟩
  · rw [if_neg p3, if_neg p3, ob]
    (try dsimp only)
    rw [if_pos rfl]
    exact ⟨_, _, _, _, _, _, _, _, _, _, _, _, _, _, _, _, _, _, _, rfl, rfl⟩

end Go.Proofs.Ytkdibloahkhgoaa.Pure
