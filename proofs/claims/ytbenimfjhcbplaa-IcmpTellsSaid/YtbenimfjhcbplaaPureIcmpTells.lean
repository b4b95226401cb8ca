/- Parse, Build, Same, Quote, Bad and Query agree with the specification for all arguments. No condition besides the law's own guard. -/
import Derived.Test.YtbenimfjhcbplaaQIcmpTellsx7
import Derived.Test.YtbenimfjhcbplaaBase
namespace Go.Proofs.Ytbenimfjhcbplaa.Pure
open Go.RowKit Go.Proofs.Ytbenimfjhcbplaa.QIcmpTells Go.Proofs.YtbenimfjhcbplaaW.PrintWords Go.Proofs.YtbenimfjhcbplaaW.PrintLast Go.Proofs.YtbenimfjhcbplaaW.PrintMore Go.Proofs.Ytbenimfjhcbplaa.Base
open Go
set_option linter.unusedVariables false
set_option linter.unusedSimpArgs false

theorem at_is (l : List Int) (i m : Int) (hl : l.length ≤ 1099511627776) (h0 : -9223372036854775808 ≤ i) (h1 : i ≤ 2199023255552) (hm0 : 0 ≤ m) (hm : m ≤ 8) : word_at.f l i m = some (atz l (i + m)) := by
  unfold word_at.f
  have e1 : wrap64 (-m) = -m := w64 (by omega) (by omega)
  have e2 : wrap64 ((l.length : Int) - m) = l.length - m := w64 (by omega) (by omega)
  rw [e1, e2]
  by_cases c1 : i < -m
  · rw [if_pos c1, atz_neg l (by omega)]
  · rw [if_neg c1]
    by_cases c2 : i ≥ (l.length : Int) - m
    · rw [if_pos c2, atz_ge l (by omega)]
    · rw [if_neg c2]
      have e3 : wrap64 (i + m) = i + m := w64 (by omega) (by omega)
      rw [e3, if_pos (by omega), if_pos (by omega)]
      unfold rd atz; rw [if_pos (by omega)]

theorem get32_step (l : List Int) (i : Int) (hb : Byt l) (hl : l.length ≤ 1099511627776) (h0 : -9223372036854775808 ≤ i) (h1 : i ≤ 2199023255552) (k : Nat) (x j : Int) (hx0 : 0 ≤ x) (hx : x < 16777216) (hj0 : 0 ≤ j) (hj : j < 4) :
    word_Get32.l0 (k + 1) l i x j = word_Get32.l0 k l i (x * 256 + atz l (i + j)) (j + 1) := by
  have b0 := atz_byt hb (i + j)
  simp only [word_Get32.l0]
  rw [if_pos hj, at_is l i j hl h0 h1 hj0 (by omega)]
  simp only [Option.bind_some]
  rw [w64 (n := j + 1) (by omega) (by omega), Int.emod_eq_of_lt (a := x * 256) (by omega) (by omega), Int.emod_eq_of_lt (a := atz l (i + j)) (by omega) (by omega), or_u32_8 _ _ hx0 hx (by omega) (by omega)]
theorem get32_is (l : List Int) (i : Int) (hb : Byt l) (hl : l.length ≤ 1099511627776) (h0 : -9223372036854775808 ≤ i) (h1 : i ≤ 2199023255552) (k : Nat) (hk : 5 ≤ k) : word_Get32.f k l i = some (g32 l i) := by
  obtain ⟨k, rfl⟩ : ∃ m, k = m + 5 := ⟨k - 5, by omega⟩
  have b0 := atz_byt hb (i + 0)
  have b1 := atz_byt hb (i + (0 + 1))
  have b2 := atz_byt hb (i + (0 + 1 + 1))
  have b3 := atz_byt hb (i + (0 + 1 + 1 + 1))
  unfold word_Get32.f
  rw [get32_step l i hb hl h0 h1 (k + 4) 0 0 (by omega) (by omega) (by omega) (by omega), get32_step l i hb hl h0 h1 (k + 3) _ _ (by omega) (by omega) (by omega) (by omega),
    get32_step l i hb hl h0 h1 (k + 2) _ _ (by omega) (by omega) (by omega) (by omega), get32_step l i hb hl h0 h1 (k + 1) _ _ (by omega) (by omega) (by omega) (by omega)]
  simp only [word_Get32.l0]
  rw [if_neg (by omega)]
  unfold g32
  rw [show i + (0 + 1) = i + 1 by omega, show i + (0 + 1 + 1) = i + 2 by omega, show i + (0 + 1 + 1 + 1) = i + 3 by omega, Int.add_zero]
  congr 1; omega

theorem put16_is (n : Int) : word_Put16.f n = some (p16 n) := rfl

theorem concat_go (L : List (List Int)) (hL : L.length < 4611686018427387904) : ∀ (d k : Nat) (x : List Int) (i : Nat), L.length = i + d → d < k → x.length + ((L.drop i).flatten).length < 140737488355328 → slices_Concat_byte_byte.l0 k x L (L.length : Int) (i : Int) = some (x ++ (L.drop i).flatten)
  | _, 0, _, _, _, hk, _ => absurd hk (by omega)
  | d, k + 1, x, i, hd, hk, hx => by
    simp only [slices_Concat_byte_byte.l0]
    by_cases c : (i : Int) < (L.length : Int)
    · have e : L.drop i = L.getD i [] :: L.drop (i + 1) := drop_cons_getD_L (by omega)
      have er : rd_L1 L (i : Int) = L.getD i [] := by unfold rd_L1; rw [show ((i : Int)).toNat = i by omega]
      rw [e, List.flatten_cons, List.length_append] at hx
      rw [if_pos c, if_pos (by omega), if_pos c, er, if_pos (by omega), w64 (n := (i : Int) + 1) (by omega) (by omega), show ((i : Int) + 1) = ((i + 1 : Nat) : Int) by omega]
      cases d with
      | zero => omega
      | succ d =>
        rw [concat_go L hL d k _ (i + 1) (by omega) (by omega) (by rw [List.length_append]; omega), e, List.flatten_cons, List.append_assoc]
    · rw [if_neg c, List.drop_of_length_le (by omega)]; simp
theorem join_is (L : List (List Int)) (k : Nat) (hL : L.length < 4611686018427387904) (hk : L.length < k) (h : L.flatten.length < 140737488355328) : word_Join.f k L = some L.flatten := by
  unfold word_Join.f slices_Concat_byte_byte.f
  have h0 := concat_go L hL L.length k [] 0 (by omega) hk (by simpa using h)
  rw [List.drop_zero, List.nil_append] at h0
  rw [show ((0 : Nat) : Int) = 0 from rfl] at h0
  rw [h0, ob]

theorem folded_is : ∀ (d k : Nat) (n : Int), 0 ≤ n → n ≤ 65535 * (d + 1) → n < 4611686018427387904 → d < k → sum_folded.l0 k n = some (fo n)
  | d, 0, _, _, _, _, hk => absurd hk (by omega)
  | d, k + 1, n, h0, h1, h2, hk => by
    simp only [sum_folded.l0]
    by_cases c : n > 65535
    · rw [if_pos c, and_u64_65535, wrap_u64, Int.emod_eq_of_lt (by omega) (by omega)]
      cases d with
      | zero => omega
      | succ d => rw [folded_is d k _ (by omega) (by omega) (by omega) (by omega), fo_step (by omega)]
    · rw [if_neg c, fo_small h0 (by omega)]
theorem foldedf_is (d k : Nat) (n : Int) (h0 : 0 ≤ n) (h1 : n ≤ 65535 * (d + 1)) (h2 : n < 4611686018427387904) (hk : d < k) : sum_folded.f k n = some (fo n) := folded_is d k n h0 h1 h2 hk

theorem of_l1 (rows : List (List Int)) (n x11 : Int) (row : List Int) (hb : Byt row) (hl : row.length ≤ 1099511627776) : ∀ (d k i : Nat) (acc : Int) (low : Bool), i + d = row.length → 0 ≤ acc → acc + 65280 * d < 4611686018427387904 →
    sum_Of.l1 (k + d + 1) acc low rows n x11 row (row.length : Int) (i : Int) = sum_Of.l0 k (acc + sp low (row.drop i)) (low ^^ odd d) rows n (wrap64 (x11 + 1))
  | 0, k, i, acc, low, hi, h0, h1 => by
    simp only [sum_Of.l1]
    rw [if_neg (by omega), List.drop_eq_nil_of_le (by omega)]
    simp [sp, odd]
  | d + 1, k, i, acc, low, hi, h0, h1 => by
    have hlt : i < row.length := by omega
    have b := getD_byt hb i
    have e : k + (d + 1) + 1 = (k + d + 1) + 1 := by omega
    rw [e, sum_Of.l1]
    rw [if_pos (by omega), if_pos (by omega), if_pos (by omega)]
    have er : rd row (i : Int) = row.getD i 0 := by unfold rd; simp
    have ew : wrap64 ((i : Int) + 1) = ((i + 1 : Nat) : Int) := by rw [w64 (by omega) (by omega)]; omega
    rw [er, ew, drop_cons_getD hlt]
    cases low with
    | true =>
      rw [if_pos rfl, wrap_u64, wrap_u64, Int.emod_eq_of_lt (a := row.getD i 0) (by omega) (by omega), Int.emod_eq_of_lt (a := acc + row.getD i 0) (by omega) (by omega), of_l1 rows n x11 row hb hl d k (i + 1) _ _ (by omega) (by omega) (by omega)]
      rw [odd_succ, sp, Int.add_assoc]; simp
    | false =>
      rw [if_neg (by decide), wrap_u64, wrap_u64, wrap_u64, Int.emod_eq_of_lt (a := row.getD i 0) (by omega) (by omega), Int.emod_eq_of_lt (a := row.getD i 0 * 256) (by omega) (by omega), Int.emod_eq_of_lt (a := acc + row.getD i 0 * 256) (by omega) (by omega), of_l1 rows n x11 row hb hl d k (i + 1) _ _ (by omega) (by omega) (by omega)]
      rw [odd_succ, sp, Int.add_assoc]; simp
theorem of_l0 (rows : List (List Int)) (hb : BytL rows) (hl : rows.flatten.length ≤ 1048576) (hn : rows.length ≤ 1048576) : ∀ (m k j : Nat) (acc : Int) (low : Bool), j + m = rows.length → 0 ≤ acc → acc + 65280 * (rows.drop j).flatten.length ≤ 68451041280 →
    2 * m + (rows.drop j).flatten.length + 1048576 < k → sum_Of.l0 k acc low rows (rows.length : Int) (j : Int) = some (65535 - fo (acc + sp low (rows.drop j).flatten))
  | 0, 0, _, _, _, _, _, _, hk => absurd hk (by omega)
  | 0, k + 1, j, acc, low, hj, h0, h1, hk => by
    simp only [sum_Of.l0]
    rw [if_neg (by omega), List.drop_eq_nil_of_le (by omega)]
    have ha : acc ≤ 68451041280 := by have : (0 : Int) ≤ (rows.drop j).flatten.length := by omega
                                      omega
    rw [foldedf_is 1048575 k acc h0 (by omega) (by omega) (by omega)]
    have := fo_range acc
    simp only [Option.bind_some, List.flatten_nil, sp, Int.add_zero]
    rw [wrap_u64, Int.emod_eq_of_lt (by omega) (by omega), w64 (by omega) (by omega)]
  | m + 1, k, j, acc, low, hj, h0, h1, hk => by
    have hlt : j < rows.length := by omega
    have ed : rows.drop j = rows.getD j [] :: rows.drop (j + 1) := drop_cons_getD_L hlt
    have hbr : Byt (rows.getD j []) := hb _ (by rw [List.getD_eq_getElem?_getD, List.getElem?_eq_getElem hlt]; exact List.getElem_mem hlt)
    have hlr : (rows.getD j []).length + (rows.drop (j + 1)).flatten.length = (rows.drop j).flatten.length := by rw [ed]; simp
    have hll : (rows.drop j).flatten.length ≤ rows.flatten.length := by
      have := congrArg (fun z => z.flatten.length) (List.take_append_drop j rows)
      simp only [List.flatten_append, List.length_append] at this
      omega
    obtain ⟨k', rfl⟩ : ∃ z, k = (z + (rows.getD j []).length + 1) + 1 := ⟨k - (rows.getD j []).length - 2, by omega⟩
    simp only [sum_Of.l0]
    have er : rd_L1 rows (j : Int) = rows.getD j [] := by unfold rd_L1; simp
    have ew : wrap64 ((j : Int) + 1) = ((j + 1 : Nat) : Int) := by rw [w64 (by omega) (by omega)]; omega
    have hs0 := sp_nonneg low hbr
    have hs1 := sp_le low hbr
    rw [if_pos (by omega), if_pos (by omega), if_pos (by omega), er]
    have h2 := of_l1 rows (rows.length : Int) (j : Int) (rows.getD j []) hbr (by omega) (rows.getD j []).length k' 0 acc low (by omega) h0 (by omega)
    rw [List.drop_zero] at h2
    refine h2.trans ?_
    rw [ew, of_l0 rows hb hl hn m k' (j + 1) _ _ (by omega) (by omega) (by omega) (by omega)]
    rw [ed, List.flatten_cons, sp_append, Int.add_assoc]
/-- more than enough rounds -/
def KO : Nat := 5000000
theorem of_is (rows : List (List Int)) (hb : BytL rows) (hl : rows.flatten.length ≤ 1048576) (hn : rows.length ≤ 1048576) (k : Nat) (hk : KO ≤ k) : sum_Of.f k rows = some (ck rows.flatten) := by
  unfold KO at hk
  unfold sum_Of.f
  have h := of_l0 rows hb hl hn rows.length k 0 0 false (by omega) (by omega) (by rw [List.drop_zero]; omega) (by rw [List.drop_zero]; omega)
  rw [List.drop_zero, Int.zero_add, sp_false] at h
  exact h
theorem of1_is (l : List Int) (hb : Byt l) (hl : l.length ≤ 1048576) (k : Nat) (hk : KO ≤ k) : sum_Of.f k [l] = some (ck l) := by
  rw [of_is [l] (fun x hx => by simp at hx; subst hx; exact hb) (by simpa using hl) (by simp) k hk]; simp
theorem of2_is (a b : List Int) (ha : Byt a) (hb : Byt b) (hl : a.length + b.length ≤ 1048576) (k : Nat) (hk : KO ≤ k) : sum_Of.f k [a, b] = some (ck (a ++ b)) := by
  rw [of_is [a, b] (fun x hx => by simp at hx; rcases hx with rfl | rfl <;> assumption) (by simpa using hl) (by simp) k hk]; simp

theorem right_is (l : List Int) (hb : Byt l) (hl : l.length ≤ 1048576) (k : Nat) (hk : KO ≤ k) : sum_Right.f k l = some (ck l == 0) := by
  unfold sum_Right.f
  rw [of1_is l hb hl k hk]; rfl

theorem rat_is (l : List Int) (i : Int) (hb : Byt l) : castellanref1_at.f l i = some (atz l i) := by
  unfold castellanref1_at.f
  by_cases c1 : i < 0
  · rw [if_pos c1, atz_neg l c1]
  · rw [if_neg c1]
    by_cases c2 : i ≥ (l.length : Int)
    · rw [if_pos c2, atz_ge l c2]
    · rw [if_neg c2, if_pos (by omega), if_pos (by omega)]
      have b := getD_byt hb i.toNat
      unfold rd atz; rw [if_pos (by omega), Int.emod_eq_of_lt (by omega) (by omega)]

theorem rget16_is (l : List Int) (i : Int) (hb : Byt l) (h0 : -9223372036854775808 ≤ i) (h1 : i ≤ 2199023255552) : castellanref1_Get16.f l i = some (g16 l i) := by
  unfold castellanref1_Get16.f
  rw [w64 (n := i + 1) (by omega) (by omega), rat_is l i hb, rat_is l (i + 1) hb]
  simp only [Option.bind_some]
  have b0 := atz_byt hb i
  have b1 := atz_byt hb (i + 1)
  rw [Int.emod_eq_of_lt (a := atz l i * 256) (by omega) (by omega), or_u32_8 _ _ (by omega) (by omega) (by omega) (by omega), w64 (by omega) (by omega)]
  rfl

theorem rget32_is (l : List Int) (i : Int) (hb : Byt l) (h0 : -9223372036854775808 ≤ i) (h1 : i ≤ 2199023255552) : castellanref1_Get32.f l i = some (g32 l i) := by
  unfold castellanref1_Get32.f
  rw [w64 (n := i + 1) (by omega) (by omega), w64 (n := i + 2) (by omega) (by omega), w64 (n := i + 3) (by omega) (by omega), rat_is l i hb, rat_is l (i + 1) hb, rat_is l (i + 2) hb, rat_is l (i + 3) hb]
  simp only [Option.bind_some]
  have b0 := atz_byt hb i
  have b1 := atz_byt hb (i + 1)
  have b2 := atz_byt hb (i + 2)
  have b3 := atz_byt hb (i + 3)
  rw [Int.emod_eq_of_lt (a := atz l i * 16777216) (by omega) (by omega), Int.emod_eq_of_lt (a := atz l (i + 1) * 65536) (by omega) (by omega), Int.emod_eq_of_lt (a := atz l (i + 2) * 256) (by omega) (by omega),
    or_u32_24 _ _ (by omega) (by omega) (by omega) (by omega), show atz l i * 16777216 + atz l (i + 1) * 65536 = (atz l i * 256 + atz l (i + 1)) * 65536 by omega, or_u32_16 _ _ (by omega) (by omega) (by omega) (by omega),
    show (atz l i * 256 + atz l (i + 1)) * 65536 + atz l (i + 2) * 256 = ((atz l i * 256 + atz l (i + 1)) * 256 + atz l (i + 2)) * 256 by omega, or_u32_8 _ _ (by omega) (by omega) (by omega) (by omega)]
  unfold g32; congr 1; omega

theorem rfold_is : ∀ (d k : Nat) (n : Int), 0 ≤ n → n ≤ 65535 * (d + 1) → n < 4611686018427387904 → d < k → castellanref2_fold.l0 k n = some (fo n)
  | d, 0, _, _, _, _, hk => absurd hk (by omega)
  | d, k + 1, n, h0, h1, h2, hk => by
    simp only [castellanref2_fold.l0]
    by_cases c : n > 65535
    · rw [if_pos c, and_i64_65535, w64 (by omega) (by omega)]
      cases d with
      | zero => omega
      | succ d => rw [rfold_is d k _ (by omega) (by omega) (by omega) (by omega), Int.add_comm, fo_step (by omega)]
    · rw [if_neg c, fo_small h0 (by omega)]
theorem rfoldf_is (d k : Nat) (n : Int) (h0 : 0 ≤ n) (h1 : n ≤ 65535 * (d + 1)) (h2 : n < 4611686018427387904) (hk : d < k) : castellanref2_fold.f k n = some (fo n) := rfold_is d k n h0 h1 h2 hk

theorem sm_drop (l : List Int) (i : Nat) (h : i < l.length) : sm (l.drop i) = g16 l i + sm (l.drop (i + 2)) := by
  rw [drop_cons_getD h]
  unfold g16 atz
  rw [if_pos (by omega), if_pos (by omega), show ((i : Int)).toNat = i by omega, show ((i : Int) + 1).toNat = i + 1 by omega]
  rcases Nat.lt_or_ge (i + 1) l.length with h1 | h1
  · rw [drop_cons_getD h1]; simp only [sm]
  · rw [List.drop_eq_nil_of_le h1, List.drop_eq_nil_of_le (show l.length ≤ i + 2 by omega)]
    simp [sm, List.getD_eq_getElem?_getD, List.getElem?_eq_none h1]
theorem rof_l0 (l : List Int) (hb : Byt l) (hl : l.length ≤ 1048576) : ∀ (d k i : Nat) (n : Int), l.length ≤ i + d → 0 ≤ n → n ≤ 65535 → i ≤ l.length + 1 → d + 10 < k → castellanref2_Of.l0 k l n (i : Int) = some (65535 - fo (n + sm (l.drop i)))
  | d, 0, _, _, _, _, _, _, hk => absurd hk (by omega)
  | d, k + 1, i, n, hi, h0, h1, h2, hk => by
    simp only [castellanref2_Of.l0]
    by_cases c : (i : Int) < l.length
    · have hg := g16_lt hb (i : Int)
      rw [if_pos c, rget16_is l i hb (by omega) (by omega)]
      simp only [Option.bind_some]
      rw [w64 (n := n + g16 l i) (by omega) (by omega), rfoldf_is 3 k _ (by omega) (by omega) (by omega) (by omega)]
      simp only [Option.bind_some]
      have hr := fo_range (n + g16 l i)
      have ew : wrap64 ((i : Int) + 2) = ((i + 2 : Nat) : Int) := by rw [w64 (by omega) (by omega)]; omega
      cases d with
      | zero => omega
      | succ d =>
        have hs := sm_nonneg (byt_drop hb (i + 2))
        rw [ew, rof_l0 l hb hl d k (i + 2) _ (by omega) (by omega) (by omega) (by omega) (by omega), fo_add (by omega) hs, sm_drop l i (by omega), Int.add_assoc]
    · rw [if_neg c, List.drop_eq_nil_of_le (by omega)]
      simp only [sm, Int.add_zero]
      rw [fo_small h0 h1, w64 (by omega) (by omega)]
theorem rof_is (l : List Int) (hb : Byt l) (hl : l.length ≤ 1048576) (k : Nat) (hk : KO ≤ k) : castellanref2_Of.f k l = some (ck l) := by
  unfold KO at hk
  unfold castellanref2_Of.f
  have h := rof_l0 l hb hl l.length k 0 0 (by omega) (by omega) (by omega) (by omega) (by omega)
  rw [List.drop_zero, Int.zero_add] at h
  exact h

theorem rright_is (l : List Int) (hb : Byt l) (hl : l.length ≤ 1048576) (k : Nat) (hk : KO ≤ k) : castellanref2_Right.f k l = some (ck l == 0) := by
  unfold castellanref2_Right.f
  rw [rof_is l hb hl k hk]; rfl

theorem clone_is (l : List Int) (hl : l.length < 140737488355328) : bytes_Clone.f l = some l := by
  unfold bytes_Clone.f
  rw [ob, if_pos (by rw [List.length_nil]; omega), List.nil_append]

/-- the length of a header, by its first byte -/
def hd (l : List Int) : Int := if l.length = 0 then 0 else atz l 0 % 16 * 4
theorem hd_range (l : List Int) : 0 ≤ hd l ∧ hd l ≤ 60 := by unfold hd; split <;> omega
theorem header_is (l : List Int) (hb : Byt l) : ip_Header.f l = some (hd l) := by
  unfold ip_Header.f hd
  by_cases c : l.length = 0
  · rw [if_pos (by omega), if_pos c]
  · have b := atz_byt hb 0
    have e : rd l 0 = atz l 0 := by unfold rd atz; rw [if_pos (by omega)]
    rw [if_neg (by omega), if_pos (by omega), if_neg c, e, and_u8_15 _ b.1 b.2, w64 (n := atz l 0 % 16) (by omega) (by omega), w64 (by omega) (by omega)]

theorem mn_is (a b : Int) : mn a b = min a b := by
  unfold mn
  split <;> omega
theorem quote_is (l : List Int) (hb : Byt l) (hl : l.length ≤ 1048576) : icmp_Quote.f l = some (l.take (hd l + 8).toNat) := by
  have hr := hd_range l
  unfold icmp_Quote.f
  rw [header_is l hb, ob, w64 (n := hd l + 8) (by omega) (by omega), mn_is, if_pos (by omega), if_pos (by omega), clone_is _ (by rw [List.length_take]; omega), ob]
  congr 1
  rcases Int.le_total (l.length : Int) (hd l + 8) with h | h
  · rw [Int.min_eq_left h, List.take_of_length_le (by omega), List.take_of_length_le (by omega)]
  · rw [Int.min_eq_right h]

/-- an ICMP message as it is built -/
def im (t c r : Int) (d : List Int) : List Int := [t, c, 0, 0] ++ (p32 r ++ d)
def ims (t c r : Int) (d : List Int) : List Int := ((im t c r d).set 2 (ck (im t c r d) / 256 % 256)).set 3 (ck (im t c r d) % 256)
theorem im_byt {t c r : Int} {d : List Int} (ht : 0 ≤ t ∧ t ≤ 255) (hc : 0 ≤ c ∧ c ≤ 255) (hd : Byt d) : Byt (im t c r d) :=
  byt_append (byt_cons (by omega) (byt_cons (by omega) (byt_cons (by omega) (byt_cons (by omega) byt_nil)))) (byt_append (byt_p32 r) hd)
theorem im_len (t c r : Int) (d : List Int) : (im t c r d).length = 8 + d.length := by simp [im, p32]; omega
theorem ims_len (t c r : Int) (d : List Int) : (ims t c r d).length = 8 + d.length := by unfold ims; rw [List.length_set, List.length_set, im_len]
theorem ims_byt {t c r : Int} {d : List Int} (ht : 0 ≤ t ∧ t ≤ 255) (hc : 0 ≤ c ∧ c ≤ 255) (hd : Byt d) : Byt (ims t c r d) :=
  byt_set (byt_set (im_byt ht hc hd) _ (by omega)) _ (by omega)
theorem ims_sm {t c r : Int} {d : List Int} : sm (ims t c r d) = sm (im t c r d) + ck (im t c r d) := by
  have h := sm_set2 (im t c r d) 1 (ck (im t c r d) / 256 % 256) (ck (im t c r d) % 256) (by rw [im_len]; omega)
  have e2 : (im t c r d).getD (2 * 1) 0 = 0 := rfl
  have e3 : (im t c r d).getD (2 * 1 + 1) 0 = 0 := rfl
  rw [e2, e3] at h
  have hr := ck_range (im t c r d)
  refine Eq.trans h ?_
  omega
theorem ims_ck {t c r : Int} {d : List Int} (ht : 0 ≤ t ∧ t ≤ 255) (hc : 0 ≤ c ∧ c ≤ 255) (hd : Byt d) : fo (sm (ims t c r d)) = 65535 := by
  rw [ims_sm]
  exact fo_comp (sm_nonneg (im_byt ht hc hd))
theorem ibuild_is (t c r : Int) (d : List Int) (ht : 0 ≤ t ∧ t ≤ 255) (hc : 0 ≤ c ∧ c ≤ 255) (hd : Byt d) (hl : d.length ≤ 65000) (K : Nat) (hK : KO ≤ K) : icmp_Build.f (K + 1) t c r d = some (ims t c r d, 0) := by
  have hKO : 4 ≤ KO := by unfold KO; omega
  have e : ([([t, c, 0, 0] : List Int), p32 r, d] : List (List Int)).flatten = im t c r d := by simp [im]
  unfold icmp_Build.f
  rw [if_neg (by omega), if_neg (by omega), if_neg (by omega), if_neg (by omega), decide_eq_false (by omega)]
  simp only [icmp_Build.j0]
  rw [if_neg (by decide), show word_Put32.f r = some (p32 r) from rfl, Int.emod_eq_of_lt (a := t) (by omega) (by omega), Int.emod_eq_of_lt (a := c) (by omega) (by omega)]
  simp only [ob]
  rw [join_is _ K (by simp) (by simp; omega) (by rw [e, im_len]; omega), e]
  simp only [ob]
  rw [of1_is _ (im_byt ht hc hd) (by rw [im_len]; omega) K hK]
  simp only [ob]
  rw [put16_is]
  simp only [ob]
  have hn := im_len t c r d
  rw [if_pos (by simp [p16]), if_pos (by omega), if_pos (by simp [p16]), if_pos (by omega)]
  rfl

/-- what an ICMP message is read as -/
def mp (l : List Int) : Int × Int × Int × List Int × Int := if (l.length : Int) < 8 then (0, 0, 0, ([] : List Int), 3) else if ck l = 0 then (rd l 0, rd l 1, g32 l 4, l.drop 8, 0) else (0, 0, 0, ([] : List Int), 4)
theorem rd_byt {l : List Int} (hb : Byt l) (i : Int) : 0 ≤ rd l i ∧ rd l i < 256 := by unfold rd; exact getD_byt hb _
theorem mparse_is (l : List Int) (hb : Byt l) (hl : l.length ≤ 1048576) (K : Nat) (hK : KO ≤ K) : icmp_Parse.f K l = some (mp l) := by
  have hKO : 5 ≤ KO := by unfold KO; omega
  have h0 := rd_byt hb 0
  have h1 := rd_byt hb 1
  unfold icmp_Parse.f mp
  by_cases c : (l.length : Int) < 8
  · rw [if_pos c, if_pos c]
  · rw [if_neg c, if_neg c, right_is l hb hl K hK, ob]
    by_cases c2 : ck l = 0
    · rw [if_pos (by rw [c2]; rfl), if_pos c2, if_pos (by omega), if_pos (by omega), get32_is l 4 hb (by omega) (by omega) (by omega) K (by omega), ob, if_pos (by omega), clone_is _ (by rw [List.length_drop]; omega), ob, w64 (by omega) (by omega), w64 (by omega) (by omega)]
    · rw [if_neg (by simpa using c2), if_neg c2]

theorem rmparse_is (l : List Int) (hb : Byt l) (hl : l.length ≤ 1048576) (K : Nat) (hK : KO ≤ K) : castellanref7_Parse.f K l = some (mp l) := by
  have h0 := rd_byt hb 0
  have h1 := rd_byt hb 1
  unfold castellanref7_Parse.f castellanref7_Read.f mp
  by_cases c : (l.length : Int) < 8
  · rw [if_pos c, if_pos c]
  · rw [if_neg c, if_neg c, rright_is l hb hl K hK, ob]
    by_cases c2 : ck l = 0
    · rw [if_pos (by rw [c2]; rfl), if_pos c2, if_pos (by omega), if_pos (by omega), rget32_is l 4 hb (by omega) (by omega), ob, ob, if_pos (by omega), if_pos (by rw [List.length_drop]; simp; omega), ob, w64 (by omega) (by omega), w64 (by omega) (by omega), List.nil_append]
    · rw [if_neg (by simpa using c2), if_neg c2]

theorem rbuild_is (t c r : Int) (d : List Int) (ht : 0 ≤ t ∧ t ≤ 255) (hc : 0 ≤ c ∧ c ≤ 255) (hd : Byt d) (hl : d.length ≤ 65000) (K : Nat) (hK : KO ≤ K) : castellanref7_Build.f (K + 1) t c r d = some (ims t c r d, 0) := by
  have e : [t, c, 0, 0] ++ p32 r ++ d = im t c r d := by unfold im; rw [List.append_assoc]
  have hn := im_len t c r d
  unfold castellanref7_Build.f
  rw [if_neg (by omega), if_neg (by omega), if_neg (by omega), if_neg (by omega), decide_eq_false (by omega)]
  simp only [castellanref7_Build.j0]
  rw [if_neg (by decide), show castellanref1_Put32.f r = some (p32 r) from rfl, Int.emod_eq_of_lt (a := t) (by omega) (by omega), Int.emod_eq_of_lt (a := c) (by omega) (by omega)]
  simp only [ob]
  rw [if_pos (by simp [p32]), if_pos (by simp [p32]; omega), e, rof_is _ (im_byt ht hc hd) (by omega) K hK, ob, show castellanref1_Put16.f (ck (im t c r d)) = some (p16 (ck (im t c r d))) from rfl, ob, if_pos (by simp [p16]), if_pos (by simp [p16]), if_pos (by omega), if_pos (by omega)]
  rfl
theorem build_no (t c r : Int) (d : List Int) (h : t < 0 ∨ t > 255 ∨ c < 0 ∨ c > 255 ∨ (d.length : Int) > 65000) (K : Nat) : icmp_Build.f (K + 1) t c r d = some (([] : List Int), 1) := by
  have htr : icmp_Build.j0 (K + 1) true t c r d = some (([] : List Int), 1) := by simp only [icmp_Build.j0]; rfl
  unfold icmp_Build.f
  by_cases c1 : t < 0
  · rw [if_pos c1]; exact htr
  rw [if_neg c1]
  by_cases c2 : t > 255
  · rw [if_pos c2]; exact htr
  rw [if_neg c2]
  by_cases c3 : c < 0
  · rw [if_pos c3]; exact htr
  rw [if_neg c3]
  by_cases c4 : c > 255
  · rw [if_pos c4]; exact htr
  rw [if_neg c4, decide_eq_true (by omega)]; exact htr
theorem rbuild_no (t c r : Int) (d : List Int) (h : t < 0 ∨ t > 255 ∨ c < 0 ∨ c > 255 ∨ (d.length : Int) > 65000) (K : Nat) : castellanref7_Build.f (K + 1) t c r d = some (([] : List Int), 1) := by
  have htr : castellanref7_Build.j0 (K + 1) true t c r d = some (([] : List Int), 1) := by simp only [castellanref7_Build.j0]; rfl
  unfold castellanref7_Build.f
  by_cases c1 : t < 0
  · rw [if_pos c1]; exact htr
  rw [if_neg c1]
  by_cases c2 : t > 255
  · rw [if_pos c2]; exact htr
  rw [if_neg c2]
  by_cases c3 : c < 0
  · rw [if_pos c3]; exact htr
  rw [if_neg c3]
  by_cases c4 : c > 255
  · rw [if_pos c4]; exact htr
  rw [if_neg c4, decide_eq_true (by omega)]; exact htr

theorem rheader_is (l : List Int) (hb : Byt l) : castellanref4_Header.f l = some (hd l) := by
  rw [← header_is l hb]
  unfold castellanref4_Header.f ip_Header.f
  rw [Int.mul_comm 4]

theorem rquote_is (l : List Int) (hb : Byt l) (hl : l.length ≤ 1048576) : castellanref7_Quote.f l = some (l.take (hd l + 8).toNat) := by
  have hr := hd_range l
  unfold castellanref7_Quote.f
  rw [ob, rheader_is l hb, ob, w64 (n := hd l + 8) (by omega) (by omega), mn_is, if_pos (by omega), if_pos (by omega), if_pos (by rw [List.length_take]; simp; omega), List.nil_append]
  congr 1
  rcases Int.le_total (l.length : Int) (hd l + 8) with h | h
  · rw [Int.min_eq_left h, List.take_of_length_le (by omega), List.take_of_length_le (by omega)]
  · rw [Int.min_eq_right h]

theorem IcmpTells : castellanlaw7_IcmpTells.Pure := by
  intro b t c r d t2 c2 r2 d2 x h1 h2 hb ht hc hr h3 h4 hd ht2 hc2 hr2 h5 h6 hd2 hx
  have hb := byt_of hb
  have hd := byt_of hd
  have hkn : castellanlaw7_known.f = some true := by decide
  obtain ⟨K, hK⟩ : ∃ K : Nat, KO = K := ⟨_, rfl⟩
  refine ⟨K + 2, ?_⟩
  have htr : castellanlaw7_IcmpTells.j0 (K + 2) b x true t c r d t2 c2 r2 d2 = some true := by simp only [castellanlaw7_IcmpTells.j0]; rfl
  unfold castellanlaw7_IcmpTells.f
  by_cases c1 : (b.length : Int) > 2000
  · rw [if_pos c1]; exact htr
  rw [if_neg c1]
  by_cases cd2 : (d.length : Int) > 1500
  · rw [if_pos cd2]; exact htr
  rw [if_neg cd2]
  by_cases c3 : (d2.length : Int) > 1500
  · rw [decide_eq_true c3]; exact htr
  rw [decide_eq_false c3]
  clear htr
  simp only [castellanlaw7_IcmpTells.j0]
  rw [if_neg (by decide), mparse_is b hb (by omega) (K + 1) (by omega), ob, rmparse_is b hb (by omega) (K + 1) (by omega), ob]
  have hbu : ∃ R e, icmp_Build.f (K + 1) t c r d = some (R, e) ∧ castellanref7_Build.f (K + 1) t c r d = some (R, e) := by
    by_cases c4 : t < 0 ∨ t > 255 ∨ c < 0 ∨ c > 255 ∨ (d.length : Int) > 65000
    · exact ⟨_, _, build_no t c r d c4 K, rbuild_no t c r d c4 K⟩
    · exact ⟨_, _, ibuild_is t c r d (by omega) (by omega) hd (by omega) K (by omega), rbuild_is t c r d (by omega) (by omega) hd (by omega) K (by omega)⟩
  obtain ⟨R, e, hb1, hb2⟩ := hbu
  have hs0 (p q s : Int) (z : List Int) : castellanref7_Same.f p q s z p q s z = some true := by
    unfold castellanref7_Same.f
    rw [if_pos rfl, if_pos rfl, if_pos rfl, beq_self_eq_true]
  have hs1 : ∃ q, castellanref7_Same.f t c r d t2 c2 r2 d2 = some q ∧ icmp_Same.f t c r d t2 c2 r2 d2 = some q := by
    have e1 : icmp_Same.f t c r d t2 c2 r2 d2 = castellanref7_Same.f t c r d t2 c2 r2 d2 := by
      unfold icmp_Same.f castellanref7_Same.f bytes_Equal.f
      simp only [ob]
    rw [e1]
    have : ∃ q, castellanref7_Same.f t c r d t2 c2 r2 d2 = some q := by
      unfold castellanref7_Same.f
      split
      · split
        · split <;> exact ⟨_, rfl⟩
        · exact ⟨_, rfl⟩
      · exact ⟨_, rfl⟩
    obtain ⟨q, hq⟩ := this
    exact ⟨q, hq, hq⟩
  obtain ⟨q, hq1, hq2⟩ := hs1
  have hbad : ∃ q, icmp_Bad.f x = some q ∧ castellanref7_Bad.f x = some q := by
    have e1 : icmp_Bad.f x = castellanref7_Bad.f x := by
      unfold icmp_Bad.f castellanref7_Bad.f
      by_cases h : x = 12
      · rw [h]; rfl
      · rw [if_neg h, beq_eq_false_iff_ne.mpr h]
    have : ∃ q, castellanref7_Bad.f x = some q := by
      unfold castellanref7_Bad.f
      repeat' (first | exact ⟨_, rfl⟩ | split)
    obtain ⟨q, hq⟩ := this
    exact ⟨q, e1.trans hq, hq⟩
  have hque : ∃ q, icmp_Query.f x = some q ∧ castellanref7_Query.f x = some q := by
    have e1 : icmp_Query.f x = castellanref7_Query.f x := by
      unfold icmp_Query.f castellanref7_Query.f
      by_cases h : x = 14
      · rw [h]; rfl
      · rw [if_neg h, beq_eq_false_iff_ne.mpr h]
    have : ∃ q, castellanref7_Query.f x = some q := by
      unfold castellanref7_Query.f
      repeat' (first | exact ⟨_, rfl⟩ | split)
    obtain ⟨q, hq⟩ := this
    exact ⟨q, e1.trans hq, hq⟩
  obtain ⟨y, hy1, hy2⟩ := hbad
  obtain ⟨z, hz1, hz2⟩ := hque
  rw [hb1, ob, hb2, ob, hs0, ob, if_pos rfl, if_pos rfl, if_pos rfl, if_pos rfl, hq2, ob, hq1, ob, if_pos (beq_self_eq_true q), quote_is b hb (by omega), ob, rquote_is b hb (by omega), ob, if_pos rfl, hy1, ob, hy2, ob, if_pos (beq_self_eq_true y), hz1, ob, hz2, ob, if_pos (beq_self_eq_true z), hkn]
  rfl

end Go.Proofs.Ytbenimfjhcbplaa.Pure
