/- the answer to a segment goes back to who sent it, and is a reset; none answers a reset. No condition besides the law's own guards. -/
import Derived.Test.YtkdibloahkhgoaaQReplyResetsx13
import Derived.Test.YtkdibloahkhgoaaBase
namespace Go.Proofs.Ytkdibloahkhgoaa.Pure
open Go.RowKit Go.Proofs.Ytkdibloahkhgoaa.QReplyResets Go.Proofs.YtkdibloahkhgoaaW.PrintWords Go.Proofs.YtkdibloahkhgoaaW.PrintLast Go.Proofs.YtkdibloahkhgoaaW.PrintMore Go.Proofs.Ytkdibloahkhgoaa.Base
open Go
set_option linter.unusedVariables false
set_option linter.unusedSimpArgs false

theorem at_is (l : List Int) (i m : Int) (hl : l.length ≤ 1099511627776) (h0 : -9223372036854775808 ≤ i) (h1 : i ≤ 2199023255552) (hm0 : 0 ≤ m) (hm : m ≤ 8) : word_at.f l i m = some (atz l (i + m)) := by
  unfold word_at.f
  have e1 : wrap64 (-m) = -m := w64 (by omega) (by omega)
  have e2 : wrap64 ((l.length : Int) - m) = l.length - m := w64 (by omega) (by omega)
  rw [e1, e2]
  by_cases c1 : i < -m
  · rw [if_pos c1, atz_neg l (by omega)]
  · rw [if_neg c1]
    by_cases c2 : i ≥ (l.length : Int) - m
    · rw [if_pos c2, atz_ge l (by omega)]
    · rw [if_neg c2]
      have e3 : wrap64 (i + m) = i + m := w64 (by omega) (by omega)
      rw [e3, if_pos (by omega), if_pos (by omega)]
      unfold rd atz; rw [if_pos (by omega)]

theorem get16_is (l : List Int) (i : Int) (hb : Byt l) (hl : l.length ≤ 1099511627776) (h0 : -9223372036854775808 ≤ i) (h1 : i ≤ 2199023255552) : word_Get16.f l i = some (g16 l i) := by
  unfold word_Get16.f
  rw [at_is l i 0 hl h0 h1 (by omega) (by omega), at_is l i 1 hl h0 h1 (by omega) (by omega)]
  simp only [Option.bind_some, Int.add_zero]
  have b0 := atz_byt hb i
  have b1 := atz_byt hb (i + 1)
  rw [w64 (n := atz l i) (by omega) (by omega), w64 (n := atz l (i + 1)) (by omega) (by omega), w64 (n := atz l i * 256) (by omega) (by omega), or_i64_8 _ _ (by omega) (by omega) (by omega) (by omega)]
  rfl

theorem get32_step (l : List Int) (i : Int) (hb : Byt l) (hl : l.length ≤ 1099511627776) (h0 : -9223372036854775808 ≤ i) (h1 : i ≤ 2199023255552) (k : Nat) (x j : Int) (hx0 : 0 ≤ x) (hx : x < 16777216) (hj0 : 0 ≤ j) (hj : j < 4) :
    word_Get32.l0 (k + 1) l i x j = word_Get32.l0 k l i (x * 256 + atz l (i + j)) (j + 1) := by
  have b0 := atz_byt hb (i + j)
  simp only [word_Get32.l0]
  rw [if_pos hj, at_is l i j hl h0 h1 hj0 (by omega)]
  simp only [Option.bind_some]
  rw [w64 (n := j + 1) (by omega) (by omega), Int.emod_eq_of_lt (a := x * 256) (by omega) (by omega), Int.emod_eq_of_lt (a := atz l (i + j)) (by omega) (by omega), or_u32_8 _ _ hx0 hx (by omega) (by omega)]
theorem get32_is (l : List Int) (i : Int) (hb : Byt l) (hl : l.length ≤ 1099511627776) (h0 : -9223372036854775808 ≤ i) (h1 : i ≤ 2199023255552) (k : Nat) (hk : 5 ≤ k) : word_Get32.f k l i = some (g32 l i) := by
  obtain ⟨k, rfl⟩ : ∃ m, k = m + 5 := ⟨k - 5, by omega⟩
  have b0 := atz_byt hb (i + 0)
  have b1 := atz_byt hb (i + (0 + 1))
  have b2 := atz_byt hb (i + (0 + 1 + 1))
  have b3 := atz_byt hb (i + (0 + 1 + 1 + 1))
  unfold word_Get32.f
  rw [get32_step l i hb hl h0 h1 (k + 4) 0 0 (by omega) (by omega) (by omega) (by omega), get32_step l i hb hl h0 h1 (k + 3) _ _ (by omega) (by omega) (by omega) (by omega),
    get32_step l i hb hl h0 h1 (k + 2) _ _ (by omega) (by omega) (by omega) (by omega), get32_step l i hb hl h0 h1 (k + 1) _ _ (by omega) (by omega) (by omega) (by omega)]
  simp only [word_Get32.l0]
  rw [if_neg (by omega)]
  unfold g32
  rw [show i + (0 + 1) = i + 1 by omega, show i + (0 + 1 + 1) = i + 2 by omega, show i + (0 + 1 + 1 + 1) = i + 3 by omega, Int.add_zero]
  congr 1; omega

theorem put16_is (n : Int) : word_Put16.f n = some (p16 n) := rfl

theorem rput16_is (n : Int) : castellanref1_Put16.f n = some (p16 n) := rfl

theorem concat_go (L : List (List Int)) (hL : L.length < 4611686018427387904) : ∀ (d k : Nat) (x : List Int) (i : Nat), L.length = i + d → d < k → x.length + ((L.drop i).flatten).length < 140737488355328 → slices_Concat_byte_byte.l0 k x L (L.length : Int) (i : Int) = some (x ++ (L.drop i).flatten)
  | _, 0, _, _, _, hk, _ => absurd hk (by omega)
  | d, k + 1, x, i, hd, hk, hx => by
    simp only [slices_Concat_byte_byte.l0]
    by_cases c : (i : Int) < (L.length : Int)
    · have e : L.drop i = L.getD i [] :: L.drop (i + 1) := drop_cons_getD_L (by omega)
      have er : rd_L1 L (i : Int) = L.getD i [] := by unfold rd_L1; rw [show ((i : Int)).toNat = i by omega]
      rw [e, List.flatten_cons, List.length_append] at hx
      rw [if_pos c, if_pos (by omega), if_pos c, er, if_pos (by omega), w64 (n := (i : Int) + 1) (by omega) (by omega), show ((i : Int) + 1) = ((i + 1 : Nat) : Int) by omega]
      cases d with
      | zero => omega
      | succ d =>
        rw [concat_go L hL d k _ (i + 1) (by omega) (by omega) (by rw [List.length_append]; omega), e, List.flatten_cons, List.append_assoc]
    · rw [if_neg c, List.drop_of_length_le (by omega)]; simp
theorem join_is (L : List (List Int)) (k : Nat) (hL : L.length < 4611686018427387904) (hk : L.length < k) (h : L.flatten.length < 140737488355328) : word_Join.f k L = some L.flatten := by
  unfold word_Join.f slices_Concat_byte_byte.f
  have h0 := concat_go L hL L.length k [] 0 (by omega) hk (by simpa using h)
  rw [List.drop_zero, List.nil_append] at h0
  rw [show ((0 : Nat) : Int) = 0 from rfl] at h0
  rw [h0, ob]

theorem folded_is : ∀ (d k : Nat) (n : Int), 0 ≤ n → n ≤ 65535 * (d + 1) → n < 4611686018427387904 → d < k → sum_folded.l0 k n = some (fo n)
  | d, 0, _, _, _, _, hk => absurd hk (by omega)
  | d, k + 1, n, h0, h1, h2, hk => by
    simp only [sum_folded.l0]
    by_cases c : n > 65535
    · rw [if_pos c, and_u64_65535, wrap_u64, Int.emod_eq_of_lt (by omega) (by omega)]
      cases d with
      | zero => omega
      | succ d => rw [folded_is d k _ (by omega) (by omega) (by omega) (by omega), fo_step (by omega)]
    · rw [if_neg c, fo_small h0 (by omega)]
theorem foldedf_is (d k : Nat) (n : Int) (h0 : 0 ≤ n) (h1 : n ≤ 65535 * (d + 1)) (h2 : n < 4611686018427387904) (hk : d < k) : sum_folded.f k n = some (fo n) := folded_is d k n h0 h1 h2 hk

theorem of_l1 (rows : List (List Int)) (n x11 : Int) (row : List Int) (hb : Byt row) (hl : row.length ≤ 1099511627776) : ∀ (d k i : Nat) (acc : Int) (low : Bool), i + d = row.length → 0 ≤ acc → acc + 65280 * d < 4611686018427387904 →
    sum_Of.l1 (k + d + 1) acc low rows n x11 row (row.length : Int) (i : Int) = sum_Of.l0 k (acc + sp low (row.drop i)) (low ^^ odd d) rows n (wrap64 (x11 + 1))
  | 0, k, i, acc, low, hi, h0, h1 => by
    simp only [sum_Of.l1]
    rw [if_neg (by omega), List.drop_eq_nil_of_le (by omega)]
    simp [sp, odd]
  | d + 1, k, i, acc, low, hi, h0, h1 => by
    have hlt : i < row.length := by omega
    have b := getD_byt hb i
    have e : k + (d + 1) + 1 = (k + d + 1) + 1 := by omega
    rw [e, sum_Of.l1]
    rw [if_pos (by omega), if_pos (by omega), if_pos (by omega)]
    have er : rd row (i : Int) = row.getD i 0 := by unfold rd; simp
    have ew : wrap64 ((i : Int) + 1) = ((i + 1 : Nat) : Int) := by rw [w64 (by omega) (by omega)]; omega
    rw [er, ew, drop_cons_getD hlt]
    cases low with
    | true =>
      rw [if_pos rfl, wrap_u64, wrap_u64, Int.emod_eq_of_lt (a := row.getD i 0) (by omega) (by omega), Int.emod_eq_of_lt (a := acc + row.getD i 0) (by omega) (by omega), of_l1 rows n x11 row hb hl d k (i + 1) _ _ (by omega) (by omega) (by omega)]
      rw [odd_succ, sp, Int.add_assoc]; simp
    | false =>
      rw [if_neg (by decide), wrap_u64, wrap_u64, wrap_u64, Int.emod_eq_of_lt (a := row.getD i 0) (by omega) (by omega), Int.emod_eq_of_lt (a := row.getD i 0 * 256) (by omega) (by omega), Int.emod_eq_of_lt (a := acc + row.getD i 0 * 256) (by omega) (by omega), of_l1 rows n x11 row hb hl d k (i + 1) _ _ (by omega) (by omega) (by omega)]
      rw [odd_succ, sp, Int.add_assoc]; simp
theorem of_l0 (rows : List (List Int)) (hb : BytL rows) (hl : rows.flatten.length ≤ 1048576) (hn : rows.length ≤ 1048576) : ∀ (m k j : Nat) (acc : Int) (low : Bool), j + m = rows.length → 0 ≤ acc → acc + 65280 * (rows.drop j).flatten.length ≤ 68451041280 →
    2 * m + (rows.drop j).flatten.length + 1048576 < k → sum_Of.l0 k acc low rows (rows.length : Int) (j : Int) = some (65535 - fo (acc + sp low (rows.drop j).flatten))
  | 0, 0, _, _, _, _, _, _, hk => absurd hk (by omega)
  | 0, k + 1, j, acc, low, hj, h0, h1, hk => by
    simp only [sum_Of.l0]
    rw [if_neg (by omega), List.drop_eq_nil_of_le (by omega)]
    have ha : acc ≤ 68451041280 := by have : (0 : Int) ≤ (rows.drop j).flatten.length := by omega
                                      omega
    rw [foldedf_is 1048575 k acc h0 (by omega) (by omega) (by omega)]
    have := fo_range acc
    simp only [Option.bind_some, List.flatten_nil, sp, Int.add_zero]
    rw [wrap_u64, Int.emod_eq_of_lt (by omega) (by omega), w64 (by omega) (by omega)]
  | m + 1, k, j, acc, low, hj, h0, h1, hk => by
    have hlt : j < rows.length := by omega
    have ed : rows.drop j = rows.getD j [] :: rows.drop (j + 1) := drop_cons_getD_L hlt
    have hbr : Byt (rows.getD j []) := hb _ (by rw [List.getD_eq_getElem?_getD, List.getElem?_eq_getElem hlt]; exact List.getElem_mem hlt)
    have hlr : (rows.getD j []).length + (rows.drop (j + 1)).flatten.length = (rows.drop j).flatten.length := by rw [ed]; simp
    have hll : (rows.drop j).flatten.length ≤ rows.flatten.length := by
      have := congrArg (fun z => z.flatten.length) (List.take_append_drop j rows)
      simp only [List.flatten_append, List.length_append] at this
      omega
    obtain ⟨k', rfl⟩ : ∃ z, k = (z + (rows.getD j []).length + 1) + 1 := ⟨k - (rows.getD j []).length - 2, by omega⟩
    simp only [sum_Of.l0]
    have er : rd_L1 rows (j : Int) = rows.getD j [] := by unfold rd_L1; simp
    have ew : wrap64 ((j : Int) + 1) = ((j + 1 : Nat) : Int) := by rw [w64 (by omega) (by omega)]; omega
    have hs0 := sp_nonneg low hbr
    have hs1 := sp_le low hbr
    rw [if_pos (by omega), if_pos (by omega), if_pos (by omega), er]
    have h2 := of_l1 rows (rows.length : Int) (j : Int) (rows.getD j []) hbr (by omega) (rows.getD j []).length k' 0 acc low (by omega) h0 (by omega)
    rw [List.drop_zero] at h2
    refine h2.trans ?_
    rw [ew, of_l0 rows hb hl hn m k' (j + 1) _ _ (by omega) (by omega) (by omega) (by omega)]
    rw [ed, List.flatten_cons, sp_append, Int.add_assoc]
/-- more than enough rounds -/
def KO : Nat := 5000000
theorem of_is (rows : List (List Int)) (hb : BytL rows) (hl : rows.flatten.length ≤ 1048576) (hn : rows.length ≤ 1048576) (k : Nat) (hk : KO ≤ k) : sum_Of.f k rows = some (ck rows.flatten) := by
  unfold KO at hk
  unfold sum_Of.f
  have h := of_l0 rows hb hl hn rows.length k 0 0 false (by omega) (by omega) (by rw [List.drop_zero]; omega) (by rw [List.drop_zero]; omega)
  rw [List.drop_zero, Int.zero_add, sp_false] at h
  exact h
theorem of1_is (l : List Int) (hb : Byt l) (hl : l.length ≤ 1048576) (k : Nat) (hk : KO ≤ k) : sum_Of.f k [l] = some (ck l) := by
  rw [of_is [l] (fun x hx => by simp at hx; subst hx; exact hb) (by simpa using hl) (by simp) k hk]; simp
theorem of2_is (a b : List Int) (ha : Byt a) (hb : Byt b) (hl : a.length + b.length ≤ 1048576) (k : Nat) (hk : KO ≤ k) : sum_Of.f k [a, b] = some (ck (a ++ b)) := by
  rw [of_is [a, b] (fun x hx => by simp at hx; rcases hx with rfl | rfl <;> assumption) (by simpa using hl) (by simp) k hk]; simp

theorem rat_is (l : List Int) (i : Int) (hb : Byt l) : castellanref1_at.f l i = some (atz l i) := by
  unfold castellanref1_at.f
  by_cases c1 : i < 0
  · rw [if_pos c1, atz_neg l c1]
  · rw [if_neg c1]
    by_cases c2 : i ≥ (l.length : Int)
    · rw [if_pos c2, atz_ge l c2]
    · rw [if_neg c2, if_pos (by omega), if_pos (by omega)]
      have b := getD_byt hb i.toNat
      unfold rd atz; rw [if_pos (by omega), Int.emod_eq_of_lt (by omega) (by omega)]

theorem rget16_is (l : List Int) (i : Int) (hb : Byt l) (h0 : -9223372036854775808 ≤ i) (h1 : i ≤ 2199023255552) : castellanref1_Get16.f l i = some (g16 l i) := by
  unfold castellanref1_Get16.f
  rw [w64 (n := i + 1) (by omega) (by omega), rat_is l i hb, rat_is l (i + 1) hb]
  simp only [Option.bind_some]
  have b0 := atz_byt hb i
  have b1 := atz_byt hb (i + 1)
  rw [Int.emod_eq_of_lt (a := atz l i * 256) (by omega) (by omega), or_u32_8 _ _ (by omega) (by omega) (by omega) (by omega), w64 (by omega) (by omega)]
  rfl

theorem rget32_is (l : List Int) (i : Int) (hb : Byt l) (h0 : -9223372036854775808 ≤ i) (h1 : i ≤ 2199023255552) : castellanref1_Get32.f l i = some (g32 l i) := by
  unfold castellanref1_Get32.f
  rw [w64 (n := i + 1) (by omega) (by omega), w64 (n := i + 2) (by omega) (by omega), w64 (n := i + 3) (by omega) (by omega), rat_is l i hb, rat_is l (i + 1) hb, rat_is l (i + 2) hb, rat_is l (i + 3) hb]
  simp only [Option.bind_some]
  have b0 := atz_byt hb i
  have b1 := atz_byt hb (i + 1)
  have b2 := atz_byt hb (i + 2)
  have b3 := atz_byt hb (i + 3)
  rw [Int.emod_eq_of_lt (a := atz l i * 16777216) (by omega) (by omega), Int.emod_eq_of_lt (a := atz l (i + 1) * 65536) (by omega) (by omega), Int.emod_eq_of_lt (a := atz l (i + 2) * 256) (by omega) (by omega),
    or_u32_24 _ _ (by omega) (by omega) (by omega) (by omega), show atz l i * 16777216 + atz l (i + 1) * 65536 = (atz l i * 256 + atz l (i + 1)) * 65536 by omega, or_u32_16 _ _ (by omega) (by omega) (by omega) (by omega),
    show (atz l i * 256 + atz l (i + 1)) * 65536 + atz l (i + 2) * 256 = ((atz l i * 256 + atz l (i + 1)) * 256 + atz l (i + 2)) * 256 by omega, or_u32_8 _ _ (by omega) (by omega) (by omega) (by omega)]
  unfold g32; congr 1; omega

theorem rfold_is : ∀ (d k : Nat) (n : Int), 0 ≤ n → n ≤ 65535 * (d + 1) → n < 4611686018427387904 → d < k → castellanref2_fold.l0 k n = some (fo n)
  | d, 0, _, _, _, _, hk => absurd hk (by omega)
  | d, k + 1, n, h0, h1, h2, hk => by
    simp only [castellanref2_fold.l0]
    by_cases c : n > 65535
    · rw [if_pos c, and_i64_65535, w64 (by omega) (by omega)]
      cases d with
      | zero => omega
      | succ d => rw [rfold_is d k _ (by omega) (by omega) (by omega) (by omega), Int.add_comm, fo_step (by omega)]
    · rw [if_neg c, fo_small h0 (by omega)]
theorem rfoldf_is (d k : Nat) (n : Int) (h0 : 0 ≤ n) (h1 : n ≤ 65535 * (d + 1)) (h2 : n < 4611686018427387904) (hk : d < k) : castellanref2_fold.f k n = some (fo n) := rfold_is d k n h0 h1 h2 hk

theorem sm_drop (l : List Int) (i : Nat) (h : i < l.length) : sm (l.drop i) = g16 l i + sm (l.drop (i + 2)) := by
  rw [drop_cons_getD h]
  unfold g16 atz
  rw [if_pos (by omega), if_pos (by omega), show ((i : Int)).toNat = i by omega, show ((i : Int) + 1).toNat = i + 1 by omega]
  rcases Nat.lt_or_ge (i + 1) l.length with h1 | h1
  · rw [drop_cons_getD h1]; simp only [sm]
  · rw [List.drop_eq_nil_of_le h1, List.drop_eq_nil_of_le (show l.length ≤ i + 2 by omega)]
    simp [sm, List.getD_eq_getElem?_getD, List.getElem?_eq_none h1]
theorem rof_l0 (l : List Int) (hb : Byt l) (hl : l.length ≤ 1048576) : ∀ (d k i : Nat) (n : Int), l.length ≤ i + d → 0 ≤ n → n ≤ 65535 → i ≤ l.length + 1 → d + 10 < k → castellanref2_Of.l0 k l n (i : Int) = some (65535 - fo (n + sm (l.drop i)))
  | d, 0, _, _, _, _, _, _, hk => absurd hk (by omega)
  | d, k + 1, i, n, hi, h0, h1, h2, hk => by
    simp only [castellanref2_Of.l0]
    by_cases c : (i : Int) < l.length
    · have hg := g16_lt hb (i : Int)
      rw [if_pos c, rget16_is l i hb (by omega) (by omega)]
      simp only [Option.bind_some]
      rw [w64 (n := n + g16 l i) (by omega) (by omega), rfoldf_is 3 k _ (by omega) (by omega) (by omega) (by omega)]
      simp only [Option.bind_some]
      have hr := fo_range (n + g16 l i)
      have ew : wrap64 ((i : Int) + 2) = ((i + 2 : Nat) : Int) := by rw [w64 (by omega) (by omega)]; omega
      cases d with
      | zero => omega
      | succ d =>
        have hs := sm_nonneg (byt_drop hb (i + 2))
        rw [ew, rof_l0 l hb hl d k (i + 2) _ (by omega) (by omega) (by omega) (by omega) (by omega), fo_add (by omega) hs, sm_drop l i (by omega), Int.add_assoc]
    · rw [if_neg c, List.drop_eq_nil_of_le (by omega)]
      simp only [sm, Int.add_zero]
      rw [fo_small h0 h1, w64 (by omega) (by omega)]
theorem rof_is (l : List Int) (hb : Byt l) (hl : l.length ≤ 1048576) (k : Nat) (hk : KO ≤ k) : castellanref2_Of.f k l = some (ck l) := by
  unfold KO at hk
  unfold castellanref2_Of.f
  have h := rof_l0 l hb hl l.length k 0 0 (by omega) (by omega) (by omega) (by omega) (by omega)
  rw [List.drop_zero, Int.zero_add] at h
  exact h

theorem rright_is (l : List Int) (hb : Byt l) (hl : l.length ≤ 1048576) (k : Nat) (hk : KO ≤ k) : castellanref2_Right.f k l = some (ck l == 0) := by
  unfold castellanref2_Right.f
  rw [rof_is l hb hl k hk]; rfl

theorem clone_is (l : List Int) (hl : l.length < 140737488355328) : bytes_Clone.f l = some l := by
  unfold bytes_Clone.f
  rw [ob, if_pos (by rw [List.length_nil]; omega), List.nil_append]

/-- a pseudo header -/
def ph (s t p n : Int) : List Int := p32 s ++ (p32 t ++ ([0, p] ++ p16 n))
theorem ph_len (s t p n : Int) : (ph s t p n).length = 12 := rfl
theorem ph_byt (s t n : Int) {p : Int} (hp : 0 ≤ p ∧ p ≤ 255) : Byt (ph s t p n) :=
  byt_append (byt_p32 s) (byt_append (byt_p32 t) (byt_append (byt_cons (by omega) (byt_cons (by omega) byt_nil)) (byt_p16 n)))
theorem pseudo_is (s t p n : Int) (hp : 0 ≤ p ∧ p ≤ 255) (K : Nat) (hK : 5 ≤ K) : sum_Pseudo.f K s t p n = some (ph s t p n) := by
  have e : ([p32 s, p32 t, ([0, p] : List Int), p16 n] : List (List Int)).flatten = ph s t p n := by simp [ph]
  unfold sum_Pseudo.f
  rw [show word_Put32.f s = some (p32 s) from rfl, show word_Put32.f t = some (p32 t) from rfl, put16_is, Int.emod_eq_of_lt (a := p) (by omega) (by omega)]
  simp only [ob]
  rw [join_is _ K (by simp) (by simp; omega) (by rw [e, ph_len]; omega), e]
  simp only [ob]

theorem rpseudo_is (s t p n : Int) (hp : 0 ≤ p ∧ p ≤ 255) : castellanref2_Pseudo.f s t p n = some (ph s t p n) := by
  unfold castellanref2_Pseudo.f
  rw [show castellanref1_Put32.f s = some (p32 s) from rfl, show castellanref1_Put32.f t = some (p32 t) from rfl, show castellanref1_Put16.f n = some (p16 n) from rfl, Int.emod_eq_of_lt (a := p) (by omega) (by omega)]
  simp only [ob]
  rw [if_pos (by simp [p32]), if_pos (by simp [p32]), if_pos (by simp [p32, p16])]
  rfl

/-- what a reset counts -/
def tk (f n : Int) : Int := if Go.bits .and .i64 f 1 = 0 then (if Go.bits .and .i64 f 2 = 0 then n else (n + 1) % 4294967296) else ((if Go.bits .and .i64 f 2 = 0 then n else (n + 1) % 4294967296) + 1) % 4294967296
theorem treset_no (a b s k f w u : Int) (o d : List Int) (K : Nat) (h : Go.bits .and .i64 f 4 ≠ 0) : tcp_Reset.f K a b s k f w u o d = some (0, 0, 0, 0, 0, 0, 0, ([] : List Int), ([] : List Int), false) := by
  unfold tcp_Reset.f; rw [if_neg h]
theorem treset_ack (a b s k f w u : Int) (o d : List Int) (K : Nat) (h : Go.bits .and .i64 f 4 = 0) (h2 : Go.bits .and .i64 f 16 ≠ 0) : tcp_Reset.f K a b s k f w u o d = some (b, a, k, 0, 4, 0, 0, ([] : List Int), ([] : List Int), true) := by
  unfold tcp_Reset.f; rw [if_pos h, if_neg h2]
theorem treset_cnt (a b s k f w u : Int) (o d : List Int) (K : Nat) (hK : 3 ≤ K) (h : Go.bits .and .i64 f 4 = 0) (h2 : Go.bits .and .i64 f 16 = 0) :
    tcp_Reset.f K a b s k f w u o d = some (b, a, 0, tk f ((s + (d.length : Int)) % 4294967296), 20, 0, 0, ([] : List Int), ([] : List Int), true) := by
  obtain ⟨j, rfl⟩ : ∃ j, K = j + 3 := ⟨K - 3, by omega⟩
  unfold tcp_Reset.f
  rw [if_pos h, if_pos h2, ob]
  generalize (s + (d.length : Int)) % 4294967296 = n
  have e0 : wrap64 (0 + 1) = 1 := by unfold wrap64; omega
  have e1 : wrap64 (1 + 1) = 2 := by unfold wrap64; omega
  have r0 : rd ([2, 1] : List Int) 0 = 2 := rfl
  have r1 : rd ([2, 1] : List Int) 1 = 1 := rfl
  have l2 : ((([2, 1] : List Int).length : Nat) : Int) = 2 := rfl
  unfold tk
  simp only [tcp_Reset.l0, e0, e1, r0, r1, l2]
  by_cases c2 : Go.bits .and .i64 f 2 = 0 <;> by_cases c1 : Go.bits .and .i64 f 1 = 0 <;> simp [c1, c2]

/-- a segment as it is built, ahead of its checksum -/
def th (s t q k f w u : Int) (o d : List Int) : List Int := p16 s ++ (p16 t ++ (p32 q ++ (p32 k ++ ([(20 + (o.length : Int)) / 4 * 16, f] ++ (p16 w ++ ([0, 0] ++ (p16 u ++ (o ++ d))))))))
def tc (a b s t q k f w u : Int) (o d : List Int) : Int := ck (ph a b 6 (20 + (o.length : Int) + d.length) ++ th s t q k f w u o d)
def ths (a b s t q k f w u : Int) (o d : List Int) : List Int := ((th s t q k f w u o d).set 16 (tc a b s t q k f w u o d / 256 % 256)).set 17 (tc a b s t q k f w u o d % 256)
theorem th_len (s t q k f w u : Int) (o d : List Int) : (th s t q k f w u o d).length = 20 + o.length + d.length := by simp [th, p16, p32]; omega
theorem ths_len (a b s t q k f w u : Int) (o d : List Int) : (ths a b s t q k f w u o d).length = 20 + o.length + d.length := by unfold ths; rw [List.length_set, List.length_set, th_len]
theorem th_byt (s t q k w u : Int) {f : Int} {o d : List Int} (hf : 0 ≤ f ∧ f ≤ 63) (ho : Byt o) (hd : Byt d) (hl : o.length ≤ 40) : Byt (th s t q k f w u o d) :=
  byt_append (byt_p16 s) (byt_append (byt_p16 t) (byt_append (byt_p32 q) (byt_append (byt_p32 k) (byt_append (byt_cons (by omega) (byt_cons (by omega) byt_nil)) (byt_append (byt_p16 w) (byt_append (byt_cons (by omega) (byt_cons (by omega) byt_nil)) (byt_append (byt_p16 u) (byt_append ho hd))))))))
theorem ths_byt (a b s t q k w u : Int) {f : Int} {o d : List Int} (hf : 0 ≤ f ∧ f ≤ 63) (ho : Byt o) (hd : Byt d) (hl : o.length ≤ 40) : Byt (ths a b s t q k f w u o d) :=
  byt_set (byt_set (th_byt s t q k w u hf ho hd hl) _ (by omega)) _ (by omega)
theorem ths_ck (a b s t q k w u : Int) {f : Int} {o d : List Int} (hf : 0 ≤ f ∧ f ≤ 63) (ho : Byt o) (hd : Byt d) (hl : o.length ≤ 40) : ck (ph a b 6 (20 + (o.length : Int) + d.length) ++ ths a b s t q k f w u o d) = 0 := by
  have h1 := sm_nonneg (ph_byt a b (20 + (o.length : Int) + d.length) (p := 6) (by omega))
  have h2 := sm_nonneg (th_byt s t q k w u hf ho hd hl)
  have h := sm_set2 (th s t q k f w u o d) 8 (tc a b s t q k f w u o d / 256 % 256) (tc a b s t q k f w u o d % 256) (by rw [th_len]; omega)
  have e2 : (th s t q k f w u o d).getD (2 * 8) 0 = 0 := rfl
  have e3 : (th s t q k f w u o d).getD (2 * 8 + 1) 0 = 0 := rfl
  rw [e2, e3] at h
  have hr := ck_range (ph a b 6 (20 + (o.length : Int) + d.length) ++ th s t q k f w u o d)
  have e1 : sm (ths a b s t q k f w u o d) = sm (th s t q k f w u o d) + tc a b s t q k f w u o d := by refine Eq.trans h ?_; unfold tc; omega
  have hc : tc a b s t q k f w u o d = 65535 - fo (sm (ph a b 6 (20 + (o.length : Int) + d.length)) + sm (th s t q k f w u o d)) := by
    unfold tc ck; rw [sm_append _ _ (by rw [ph_len])]
  unfold ck
  rw [sm_append _ _ (by rw [ph_len]), e1, ← Int.add_assoc, hc, fo_comp (by omega)]
  rfl
/-- what fits -/
def TcpFit (s t f w u : Int) (o d : List Int) : Prop := (0 ≤ s ∧ s ≤ 65535) ∧ (0 ≤ t ∧ t ≤ 65535) ∧ (0 ≤ w ∧ w ≤ 65535) ∧ (0 ≤ u ∧ u ≤ 65535) ∧ (0 ≤ f ∧ f ≤ 63) ∧ (o.length : Int) % 4 = 0 ∧ o.length ≤ 40 ∧ 20 + o.length + d.length ≤ 65000

theorem rd_byt {l : List Int} (hb : Byt l) (i : Int) : 0 ≤ rd l i ∧ rd l i < 256 := by unfold rd; exact getD_byt hb _
/-- what a segment is read as -/
def tp (l : List Int) : Int × Int × Int × Int × Int × Int × Int × List Int × List Int × Int :=
  if (l.length : Int) < 20 then (0, 0, 0, 0, 0, 0, 0, ([] : List Int), ([] : List Int), 3) else if rd l 12 / 16 * 4 < 20 then (0, 0, 0, 0, 0, 0, 0, ([] : List Int), ([] : List Int), 2) else if rd l 12 / 16 * 4 > (l.length : Int) then (0, 0, 0, 0, 0, 0, 0, ([] : List Int), ([] : List Int), 3)
  else (g16 l 0, g16 l 2, g32 l 4, g32 l 8, rd l 13 % 64, g16 l 14, g16 l 18, (l.take (rd l 12 / 16 * 4).toNat).drop 20, l.drop (rd l 12 / 16 * 4).toNat, 0)
theorem tcpparse_is (l : List Int) (hb : Byt l) (hl : l.length ≤ 1048576) (K : Nat) (hK : 5 ≤ K) : tcp_Parse.f K l = some (tp l) := by
  have h12 := rd_byt hb 12
  have h13 := rd_byt hb 13
  unfold tcp_Parse.f tp
  by_cases c : (l.length : Int) < 20
  · rw [if_pos c, if_pos c]
  rw [if_neg c, if_neg c, if_pos (by omega), w64 (n := rd l 12 / 16) (by omega) (by omega), w64 (n := rd l 12 / 16 * 4) (by omega) (by omega)]
  by_cases c2 : rd l 12 / 16 * 4 < 20
  · rw [if_neg (by omega), if_pos c2, if_pos c2]
  by_cases c3 : rd l 12 / 16 * 4 > (l.length : Int)
  · rw [if_pos (by omega), if_neg c2, if_pos c3]
  rw [if_neg (by omega), if_neg c2, if_neg c2, if_neg c3, get16_is _ 0 hb (by omega) (by omega) (by omega), ob, get16_is _ 2 hb (by omega) (by omega) (by omega), ob, get32_is _ 4 hb (by omega) (by omega) (by omega) K hK, ob, get32_is _ 8 hb (by omega) (by omega) (by omega) K hK, ob, if_pos (by omega), get16_is _ 14 hb (by omega) (by omega) (by omega), ob, get16_is _ 18 hb (by omega) (by omega) (by omega), ob, if_pos (by omega), if_pos (by omega), clone_is _ (by rw [List.length_drop, List.length_take]; omega), ob, if_pos (by omega), clone_is _ (by rw [List.length_drop]; omega), ob, and_u8_63 _ h13.1 h13.2, w64 (n := rd l 13 % 64) (by omega) (by omega)]
theorem rtcpparse_is (l : List Int) (hb : Byt l) (hl : l.length ≤ 1048576) : castellanref5_Parse.f l = some (tp l) := by
  have h12 := rd_byt hb 12
  have h13 := rd_byt hb 13
  unfold castellanref5_Parse.f tp
  by_cases c : (l.length : Int) < 20
  · rw [if_pos c, if_pos c]
  rw [if_neg c, if_neg c, if_pos (by omega), w64 (n := rd l 12 / 16) (by omega) (by omega), w64 (n := 4 * (rd l 12 / 16)) (by omega) (by omega), Int.mul_comm 4]
  by_cases c2 : rd l 12 / 16 * 4 < 20
  · rw [if_pos c2, if_pos c2]
  by_cases c3 : rd l 12 / 16 * 4 > (l.length : Int)
  · rw [if_neg c2, if_neg c2, if_pos c3, if_pos c3]
  rw [if_neg c2, if_neg c2, if_neg c3, if_neg c3, rget16_is _ 0 hb (by omega) (by omega), ob, rget16_is _ 2 hb (by omega) (by omega), ob, rget32_is _ 4 hb (by omega) (by omega), ob, rget32_is _ 8 hb (by omega) (by omega), ob, if_pos (by omega), rget16_is _ 14 hb (by omega) (by omega), ob, rget16_is _ 18 hb (by omega) (by omega), ob, ob, if_pos (by omega), if_pos (by omega), if_pos (by rw [List.length_drop, List.length_take]; simp; omega), ob, if_pos (by omega), if_pos (by rw [List.length_drop]; simp; omega), List.nil_append, List.nil_append, and_u8_63 _ h13.1 h13.2, w64 (n := rd l 13 % 64) (by omega) (by omega)]

theorem tcpparse_back (a b s t q k f w u : Int) (o d : List Int) (hfit : TcpFit s t f w u o d) (hq : 0 ≤ q ∧ q ≤ 4294967295) (hk : 0 ≤ k ∧ k ≤ 4294967295) (ho : Byt o) (hd : Byt d) (K : Nat) (hK : 5 ≤ K) :
    tcp_Parse.f K (ths a b s t q k f w u o d) = some (s, t, q, k, f, w, u, o, d, 0) := by
  obtain ⟨h1, h2, h3, h4, h5, h6, h7, h8⟩ := hfit
  have hRb := ths_byt a b s t q k w u h5 ho hd h7
  have hRl := ths_len a b s t q k f w u o d
  have e12 : rd (ths a b s t q k f w u o d) 12 = (20 + (o.length : Int)) / 4 * 16 := rfl
  have e13 : rd (ths a b s t q k f w u o d) 13 = f := rfl
  have g0 : g16 (ths a b s t q k f w u o d) 0 = s := by
    have x : atz (ths a b s t q k f w u o d) 0 = s / 256 % 256 := rfl
    have y : atz (ths a b s t q k f w u o d) 1 = s % 256 := rfl
    unfold g16; rw [show (0 : Int) + 1 = 1 from rfl, x, y]; omega
  have g2 : g16 (ths a b s t q k f w u o d) 2 = t := by
    have x : atz (ths a b s t q k f w u o d) 2 = t / 256 % 256 := rfl
    have y : atz (ths a b s t q k f w u o d) 3 = t % 256 := rfl
    unfold g16; rw [show (2 : Int) + 1 = 3 from rfl, x, y]; omega
  have g14 : g16 (ths a b s t q k f w u o d) 14 = w := by
    have x : atz (ths a b s t q k f w u o d) 14 = w / 256 % 256 := rfl
    have y : atz (ths a b s t q k f w u o d) 15 = w % 256 := rfl
    unfold g16; rw [show (14 : Int) + 1 = 15 from rfl, x, y]; omega
  have g18 : g16 (ths a b s t q k f w u o d) 18 = u := by
    have x : atz (ths a b s t q k f w u o d) 18 = u / 256 % 256 := rfl
    have y : atz (ths a b s t q k f w u o d) 19 = u % 256 := rfl
    unfold g16; rw [show (18 : Int) + 1 = 19 from rfl, x, y]; omega
  have g4 : g32 (ths a b s t q k f w u o d) 4 = q := by
    have x : atz (ths a b s t q k f w u o d) 4 = q / 16777216 % 256 := rfl
    have y : atz (ths a b s t q k f w u o d) 5 = q / 65536 % 256 := rfl
    have z : atz (ths a b s t q k f w u o d) 6 = q / 256 % 256 := rfl
    have v : atz (ths a b s t q k f w u o d) 7 = q % 256 := rfl
    unfold g32; rw [show (4 : Int) + 1 = 5 from rfl, show (4 : Int) + 2 = 6 from rfl, show (4 : Int) + 3 = 7 from rfl, x, y, z, v]; omega
  have g8 : g32 (ths a b s t q k f w u o d) 8 = k := by
    have x : atz (ths a b s t q k f w u o d) 8 = k / 16777216 % 256 := rfl
    have y : atz (ths a b s t q k f w u o d) 9 = k / 65536 % 256 := rfl
    have z : atz (ths a b s t q k f w u o d) 10 = k / 256 % 256 := rfl
    have v : atz (ths a b s t q k f w u o d) 11 = k % 256 := rfl
    unfold g32; rw [show (8 : Int) + 1 = 9 from rfl, show (8 : Int) + 2 = 10 from rfl, show (8 : Int) + 3 = 11 from rfl, x, y, z, v]; omega
  have d20 : (ths a b s t q k f w u o d).drop 20 = o ++ d := rfl
  have hh : wrap64 (wrap64 ((20 + (o.length : Int)) / 4 * 16 / 16) * 4) = 20 + o.length := by rw [w64 (n := (20 + (o.length : Int)) / 4 * 16 / 16) (by omega) (by omega), w64 (by omega) (by omega)]; omega
  have tk : ((ths a b s t q k f w u o d).take (20 + (o.length : Int)).toNat).drop 20 = o := by
    rw [List.drop_take, d20, show (20 + (o.length : Int)).toNat - 20 = o.length by omega, List.take_left]
  have td : (ths a b s t q k f w u o d).drop (20 + (o.length : Int)).toNat = d := by
    rw [show (20 + (o.length : Int)).toNat = 20 + o.length by omega, ← List.drop_drop, d20, List.drop_left]
  unfold tcp_Parse.f
  rw [e12, hh, if_neg (by omega), if_pos (by omega), if_neg (by omega), if_neg (by omega), get16_is _ 0 hRb (by omega) (by omega) (by omega), ob, get16_is _ 2 hRb (by omega) (by omega) (by omega), ob, get32_is _ 4 hRb (by omega) (by omega) (by omega) K hK, ob, get32_is _ 8 hRb (by omega) (by omega) (by omega) K hK, ob, if_pos (by omega), get16_is _ 14 hRb (by omega) (by omega) (by omega), ob, get16_is _ 18 hRb (by omega) (by omega) (by omega), ob, if_pos (by omega), if_pos (by omega), tk, td, clone_is o (by omega), ob, if_pos (by omega), clone_is d (by omega), ob, e13, and_u8_63 f h5.1 (by omega), Int.emod_eq_of_lt h5.1 (by omega), w64 (n := f) (by omega) (by omega), g0, g2, g4, g8, g14, g18]

theorem half_is (a : Int) : castellanref5_half.f a = some (decide (0 ≤ a ∧ a ≤ 65535)) := by
  unfold castellanref5_half.f
  by_cases c : a ≥ 0
  · rw [if_pos c]; congr 1; rw [decide_eq_decide]; omega
  · rw [if_neg c, decide_eq_false (by omega)]
theorem ref5_is (s t q k f w u : Int) (o d : List Int) (l1 : o.length ≤ 60) (l2 : d.length ≤ 1500) : ∃ z, castellanref5_Is.f s t q k f w u o d = some z ∧ (z = true → TcpFit s t f w u o d) := by
  unfold castellanref5_Is.f TcpFit
  rw [half_is, half_is, half_is, half_is]
  simp only [ob]
  rcases Decidable.em (0 ≤ s ∧ s ≤ 65535) with d0 | d0
  rotate_left
  · rw [decide_eq_false d0, if_neg (by decide)]; exact ⟨false, rfl, (fun h => Bool.noConfusion h)⟩
  rw [decide_eq_true d0, if_pos rfl]
  rcases Decidable.em (0 ≤ t ∧ t ≤ 65535) with d1 | d1
  rotate_left
  · rw [decide_eq_false d1, if_neg (by decide)]; exact ⟨false, rfl, (fun h => Bool.noConfusion h)⟩
  rw [decide_eq_true d1, if_pos rfl]
  rcases Decidable.em (0 ≤ w ∧ w ≤ 65535) with d2 | d2
  rotate_left
  · rw [decide_eq_false d2, if_neg (by decide)]; exact ⟨false, rfl, (fun h => Bool.noConfusion h)⟩
  rw [decide_eq_true d2, if_pos rfl]
  rcases Decidable.em (0 ≤ u ∧ u ≤ 65535) with d3 | d3
  rotate_left
  · rw [decide_eq_false d3, if_neg (by decide)]; exact ⟨false, rfl, (fun h => Bool.noConfusion h)⟩
  rw [decide_eq_true d3, if_pos rfl]
  rcases Decidable.em (f ≥ 0) with c0 | c0
  rotate_left
  · rw [if_neg c0]; exact ⟨false, rfl, (fun h => Bool.noConfusion h)⟩
  rw [if_pos c0]
  rcases Decidable.em (f ≤ 63) with c1 | c1
  rotate_left
  · rw [if_neg c1]; exact ⟨false, rfl, (fun h => Bool.noConfusion h)⟩
  rw [if_pos c1]
  rcases Decidable.em ((o.length : Int) % 4 = 0) with c2 | c2
  rotate_left
  · rw [if_neg c2]; exact ⟨false, rfl, (fun h => Bool.noConfusion h)⟩
  rw [if_pos c2]
  rcases Decidable.em ((o.length : Int) ≤ 40) with c3 | c3
  rotate_left
  · rw [if_neg c3]; exact ⟨false, rfl, (fun h => Bool.noConfusion h)⟩
  rw [if_pos c3]
  refine ⟨_, rfl, fun h => ?_⟩
  rw [decide_eq_true_iff, w64 (n := 20 + (o.length : Int)) (by omega) (by omega), w64 (by omega) (by omega)] at h
  omega

theorem ref5_no (s t q k f w u : Int) (o d : List Int) (l1 : o.length ≤ 60) (l2 : d.length ≤ 1500) (h : castellanref5_Is.f s t q k f w u o d = some false) : ¬ TcpFit s t f w u o d := by
  rintro ⟨h1, h2, h3, h4, h5, h6, h7, h8⟩
  revert h
  unfold castellanref5_Is.f
  rw [half_is, half_is, half_is, half_is, decide_eq_true h1, decide_eq_true h2, decide_eq_true h3, decide_eq_true h4]
  simp only [ob]
  rw [if_pos trivial, if_pos trivial, if_pos trivial, if_pos trivial, if_pos (by omega), if_pos (by omega), if_pos h6, if_pos (by omega), w64 (n := 20 + (o.length : Int)) (by omega) (by omega), w64 (by omega) (by omega), decide_eq_true (by omega)]
  intro h
  exact absurd (Option.some.inj h) (by decide)
theorem rtcpbuild_is (a b s t q k f w u : Int) (o d : List Int) (hfit : TcpFit s t f w u o d) (ho : Byt o) (hd : Byt d) (l2 : d.length ≤ 1500) (K : Nat) (hK : KO ≤ K) :
    castellanref5_Build.f K a b s t q k f w u o d = some (ths a b s t q k f w u o d, 0) := by
  have hfit' := hfit
  obtain ⟨h1, h2, h3, h4, h5, h6, h7, h8⟩ := hfit'
  obtain ⟨z, hz, -⟩ := ref5_is s t q k f w u o d (by omega) l2
  have hn := th_len s t q k f w u o d
  have hq : wrap64 (wrap64 (Int.tdiv (20 + (o.length : Int)) 4) * 16) = (20 + (o.length : Int)) / 4 * 16 := by rw [Int.tdiv_eq_ediv_of_nonneg (by omega), w64 (n := (20 + (o.length : Int)) / 4) (by omega) (by omega), w64 (by omega) (by omega)]
  have e : p16 s ++ p16 t ++ p32 q ++ p32 k ++ [(20 + (o.length : Int)) / 4 * 16, f] ++ p16 w ++ [0, 0] ++ p16 u ++ o ++ d = th s t q k f w u o d := by simp [th]
  unfold castellanref5_Build.f
  rw [hz, ob]
  cases z with
  | false => exact absurd hfit (ref5_no s t q k f w u o d (by omega) l2 hz)
  | true =>
    rw [if_pos rfl, w64 (n := 20 + (o.length : Int)) (by omega) (by omega), hq, Int.emod_eq_of_lt (a := (20 + (o.length : Int)) / 4 * 16) (by omega) (by omega), Int.emod_eq_of_lt (a := f) (by omega) (by omega)]
    simp only [rput16_is, show ∀ n, castellanref1_Put32.f n = some (p32 n) from fun _ => rfl, ob]
    rw [if_pos (by simp [p16]), if_pos (by simp [p16, p32]), if_pos (by simp [p16, p32]), if_pos (by simp [p16, p32]), if_pos (by simp [p16, p32]), if_pos (by simp [p16, p32]), if_pos (by simp [p16, p32]), if_pos (by simp [p16, p32]; omega), if_pos (by simp [p16, p32]; omega), e, hn, show ((20 + o.length + d.length : Nat) : Int) = 20 + (o.length : Int) + d.length by omega, rpseudo_is a b 6 _ (by omega)]
    simp only [ob]
    rw [if_pos (by rw [ph_len]; omega), rof_is _ (byt_append (ph_byt a b _ (by omega)) (th_byt s t q k w u h5 ho hd h7)) (by rw [List.length_append, ph_len, hn]; omega) K hK]
    simp only [ob]
    rw [if_pos (by simp [p16]), if_pos (by simp [p16]), if_pos (by omega), if_pos (by omega)]
    rfl

/-- the length of a header, by its first byte -/
def hd (l : List Int) : Int := if l.length = 0 then 0 else atz l 0 % 16 * 4
theorem hd_range (l : List Int) : 0 ≤ hd l ∧ hd l ≤ 60 := by unfold hd; split <;> omega

theorem nat_or_bit (i x : Nat) (h : x / 2 ^ i % 2 = 0) : x ||| 2 ^ i = x + 2 ^ i := by
  have hr : x % 2 ^ i < 2 ^ i := Nat.mod_lt _ (Nat.two_pow_pos i)
  have hp : 2 ^ i < 2 ^ (i + 1) := Nat.pow_lt_pow_right (by decide) (by omega)
  have e1 : x = 2 ^ (i + 1) * (x / 2 ^ (i + 1)) + x % 2 ^ i := by
    have a := Nat.div_add_mod x (2 ^ (i + 1))
    have b : x % 2 ^ (i + 1) = x % 2 ^ i := by rw [Nat.pow_succ, Nat.mod_mul, h]; omega
    rw [b] at a
    exact a.symm
  have e2 : x % 2 ^ i ||| 2 ^ i = 2 ^ i * 1 + x % 2 ^ i := by rw [Nat.two_pow_add_eq_or_of_lt hr 1, Nat.or_comm, Nat.mul_one]
  generalize x / 2 ^ (i + 1) = q at e1
  generalize x % 2 ^ i = r at *
  rw [e1, Nat.two_pow_add_eq_or_of_lt (by omega) q, Nat.or_assoc, e2, ← Nat.two_pow_add_eq_or_of_lt (by rw [Nat.pow_succ]; omega) q, ← Nat.two_pow_add_eq_or_of_lt (by omega) q]
  omega
theorem or_nat (a b : Nat) (ha : a < 2 ^ 62) (hb : b < 2 ^ 62) : Go.bits .or .i64 (a : Int) (b : Int) = ((a ||| b : Nat) : Int) := by
  have hx : a ||| b < 2 ^ 62 := Nat.or_lt_two_pow ha hb
  show IntKind.i64.wrap (((BitVec.ofInt 64 (a : Int)) ||| (BitVec.ofInt 64 (b : Int))).toNat : Int) = _
  rw [BitVec.ofInt_natCast, BitVec.ofInt_natCast, BitVec.toNat_or, BitVec.toNat_ofNat, BitVec.toNat_ofNat, Nat.mod_eq_of_lt (by omega), Nat.mod_eq_of_lt (by omega), wraps_i64 _ (by omega) (by omega)]
theorem and_nat (a b : Nat) (ha : a < 2 ^ 62) (hb : b < 2 ^ 62) : Go.bits .and .i64 (a : Int) (b : Int) = ((a &&& b : Nat) : Int) := by
  have hx : a &&& b < 2 ^ 62 := Nat.and_lt_two_pow a hb
  show IntKind.i64.wrap (((BitVec.ofInt 64 (a : Int)) &&& (BitVec.ofInt 64 (b : Int))).toNat : Int) = _
  rw [BitVec.ofInt_natCast, BitVec.ofInt_natCast, BitVec.toNat_and, BitVec.toNat_ofNat, BitVec.toNat_ofNat, Nat.mod_eq_of_lt (by omega), Nat.mod_eq_of_lt (by omega), wraps_i64 _ (by omega) (by omega)]
theorem or_bit (i : Nat) (hi : i ≤ 60) (x : Int) (h0 : 0 ≤ x) (h1 : x < 4611686018427387904) (h : x / 2 ^ i % 2 = 0) : Go.bits .or .i64 x (2 ^ i) = x + 2 ^ i := by
  obtain ⟨n, rfl⟩ := Int.eq_ofNat_of_zero_le h0
  have hp : (2 : Nat) ^ i ≤ 2 ^ 60 := Nat.pow_le_pow_right (by decide) hi
  have e : ((2 : Int) ^ i) = ((2 ^ i : Nat) : Int) := by push_cast; rfl
  rw [e] at h ⊢
  rw [or_nat n (2 ^ i) (by omega) (by omega), nat_or_bit i n (by exact_mod_cast h)]
  push_cast; rfl
theorem nat_and_bit (i n : Nat) : n &&& 2 ^ i = n / 2 ^ i % 2 * 2 ^ i := by
  apply Nat.eq_of_testBit_eq
  intro j
  rw [Nat.testBit_and, Nat.testBit_two_pow]
  rcases Nat.mod_two_eq_zero_or_one (n / 2 ^ i) with c | c
  · rw [c, Nat.zero_mul, Nat.zero_testBit]
    by_cases h : i = j
    · subst h; rw [Nat.testBit_eq_decide_div_mod_eq, c]; rfl
    · rw [decide_eq_false h, Bool.and_false]
  · rw [c, Nat.one_mul, Nat.testBit_two_pow]
    by_cases h : i = j
    · subst h; rw [Nat.testBit_eq_decide_div_mod_eq, c]; simp
    · rw [decide_eq_false h, Bool.and_false]
theorem and_bit (i : Nat) (hi : i ≤ 60) (x : Int) (h0 : 0 ≤ x) (h1 : x < 4611686018427387904) : Go.bits .and .i64 x (2 ^ i) = x / 2 ^ i % 2 * 2 ^ i := by
  obtain ⟨n, rfl⟩ := Int.eq_ofNat_of_zero_le h0
  have hp : (2 : Nat) ^ i ≤ 2 ^ 60 := Nat.pow_le_pow_right (by decide) hi
  have e : ((2 : Int) ^ i) = ((2 ^ i : Nat) : Int) := by push_cast; rfl
  rw [e, and_nat n (2 ^ i) (by omega) (by omega), nat_and_bit]
  push_cast; rfl
theorem or_8192 (x : Int) (h0 : 0 ≤ x) (h1 : x < 65536) (h : x / 8192 % 2 = 0) : Go.bits .or .i64 x 8192 = x + 8192 := by simpa using or_bit 13 (by decide) x h0 (by omega) (by simpa using h)
theorem or_16384 (x : Int) (h0 : 0 ≤ x) (h1 : x < 65536) (h : x / 16384 % 2 = 0) : Go.bits .or .i64 x 16384 = x + 16384 := by simpa using or_bit 14 (by decide) x h0 (by omega) (by simpa using h)
theorem and_8192 (x : Int) (h0 : 0 ≤ x) (h1 : x < 65536) : Go.bits .and .i64 x 8192 = x / 8192 % 2 * 8192 := by simpa using and_bit 13 (by decide) x h0 (by omega)
theorem and_16384 (x : Int) (h0 : 0 ≤ x) (h1 : x < 65536) : Go.bits .and .i64 x 16384 = x / 16384 % 2 * 16384 := by simpa using and_bit 14 (by decide) x h0 (by omega)
theorem and_32768 (x : Int) (h0 : 0 ≤ x) (h1 : x < 65536) : Go.bits .and .i64 x 32768 = x / 32768 % 2 * 32768 := by simpa using and_bit 15 (by decide) x h0 (by omega)

/-- an IP header as it is built, ahead of its checksum -/
def ih (tos id fl ttl pr s t : Int) (o : List Int) (n : Int) : List Int := [64 + (20 + (o.length : Int)) / 4, tos] ++ (p16 (20 + (o.length : Int) + n) ++ (p16 id ++ (p16 fl ++ ([ttl, pr, 0, 0] ++ (p32 s ++ (p32 t ++ o))))))
def ihs (tos id fl ttl pr s t : Int) (o : List Int) (n : Int) : List Int := ((ih tos id fl ttl pr s t o n).set 10 (ck (ih tos id fl ttl pr s t o n) / 256 % 256)).set 11 (ck (ih tos id fl ttl pr s t o n) % 256)
/-- the flags and the offset -/
def flg (df mf : Bool) (off : Int) : Int := off + (if df then 16384 else 0) + (if mf then 8192 else 0)
theorem ih_len (tos id fl ttl pr s t : Int) (o : List Int) (n : Int) : (ih tos id fl ttl pr s t o n).length = 20 + o.length := by simp [ih, p16, p32]; omega
theorem ihs_len (tos id fl ttl pr s t : Int) (o : List Int) (n : Int) : (ihs tos id fl ttl pr s t o n).length = 20 + o.length := by unfold ihs; rw [List.length_set, List.length_set, ih_len]
theorem ih_byt {tos ttl pr : Int} (id fl s t : Int) {o : List Int} (n : Int) (h1 : 0 ≤ tos ∧ tos ≤ 255) (h2 : 0 ≤ ttl ∧ ttl ≤ 255) (h3 : 0 ≤ pr ∧ pr ≤ 255) (ho : Byt o) (hl : o.length ≤ 40) : Byt (ih tos id fl ttl pr s t o n) :=
  byt_append (byt_cons (by omega) (byt_cons (by omega) byt_nil)) (byt_append (byt_p16 _) (byt_append (byt_p16 id) (byt_append (byt_p16 fl) (byt_append (byt_cons (by omega) (byt_cons (by omega) (byt_cons (by omega) (byt_cons (by omega) byt_nil)))) (byt_append (byt_p32 s) (byt_append (byt_p32 t) ho))))))
theorem ihs_byt {tos ttl pr : Int} (id fl s t : Int) {o : List Int} (n : Int) (h1 : 0 ≤ tos ∧ tos ≤ 255) (h2 : 0 ≤ ttl ∧ ttl ≤ 255) (h3 : 0 ≤ pr ∧ pr ≤ 255) (ho : Byt o) (hl : o.length ≤ 40) : Byt (ihs tos id fl ttl pr s t o n) :=
  byt_set (byt_set (ih_byt id fl s t n h1 h2 h3 ho hl) _ (by omega)) _ (by omega)
theorem ihs_fo {tos ttl pr : Int} (id fl s t : Int) {o : List Int} (n : Int) (h1 : 0 ≤ tos ∧ tos ≤ 255) (h2 : 0 ≤ ttl ∧ ttl ≤ 255) (h3 : 0 ≤ pr ∧ pr ≤ 255) (ho : Byt o) (hl : o.length ≤ 40) : fo (sm (ihs tos id fl ttl pr s t o n)) = 65535 := by
  have h := sm_set2 (ih tos id fl ttl pr s t o n) 5 (ck (ih tos id fl ttl pr s t o n) / 256 % 256) (ck (ih tos id fl ttl pr s t o n) % 256) (by rw [ih_len]; omega)
  have e2 : (ih tos id fl ttl pr s t o n).getD (2 * 5) 0 = 0 := rfl
  have e3 : (ih tos id fl ttl pr s t o n).getD (2 * 5 + 1) 0 = 0 := rfl
  rw [e2, e3] at h
  have hr := ck_range (ih tos id fl ttl pr s t o n)
  have e : sm (ihs tos id fl ttl pr s t o n) = sm (ih tos id fl ttl pr s t o n) + ck (ih tos id fl ttl pr s t o n) := by refine Eq.trans h ?_; omega
  rw [e]
  exact fo_comp (sm_nonneg (ih_byt id fl s t n h1 h2 h3 ho hl))
theorem or_64 (x : Int) (h0 : 0 ≤ x) (h : x < 16) : Go.bits .or .i64 64 x = 64 + x := or_i64 4 (by decide) 64 x (by omega) (by decide) (by omega) h0 (by omega)
/-- what fits -/
def IpFit (tos id off ttl pr : Int) (o : List Int) : Prop := (0 ≤ tos ∧ tos ≤ 255) ∧ (0 ≤ ttl ∧ ttl ≤ 255) ∧ (0 ≤ pr ∧ pr ≤ 255) ∧ (0 ≤ id ∧ id ≤ 65535) ∧ (0 ≤ off ∧ off ≤ 8191) ∧ (o.length : Int) % 4 = 0 ∧ o.length ≤ 40

theorem atz_rd {l : List Int} {i : Int} (h : 0 ≤ i) : rd l i = atz l i := by unfold rd atz; rw [if_pos h]
/-- what a packet is looked at as -/
def lk (l : List Int) : Int := if (l.length : Int) < 20 then 3 else if atz l 0 / 16 ≠ 4 ∨ hd l < 20 then 2 else if (l.length : Int) < hd l then 3 else if ck (l.take (hd l).toNat) ≠ 0 then 4 else if g16 l 2 < hd l ∨ g16 l 6 / 32768 % 2 = 1 then 2 else if g16 l 2 > (l.length : Int) then 3 else 0
/-- what a packet is read as -/
def ipp (l : List Int) : Int × Int × Bool × Bool × Int × Int × Int × Int × Int × List Int × List Int × Int :=
  if lk l = 0 then (atz l 1, g16 l 4, g16 l 6 / 16384 % 2 == 1, g16 l 6 / 8192 % 2 == 1, g16 l 6 % 8192, atz l 8, atz l 9, g32 l 12, g32 l 16, (l.take (hd l).toNat).drop 20, (l.take (g16 l 2).toNat).drop (hd l).toNat, 0)
  else (0, 0, false, false, 0, 0, 0, 0, 0, ([] : List Int), ([] : List Int), lk l)
theorem lk_zero {l : List Int} (h : lk l = 0) : 20 ≤ (l.length : Int) ∧ 20 ≤ hd l ∧ hd l ≤ l.length ∧ hd l ≤ g16 l 2 ∧ g16 l 2 ≤ l.length := by
  unfold lk at h
  split at h
  · omega
  split at h
  · omega
  split at h
  · omega
  split at h
  · omega
  split at h
  · omega
  split at h
  · omega
  · omega
theorem bit_ne {x : Int} (h : x = 0 ∨ x = 1) (m : Int) (hm : m ≠ 0) : (x * m != 0) = (x == 1) := by
  rcases h with h | h <;> subst h
  · simp
  · simp [hm]

/-- what is read behind a packet that was built, whatever follows it -/
theorem ihs_parts {tos id fl ttl pr : Int} (s t : Int) {o : List Int} (n : Int) (m : List Int) (hl : o.length ≤ 40) (h4 : (o.length : Int) % 4 = 0) (hn : 0 ≤ n ∧ 20 + o.length + n ≤ 65535) :
    hd (ihs tos id fl ttl pr s t o n ++ m) = 20 + o.length ∧ atz (ihs tos id fl ttl pr s t o n ++ m) 0 / 16 = 4 ∧ g16 (ihs tos id fl ttl pr s t o n ++ m) 2 = 20 + o.length + n := by
  have hL := ihs_len tos id fl ttl pr s t o n
  have g (i : Int) (h : i < 20) : atz (ihs tos id fl ttl pr s t o n ++ m) i = atz (ihs tos id fl ttl pr s t o n) i := atz_append_left _ m (by omega)
  have e0 : atz (ihs tos id fl ttl pr s t o n) 0 = 64 + (20 + (o.length : Int)) / 4 := rfl
  have e2 : atz (ihs tos id fl ttl pr s t o n) 2 = (20 + (o.length : Int) + n) / 256 % 256 := rfl
  have e3 : atz (ihs tos id fl ttl pr s t o n) 3 = (20 + (o.length : Int) + n) % 256 := rfl
  refine ⟨?_, ?_, ?_⟩
  · unfold hd; rw [if_neg (by rw [List.length_append]; omega), g 0 (by omega), e0]; omega
  · rw [g 0 (by omega), e0]; omega
  · unfold g16; rw [show (2 : Int) + 1 = 3 from rfl, g 2 (by omega), g 3 (by omega), e2, e3]; omega
theorem flg_parts (df mf : Bool) {off : Int} (h : 0 ≤ off ∧ off ≤ 8191) : 0 ≤ flg df mf off ∧ flg df mf off < 32768 ∧ (flg df mf off / 16384 % 2 == 1) = df ∧ (flg df mf off / 8192 % 2 == 1) = mf ∧ flg df mf off % 8192 = off := by
  unfold flg
  cases df <;> cases mf <;> simp <;> omega
theorem ip_back (tos id off ttl pr s t : Int) (df mf : Bool) (o d m : List Int) (hf : IpFit tos id off ttl pr o) (hs : 0 ≤ s ∧ s ≤ 4294967295) (ht : 0 ≤ t ∧ t ≤ 4294967295) (ho : Byt o) (hd : 20 + o.length + d.length ≤ 65535) :
    ipp (ihs tos id (flg df mf off) ttl pr s t o d.length ++ d ++ m) = (tos, id, df, mf, off, ttl, pr, s, t, o, d, 0) := by
  obtain ⟨h1, h2, h3, h4, h5, h6, h7⟩ := hf
  obtain ⟨f0, f1, f2, f3, f4⟩ := flg_parts df mf h5
  generalize hFL : flg df mf off = fl at f0 f1 f2 f3 f4
  obtain ⟨p1, p2, p3⟩ := ihs_parts (tos := tos) (id := id) (fl := fl) (ttl := ttl) (pr := pr) s t (o := o) (d.length : Int) (d ++ m) h7 h6 (by omega)
  have hfo := ihs_fo id fl s t (o := o) (d.length : Int) h1 h2 h3 ho h7
  have hL := ihs_len tos id fl ttl pr s t o d.length
  have g (i : Int) (h : i < 20) : atz (ihs tos id fl ttl pr s t o d.length ++ (d ++ m)) i = atz (ihs tos id fl ttl pr s t o d.length) i := atz_append_left _ (d ++ m) (by omega)
  have gg (i : Int) (h : i < 19) : g16 (ihs tos id fl ttl pr s t o d.length ++ (d ++ m)) i = g16 (ihs tos id fl ttl pr s t o d.length) i := by unfold g16; rw [g i (by omega), g (i + 1) (by omega)]
  have gl (i : Int) (h : i < 17) : g32 (ihs tos id fl ttl pr s t o d.length ++ (d ++ m)) i = g32 (ihs tos id fl ttl pr s t o d.length) i := by unfold g32; rw [g i (by omega), g (i + 1) (by omega), g (i + 2) (by omega), g (i + 3) (by omega)]
  have q4 : g16 (ihs tos id fl ttl pr s t o d.length) 4 = id := by
    have a : atz (ihs tos id fl ttl pr s t o d.length) 4 = id / 256 % 256 := rfl
    have b : atz (ihs tos id fl ttl pr s t o d.length) 5 = id % 256 := rfl
    unfold g16; rw [show (4 : Int) + 1 = 5 from rfl, a, b]; omega
  have q6 : g16 (ihs tos id fl ttl pr s t o d.length) 6 = fl := by
    have a : atz (ihs tos id fl ttl pr s t o d.length) 6 = fl / 256 % 256 := rfl
    have b : atz (ihs tos id fl ttl pr s t o d.length) 7 = fl % 256 := rfl
    unfold g16; rw [show (6 : Int) + 1 = 7 from rfl, a, b]; omega
  have qs : g32 (ihs tos id fl ttl pr s t o d.length) 12 = s := by
    have a : atz (ihs tos id fl ttl pr s t o d.length) 12 = s / 16777216 % 256 := rfl
    have b : atz (ihs tos id fl ttl pr s t o d.length) 13 = s / 65536 % 256 := rfl
    have c : atz (ihs tos id fl ttl pr s t o d.length) 14 = s / 256 % 256 := rfl
    have e : atz (ihs tos id fl ttl pr s t o d.length) 15 = s % 256 := rfl
    unfold g32; rw [show (12 : Int) + 1 = 13 from rfl, show (12 : Int) + 2 = 14 from rfl, show (12 : Int) + 3 = 15 from rfl, a, b, c, e]; omega
  have qt : g32 (ihs tos id fl ttl pr s t o d.length) 16 = t := by
    have a : atz (ihs tos id fl ttl pr s t o d.length) 16 = t / 16777216 % 256 := rfl
    have b : atz (ihs tos id fl ttl pr s t o d.length) 17 = t / 65536 % 256 := rfl
    have c : atz (ihs tos id fl ttl pr s t o d.length) 18 = t / 256 % 256 := rfl
    have e : atz (ihs tos id fl ttl pr s t o d.length) 19 = t % 256 := rfl
    unfold g32; rw [show (16 : Int) + 1 = 17 from rfl, show (16 : Int) + 2 = 18 from rfl, show (16 : Int) + 3 = 19 from rfl, a, b, c, e]; omega
  have d20 : (ihs tos id fl ttl pr s t o d.length).drop 20 = o := rfl
  have tk : (ihs tos id fl ttl pr s t o d.length ++ (d ++ m)).take (20 + (o.length : Int)).toNat = ihs tos id fl ttl pr s t o d.length := by
    rw [show (20 + (o.length : Int)).toNat = (ihs tos id fl ttl pr s t o d.length).length by omega, List.take_left]
  have td : ((ihs tos id fl ttl pr s t o d.length ++ (d ++ m)).take (20 + (o.length : Int) + (d.length : Int)).toNat).drop (20 + (o.length : Int)).toNat = d := by
    rw [← List.append_assoc, show (20 + (o.length : Int) + (d.length : Int)).toNat = (ihs tos id fl ttl pr s t o d.length ++ d).length by rw [List.length_append]; omega, List.take_left, show (20 + (o.length : Int)).toNat = (ihs tos id fl ttl pr s t o d.length).length by omega, List.drop_left]
  have hX : ((ihs tos id fl ttl pr s t o d.length ++ (d ++ m)).length : Int) = 20 + o.length + d.length + m.length := by rw [List.length_append, List.length_append]; omega
  have hck : ck (ihs tos id fl ttl pr s t o d.length) = 0 := by unfold ck; rw [hfo]; rfl
  have hlk : lk (ihs tos id fl ttl pr s t o d.length ++ (d ++ m)) = 0 := by
    unfold lk
    rw [p1, p2, p3, tk, gg 6 (by omega), q6, if_neg (by omega), if_neg (by omega), if_neg (by omega), if_neg (by omega), if_neg (by omega), if_neg (by omega)]
  rw [List.append_assoc]
  unfold ipp
  rw [if_pos hlk, p1, p3, tk, td, gg 6 (by omega), gg 4 (by omega), q6, q4, gl 12 (by omega), gl 16 (by omega), qs, qt, d20, g 1 (by omega), g 8 (by omega), g 9 (by omega), f2, f3, f4]
  rfl

theorem ref4_is (tos id off ttl pr s t : Int) (df mf : Bool) (o d : List Int) : ∃ q, castellanref4_Is.f tos id df mf off ttl pr s t o d = some q ∧ (q = true → IpFit tos id off ttl pr o) ∧ (q = false → ¬ IpFit tos id off ttl pr o) := by
  unfold castellanref4_Is.f IpFit
  rcases Decidable.em (tos ≥ 0) with c0 | c0
  rotate_left
  · rw [if_neg c0]; exact ⟨false, rfl, (fun h => Bool.noConfusion h), (fun _ h => by omega)⟩
  rw [if_pos c0]
  rcases Decidable.em (tos ≤ 255) with c1 | c1
  rotate_left
  · rw [if_neg c1]; exact ⟨false, rfl, (fun h => Bool.noConfusion h), (fun _ h => by omega)⟩
  rw [if_pos c1]
  rcases Decidable.em (ttl ≥ 0) with c2 | c2
  rotate_left
  · rw [if_neg c2]; exact ⟨false, rfl, (fun h => Bool.noConfusion h), (fun _ h => by omega)⟩
  rw [if_pos c2]
  rcases Decidable.em (ttl ≤ 255) with c3 | c3
  rotate_left
  · rw [if_neg c3]; exact ⟨false, rfl, (fun h => Bool.noConfusion h), (fun _ h => by omega)⟩
  rw [if_pos c3]
  rcases Decidable.em (pr ≥ 0) with c4 | c4
  rotate_left
  · rw [if_neg c4]; exact ⟨false, rfl, (fun h => Bool.noConfusion h), (fun _ h => by omega)⟩
  rw [if_pos c4]
  rcases Decidable.em (pr ≤ 255) with c5 | c5
  rotate_left
  · rw [if_neg c5]; exact ⟨false, rfl, (fun h => Bool.noConfusion h), (fun _ h => by omega)⟩
  rw [if_pos c5]
  rcases Decidable.em (id ≥ 0) with c6 | c6
  rotate_left
  · rw [if_neg c6]; exact ⟨false, rfl, (fun h => Bool.noConfusion h), (fun _ h => by omega)⟩
  rw [if_pos c6]
  rcases Decidable.em (id ≤ 65535) with c7 | c7
  rotate_left
  · rw [if_neg c7]; exact ⟨false, rfl, (fun h => Bool.noConfusion h), (fun _ h => by omega)⟩
  rw [if_pos c7]
  rcases Decidable.em (off ≥ 0) with c8 | c8
  rotate_left
  · rw [if_neg c8]; exact ⟨false, rfl, (fun h => Bool.noConfusion h), (fun _ h => by omega)⟩
  rw [if_pos c8]
  rcases Decidable.em (off ≤ 8191) with c9 | c9
  rotate_left
  · rw [if_neg c9]; exact ⟨false, rfl, (fun h => Bool.noConfusion h), (fun _ h => by omega)⟩
  rw [if_pos c9]
  rcases Decidable.em ((o.length : Int) % 4 = 0) with c10 | c10
  rotate_left
  · rw [if_neg c10]; exact ⟨false, rfl, (fun h => Bool.noConfusion h), (fun _ h => by omega)⟩
  rw [if_pos c10]
  refine ⟨_, rfl, fun h => ?_, fun h => ?_⟩
  · rw [decide_eq_true_iff] at h; omega
  · rw [decide_eq_false_iff_not] at h; omega

theorem rbuildj1_is (tos id fl off ttl pr s t : Int) (df mf : Bool) (o d : List Int) (h1 : 0 ≤ tos ∧ tos ≤ 255) (h2 : 0 ≤ ttl ∧ ttl ≤ 255) (h3 : 0 ≤ pr ∧ pr ≤ 255) (ho : Byt o) (hl : o.length ≤ 40) (hl2 : d.length ≤ 65535) (K : Nat) (hK : KO ≤ K) :
    castellanref4_Build.j1 (K + 1) (20 + (o.length : Int)) fl tos id df mf off ttl pr s t o d = some (ihs tos id fl ttl pr s t o d.length ++ d, 0) := by
  have hq : (wrap64 (Int.tdiv (20 + (o.length : Int)) 4)) = (20 + (o.length : Int)) / 4 := by rw [Int.tdiv_eq_ediv_of_nonneg (by omega), w64 (by omega) (by omega)]
  have hn := ih_len tos id fl ttl pr s t o d.length
  have e : [64 + (20 + (o.length : Int)) / 4, tos] ++ p16 (20 + (o.length : Int) + d.length) ++ p16 id ++ p16 fl ++ [ttl, pr, 0, 0] ++ p32 s ++ p32 t ++ o = ih tos id fl ttl pr s t o d.length := by simp [ih]
  simp only [castellanref4_Build.j1]
  rw [w64 (n := 20 + (o.length : Int) + d.length) (by omega) (by omega), hq, w64 (n := 64 + (20 + (o.length : Int)) / 4) (by omega) (by omega), Int.emod_eq_of_lt (a := 64 + (20 + (o.length : Int)) / 4) (by omega) (by omega), Int.emod_eq_of_lt (a := tos) (by omega) (by omega), Int.emod_eq_of_lt (a := ttl) (by omega) (by omega), Int.emod_eq_of_lt (a := pr) (by omega) (by omega)]
  simp only [rput16_is, show ∀ n, castellanref1_Put32.f n = some (p32 n) from fun _ => rfl, ob]
  rw [if_pos (by simp [p16]), if_pos (by simp [p16]), if_pos (by simp [p16]), if_pos (by simp [p16]), if_pos (by simp [p16, p32]), if_pos (by simp [p16, p32]), if_pos (by simp [p16, p32]; omega), e, rof_is _ (ih_byt id fl s t d.length h1 h2 h3 ho hl) (by omega) K hK]
  simp only [ob]
  rw [if_pos (by simp [p16]), if_pos (by simp [p16]), if_pos (by omega), if_pos (by omega), if_pos (by rw [List.length_set, List.length_set]; omega)]
  rfl
theorem rbuild_is (tos id off ttl pr s t : Int) (df mf : Bool) (o d : List Int) (hf : IpFit tos id off ttl pr o) (ho : Byt o) (hd : 20 + o.length + d.length ≤ 65535) (K : Nat) (hK : KO ≤ K) :
    castellanref4_Build.f (K + 3) tos id df mf off ttl pr s t o d = some (ihs tos id (flg df mf off) ttl pr s t o d.length ++ d, 0) := by
  obtain ⟨q, hq, -, hq3⟩ := ref4_is tos id off ttl pr s t df mf o d
  have hf' := hf
  obtain ⟨h1, h2, h3, h4, h5, h6, h7⟩ := hf'
  unfold castellanref4_Build.f
  rw [hq, ob]
  cases q with
  | false => exact absurd hf (hq3 rfl)
  | true =>
    rw [if_pos rfl, w64 (n := 20 + (o.length : Int)) (by omega) (by omega), w64 (n := 20 + (o.length : Int) + (d.length : Int)) (by omega) (by omega), if_neg (by omega)]
    unfold flg
    cases df with
    | true =>
      rw [if_pos rfl, if_pos rfl, or_16384 _ (by omega) (by omega) (by omega)]
      simp only [castellanref4_Build.j0]
      cases mf with
      | true => rw [if_pos rfl, if_pos rfl, or_8192 _ (by omega) (by omega) (by omega)]; exact rbuildj1_is tos id _ off ttl pr s t _ _ o d h1 h2 h3 ho h7 (by omega) (K + 1) (by omega)
      | false => rw [if_neg (by decide), if_neg (by decide), Int.add_zero]; exact rbuildj1_is tos id _ off ttl pr s t _ _ o d h1 h2 h3 ho h7 (by omega) (K + 1) (by omega)
    | false =>
      rw [if_neg (by decide), if_neg (by decide), Int.add_zero]
      simp only [castellanref4_Build.j0]
      cases mf with
      | true => rw [if_pos rfl, if_pos rfl, or_8192 _ (by omega) (by omega) (by omega)]; exact rbuildj1_is tos id _ off ttl pr s t _ _ o d h1 h2 h3 ho h7 (by omega) (K + 1) (by omega)
      | false => rw [if_neg (by decide), if_neg (by decide), Int.add_zero]; exact rbuildj1_is tos id _ off ttl pr s t _ _ o d h1 h2 h3 ho h7 (by omega) (K + 1) (by omega)

theorem rheader_is (l : List Int) (hb : Byt l) : castellanref4_Header.f l = some (hd l) := by
  unfold castellanref4_Header.f hd
  by_cases c : l.length = 0
  · rw [if_pos (by omega), if_pos c]
  · have b := atz_byt hb 0
    have e : rd l 0 = atz l 0 := by unfold rd atz; rw [if_pos (by omega)]
    rw [if_neg (by omega), if_pos (by omega), if_neg c, e, and_u8_15 _ b.1 b.2, w64 (n := atz l 0 % 16) (by omega) (by omega), w64 (by omega) (by omega), Int.mul_comm 4]

theorem rlook_is (l : List Int) (hb : Byt l) (hl : l.length ≤ 1048576) (K : Nat) (hK : KO ≤ K) : castellanref4_look.f (K + 2) l = some (lk l) := by
  have hr := hd_range l
  have b0 := atz_byt hb 0
  have b6 := atz_byt hb 6
  have b7 := atz_byt hb 7
  have g2 := g16_lt hb 2
  have e6 : g16 l 6 / 32768 % 2 = atz l 6 / 128 := by unfold g16; rw [show (6 : Int) + 1 = 7 from rfl]; omega
  unfold castellanref4_look.f lk
  rw [rheader_is l hb, ob]
  by_cases c1 : (l.length : Int) < 20
  · rw [if_pos c1, if_pos c1]
  rw [if_neg c1, if_neg c1, if_pos (by omega), atz_rd (by omega)]
  have tr (x : Int) : castellanref4_look.j0 (K + 2) l x true = some 2 := by simp only [castellanref4_look.j0]; rfl
  by_cases c2 : atz l 0 / 16 = 4
  · rw [if_pos c2]
    by_cases c3 : hd l < 20
    · rw [decide_eq_true c3, if_pos (.inr c3)]; exact tr _
    rw [decide_eq_false c3, if_neg (by omega)]
    simp only [castellanref4_look.j0]
    rw [if_neg (by decide)]
    by_cases c4 : (l.length : Int) < hd l
    · rw [if_pos c4, if_pos c4]
    rw [if_neg c4, if_neg c4, if_pos (by omega), if_pos (by omega), rright_is _ (byt_take hb _) (by rw [List.length_take]; omega) (K + 1) (by omega), ob]
    by_cases c5 : ck (l.take (hd l).toNat) = 0
    · rw [if_neg (show ¬ ck (l.take (hd l).toNat) ≠ 0 from fun h => h c5), if_pos (by rw [c5]; rfl), rget16_is l 2 hb (by omega) (by omega), ob]
      have tr1 : castellanref4_look.j1 (K + 1) l true = some 2 := by simp only [castellanref4_look.j1]; rfl
      by_cases c6 : g16 l 2 < hd l
      · rw [if_pos c6, if_pos (.inl c6)]; exact tr1
      rw [if_neg c6, if_pos (by omega), atz_rd (by omega)]
      by_cases c7 : g16 l 6 / 32768 % 2 = 1
      · rw [if_pos (.inr c7), show atz l 6 / 128 = 1 by omega]; exact tr1
      rw [if_neg (by omega), show atz l 6 / 128 = 0 by omega]
      simp only [castellanref4_look.j1]
      rw [if_neg (by decide), rget16_is l 2 hb (by omega) (by omega), ob]
      by_cases c8 : g16 l 2 > (l.length : Int)
      · rw [if_pos c8, if_pos c8]
      · rw [if_neg c8, if_neg c8]
    · rw [if_pos c5, if_neg (by simpa using c5)]
  · rw [if_neg c2, if_pos (.inl c2)]; exact tr _

theorem mx_is (a b : Int) : mx a b = max a b := by
  unfold mx
  split <;> omega
theorem mn_min (a b : Int) : mn a b = min a b := by
  unfold mn
  split <;> omega
theorem and_1 (x : Int) : Go.bits .and .i64 x 1 = x % 2 := by simpa using and_i64 1 (by decide) x
theorem ripparse_is (l : List Int) (hb : Byt l) (hl : l.length ≤ 1048576) (K : Nat) (hK : KO ≤ K) : castellanref4_Parse.f (K + 2) l = some (ipp l) := by
  have g2 := g16_lt hb 2
  have g6 := g16_lt hb 6
  have hr := hd_range l
  have b1 := atz_byt hb 1
  have b8 := atz_byt hb 8
  have b9 := atz_byt hb 9
  unfold castellanref4_Parse.f ipp
  rw [rlook_is l hb hl K hK, ob]
  by_cases c : lk l = 0
  · obtain ⟨z1, z2, z3, z4, z5⟩ := lk_zero c
    have em : mn (mx (g16 l 2) (hd l)) (l.length : Int) = g16 l 2 := by rw [mx_is, mn_min]; omega
    unfold castellanref4_Read.f
    rw [if_pos c, if_pos c, rheader_is l hb, ob, rget16_is l 2 hb (by omega) (by omega), ob, rget16_is l 6 hb (by omega) (by omega), ob, if_pos (by omega), rget16_is l 4 hb (by omega) (by omega), ob, if_pos (by omega), if_pos (by omega), rget32_is l 12 hb (by omega) (by omega), ob, rget32_is l 16 hb (by omega) (by omega), ob, ob, if_pos (by omega), if_pos (by omega), if_pos (by rw [List.length_drop, List.length_take]; simp; omega), ob, em, if_pos (by omega), if_pos (by omega), if_pos (by omega), if_pos (by rw [List.length_drop, List.length_take]; simp; omega), ob, List.nil_append, List.nil_append, atz_rd (by omega), atz_rd (by omega), atz_rd (by omega), w64 (n := atz l 1) (by omega) (by omega), w64 (n := atz l 8) (by omega) (by omega), w64 (n := atz l 9) (by omega) (by omega), and_1, and_1, and_i64_8191]
  · rw [if_neg c, if_neg c]

theorem ipr_is (s t : Int) (d : List Int) (hl : d.length ≤ 65515) (K : Nat) (hK : KO ≤ K) : ip_Build.r (K + 1) s t d = some (ihs 0 0 0 64 6 s t [] d.length ++ d) := by
  have hKO : 10 ≤ KO := by unfold KO; omega
  have e : ([[(Go.bits .or .i64 64 (wrap64 5)) % 256, 0], p16 (20 + (d.length : Int)), p16 0, p16 0, [64, 6, 0, 0], p32 s, p32 t, []] : List (List Int)).flatten = ih 0 0 0 64 6 s t [] d.length := by
    rw [w64 (n := 5) (by omega) (by omega), or_64 5 (by omega) (by omega), show ((64 : Int) + 5) % 256 = 69 from rfl]
    simp [ih]
  have hn := ih_len 0 0 0 64 6 s t [] d.length
  rw [List.length_nil] at hn
  unfold ip_Build.r
  rw [if_neg (by omega), w64 (n := 20 + (d.length : Int)) (by omega) (by omega)]
  simp only [put16_is, show ∀ n, word_Put32.f n = some (p32 n) from fun _ => rfl, ob]
  rw [join_is _ (K + 1) (by simp) (by simp; omega) (by rw [e, hn]; omega), e]
  simp only [ob]
  rw [of1_is _ (ih_byt 0 0 s t d.length (by omega) (by omega) (by omega) byt_nil (by simp)) (by omega) (K + 1) (by omega)]
  simp only [ob]
  rw [if_pos ⟨by omega, rfl, by omega⟩]
  rfl
theorem tcpr_is (a b s t q k f : Int) (hs : 0 ≤ s ∧ s ≤ 65535) (ht : 0 ≤ t ∧ t ≤ 65535) (hf : 0 ≤ f ∧ f ≤ 63) (K : Nat) (hK : KO ≤ K) : tcp_Build.r (K + 1) a b s t q k f = some (ths a b s t q k f 0 0 [] []) := by
  have hKO : 12 ≤ KO := by unfold KO; omega
  have hn := th_len s t q k f 0 0 [] []
  rw [List.length_nil] at hn
  have e : ([p16 s, p16 t, p32 q, p32 k, [(wrap64 (wrap64 5 * 16)) % 256, f], p16 0, [0, 0], p16 0, [], []] : List (List Int)).flatten = th s t q k f 0 0 [] [] := by
    rw [w64 (n := 5) (by omega) (by omega), w64 (n := 5 * 16) (by omega) (by omega), show ((5 : Int) * 16) % 256 = 80 from rfl]
    simp [th]
  unfold tcp_Build.r
  rw [if_pos ⟨hs, ht, hf⟩, Int.emod_eq_of_lt (a := f) (by omega) (by omega)]
  simp only [put16_is, show ∀ n, word_Put32.f n = some (p32 n) from fun _ => rfl, ob]
  rw [join_is _ (K + 1) (by simp) (by simp; omega) (by rw [e, hn]; omega), e]
  simp only [ob]
  rw [hn, pseudo_is a b 6 _ (by omega) (K + 1) (by omega)]
  simp only [ob]
  rw [of2_is _ _ (ph_byt a b _ (by omega)) (th_byt s t q k 0 0 hf byt_nil byt_nil (by simp)) (by rw [ph_len, hn]; omega) (K + 1) (by omega)]
  simp only [ob]
  rw [if_pos ⟨by omega, rfl⟩]
  rfl
/-- what a packet that holds a segment is looked at as -/
theorem parse8_is (ttl a b : Int) (S o d : List Int) (s t q k f w u : Int) (ht : 0 ≤ ttl ∧ ttl ≤ 255) (ha : 0 ≤ a ∧ a ≤ 4294967295) (hb : 0 ≤ b ∧ b ≤ 4294967295) (hS : Byt S) (hl : S.length ≤ 60000) (hp : castellanref5_Parse.f S = some (s, t, q, k, f, w, u, o, d, 0)) (K : Nat) (hK : KO ≤ K) :
    castellanref8_Parse.f (K + 2) (ihs 0 0 0 ttl 6 a b [] S.length ++ S) = some (0, 0, false, false, 0, ttl, 6, a, b, [], S, 0, s, t, f, 0, 0, none, 0) := by
  have hfit : IpFit 0 0 0 ttl 6 [] := ⟨by omega, ht, by omega, by omega, by omega, by decide, by decide⟩
  have hpp := ip_back 0 0 0 ttl 6 a b false false [] S [] hfit ha hb byt_nil (by simp; omega)
  rw [show flg false false 0 = 0 from rfl] at hpp
  have hby := ihs_byt (tos := 0) (ttl := ttl) (pr := 6) 0 0 a b (o := []) S.length (by omega) ht (by omega) byt_nil (by simp)
  have hL := ihs_len 0 0 0 ttl 6 a b [] S.length
  rw [List.append_nil] at hpp
  have hXb := byt_append hby hS
  have hXl : (ihs 0 0 0 ttl 6 a b [] S.length ++ S).length ≤ 1048576 := by rw [List.length_append, hL]; simp; omega
  generalize ihs 0 0 0 ttl 6 a b [] S.length ++ S = X at hpp hXb hXl
  unfold castellanref8_Parse.f
  rw [ripparse_is X hXb hXl K hK, ob, hpp]
  dsimp only
  unfold castellanref8_Parse.g castellanref8_inside.f
  rw [if_pos rfl, if_pos rfl, if_pos rfl, hp, ob, ob]
  rfl
theorem tk_range (f n : Int) (h : 0 ≤ n ∧ n ≤ 4294967295) : 0 ≤ tk f n ∧ tk f n ≤ 4294967295 := by
  unfold tk
  split <;> split <;> omega
theorem ReplyResets : castellanlaw19_ReplyResets.Pure := by
  intro a b s t q k f w u o d ha hb hs ht hq hk hf hw hu h1 h2 ho h3 h4 hd
  have ho := byt_of ho
  have hd := byt_of hd
  have hq := u32_of hq
  have hk := u32_of hk
  have ha := u32_of ha
  have hb := u32_of hb
  obtain ⟨K, hK⟩ : ∃ K : Nat, KO = K := ⟨_, rfl⟩
  have hK5 : 5 ≤ K := by rw [← hK]; unfold KO; omega
  refine ⟨K + 3, ?_⟩
  unfold castellanlaw19_ReplyResets.f
  by_cases l1 : (o.length : Int) > 60
  · exact .inl l1
  refine .inr ⟨l1, ?_⟩
  by_cases l2 : (d.length : Int) > 1000
  · exact .inl l2
  refine .inr ⟨l2, ?_⟩
  obtain ⟨z, hz, hz2⟩ := ref5_is s t q k f w u o d (by omega) (by omega)
  cases z with
  | false => exact .inl hz
  | true =>
    refine .inr ⟨hz, ?_⟩
    have hfit := hz2 rfl
    have hfit' := hfit
    obtain ⟨f1, f2, f3, f4, f5, f6, f7, f8⟩ := hfit'
    have tpb (a b s t q k f w u : Int) (o d : List Int) (hfit : TcpFit s t f w u o d) (hq : 0 ≤ q ∧ q ≤ 4294967295) (hk : 0 ≤ k ∧ k ≤ 4294967295) (ho : Byt o) (hd : Byt d) : castellanref5_Parse.f (ths a b s t q k f w u o d) = some (s, t, q, k, f, w, u, o, d, 0) := by
      have gfit := hfit
      obtain ⟨-, -, -, -, g5, -, g7, g8⟩ := gfit
      have hRb := ths_byt a b s t q k w u g5 ho hd g7
      have hRl := ths_len a b s t q k f w u o d
      rw [rtcpparse_is _ hRb (by omega), ← tcpparse_is _ hRb (by omega) 5 (by omega)]
      exact tcpparse_back a b s t q k f w u o d hfit hq hk ho hd 5 (by omega)
    have hRb := ths_byt a b s t q k w u f5 ho hd f7
    have hRl := ths_len a b s t q k f w u o d
    have hB := rtcpbuild_is a b s t q k f w u o d hfit ho hd (by omega) (K + 3) (by omega)
    have hT := tcpparse_back a b s t q k f w u o d hfit hq hk ho hd (K + 3) (by omega)
    have h5 := tpb a b s t q k f w u o d hfit hq hk ho hd
    generalize ths a b s t q k f w u o d = S at hRb hRl hB hT h5
    have hF := rbuild_is 0 0 0 9 6 a b false false [] S ⟨by omega, by omega, by omega, by omega, by omega, by decide, by decide⟩ byt_nil (by simp; omega) K (by omega)
    have hP := parse8_is 9 a b S o d s t q k f w u (by omega) ha hb hRb (by omega) h5 (K + 1) (by omega)
    have yes (q' k' fl : Int) (hq' : 0 ≤ q' ∧ q' ≤ 4294967295) (hk' : 0 ≤ k' ∧ k' ≤ 4294967295) (hfl : fl = 4 ∨ fl = 20) (hR : tcp_Reset.f (K + 3) s t q k f w u o d = some (t, s, q', k', fl, 0, 0, [], [], true)) : castellanlaw19_ReplyResets.G (K + 3) a b s t q k f w u o d := by
      have g5 : 0 ≤ fl ∧ fl ≤ 63 := by omega
      have g4 : Go.bits .and .i64 fl 4 ≠ 0 := by rcases hfl with rfl | rfl <;> decide
      have gfit : TcpFit t s fl 0 0 [] [] := ⟨f2, f1, by omega, by omega, g5, by decide, by decide, by decide⟩
      have hRb' := ths_byt b a t s q' k' 0 0 g5 byt_nil byt_nil (by decide)
      have hRl' := ths_len b a t s q' k' fl 0 0 [] []
      have hT' := tcpparse_back b a t s q' k' fl 0 0 [] [] gfit hq' hk' byt_nil byt_nil (K + 3) (by omega)
      have h5' := tpb b a t s q' k' fl 0 0 [] [] gfit hq' hk' byt_nil byt_nil
      have hB' := tcpr_is b a t s q' k' fl f2 f1 g5 (K + 2) (by omega)
      generalize ths b a t s q' k' fl 0 0 [] [] = S' at hRb' hRl' hT' h5' hB'
      simp at hRl'
      have hI' := ipr_is b a S' (by omega) (K + 2) (by omega)
      have hP' := parse8_is 64 b a S' [] [] t s q' k' fl 0 0 (by omega) hb ha hRb' (by omega) h5' (K + 1) (by omega)
      exact ⟨S, _, 0, 0, false, false, 0, 9, [], S, s, t, f, 0, 0, s, t, q, k, f, w, u, o, d, [], [], hB, hF, hP, hT, .inr ⟨t, s, q', k', fl, S', _, 0, 0, false, false, 0, 64, [], S', fl, 0, 0, t, s, q', k', fl, 0, 0, 0, 0, 0, 0, 0, 0, 0, [], [], [], [], hR, hB', hI', hP', g4, hT', treset_no t s q' k' fl 0 0 [] [] (K + 3) g4⟩⟩
    by_cases c4 : Go.bits .and .i64 f 4 = 0
    · by_cases c16 : Go.bits .and .i64 f 16 = 0
      · exact yes 0 _ 20 (by omega) (tk_range f _ ⟨by omega, by omega⟩) (.inr rfl) (treset_cnt s t q k f w u o d (K + 3) (by omega) c4 c16)
      · exact yes k 0 4 hk (by omega) (.inl rfl) (treset_ack s t q k f w u o d (K + 3) c4 c16)
    · exact ⟨S, _, 0, 0, false, false, 0, 9, [], S, s, t, f, 0, 0, s, t, q, k, f, w, u, o, d, [], [], hB, hF, hP, hT, .inl ⟨c4, 0, 0, 0, 0, 0, 0, 0, treset_no s t q k f w u o d (K + 3) c4⟩⟩

end Go.Proofs.Ytkdibloahkhgoaa.Pure
