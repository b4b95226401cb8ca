/- Of, Right, Update and Pseudo agree with the specification for all arguments. The condition on the sizes is the second form's own. -/
import Derived.Test.YtakdkbdojdjpkaaQSumTellsx3
import Derived.Test.YtakdkbdojdjpkaaBase
namespace Go.Proofs.Ytakdkbdojdjpkaa.Pure
open Go.RowKit Go.Proofs.Ytakdkbdojdjpkaa.QSumTells Go.Proofs.YtakdkbdojdjpkaaW.PrintWords Go.Proofs.YtakdkbdojdjpkaaW.PrintLast Go.Proofs.YtakdkbdojdjpkaaW.PrintMore Go.Proofs.Ytakdkbdojdjpkaa.Base
open Go
set_option linter.unusedVariables false
set_option linter.unusedSimpArgs false

theorem put16_is (n : Int) : word_Put16.f n = some (p16 n) := rfl

theorem concat_go (L : List (List Int)) (hL : L.length < 4611686018427387904) : ∀ (d k : Nat) (x : List Int) (i : Nat), L.length = i + d → d < k → x.length + ((L.drop i).flatten).length < 140737488355328 → slices_Concat_byte_byte.l0 k x L (L.length : Int) (i : Int) = some (x ++ (L.drop i).flatten)
  | _, 0, _, _, _, hk, _ => absurd hk (by omega)
  | d, k + 1, x, i, hd, hk, hx => by
    simp only [slices_Concat_byte_byte.l0]
    by_cases c : (i : Int) < (L.length : Int)
    · have e : L.drop i = L.getD i [] :: L.drop (i + 1) := drop_cons_getD_L (by omega)
      have er : rd_L1 L (i : Int) = L.getD i [] := by unfold rd_L1; rw [show ((i : Int)).toNat = i by omega]
      rw [e, List.flatten_cons, List.length_append] at hx
      rw [if_pos c, if_pos (by omega), if_pos c, er, if_pos (by omega), w64 (n := (i : Int) + 1) (by omega) (by omega), show ((i : Int) + 1) = ((i + 1 : Nat) : Int) by omega]
      cases d with
      | zero => omega
      | succ d =>
        rw [concat_go L hL d k _ (i + 1) (by omega) (by omega) (by rw [List.length_append]; omega), e, List.flatten_cons, List.append_assoc]
    · rw [if_neg c, List.drop_of_length_le (by omega)]; simp
theorem join_is (L : List (List Int)) (k : Nat) (hL : L.length < 4611686018427387904) (hk : L.length < k) (h : L.flatten.length < 140737488355328) : word_Join.f k L = some L.flatten := by
  unfold word_Join.f slices_Concat_byte_byte.f
  have h0 := concat_go L hL L.length k [] 0 (by omega) hk (by simpa using h)
  rw [List.drop_zero, List.nil_append] at h0
  rw [show ((0 : Nat) : Int) = 0 from rfl] at h0
  rw [h0, ob]

theorem folded_is : ∀ (d k : Nat) (n : Int), 0 ≤ n → n ≤ 65535 * (d + 1) → n < 4611686018427387904 → d < k → sum_folded.l0 k n = some (fo n)
  | d, 0, _, _, _, _, hk => absurd hk (by omega)
  | d, k + 1, n, h0, h1, h2, hk => by
    simp only [sum_folded.l0]
    by_cases c : n > 65535
    · rw [if_pos c, and_u64_65535, wrap_u64, Int.emod_eq_of_lt (by omega) (by omega)]
      cases d with
      | zero => omega
      | succ d => rw [folded_is d k _ (by omega) (by omega) (by omega) (by omega), fo_step (by omega)]
    · rw [if_neg c, fo_small h0 (by omega)]
theorem foldedf_is (d k : Nat) (n : Int) (h0 : 0 ≤ n) (h1 : n ≤ 65535 * (d + 1)) (h2 : n < 4611686018427387904) (hk : d < k) : sum_folded.f k n = some (fo n) := folded_is d k n h0 h1 h2 hk

theorem of_l1 (rows : List (List Int)) (n x11 : Int) (row : List Int) (hb : Byt row) (hl : row.length ≤ 1099511627776) : ∀ (d k i : Nat) (acc : Int) (low : Bool), i + d = row.length → 0 ≤ acc → acc + 65280 * d < 4611686018427387904 →
    sum_Of.l1 (k + d + 1) acc low rows n x11 row (row.length : Int) (i : Int) = sum_Of.l0 k (acc + sp low (row.drop i)) (low ^^ odd d) rows n (wrap64 (x11 + 1))
  | 0, k, i, acc, low, hi, h0, h1 => by
    simp only [sum_Of.l1]
    rw [if_neg (by omega), List.drop_eq_nil_of_le (by omega)]
    simp [sp, odd]
  | d + 1, k, i, acc, low, hi, h0, h1 => by
    have hlt : i < row.length := by omega
    have b := getD_byt hb i
    have e : k + (d + 1) + 1 = (k + d + 1) + 1 := by omega
    rw [e, sum_Of.l1]
    rw [if_pos (by omega), if_pos (by omega), if_pos (by omega)]
    have er : rd row (i : Int) = row.getD i 0 := by unfold rd; simp
    have ew : wrap64 ((i : Int) + 1) = ((i + 1 : Nat) : Int) := by rw [w64 (by omega) (by omega)]; omega
    rw [er, ew, drop_cons_getD hlt]
    cases low with
    | true =>
      rw [if_pos rfl, wrap_u64, wrap_u64, Int.emod_eq_of_lt (a := row.getD i 0) (by omega) (by omega), Int.emod_eq_of_lt (a := acc + row.getD i 0) (by omega) (by omega), of_l1 rows n x11 row hb hl d k (i + 1) _ _ (by omega) (by omega) (by omega)]
      rw [odd_succ, sp, Int.add_assoc]; simp
    | false =>
      rw [if_neg (by decide), wrap_u64, wrap_u64, wrap_u64, Int.emod_eq_of_lt (a := row.getD i 0) (by omega) (by omega), Int.emod_eq_of_lt (a := row.getD i 0 * 256) (by omega) (by omega), Int.emod_eq_of_lt (a := acc + row.getD i 0 * 256) (by omega) (by omega), of_l1 rows n x11 row hb hl d k (i + 1) _ _ (by omega) (by omega) (by omega)]
      rw [odd_succ, sp, Int.add_assoc]; simp
theorem of_l0 (rows : List (List Int)) (hb : BytL rows) (hl : rows.flatten.length ≤ 1048576) (hn : rows.length ≤ 1048576) : ∀ (m k j : Nat) (acc : Int) (low : Bool), j + m = rows.length → 0 ≤ acc → acc + 65280 * (rows.drop j).flatten.length ≤ 68451041280 →
    2 * m + (rows.drop j).flatten.length + 1048576 < k → sum_Of.l0 k acc low rows (rows.length : Int) (j : Int) = some (65535 - fo (acc + sp low (rows.drop j).flatten))
  | 0, 0, _, _, _, _, _, _, hk => absurd hk (by omega)
  | 0, k + 1, j, acc, low, hj, h0, h1, hk => by
    simp only [sum_Of.l0]
    rw [if_neg (by omega), List.drop_eq_nil_of_le (by omega)]
    have ha : acc ≤ 68451041280 := by have : (0 : Int) ≤ (rows.drop j).flatten.length := by omega
                                      omega
    rw [foldedf_is 1048575 k acc h0 (by omega) (by omega) (by omega)]
    have := fo_range acc
    simp only [Option.bind_some, List.flatten_nil, sp, Int.add_zero]
    rw [wrap_u64, Int.emod_eq_of_lt (by omega) (by omega), w64 (by omega) (by omega)]
  | m + 1, k, j, acc, low, hj, h0, h1, hk => by
    have hlt : j < rows.length := by omega
    have ed : rows.drop j = rows.getD j [] :: rows.drop (j + 1) := drop_cons_getD_L hlt
    have hbr : Byt (rows.getD j []) := hb _ (by rw [List.getD_eq_getElem?_getD, List.getElem?_eq_getElem hlt]; exact List.getElem_mem hlt)
    have hlr : (rows.getD j []).length + (rows.drop (j + 1)).flatten.length = (rows.drop j).flatten.length := by rw [ed]; simp
    have hll : (rows.drop j).flatten.length ≤ rows.flatten.length := by
      have := congrArg (fun z => z.flatten.length) (List.take_append_drop j rows)
      simp only [List.flatten_append, List.length_append] at this
      omega
    obtain ⟨k', rfl⟩ : ∃ z, k = (z + (rows.getD j []).length + 1) + 1 := ⟨k - (rows.getD j []).length - 2, by omega⟩
    simp only [sum_Of.l0]
    have er : rd_L1 rows (j : Int) = rows.getD j [] := by unfold rd_L1; simp
    have ew : wrap64 ((j : Int) + 1) = ((j + 1 : Nat) : Int) := by rw [w64 (by omega) (by omega)]; omega
    have hs0 := sp_nonneg low hbr
    have hs1 := sp_le low hbr
    rw [if_pos (by omega), if_pos (by omega), if_pos (by omega), er]
    have h2 := of_l1 rows (rows.length : Int) (j : Int) (rows.getD j []) hbr (by omega) (rows.getD j []).length k' 0 acc low (by omega) h0 (by omega)
    rw [List.drop_zero] at h2
    refine h2.trans ?_
    rw [ew, of_l0 rows hb hl hn m k' (j + 1) _ _ (by omega) (by omega) (by omega) (by omega)]
    rw [ed, List.flatten_cons, sp_append, Int.add_assoc]
/-- more than enough rounds -/
def KO : Nat := 5000000
theorem of_is (rows : List (List Int)) (hb : BytL rows) (hl : rows.flatten.length ≤ 1048576) (hn : rows.length ≤ 1048576) (k : Nat) (hk : KO ≤ k) : sum_Of.f k rows = some (ck rows.flatten) := by
  unfold KO at hk
  unfold sum_Of.f
  have h := of_l0 rows hb hl hn rows.length k 0 0 false (by omega) (by omega) (by rw [List.drop_zero]; omega) (by rw [List.drop_zero]; omega)
  rw [List.drop_zero, Int.zero_add, sp_false] at h
  exact h
theorem of1_is (l : List Int) (hb : Byt l) (hl : l.length ≤ 1048576) (k : Nat) (hk : KO ≤ k) : sum_Of.f k [l] = some (ck l) := by
  rw [of_is [l] (fun x hx => by simp at hx; subst hx; exact hb) (by simpa using hl) (by simp) k hk]; simp
theorem of2_is (a b : List Int) (ha : Byt a) (hb : Byt b) (hl : a.length + b.length ≤ 1048576) (k : Nat) (hk : KO ≤ k) : sum_Of.f k [a, b] = some (ck (a ++ b)) := by
  rw [of_is [a, b] (fun x hx => by simp at hx; rcases hx with rfl | rfl <;> assumption) (by simpa using hl) (by simp) k hk]; simp

theorem sumKnown_is (k : Nat) (hk : KO ≤ k) : castellanlaw2_known.f k = some true := by
  unfold castellanlaw2_known.f
  rw [of1_is [0, 1, 242, 3] (byt_cons (by omega) (byt_cons (by omega) (byt_cons (by omega) (byt_cons (by omega) byt_nil)))) (by simp) k hk]
  decide

theorem right_is (l : List Int) (hb : Byt l) (hl : l.length ≤ 1048576) (k : Nat) (hk : KO ≤ k) : sum_Right.f k l = some (ck l == 0) := by
  unfold sum_Right.f
  rw [of1_is l hb hl k hk]; rfl

/-- the updated checksum -/
theorem update_is (s a b : Int) (k : Nat) (hk : 4 ≤ k) : sum_Update.f k s a b = some (65535 - fo (65535 - s % 65536 + (65535 - a % 65536) + b % 65536)) := by
  unfold sum_Update.f
  rw [and_i64_65535, and_i64_65535, and_i64_65535]
  simp only [wrap_u64]
  rw [w64 (n := 65535 - s % 65536) (by omega) (by omega), w64 (n := 65535 - a % 65536) (by omega) (by omega), Int.emod_eq_of_lt (a := 65535 - s % 65536) (by omega) (by omega), Int.emod_eq_of_lt (a := 65535 - a % 65536) (by omega) (by omega), Int.emod_eq_of_lt (a := b % 65536) (b := 18446744073709551616) (by omega) (by omega),
    Int.emod_eq_of_lt (a := 65535 - s % 65536 + (65535 - a % 65536)) (by omega) (by omega), Int.emod_eq_of_lt (a := 65535 - s % 65536 + (65535 - a % 65536) + b % 65536) (by omega) (by omega), foldedf_is 3 k _ (by omega) (by omega) (by omega) (by omega)]
  have := fo_range (65535 - s % 65536 + (65535 - a % 65536) + b % 65536)
  simp only [Option.bind_some]
  rw [Int.emod_eq_of_lt (by omega) (by omega), w64 (by omega) (by omega)]

theorem rat_is (l : List Int) (i : Int) (hb : Byt l) : castellanref1_at.f l i = some (atz l i) := by
  unfold castellanref1_at.f
  by_cases c1 : i < 0
  · rw [if_pos c1, atz_neg l c1]
  · rw [if_neg c1]
    by_cases c2 : i ≥ (l.length : Int)
    · rw [if_pos c2, atz_ge l c2]
    · rw [if_neg c2, if_pos (by omega), if_pos (by omega)]
      have b := getD_byt hb i.toNat
      unfold rd atz; rw [if_pos (by omega), Int.emod_eq_of_lt (by omega) (by omega)]

theorem rget16_is (l : List Int) (i : Int) (hb : Byt l) (h0 : -9223372036854775808 ≤ i) (h1 : i ≤ 2199023255552) : castellanref1_Get16.f l i = some (g16 l i) := by
  unfold castellanref1_Get16.f
  rw [w64 (n := i + 1) (by omega) (by omega), rat_is l i hb, rat_is l (i + 1) hb]
  simp only [Option.bind_some]
  have b0 := atz_byt hb i
  have b1 := atz_byt hb (i + 1)
  rw [Int.emod_eq_of_lt (a := atz l i * 256) (by omega) (by omega), or_u32_8 _ _ (by omega) (by omega) (by omega) (by omega), w64 (by omega) (by omega)]
  rfl

theorem rfold_is : ∀ (d k : Nat) (n : Int), 0 ≤ n → n ≤ 65535 * (d + 1) → n < 4611686018427387904 → d < k → castellanref2_fold.l0 k n = some (fo n)
  | d, 0, _, _, _, _, hk => absurd hk (by omega)
  | d, k + 1, n, h0, h1, h2, hk => by
    simp only [castellanref2_fold.l0]
    by_cases c : n > 65535
    · rw [if_pos c, and_i64_65535, w64 (by omega) (by omega)]
      cases d with
      | zero => omega
      | succ d => rw [rfold_is d k _ (by omega) (by omega) (by omega) (by omega), Int.add_comm, fo_step (by omega)]
    · rw [if_neg c, fo_small h0 (by omega)]
theorem rfoldf_is (d k : Nat) (n : Int) (h0 : 0 ≤ n) (h1 : n ≤ 65535 * (d + 1)) (h2 : n < 4611686018427387904) (hk : d < k) : castellanref2_fold.f k n = some (fo n) := rfold_is d k n h0 h1 h2 hk

theorem sm_drop (l : List Int) (i : Nat) (h : i < l.length) : sm (l.drop i) = g16 l i + sm (l.drop (i + 2)) := by
  rw [drop_cons_getD h]
  unfold g16 atz
  rw [if_pos (by omega), if_pos (by omega), show ((i : Int)).toNat = i by omega, show ((i : Int) + 1).toNat = i + 1 by omega]
  rcases Nat.lt_or_ge (i + 1) l.length with h1 | h1
  · rw [drop_cons_getD h1]; simp only [sm]
  · rw [List.drop_eq_nil_of_le h1, List.drop_eq_nil_of_le (show l.length ≤ i + 2 by omega)]
    simp [sm, List.getD_eq_getElem?_getD, List.getElem?_eq_none h1]
theorem rof_l0 (l : List Int) (hb : Byt l) (hl : l.length ≤ 1048576) : ∀ (d k i : Nat) (n : Int), l.length ≤ i + d → 0 ≤ n → n ≤ 65535 → i ≤ l.length + 1 → d + 10 < k → castellanref2_Of.l0 k l n (i : Int) = some (65535 - fo (n + sm (l.drop i)))
  | d, 0, _, _, _, _, _, _, hk => absurd hk (by omega)
  | d, k + 1, i, n, hi, h0, h1, h2, hk => by
    simp only [castellanref2_Of.l0]
    by_cases c : (i : Int) < l.length
    · have hg := g16_lt hb (i : Int)
      rw [if_pos c, rget16_is l i hb (by omega) (by omega)]
      simp only [Option.bind_some]
      rw [w64 (n := n + g16 l i) (by omega) (by omega), rfoldf_is 3 k _ (by omega) (by omega) (by omega) (by omega)]
      simp only [Option.bind_some]
      have hr := fo_range (n + g16 l i)
      have ew : wrap64 ((i : Int) + 2) = ((i + 2 : Nat) : Int) := by rw [w64 (by omega) (by omega)]; omega
      cases d with
      | zero => omega
      | succ d =>
        have hs := sm_nonneg (byt_drop hb (i + 2))
        rw [ew, rof_l0 l hb hl d k (i + 2) _ (by omega) (by omega) (by omega) (by omega) (by omega), fo_add (by omega) hs, sm_drop l i (by omega), Int.add_assoc]
    · rw [if_neg c, List.drop_eq_nil_of_le (by omega)]
      simp only [sm, Int.add_zero]
      rw [fo_small h0 h1, w64 (by omega) (by omega)]
theorem rof_is (l : List Int) (hb : Byt l) (hl : l.length ≤ 1048576) (k : Nat) (hk : KO ≤ k) : castellanref2_Of.f k l = some (ck l) := by
  unfold KO at hk
  unfold castellanref2_Of.f
  have h := rof_l0 l hb hl l.length k 0 0 (by omega) (by omega) (by omega) (by omega) (by omega)
  rw [List.drop_zero, Int.zero_add] at h
  exact h

theorem rright_is (l : List Int) (hb : Byt l) (hl : l.length ≤ 1048576) (k : Nat) (hk : KO ≤ k) : castellanref2_Right.f k l = some (ck l == 0) := by
  unfold castellanref2_Right.f
  rw [rof_is l hb hl k hk]; rfl

/-- a pseudo header -/
def ph (s t p n : Int) : List Int := p32 s ++ (p32 t ++ ([0, p] ++ p16 n))
theorem ph_len (s t p n : Int) : (ph s t p n).length = 12 := rfl
theorem ph_byt (s t n : Int) {p : Int} (hp : 0 ≤ p ∧ p ≤ 255) : Byt (ph s t p n) :=
  byt_append (byt_p32 s) (byt_append (byt_p32 t) (byt_append (byt_cons (by omega) (byt_cons (by omega) byt_nil)) (byt_p16 n)))

theorem pseudo_gen (s t p n : Int) (K : Nat) (hK : 5 ≤ K) : sum_Pseudo.f K s t p n = some (ph s t (p % 256) n) := by
  have e : ([p32 s, p32 t, ([0, p % 256] : List Int), p16 n] : List (List Int)).flatten = ph s t (p % 256) n := by simp [ph]
  unfold sum_Pseudo.f
  rw [show word_Put32.f s = some (p32 s) from rfl, show word_Put32.f t = some (p32 t) from rfl, put16_is]
  simp only [ob]
  rw [join_is _ K (by simp) (by simp; omega) (by rw [e, ph_len]; omega), e]
  simp only [ob]
theorem rpseudo_gen (s t p n : Int) : castellanref2_Pseudo.f s t p n = some (ph s t (p % 256) n) := by
  unfold castellanref2_Pseudo.f
  rw [show castellanref1_Put32.f s = some (p32 s) from rfl, show castellanref1_Put32.f t = some (p32 t) from rfl, show castellanref1_Put16.f n = some (p16 n) from rfl]
  simp only [ob]
  rw [if_pos (by simp [p32]), if_pos (by simp [p32]), if_pos (by simp [p32, p16])]
  rfl
theorem rupdate_gen (s a b : Int) (k : Nat) (hk : 10 ≤ k) : castellanref2_Update.f k s a b = some (65535 - fo (65535 - s % 65536 + (65535 - a % 65536) + b % 65536)) := by
  have h1 := Int.emod_nonneg s (show (65536 : Int) ≠ 0 by decide)
  have h2 := Int.emod_nonneg a (show (65536 : Int) ≠ 0 by decide)
  have h3 := Int.emod_nonneg b (show (65536 : Int) ≠ 0 by decide)
  have g1 := Int.emod_lt_of_pos s (show (0 : Int) < 65536 by decide)
  have g2 := Int.emod_lt_of_pos a (show (0 : Int) < 65536 by decide)
  have g3 := Int.emod_lt_of_pos b (show (0 : Int) < 65536 by decide)
  unfold castellanref2_Update.f
  rw [and_i64_65535, and_i64_65535, and_i64_65535]
  generalize s % 65536 = s at *
  generalize a % 65536 = a at *
  generalize b % 65536 = b at *
  have hr := fo_range (65535 - s + (65535 - a) + b)
  have e : 65535 - s + 65535 - a + b = 65535 - s + (65535 - a) + b := by omega
  rw [w64 (n := 65535 - s) (by omega) (by omega), w64 (n := 65535 - s + 65535) (by omega) (by omega), w64 (n := 65535 - s + 65535 - a) (by omega) (by omega), w64 (n := 65535 - s + 65535 - a + b) (by omega) (by omega), e, rfoldf_is 3 k _ (by omega) (by omega) (by omega) (by omega), ob, w64 (by omega) (by omega)]
theorem rjoin_go (L : List (List Int)) (hL : L.length < 4611686018427387904) : ∀ (d k : Nat) (x : List Int) (i : Nat), L.length = i + d → d < k → x.length + ((L.drop i).flatten).length < 140737488355328 → castellanref1_Join.l0 k L x (i : Int) = some (x ++ (L.drop i).flatten)
  | _, 0, _, _, _, hk, _ => absurd hk (by omega)
  | d, k + 1, x, i, hd, hk, hx => by
    simp only [castellanref1_Join.l0]
    by_cases c : (i : Int) < (L.length : Int)
    · have e : L.drop i = L.getD i [] :: L.drop (i + 1) := drop_cons_getD_L (by omega)
      have er : rd_L1 L (i : Int) = L.getD i [] := by unfold rd_L1; rw [show ((i : Int)).toNat = i by omega]
      rw [e, List.flatten_cons, List.length_append] at hx
      rw [if_pos c, if_pos (by omega), er, if_pos (by omega), w64 (n := (i : Int) + 1) (by omega) (by omega), show ((i : Int) + 1) = ((i + 1 : Nat) : Int) by omega]
      cases d with
      | zero => omega
      | succ d =>
        rw [rjoin_go L hL d k _ (i + 1) (by omega) (by omega) (by rw [List.length_append]; omega), e, List.flatten_cons, List.append_assoc]
    · rw [if_neg c, List.drop_of_length_le (by omega)]; simp
theorem st_end (l : List (List Int)) (s w n a b p q : Int) (hb : BytL l) (hl : l.length + l.flatten.length ≤ 1048576) (m : Int) (K : Nat) (hK : KO ≤ K) :
    castellanlaw2_SumTells.l0 (K + 1) l s w n a b p q m (l.length : Int) = some true := by
  have hK10 : 10 ≤ K := by unfold KO at hK; omega
  have hKl : l.length < K := by unfold KO at hK; omega
  have hfb := byt_flatten hb
  simp only [castellanlaw2_SumTells.l0]
  rw [if_neg (by omega)]
  by_cases c : m > 4000
  · rw [if_pos c]
  rw [if_neg c]
  have hj : castellanref1_Join.f K l = some l.flatten := by
    unfold castellanref1_Join.f
    rw [show (0 : Int) = ((0 : Nat) : Int) from rfl, rjoin_go l (by omega) l.length K [] 0 (by omega) hKl (by rw [List.drop_zero]; simp only [List.length_nil]; omega), List.drop_zero, List.nil_append]
  rw [hj, ob, of_is l hb (by omega) (by omega) K hK, ob, rof_is _ hfb (by omega) K hK, ob, if_pos rfl, right_is _ hfb (by omega) K hK, ob, rright_is _ hfb (by omega) K hK, ob, if_pos (beq_self_eq_true _), update_is s w n K (by omega), ob, rupdate_gen s w n K hK10, ob, if_pos rfl, pseudo_gen a b p q K (by omega), ob, rpseudo_gen, ob, if_pos rfl, sumKnown_is K hK]
  rfl
theorem st_go (l : List (List Int)) (s w n a b p q : Int) (hb : BytL l) (hl : l.length + l.flatten.length ≤ 1048576) : ∀ (d k i : Nat) (m : Int), i + d = l.length → d + KO < k → 0 ≤ m → m + ((l.drop i).length + (l.drop i).flatten.length : Nat) ≤ 1099511627776 → castellanlaw2_SumTells.l0 k l s w n a b p q m (i : Int) = some true
  | d, 0, _, _, _, hk, _, _ => absurd hk (by omega)
  | 0, k + 1, i, m, hi, hk, h0, h1 => by
    rw [show i = l.length by omega]
    exact st_end l s w n a b p q hb hl m k (by omega)
  | d + 1, k + 1, i, m, hi, hk, h0, h1 => by
    have e : l.drop i = l.getD i [] :: l.drop (i + 1) := drop_cons_getD_L (by omega)
    have er : rd_L1 l (i : Int) = l.getD i [] := by unfold rd_L1; rw [show ((i : Int)).toNat = i by omega]
    rw [e, List.flatten_cons, List.length_append, List.length_cons] at h1
    simp only [castellanlaw2_SumTells.l0]
    rw [if_pos (by omega), if_pos (by omega), er, w64 (n := m + 1) (by omega) (by omega), w64 (n := m + 1 + ((l.getD i []).length : Int)) (by omega) (by omega), w64 (n := (i : Int) + 1) (by omega) (by omega), show ((i : Int) + 1) = ((i + 1 : Nat) : Int) by omega]
    exact st_go l s w n a b p q hb hl d k (i + 1) _ (by omega) (by omega) (by omega) (by omega)
theorem SumTells (l : List (List Int)) (s w n a b p q : Int) (hb : ∀ x ∈ l, ∀ y ∈ x, (Lit.int .u8 y).wf = true) (hl : l.length + l.flatten.length ≤ 1048576) : ∃ k, castellanlaw2_SumTells.f k l s w n a b p q = some true := by
  refine ⟨l.length + KO + 1, ?_⟩
  unfold castellanlaw2_SumTells.f
  rw [show (0 : Int) = ((0 : Nat) : Int) from rfl]
  exact st_go l s w n a b p q (fun x hx => byt_of (hb x hx)) hl l.length _ 0 _ (by omega) (by omega) (by omega) (by rw [List.drop_zero]; omega)

end Go.Proofs.Ytakdkbdojdjpkaa.Pure
