/- after a word of data has been replaced, the data with the updated checksum is Right, except for data that consists of zeros. No condition besides the law's own guards. -/
import Derived.Test.YtakdkbdojdjpkaaQSumUpdatesx2
import Derived.Test.YtakdkbdojdjpkaaBase
namespace Go.Proofs.Ytakdkbdojdjpkaa.Pure
open Go.RowKit Go.Proofs.Ytakdkbdojdjpkaa.QSumUpdates Go.Proofs.YtakdkbdojdjpkaaW.PrintWords Go.Proofs.YtakdkbdojdjpkaaW.PrintLast Go.Proofs.Ytakdkbdojdjpkaa.Base
open Go
set_option linter.unusedVariables false
set_option linter.unusedSimpArgs false

theorem folded_is : ∀ (d k : Nat) (n : Int), 0 ≤ n → n ≤ 65535 * (d + 1) → n < 4611686018427387904 → d < k → sum_folded.l0 k n = some (fo n)
  | d, 0, _, _, _, _, hk => absurd hk (by omega)
  | d, k + 1, n, h0, h1, h2, hk => by
    simp only [sum_folded.l0]
    by_cases c : n > 65535
    · rw [if_pos c, and_u64_65535, wrap_u64, Int.emod_eq_of_lt (by omega) (by omega)]
      cases d with
      | zero => omega
      | succ d => rw [folded_is d k _ (by omega) (by omega) (by omega) (by omega), fo_step (by omega)]
    · rw [if_neg c, fo_small h0 (by omega)]
theorem foldedf_is (d k : Nat) (n : Int) (h0 : 0 ≤ n) (h1 : n ≤ 65535 * (d + 1)) (h2 : n < 4611686018427387904) (hk : d < k) : sum_folded.f k n = some (fo n) := folded_is d k n h0 h1 h2 hk

theorem of_l1 (rows : List (List Int)) (n x11 : Int) (row : List Int) (hb : Byt row) (hl : row.length ≤ 1099511627776) : ∀ (d k i : Nat) (acc : Int) (low : Bool), i + d = row.length → 0 ≤ acc → acc + 65280 * d < 4611686018427387904 →
    sum_Of.l1 (k + d + 1) acc low rows n x11 row (row.length : Int) (i : Int) = sum_Of.l0 k (acc + sp low (row.drop i)) (low ^^ odd d) rows n (wrap64 (x11 + 1))
  | 0, k, i, acc, low, hi, h0, h1 => by
    simp only [sum_Of.l1]
    rw [if_neg (by omega), List.drop_eq_nil_of_le (by omega)]
    simp [sp, odd]
  | d + 1, k, i, acc, low, hi, h0, h1 => by
    have hlt : i < row.length := by omega
    have b := getD_byt hb i
    have e : k + (d + 1) + 1 = (k + d + 1) + 1 := by omega
    rw [e, sum_Of.l1]
    rw [if_pos (by omega), if_pos (by omega), if_pos (by omega)]
    have er : rd row (i : Int) = row.getD i 0 := by unfold rd; simp
    have ew : wrap64 ((i : Int) + 1) = ((i + 1 : Nat) : Int) := by rw [w64 (by omega) (by omega)]; omega
    rw [er, ew, drop_cons_getD hlt]
    cases low with
    | true =>
      rw [if_pos rfl, wrap_u64, wrap_u64, Int.emod_eq_of_lt (a := row.getD i 0) (by omega) (by omega), Int.emod_eq_of_lt (a := acc + row.getD i 0) (by omega) (by omega), of_l1 rows n x11 row hb hl d k (i + 1) _ _ (by omega) (by omega) (by omega)]
      rw [odd_succ, sp, Int.add_assoc]; simp
    | false =>
      rw [if_neg (by decide), wrap_u64, wrap_u64, wrap_u64, Int.emod_eq_of_lt (a := row.getD i 0) (by omega) (by omega), Int.emod_eq_of_lt (a := row.getD i 0 * 256) (by omega) (by omega), Int.emod_eq_of_lt (a := acc + row.getD i 0 * 256) (by omega) (by omega), of_l1 rows n x11 row hb hl d k (i + 1) _ _ (by omega) (by omega) (by omega)]
      rw [odd_succ, sp, Int.add_assoc]; simp
theorem of_l0 (rows : List (List Int)) (hb : BytL rows) (hl : rows.flatten.length ≤ 1048576) (hn : rows.length ≤ 1048576) : ∀ (m k j : Nat) (acc : Int) (low : Bool), j + m = rows.length → 0 ≤ acc → acc + 65280 * (rows.drop j).flatten.length ≤ 68451041280 →
    2 * m + (rows.drop j).flatten.length + 1048576 < k → sum_Of.l0 k acc low rows (rows.length : Int) (j : Int) = some (65535 - fo (acc + sp low (rows.drop j).flatten))
  | 0, 0, _, _, _, _, _, _, hk => absurd hk (by omega)
  | 0, k + 1, j, acc, low, hj, h0, h1, hk => by
    simp only [sum_Of.l0]
    rw [if_neg (by omega), List.drop_eq_nil_of_le (by omega)]
    have ha : acc ≤ 68451041280 := by have : (0 : Int) ≤ (rows.drop j).flatten.length := by omega
                                      omega
    rw [foldedf_is 1048575 k acc h0 (by omega) (by omega) (by omega)]
    have := fo_range acc
    simp only [Option.bind_some, List.flatten_nil, sp, Int.add_zero]
    rw [wrap_u64, Int.emod_eq_of_lt (by omega) (by omega), w64 (by omega) (by omega)]
  | m + 1, k, j, acc, low, hj, h0, h1, hk => by
    have hlt : j < rows.length := by omega
    have ed : rows.drop j = rows.getD j [] :: rows.drop (j + 1) := drop_cons_getD_L hlt
    have hbr : Byt (rows.getD j []) := hb _ (by rw [List.getD_eq_getElem?_getD, List.getElem?_eq_getElem hlt]; exact List.getElem_mem hlt)
    have hlr : (rows.getD j []).length + (rows.drop (j + 1)).flatten.length = (rows.drop j).flatten.length := by rw [ed]; simp
    have hll : (rows.drop j).flatten.length ≤ rows.flatten.length := by
      have := congrArg (fun z => z.flatten.length) (List.take_append_drop j rows)
      simp only [List.flatten_append, List.length_append] at this
      omega
    obtain ⟨k', rfl⟩ : ∃ z, k = (z + (rows.getD j []).length + 1) + 1 := ⟨k - (rows.getD j []).length - 2, by omega⟩
    simp only [sum_Of.l0]
    have er : rd_L1 rows (j : Int) = rows.getD j [] := by unfold rd_L1; simp
    have ew : wrap64 ((j : Int) + 1) = ((j + 1 : Nat) : Int) := by rw [w64 (by omega) (by omega)]; omega
    have hs0 := sp_nonneg low hbr
    have hs1 := sp_le low hbr
    rw [if_pos (by omega), if_pos (by omega), if_pos (by omega), er]
    have h2 := of_l1 rows (rows.length : Int) (j : Int) (rows.getD j []) hbr (by omega) (rows.getD j []).length k' 0 acc low (by omega) h0 (by omega)
    rw [List.drop_zero] at h2
    refine h2.trans ?_
    rw [ew, of_l0 rows hb hl hn m k' (j + 1) _ _ (by omega) (by omega) (by omega) (by omega)]
    rw [ed, List.flatten_cons, sp_append, Int.add_assoc]
/-- more than enough rounds -/
def KO : Nat := 5000000
theorem of_is (rows : List (List Int)) (hb : BytL rows) (hl : rows.flatten.length ≤ 1048576) (hn : rows.length ≤ 1048576) (k : Nat) (hk : KO ≤ k) : sum_Of.f k rows = some (ck rows.flatten) := by
  unfold KO at hk
  unfold sum_Of.f
  have h := of_l0 rows hb hl hn rows.length k 0 0 false (by omega) (by omega) (by rw [List.drop_zero]; omega) (by rw [List.drop_zero]; omega)
  rw [List.drop_zero, Int.zero_add, sp_false] at h
  exact h
theorem of1_is (l : List Int) (hb : Byt l) (hl : l.length ≤ 1048576) (k : Nat) (hk : KO ≤ k) : sum_Of.f k [l] = some (ck l) := by
  rw [of_is [l] (fun x hx => by simp at hx; subst hx; exact hb) (by simpa using hl) (by simp) k hk]; simp
theorem of2_is (a b : List Int) (ha : Byt a) (hb : Byt b) (hl : a.length + b.length ≤ 1048576) (k : Nat) (hk : KO ≤ k) : sum_Of.f k [a, b] = some (ck (a ++ b)) := by
  rw [of_is [a, b] (fun x hx => by simp at hx; rcases hx with rfl | rfl <;> assumption) (by simpa using hl) (by simp) k hk]; simp

theorem sumKnown_is (k : Nat) (hk : KO ≤ k) : castellanlaw2_known.f k = some true := by
  unfold castellanlaw2_known.f
  rw [of1_is [0, 1, 242, 3] (byt_cons (by omega) (byt_cons (by omega) (byt_cons (by omega) (byt_cons (by omega) byt_nil)))) (by simp) k hk]
  decide

theorem right_is (l : List Int) (hb : Byt l) (hl : l.length ≤ 1048576) (k : Nat) (hk : KO ≤ k) : sum_Right.f k l = some (ck l == 0) := by
  unfold sum_Right.f
  rw [of1_is l hb hl k hk]; rfl

/-- the updated checksum -/
theorem update_is (s a b : Int) (k : Nat) (hk : 4 ≤ k) : sum_Update.f k s a b = some (65535 - fo (65535 - s % 65536 + (65535 - a % 65536) + b % 65536)) := by
  unfold sum_Update.f
  rw [and_i64_65535, and_i64_65535, and_i64_65535]
  simp only [wrap_u64]
  rw [w64 (n := 65535 - s % 65536) (by omega) (by omega), w64 (n := 65535 - a % 65536) (by omega) (by omega), Int.emod_eq_of_lt (a := 65535 - s % 65536) (by omega) (by omega), Int.emod_eq_of_lt (a := 65535 - a % 65536) (by omega) (by omega), Int.emod_eq_of_lt (a := b % 65536) (b := 18446744073709551616) (by omega) (by omega),
    Int.emod_eq_of_lt (a := 65535 - s % 65536 + (65535 - a % 65536)) (by omega) (by omega), Int.emod_eq_of_lt (a := 65535 - s % 65536 + (65535 - a % 65536) + b % 65536) (by omega) (by omega), foldedf_is 3 k _ (by omega) (by omega) (by omega) (by omega)]
  have := fo_range (65535 - s % 65536 + (65535 - a % 65536) + b % 65536)
  simp only [Option.bind_some]
  rw [Int.emod_eq_of_lt (by omega) (by omega), w64 (by omega) (by omega)]

theorem rat_is (l : List Int) (i : Int) (hb : Byt l) : castellanref1_at.f l i = some (atz l i) := by
  unfold castellanref1_at.f
  by_cases c1 : i < 0
  · rw [if_pos c1, atz_neg l c1]
  · rw [if_neg c1]
    by_cases c2 : i ≥ (l.length : Int)
    · rw [if_pos c2, atz_ge l c2]
    · rw [if_neg c2, if_pos (by omega), if_pos (by omega)]
      have b := getD_byt hb i.toNat
      unfold rd atz; rw [if_pos (by omega), Int.emod_eq_of_lt (by omega) (by omega)]

theorem rget16_is (l : List Int) (i : Int) (hb : Byt l) (h0 : -9223372036854775808 ≤ i) (h1 : i ≤ 2199023255552) : castellanref1_Get16.f l i = some (g16 l i) := by
  unfold castellanref1_Get16.f
  rw [w64 (n := i + 1) (by omega) (by omega), rat_is l i hb, rat_is l (i + 1) hb]
  simp only [Option.bind_some]
  have b0 := atz_byt hb i
  have b1 := atz_byt hb (i + 1)
  rw [Int.emod_eq_of_lt (a := atz l i * 256) (by omega) (by omega), or_u32_8 _ _ (by omega) (by omega) (by omega) (by omega), w64 (by omega) (by omega)]
  rfl

theorem rput16_is (n : Int) : castellanref1_Put16.f n = some (p16 n) := rfl

theorem rfold_is : ∀ (d k : Nat) (n : Int), 0 ≤ n → n ≤ 65535 * (d + 1) → n < 4611686018427387904 → d < k → castellanref2_fold.l0 k n = some (fo n)
  | d, 0, _, _, _, _, hk => absurd hk (by omega)
  | d, k + 1, n, h0, h1, h2, hk => by
    simp only [castellanref2_fold.l0]
    by_cases c : n > 65535
    · rw [if_pos c, and_i64_65535, w64 (by omega) (by omega)]
      cases d with
      | zero => omega
      | succ d => rw [rfold_is d k _ (by omega) (by omega) (by omega) (by omega), Int.add_comm, fo_step (by omega)]
    · rw [if_neg c, fo_small h0 (by omega)]
theorem rfoldf_is (d k : Nat) (n : Int) (h0 : 0 ≤ n) (h1 : n ≤ 65535 * (d + 1)) (h2 : n < 4611686018427387904) (hk : d < k) : castellanref2_fold.f k n = some (fo n) := rfold_is d k n h0 h1 h2 hk

theorem sm_drop (l : List Int) (i : Nat) (h : i < l.length) : sm (l.drop i) = g16 l i + sm (l.drop (i + 2)) := by
  rw [drop_cons_getD h]
  unfold g16 atz
  rw [if_pos (by omega), if_pos (by omega), show ((i : Int)).toNat = i by omega, show ((i : Int) + 1).toNat = i + 1 by omega]
  rcases Nat.lt_or_ge (i + 1) l.length with h1 | h1
  · rw [drop_cons_getD h1]; simp only [sm]
  · rw [List.drop_eq_nil_of_le h1, List.drop_eq_nil_of_le (show l.length ≤ i + 2 by omega)]
    simp [sm, List.getD_eq_getElem?_getD, List.getElem?_eq_none h1]
theorem rof_l0 (l : List Int) (hb : Byt l) (hl : l.length ≤ 1048576) : ∀ (d k i : Nat) (n : Int), l.length ≤ i + d → 0 ≤ n → n ≤ 65535 → i ≤ l.length + 1 → d + 10 < k → castellanref2_Of.l0 k l n (i : Int) = some (65535 - fo (n + sm (l.drop i)))
  | d, 0, _, _, _, _, _, _, hk => absurd hk (by omega)
  | d, k + 1, i, n, hi, h0, h1, h2, hk => by
    simp only [castellanref2_Of.l0]
    by_cases c : (i : Int) < l.length
    · have hg := g16_lt hb (i : Int)
      rw [if_pos c, rget16_is l i hb (by omega) (by omega)]
      simp only [Option.bind_some]
      rw [w64 (n := n + g16 l i) (by omega) (by omega), rfoldf_is 3 k _ (by omega) (by omega) (by omega) (by omega)]
      simp only [Option.bind_some]
      have hr := fo_range (n + g16 l i)
      have ew : wrap64 ((i : Int) + 2) = ((i + 2 : Nat) : Int) := by rw [w64 (by omega) (by omega)]; omega
      cases d with
      | zero => omega
      | succ d =>
        have hs := sm_nonneg (byt_drop hb (i + 2))
        rw [ew, rof_l0 l hb hl d k (i + 2) _ (by omega) (by omega) (by omega) (by omega) (by omega), fo_add (by omega) hs, sm_drop l i (by omega), Int.add_assoc]
    · rw [if_neg c, List.drop_eq_nil_of_le (by omega)]
      simp only [sm, Int.add_zero]
      rw [fo_small h0 h1, w64 (by omega) (by omega)]
theorem rof_is (l : List Int) (hb : Byt l) (hl : l.length ≤ 1048576) (k : Nat) (hk : KO ≤ k) : castellanref2_Of.f k l = some (ck l) := by
  unfold KO at hk
  unfold castellanref2_Of.f
  have h := rof_l0 l hb hl l.length k 0 0 (by omega) (by omega) (by omega) (by omega) (by omega)
  rw [List.drop_zero, Int.zero_add] at h
  exact h

theorem upd_right (y : List Int) (hr : ∀ k, KO ≤ k → sum_Right.f k y = some true) (hl : y.length ≤ 1048576) : ∀ (d k i : Nat) (acc : Int), i + d = y.length → d + KO < k → castellanlaw2_SumUpdates.l0 k y acc (i : Int) = some true
  | d, 0, _, _, _, hk => absurd hk (by omega)
  | 0, k + 1, i, acc, hi, hk => by
    simp only [castellanlaw2_SumUpdates.l0]
    rw [if_neg (by omega), hr k (by omega)]
    simp only [ob]
    rw [if_pos True.intro, sumKnown_is k (by omega)]; rfl
  | d + 1, k + 1, i, acc, hi, hk => by
    simp only [castellanlaw2_SumUpdates.l0]
    have ew : wrap64 ((i : Int) + 1) = ((i + 1 : Nat) : Int) := by rw [w64 (by omega) (by omega)]; omega
    rw [if_pos (by omega), if_pos (by omega), ew]
    exact upd_right y hr hl d k (i + 1) _ (by omega) (by omega)
theorem upd_zero (y : List Int) (hb : Byt y) (hz : ∀ i, y.getD i 0 = 0) (hl : y.length ≤ 1048576) : ∀ (d k i : Nat), i + d = y.length → d + KO < k → castellanlaw2_SumUpdates.l0 k y 0 (i : Int) = some true
  | d, 0, _, _, hk => absurd hk (by omega)
  | 0, k + 1, i, hi, hk => by
    simp only [castellanlaw2_SumUpdates.l0]
    rw [if_neg (by omega), right_is y hb hl k (by omega), sumKnown_is k (by omega)]
    simp only [ob]
    by_cases c : (ck y == 0) = true
    · rw [if_pos c]
    · rw [if_neg c, if_pos True.intro]
  | d + 1, k + 1, i, hi, hk => by
    simp only [castellanlaw2_SumUpdates.l0]
    have ew : wrap64 ((i : Int) + 1) = ((i + 1 : Nat) : Int) := by rw [w64 (by omega) (by omega)]; omega
    have er : rd y (i : Int) = 0 := by unfold rd; rw [rd_nat]; exact hz i
    rw [if_pos (by omega), if_pos (by omega), ew, er, show Go.bits .or .i64 0 (wrap64 0) = 0 by decide +kernel]
    exact upd_zero y hb hz hl d k (i + 1) (by omega) (by omega)
theorem SumUpdates : castellanlaw2_SumUpdates.Pure := by
  intro l0 a now h0 h1 hb ha hn
  have hb := byt_of hb
  have hn := u16_of hn
  obtain ⟨K, hK⟩ : ∃ K : Nat, KO + 4998 = K := ⟨_, rfl⟩
  refine ⟨K + 2, ?_⟩
  unfold castellanlaw2_SumUpdates.f
  have ht : castellanlaw2_SumUpdates.j0 (K + 2) l0 a now true = some true := by simp only [castellanlaw2_SumUpdates.j0]; rfl
  by_cases c1 : (l0.length : Int) < 6
  · rw [if_pos c1]; exact ht
  rw [if_neg c1]
  by_cases c2 : (l0.length : Int) > 1500
  · rw [decide_eq_true c2]; exact ht
  rw [decide_eq_false c2]
  clear ht
  have hKO : 4 ≤ KO := by unfold KO; omega
  have e1 : wrap64 ((wrap64 ((l0.length : Int) / 2)) * 2) = (l0.length : Int) / 2 * 2 := by rw [w64 (n := (l0.length : Int) / 2) (by omega) (by omega), w64 (by omega) (by omega)]
  simp only [castellanlaw2_SumUpdates.j0]
  rw [if_neg (by decide), ob, e1, if_pos (by omega), if_pos (by omega), if_pos (by rw [List.length_take, List.length_nil]; omega), ob]
  generalize hx : ([] ++ l0.take (((l0.length : Int) / 2 * 2)).toNat : List Int) = l
  rw [List.nil_append] at hx
  have hlb : Byt l := by rw [← hx]; exact byt_take hb _
  have hll : (l.length : Int) = (l0.length : Int) / 2 * 2 := by rw [← hx, List.length_take]; omega
  rw [if_pos (by omega), if_pos (by omega), ob]
  rw [show ((0 : Int)).toNat = 0 from rfl, show ((1 : Int)).toNat = 1 from rfl]
  generalize hz : (l.set 0 0).set 1 0 = z
  have hzb : Byt z := by rw [← hz]; exact byt_set (byt_set hlb _ (by omega)) _ (by omega)
  have hzl : z.length = l.length := by rw [← hz]; simp
  have hz0 : z.getD 0 0 = 0 := by rw [← hz, lgetD_set_ne _ _ (by omega), lgetD_set_eq _ _ (by omega)]
  have hz1 : z.getD 1 0 = 0 := by rw [← hz, lgetD_set_eq _ _ (by simp; omega)]
  have hcr := ck_range z
  have hs := sm_nonneg hzb
  have hck : ck z = 65535 - fo (sm z) := rfl
  have hpl : ((p16 (ck z)).length : Int) = 2 := rfl
  have hr0 : rd (p16 (ck z)) 0 = ck z / 256 % 256 := rfl
  have hr1 : rd (p16 (ck z)) 1 = ck z % 256 := rfl
  rw [rof_is z hzb (by omega) (K + 1) (by omega), ob, rput16_is, ob, if_pos (by omega), if_pos (by omega), hr0, hr1, ob]
  have hym := sm_set2 z 0 (ck z / 256 % 256) (ck z % 256) (by omega)
  simp only [Nat.mul_zero, Nat.zero_add] at hym
  rw [hz0, hz1] at hym
  generalize hy : (z.set 0 (ck z / 256 % 256)).set 1 (ck z % 256) = y at hym ⊢
  have hyb : Byt y := by rw [← hy]; exact byt_set (byt_set hzb _ (by omega)) _ (by omega)
  have hyl : y.length = l.length := by rw [← hy]; simp [hzl]
  have hy0 : y.getD 0 0 = ck z / 256 % 256 := by rw [← hy, lgetD_set_ne _ _ (by omega), lgetD_set_eq _ _ (by omega)]
  have hy1 : y.getD 1 0 = ck z % 256 := by rw [← hy, lgetD_set_eq _ _ (by simp; omega)]
  -- the place
  have hm := Int.emod_nonneg a (show (65536 : Int) ≠ 0 by decide)
  have hd : wrap64 ((wrap64 ((l.length : Int) / 2)) - 1) = (l.length : Int) / 2 - 1 := by rw [w64 (n := (l.length : Int) / 2) (by omega) (by omega), w64 (by omega) (by omega)]
  have hj0 := Int.emod_nonneg (a % 65536) (show (l.length : Int) / 2 - 1 ≠ 0 by omega)
  have hj1 := Int.emod_lt_of_pos (a % 65536) (show (0 : Int) < (l.length : Int) / 2 - 1 by omega)
  obtain ⟨j, hj⟩ : ∃ j : Nat, (a % 65536) % ((l.length : Int) / 2 - 1) = (j : Int) := ⟨((a % 65536) % ((l.length : Int) / 2 - 1)).toNat, by omega⟩
  have hk : wrap64 (2 + (wrap64 (2 * (Int.tmod (Go.bits .and .i64 a 65535) ((l.length : Int) / 2 - 1))))) = ((2 * (j + 1) : Nat) : Int) := by
    rw [and_i64_65535, Int.tmod_eq_emod_of_nonneg hm, hj, w64 (n := 2 * (j : Int)) (by omega) (by omega), w64 (by omega) (by omega)]; omega
  have hlt : 2 * (j + 1) + 1 < y.length := by omega
  rw [hd, if_neg (by omega), hk, rget16_is y 0 hyb (by omega) (by omega), ob, rget16_is y ((2 * (j + 1) : Nat) : Int) hyb (by omega) (by omega), ob, w64 (n := now) (by omega) (by omega), update_is _ _ _ (K + 1) (by omega), ob]
  have hg0 : g16 y 0 = ck z := by
    have := g16_nat y 0
    rw [hy0, hy1] at this
    simp only [Int.natCast_zero] at this
    omega
  have hgj := g16_nat y (2 * (j + 1))
  have hgr := g16_lt hyb ((2 * (j + 1) : Nat) : Int)
  rw [hg0]
  generalize hwas : g16 y ((2 * (j + 1) : Nat) : Int) = was at hgj hgr ⊢
  rw [Int.emod_eq_of_lt (a := ck z) (by omega) (by omega), Int.emod_eq_of_lt (a := was) (by omega) (by omega), Int.emod_eq_of_lt (a := now) (by omega) (by omega)]
  have hur := fo_range (65535 - ck z + (65535 - was) + now)
  have hum := @fo_mod (65535 - ck z + (65535 - was) + now)
  generalize hu : 65535 - fo (65535 - ck z + (65535 - was) + now) = u
  rw [if_neg (by omega), decide_eq_false (by omega)]
  simp only [castellanlaw2_SumUpdates.j1]
  have hk1 : wrap64 (((2 * (j + 1) : Nat) : Int) + 1) = ((2 * (j + 1) + 1 : Nat) : Int) := by rw [w64 (by omega) (by omega)]; omega
  rw [if_neg (by decide), if_pos (by omega), if_pos (by omega), if_pos (by omega), if_pos (by omega), hk1, if_pos (by omega), if_pos (by omega)]
  rw [show (((2 * (j + 1) : Nat) : Int)).toNat = 2 * (j + 1) by omega, show (((2 * (j + 1) + 1 : Nat) : Int)).toNat = 2 * (j + 1) + 1 by omega, show ((0 : Int)).toNat = 0 from rfl, show ((1 : Int)).toNat = 1 from rfl]
  have hv1 := sm_set2 y 0 (u / 256 % 256) (u % 256) (by omega)
  simp only [Nat.mul_zero, Nat.zero_add] at hv1
  rw [hy0, hy1] at hv1
  generalize hv : (y.set 0 (u / 256 % 256)).set 1 (u % 256) = v at hv1
  have hvb : Byt v := by rw [← hv]; exact byt_set (byt_set hyb _ (by omega)) _ (by omega)
  have hvl : v.length = y.length := by rw [← hv]; simp
  have hva : v.getD (2 * (j + 1)) 0 = y.getD (2 * (j + 1)) 0 := by rw [← hv, lgetD_set_ne _ _ (by omega), lgetD_set_ne _ _ (by omega)]
  have hvc : v.getD (2 * (j + 1) + 1) 0 = y.getD (2 * (j + 1) + 1) 0 := by rw [← hv, lgetD_set_ne _ _ (by omega), lgetD_set_ne _ _ (by omega)]
  have ht1 := sm_set2 v (j + 1) (now / 256 % 256) (now % 256) (by omega)
  rw [hva, hvc] at ht1
  generalize htt : (v.set (2 * (j + 1)) (now / 256 % 256)).set (2 * (j + 1) + 1) (now % 256) = t at ht1
  have htb : Byt t := by rw [← htt]; exact byt_set (byt_set hvb _ (by omega)) _ (by omega)
  have htl : t.length = y.length := by rw [← htt]; simp [hvl]
  have hts := sm_nonneg htb
  have q1 : 256 * (u / 256 % 256) + u % 256 = u := by omega
  have q2 : 256 * (now / 256 % 256) + now % 256 = now := by omega
  have q3 : 256 * (ck z / 256 % 256) + ck z % 256 = ck z := by omega
  have hsum : sm t = sm z + u - was + now := by
    generalize u / 256 % 256 = u1 at *
    generalize u % 256 = u2 at *
    generalize now / 256 % 256 = n1 at *
    generalize now % 256 = n2 at *
    generalize ck z / 256 % 256 = z1 at *
    generalize ck z % 256 = z2 at *
    clear hx hz hy hv htt
    omega
  have hmod : sm t % 65535 = 0 := by
    have m1 := @fo_mod (sm z)
    omega
  by_cases c : 0 < sm t
  · refine upd_right t (fun k hk => ?_) (by omega) t.length K 0 0 (by omega) (by omega)
    rw [right_is t htb (by omega) k hk, ck_zero c hmod]; rfl
  · exact upd_zero t htb (sm_zero htb (by omega)) (by omega) t.length K 0 (by omega) (by omega)

end Go.Proofs.Ytakdkbdojdjpkaa.Pure
