/- additional zero bytes after an even number of bytes, and words with all bits set, do not change the checksum, except for data that consists of zeros. No condition besides the law's own guards. -/
import Derived.Test.YtakdkbdojdjpkaaQSumNoughtsx1
import Derived.Test.YtakdkbdojdjpkaaBase
namespace Go.Proofs.Ytakdkbdojdjpkaa.Pure
open Go.RowKit Go.Proofs.Ytakdkbdojdjpkaa.QSumNoughts Go.Proofs.YtakdkbdojdjpkaaW.PrintWords Go.Proofs.YtakdkbdojdjpkaaW.PrintLast Go.Proofs.Ytakdkbdojdjpkaa.Base
open Go
set_option linter.unusedVariables false
set_option linter.unusedSimpArgs false

theorem folded_is : ∀ (d k : Nat) (n : Int), 0 ≤ n → n ≤ 65535 * (d + 1) → n < 4611686018427387904 → d < k → sum_folded.l0 k n = some (fo n)
  | d, 0, _, _, _, _, hk => absurd hk (by omega)
  | d, k + 1, n, h0, h1, h2, hk => by
    simp only [sum_folded.l0]
    by_cases c : n > 65535
    · rw [if_pos c, and_u64_65535, wrap_u64, Int.emod_eq_of_lt (by omega) (by omega)]
      cases d with
      | zero => omega
      | succ d => rw [folded_is d k _ (by omega) (by omega) (by omega) (by omega), fo_step (by omega)]
    · rw [if_neg c, fo_small h0 (by omega)]
theorem foldedf_is (d k : Nat) (n : Int) (h0 : 0 ≤ n) (h1 : n ≤ 65535 * (d + 1)) (h2 : n < 4611686018427387904) (hk : d < k) : sum_folded.f k n = some (fo n) := folded_is d k n h0 h1 h2 hk

theorem of_l1 (rows : List (List Int)) (n x11 : Int) (row : List Int) (hb : Byt row) (hl : row.length ≤ 1099511627776) : ∀ (d k i : Nat) (acc : Int) (low : Bool), i + d = row.length → 0 ≤ acc → acc + 65280 * d < 4611686018427387904 →
    sum_Of.l1 (k + d + 1) acc low rows n x11 row (row.length : Int) (i : Int) = sum_Of.l0 k (acc + sp low (row.drop i)) (low ^^ odd d) rows n (wrap64 (x11 + 1))
  | 0, k, i, acc, low, hi, h0, h1 => by
    simp only [sum_Of.l1]
    rw [if_neg (by omega), List.drop_eq_nil_of_le (by omega)]
    simp [sp, odd]
  | d + 1, k, i, acc, low, hi, h0, h1 => by
    have hlt : i < row.length := by omega
    have b := getD_byt hb i
    have e : k + (d + 1) + 1 = (k + d + 1) + 1 := by omega
    rw [e, sum_Of.l1]
    rw [if_pos (by omega), if_pos (by omega), if_pos (by omega)]
    have er : rd row (i : Int) = row.getD i 0 := by unfold rd; simp
    have ew : wrap64 ((i : Int) + 1) = ((i + 1 : Nat) : Int) := by rw [w64 (by omega) (by omega)]; omega
    rw [er, ew, drop_cons_getD hlt]
    cases low with
    | true =>
      rw [if_pos rfl, wrap_u64, wrap_u64, Int.emod_eq_of_lt (a := row.getD i 0) (by omega) (by omega), Int.emod_eq_of_lt (a := acc + row.getD i 0) (by omega) (by omega), of_l1 rows n x11 row hb hl d k (i + 1) _ _ (by omega) (by omega) (by omega)]
      rw [odd_succ, sp, Int.add_assoc]; simp
    | false =>
      rw [if_neg (by decide), wrap_u64, wrap_u64, wrap_u64, Int.emod_eq_of_lt (a := row.getD i 0) (by omega) (by omega), Int.emod_eq_of_lt (a := row.getD i 0 * 256) (by omega) (by omega), Int.emod_eq_of_lt (a := acc + row.getD i 0 * 256) (by omega) (by omega), of_l1 rows n x11 row hb hl d k (i + 1) _ _ (by omega) (by omega) (by omega)]
      rw [odd_succ, sp, Int.add_assoc]; simp
theorem of_l0 (rows : List (List Int)) (hb : BytL rows) (hl : rows.flatten.length ≤ 1048576) (hn : rows.length ≤ 1048576) : ∀ (m k j : Nat) (acc : Int) (low : Bool), j + m = rows.length → 0 ≤ acc → acc + 65280 * (rows.drop j).flatten.length ≤ 68451041280 →
    2 * m + (rows.drop j).flatten.length + 1048576 < k → sum_Of.l0 k acc low rows (rows.length : Int) (j : Int) = some (65535 - fo (acc + sp low (rows.drop j).flatten))
  | 0, 0, _, _, _, _, _, _, hk => absurd hk (by omega)
  | 0, k + 1, j, acc, low, hj, h0, h1, hk => by
    simp only [sum_Of.l0]
    rw [if_neg (by omega), List.drop_eq_nil_of_le (by omega)]
    have ha : acc ≤ 68451041280 := by have : (0 : Int) ≤ (rows.drop j).flatten.length := by omega
                                      omega
    rw [foldedf_is 1048575 k acc h0 (by omega) (by omega) (by omega)]
    have := fo_range acc
    simp only [Option.bind_some, List.flatten_nil, sp, Int.add_zero]
    rw [wrap_u64, Int.emod_eq_of_lt (by omega) (by omega), w64 (by omega) (by omega)]
  | m + 1, k, j, acc, low, hj, h0, h1, hk => by
    have hlt : j < rows.length := by omega
    have ed : rows.drop j = rows.getD j [] :: rows.drop (j + 1) := drop_cons_getD_L hlt
    have hbr : Byt (rows.getD j []) := hb _ (by rw [List.getD_eq_getElem?_getD, List.getElem?_eq_getElem hlt]; exact List.getElem_mem hlt)
    have hlr : (rows.getD j []).length + (rows.drop (j + 1)).flatten.length = (rows.drop j).flatten.length := by rw [ed]; simp
    have hll : (rows.drop j).flatten.length ≤ rows.flatten.length := by
      have := congrArg (fun z => z.flatten.length) (List.take_append_drop j rows)
      simp only [List.flatten_append, List.length_append] at this
      omega
    obtain ⟨k', rfl⟩ : ∃ z, k = (z + (rows.getD j []).length + 1) + 1 := ⟨k - (rows.getD j []).length - 2, by omega⟩
    simp only [sum_Of.l0]
    have er : rd_L1 rows (j : Int) = rows.getD j [] := by unfold rd_L1; simp
    have ew : wrap64 ((j : Int) + 1) = ((j + 1 : Nat) : Int) := by rw [w64 (by omega) (by omega)]; omega
    have hs0 := sp_nonneg low hbr
    have hs1 := sp_le low hbr
    rw [if_pos (by omega), if_pos (by omega), if_pos (by omega), er]
    have h2 := of_l1 rows (rows.length : Int) (j : Int) (rows.getD j []) hbr (by omega) (rows.getD j []).length k' 0 acc low (by omega) h0 (by omega)
    rw [List.drop_zero] at h2
    refine h2.trans ?_
    rw [ew, of_l0 rows hb hl hn m k' (j + 1) _ _ (by omega) (by omega) (by omega) (by omega)]
    rw [ed, List.flatten_cons, sp_append, Int.add_assoc]
/-- more than enough rounds -/
def KO : Nat := 5000000
theorem of_is (rows : List (List Int)) (hb : BytL rows) (hl : rows.flatten.length ≤ 1048576) (hn : rows.length ≤ 1048576) (k : Nat) (hk : KO ≤ k) : sum_Of.f k rows = some (ck rows.flatten) := by
  unfold KO at hk
  unfold sum_Of.f
  have h := of_l0 rows hb hl hn rows.length k 0 0 false (by omega) (by omega) (by rw [List.drop_zero]; omega) (by rw [List.drop_zero]; omega)
  rw [List.drop_zero, Int.zero_add, sp_false] at h
  exact h
theorem of1_is (l : List Int) (hb : Byt l) (hl : l.length ≤ 1048576) (k : Nat) (hk : KO ≤ k) : sum_Of.f k [l] = some (ck l) := by
  rw [of_is [l] (fun x hx => by simp at hx; subst hx; exact hb) (by simpa using hl) (by simp) k hk]; simp
theorem of2_is (a b : List Int) (ha : Byt a) (hb : Byt b) (hl : a.length + b.length ≤ 1048576) (k : Nat) (hk : KO ≤ k) : sum_Of.f k [a, b] = some (ck (a ++ b)) := by
  rw [of_is [a, b] (fun x hx => by simp at hx; rcases hx with rfl | rfl <;> assumption) (by simpa using hl) (by simp) k hk]; simp

theorem sumKnown_is (k : Nat) (hk : KO ≤ k) : castellanlaw2_known.f k = some true := by
  unfold castellanlaw2_known.f
  rw [of1_is [0, 1, 242, 3] (byt_cons (by omega) (byt_cons (by omega) (byt_cons (by omega) (byt_cons (by omega) byt_nil)))) (by simp) k hk]
  decide

theorem sp_zeros : ∀ (n : Nat) (low : Bool), sp low (List.replicate n 0) = 0
  | 0, _ => by simp [sp]
  | n + 1, false => by rw [List.replicate_succ, sp, sp_zeros n true]; rfl
  | n + 1, true => by rw [List.replicate_succ, sp, sp_zeros n false]; rfl
theorem nought_any (b : List Int) (hb : Byt b) (hl : b.length ≤ 500) (y : Int) (hy : y = ck b) : ∀ (d k i : Nat) (acc : Int), i + d = b.length → d + KO < k → castellanlaw2_SumNoughts.l0 k b (ck b) y acc (i : Int) = some true
  | d, 0, _, _, _, hk => absurd hk (by omega)
  | 0, k + 1, i, acc, hi, hk => by
    have h0 : sum_Of.f k ([] : List (List Int)) = some 65535 := by
      rw [of_is [] (fun x hx => by simp at hx) (by simp) (by simp) k (by omega)]; rfl
    simp only [castellanlaw2_SumNoughts.l0]
    rw [if_neg (by omega), of1_is b hb (by omega) k (by omega), ob, if_pos rfl, h0, sumKnown_is k (by omega), ob, ob, ob, if_pos rfl, if_pos hy]
    by_cases c : acc = 0
    · rw [if_pos c]
    · rw [if_neg c]
  | d + 1, k + 1, i, acc, hi, hk => by
    have ew : wrap64 ((i : Int) + 1) = ((i + 1 : Nat) : Int) := by rw [w64 (by omega) (by omega)]; omega
    simp only [castellanlaw2_SumNoughts.l0]
    rw [if_pos (by omega), if_pos (by omega), ew]
    exact nought_any b hb hl y hy d k (i + 1) _ (by omega) (by omega)
theorem nought_zero (b : List Int) (hb : Byt b) (hz : ∀ i, b.getD i 0 = 0) (hl : b.length ≤ 500) (y : Int) : ∀ (d k i : Nat), i + d = b.length → d + KO < k → castellanlaw2_SumNoughts.l0 k b (ck b) y 0 (i : Int) = some true
  | d, 0, _, _, hk => absurd hk (by omega)
  | 0, k + 1, i, hi, hk => by
    have h0 : sum_Of.f k ([] : List (List Int)) = some 65535 := by
      rw [of_is [] (fun x hx => by simp at hx) (by simp) (by simp) k (by omega)]; rfl
    simp only [castellanlaw2_SumNoughts.l0]
    rw [if_neg (by omega), of1_is b hb (by omega) k (by omega), ob, if_pos rfl, if_pos True.intro, h0, sumKnown_is k (by omega), ob, ob, if_pos rfl]
  | d + 1, k + 1, i, hi, hk => by
    have ew : wrap64 ((i : Int) + 1) = ((i + 1 : Nat) : Int) := by rw [w64 (by omega) (by omega)]; omega
    have er : rd b (i : Int) = 0 := by unfold rd; rw [rd_nat]; exact hz i
    simp only [castellanlaw2_SumNoughts.l0]
    rw [if_pos (by omega), if_pos (by omega), ew, er, show Go.bits .or .i64 0 (wrap64 0) = 0 by decide +kernel]
    exact nought_zero b hb hz hl y d k (i + 1) (by omega) (by omega)
theorem SumNoughts : castellanlaw2_SumNoughts.Pure := by
  intro b n h0 h1 hb hn
  have hb := byt_of hb
  obtain ⟨K, hK⟩ : ∃ K : Nat, KO + 1000 = K := ⟨_, rfl⟩
  refine ⟨K + 1, ?_⟩
  unfold castellanlaw2_SumNoughts.f
  have ht : castellanlaw2_SumNoughts.j0 (K + 1) b n true = some true := by simp only [castellanlaw2_SumNoughts.j0]; rfl
  by_cases c1 : (b.length : Int) > 500
  · rw [if_pos c1]; exact ht
  rw [if_neg c1]
  by_cases c2 : ((b.length : Int) % 2) = 1
  · rw [if_pos c2]; exact ht
  rw [if_neg c2]
  by_cases c3 : n < 0
  · rw [if_pos c3]; exact ht
  rw [if_neg c3]
  by_cases c4 : n > 50
  · rw [decide_eq_true c4]; exact ht
  rw [decide_eq_false c4]
  have hz : Byt (List.replicate n.toNat 0) := fun x hx => by have := List.eq_of_mem_replicate hx; omega
  have hff : Byt [255, 255] := byt_cons (by omega) (byt_cons (by omega) byt_nil)
  have e1 : ck (b ++ List.replicate n.toNat 0) = ck b := by
    unfold ck
    rw [sm_append _ _ (by omega), ← sp_false (List.replicate n.toNat 0), sp_zeros, Int.add_zero]
  have hs := sm_nonneg hb
  have e2 : 0 < sm b → ck (b ++ [255, 255]) = ck b := by
    intro h
    unfold ck
    rw [sm_append _ _ (by omega), show sm [255, 255] = 65535 from rfl]
    unfold fo
    rw [if_neg (by omega), if_neg (by omega)]; omega
  simp only [castellanlaw2_SumNoughts.j0]
  rw [if_neg (by decide), if_pos (by omega), if_pos (by omega), of2_is b _ hb hz (by rw [List.length_replicate]; omega) K (by omega), ob, e1, of2_is b _ hb hff (by simp; omega) K (by omega), ob]
  by_cases c : 0 < sm b
  · exact nought_any b hb (by omega) _ (e2 c) b.length K 0 0 (by omega) (by omega)
  · exact nought_zero b hb (sm_zero hb (by omega)) (by omega) _ b.length K 0 (by omega) (by omega)

end Go.Proofs.Ytakdkbdojdjpkaa.Pure
