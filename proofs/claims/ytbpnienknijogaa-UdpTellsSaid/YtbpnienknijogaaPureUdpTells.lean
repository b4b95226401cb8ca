/- Parse, Build and Same agree with the specification for all bytes and datagrams. No condition besides the law's own guard. -/
import Derived.Test.YtbpnienknijogaaQUdpTellsx7
import Derived.Test.YtbpnienknijogaaBase
namespace Go.Proofs.Ytbpnienknijogaa.Pure
open Go.RowKit Go.Proofs.Ytbpnienknijogaa.QUdpTells Go.Proofs.YtbpnienknijogaaW.PrintWords Go.Proofs.YtbpnienknijogaaW.PrintLast Go.Proofs.YtbpnienknijogaaW.PrintMore Go.Proofs.Ytbpnienknijogaa.Base
open Go
set_option linter.unusedVariables false
set_option linter.unusedSimpArgs false

theorem at_is (l : List Int) (i m : Int) (hl : l.length ≤ 1099511627776) (h0 : -9223372036854775808 ≤ i) (h1 : i ≤ 2199023255552) (hm0 : 0 ≤ m) (hm : m ≤ 8) : word_at.f l i m = some (atz l (i + m)) := by
  unfold word_at.f
  have e1 : wrap64 (-m) = -m := w64 (by omega) (by omega)
  have e2 : wrap64 ((l.length : Int) - m) = l.length - m := w64 (by omega) (by omega)
  rw [e1, e2]
  by_cases c1 : i < -m
  · rw [if_pos c1, atz_neg l (by omega)]
  · rw [if_neg c1]
    by_cases c2 : i ≥ (l.length : Int) - m
    · rw [if_pos c2, atz_ge l (by omega)]
    · rw [if_neg c2]
      have e3 : wrap64 (i + m) = i + m := w64 (by omega) (by omega)
      rw [e3, if_pos (by omega), if_pos (by omega)]
      unfold rd atz; rw [if_pos (by omega)]

theorem get16_is (l : List Int) (i : Int) (hb : Byt l) (hl : l.length ≤ 1099511627776) (h0 : -9223372036854775808 ≤ i) (h1 : i ≤ 2199023255552) : word_Get16.f l i = some (g16 l i) := by
  unfold word_Get16.f
  rw [at_is l i 0 hl h0 h1 (by omega) (by omega), at_is l i 1 hl h0 h1 (by omega) (by omega)]
  simp only [Option.bind_some, Int.add_zero]
  have b0 := atz_byt hb i
  have b1 := atz_byt hb (i + 1)
  rw [w64 (n := atz l i) (by omega) (by omega), w64 (n := atz l (i + 1)) (by omega) (by omega), w64 (n := atz l i * 256) (by omega) (by omega), or_i64_8 _ _ (by omega) (by omega) (by omega) (by omega)]
  rfl

theorem put16_is (n : Int) : word_Put16.f n = some (p16 n) := rfl

theorem concat_go (L : List (List Int)) (hL : L.length < 4611686018427387904) : ∀ (d k : Nat) (x : List Int) (i : Nat), L.length = i + d → d < k → x.length + ((L.drop i).flatten).length < 140737488355328 → slices_Concat_byte_byte.l0 k x L (L.length : Int) (i : Int) = some (x ++ (L.drop i).flatten)
  | _, 0, _, _, _, hk, _ => absurd hk (by omega)
  | d, k + 1, x, i, hd, hk, hx => by
    simp only [slices_Concat_byte_byte.l0]
    by_cases c : (i : Int) < (L.length : Int)
    · have e : L.drop i = L.getD i [] :: L.drop (i + 1) := drop_cons_getD_L (by omega)
      have er : rd_L1 L (i : Int) = L.getD i [] := by unfold rd_L1; rw [show ((i : Int)).toNat = i by omega]
      rw [e, List.flatten_cons, List.length_append] at hx
      rw [if_pos c, if_pos (by omega), if_pos c, er, if_pos (by omega), w64 (n := (i : Int) + 1) (by omega) (by omega), show ((i : Int) + 1) = ((i + 1 : Nat) : Int) by omega]
      cases d with
      | zero => omega
      | succ d =>
        rw [concat_go L hL d k _ (i + 1) (by omega) (by omega) (by rw [List.length_append]; omega), e, List.flatten_cons, List.append_assoc]
    · rw [if_neg c, List.drop_of_length_le (by omega)]; simp
theorem join_is (L : List (List Int)) (k : Nat) (hL : L.length < 4611686018427387904) (hk : L.length < k) (h : L.flatten.length < 140737488355328) : word_Join.f k L = some L.flatten := by
  unfold word_Join.f slices_Concat_byte_byte.f
  have h0 := concat_go L hL L.length k [] 0 (by omega) hk (by simpa using h)
  rw [List.drop_zero, List.nil_append] at h0
  rw [show ((0 : Nat) : Int) = 0 from rfl] at h0
  rw [h0, ob]

theorem folded_is : ∀ (d k : Nat) (n : Int), 0 ≤ n → n ≤ 65535 * (d + 1) → n < 4611686018427387904 → d < k → sum_folded.l0 k n = some (fo n)
  | d, 0, _, _, _, _, hk => absurd hk (by omega)
  | d, k + 1, n, h0, h1, h2, hk => by
    simp only [sum_folded.l0]
    by_cases c : n > 65535
    · rw [if_pos c, and_u64_65535, wrap_u64, Int.emod_eq_of_lt (by omega) (by omega)]
      cases d with
      | zero => omega
      | succ d => rw [folded_is d k _ (by omega) (by omega) (by omega) (by omega), fo_step (by omega)]
    · rw [if_neg c, fo_small h0 (by omega)]
theorem foldedf_is (d k : Nat) (n : Int) (h0 : 0 ≤ n) (h1 : n ≤ 65535 * (d + 1)) (h2 : n < 4611686018427387904) (hk : d < k) : sum_folded.f k n = some (fo n) := folded_is d k n h0 h1 h2 hk

theorem of_l1 (rows : List (List Int)) (n x11 : Int) (row : List Int) (hb : Byt row) (hl : row.length ≤ 1099511627776) : ∀ (d k i : Nat) (acc : Int) (low : Bool), i + d = row.length → 0 ≤ acc → acc + 65280 * d < 4611686018427387904 →
    sum_Of.l1 (k + d + 1) acc low rows n x11 row (row.length : Int) (i : Int) = sum_Of.l0 k (acc + sp low (row.drop i)) (low ^^ odd d) rows n (wrap64 (x11 + 1))
  | 0, k, i, acc, low, hi, h0, h1 => by
    simp only [sum_Of.l1]
    rw [if_neg (by omega), List.drop_eq_nil_of_le (by omega)]
    simp [sp, odd]
  | d + 1, k, i, acc, low, hi, h0, h1 => by
    have hlt : i < row.length := by omega
    have b := getD_byt hb i
    have e : k + (d + 1) + 1 = (k + d + 1) + 1 := by omega
    rw [e, sum_Of.l1]
    rw [if_pos (by omega), if_pos (by omega), if_pos (by omega)]
    have er : rd row (i : Int) = row.getD i 0 := by unfold rd; simp
    have ew : wrap64 ((i : Int) + 1) = ((i + 1 : Nat) : Int) := by rw [w64 (by omega) (by omega)]; omega
    rw [er, ew, drop_cons_getD hlt]
    cases low with
    | true =>
      rw [if_pos rfl, wrap_u64, wrap_u64, Int.emod_eq_of_lt (a := row.getD i 0) (by omega) (by omega), Int.emod_eq_of_lt (a := acc + row.getD i 0) (by omega) (by omega), of_l1 rows n x11 row hb hl d k (i + 1) _ _ (by omega) (by omega) (by omega)]
      rw [odd_succ, sp, Int.add_assoc]; simp
    | false =>
      rw [if_neg (by decide), wrap_u64, wrap_u64, wrap_u64, Int.emod_eq_of_lt (a := row.getD i 0) (by omega) (by omega), Int.emod_eq_of_lt (a := row.getD i 0 * 256) (by omega) (by omega), Int.emod_eq_of_lt (a := acc + row.getD i 0 * 256) (by omega) (by omega), of_l1 rows n x11 row hb hl d k (i + 1) _ _ (by omega) (by omega) (by omega)]
      rw [odd_succ, sp, Int.add_assoc]; simp
theorem of_l0 (rows : List (List Int)) (hb : BytL rows) (hl : rows.flatten.length ≤ 1048576) (hn : rows.length ≤ 1048576) : ∀ (m k j : Nat) (acc : Int) (low : Bool), j + m = rows.length → 0 ≤ acc → acc + 65280 * (rows.drop j).flatten.length ≤ 68451041280 →
    2 * m + (rows.drop j).flatten.length + 1048576 < k → sum_Of.l0 k acc low rows (rows.length : Int) (j : Int) = some (65535 - fo (acc + sp low (rows.drop j).flatten))
  | 0, 0, _, _, _, _, _, _, hk => absurd hk (by omega)
  | 0, k + 1, j, acc, low, hj, h0, h1, hk => by
    simp only [sum_Of.l0]
    rw [if_neg (by omega), List.drop_eq_nil_of_le (by omega)]
    have ha : acc ≤ 68451041280 := by have : (0 : Int) ≤ (rows.drop j).flatten.length := by omega
                                      omega
    rw [foldedf_is 1048575 k acc h0 (by omega) (by omega) (by omega)]
    have := fo_range acc
    simp only [Option.bind_some, List.flatten_nil, sp, Int.add_zero]
    rw [wrap_u64, Int.emod_eq_of_lt (by omega) (by omega), w64 (by omega) (by omega)]
  | m + 1, k, j, acc, low, hj, h0, h1, hk => by
    have hlt : j < rows.length := by omega
    have ed : rows.drop j = rows.getD j [] :: rows.drop (j + 1) := drop_cons_getD_L hlt
    have hbr : Byt (rows.getD j []) := hb _ (by rw [List.getD_eq_getElem?_getD, List.getElem?_eq_getElem hlt]; exact List.getElem_mem hlt)
    have hlr : (rows.getD j []).length + (rows.drop (j + 1)).flatten.length = (rows.drop j).flatten.length := by rw [ed]; simp
    have hll : (rows.drop j).flatten.length ≤ rows.flatten.length := by
      have := congrArg (fun z => z.flatten.length) (List.take_append_drop j rows)
      simp only [List.flatten_append, List.length_append] at this
      omega
    obtain ⟨k', rfl⟩ : ∃ z, k = (z + (rows.getD j []).length + 1) + 1 := ⟨k - (rows.getD j []).length - 2, by omega⟩
    simp only [sum_Of.l0]
    have er : rd_L1 rows (j : Int) = rows.getD j [] := by unfold rd_L1; simp
    have ew : wrap64 ((j : Int) + 1) = ((j + 1 : Nat) : Int) := by rw [w64 (by omega) (by omega)]; omega
    have hs0 := sp_nonneg low hbr
    have hs1 := sp_le low hbr
    rw [if_pos (by omega), if_pos (by omega), if_pos (by omega), er]
    have h2 := of_l1 rows (rows.length : Int) (j : Int) (rows.getD j []) hbr (by omega) (rows.getD j []).length k' 0 acc low (by omega) h0 (by omega)
    rw [List.drop_zero] at h2
    refine h2.trans ?_
    rw [ew, of_l0 rows hb hl hn m k' (j + 1) _ _ (by omega) (by omega) (by omega) (by omega)]
    rw [ed, List.flatten_cons, sp_append, Int.add_assoc]
/-- more than enough rounds -/
def KO : Nat := 5000000
theorem of_is (rows : List (List Int)) (hb : BytL rows) (hl : rows.flatten.length ≤ 1048576) (hn : rows.length ≤ 1048576) (k : Nat) (hk : KO ≤ k) : sum_Of.f k rows = some (ck rows.flatten) := by
  unfold KO at hk
  unfold sum_Of.f
  have h := of_l0 rows hb hl hn rows.length k 0 0 false (by omega) (by omega) (by rw [List.drop_zero]; omega) (by rw [List.drop_zero]; omega)
  rw [List.drop_zero, Int.zero_add, sp_false] at h
  exact h
theorem of1_is (l : List Int) (hb : Byt l) (hl : l.length ≤ 1048576) (k : Nat) (hk : KO ≤ k) : sum_Of.f k [l] = some (ck l) := by
  rw [of_is [l] (fun x hx => by simp at hx; subst hx; exact hb) (by simpa using hl) (by simp) k hk]; simp
theorem of2_is (a b : List Int) (ha : Byt a) (hb : Byt b) (hl : a.length + b.length ≤ 1048576) (k : Nat) (hk : KO ≤ k) : sum_Of.f k [a, b] = some (ck (a ++ b)) := by
  rw [of_is [a, b] (fun x hx => by simp at hx; rcases hx with rfl | rfl <;> assumption) (by simpa using hl) (by simp) k hk]; simp

theorem rat_is (l : List Int) (i : Int) (hb : Byt l) : castellanref1_at.f l i = some (atz l i) := by
  unfold castellanref1_at.f
  by_cases c1 : i < 0
  · rw [if_pos c1, atz_neg l c1]
  · rw [if_neg c1]
    by_cases c2 : i ≥ (l.length : Int)
    · rw [if_pos c2, atz_ge l c2]
    · rw [if_neg c2, if_pos (by omega), if_pos (by omega)]
      have b := getD_byt hb i.toNat
      unfold rd atz; rw [if_pos (by omega), Int.emod_eq_of_lt (by omega) (by omega)]

theorem rget16_is (l : List Int) (i : Int) (hb : Byt l) (h0 : -9223372036854775808 ≤ i) (h1 : i ≤ 2199023255552) : castellanref1_Get16.f l i = some (g16 l i) := by
  unfold castellanref1_Get16.f
  rw [w64 (n := i + 1) (by omega) (by omega), rat_is l i hb, rat_is l (i + 1) hb]
  simp only [Option.bind_some]
  have b0 := atz_byt hb i
  have b1 := atz_byt hb (i + 1)
  rw [Int.emod_eq_of_lt (a := atz l i * 256) (by omega) (by omega), or_u32_8 _ _ (by omega) (by omega) (by omega) (by omega), w64 (by omega) (by omega)]
  rfl

theorem rfold_is : ∀ (d k : Nat) (n : Int), 0 ≤ n → n ≤ 65535 * (d + 1) → n < 4611686018427387904 → d < k → castellanref2_fold.l0 k n = some (fo n)
  | d, 0, _, _, _, _, hk => absurd hk (by omega)
  | d, k + 1, n, h0, h1, h2, hk => by
    simp only [castellanref2_fold.l0]
    by_cases c : n > 65535
    · rw [if_pos c, and_i64_65535, w64 (by omega) (by omega)]
      cases d with
      | zero => omega
      | succ d => rw [rfold_is d k _ (by omega) (by omega) (by omega) (by omega), Int.add_comm, fo_step (by omega)]
    · rw [if_neg c, fo_small h0 (by omega)]
theorem rfoldf_is (d k : Nat) (n : Int) (h0 : 0 ≤ n) (h1 : n ≤ 65535 * (d + 1)) (h2 : n < 4611686018427387904) (hk : d < k) : castellanref2_fold.f k n = some (fo n) := rfold_is d k n h0 h1 h2 hk

theorem sm_drop (l : List Int) (i : Nat) (h : i < l.length) : sm (l.drop i) = g16 l i + sm (l.drop (i + 2)) := by
  rw [drop_cons_getD h]
  unfold g16 atz
  rw [if_pos (by omega), if_pos (by omega), show ((i : Int)).toNat = i by omega, show ((i : Int) + 1).toNat = i + 1 by omega]
  rcases Nat.lt_or_ge (i + 1) l.length with h1 | h1
  · rw [drop_cons_getD h1]; simp only [sm]
  · rw [List.drop_eq_nil_of_le h1, List.drop_eq_nil_of_le (show l.length ≤ i + 2 by omega)]
    simp [sm, List.getD_eq_getElem?_getD, List.getElem?_eq_none h1]
theorem rof_l0 (l : List Int) (hb : Byt l) (hl : l.length ≤ 1048576) : ∀ (d k i : Nat) (n : Int), l.length ≤ i + d → 0 ≤ n → n ≤ 65535 → i ≤ l.length + 1 → d + 10 < k → castellanref2_Of.l0 k l n (i : Int) = some (65535 - fo (n + sm (l.drop i)))
  | d, 0, _, _, _, _, _, _, hk => absurd hk (by omega)
  | d, k + 1, i, n, hi, h0, h1, h2, hk => by
    simp only [castellanref2_Of.l0]
    by_cases c : (i : Int) < l.length
    · have hg := g16_lt hb (i : Int)
      rw [if_pos c, rget16_is l i hb (by omega) (by omega)]
      simp only [Option.bind_some]
      rw [w64 (n := n + g16 l i) (by omega) (by omega), rfoldf_is 3 k _ (by omega) (by omega) (by omega) (by omega)]
      simp only [Option.bind_some]
      have hr := fo_range (n + g16 l i)
      have ew : wrap64 ((i : Int) + 2) = ((i + 2 : Nat) : Int) := by rw [w64 (by omega) (by omega)]; omega
      cases d with
      | zero => omega
      | succ d =>
        have hs := sm_nonneg (byt_drop hb (i + 2))
        rw [ew, rof_l0 l hb hl d k (i + 2) _ (by omega) (by omega) (by omega) (by omega) (by omega), fo_add (by omega) hs, sm_drop l i (by omega), Int.add_assoc]
    · rw [if_neg c, List.drop_eq_nil_of_le (by omega)]
      simp only [sm, Int.add_zero]
      rw [fo_small h0 h1, w64 (by omega) (by omega)]
theorem rof_is (l : List Int) (hb : Byt l) (hl : l.length ≤ 1048576) (k : Nat) (hk : KO ≤ k) : castellanref2_Of.f k l = some (ck l) := by
  unfold KO at hk
  unfold castellanref2_Of.f
  have h := rof_l0 l hb hl l.length k 0 0 (by omega) (by omega) (by omega) (by omega) (by omega)
  rw [List.drop_zero, Int.zero_add] at h
  exact h

theorem clone_is (l : List Int) (hl : l.length < 140737488355328) : bytes_Clone.f l = some l := by
  unfold bytes_Clone.f
  rw [ob, if_pos (by rw [List.length_nil]; omega), List.nil_append]

/-- a pseudo header -/
def ph (s t p n : Int) : List Int := p32 s ++ (p32 t ++ ([0, p] ++ p16 n))
theorem ph_len (s t p n : Int) : (ph s t p n).length = 12 := rfl
theorem ph_byt (s t n : Int) {p : Int} (hp : 0 ≤ p ∧ p ≤ 255) : Byt (ph s t p n) :=
  byt_append (byt_p32 s) (byt_append (byt_p32 t) (byt_append (byt_cons (by omega) (byt_cons (by omega) byt_nil)) (byt_p16 n)))
theorem pseudo_is (s t p n : Int) (hp : 0 ≤ p ∧ p ≤ 255) (K : Nat) (hK : 5 ≤ K) : sum_Pseudo.f K s t p n = some (ph s t p n) := by
  have e : ([p32 s, p32 t, ([0, p] : List Int), p16 n] : List (List Int)).flatten = ph s t p n := by simp [ph]
  unfold sum_Pseudo.f
  rw [show word_Put32.f s = some (p32 s) from rfl, show word_Put32.f t = some (p32 t) from rfl, put16_is, Int.emod_eq_of_lt (a := p) (by omega) (by omega)]
  simp only [ob]
  rw [join_is _ K (by simp) (by simp; omega) (by rw [e, ph_len]; omega), e]
  simp only [ob]

theorem rpseudo_is (s t p n : Int) (hp : 0 ≤ p ∧ p ≤ 255) : castellanref2_Pseudo.f s t p n = some (ph s t p n) := by
  unfold castellanref2_Pseudo.f
  rw [show castellanref1_Put32.f s = some (p32 s) from rfl, show castellanref1_Put32.f t = some (p32 t) from rfl, show castellanref1_Put16.f n = some (p16 n) from rfl, Int.emod_eq_of_lt (a := p) (by omega) (by omega)]
  simp only [ob]
  rw [if_pos (by simp [p32]), if_pos (by simp [p32]), if_pos (by simp [p32, p16])]
  rfl

/-- a datagram as it is built, ahead of its checksum -/
def ud (s t : Int) (d : List Int) : List Int := p16 s ++ (p16 t ++ (p16 (8 + d.length) ++ ([0, 0] ++ d)))
theorem ud_len (s t : Int) (d : List Int) : (ud s t d).length = 8 + d.length := by simp [ud, p16]; omega
theorem ud_byt (s t : Int) {d : List Int} (hd : Byt d) : Byt (ud s t d) :=
  byt_append (byt_p16 s) (byt_append (byt_p16 t) (byt_append (byt_p16 _) (byt_append (byt_cons (by omega) (byt_cons (by omega) byt_nil)) hd)))
/-- its checksum -/
def uc (a b s t : Int) (d : List Int) : Int := if ck (ph a b 17 (8 + d.length) ++ ud s t d) = 0 then 65535 else ck (ph a b 17 (8 + d.length) ++ ud s t d)
def uds (a b s t : Int) (d : List Int) : List Int := ((ud s t d).set 6 (uc a b s t d / 256 % 256)).set 7 (uc a b s t d % 256)
theorem uc_range (a b s t : Int) (d : List Int) : 1 ≤ uc a b s t d ∧ uc a b s t d ≤ 65535 := by
  unfold uc
  have := ck_range (ph a b 17 (8 + d.length) ++ ud s t d)
  split <;> omega
theorem uds_len (a b s t : Int) (d : List Int) : (uds a b s t d).length = 8 + d.length := by unfold uds; rw [List.length_set, List.length_set, ud_len]
theorem uds_byt (a b s t : Int) {d : List Int} (hd : Byt d) : Byt (uds a b s t d) :=
  byt_set (byt_set (ud_byt s t hd) _ (by omega)) _ (by omega)
theorem udbuild_is (a b s t : Int) (d : List Int) (hs : 0 ≤ s ∧ s ≤ 65535) (ht : 0 ≤ t ∧ t ≤ 65535) (hd : Byt d) (hl : d.length ≤ 65000) (K : Nat) (hK : KO ≤ K) : udp_Build.f (K + 1) a b s t d = some (uds a b s t d, 0) := by
  have hKO : 7 ≤ KO := by unfold KO; omega
  have e : ([p16 s, p16 t, p16 (8 + d.length), ([0, 0] : List Int), d] : List (List Int)).flatten = ud s t d := by simp [ud]
  have hn := ud_len s t d
  unfold udp_Build.f
  rw [if_neg (by omega), if_neg (by omega), if_neg (by omega), if_neg (by omega), decide_eq_false (by omega)]
  simp only [udp_Build.j0]
  rw [if_neg (by decide), w64 (n := 8 + (d.length : Int)) (by omega) (by omega), put16_is, put16_is, put16_is]
  simp only [ob]
  rw [join_is _ K (by simp) (by simp; omega) (by rw [e, ud_len]; omega), e]
  simp only [ob]
  rw [hn, show ((8 + d.length : Nat) : Int) = 8 + (d.length : Int) by omega, pseudo_is a b 17 _ (by omega) K (by omega)]
  simp only [ob]
  rw [of2_is _ _ (ph_byt a b _ (by omega)) (ud_byt s t hd) (by rw [ph_len, ud_len]; omega) K hK]
  simp only [ob]
  unfold uds uc
  by_cases c : ck (ph a b 17 (8 + d.length) ++ ud s t d) = 0
  · rw [if_pos c, if_pos c, put16_is]
    simp only [ob]
    rw [if_pos (by simp [p16]), if_pos (by omega), if_pos (by simp [p16]), if_pos (by omega)]
    rfl
  · rw [if_neg c, if_neg c, put16_is]
    simp only [ob]
    rw [if_pos (by simp [p16]), if_pos (by omega), if_pos (by simp [p16]), if_pos (by omega)]
    rfl
theorem udbuild_no (a b s t : Int) (d : List Int) (h : s < 0 ∨ s > 65535 ∨ t < 0 ∨ t > 65535 ∨ (d.length : Int) > 65000) (K : Nat) : udp_Build.f (K + 1) a b s t d = some (([] : List Int), 1) := by
  have htr : udp_Build.j0 (K + 1) a b true s t d = some (([] : List Int), 1) := by simp only [udp_Build.j0]; rfl
  unfold udp_Build.f
  by_cases c1 : s < 0
  · rw [if_pos c1]; exact htr
  rw [if_neg c1]
  by_cases c2 : s > 65535
  · rw [if_pos c2]; exact htr
  rw [if_neg c2]
  by_cases c3 : t < 0
  · rw [if_pos c3]; exact htr
  rw [if_neg c3]
  by_cases c4 : t > 65535
  · rw [if_pos c4]; exact htr
  rw [if_neg c4, decide_eq_true (by omega)]; exact htr

/-- what is read behind a datagram that was built, whatever follows it -/
theorem udparse_back (a b s t : Int) (d m : List Int) (hs : 0 ≤ s ∧ s ≤ 65535) (ht : 0 ≤ t ∧ t ≤ 65535) (hd : Byt d) (hm : Byt m) (hl : d.length ≤ 65000) (hl2 : m.length ≤ 65000) : udp_Parse.f (uds a b s t d ++ m) = some (s, t, d, 0) := by
  generalize hR : uds a b s t d = R
  have hRb : Byt R := by rw [← hR]; exact uds_byt a b s t hd
  have hRl : R.length = 8 + d.length := by rw [← hR]; exact uds_len a b s t d
  have e0 : atz R 0 = (s / 256) % 256 := by rw [← hR]; rfl
  have e1 : atz R 1 = s % 256 := by rw [← hR]; rfl
  have e2 : atz R 2 = (t / 256) % 256 := by rw [← hR]; rfl
  have e3 : atz R 3 = t % 256 := by rw [← hR]; rfl
  have e4 : atz R 4 = ((8 + d.length : Int) / 256) % 256 := by rw [← hR]; rfl
  have e5 : atz R 5 = (8 + d.length : Int) % 256 := by rw [← hR]; rfl
  have rdp : R.drop 8 = d := by rw [← hR]; rfl
  have hX : Byt (R ++ m) := byt_append hRb hm
  have hXl : (R ++ m).length = 8 + d.length + m.length := by rw [List.length_append, hRl]
  have g (i : Int) (h : i < 8) : atz (R ++ m) i = atz R i := atz_append_left R m (by omega)
  have g0 : g16 (R ++ m) 0 = s := by unfold g16; rw [show (0 : Int) + 1 = 1 from rfl, g 0 (by omega), g 1 (by omega), e0, e1]; omega
  have g2 : g16 (R ++ m) 2 = t := by unfold g16; rw [show (2 : Int) + 1 = 3 from rfl, g 2 (by omega), g 3 (by omega), e2, e3]; omega
  have g4 : g16 (R ++ m) 4 = 8 + d.length := by unfold g16; rw [show (4 : Int) + 1 = 5 from rfl, g 4 (by omega), g 5 (by omega), e4, e5]; omega
  unfold udp_Parse.f
  rw [get16_is _ 4 hX (by omega) (by omega) (by omega), g4]
  simp only [ob]
  rw [if_neg (by omega), if_neg (by omega), if_neg (by omega), get16_is _ 0 hX (by omega) (by omega) (by omega), g0]
  simp only [ob]
  rw [get16_is _ 2 hX (by omega) (by omega) (by omega), g2]
  simp only [ob]
  rw [if_pos (by omega), if_pos (by omega), show (8 + (d.length : Int)).toNat = R.length by omega, List.take_left, rdp, clone_is d (by omega)]
  simp only [ob]
theorem udknown (K : Nat) (hK : KO ≤ K) : castellanlaw6_known.f (K + 1) = some true := by
  have h := udparse_back 1 2 7 9 [] [] (by omega) (by omega) byt_nil byt_nil (by simp) (by simp)
  rw [List.append_nil] at h
  unfold castellanlaw6_known.f
  rw [udbuild_is 1 2 7 9 [] (by omega) (by omega) byt_nil (by simp) K hK]
  simp only [ob]
  rw [h]
  simp only [ob]
  rw [if_pos True.intro, if_pos (by rw [uds_len]; rfl), if_pos True.intro]
  rfl

/-- what a datagram is read as -/
def up (l : List Int) : Int × Int × List Int × Int := if (l.length : Int) < 8 then (0, 0, ([] : List Int), 3) else if g16 l 4 < 8 then (0, 0, ([] : List Int), 2) else if g16 l 4 > (l.length : Int) then (0, 0, ([] : List Int), 3) else (g16 l 0, g16 l 2, (l.take (g16 l 4).toNat).drop 8, 0)
theorem udparse_is (l : List Int) (hb : Byt l) (hl : l.length ≤ 1048576) : udp_Parse.f l = some (up l) := by
  have hg := g16_lt hb 4
  unfold udp_Parse.f up
  rw [get16_is l 4 hb (by omega) (by omega) (by omega), ob]
  by_cases c1 : (l.length : Int) < 8
  · rw [if_pos c1, if_pos c1]
  rw [if_neg c1, if_neg c1]
  by_cases c2 : g16 l 4 < 8
  · rw [if_pos c2, if_pos c2]
  rw [if_neg c2, if_neg c2]
  by_cases c3 : g16 l 4 > (l.length : Int)
  · rw [if_pos c3, if_pos c3]
  rw [if_neg c3, if_neg c3, get16_is l 0 hb (by omega) (by omega) (by omega), ob, get16_is l 2 hb (by omega) (by omega) (by omega), ob, if_pos (by omega), if_pos (by omega), clone_is _ (by rw [List.length_drop, List.length_take]; omega), ob]

theorem rudbuild_is (a b s t : Int) (d : List Int) (hs : 0 ≤ s ∧ s ≤ 65535) (ht : 0 ≤ t ∧ t ≤ 65535) (hd : Byt d) (hl : d.length ≤ 65000) (K : Nat) (hK : KO ≤ K) : castellanref6_Build.f (K + 1) a b s t d = some (uds a b s t d, 0) := by
  have e : p16 s ++ p16 t ++ p16 (8 + (d.length : Int)) ++ [0, 0] ++ d = ud s t d := by unfold ud; simp [List.append_assoc]
  have hn := ud_len s t d
  have q (n : Int) : castellanref1_Put16.f n = some (p16 n) := rfl
  have l16 (n : Int) : (p16 n).length = 2 := rfl
  unfold castellanref6_Build.f
  rw [if_neg (by omega), if_neg (by omega), if_neg (by omega), if_neg (by omega), decide_eq_false (by omega)]
  simp only [castellanref6_Build.j0]
  rw [if_neg (by decide), w64 (n := 8 + (d.length : Int)) (by omega) (by omega)]
  simp only [q, ob]
  rw [if_pos (by simp [l16]), if_pos (by simp [l16]), if_pos (by simp [l16]), if_pos (by simp [l16]; omega), e, hn, show ((8 + d.length : Nat) : Int) = 8 + (d.length : Int) by omega, rpseudo_is a b 17 _ (by omega)]
  simp only [ob]
  rw [if_pos (by rw [ph_len]; omega), rof_is _ (byt_append (ph_byt a b _ (by omega)) (ud_byt s t hd)) (by rw [List.length_append, ph_len, ud_len]; omega) K hK]
  simp only [ob]
  unfold uds uc
  by_cases c : ck (ph a b 17 (8 + d.length) ++ ud s t d) = 0
  · rw [if_pos c, if_pos c, if_pos (by simp [l16]), if_pos (by simp [l16]), if_pos (by omega), if_pos (by omega)]
    rfl
  · rw [if_neg c, if_neg c, if_pos (by simp [l16]), if_pos (by simp [l16]), if_pos (by omega), if_pos (by omega)]
    rfl
theorem rudbuild_no (a b s t : Int) (d : List Int) (h : s < 0 ∨ s > 65535 ∨ t < 0 ∨ t > 65535 ∨ (d.length : Int) > 65000) (K : Nat) : castellanref6_Build.f (K + 1) a b s t d = some (([] : List Int), 1) := by
  have htr : castellanref6_Build.j0 (K + 1) a b true s t d = some (([] : List Int), 1) := by simp only [castellanref6_Build.j0]; rfl
  unfold castellanref6_Build.f
  by_cases c1 : s < 0
  · rw [if_pos c1]; exact htr
  rw [if_neg c1]
  by_cases c2 : s > 65535
  · rw [if_pos c2]; exact htr
  rw [if_neg c2]
  by_cases c3 : t < 0
  · rw [if_pos c3]; exact htr
  rw [if_neg c3]
  by_cases c4 : t > 65535
  · rw [if_pos c4]; exact htr
  rw [if_neg c4, decide_eq_true (by omega)]; exact htr
theorem rudparse_is (l : List Int) (hb : Byt l) (hl : l.length ≤ 1048576) : castellanref6_Parse.f l = some (up l) := by
  have hg := g16_lt hb 4
  unfold castellanref6_Parse.f up
  rw [rget16_is l 4 hb (by omega) (by omega), ob]
  by_cases c1 : (l.length : Int) < 8
  · rw [if_pos c1, if_pos c1]
  rw [if_neg c1, if_neg c1]
  by_cases c2 : g16 l 4 < 8
  · rw [if_pos c2, if_pos c2]
  rw [if_neg c2, if_neg c2]
  by_cases c3 : g16 l 4 > (l.length : Int)
  · rw [if_pos c3, if_pos c3]
  rw [if_neg c3, if_neg c3, rget16_is l 0 hb (by omega) (by omega), ob, rget16_is l 2 hb (by omega) (by omega), ob, ob, if_pos (by omega), if_pos (by omega), if_pos (by rw [List.length_drop, List.length_take]; simp; omega), List.nil_append]

theorem UdpTells : castellanlaw6_UdpTells.Pure := by
  intro l a b s t d s2 t2 d2 h1 h2 hl ha hb hs ht h3 h4 hd hs2 ht2 h5 h6 hd2
  have hl := byt_of hl
  have hd := byt_of hd
  obtain ⟨K, hK⟩ : ∃ K : Nat, KO = K := ⟨_, rfl⟩
  refine ⟨K + 2, ?_⟩
  have hkn : castellanlaw6_known.f (K + 1) = some true := udknown K (by omega)
  have htr : castellanlaw6_UdpTells.j0 (K + 2) l a b true s t d s2 t2 d2 = some true := by simp only [castellanlaw6_UdpTells.j0]; rfl
  unfold castellanlaw6_UdpTells.f
  by_cases c1 : (l.length : Int) > 2000
  · rw [if_pos c1]; exact htr
  rw [if_neg c1]
  by_cases c2 : (d.length : Int) > 1500
  · rw [if_pos c2]; exact htr
  rw [if_neg c2]
  by_cases c3 : (d2.length : Int) > 1500
  · rw [decide_eq_true c3]; exact htr
  rw [decide_eq_false c3]
  clear htr
  have hbu : ∃ R e, udp_Build.f (K + 1) a b s t d = some (R, e) ∧ castellanref6_Build.f (K + 1) a b s t d = some (R, e) := by
    by_cases c4 : s < 0 ∨ s > 65535 ∨ t < 0 ∨ t > 65535 ∨ (d.length : Int) > 65000
    · exact ⟨_, _, udbuild_no a b s t d c4 K, rudbuild_no a b s t d c4 K⟩
    · exact ⟨_, _, udbuild_is a b s t d (by omega) (by omega) hd (by omega) K (by omega), rudbuild_is a b s t d (by omega) (by omega) hd (by omega) K (by omega)⟩
  obtain ⟨R, e, hb1, hb2⟩ := hbu
  have hs0 (p q : Int) (z : List Int) : castellanref6_Same.f p q z p q z = some true := by
    unfold castellanref6_Same.f
    rw [if_pos rfl, if_pos rfl, beq_self_eq_true]
  have hs1 : ∃ q, castellanref6_Same.f s t d s2 t2 d2 = some q ∧ udp_Same.f s t d s2 t2 d2 = some q := by
    have e1 : udp_Same.f s t d s2 t2 d2 = castellanref6_Same.f s t d s2 t2 d2 := by
      unfold udp_Same.f castellanref6_Same.f bytes_Equal.f
      simp only [ob]
    rw [e1]
    have : ∃ q, castellanref6_Same.f s t d s2 t2 d2 = some q := by
      unfold castellanref6_Same.f
      split
      · split <;> exact ⟨_, rfl⟩
      · exact ⟨_, rfl⟩
    obtain ⟨q, hq⟩ := this
    exact ⟨q, hq, hq⟩
  obtain ⟨q, hq1, hq2⟩ := hs1
  simp only [castellanlaw6_UdpTells.j0]
  rw [if_neg (by decide), udparse_is l hl (by omega), ob, rudparse_is l hl (by omega), ob, hb1, ob, hb2, ob, hs0, ob, if_pos rfl, if_pos rfl, if_pos rfl, if_pos rfl, hq2, ob, hq1, ob, if_pos (beq_self_eq_true q), hkn]
  rfl

end Go.Proofs.Ytbpnienknijogaa.Pure
