/- Build, Same and Reset agree with the specification for all segments. No condition besides the law's own guard. -/
import Derived.Test.YtbenimfjhcbplaaQTcpBuildsx7
import Derived.Test.YtbenimfjhcbplaaBase
namespace Go.Proofs.Ytbenimfjhcbplaa.Pure
open Go.RowKit Go.Proofs.Ytbenimfjhcbplaa.QTcpBuilds Go.Proofs.YtbenimfjhcbplaaW.PrintWords Go.Proofs.YtbenimfjhcbplaaW.PrintLast Go.Proofs.YtbenimfjhcbplaaW.PrintMore Go.Proofs.Ytbenimfjhcbplaa.Base
open Go
set_option linter.unusedVariables false
set_option linter.unusedSimpArgs false

theorem put16_is (n : Int) : word_Put16.f n = some (p16 n) := rfl

theorem rput16_is (n : Int) : castellanref1_Put16.f n = some (p16 n) := rfl

theorem concat_go (L : List (List Int)) (hL : L.length < 4611686018427387904) : ∀ (d k : Nat) (x : List Int) (i : Nat), L.length = i + d → d < k → x.length + ((L.drop i).flatten).length < 140737488355328 → slices_Concat_byte_byte.l0 k x L (L.length : Int) (i : Int) = some (x ++ (L.drop i).flatten)
  | _, 0, _, _, _, hk, _ => absurd hk (by omega)
  | d, k + 1, x, i, hd, hk, hx => by
    simp only [slices_Concat_byte_byte.l0]
    by_cases c : (i : Int) < (L.length : Int)
    · have e : L.drop i = L.getD i [] :: L.drop (i + 1) := drop_cons_getD_L (by omega)
      have er : rd_L2 L (i : Int) = L.getD i [] := by unfold rd_L2; rw [show ((i : Int)).toNat = i by omega]
      rw [e, List.flatten_cons, List.length_append] at hx
      rw [if_pos c, if_pos (by omega), if_pos c, er, if_pos (by omega), w64 (n := (i : Int) + 1) (by omega) (by omega), show ((i : Int) + 1) = ((i + 1 : Nat) : Int) by omega]
      cases d with
      | zero => omega
      | succ d =>
        rw [concat_go L hL d k _ (i + 1) (by omega) (by omega) (by rw [List.length_append]; omega), e, List.flatten_cons, List.append_assoc]
    · rw [if_neg c, List.drop_of_length_le (by omega)]; simp
theorem join_is (L : List (List Int)) (k : Nat) (hL : L.length < 4611686018427387904) (hk : L.length < k) (h : L.flatten.length < 140737488355328) : word_Join.f k L = some L.flatten := by
  unfold word_Join.f slices_Concat_byte_byte.f
  have h0 := concat_go L hL L.length k [] 0 (by omega) hk (by simpa using h)
  rw [List.drop_zero, List.nil_append] at h0
  rw [show ((0 : Nat) : Int) = 0 from rfl] at h0
  rw [h0, ob]

theorem folded_is : ∀ (d k : Nat) (n : Int), 0 ≤ n → n ≤ 65535 * (d + 1) → n < 4611686018427387904 → d < k → sum_folded.l0 k n = some (fo n)
  | d, 0, _, _, _, _, hk => absurd hk (by omega)
  | d, k + 1, n, h0, h1, h2, hk => by
    simp only [sum_folded.l0]
    by_cases c : n > 65535
    · rw [if_pos c, and_u64_65535, wrap_u64, Int.emod_eq_of_lt (by omega) (by omega)]
      cases d with
      | zero => omega
      | succ d => rw [folded_is d k _ (by omega) (by omega) (by omega) (by omega), fo_step (by omega)]
    · rw [if_neg c, fo_small h0 (by omega)]
theorem foldedf_is (d k : Nat) (n : Int) (h0 : 0 ≤ n) (h1 : n ≤ 65535 * (d + 1)) (h2 : n < 4611686018427387904) (hk : d < k) : sum_folded.f k n = some (fo n) := folded_is d k n h0 h1 h2 hk

theorem of_l1 (rows : List (List Int)) (n x11 : Int) (row : List Int) (hb : Byt row) (hl : row.length ≤ 1099511627776) : ∀ (d k i : Nat) (acc : Int) (low : Bool), i + d = row.length → 0 ≤ acc → acc + 65280 * d < 4611686018427387904 →
    sum_Of.l1 (k + d + 1) acc low rows n x11 row (row.length : Int) (i : Int) = sum_Of.l0 k (acc + sp low (row.drop i)) (low ^^ odd d) rows n (wrap64 (x11 + 1))
  | 0, k, i, acc, low, hi, h0, h1 => by
    simp only [sum_Of.l1]
    rw [if_neg (by omega), List.drop_eq_nil_of_le (by omega)]
    simp [sp, odd]
  | d + 1, k, i, acc, low, hi, h0, h1 => by
    have hlt : i < row.length := by omega
    have b := getD_byt hb i
    have e : k + (d + 1) + 1 = (k + d + 1) + 1 := by omega
    rw [e, sum_Of.l1]
    rw [if_pos (by omega), if_pos (by omega), if_pos (by omega)]
    have er : rd row (i : Int) = row.getD i 0 := by unfold rd; simp
    have ew : wrap64 ((i : Int) + 1) = ((i + 1 : Nat) : Int) := by rw [w64 (by omega) (by omega)]; omega
    rw [er, ew, drop_cons_getD hlt]
    cases low with
    | true =>
      rw [if_pos rfl, wrap_u64, wrap_u64, Int.emod_eq_of_lt (a := row.getD i 0) (by omega) (by omega), Int.emod_eq_of_lt (a := acc + row.getD i 0) (by omega) (by omega), of_l1 rows n x11 row hb hl d k (i + 1) _ _ (by omega) (by omega) (by omega)]
      rw [odd_succ, sp, Int.add_assoc]; simp
    | false =>
      rw [if_neg (by decide), wrap_u64, wrap_u64, wrap_u64, Int.emod_eq_of_lt (a := row.getD i 0) (by omega) (by omega), Int.emod_eq_of_lt (a := row.getD i 0 * 256) (by omega) (by omega), Int.emod_eq_of_lt (a := acc + row.getD i 0 * 256) (by omega) (by omega), of_l1 rows n x11 row hb hl d k (i + 1) _ _ (by omega) (by omega) (by omega)]
      rw [odd_succ, sp, Int.add_assoc]; simp
theorem of_l0 (rows : List (List Int)) (hb : BytL rows) (hl : rows.flatten.length ≤ 1048576) (hn : rows.length ≤ 1048576) : ∀ (m k j : Nat) (acc : Int) (low : Bool), j + m = rows.length → 0 ≤ acc → acc + 65280 * (rows.drop j).flatten.length ≤ 68451041280 →
    2 * m + (rows.drop j).flatten.length + 1048576 < k → sum_Of.l0 k acc low rows (rows.length : Int) (j : Int) = some (65535 - fo (acc + sp low (rows.drop j).flatten))
  | 0, 0, _, _, _, _, _, _, hk => absurd hk (by omega)
  | 0, k + 1, j, acc, low, hj, h0, h1, hk => by
    simp only [sum_Of.l0]
    rw [if_neg (by omega), List.drop_eq_nil_of_le (by omega)]
    have ha : acc ≤ 68451041280 := by have : (0 : Int) ≤ (rows.drop j).flatten.length := by omega
                                      omega
    rw [foldedf_is 1048575 k acc h0 (by omega) (by omega) (by omega)]
    have := fo_range acc
    simp only [Option.bind_some, List.flatten_nil, sp, Int.add_zero]
    rw [wrap_u64, Int.emod_eq_of_lt (by omega) (by omega), w64 (by omega) (by omega)]
  | m + 1, k, j, acc, low, hj, h0, h1, hk => by
    have hlt : j < rows.length := by omega
    have ed : rows.drop j = rows.getD j [] :: rows.drop (j + 1) := drop_cons_getD_L hlt
    have hbr : Byt (rows.getD j []) := hb _ (by rw [List.getD_eq_getElem?_getD, List.getElem?_eq_getElem hlt]; exact List.getElem_mem hlt)
    have hlr : (rows.getD j []).length + (rows.drop (j + 1)).flatten.length = (rows.drop j).flatten.length := by rw [ed]; simp
    have hll : (rows.drop j).flatten.length ≤ rows.flatten.length := by
      have := congrArg (fun z => z.flatten.length) (List.take_append_drop j rows)
      simp only [List.flatten_append, List.length_append] at this
      omega
    obtain ⟨k', rfl⟩ : ∃ z, k = (z + (rows.getD j []).length + 1) + 1 := ⟨k - (rows.getD j []).length - 2, by omega⟩
    simp only [sum_Of.l0]
    have er : rd_L2 rows (j : Int) = rows.getD j [] := by unfold rd_L2; simp
    have ew : wrap64 ((j : Int) + 1) = ((j + 1 : Nat) : Int) := by rw [w64 (by omega) (by omega)]; omega
    have hs0 := sp_nonneg low hbr
    have hs1 := sp_le low hbr
    rw [if_pos (by omega), if_pos (by omega), if_pos (by omega), er]
    have h2 := of_l1 rows (rows.length : Int) (j : Int) (rows.getD j []) hbr (by omega) (rows.getD j []).length k' 0 acc low (by omega) h0 (by omega)
    rw [List.drop_zero] at h2
    refine h2.trans ?_
    rw [ew, of_l0 rows hb hl hn m k' (j + 1) _ _ (by omega) (by omega) (by omega) (by omega)]
    rw [ed, List.flatten_cons, sp_append, Int.add_assoc]
/-- more than enough rounds -/
def KO : Nat := 5000000
theorem of_is (rows : List (List Int)) (hb : BytL rows) (hl : rows.flatten.length ≤ 1048576) (hn : rows.length ≤ 1048576) (k : Nat) (hk : KO ≤ k) : sum_Of.f k rows = some (ck rows.flatten) := by
  unfold KO at hk
  unfold sum_Of.f
  have h := of_l0 rows hb hl hn rows.length k 0 0 false (by omega) (by omega) (by rw [List.drop_zero]; omega) (by rw [List.drop_zero]; omega)
  rw [List.drop_zero, Int.zero_add, sp_false] at h
  exact h
theorem of1_is (l : List Int) (hb : Byt l) (hl : l.length ≤ 1048576) (k : Nat) (hk : KO ≤ k) : sum_Of.f k [l] = some (ck l) := by
  rw [of_is [l] (fun x hx => by simp at hx; subst hx; exact hb) (by simpa using hl) (by simp) k hk]; simp
theorem of2_is (a b : List Int) (ha : Byt a) (hb : Byt b) (hl : a.length + b.length ≤ 1048576) (k : Nat) (hk : KO ≤ k) : sum_Of.f k [a, b] = some (ck (a ++ b)) := by
  rw [of_is [a, b] (fun x hx => by simp at hx; rcases hx with rfl | rfl <;> assumption) (by simpa using hl) (by simp) k hk]; simp

theorem rat_is (l : List Int) (i : Int) (hb : Byt l) : castellanref1_at.f l i = some (atz l i) := by
  unfold castellanref1_at.f
  by_cases c1 : i < 0
  · rw [if_pos c1, atz_neg l c1]
  · rw [if_neg c1]
    by_cases c2 : i ≥ (l.length : Int)
    · rw [if_pos c2, atz_ge l c2]
    · rw [if_neg c2, if_pos (by omega), if_pos (by omega)]
      have b := getD_byt hb i.toNat
      unfold rd atz; rw [if_pos (by omega), Int.emod_eq_of_lt (by omega) (by omega)]

theorem rget16_is (l : List Int) (i : Int) (hb : Byt l) (h0 : -9223372036854775808 ≤ i) (h1 : i ≤ 2199023255552) : castellanref1_Get16.f l i = some (g16 l i) := by
  unfold castellanref1_Get16.f
  rw [w64 (n := i + 1) (by omega) (by omega), rat_is l i hb, rat_is l (i + 1) hb]
  simp only [Option.bind_some]
  have b0 := atz_byt hb i
  have b1 := atz_byt hb (i + 1)
  rw [Int.emod_eq_of_lt (a := atz l i * 256) (by omega) (by omega), or_u32_8 _ _ (by omega) (by omega) (by omega) (by omega), w64 (by omega) (by omega)]
  rfl

theorem rfold_is : ∀ (d k : Nat) (n : Int), 0 ≤ n → n ≤ 65535 * (d + 1) → n < 4611686018427387904 → d < k → castellanref2_fold.l0 k n = some (fo n)
  | d, 0, _, _, _, _, hk => absurd hk (by omega)
  | d, k + 1, n, h0, h1, h2, hk => by
    simp only [castellanref2_fold.l0]
    by_cases c : n > 65535
    · rw [if_pos c, and_i64_65535, w64 (by omega) (by omega)]
      cases d with
      | zero => omega
      | succ d => rw [rfold_is d k _ (by omega) (by omega) (by omega) (by omega), Int.add_comm, fo_step (by omega)]
    · rw [if_neg c, fo_small h0 (by omega)]
theorem rfoldf_is (d k : Nat) (n : Int) (h0 : 0 ≤ n) (h1 : n ≤ 65535 * (d + 1)) (h2 : n < 4611686018427387904) (hk : d < k) : castellanref2_fold.f k n = some (fo n) := rfold_is d k n h0 h1 h2 hk

theorem sm_drop (l : List Int) (i : Nat) (h : i < l.length) : sm (l.drop i) = g16 l i + sm (l.drop (i + 2)) := by
  rw [drop_cons_getD h]
  unfold g16 atz
  rw [if_pos (by omega), if_pos (by omega), show ((i : Int)).toNat = i by omega, show ((i : Int) + 1).toNat = i + 1 by omega]
  rcases Nat.lt_or_ge (i + 1) l.length with h1 | h1
  · rw [drop_cons_getD h1]; simp only [sm]
  · rw [List.drop_eq_nil_of_le h1, List.drop_eq_nil_of_le (show l.length ≤ i + 2 by omega)]
    simp [sm, List.getD_eq_getElem?_getD, List.getElem?_eq_none h1]
theorem rof_l0 (l : List Int) (hb : Byt l) (hl : l.length ≤ 1048576) : ∀ (d k i : Nat) (n : Int), l.length ≤ i + d → 0 ≤ n → n ≤ 65535 → i ≤ l.length + 1 → d + 10 < k → castellanref2_Of.l0 k l n (i : Int) = some (65535 - fo (n + sm (l.drop i)))
  | d, 0, _, _, _, _, _, _, hk => absurd hk (by omega)
  | d, k + 1, i, n, hi, h0, h1, h2, hk => by
    simp only [castellanref2_Of.l0]
    by_cases c : (i : Int) < l.length
    · have hg := g16_lt hb (i : Int)
      rw [if_pos c, rget16_is l i hb (by omega) (by omega)]
      simp only [Option.bind_some]
      rw [w64 (n := n + g16 l i) (by omega) (by omega), rfoldf_is 3 k _ (by omega) (by omega) (by omega) (by omega)]
      simp only [Option.bind_some]
      have hr := fo_range (n + g16 l i)
      have ew : wrap64 ((i : Int) + 2) = ((i + 2 : Nat) : Int) := by rw [w64 (by omega) (by omega)]; omega
      cases d with
      | zero => omega
      | succ d =>
        have hs := sm_nonneg (byt_drop hb (i + 2))
        rw [ew, rof_l0 l hb hl d k (i + 2) _ (by omega) (by omega) (by omega) (by omega) (by omega), fo_add (by omega) hs, sm_drop l i (by omega), Int.add_assoc]
    · rw [if_neg c, List.drop_eq_nil_of_le (by omega)]
      simp only [sm, Int.add_zero]
      rw [fo_small h0 h1, w64 (by omega) (by omega)]
theorem rof_is (l : List Int) (hb : Byt l) (hl : l.length ≤ 1048576) (k : Nat) (hk : KO ≤ k) : castellanref2_Of.f k l = some (ck l) := by
  unfold KO at hk
  unfold castellanref2_Of.f
  have h := rof_l0 l hb hl l.length k 0 0 (by omega) (by omega) (by omega) (by omega) (by omega)
  rw [List.drop_zero, Int.zero_add] at h
  exact h

/-- a pseudo header -/
def ph (s t p n : Int) : List Int := p32 s ++ (p32 t ++ ([0, p] ++ p16 n))
theorem ph_len (s t p n : Int) : (ph s t p n).length = 12 := rfl
theorem ph_byt (s t n : Int) {p : Int} (hp : 0 ≤ p ∧ p ≤ 255) : Byt (ph s t p n) :=
  byt_append (byt_p32 s) (byt_append (byt_p32 t) (byt_append (byt_cons (by omega) (byt_cons (by omega) byt_nil)) (byt_p16 n)))
theorem pseudo_is (s t p n : Int) (hp : 0 ≤ p ∧ p ≤ 255) (K : Nat) (hK : 5 ≤ K) : sum_Pseudo.f K s t p n = some (ph s t p n) := by
  have e : ([p32 s, p32 t, ([0, p] : List Int), p16 n] : List (List Int)).flatten = ph s t p n := by simp [ph]
  unfold sum_Pseudo.f
  rw [show word_Put32.f s = some (p32 s) from rfl, show word_Put32.f t = some (p32 t) from rfl, put16_is, Int.emod_eq_of_lt (a := p) (by omega) (by omega)]
  simp only [ob]
  rw [join_is _ K (by simp) (by simp; omega) (by rw [e, ph_len]; omega), e]
  simp only [ob]

theorem rpseudo_is (s t p n : Int) (hp : 0 ≤ p ∧ p ≤ 255) : castellanref2_Pseudo.f s t p n = some (ph s t p n) := by
  unfold castellanref2_Pseudo.f
  rw [show castellanref1_Put32.f s = some (p32 s) from rfl, show castellanref1_Put32.f t = some (p32 t) from rfl, show castellanref1_Put16.f n = some (p16 n) from rfl, Int.emod_eq_of_lt (a := p) (by omega) (by omega)]
  simp only [ob]
  rw [if_pos (by simp [p32]), if_pos (by simp [p32]), if_pos (by simp [p32, p16])]
  rfl

/-- what a reset counts -/
def tk (f n : Int) : Int := if Go.bits .and .i64 f 1 = 0 then (if Go.bits .and .i64 f 2 = 0 then n else (n + 1) % 4294967296) else ((if Go.bits .and .i64 f 2 = 0 then n else (n + 1) % 4294967296) + 1) % 4294967296
theorem treset_no (a b s k f w u : Int) (o d : List Int) (K : Nat) (h : Go.bits .and .i64 f 4 ≠ 0) : tcp_Reset.f K a b s k f w u o d = some (0, 0, 0, 0, 0, 0, 0, ([] : List Int), ([] : List Int), false) := by
  unfold tcp_Reset.f; rw [if_neg h]
theorem treset_ack (a b s k f w u : Int) (o d : List Int) (K : Nat) (h : Go.bits .and .i64 f 4 = 0) (h2 : Go.bits .and .i64 f 16 ≠ 0) : tcp_Reset.f K a b s k f w u o d = some (b, a, k, 0, 4, 0, 0, ([] : List Int), ([] : List Int), true) := by
  unfold tcp_Reset.f; rw [if_pos h, if_neg h2]
theorem treset_cnt (a b s k f w u : Int) (o d : List Int) (K : Nat) (hK : 3 ≤ K) (h : Go.bits .and .i64 f 4 = 0) (h2 : Go.bits .and .i64 f 16 = 0) :
    tcp_Reset.f K a b s k f w u o d = some (b, a, 0, tk f ((s + (d.length : Int)) % 4294967296), 20, 0, 0, ([] : List Int), ([] : List Int), true) := by
  obtain ⟨j, rfl⟩ : ∃ j, K = j + 3 := ⟨K - 3, by omega⟩
  unfold tcp_Reset.f
  rw [if_pos h, if_pos h2, ob]
  generalize (s + (d.length : Int)) % 4294967296 = n
  have e0 : wrap64 (0 + 1) = 1 := by unfold wrap64; omega
  have e1 : wrap64 (1 + 1) = 2 := by unfold wrap64; omega
  have r0 : rd ([2, 1] : List Int) 0 = 2 := rfl
  have r1 : rd ([2, 1] : List Int) 1 = 1 := rfl
  have l2 : ((([2, 1] : List Int).length : Nat) : Int) = 2 := rfl
  unfold tk
  simp only [tcp_Reset.l0, e0, e1, r0, r1, l2]
  by_cases c2 : Go.bits .and .i64 f 2 = 0 <;> by_cases c1 : Go.bits .and .i64 f 1 = 0 <;> simp [c1, c2]
theorem tknown (K : Nat) (hK : 3 ≤ K) : castellanlaw5_known.f K = some true := by
  unfold castellanlaw5_known.f
  rw [treset_cnt 1 2 5 0 2 0 0 [] [] K hK rfl rfl, ob]
  rfl

/-- a segment as it is built, ahead of its checksum -/
def th (s t q k f w u : Int) (o d : List Int) : List Int := p16 s ++ (p16 t ++ (p32 q ++ (p32 k ++ ([(20 + (o.length : Int)) / 4 * 16, f] ++ (p16 w ++ ([0, 0] ++ (p16 u ++ (o ++ d))))))))
def tc (a b s t q k f w u : Int) (o d : List Int) : Int := ck (ph a b 6 (20 + (o.length : Int) + d.length) ++ th s t q k f w u o d)
def ths (a b s t q k f w u : Int) (o d : List Int) : List Int := ((th s t q k f w u o d).set 16 (tc a b s t q k f w u o d / 256 % 256)).set 17 (tc a b s t q k f w u o d % 256)
theorem th_len (s t q k f w u : Int) (o d : List Int) : (th s t q k f w u o d).length = 20 + o.length + d.length := by simp [th, p16, p32]; omega
theorem ths_len (a b s t q k f w u : Int) (o d : List Int) : (ths a b s t q k f w u o d).length = 20 + o.length + d.length := by unfold ths; rw [List.length_set, List.length_set, th_len]
theorem th_byt (s t q k w u : Int) {f : Int} {o d : List Int} (hf : 0 ≤ f ∧ f ≤ 63) (ho : Byt o) (hd : Byt d) (hl : o.length ≤ 40) : Byt (th s t q k f w u o d) :=
  byt_append (byt_p16 s) (byt_append (byt_p16 t) (byt_append (byt_p32 q) (byt_append (byt_p32 k) (byt_append (byt_cons (by omega) (byt_cons (by omega) byt_nil)) (byt_append (byt_p16 w) (byt_append (byt_cons (by omega) (byt_cons (by omega) byt_nil)) (byt_append (byt_p16 u) (byt_append ho hd))))))))
theorem ths_byt (a b s t q k w u : Int) {f : Int} {o d : List Int} (hf : 0 ≤ f ∧ f ≤ 63) (ho : Byt o) (hd : Byt d) (hl : o.length ≤ 40) : Byt (ths a b s t q k f w u o d) :=
  byt_set (byt_set (th_byt s t q k w u hf ho hd hl) _ (by omega)) _ (by omega)
theorem ths_ck (a b s t q k w u : Int) {f : Int} {o d : List Int} (hf : 0 ≤ f ∧ f ≤ 63) (ho : Byt o) (hd : Byt d) (hl : o.length ≤ 40) : ck (ph a b 6 (20 + (o.length : Int) + d.length) ++ ths a b s t q k f w u o d) = 0 := by
  have h1 := sm_nonneg (ph_byt a b (20 + (o.length : Int) + d.length) (p := 6) (by omega))
  have h2 := sm_nonneg (th_byt s t q k w u hf ho hd hl)
  have h := sm_set2 (th s t q k f w u o d) 8 (tc a b s t q k f w u o d / 256 % 256) (tc a b s t q k f w u o d % 256) (by rw [th_len]; omega)
  have e2 : (th s t q k f w u o d).getD (2 * 8) 0 = 0 := rfl
  have e3 : (th s t q k f w u o d).getD (2 * 8 + 1) 0 = 0 := rfl
  rw [e2, e3] at h
  have hr := ck_range (ph a b 6 (20 + (o.length : Int) + d.length) ++ th s t q k f w u o d)
  have e1 : sm (ths a b s t q k f w u o d) = sm (th s t q k f w u o d) + tc a b s t q k f w u o d := by refine Eq.trans h ?_; unfold tc; omega
  have hc : tc a b s t q k f w u o d = 65535 - fo (sm (ph a b 6 (20 + (o.length : Int) + d.length)) + sm (th s t q k f w u o d)) := by
    unfold tc ck; rw [sm_append _ _ (by rw [ph_len])]
  unfold ck
  rw [sm_append _ _ (by rw [ph_len]), e1, ← Int.add_assoc, hc, fo_comp (by omega)]
  rfl
theorem isin_is (a m : Int) : tcp_isIn.f a m = some (decide (0 ≤ a ∧ a ≤ m)) := by
  unfold tcp_isIn.f
  by_cases c : a ≥ 0
  · rw [if_pos c]; congr 1; rw [decide_eq_decide]; omega
  · rw [if_neg c, decide_eq_false (by omega)]
/-- what fits -/
def TcpFit (s t f w u : Int) (o d : List Int) : Prop := (0 ≤ s ∧ s ≤ 65535) ∧ (0 ≤ t ∧ t ≤ 65535) ∧ (0 ≤ w ∧ w ≤ 65535) ∧ (0 ≤ u ∧ u ≤ 65535) ∧ (0 ≤ f ∧ f ≤ 63) ∧ (o.length : Int) % 4 = 0 ∧ o.length ≤ 40 ∧ 20 + o.length + d.length ≤ 65000
theorem tcpbuild_is (a b s t q k f w u : Int) (o d : List Int) (hfit : TcpFit s t f w u o d) (ho : Byt o) (hd : Byt d) (K : Nat) (hK : KO ≤ K) :
    tcp_Build.f (K + 1) a b s t q k f w u o d = some (ths a b s t q k f w u o d, 0) := by
  have hKO : 12 ≤ KO := by unfold KO; omega
  obtain ⟨h1, h2, h3, h4, h5, h6, h7, h8⟩ := hfit
  have hn := th_len s t q k f w u o d
  have e : ([p16 s, p16 t, p32 q, p32 k, [(20 + (o.length : Int)) / 4 * 16, f], p16 w, [0, 0], p16 u, o, d] : List (List Int)).flatten = th s t q k f w u o d := by simp [th]
  have hq : wrap64 (wrap64 (Int.tdiv (20 + (o.length : Int)) 4) * 16) = (20 + (o.length : Int)) / 4 * 16 := by rw [Int.tdiv_eq_ediv_of_nonneg (by omega), w64 (n := (20 + (o.length : Int)) / 4) (by omega) (by omega), w64 (by omega) (by omega)]
  unfold tcp_Build.f
  rw [isin_is, isin_is, isin_is, isin_is, isin_is, decide_eq_true h1, decide_eq_true h2, decide_eq_true h3, decide_eq_true h4, decide_eq_true h5]
  simp only [ob]
  rw [if_pos True.intro, if_pos True.intro, if_pos True.intro, if_pos True.intro, if_pos True.intro, if_pos h6, if_neg (by omega), w64 (n := 20 + (o.length : Int)) (by omega) (by omega), w64 (n := 65000 - (20 + (o.length : Int))) (by omega) (by omega), decide_eq_false (by omega)]
  simp only [tcp_Build.j0]
  rw [if_neg (by decide), hq, Int.emod_eq_of_lt (a := (20 + (o.length : Int)) / 4 * 16) (by omega) (by omega), Int.emod_eq_of_lt (a := f) (by omega) (by omega)]
  simp only [put16_is, show ∀ n, word_Put32.f n = some (p32 n) from fun _ => rfl, ob]
  rw [join_is _ K (by simp) (by simp; omega) (by rw [e, hn]; omega), e]
  simp only [ob]
  rw [hn, show ((20 + o.length + d.length : Nat) : Int) = 20 + (o.length : Int) + d.length by omega, pseudo_is a b 6 _ (by omega) K (by omega)]
  simp only [ob]
  rw [of2_is _ _ (ph_byt a b _ (by omega)) (th_byt s t q k w u h5 ho hd h7) (by rw [ph_len, hn]; omega) K hK]
  simp only [ob]
  rw [if_pos (by simp [p16]), if_pos (by omega), if_pos (by simp [p16]), if_pos (by omega)]
  rfl

theorem half_is (a : Int) : castellanref5_half.f a = some (decide (0 ≤ a ∧ a ≤ 65535)) := by
  unfold castellanref5_half.f
  by_cases c : a ≥ 0
  · rw [if_pos c]; congr 1; rw [decide_eq_decide]; omega
  · rw [if_neg c, decide_eq_false (by omega)]
theorem ref5_is (s t q k f w u : Int) (o d : List Int) (l1 : o.length ≤ 60) (l2 : d.length ≤ 1500) : ∃ z, castellanref5_Is.f s t q k f w u o d = some z ∧ (z = true → TcpFit s t f w u o d) := by
  unfold castellanref5_Is.f TcpFit
  rw [half_is, half_is, half_is, half_is]
  simp only [ob]
  rcases Decidable.em (0 ≤ s ∧ s ≤ 65535) with d0 | d0
  rotate_left
  · rw [decide_eq_false d0, if_neg (by decide)]; exact ⟨false, rfl, (fun h => Bool.noConfusion h)⟩
  rw [decide_eq_true d0, if_pos rfl]
  rcases Decidable.em (0 ≤ t ∧ t ≤ 65535) with d1 | d1
  rotate_left
  · rw [decide_eq_false d1, if_neg (by decide)]; exact ⟨false, rfl, (fun h => Bool.noConfusion h)⟩
  rw [decide_eq_true d1, if_pos rfl]
  rcases Decidable.em (0 ≤ w ∧ w ≤ 65535) with d2 | d2
  rotate_left
  · rw [decide_eq_false d2, if_neg (by decide)]; exact ⟨false, rfl, (fun h => Bool.noConfusion h)⟩
  rw [decide_eq_true d2, if_pos rfl]
  rcases Decidable.em (0 ≤ u ∧ u ≤ 65535) with d3 | d3
  rotate_left
  · rw [decide_eq_false d3, if_neg (by decide)]; exact ⟨false, rfl, (fun h => Bool.noConfusion h)⟩
  rw [decide_eq_true d3, if_pos rfl]
  rcases Decidable.em (f ≥ 0) with c0 | c0
  rotate_left
  · rw [if_neg c0]; exact ⟨false, rfl, (fun h => Bool.noConfusion h)⟩
  rw [if_pos c0]
  rcases Decidable.em (f ≤ 63) with c1 | c1
  rotate_left
  · rw [if_neg c1]; exact ⟨false, rfl, (fun h => Bool.noConfusion h)⟩
  rw [if_pos c1]
  rcases Decidable.em ((o.length : Int) % 4 = 0) with c2 | c2
  rotate_left
  · rw [if_neg c2]; exact ⟨false, rfl, (fun h => Bool.noConfusion h)⟩
  rw [if_pos c2]
  rcases Decidable.em ((o.length : Int) ≤ 40) with c3 | c3
  rotate_left
  · rw [if_neg c3]; exact ⟨false, rfl, (fun h => Bool.noConfusion h)⟩
  rw [if_pos c3]
  refine ⟨_, rfl, fun h => ?_⟩
  rw [decide_eq_true_iff, w64 (n := 20 + (o.length : Int)) (by omega) (by omega), w64 (by omega) (by omega)] at h
  omega
theorem ref5_long (s t q k f w u : Int) (o d : List Int) : ∃ z, castellanlaw5_long.f s t q k f w u o d = some z ∧ (z = false → o.length ≤ 60 ∧ d.length ≤ 1500) := by
  unfold castellanlaw5_long.f
  rcases Decidable.em ((o.length : Int) > 60) with c | c
  · rw [if_pos c]; exact ⟨true, rfl, (fun h => Bool.noConfusion h)⟩
  · rw [if_neg c]; refine ⟨_, rfl, fun h => ?_⟩; rw [decide_eq_false_iff_not] at h; omega

theorem ref5_no (s t q k f w u : Int) (o d : List Int) (l1 : o.length ≤ 60) (l2 : d.length ≤ 1500) (h : castellanref5_Is.f s t q k f w u o d = some false) : ¬ TcpFit s t f w u o d := by
  rintro ⟨h1, h2, h3, h4, h5, h6, h7, h8⟩
  revert h
  unfold castellanref5_Is.f
  rw [half_is, half_is, half_is, half_is, decide_eq_true h1, decide_eq_true h2, decide_eq_true h3, decide_eq_true h4]
  simp only [ob]
  rw [if_pos trivial, if_pos trivial, if_pos trivial, if_pos trivial, if_pos (by omega), if_pos (by omega), if_pos h6, if_pos (by omega), w64 (n := 20 + (o.length : Int)) (by omega) (by omega), w64 (by omega) (by omega), decide_eq_true (by omega)]
  intro h
  exact absurd (Option.some.inj h) (by decide)
theorem rtcpbuild_is (a b s t q k f w u : Int) (o d : List Int) (hfit : TcpFit s t f w u o d) (ho : Byt o) (hd : Byt d) (l2 : d.length ≤ 1500) (K : Nat) (hK : KO ≤ K) :
    castellanref5_Build.f K a b s t q k f w u o d = some (ths a b s t q k f w u o d, 0) := by
  have hfit' := hfit
  obtain ⟨h1, h2, h3, h4, h5, h6, h7, h8⟩ := hfit'
  obtain ⟨z, hz, -⟩ := ref5_is s t q k f w u o d (by omega) l2
  have hn := th_len s t q k f w u o d
  have hq : wrap64 (wrap64 (Int.tdiv (20 + (o.length : Int)) 4) * 16) = (20 + (o.length : Int)) / 4 * 16 := by rw [Int.tdiv_eq_ediv_of_nonneg (by omega), w64 (n := (20 + (o.length : Int)) / 4) (by omega) (by omega), w64 (by omega) (by omega)]
  have e : p16 s ++ p16 t ++ p32 q ++ p32 k ++ [(20 + (o.length : Int)) / 4 * 16, f] ++ p16 w ++ [0, 0] ++ p16 u ++ o ++ d = th s t q k f w u o d := by simp [th]
  unfold castellanref5_Build.f
  rw [hz, ob]
  cases z with
  | false => exact absurd hfit (ref5_no s t q k f w u o d (by omega) l2 hz)
  | true =>
    rw [if_pos rfl, w64 (n := 20 + (o.length : Int)) (by omega) (by omega), hq, Int.emod_eq_of_lt (a := (20 + (o.length : Int)) / 4 * 16) (by omega) (by omega), Int.emod_eq_of_lt (a := f) (by omega) (by omega)]
    simp only [rput16_is, show ∀ n, castellanref1_Put32.f n = some (p32 n) from fun _ => rfl, ob]
    rw [if_pos (by simp [p16]), if_pos (by simp [p16, p32]), if_pos (by simp [p16, p32]), if_pos (by simp [p16, p32]), if_pos (by simp [p16, p32]), if_pos (by simp [p16, p32]), if_pos (by simp [p16, p32]), if_pos (by simp [p16, p32]; omega), if_pos (by simp [p16, p32]; omega), e, hn, show ((20 + o.length + d.length : Nat) : Int) = 20 + (o.length : Int) + d.length by omega, rpseudo_is a b 6 _ (by omega)]
    simp only [ob]
    rw [if_pos (by rw [ph_len]; omega), rof_is _ (byt_append (ph_byt a b _ (by omega)) (th_byt s t q k w u h5 ho hd h7)) (by rw [List.length_append, ph_len, hn]; omega) K hK]
    simp only [ob]
    rw [if_pos (by simp [p16]), if_pos (by simp [p16]), if_pos (by omega), if_pos (by omega)]
    rfl
theorem rtcpbuild_no (a b s t q k f w u : Int) (o d : List Int) (hfit : ¬ TcpFit s t f w u o d) (l1 : o.length ≤ 60) (l2 : d.length ≤ 1500) (K : Nat) :
    castellanref5_Build.f K a b s t q k f w u o d = some (([] : List Int), 1) := by
  obtain ⟨z, hz, hz2⟩ := ref5_is s t q k f w u o d l1 l2
  unfold castellanref5_Build.f
  rw [hz, ob]
  cases z with
  | true => exact absurd (hz2 rfl) hfit
  | false => rw [if_neg (by decide)]
theorem tcpbuild_no (a b s t q k f w u : Int) (o d : List Int) (hfit : ¬ TcpFit s t f w u o d) (l1 : o.length ≤ 60) (l2 : d.length ≤ 1500) (K : Nat) :
    tcp_Build.f (K + 1) a b s t q k f w u o d = some (([] : List Int), 1) := by
  have htr (x : Int) : tcp_Build.j0 (K + 1) a b x true s t q k f w u o d = some (([] : List Int), 1) := by simp only [tcp_Build.j0]; rfl
  unfold tcp_Build.f
  rw [isin_is, isin_is, isin_is, isin_is, isin_is]
  simp only [ob]
  by_cases h1 : 0 ≤ s ∧ s ≤ 65535
  rotate_left
  · rw [decide_eq_false h1, if_neg (by decide)]; exact htr _
  rw [decide_eq_true h1, if_pos rfl]
  by_cases h2 : 0 ≤ t ∧ t ≤ 65535
  rotate_left
  · rw [decide_eq_false h2, if_neg (by decide)]; exact htr _
  rw [decide_eq_true h2, if_pos rfl]
  by_cases h3 : 0 ≤ w ∧ w ≤ 65535
  rotate_left
  · rw [decide_eq_false h3, if_neg (by decide)]; exact htr _
  rw [decide_eq_true h3, if_pos rfl]
  by_cases h4 : 0 ≤ u ∧ u ≤ 65535
  rotate_left
  · rw [decide_eq_false h4, if_neg (by decide)]; exact htr _
  rw [decide_eq_true h4, if_pos rfl]
  by_cases h5 : 0 ≤ f ∧ f ≤ 63
  rotate_left
  · rw [decide_eq_false h5, if_neg (by decide)]; exact htr _
  rw [decide_eq_true h5, if_pos rfl]
  by_cases h6 : (o.length : Int) % 4 = 0
  rotate_left
  · rw [if_neg h6]; exact htr _
  rw [if_pos h6]
  by_cases h7 : (o.length : Int) > 40
  · rw [if_pos h7]; exact htr _
  exact absurd ⟨h1, h2, h3, h4, h5, h6, by omega, by omega⟩ hfit
theorem tcpsame_is (a0 a1 a2 a3 a4 a5 a6 b0 b1 b2 b3 b4 b5 b6 : Int) (ao ad bo bd : List Int) : ∃ z, tcp_Same.f a0 a1 a2 a3 a4 a5 a6 ao ad b0 b1 b2 b3 b4 b5 b6 bo bd = some z ∧ castellanref5_Same.f a0 a1 a2 a3 a4 a5 a6 ao ad b0 b1 b2 b3 b4 b5 b6 bo bd = some z := by
  unfold tcp_Same.f castellanref5_Same.f
  simp only [show ∀ a b, bytes_Equal.f a b = some ((strOfNums a).toList == (strOfNums b).toList) from fun _ _ => rfl, ob]
  by_cases c0 : a0 = b0
  rotate_left
  · rw [if_neg c0, if_neg c0]; exact ⟨_, rfl, rfl⟩
  rw [if_pos c0, if_pos c0]
  by_cases c1 : a1 = b1
  rotate_left
  · rw [if_neg c1, if_neg c1]; exact ⟨_, rfl, rfl⟩
  rw [if_pos c1, if_pos c1]
  by_cases c2 : a2 = b2
  rotate_left
  · rw [if_neg c2, if_neg c2]; exact ⟨_, rfl, rfl⟩
  rw [if_pos c2, if_pos c2]
  by_cases c3 : a3 = b3
  rotate_left
  · rw [if_neg c3, if_neg c3]; exact ⟨_, rfl, rfl⟩
  rw [if_pos c3, if_pos c3]
  by_cases c4 : a4 = b4
  rotate_left
  · rw [if_neg c4, if_neg c4]; exact ⟨_, rfl, rfl⟩
  rw [if_pos c4, if_pos c4]
  by_cases c5 : a5 = b5
  rotate_left
  · rw [if_neg c5, if_neg c5]; exact ⟨_, rfl, rfl⟩
  rw [if_pos c5, if_pos c5]
  by_cases c6 : a6 = b6
  rotate_left
  · rw [if_neg c6, if_neg c6]; exact ⟨_, rfl, rfl⟩
  rw [if_pos c6, if_pos c6]
  by_cases c9 : (strOfNums ao).toList = (strOfNums bo).toList
  · rw [if_pos (beq_iff_eq.mpr c9), if_pos c9]; exact ⟨_, rfl, rfl⟩
  · rw [if_neg (by rw [beq_iff_eq]; exact c9), if_neg c9]; exact ⟨_, rfl, rfl⟩
theorem rtreset_is (a b s k f w u : Int) (o d : List Int) (K : Nat) (hK : 3 ≤ K) : ∃ z, tcp_Reset.f K a b s k f w u o d = some z ∧ castellanref5_Reset.f a b s k f w u o d = some z := by
  by_cases h4 : Go.bits .and .i64 f 4 = 0
  rotate_left
  · refine ⟨_, treset_no a b s k f w u o d K h4, ?_⟩
    unfold castellanref5_Reset.f; rw [if_neg h4]
  by_cases h16 : Go.bits .and .i64 f 16 = 0
  rotate_left
  · refine ⟨_, treset_ack a b s k f w u o d K h4 h16, ?_⟩
    unfold castellanref5_Reset.f; rw [if_pos h4, if_neg h16]
  refine ⟨_, treset_cnt a b s k f w u o d K hK h4 h16, ?_⟩
  unfold castellanref5_Reset.f tk
  rw [if_pos h4, if_pos h16]
  by_cases h2 : Go.bits .and .i64 f 2 = 0
  · by_cases h1 : Go.bits .and .i64 f 1 = 0
    · rw [if_pos h2, if_pos h1, if_pos h1, if_pos h2]
    · rw [if_pos h2, if_neg h1, if_neg h1, if_pos h2]
  · by_cases h1 : Go.bits .and .i64 f 1 = 0
    · rw [if_neg h2, if_pos h1, if_pos h1, if_neg h2]
    · rw [if_neg h2, if_neg h1, if_neg h1, if_neg h2]

theorem TcpBuilds : castellanlaw5_TcpBuilds.Pure := by
  intro a b s t q k f w u o d s' t' q' k' f' w' u' o' d' ha hb hs ht hq hk hf hw hu h1 h2 ho h3 h4 hd gs gt gq gk gf gw gu g1 g2 go' g3 g4 gd
  have ho := byt_of ho
  have hd := byt_of hd
  clear ha hb hs ht hq hk hf hw hu h1 h2 h3 h4 gs gt gq gk gf gw gu g1 g2 go' g3 g4 gd
  obtain ⟨K, hK⟩ : ∃ K : Nat, KO = K := ⟨_, rfl⟩
  have hK5 : 5 ≤ K := by rw [← hK]; unfold KO; omega
  refine ⟨K + 2, ?_⟩
  have hkn := tknown (K + 1) (by omega)
  have htr : castellanlaw5_TcpBuilds.j0 (K + 2) a b true s t q k f w u o d s' t' q' k' f' w' u' o' d' = some true := by simp only [castellanlaw5_TcpBuilds.j0]; rfl
  obtain ⟨y, hy, hy2⟩ := ref5_long s t q k f w u o d
  obtain ⟨y', hy', -⟩ := ref5_long s' t' q' k' f' w' u' o' d'
  unfold castellanlaw5_TcpBuilds.f
  rw [hy, ob]
  cases y with
  | true => rw [if_pos rfl]; exact htr
  | false =>
    obtain ⟨l1, l2⟩ := hy2 rfl
    rw [if_neg (by decide), hy', ob]
    cases y' with
    | true => exact htr
    | false =>
      clear htr
      obtain ⟨z, hz1, hz2⟩ := tcpsame_is s t q k f w u s' t' q' k' f' w' u' o d o' d'
      obtain ⟨r, hr1, hr2⟩ := rtreset_is s t q k f w u o d (K + 1) (by omega)
      have hsame (a b c d e f g : Int) (x y : List Int) : castellanref5_Same.f a b c d e f g x y a b c d e f g x y = some true := by
        unfold castellanref5_Same.f
        rw [if_pos rfl, if_pos rfl, if_pos rfl, if_pos rfl, if_pos rfl, if_pos rfl, if_pos rfl, if_pos rfl, beq_self_eq_true]
      simp only [castellanlaw5_TcpBuilds.j0]
      rw [if_neg (by decide), hz1, hz2, hr1, hr2, hkn]
      simp only [ob, hsame, beq_self_eq_true, if_true]
      by_cases hfit : TcpFit s t f w u o d
      · rw [tcpbuild_is a b s t q k f w u o d hfit ho hd K (by omega), rtcpbuild_is a b s t q k f w u o d hfit ho hd l2 (K + 1) (by omega)]
        simp only [ob, if_true]
      · rw [tcpbuild_no a b s t q k f w u o d hfit l1 l2 K, rtcpbuild_no a b s t q k f w u o d hfit l1 l2 (K + 1)]
        simp only [ob, if_true]

end Go.Proofs.Ytbenimfjhcbplaa.Pure
