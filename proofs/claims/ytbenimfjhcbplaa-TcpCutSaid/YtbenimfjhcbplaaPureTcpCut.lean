/- a segment that is truncated within its header is too short; if it is truncated after it, its data is shorter. No condition besides the law's own guards. -/
import Derived.Test.YtbenimfjhcbplaaQTcpCutx5
import Derived.Test.YtbenimfjhcbplaaBase
namespace Go.Proofs.Ytbenimfjhcbplaa.Pure
open Go.RowKit Go.Proofs.Ytbenimfjhcbplaa.QTcpCut Go.Proofs.YtbenimfjhcbplaaW.PrintWords Go.Proofs.YtbenimfjhcbplaaW.PrintLast Go.Proofs.YtbenimfjhcbplaaW.PrintMore Go.Proofs.Ytbenimfjhcbplaa.Base
open Go
set_option linter.unusedVariables false
set_option linter.unusedSimpArgs false

theorem at_is (l : List Int) (i m : Int) (hl : l.length ≤ 1099511627776) (h0 : -9223372036854775808 ≤ i) (h1 : i ≤ 2199023255552) (hm0 : 0 ≤ m) (hm : m ≤ 8) : word_at.f l i m = some (atz l (i + m)) := by
  unfold word_at.f
  have e1 : wrap64 (-m) = -m := w64 (by omega) (by omega)
  have e2 : wrap64 ((l.length : Int) - m) = l.length - m := w64 (by omega) (by omega)
  rw [e1, e2]
  by_cases c1 : i < -m
  · rw [if_pos c1, atz_neg l (by omega)]
  · rw [if_neg c1]
    by_cases c2 : i ≥ (l.length : Int) - m
    · rw [if_pos c2, atz_ge l (by omega)]
    · rw [if_neg c2]
      have e3 : wrap64 (i + m) = i + m := w64 (by omega) (by omega)
      rw [e3, if_pos (by omega), if_pos (by omega)]
      unfold rd atz; rw [if_pos (by omega)]

theorem get16_is (l : List Int) (i : Int) (hb : Byt l) (hl : l.length ≤ 1099511627776) (h0 : -9223372036854775808 ≤ i) (h1 : i ≤ 2199023255552) : word_Get16.f l i = some (g16 l i) := by
  unfold word_Get16.f
  rw [at_is l i 0 hl h0 h1 (by omega) (by omega), at_is l i 1 hl h0 h1 (by omega) (by omega)]
  simp only [Option.bind_some, Int.add_zero]
  have b0 := atz_byt hb i
  have b1 := atz_byt hb (i + 1)
  rw [w64 (n := atz l i) (by omega) (by omega), w64 (n := atz l (i + 1)) (by omega) (by omega), w64 (n := atz l i * 256) (by omega) (by omega), or_i64_8 _ _ (by omega) (by omega) (by omega) (by omega)]
  rfl

theorem get32_step (l : List Int) (i : Int) (hb : Byt l) (hl : l.length ≤ 1099511627776) (h0 : -9223372036854775808 ≤ i) (h1 : i ≤ 2199023255552) (k : Nat) (x j : Int) (hx0 : 0 ≤ x) (hx : x < 16777216) (hj0 : 0 ≤ j) (hj : j < 4) :
    word_Get32.l0 (k + 1) l i x j = word_Get32.l0 k l i (x * 256 + atz l (i + j)) (j + 1) := by
  have b0 := atz_byt hb (i + j)
  simp only [word_Get32.l0]
  rw [if_pos hj, at_is l i j hl h0 h1 hj0 (by omega)]
  simp only [Option.bind_some]
  rw [w64 (n := j + 1) (by omega) (by omega), Int.emod_eq_of_lt (a := x * 256) (by omega) (by omega), Int.emod_eq_of_lt (a := atz l (i + j)) (by omega) (by omega), or_u32_8 _ _ hx0 hx (by omega) (by omega)]
theorem get32_is (l : List Int) (i : Int) (hb : Byt l) (hl : l.length ≤ 1099511627776) (h0 : -9223372036854775808 ≤ i) (h1 : i ≤ 2199023255552) (k : Nat) (hk : 5 ≤ k) : word_Get32.f k l i = some (g32 l i) := by
  obtain ⟨k, rfl⟩ : ∃ m, k = m + 5 := ⟨k - 5, by omega⟩
  have b0 := atz_byt hb (i + 0)
  have b1 := atz_byt hb (i + (0 + 1))
  have b2 := atz_byt hb (i + (0 + 1 + 1))
  have b3 := atz_byt hb (i + (0 + 1 + 1 + 1))
  unfold word_Get32.f
  rw [get32_step l i hb hl h0 h1 (k + 4) 0 0 (by omega) (by omega) (by omega) (by omega), get32_step l i hb hl h0 h1 (k + 3) _ _ (by omega) (by omega) (by omega) (by omega),
    get32_step l i hb hl h0 h1 (k + 2) _ _ (by omega) (by omega) (by omega) (by omega), get32_step l i hb hl h0 h1 (k + 1) _ _ (by omega) (by omega) (by omega) (by omega)]
  simp only [word_Get32.l0]
  rw [if_neg (by omega)]
  unfold g32
  rw [show i + (0 + 1) = i + 1 by omega, show i + (0 + 1 + 1) = i + 2 by omega, show i + (0 + 1 + 1 + 1) = i + 3 by omega, Int.add_zero]
  congr 1; omega

theorem put16_is (n : Int) : word_Put16.f n = some (p16 n) := rfl

theorem concat_go (L : List (List Int)) (hL : L.length < 4611686018427387904) : ∀ (d k : Nat) (x : List Int) (i : Nat), L.length = i + d → d < k → x.length + ((L.drop i).flatten).length < 140737488355328 → slices_Concat_byte_byte.l0 k x L (L.length : Int) (i : Int) = some (x ++ (L.drop i).flatten)
  | _, 0, _, _, _, hk, _ => absurd hk (by omega)
  | d, k + 1, x, i, hd, hk, hx => by
    simp only [slices_Concat_byte_byte.l0]
    by_cases c : (i : Int) < (L.length : Int)
    · have e : L.drop i = L.getD i [] :: L.drop (i + 1) := drop_cons_getD_L (by omega)
      have er : rd_L2 L (i : Int) = L.getD i [] := by unfold rd_L2; rw [show ((i : Int)).toNat = i by omega]
      rw [e, List.flatten_cons, List.length_append] at hx
      rw [if_pos c, if_pos (by omega), if_pos c, er, if_pos (by omega), w64 (n := (i : Int) + 1) (by omega) (by omega), show ((i : Int) + 1) = ((i + 1 : Nat) : Int) by omega]
      cases d with
      | zero => omega
      | succ d =>
        rw [concat_go L hL d k _ (i + 1) (by omega) (by omega) (by rw [List.length_append]; omega), e, List.flatten_cons, List.append_assoc]
    · rw [if_neg c, List.drop_of_length_le (by omega)]; simp
theorem join_is (L : List (List Int)) (k : Nat) (hL : L.length < 4611686018427387904) (hk : L.length < k) (h : L.flatten.length < 140737488355328) : word_Join.f k L = some L.flatten := by
  unfold word_Join.f slices_Concat_byte_byte.f
  have h0 := concat_go L hL L.length k [] 0 (by omega) hk (by simpa using h)
  rw [List.drop_zero, List.nil_append] at h0
  rw [show ((0 : Nat) : Int) = 0 from rfl] at h0
  rw [h0, ob]

theorem folded_is : ∀ (d k : Nat) (n : Int), 0 ≤ n → n ≤ 65535 * (d + 1) → n < 4611686018427387904 → d < k → sum_folded.l0 k n = some (fo n)
  | d, 0, _, _, _, _, hk => absurd hk (by omega)
  | d, k + 1, n, h0, h1, h2, hk => by
    simp only [sum_folded.l0]
    by_cases c : n > 65535
    · rw [if_pos c, and_u64_65535, wrap_u64, Int.emod_eq_of_lt (by omega) (by omega)]
      cases d with
      | zero => omega
      | succ d => rw [folded_is d k _ (by omega) (by omega) (by omega) (by omega), fo_step (by omega)]
    · rw [if_neg c, fo_small h0 (by omega)]
theorem foldedf_is (d k : Nat) (n : Int) (h0 : 0 ≤ n) (h1 : n ≤ 65535 * (d + 1)) (h2 : n < 4611686018427387904) (hk : d < k) : sum_folded.f k n = some (fo n) := folded_is d k n h0 h1 h2 hk

theorem of_l1 (rows : List (List Int)) (n x11 : Int) (row : List Int) (hb : Byt row) (hl : row.length ≤ 1099511627776) : ∀ (d k i : Nat) (acc : Int) (low : Bool), i + d = row.length → 0 ≤ acc → acc + 65280 * d < 4611686018427387904 →
    sum_Of.l1 (k + d + 1) acc low rows n x11 row (row.length : Int) (i : Int) = sum_Of.l0 k (acc + sp low (row.drop i)) (low ^^ odd d) rows n (wrap64 (x11 + 1))
  | 0, k, i, acc, low, hi, h0, h1 => by
    simp only [sum_Of.l1]
    rw [if_neg (by omega), List.drop_eq_nil_of_le (by omega)]
    simp [sp, odd]
  | d + 1, k, i, acc, low, hi, h0, h1 => by
    have hlt : i < row.length := by omega
    have b := getD_byt hb i
    have e : k + (d + 1) + 1 = (k + d + 1) + 1 := by omega
    rw [e, sum_Of.l1]
    rw [if_pos (by omega), if_pos (by omega), if_pos (by omega)]
    have er : rd row (i : Int) = row.getD i 0 := by unfold rd; simp
    have ew : wrap64 ((i : Int) + 1) = ((i + 1 : Nat) : Int) := by rw [w64 (by omega) (by omega)]; omega
    rw [er, ew, drop_cons_getD hlt]
    cases low with
    | true =>
      rw [if_pos rfl, wrap_u64, wrap_u64, Int.emod_eq_of_lt (a := row.getD i 0) (by omega) (by omega), Int.emod_eq_of_lt (a := acc + row.getD i 0) (by omega) (by omega), of_l1 rows n x11 row hb hl d k (i + 1) _ _ (by omega) (by omega) (by omega)]
      rw [odd_succ, sp, Int.add_assoc]; simp
    | false =>
      rw [if_neg (by decide), wrap_u64, wrap_u64, wrap_u64, Int.emod_eq_of_lt (a := row.getD i 0) (by omega) (by omega), Int.emod_eq_of_lt (a := row.getD i 0 * 256) (by omega) (by omega), Int.emod_eq_of_lt (a := acc + row.getD i 0 * 256) (by omega) (by omega), of_l1 rows n x11 row hb hl d k (i + 1) _ _ (by omega) (by omega) (by omega)]
      rw [odd_succ, sp, Int.add_assoc]; simp
theorem of_l0 (rows : List (List Int)) (hb : BytL rows) (hl : rows.flatten.length ≤ 1048576) (hn : rows.length ≤ 1048576) : ∀ (m k j : Nat) (acc : Int) (low : Bool), j + m = rows.length → 0 ≤ acc → acc + 65280 * (rows.drop j).flatten.length ≤ 68451041280 →
    2 * m + (rows.drop j).flatten.length + 1048576 < k → sum_Of.l0 k acc low rows (rows.length : Int) (j : Int) = some (65535 - fo (acc + sp low (rows.drop j).flatten))
  | 0, 0, _, _, _, _, _, _, hk => absurd hk (by omega)
  | 0, k + 1, j, acc, low, hj, h0, h1, hk => by
    simp only [sum_Of.l0]
    rw [if_neg (by omega), List.drop_eq_nil_of_le (by omega)]
    have ha : acc ≤ 68451041280 := by have : (0 : Int) ≤ (rows.drop j).flatten.length := by omega
                                      omega
    rw [foldedf_is 1048575 k acc h0 (by omega) (by omega) (by omega)]
    have := fo_range acc
    simp only [Option.bind_some, List.flatten_nil, sp, Int.add_zero]
    rw [wrap_u64, Int.emod_eq_of_lt (by omega) (by omega), w64 (by omega) (by omega)]
  | m + 1, k, j, acc, low, hj, h0, h1, hk => by
    have hlt : j < rows.length := by omega
    have ed : rows.drop j = rows.getD j [] :: rows.drop (j + 1) := drop_cons_getD_L hlt
    have hbr : Byt (rows.getD j []) := hb _ (by rw [List.getD_eq_getElem?_getD, List.getElem?_eq_getElem hlt]; exact List.getElem_mem hlt)
    have hlr : (rows.getD j []).length + (rows.drop (j + 1)).flatten.length = (rows.drop j).flatten.length := by rw [ed]; simp
    have hll : (rows.drop j).flatten.length ≤ rows.flatten.length := by
      have := congrArg (fun z => z.flatten.length) (List.take_append_drop j rows)
      simp only [List.flatten_append, List.length_append] at this
      omega
    obtain ⟨k', rfl⟩ : ∃ z, k = (z + (rows.getD j []).length + 1) + 1 := ⟨k - (rows.getD j []).length - 2, by omega⟩
    simp only [sum_Of.l0]
    have er : rd_L2 rows (j : Int) = rows.getD j [] := by unfold rd_L2; simp
    have ew : wrap64 ((j : Int) + 1) = ((j + 1 : Nat) : Int) := by rw [w64 (by omega) (by omega)]; omega
    have hs0 := sp_nonneg low hbr
    have hs1 := sp_le low hbr
    rw [if_pos (by omega), if_pos (by omega), if_pos (by omega), er]
    have h2 := of_l1 rows (rows.length : Int) (j : Int) (rows.getD j []) hbr (by omega) (rows.getD j []).length k' 0 acc low (by omega) h0 (by omega)
    rw [List.drop_zero] at h2
    refine h2.trans ?_
    rw [ew, of_l0 rows hb hl hn m k' (j + 1) _ _ (by omega) (by omega) (by omega) (by omega)]
    rw [ed, List.flatten_cons, sp_append, Int.add_assoc]
/-- more than enough rounds -/
def KO : Nat := 5000000
theorem of_is (rows : List (List Int)) (hb : BytL rows) (hl : rows.flatten.length ≤ 1048576) (hn : rows.length ≤ 1048576) (k : Nat) (hk : KO ≤ k) : sum_Of.f k rows = some (ck rows.flatten) := by
  unfold KO at hk
  unfold sum_Of.f
  have h := of_l0 rows hb hl hn rows.length k 0 0 false (by omega) (by omega) (by rw [List.drop_zero]; omega) (by rw [List.drop_zero]; omega)
  rw [List.drop_zero, Int.zero_add, sp_false] at h
  exact h
theorem of1_is (l : List Int) (hb : Byt l) (hl : l.length ≤ 1048576) (k : Nat) (hk : KO ≤ k) : sum_Of.f k [l] = some (ck l) := by
  rw [of_is [l] (fun x hx => by simp at hx; subst hx; exact hb) (by simpa using hl) (by simp) k hk]; simp
theorem of2_is (a b : List Int) (ha : Byt a) (hb : Byt b) (hl : a.length + b.length ≤ 1048576) (k : Nat) (hk : KO ≤ k) : sum_Of.f k [a, b] = some (ck (a ++ b)) := by
  rw [of_is [a, b] (fun x hx => by simp at hx; rcases hx with rfl | rfl <;> assumption) (by simpa using hl) (by simp) k hk]; simp

theorem clone_is (l : List Int) (hl : l.length < 140737488355328) : bytes_Clone.f l = some l := by
  unfold bytes_Clone.f
  rw [ob, if_pos (by rw [List.length_nil]; omega), List.nil_append]

/-- a pseudo header -/
def ph (s t p n : Int) : List Int := p32 s ++ (p32 t ++ ([0, p] ++ p16 n))
theorem ph_len (s t p n : Int) : (ph s t p n).length = 12 := rfl
theorem ph_byt (s t n : Int) {p : Int} (hp : 0 ≤ p ∧ p ≤ 255) : Byt (ph s t p n) :=
  byt_append (byt_p32 s) (byt_append (byt_p32 t) (byt_append (byt_cons (by omega) (byt_cons (by omega) byt_nil)) (byt_p16 n)))
theorem pseudo_is (s t p n : Int) (hp : 0 ≤ p ∧ p ≤ 255) (K : Nat) (hK : 5 ≤ K) : sum_Pseudo.f K s t p n = some (ph s t p n) := by
  have e : ([p32 s, p32 t, ([0, p] : List Int), p16 n] : List (List Int)).flatten = ph s t p n := by simp [ph]
  unfold sum_Pseudo.f
  rw [show word_Put32.f s = some (p32 s) from rfl, show word_Put32.f t = some (p32 t) from rfl, put16_is, Int.emod_eq_of_lt (a := p) (by omega) (by omega)]
  simp only [ob]
  rw [join_is _ K (by simp) (by simp; omega) (by rw [e, ph_len]; omega), e]
  simp only [ob]

/-- what a reset counts -/
def tk (f n : Int) : Int := if Go.bits .and .i64 f 1 = 0 then (if Go.bits .and .i64 f 2 = 0 then n else (n + 1) % 4294967296) else ((if Go.bits .and .i64 f 2 = 0 then n else (n + 1) % 4294967296) + 1) % 4294967296
theorem treset_no (a b s k f w u : Int) (o d : List Int) (K : Nat) (h : Go.bits .and .i64 f 4 ≠ 0) : tcp_Reset.f K a b s k f w u o d = some (0, 0, 0, 0, 0, 0, 0, ([] : List Int), ([] : List Int), false) := by
  unfold tcp_Reset.f; rw [if_neg h]
theorem treset_ack (a b s k f w u : Int) (o d : List Int) (K : Nat) (h : Go.bits .and .i64 f 4 = 0) (h2 : Go.bits .and .i64 f 16 ≠ 0) : tcp_Reset.f K a b s k f w u o d = some (b, a, k, 0, 4, 0, 0, ([] : List Int), ([] : List Int), true) := by
  unfold tcp_Reset.f; rw [if_pos h, if_neg h2]
theorem treset_cnt (a b s k f w u : Int) (o d : List Int) (K : Nat) (hK : 3 ≤ K) (h : Go.bits .and .i64 f 4 = 0) (h2 : Go.bits .and .i64 f 16 = 0) :
    tcp_Reset.f K a b s k f w u o d = some (b, a, 0, tk f ((s + (d.length : Int)) % 4294967296), 20, 0, 0, ([] : List Int), ([] : List Int), true) := by
  obtain ⟨j, rfl⟩ : ∃ j, K = j + 3 := ⟨K - 3, by omega⟩
  unfold tcp_Reset.f
  rw [if_pos h, if_pos h2, ob]
  generalize (s + (d.length : Int)) % 4294967296 = n
  have e0 : wrap64 (0 + 1) = 1 := by unfold wrap64; omega
  have e1 : wrap64 (1 + 1) = 2 := by unfold wrap64; omega
  have r0 : rd ([2, 1] : List Int) 0 = 2 := rfl
  have r1 : rd ([2, 1] : List Int) 1 = 1 := rfl
  have l2 : ((([2, 1] : List Int).length : Nat) : Int) = 2 := rfl
  unfold tk
  simp only [tcp_Reset.l0, e0, e1, r0, r1, l2]
  by_cases c2 : Go.bits .and .i64 f 2 = 0 <;> by_cases c1 : Go.bits .and .i64 f 1 = 0 <;> simp [c1, c2]
theorem tknown (K : Nat) (hK : 3 ≤ K) : castellanlaw5_known.f K = some true := by
  unfold castellanlaw5_known.f
  rw [treset_cnt 1 2 5 0 2 0 0 [] [] K hK rfl rfl, ob]
  rfl

/-- a segment as it is built, ahead of its checksum -/
def th (s t q k f w u : Int) (o d : List Int) : List Int := p16 s ++ (p16 t ++ (p32 q ++ (p32 k ++ ([(20 + (o.length : Int)) / 4 * 16, f] ++ (p16 w ++ ([0, 0] ++ (p16 u ++ (o ++ d))))))))
def tc (a b s t q k f w u : Int) (o d : List Int) : Int := ck (ph a b 6 (20 + (o.length : Int) + d.length) ++ th s t q k f w u o d)
def ths (a b s t q k f w u : Int) (o d : List Int) : List Int := ((th s t q k f w u o d).set 16 (tc a b s t q k f w u o d / 256 % 256)).set 17 (tc a b s t q k f w u o d % 256)
theorem th_len (s t q k f w u : Int) (o d : List Int) : (th s t q k f w u o d).length = 20 + o.length + d.length := by simp [th, p16, p32]; omega
theorem ths_len (a b s t q k f w u : Int) (o d : List Int) : (ths a b s t q k f w u o d).length = 20 + o.length + d.length := by unfold ths; rw [List.length_set, List.length_set, th_len]
theorem th_byt (s t q k w u : Int) {f : Int} {o d : List Int} (hf : 0 ≤ f ∧ f ≤ 63) (ho : Byt o) (hd : Byt d) (hl : o.length ≤ 40) : Byt (th s t q k f w u o d) :=
  byt_append (byt_p16 s) (byt_append (byt_p16 t) (byt_append (byt_p32 q) (byt_append (byt_p32 k) (byt_append (byt_cons (by omega) (byt_cons (by omega) byt_nil)) (byt_append (byt_p16 w) (byt_append (byt_cons (by omega) (byt_cons (by omega) byt_nil)) (byt_append (byt_p16 u) (byt_append ho hd))))))))
theorem ths_byt (a b s t q k w u : Int) {f : Int} {o d : List Int} (hf : 0 ≤ f ∧ f ≤ 63) (ho : Byt o) (hd : Byt d) (hl : o.length ≤ 40) : Byt (ths a b s t q k f w u o d) :=
  byt_set (byt_set (th_byt s t q k w u hf ho hd hl) _ (by omega)) _ (by omega)
theorem ths_ck (a b s t q k w u : Int) {f : Int} {o d : List Int} (hf : 0 ≤ f ∧ f ≤ 63) (ho : Byt o) (hd : Byt d) (hl : o.length ≤ 40) : ck (ph a b 6 (20 + (o.length : Int) + d.length) ++ ths a b s t q k f w u o d) = 0 := by
  have h1 := sm_nonneg (ph_byt a b (20 + (o.length : Int) + d.length) (p := 6) (by omega))
  have h2 := sm_nonneg (th_byt s t q k w u hf ho hd hl)
  have h := sm_set2 (th s t q k f w u o d) 8 (tc a b s t q k f w u o d / 256 % 256) (tc a b s t q k f w u o d % 256) (by rw [th_len]; omega)
  have e2 : (th s t q k f w u o d).getD (2 * 8) 0 = 0 := rfl
  have e3 : (th s t q k f w u o d).getD (2 * 8 + 1) 0 = 0 := rfl
  rw [e2, e3] at h
  have hr := ck_range (ph a b 6 (20 + (o.length : Int) + d.length) ++ th s t q k f w u o d)
  have e1 : sm (ths a b s t q k f w u o d) = sm (th s t q k f w u o d) + tc a b s t q k f w u o d := by refine Eq.trans h ?_; unfold tc; omega
  have hc : tc a b s t q k f w u o d = 65535 - fo (sm (ph a b 6 (20 + (o.length : Int) + d.length)) + sm (th s t q k f w u o d)) := by
    unfold tc ck; rw [sm_append _ _ (by rw [ph_len])]
  unfold ck
  rw [sm_append _ _ (by rw [ph_len]), e1, ← Int.add_assoc, hc, fo_comp (by omega)]
  rfl
theorem isin_is (a m : Int) : tcp_isIn.f a m = some (decide (0 ≤ a ∧ a ≤ m)) := by
  unfold tcp_isIn.f
  by_cases c : a ≥ 0
  · rw [if_pos c]; congr 1; rw [decide_eq_decide]; omega
  · rw [if_neg c, decide_eq_false (by omega)]
/-- what fits -/
def TcpFit (s t f w u : Int) (o d : List Int) : Prop := (0 ≤ s ∧ s ≤ 65535) ∧ (0 ≤ t ∧ t ≤ 65535) ∧ (0 ≤ w ∧ w ≤ 65535) ∧ (0 ≤ u ∧ u ≤ 65535) ∧ (0 ≤ f ∧ f ≤ 63) ∧ (o.length : Int) % 4 = 0 ∧ o.length ≤ 40 ∧ 20 + o.length + d.length ≤ 65000
theorem tcpbuild_is (a b s t q k f w u : Int) (o d : List Int) (hfit : TcpFit s t f w u o d) (ho : Byt o) (hd : Byt d) (K : Nat) (hK : KO ≤ K) :
    tcp_Build.f (K + 1) a b s t q k f w u o d = some (ths a b s t q k f w u o d, 0) := by
  have hKO : 12 ≤ KO := by unfold KO; omega
  obtain ⟨h1, h2, h3, h4, h5, h6, h7, h8⟩ := hfit
  have hn := th_len s t q k f w u o d
  have e : ([p16 s, p16 t, p32 q, p32 k, [(20 + (o.length : Int)) / 4 * 16, f], p16 w, [0, 0], p16 u, o, d] : List (List Int)).flatten = th s t q k f w u o d := by simp [th]
  have hq : wrap64 (wrap64 (Int.tdiv (20 + (o.length : Int)) 4) * 16) = (20 + (o.length : Int)) / 4 * 16 := by rw [Int.tdiv_eq_ediv_of_nonneg (by omega), w64 (n := (20 + (o.length : Int)) / 4) (by omega) (by omega), w64 (by omega) (by omega)]
  unfold tcp_Build.f
  rw [isin_is, isin_is, isin_is, isin_is, isin_is, decide_eq_true h1, decide_eq_true h2, decide_eq_true h3, decide_eq_true h4, decide_eq_true h5]
  simp only [ob]
  rw [if_pos True.intro, if_pos True.intro, if_pos True.intro, if_pos True.intro, if_pos True.intro, if_pos h6, if_neg (by omega), w64 (n := 20 + (o.length : Int)) (by omega) (by omega), w64 (n := 65000 - (20 + (o.length : Int))) (by omega) (by omega), decide_eq_false (by omega)]
  simp only [tcp_Build.j0]
  rw [if_neg (by decide), hq, Int.emod_eq_of_lt (a := (20 + (o.length : Int)) / 4 * 16) (by omega) (by omega), Int.emod_eq_of_lt (a := f) (by omega) (by omega)]
  simp only [put16_is, show ∀ n, word_Put32.f n = some (p32 n) from fun _ => rfl, ob]
  rw [join_is _ K (by simp) (by simp; omega) (by rw [e, hn]; omega), e]
  simp only [ob]
  rw [hn, show ((20 + o.length + d.length : Nat) : Int) = 20 + (o.length : Int) + d.length by omega, pseudo_is a b 6 _ (by omega) K (by omega)]
  simp only [ob]
  rw [of2_is _ _ (ph_byt a b _ (by omega)) (th_byt s t q k w u h5 ho hd h7) (by rw [ph_len, hn]; omega) K hK]
  simp only [ob]
  rw [if_pos (by simp [p16]), if_pos (by omega), if_pos (by simp [p16]), if_pos (by omega)]
  rfl

theorem half_is (a : Int) : castellanref5_half.f a = some (decide (0 ≤ a ∧ a ≤ 65535)) := by
  unfold castellanref5_half.f
  by_cases c : a ≥ 0
  · rw [if_pos c]; congr 1; rw [decide_eq_decide]; omega
  · rw [if_neg c, decide_eq_false (by omega)]
theorem ref5_is (s t q k f w u : Int) (o d : List Int) (l1 : o.length ≤ 60) (l2 : d.length ≤ 1500) : ∃ z, castellanref5_Is.f s t q k f w u o d = some z ∧ (z = true → TcpFit s t f w u o d) := by
  unfold castellanref5_Is.f TcpFit
  rw [half_is, half_is, half_is, half_is]
  simp only [ob]
  rcases Decidable.em (0 ≤ s ∧ s ≤ 65535) with d0 | d0
  rotate_left
  · rw [decide_eq_false d0, if_neg (by decide)]; exact ⟨false, rfl, (fun h => Bool.noConfusion h)⟩
  rw [decide_eq_true d0, if_pos rfl]
  rcases Decidable.em (0 ≤ t ∧ t ≤ 65535) with d1 | d1
  rotate_left
  · rw [decide_eq_false d1, if_neg (by decide)]; exact ⟨false, rfl, (fun h => Bool.noConfusion h)⟩
  rw [decide_eq_true d1, if_pos rfl]
  rcases Decidable.em (0 ≤ w ∧ w ≤ 65535) with d2 | d2
  rotate_left
  · rw [decide_eq_false d2, if_neg (by decide)]; exact ⟨false, rfl, (fun h => Bool.noConfusion h)⟩
  rw [decide_eq_true d2, if_pos rfl]
  rcases Decidable.em (0 ≤ u ∧ u ≤ 65535) with d3 | d3
  rotate_left
  · rw [decide_eq_false d3, if_neg (by decide)]; exact ⟨false, rfl, (fun h => Bool.noConfusion h)⟩
  rw [decide_eq_true d3, if_pos rfl]
  rcases Decidable.em (f ≥ 0) with c0 | c0
  rotate_left
  · rw [if_neg c0]; exact ⟨false, rfl, (fun h => Bool.noConfusion h)⟩
  rw [if_pos c0]
  rcases Decidable.em (f ≤ 63) with c1 | c1
  rotate_left
  · rw [if_neg c1]; exact ⟨false, rfl, (fun h => Bool.noConfusion h)⟩
  rw [if_pos c1]
  rcases Decidable.em ((o.length : Int) % 4 = 0) with c2 | c2
  rotate_left
  · rw [if_neg c2]; exact ⟨false, rfl, (fun h => Bool.noConfusion h)⟩
  rw [if_pos c2]
  rcases Decidable.em ((o.length : Int) ≤ 40) with c3 | c3
  rotate_left
  · rw [if_neg c3]; exact ⟨false, rfl, (fun h => Bool.noConfusion h)⟩
  rw [if_pos c3]
  refine ⟨_, rfl, fun h => ?_⟩
  rw [decide_eq_true_iff, w64 (n := 20 + (o.length : Int)) (by omega) (by omega), w64 (by omega) (by omega)] at h
  omega
theorem ref5_long (s t q k f w u : Int) (o d : List Int) : ∃ z, castellanlaw5_long.f s t q k f w u o d = some z ∧ (z = false → o.length ≤ 60 ∧ d.length ≤ 1500) := by
  unfold castellanlaw5_long.f
  rcases Decidable.em ((o.length : Int) > 60) with c | c
  · rw [if_pos c]; exact ⟨true, rfl, (fun h => Bool.noConfusion h)⟩
  · rw [if_neg c]; refine ⟨_, rfl, fun h => ?_⟩; rw [decide_eq_false_iff_not] at h; omega

theorem atz_take (l : List Int) {i : Int} {n : Nat} (h : i < n) : atz (l.take n) i = atz l i := by
  unfold atz
  split
  · rw [List.getD_eq_getElem?_getD, List.getD_eq_getElem?_getD, List.getElem?_take_of_lt (by omega)]
  · rfl
theorem g16_take (l : List Int) {i : Int} {n : Nat} (h : i + 1 < n) : g16 (l.take n) i = g16 l i := by
  unfold g16; rw [atz_take l (by omega), atz_take l h]
/-- where it is cut -/
theorem cut_at (x : Int) {n : Nat} (hn : 0 < n) : ∃ k : Nat, Int.tmod (Go.bits .and .i64 x 65535) (n : Int) = (k : Int) ∧ k < n := by
  have h1 := Int.emod_nonneg x (show (65536 : Int) ≠ 0 by decide)
  have h2 := Int.emod_nonneg (x % 65536) (show (n : Int) ≠ 0 by omega)
  have h3 := Int.emod_lt_of_pos (x % 65536) (show (0 : Int) < (n : Int) by omega)
  rw [and_i64_65535, Int.tmod_eq_emod_of_nonneg h1]
  generalize (x % 65536) % (n : Int) = m at h2 h3 ⊢
  exact ⟨m.toNat, by omega, by omega⟩

theorem tcpparse_short (X : List Int) (h : Int) (h20 : 20 ≤ h) (hh : 12 < X.length → wrap64 (wrap64 (rd X 12 / 16) * 4) = h) (hl : (X.length : Int) < h) (K : Nat) :
    tcp_Parse.f K X = some (0, 0, 0, 0, 0, 0, 0, ([] : List Int), ([] : List Int), 3) := by
  unfold tcp_Parse.f
  by_cases c : (X.length : Int) < 20
  · rw [if_pos c]
  · rw [if_neg c, if_pos (by omega), hh (by omega), if_pos hl]
theorem tcpparse_long (X : List Int) (hb : Byt X) (hX : X.length ≤ 1048576) (h : Int) (h20 : 20 ≤ h) (hh : wrap64 (wrap64 (rd X 12 / 16) * 4) = h) (hl : h ≤ (X.length : Int)) (K : Nat) (hK : 5 ≤ K) :
    ∃ a1 a2 a3 a4 a5 a6 a7 a8, tcp_Parse.f K X = some (a1, a2, a3, a4, a5, a6, a7, a8, X.drop h.toNat, 0) := by
  unfold tcp_Parse.f
  rw [hh, if_neg (by omega), if_pos (by omega), if_neg (by omega), if_neg (by omega), get16_is _ 0 hb (by omega) (by omega) (by omega), ob, get16_is _ 2 hb (by omega) (by omega) (by omega), ob, get32_is _ 4 hb (by omega) (by omega) (by omega) K hK, ob, get32_is _ 8 hb (by omega) (by omega) (by omega) K hK, ob, if_pos (by omega), get16_is _ 14 hb (by omega) (by omega) (by omega), ob, get16_is _ 18 hb (by omega) (by omega) (by omega), ob, if_pos (by omega), if_pos (by omega), clone_is _ (by rw [List.length_drop, List.length_take]; omega), ob, if_pos (by omega), clone_is _ (by rw [List.length_drop]; omega), ob]
  exact ⟨_, _, _, _, _, _, _, _, rfl⟩

theorem TcpCut : castellanlaw5_TcpCut.Pure := by
  intro s t q k f w u o d x hs ht hq hk hf hw hu h1 h2 ho h3 h4 hd hx
  have ho := byt_of ho
  have hd := byt_of hd
  obtain ⟨K, hK⟩ : ∃ K : Nat, KO = K := ⟨_, rfl⟩
  have hK5 : 5 ≤ K := by rw [← hK]; unfold KO; omega
  refine ⟨K + 3, ?_⟩
  have hkn := tknown (K + 1) (by omega)
  have htr : castellanlaw5_TcpCut.j0 (K + 3) x true s t q k f w u o d = some true := by simp only [castellanlaw5_TcpCut.j0]; rfl
  obtain ⟨y, hy, hy2⟩ := ref5_long s t q k f w u o d
  unfold castellanlaw5_TcpCut.f
  rw [hy, ob]
  cases y with
  | true => rw [if_pos rfl]; exact htr
  | false =>
    obtain ⟨l1, l2⟩ := hy2 rfl
    obtain ⟨z, hz, hz2⟩ := ref5_is s t q k f w u o d (by omega) (by omega)
    rw [if_neg (by decide), hz, ob]
    cases z with
    | false => exact htr
    | true =>
      have hfit := hz2 rfl
      obtain ⟨-, -, -, -, f5, f6, f7, f8⟩ := hz2 rfl
      clear htr hy hy2 hz hz2
      rw [show (!true) = false from rfl]
      simp only [castellanlaw5_TcpCut.j0]
      rw [if_neg (by decide), show K + 2 = (K + 1) + 1 from rfl, tcpbuild_is 1 2 s t q k f w u o d hfit ho hd (K + 1) (by omega), ob, if_pos rfl]
      have hRb := ths_byt 1 2 s t q k w u f5 ho hd f7
      have hRl := ths_len 1 2 s t q k f w u o d
      have e12 : atz (ths 1 2 s t q k f w u o d) 12 = (20 + (o.length : Int)) / 4 * 16 := rfl
      generalize ths 1 2 s t q k f w u o d = R at hRb hRl e12 ⊢
      have hh : wrap64 (wrap64 ((20 + (o.length : Int)) / 4 * 16 / 16) * 4) = 20 + o.length := by rw [w64 (n := (20 + (o.length : Int)) / 4 * 16 / 16) (by omega) (by omega), w64 (by omega) (by omega)]; omega
      obtain ⟨j, hj, hj2⟩ := cut_at x (n := R.length) (by omega)
      have hl20 : ¬ ((R.length : Int) < 20) := by omega
      dsimp only
      rw [decide_eq_false hl20, show K + 1 + 1 = (K + 1) + 1 from rfl]
      simp only [castellanlaw5_TcpCut.j1]
      have hl : (R.take j).length = j := by rw [List.length_take]; omega
      have hr12 : 12 < j → rd (R.take j) 12 = (20 + (o.length : Int)) / 4 * 16 := by
        intro h
        rw [← e12, ← atz_take R (n := j) (by omega)]
        unfold rd atz
        rw [if_pos (by decide)]
      rw [if_neg (by decide), if_neg (by omega), hj, if_pos (by omega), if_pos (by omega), Int.toNat_natCast, w64 (n := 20 + (o.length : Int)) (by omega) (by omega)]
      by_cases c : (j : Int) < 20 + o.length
      · rw [tcpparse_short (R.take j) (20 + o.length) (by omega) (fun h => by rw [hr12 (by omega), hh]) (by omega) (K + 1), ob, if_pos c, if_pos rfl, hkn]
        rfl
      · obtain ⟨a1, a2, a3, a4, a5, a6, a7, a8, hp⟩ := tcpparse_long (R.take j) (byt_take hRb j) (by omega) (20 + o.length) (by omega) (by rw [hr12 (by omega), hh]) (by omega) (K + 1) (by omega)
        have hdl : ((((R.take j).drop (20 + (o.length : Int)).toNat).length : Nat) : Int) = wrap64 ((j : Int) - (20 + o.length)) := by
          rw [List.length_drop, hl, w64 (by omega) (by omega)]; omega
        rw [hp, ob, if_neg c, if_pos rfl, if_pos hdl, hkn]
        rfl

end Go.Proofs.Ytbenimfjhcbplaa.Pure
