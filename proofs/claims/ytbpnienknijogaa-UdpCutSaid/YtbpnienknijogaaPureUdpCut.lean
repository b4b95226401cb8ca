/- a truncated datagram is too short, wherever it is truncated. No condition besides the law's own guard. -/
import Derived.Test.YtbpnienknijogaaQUdpCutx3
import Derived.Test.YtbpnienknijogaaBase
namespace Go.Proofs.Ytbpnienknijogaa.Pure
open Go.RowKit Go.Proofs.Ytbpnienknijogaa.QUdpCut Go.Proofs.YtbpnienknijogaaW.PrintWords Go.Proofs.YtbpnienknijogaaW.PrintLast Go.Proofs.YtbpnienknijogaaW.PrintMore Go.Proofs.Ytbpnienknijogaa.Base
open Go
set_option linter.unusedVariables false
set_option linter.unusedSimpArgs false

theorem at_is (l : List Int) (i m : Int) (hl : l.length ≤ 1099511627776) (h0 : -9223372036854775808 ≤ i) (h1 : i ≤ 2199023255552) (hm0 : 0 ≤ m) (hm : m ≤ 8) : word_at.f l i m = some (atz l (i + m)) := by
  unfold word_at.f
  have e1 : wrap64 (-m) = -m := w64 (by omega) (by omega)
  have e2 : wrap64 ((l.length : Int) - m) = l.length - m := w64 (by omega) (by omega)
  rw [e1, e2]
  by_cases c1 : i < -m
  · rw [if_pos c1, atz_neg l (by omega)]
  · rw [if_neg c1]
    by_cases c2 : i ≥ (l.length : Int) - m
    · rw [if_pos c2, atz_ge l (by omega)]
    · rw [if_neg c2]
      have e3 : wrap64 (i + m) = i + m := w64 (by omega) (by omega)
      rw [e3, if_pos (by omega), if_pos (by omega)]
      unfold rd atz; rw [if_pos (by omega)]

theorem get16_is (l : List Int) (i : Int) (hb : Byt l) (hl : l.length ≤ 1099511627776) (h0 : -9223372036854775808 ≤ i) (h1 : i ≤ 2199023255552) : word_Get16.f l i = some (g16 l i) := by
  unfold word_Get16.f
  rw [at_is l i 0 hl h0 h1 (by omega) (by omega), at_is l i 1 hl h0 h1 (by omega) (by omega)]
  simp only [Option.bind_some, Int.add_zero]
  have b0 := atz_byt hb i
  have b1 := atz_byt hb (i + 1)
  rw [w64 (n := atz l i) (by omega) (by omega), w64 (n := atz l (i + 1)) (by omega) (by omega), w64 (n := atz l i * 256) (by omega) (by omega), or_i64_8 _ _ (by omega) (by omega) (by omega) (by omega)]
  rfl

theorem put16_is (n : Int) : word_Put16.f n = some (p16 n) := rfl

theorem concat_go (L : List (List Int)) (hL : L.length < 4611686018427387904) : ∀ (d k : Nat) (x : List Int) (i : Nat), L.length = i + d → d < k → x.length + ((L.drop i).flatten).length < 140737488355328 → slices_Concat_byte_byte.l0 k x L (L.length : Int) (i : Int) = some (x ++ (L.drop i).flatten)
  | _, 0, _, _, _, hk, _ => absurd hk (by omega)
  | d, k + 1, x, i, hd, hk, hx => by
    simp only [slices_Concat_byte_byte.l0]
    by_cases c : (i : Int) < (L.length : Int)
    · have e : L.drop i = L.getD i [] :: L.drop (i + 1) := drop_cons_getD_L (by omega)
      have er : rd_L1 L (i : Int) = L.getD i [] := by unfold rd_L1; rw [show ((i : Int)).toNat = i by omega]
      rw [e, List.flatten_cons, List.length_append] at hx
      rw [if_pos c, if_pos (by omega), if_pos c, er, if_pos (by omega), w64 (n := (i : Int) + 1) (by omega) (by omega), show ((i : Int) + 1) = ((i + 1 : Nat) : Int) by omega]
      cases d with
      | zero => omega
      | succ d =>
        rw [concat_go L hL d k _ (i + 1) (by omega) (by omega) (by rw [List.length_append]; omega), e, List.flatten_cons, List.append_assoc]
    · rw [if_neg c, List.drop_of_length_le (by omega)]; simp
theorem join_is (L : List (List Int)) (k : Nat) (hL : L.length < 4611686018427387904) (hk : L.length < k) (h : L.flatten.length < 140737488355328) : word_Join.f k L = some L.flatten := by
  unfold word_Join.f slices_Concat_byte_byte.f
  have h0 := concat_go L hL L.length k [] 0 (by omega) hk (by simpa using h)
  rw [List.drop_zero, List.nil_append] at h0
  rw [show ((0 : Nat) : Int) = 0 from rfl] at h0
  rw [h0, ob]

theorem folded_is : ∀ (d k : Nat) (n : Int), 0 ≤ n → n ≤ 65535 * (d + 1) → n < 4611686018427387904 → d < k → sum_folded.l0 k n = some (fo n)
  | d, 0, _, _, _, _, hk => absurd hk (by omega)
  | d, k + 1, n, h0, h1, h2, hk => by
    simp only [sum_folded.l0]
    by_cases c : n > 65535
    · rw [if_pos c, and_u64_65535, wrap_u64, Int.emod_eq_of_lt (by omega) (by omega)]
      cases d with
      | zero => omega
      | succ d => rw [folded_is d k _ (by omega) (by omega) (by omega) (by omega), fo_step (by omega)]
    · rw [if_neg c, fo_small h0 (by omega)]
theorem foldedf_is (d k : Nat) (n : Int) (h0 : 0 ≤ n) (h1 : n ≤ 65535 * (d + 1)) (h2 : n < 4611686018427387904) (hk : d < k) : sum_folded.f k n = some (fo n) := folded_is d k n h0 h1 h2 hk

theorem of_l1 (rows : List (List Int)) (n x11 : Int) (row : List Int) (hb : Byt row) (hl : row.length ≤ 1099511627776) : ∀ (d k i : Nat) (acc : Int) (low : Bool), i + d = row.length → 0 ≤ acc → acc + 65280 * d < 4611686018427387904 →
    sum_Of.l1 (k + d + 1) acc low rows n x11 row (row.length : Int) (i : Int) = sum_Of.l0 k (acc + sp low (row.drop i)) (low ^^ odd d) rows n (wrap64 (x11 + 1))
  | 0, k, i, acc, low, hi, h0, h1 => by
    simp only [sum_Of.l1]
    rw [if_neg (by omega), List.drop_eq_nil_of_le (by omega)]
    simp [sp, odd]
  | d + 1, k, i, acc, low, hi, h0, h1 => by
    have hlt : i < row.length := by omega
    have b := getD_byt hb i
    have e : k + (d + 1) + 1 = (k + d + 1) + 1 := by omega
    rw [e, sum_Of.l1]
    rw [if_pos (by omega), if_pos (by omega), if_pos (by omega)]
    have er : rd row (i : Int) = row.getD i 0 := by unfold rd; simp
    have ew : wrap64 ((i : Int) + 1) = ((i + 1 : Nat) : Int) := by rw [w64 (by omega) (by omega)]; omega
    rw [er, ew, drop_cons_getD hlt]
    cases low with
    | true =>
      rw [if_pos rfl, wrap_u64, wrap_u64, Int.emod_eq_of_lt (a := row.getD i 0) (by omega) (by omega), Int.emod_eq_of_lt (a := acc + row.getD i 0) (by omega) (by omega), of_l1 rows n x11 row hb hl d k (i + 1) _ _ (by omega) (by omega) (by omega)]
      rw [odd_succ, sp, Int.add_assoc]; simp
    | false =>
      rw [if_neg (by decide), wrap_u64, wrap_u64, wrap_u64, Int.emod_eq_of_lt (a := row.getD i 0) (by omega) (by omega), Int.emod_eq_of_lt (a := row.getD i 0 * 256) (by omega) (by omega), Int.emod_eq_of_lt (a := acc + row.getD i 0 * 256) (by omega) (by omega), of_l1 rows n x11 row hb hl d k (i + 1) _ _ (by omega) (by omega) (by omega)]
      rw [odd_succ, sp, Int.add_assoc]; simp
theorem of_l0 (rows : List (List Int)) (hb : BytL rows) (hl : rows.flatten.length ≤ 1048576) (hn : rows.length ≤ 1048576) : ∀ (m k j : Nat) (acc : Int) (low : Bool), j + m = rows.length → 0 ≤ acc → acc + 65280 * (rows.drop j).flatten.length ≤ 68451041280 →
    2 * m + (rows.drop j).flatten.length + 1048576 < k → sum_Of.l0 k acc low rows (rows.length : Int) (j : Int) = some (65535 - fo (acc + sp low (rows.drop j).flatten))
  | 0, 0, _, _, _, _, _, _, hk => absurd hk (by omega)
  | 0, k + 1, j, acc, low, hj, h0, h1, hk => by
    simp only [sum_Of.l0]
    rw [if_neg (by omega), List.drop_eq_nil_of_le (by omega)]
    have ha : acc ≤ 68451041280 := by have : (0 : Int) ≤ (rows.drop j).flatten.length := by omega
                                      omega
    rw [foldedf_is 1048575 k acc h0 (by omega) (by omega) (by omega)]
    have := fo_range acc
    simp only [Option.bind_some, List.flatten_nil, sp, Int.add_zero]
    rw [wrap_u64, Int.emod_eq_of_lt (by omega) (by omega), w64 (by omega) (by omega)]
  | m + 1, k, j, acc, low, hj, h0, h1, hk => by
    have hlt : j < rows.length := by omega
    have ed : rows.drop j = rows.getD j [] :: rows.drop (j + 1) := drop_cons_getD_L hlt
    have hbr : Byt (rows.getD j []) := hb _ (by rw [List.getD_eq_getElem?_getD, List.getElem?_eq_getElem hlt]; exact List.getElem_mem hlt)
    have hlr : (rows.getD j []).length + (rows.drop (j + 1)).flatten.length = (rows.drop j).flatten.length := by rw [ed]; simp
    have hll : (rows.drop j).flatten.length ≤ rows.flatten.length := by
      have := congrArg (fun z => z.flatten.length) (List.take_append_drop j rows)
      simp only [List.flatten_append, List.length_append] at this
      omega
    obtain ⟨k', rfl⟩ : ∃ z, k = (z + (rows.getD j []).length + 1) + 1 := ⟨k - (rows.getD j []).length - 2, by omega⟩
    simp only [sum_Of.l0]
    have er : rd_L1 rows (j : Int) = rows.getD j [] := by unfold rd_L1; simp
    have ew : wrap64 ((j : Int) + 1) = ((j + 1 : Nat) : Int) := by rw [w64 (by omega) (by omega)]; omega
    have hs0 := sp_nonneg low hbr
    have hs1 := sp_le low hbr
    rw [if_pos (by omega), if_pos (by omega), if_pos (by omega), er]
    have h2 := of_l1 rows (rows.length : Int) (j : Int) (rows.getD j []) hbr (by omega) (rows.getD j []).length k' 0 acc low (by omega) h0 (by omega)
    rw [List.drop_zero] at h2
    refine h2.trans ?_
    rw [ew, of_l0 rows hb hl hn m k' (j + 1) _ _ (by omega) (by omega) (by omega) (by omega)]
    rw [ed, List.flatten_cons, sp_append, Int.add_assoc]
/-- more than enough rounds -/
def KO : Nat := 5000000
theorem of_is (rows : List (List Int)) (hb : BytL rows) (hl : rows.flatten.length ≤ 1048576) (hn : rows.length ≤ 1048576) (k : Nat) (hk : KO ≤ k) : sum_Of.f k rows = some (ck rows.flatten) := by
  unfold KO at hk
  unfold sum_Of.f
  have h := of_l0 rows hb hl hn rows.length k 0 0 false (by omega) (by omega) (by rw [List.drop_zero]; omega) (by rw [List.drop_zero]; omega)
  rw [List.drop_zero, Int.zero_add, sp_false] at h
  exact h
theorem of1_is (l : List Int) (hb : Byt l) (hl : l.length ≤ 1048576) (k : Nat) (hk : KO ≤ k) : sum_Of.f k [l] = some (ck l) := by
  rw [of_is [l] (fun x hx => by simp at hx; subst hx; exact hb) (by simpa using hl) (by simp) k hk]; simp
theorem of2_is (a b : List Int) (ha : Byt a) (hb : Byt b) (hl : a.length + b.length ≤ 1048576) (k : Nat) (hk : KO ≤ k) : sum_Of.f k [a, b] = some (ck (a ++ b)) := by
  rw [of_is [a, b] (fun x hx => by simp at hx; rcases hx with rfl | rfl <;> assumption) (by simpa using hl) (by simp) k hk]; simp

theorem clone_is (l : List Int) (hl : l.length < 140737488355328) : bytes_Clone.f l = some l := by
  unfold bytes_Clone.f
  rw [ob, if_pos (by rw [List.length_nil]; omega), List.nil_append]

/-- a pseudo header -/
def ph (s t p n : Int) : List Int := p32 s ++ (p32 t ++ ([0, p] ++ p16 n))
theorem ph_len (s t p n : Int) : (ph s t p n).length = 12 := rfl
theorem ph_byt (s t n : Int) {p : Int} (hp : 0 ≤ p ∧ p ≤ 255) : Byt (ph s t p n) :=
  byt_append (byt_p32 s) (byt_append (byt_p32 t) (byt_append (byt_cons (by omega) (byt_cons (by omega) byt_nil)) (byt_p16 n)))
theorem pseudo_is (s t p n : Int) (hp : 0 ≤ p ∧ p ≤ 255) (K : Nat) (hK : 5 ≤ K) : sum_Pseudo.f K s t p n = some (ph s t p n) := by
  have e : ([p32 s, p32 t, ([0, p] : List Int), p16 n] : List (List Int)).flatten = ph s t p n := by simp [ph]
  unfold sum_Pseudo.f
  rw [show word_Put32.f s = some (p32 s) from rfl, show word_Put32.f t = some (p32 t) from rfl, put16_is, Int.emod_eq_of_lt (a := p) (by omega) (by omega)]
  simp only [ob]
  rw [join_is _ K (by simp) (by simp; omega) (by rw [e, ph_len]; omega), e]
  simp only [ob]

/-- a datagram as it is built, ahead of its checksum -/
def ud (s t : Int) (d : List Int) : List Int := p16 s ++ (p16 t ++ (p16 (8 + d.length) ++ ([0, 0] ++ d)))
theorem ud_len (s t : Int) (d : List Int) : (ud s t d).length = 8 + d.length := by simp [ud, p16]; omega
theorem ud_byt (s t : Int) {d : List Int} (hd : Byt d) : Byt (ud s t d) :=
  byt_append (byt_p16 s) (byt_append (byt_p16 t) (byt_append (byt_p16 _) (byt_append (byt_cons (by omega) (byt_cons (by omega) byt_nil)) hd)))
/-- its checksum -/
def uc (a b s t : Int) (d : List Int) : Int := if ck (ph a b 17 (8 + d.length) ++ ud s t d) = 0 then 65535 else ck (ph a b 17 (8 + d.length) ++ ud s t d)
def uds (a b s t : Int) (d : List Int) : List Int := ((ud s t d).set 6 (uc a b s t d / 256 % 256)).set 7 (uc a b s t d % 256)
theorem uc_range (a b s t : Int) (d : List Int) : 1 ≤ uc a b s t d ∧ uc a b s t d ≤ 65535 := by
  unfold uc
  have := ck_range (ph a b 17 (8 + d.length) ++ ud s t d)
  split <;> omega
theorem uds_len (a b s t : Int) (d : List Int) : (uds a b s t d).length = 8 + d.length := by unfold uds; rw [List.length_set, List.length_set, ud_len]
theorem uds_byt (a b s t : Int) {d : List Int} (hd : Byt d) : Byt (uds a b s t d) :=
  byt_set (byt_set (ud_byt s t hd) _ (by omega)) _ (by omega)
theorem udbuild_is (a b s t : Int) (d : List Int) (hs : 0 ≤ s ∧ s ≤ 65535) (ht : 0 ≤ t ∧ t ≤ 65535) (hd : Byt d) (hl : d.length ≤ 65000) (K : Nat) (hK : KO ≤ K) : udp_Build.f (K + 1) a b s t d = some (uds a b s t d, 0) := by
  have hKO : 7 ≤ KO := by unfold KO; omega
  have e : ([p16 s, p16 t, p16 (8 + d.length), ([0, 0] : List Int), d] : List (List Int)).flatten = ud s t d := by simp [ud]
  have hn := ud_len s t d
  unfold udp_Build.f
  rw [if_neg (by omega), if_neg (by omega), if_neg (by omega), if_neg (by omega), decide_eq_false (by omega)]
  simp only [udp_Build.j0]
  rw [if_neg (by decide), w64 (n := 8 + (d.length : Int)) (by omega) (by omega), put16_is, put16_is, put16_is]
  simp only [ob]
  rw [join_is _ K (by simp) (by simp; omega) (by rw [e, ud_len]; omega), e]
  simp only [ob]
  rw [hn, show ((8 + d.length : Nat) : Int) = 8 + (d.length : Int) by omega, pseudo_is a b 17 _ (by omega) K (by omega)]
  simp only [ob]
  rw [of2_is _ _ (ph_byt a b _ (by omega)) (ud_byt s t hd) (by rw [ph_len, ud_len]; omega) K hK]
  simp only [ob]
  unfold uds uc
  by_cases c : ck (ph a b 17 (8 + d.length) ++ ud s t d) = 0
  · rw [if_pos c, if_pos c, put16_is]
    simp only [ob]
    rw [if_pos (by simp [p16]), if_pos (by omega), if_pos (by simp [p16]), if_pos (by omega)]
    rfl
  · rw [if_neg c, if_neg c, put16_is]
    simp only [ob]
    rw [if_pos (by simp [p16]), if_pos (by omega), if_pos (by simp [p16]), if_pos (by omega)]
    rfl
theorem udbuild_no (a b s t : Int) (d : List Int) (h : s < 0 ∨ s > 65535 ∨ t < 0 ∨ t > 65535 ∨ (d.length : Int) > 65000) (K : Nat) : udp_Build.f (K + 1) a b s t d = some (([] : List Int), 1) := by
  have htr : udp_Build.j0 (K + 1) a b true s t d = some (([] : List Int), 1) := by simp only [udp_Build.j0]; rfl
  unfold udp_Build.f
  by_cases c1 : s < 0
  · rw [if_pos c1]; exact htr
  rw [if_neg c1]
  by_cases c2 : s > 65535
  · rw [if_pos c2]; exact htr
  rw [if_neg c2]
  by_cases c3 : t < 0
  · rw [if_pos c3]; exact htr
  rw [if_neg c3]
  by_cases c4 : t > 65535
  · rw [if_pos c4]; exact htr
  rw [if_neg c4, decide_eq_true (by omega)]; exact htr

/-- what is read behind a datagram that was built, whatever follows it -/
theorem udparse_back (a b s t : Int) (d m : List Int) (hs : 0 ≤ s ∧ s ≤ 65535) (ht : 0 ≤ t ∧ t ≤ 65535) (hd : Byt d) (hm : Byt m) (hl : d.length ≤ 65000) (hl2 : m.length ≤ 65000) : udp_Parse.f (uds a b s t d ++ m) = some (s, t, d, 0) := by
  generalize hR : uds a b s t d = R
  have hRb : Byt R := by rw [← hR]; exact uds_byt a b s t hd
  have hRl : R.length = 8 + d.length := by rw [← hR]; exact uds_len a b s t d
  have e0 : atz R 0 = (s / 256) % 256 := by rw [← hR]; rfl
  have e1 : atz R 1 = s % 256 := by rw [← hR]; rfl
  have e2 : atz R 2 = (t / 256) % 256 := by rw [← hR]; rfl
  have e3 : atz R 3 = t % 256 := by rw [← hR]; rfl
  have e4 : atz R 4 = ((8 + d.length : Int) / 256) % 256 := by rw [← hR]; rfl
  have e5 : atz R 5 = (8 + d.length : Int) % 256 := by rw [← hR]; rfl
  have rdp : R.drop 8 = d := by rw [← hR]; rfl
  have hX : Byt (R ++ m) := byt_append hRb hm
  have hXl : (R ++ m).length = 8 + d.length + m.length := by rw [List.length_append, hRl]
  have g (i : Int) (h : i < 8) : atz (R ++ m) i = atz R i := atz_append_left R m (by omega)
  have g0 : g16 (R ++ m) 0 = s := by unfold g16; rw [show (0 : Int) + 1 = 1 from rfl, g 0 (by omega), g 1 (by omega), e0, e1]; omega
  have g2 : g16 (R ++ m) 2 = t := by unfold g16; rw [show (2 : Int) + 1 = 3 from rfl, g 2 (by omega), g 3 (by omega), e2, e3]; omega
  have g4 : g16 (R ++ m) 4 = 8 + d.length := by unfold g16; rw [show (4 : Int) + 1 = 5 from rfl, g 4 (by omega), g 5 (by omega), e4, e5]; omega
  unfold udp_Parse.f
  rw [get16_is _ 4 hX (by omega) (by omega) (by omega), g4]
  simp only [ob]
  rw [if_neg (by omega), if_neg (by omega), if_neg (by omega), get16_is _ 0 hX (by omega) (by omega) (by omega), g0]
  simp only [ob]
  rw [get16_is _ 2 hX (by omega) (by omega) (by omega), g2]
  simp only [ob]
  rw [if_pos (by omega), if_pos (by omega), show (8 + (d.length : Int)).toNat = R.length by omega, List.take_left, rdp, clone_is d (by omega)]
  simp only [ob]
theorem udknown (K : Nat) (hK : KO ≤ K) : castellanlaw6_known.f (K + 1) = some true := by
  have h := udparse_back 1 2 7 9 [] [] (by omega) (by omega) byt_nil byt_nil (by simp) (by simp)
  rw [List.append_nil] at h
  unfold castellanlaw6_known.f
  rw [udbuild_is 1 2 7 9 [] (by omega) (by omega) byt_nil (by simp) K hK]
  simp only [ob]
  rw [h]
  simp only [ob]
  rw [if_pos True.intro, if_pos (by rw [uds_len]; rfl), if_pos True.intro]
  rfl

/-- what a datagram is read as -/
def up (l : List Int) : Int × Int × List Int × Int := if (l.length : Int) < 8 then (0, 0, ([] : List Int), 3) else if g16 l 4 < 8 then (0, 0, ([] : List Int), 2) else if g16 l 4 > (l.length : Int) then (0, 0, ([] : List Int), 3) else (g16 l 0, g16 l 2, (l.take (g16 l 4).toNat).drop 8, 0)
theorem udparse_is (l : List Int) (hb : Byt l) (hl : l.length ≤ 1048576) : udp_Parse.f l = some (up l) := by
  have hg := g16_lt hb 4
  unfold udp_Parse.f up
  rw [get16_is l 4 hb (by omega) (by omega) (by omega), ob]
  by_cases c1 : (l.length : Int) < 8
  · rw [if_pos c1, if_pos c1]
  rw [if_neg c1, if_neg c1]
  by_cases c2 : g16 l 4 < 8
  · rw [if_pos c2, if_pos c2]
  rw [if_neg c2, if_neg c2]
  by_cases c3 : g16 l 4 > (l.length : Int)
  · rw [if_pos c3, if_pos c3]
  rw [if_neg c3, if_neg c3, get16_is l 0 hb (by omega) (by omega) (by omega), ob, get16_is l 2 hb (by omega) (by omega) (by omega), ob, if_pos (by omega), if_pos (by omega), clone_is _ (by rw [List.length_drop, List.length_take]; omega), ob]

theorem atz_take (l : List Int) {i : Int} {n : Nat} (h : i < n) : atz (l.take n) i = atz l i := by
  unfold atz
  split
  · rw [List.getD_eq_getElem?_getD, List.getD_eq_getElem?_getD, List.getElem?_take_of_lt (by omega)]
  · rfl
theorem g16_take (l : List Int) {i : Int} {n : Nat} (h : i + 1 < n) : g16 (l.take n) i = g16 l i := by
  unfold g16; rw [atz_take l (by omega), atz_take l h]
/-- where it is cut -/
theorem cut_at (x : Int) {n : Nat} (hn : 0 < n) : ∃ k : Nat, Int.tmod (Go.bits .and .i64 x 65535) (n : Int) = (k : Int) ∧ k < n := by
  have h1 := Int.emod_nonneg x (show (65536 : Int) ≠ 0 by decide)
  have h2 := Int.emod_nonneg (x % 65536) (show (n : Int) ≠ 0 by omega)
  have h3 := Int.emod_lt_of_pos (x % 65536) (show (0 : Int) < (n : Int) by omega)
  rw [and_i64_65535, Int.tmod_eq_emod_of_nonneg h1]
  generalize (x % 65536) % (n : Int) = m at h2 h3 ⊢
  exact ⟨m.toNat, by omega, by omega⟩

theorem UdpCut : castellanlaw6_UdpCut.Pure := by
  intro d x h1 h2 hd hx
  have hd := byt_of hd
  obtain ⟨K, hK⟩ : ∃ K : Nat, KO = K := ⟨_, rfl⟩
  refine ⟨K + 2, ?_⟩
  have hkn : castellanlaw6_known.f (K + 1) = some true := udknown K (by omega)
  unfold castellanlaw6_UdpCut.f
  by_cases c : (d.length : Int) > 1000
  · rw [if_pos c]
  rw [if_neg c, show K + 2 = (K + 1) + 1 from rfl, udbuild_is 1 2 3 4 d (by omega) (by omega) hd (by omega) (K + 1) (by omega), ob, if_pos rfl]
  have g4 : g16 (uds 1 2 3 4 d) 4 = 8 + d.length := by
    have a : atz (uds 1 2 3 4 d) 4 = ((8 + d.length : Int) / 256) % 256 := rfl
    have b : atz (uds 1 2 3 4 d) 5 = (8 + d.length : Int) % 256 := rfl
    unfold g16; rw [show (4 : Int) + 1 = 5 from rfl, a, b]; omega
  have hRb := uds_byt 1 2 3 4 hd
  have hRl := uds_len 1 2 3 4 d
  generalize uds 1 2 3 4 d = R at g4 hRb hRl ⊢
  obtain ⟨k, hk, hk2⟩ := cut_at x (n := R.length) (by omega)
  have hl8 : ¬ ((R.length : Int) < 8) := by omega
  dsimp only
  rw [decide_eq_false hl8]
  simp only [castellanlaw6_UdpCut.j0]
  have hup : (up (R.take k)).2.2.2 = 3 := by
    have hl : (R.take k).length = k := by rw [List.length_take]; omega
    unfold up
    by_cases c1 : ((R.take k).length : Int) < 8
    · rw [if_pos c1]
    · rw [if_neg c1, g16_take R (by omega), g4, if_neg (by omega), if_pos (by omega)]
  rw [if_neg (by decide), if_neg (by omega), hk, if_pos (by omega), if_pos (by omega), Int.toNat_natCast, udparse_is _ (byt_take hRb k) (by rw [List.length_take]; omega), ob, if_pos hup, hkn]
  rfl

end Go.Proofs.Ytbpnienknijogaa.Pure
