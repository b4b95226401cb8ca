/- what Put16 and Put32 put behind a row is what Get16 and Get32 get there. No condition besides the law's own guards. -/
import Derived.Test.YtakdkbdojdjpkaaQWordBackx1
import Derived.Test.YtakdkbdojdjpkaaBase
namespace Go.Proofs.Ytakdkbdojdjpkaa.Pure
open Go.RowKit Go.Proofs.Ytakdkbdojdjpkaa.QWordBack Go.Proofs.YtakdkbdojdjpkaaW.PrintWords Go.Proofs.YtakdkbdojdjpkaaW.PrintLast Go.Proofs.YtakdkbdojdjpkaaW.PrintMore Go.Proofs.Ytakdkbdojdjpkaa.Base
open Go
set_option linter.unusedVariables false
set_option linter.unusedSimpArgs false

theorem at_is (l : List Int) (i m : Int) (hl : l.length ≤ 1099511627776) (h0 : -9223372036854775808 ≤ i) (h1 : i ≤ 2199023255552) (hm0 : 0 ≤ m) (hm : m ≤ 8) : word_at.f l i m = some (atz l (i + m)) := by
  unfold word_at.f
  have e1 : wrap64 (-m) = -m := w64 (by omega) (by omega)
  have e2 : wrap64 ((l.length : Int) - m) = l.length - m := w64 (by omega) (by omega)
  rw [e1, e2]
  by_cases c1 : i < -m
  · rw [if_pos c1, atz_neg l (by omega)]
  · rw [if_neg c1]
    by_cases c2 : i ≥ (l.length : Int) - m
    · rw [if_pos c2, atz_ge l (by omega)]
    · rw [if_neg c2]
      have e3 : wrap64 (i + m) = i + m := w64 (by omega) (by omega)
      rw [e3, if_pos (by omega), if_pos (by omega)]
      unfold rd atz; rw [if_pos (by omega)]

theorem get16_is (l : List Int) (i : Int) (hb : Byt l) (hl : l.length ≤ 1099511627776) (h0 : -9223372036854775808 ≤ i) (h1 : i ≤ 2199023255552) : word_Get16.f l i = some (g16 l i) := by
  unfold word_Get16.f
  rw [at_is l i 0 hl h0 h1 (by omega) (by omega), at_is l i 1 hl h0 h1 (by omega) (by omega)]
  simp only [Option.bind_some, Int.add_zero]
  have b0 := atz_byt hb i
  have b1 := atz_byt hb (i + 1)
  rw [w64 (n := atz l i) (by omega) (by omega), w64 (n := atz l (i + 1)) (by omega) (by omega), w64 (n := atz l i * 256) (by omega) (by omega), or_i64_8 _ _ (by omega) (by omega) (by omega) (by omega)]
  rfl

theorem get32_step (l : List Int) (i : Int) (hb : Byt l) (hl : l.length ≤ 1099511627776) (h0 : -9223372036854775808 ≤ i) (h1 : i ≤ 2199023255552) (k : Nat) (x j : Int) (hx0 : 0 ≤ x) (hx : x < 16777216) (hj0 : 0 ≤ j) (hj : j < 4) :
    word_Get32.l0 (k + 1) l i x j = word_Get32.l0 k l i (x * 256 + atz l (i + j)) (j + 1) := by
  have b0 := atz_byt hb (i + j)
  simp only [word_Get32.l0]
  rw [if_pos hj, at_is l i j hl h0 h1 hj0 (by omega)]
  simp only [Option.bind_some]
  rw [w64 (n := j + 1) (by omega) (by omega), Int.emod_eq_of_lt (a := x * 256) (by omega) (by omega), Int.emod_eq_of_lt (a := atz l (i + j)) (by omega) (by omega), or_u32_8 _ _ hx0 hx (by omega) (by omega)]
theorem get32_is (l : List Int) (i : Int) (hb : Byt l) (hl : l.length ≤ 1099511627776) (h0 : -9223372036854775808 ≤ i) (h1 : i ≤ 2199023255552) (k : Nat) (hk : 5 ≤ k) : word_Get32.f k l i = some (g32 l i) := by
  obtain ⟨k, rfl⟩ : ∃ m, k = m + 5 := ⟨k - 5, by omega⟩
  have b0 := atz_byt hb (i + 0)
  have b1 := atz_byt hb (i + (0 + 1))
  have b2 := atz_byt hb (i + (0 + 1 + 1))
  have b3 := atz_byt hb (i + (0 + 1 + 1 + 1))
  unfold word_Get32.f
  rw [get32_step l i hb hl h0 h1 (k + 4) 0 0 (by omega) (by omega) (by omega) (by omega), get32_step l i hb hl h0 h1 (k + 3) _ _ (by omega) (by omega) (by omega) (by omega),
    get32_step l i hb hl h0 h1 (k + 2) _ _ (by omega) (by omega) (by omega) (by omega), get32_step l i hb hl h0 h1 (k + 1) _ _ (by omega) (by omega) (by omega) (by omega)]
  simp only [word_Get32.l0]
  rw [if_neg (by omega)]
  unfold g32
  rw [show i + (0 + 1) = i + 1 by omega, show i + (0 + 1 + 1) = i + 2 by omega, show i + (0 + 1 + 1 + 1) = i + 3 by omega, Int.add_zero]
  congr 1; omega

theorem wordKnown_is : castellanlaw1_known.f = some true := by
  have hb : Byt [1, 2] := byt_cons (by omega) (byt_cons (by omega) byt_nil)
  unfold castellanlaw1_known.f word_Put16.f
  simp only [Option.bind_some]
  rw [if_pos (by decide +kernel), get16_is [1, 2] 0 hb (by simp) (by omega) (by omega)]
  rfl

theorem put16_is (n : Int) : word_Put16.f n = some (p16 n) := rfl

theorem concat_go (L : List (List Int)) (hL : L.length < 4611686018427387904) : ∀ (d k : Nat) (x : List Int) (i : Nat), L.length = i + d → d < k → x.length + ((L.drop i).flatten).length < 140737488355328 → slices_Concat_byte_byte.l0 k x L (L.length : Int) (i : Int) = some (x ++ (L.drop i).flatten)
  | _, 0, _, _, _, hk, _ => absurd hk (by omega)
  | d, k + 1, x, i, hd, hk, hx => by
    simp only [slices_Concat_byte_byte.l0]
    by_cases c : (i : Int) < (L.length : Int)
    · have e : L.drop i = L.getD i [] :: L.drop (i + 1) := drop_cons_getD_L (by omega)
      have er : rd_L1 L (i : Int) = L.getD i [] := by unfold rd_L1; rw [show ((i : Int)).toNat = i by omega]
      rw [e, List.flatten_cons, List.length_append] at hx
      rw [if_pos c, if_pos (by omega), if_pos c, er, if_pos (by omega), w64 (n := (i : Int) + 1) (by omega) (by omega), show ((i : Int) + 1) = ((i + 1 : Nat) : Int) by omega]
      cases d with
      | zero => omega
      | succ d =>
        rw [concat_go L hL d k _ (i + 1) (by omega) (by omega) (by rw [List.length_append]; omega), e, List.flatten_cons, List.append_assoc]
    · rw [if_neg c, List.drop_of_length_le (by omega)]; simp
theorem join_is (L : List (List Int)) (k : Nat) (hL : L.length < 4611686018427387904) (hk : L.length < k) (h : L.flatten.length < 140737488355328) : word_Join.f k L = some L.flatten := by
  unfold word_Join.f slices_Concat_byte_byte.f
  have h0 := concat_go L hL L.length k [] 0 (by omega) hk (by simpa using h)
  rw [List.drop_zero, List.nil_append] at h0
  rw [show ((0 : Nat) : Int) = 0 from rfl] at h0
  rw [h0, ob]

theorem WordBack : castellanlaw1_WordBack.Pure := by
  intro l a b h0 h1 hb ha hb2
  have hb := byt_of hb
  have ha := u16_of ha
  have hb2 := u32_of hb2
  refine ⟨7, ?_⟩
  unfold castellanlaw1_WordBack.f
  by_cases c1 : (l.length : Int) > 2000
  · rw [if_pos c1]
  rw [if_neg c1, w64 (n := a) (by omega) (by omega), put16_is, show word_Put32.f b = some (p32 b) from rfl]
  simp only [ob]
  have e : ([l, p16 a, p32 b] : List (List Int)).flatten = l ++ (p16 a ++ p32 b) := by simp
  have hq : (l ++ (p16 a ++ p32 b)).length = l.length + 6 := by simp [p16, p32]
  rw [join_is _ 7 (by simp) (by simp) (by rw [e]; omega), e]
  simp only [ob]
  have hB : Byt (l ++ (p16 a ++ p32 b)) := byt_append hb (byt_append (byt_p16 a) (byt_p32 b))
  have x : ∀ i : Nat, atz (l ++ (p16 a ++ p32 b)) ((l.length : Int) + i) = (p16 a ++ p32 b).getD i 0 := by
    intro i
    rw [atz_append_right _ _ (by omega), show (l.length : Int) + (i : Int) - (l.length : Int) = (i : Int) by omega]
    unfold atz; rw [if_pos (by omega), show ((i : Int)).toNat = i by omega]
  have x0 := x 0; have x1 := x 1; have x2 := x 2; have x3 := x 3; have x4 := x 4; have x5 := x 5
  simp [p16, p32] at x0 x1 x2 x3 x4 x5
  rw [if_pos (by rw [hq, w64 (by omega) (by omega)]; omega), get16_is _ _ hB (by omega) (by omega) (by omega)]
  simp only [ob]
  rw [if_pos (by unfold g16; simp only [p16, p32, List.cons_append, List.nil_append]; rw [x0, x1]; omega), w64 (n := (l.length : Int) + 2) (by omega) (by omega), get32_is _ _ hB (by omega) (by omega) (by omega) 7 (by omega)]
  simp only [ob]
  rw [if_pos (by unfold g32; rw [show (l.length : Int) + 2 + 1 = (l.length : Int) + 3 by omega, show (l.length : Int) + 2 + 2 = (l.length : Int) + 4 by omega, show (l.length : Int) + 2 + 3 = (l.length : Int) + 5 by omega]; simp only [p16, p32, List.cons_append, List.nil_append]; rw [x2, x3, x4, x5]; omega), wordKnown_is]
  rfl

end Go.Proofs.Ytakdkbdojdjpkaa.Pure
