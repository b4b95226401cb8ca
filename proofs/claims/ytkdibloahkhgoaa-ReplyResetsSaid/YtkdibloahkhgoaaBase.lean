/- Plain lemmas of this session's own on bits, lists of bytes and the sum of words that the proofs of this seat share. No condition. -/
import Derived.Laws.BitsLemmas
import Derived.RowKit
import Derived.Laws.BytesArg
namespace Go.Proofs.Ytkdibloahkhgoaa.Base
open Go Go.RowKit

theorem wrap_u64 (n : Int) : IntKind.u64.wrap n = n % 18446744073709551616 := by simp [IntKind.wrap, IntKind.bits, IntKind.signed]
theorem wraps_i64 (n : Int) (h₀ : 0 ≤ n) (h₁ : n < 2 ^ 63) : IntKind.i64.wrap n = n := by rw [IntKind.wrap_i64]; omega
theorem wraps_u32 (n : Int) (h₀ : 0 ≤ n) (h₁ : n < 2 ^ 32) : IntKind.u32.wrap n = n := by rw [IntKind.wrap_u32]; omega
theorem wraps_u64 (n : Int) (h₀ : 0 ≤ n) (h₁ : n < 2 ^ 64) : IntKind.u64.wrap n = n := by rw [wrap_u64]; omega

theorem w64 {n : Int} (h0 : -9223372036854775808 ≤ n) (h1 : n ≤ 9223372036854775807) : wrap64 n = n := by unfold wrap64; omega

theorem ofInt_mask (w i : Nat) (x : Int) (hi : i ≤ w) : (BitVec.ofInt w x &&& BitVec.ofInt w (2 ^ i - 1)).toNat = (x % 2 ^ i).toNat := by
  have hpos : 0 < 2 ^ i := Nat.two_pow_pos i
  have hc : ((2 : Int) ^ i - 1) = ((2 ^ i - 1 : Nat) : Int) := by rw [Int.natCast_sub hpos]; simp
  have hle : 2 ^ i ≤ 2 ^ w := Nat.pow_le_pow_right (by decide) hi
  rw [hc, BitVec.toNat_and, BitVec.ofInt_natCast, BitVec.toNat_ofNat, BitVec.toNat_ofInt, Nat.mod_eq_of_lt (show 2 ^ i - 1 < 2 ^ w by omega), Nat.and_two_pow_sub_one_eq_mod]
  have h2 : (0 : Int) < ((2 ^ w : Nat) : Int) := by have := Nat.two_pow_pos w; omega
  obtain ⟨c, hc'⟩ : (2 ^ i : Nat) ∣ 2 ^ w := Nat.pow_dvd_pow 2 hi
  have e1 : (x % ((2 ^ w : Nat) : Int)) % ((2 ^ i : Nat) : Int) = x % ((2 ^ i : Nat) : Int) := by
    apply Int.emod_emod_of_dvd
    exact ⟨(c : Int), by rw [hc']; push_cast; rfl⟩
  have e2 : 0 ≤ x % ((2 ^ w : Nat) : Int) := Int.emod_nonneg _ (by omega)
  have e3 : ((2 : Int) ^ i) = ((2 ^ i : Nat) : Int) := by push_cast; rfl
  rw [e3]
  have e4 : 0 ≤ x % ((2 ^ i : Nat) : Int) := Int.emod_nonneg _ (by omega)
  apply Int.ofNat.inj
  show ((( x % ((2 ^ w : Nat) : Int)).toNat % 2 ^ i : Nat) : Int) = ((x % ((2 ^ i : Nat) : Int)).toNat : Int)
  rw [Int.toNat_of_nonneg e4, Int.natCast_emod, Int.toNat_of_nonneg e2, e1]

theorem and_i64 (i : Nat) (hi : i ≤ 62) (x : Int) : bits .and .i64 x (2 ^ i - 1) = x % 2 ^ i := by
  have hp : (0 : Int) < 2 ^ i := Int.pow_pos (by decide)
  have h1 : x % 2 ^ i < 2 ^ i := Int.emod_lt_of_pos _ hp
  have h0 : 0 ≤ x % 2 ^ i := Int.emod_nonneg _ (by omega)
  have h2 : ((2 : Nat) ^ i) ≤ 2 ^ 62 := Nat.pow_le_pow_right (by decide) hi
  have h3 : ((2 : Int) ^ i) ≤ 2 ^ 62 := by exact_mod_cast h2
  simp only [bits]
  have e := ofInt_mask 64 i x (by omega)
  show IntKind.i64.wrap ((BitVec.ofInt 64 x &&& BitVec.ofInt 64 (2 ^ i - 1)).toNat : Int) = x % 2 ^ i
  rw [e, Int.toNat_of_nonneg h0, wraps_i64 _ h0 (by omega)]

theorem and_u64 (i : Nat) (hi : i ≤ 62) (x : Int) : bits .and .u64 x (2 ^ i - 1) = x % 2 ^ i := by
  have hp : (0 : Int) < 2 ^ i := Int.pow_pos (by decide)
  have h1 : x % 2 ^ i < 2 ^ i := Int.emod_lt_of_pos _ hp
  have h0 : 0 ≤ x % 2 ^ i := Int.emod_nonneg _ (by omega)
  have h2 : ((2 : Nat) ^ i) ≤ 2 ^ 62 := Nat.pow_le_pow_right (by decide) hi
  have h3 : ((2 : Int) ^ i) ≤ 2 ^ 62 := by exact_mod_cast h2
  simp only [bits]
  have e := ofInt_mask 64 i x (by omega)
  show IntKind.u64.wrap ((BitVec.ofInt 64 x &&& BitVec.ofInt 64 (2 ^ i - 1)).toNat : Int) = x % 2 ^ i
  rw [e, Int.toNat_of_nonneg h0, wraps_u64 _ h0 (by omega)]

theorem and_u8 (i : Nat) (hi : i ≤ 8) (x : Int) (h₀ : 0 ≤ x) (h₁ : x < 256) : bits .and .u8 x (2 ^ i - 1) = x % 2 ^ i := bits_mask .u8 8 (by decide) wraps_u8 i hi x h₀ h₁

theorem or_i64 (i : Nat) (hi : i ≤ 62) (x y : Int) (hx₀ : 0 ≤ x) (hx : x % 2 ^ i = 0) (hx₁ : x < 2 ^ 63) (hy₀ : 0 ≤ y) (hy : y < 2 ^ i) : bits .or .i64 x y = x + y :=
  bits_join .i64 63 (by decide) wraps_i64 i x y hx₀ hx hx₁ hy₀ hy (by
    have h2 : ((2 : Nat) ^ i) ≤ 2 ^ 62 := Nat.pow_le_pow_right (by decide) hi
    have h3 : ((2 : Int) ^ i) ≤ 2 ^ 62 := by exact_mod_cast h2
    omega)
theorem or_u32 (i : Nat) (hi : i ≤ 32) (x y : Int) (hx₀ : 0 ≤ x) (hx : x % 2 ^ i = 0) (hx₁ : x < 2 ^ 32) (hy₀ : 0 ≤ y) (hy : y < 2 ^ i) : bits .or .u32 x y = x + y :=
  bits_join .u32 32 (by decide) wraps_u32 i x y hx₀ hx hx₁ hy₀ hy (by
    have h2 : ((2 : Nat) ^ i) ≤ 2 ^ 32 := Nat.pow_le_pow_right (by decide) hi
    have h3 : ((2 : Int) ^ i) ≤ 2 ^ 32 := by exact_mod_cast h2
    omega)

/-- a bind, told so that it is rewritten and not unfolded -/
theorem ob {α β : Type} (a : α) (f : α → Option β) : (some a).bind f = f a := by rw [Option.bind_some]

def Byt (l : List Int) : Prop := ∀ x ∈ l, 0 ≤ x ∧ x < 256
theorem byt_of {l : List Int} (h : ∀ x ∈ l, (Lit.int .u8 x).wf = true) : Byt l := fun x hx => by
  have := h x hx
  simp [Lit.wf, IntKind.min, IntKind.max, IntKind.signed, IntKind.bits] at this
  omega
theorem u32_of {x : Int} (h : (Lit.int .u32 x).wf = true) : 0 ≤ x ∧ x ≤ 4294967295 := by
  simp [Lit.wf, IntKind.min, IntKind.max, IntKind.signed, IntKind.bits] at h
  omega

/-- the byte at a place; 0 where there is none -/
def atz (l : List Int) (i : Int) : Int := if 0 ≤ i then l.getD i.toNat 0 else 0
theorem getD_byt {l : List Int} (h : Byt l) (n : Nat) : 0 ≤ l.getD n 0 ∧ l.getD n 0 < 256 := by
  rw [List.getD_eq_getElem?_getD]
  rcases Nat.lt_or_ge n l.length with hn | hn
  · rw [List.getElem?_eq_getElem hn]; exact h _ (List.getElem_mem hn)
  · rw [List.getElem?_eq_none hn]; simp
theorem atz_byt {l : List Int} (h : Byt l) (i : Int) : 0 ≤ atz l i ∧ atz l i < 256 := by
  unfold atz; split
  · exact getD_byt h _
  · omega
theorem atz_neg (l : List Int) {i : Int} (h : i < 0) : atz l i = 0 := by unfold atz; rw [if_neg (by omega)]
theorem atz_ge (l : List Int) {i : Int} (h : (l.length : Int) ≤ i) : atz l i = 0 := by
  unfold atz; rw [if_pos (by omega), List.getD_eq_getElem?_getD, List.getElem?_eq_none (by omega)]; rfl
def g16 (l : List Int) (i : Int) : Int := atz l i * 256 + atz l (i + 1)
def g32 (l : List Int) (i : Int) : Int := atz l i * 16777216 + atz l (i + 1) * 65536 + atz l (i + 2) * 256 + atz l (i + 3)
theorem g16_lt {l : List Int} (h : Byt l) (i : Int) : 0 ≤ g16 l i ∧ g16 l i < 65536 := by
  unfold g16; have := atz_byt h i; have := atz_byt h (i + 1); omega
def p16 (n : Int) : List Int := [(n / 256) % 256, n % 256]
def p32 (n : Int) : List Int := [(n / 16777216) % 256, (n / 65536) % 256, (n / 256) % 256, n % 256]
theorem byt_p16 (n : Int) : Byt (p16 n) := by intro x hx; simp [p16] at hx; omega
theorem byt_p32 (n : Int) : Byt (p32 n) := by intro x hx; simp [p32] at hx; omega
theorem byt_nil : Byt [] := by intro x hx; simp at hx
theorem byt_cons {a : Int} {l : List Int} (h : 0 ≤ a ∧ a < 256) (hl : Byt l) : Byt (a :: l) := by
  intro x hx; rcases List.mem_cons.mp hx with rfl | hx
  · exact h
  · exact hl x hx
theorem byt_append {a b : List Int} (ha : Byt a) (hb : Byt b) : Byt (a ++ b) := by
  intro x hx; rcases List.mem_append.mp hx with h | h
  · exact ha x h
  · exact hb x h
theorem byt_set {l : List Int} (hl : Byt l) (n : Nat) {a : Int} (h : 0 ≤ a ∧ a < 256) : Byt (l.set n a) := by
  intro x hx; rcases List.mem_or_eq_of_mem_set hx with hx | rfl
  · exact hl x hx
  · exact h
theorem atz_append_left (a b : List Int) {i : Int} (h : i < a.length) : atz (a ++ b) i = atz a i := by
  unfold atz; split
  · rw [List.getD_eq_getElem?_getD, List.getD_eq_getElem?_getD, List.getElem?_append_left (by omega)]
  · rfl
/-- the sum of the words -/
def sm : List Int → Int
  | [] => 0
  | [a] => a * 256
  | a :: b :: t => a * 256 + b + sm t
theorem sm_nonneg : ∀ {l : List Int}, Byt l → 0 ≤ sm l
  | [], _ => by simp [sm]
  | [a], h => by have := h a (by simp); simp [sm]; omega
  | a :: b :: t, h => by
    have h1 := h a (by simp); have h2 := h b (by simp)
    have := sm_nonneg (l := t) (fun x hx => h x (by simp [hx])); simp [sm]; omega
theorem sm_append : ∀ (a b : List Int), a.length % 2 = 0 → sm (a ++ b) = sm a + sm b
  | [], b, _ => by simp [sm]
  | [a], b, h => by simp at h
  | x :: y :: t, b, h => by
    have := sm_append t b (by simp at h; omega)
    simp only [List.cons_append, sm, this]; omega
/-- a sum of 16 bits -/
def fo (n : Int) : Int := if n = 0 then 0 else (n - 1) % 65535 + 1
theorem fo_small {n : Int} (h0 : 0 ≤ n) (h : n ≤ 65535) : fo n = n := by unfold fo; split <;> omega
theorem fo_step {n : Int} (h : 65535 < n) : fo (n / 65536 + n % 65536) = fo n := by
  unfold fo
  rw [if_neg (by omega), if_neg (by omega)]; omega
theorem fo_range (n : Int) : 0 ≤ fo n ∧ fo n ≤ 65535 := by unfold fo; split <;> omega
theorem fo_add {a b : Int} (ha : 0 ≤ a) (hb : 0 ≤ b) : fo (fo a + b) = fo (a + b) := by
  unfold fo; split <;> split <;> split <;> omega
theorem and_u64_65535 (x : Int) : bits .and .u64 x 65535 = x % 65536 := by simpa using and_u64 16 (by decide) x
theorem and_i64_65535 (x : Int) : bits .and .i64 x 65535 = x % 65536 := by simpa using and_i64 16 (by decide) x
theorem and_i64_8191 (x : Int) : bits .and .i64 x 8191 = x % 8192 := by simpa using and_i64 13 (by decide) x
theorem and_u8_15 (x : Int) (h₀ : 0 ≤ x) (h₁ : x < 256) : bits .and .u8 x 15 = x % 16 := by simpa using and_u8 4 (by decide) x h₀ h₁
theorem and_u8_63 (x : Int) (h₀ : 0 ≤ x) (h₁ : x < 256) : bits .and .u8 x 63 = x % 64 := by simpa using and_u8 6 (by decide) x h₀ h₁
theorem or_i64_8 (x y : Int) (hx₀ : 0 ≤ x) (hx₁ : x < 2 ^ 40) (hy₀ : 0 ≤ y) (hy : y < 256) : bits .or .i64 (x * 256) y = x * 256 + y :=
  or_i64 8 (by decide) _ _ (by omega) (by omega) (by omega) hy₀ (by omega)
theorem or_u32_8 (x y : Int) (hx₀ : 0 ≤ x) (hx₁ : x < 16777216) (hy₀ : 0 ≤ y) (hy : y < 256) : bits .or .u32 (x * 256) y = x * 256 + y :=
  or_u32 8 (by decide) _ _ (by omega) (by omega) (by omega) hy₀ (by omega)
theorem or_u32_16 (x y : Int) (hx₀ : 0 ≤ x) (hx₁ : x < 65536) (hy₀ : 0 ≤ y) (hy : y < 65536) : bits .or .u32 (x * 65536) y = x * 65536 + y :=
  or_u32 16 (by decide) _ _ (by omega) (by omega) (by omega) hy₀ (by omega)
theorem or_u32_24 (x y : Int) (hx₀ : 0 ≤ x) (hx₁ : x < 256) (hy₀ : 0 ≤ y) (hy : y < 16777216) : bits .or .u32 (x * 16777216) y = x * 16777216 + y :=
  or_u32 24 (by decide) _ _ (by omega) (by omega) (by omega) hy₀ (by omega)

def sp : Bool → List Int → Int
  | _, [] => 0
  | false, a :: t => a * 256 + sp true t
  | true, a :: t => a + sp false t
theorem sp_false : ∀ l, sp false l = sm l
  | [] => rfl
  | [a] => by simp [sp, sm]
  | a :: b :: t => by simp [sp, sm, sp_false t]; omega
def odd (n : Nat) : Bool := n % 2 == 1
theorem odd_succ (n : Nat) : odd (n + 1) = !odd n := by
  unfold odd
  rcases Nat.mod_two_eq_zero_or_one n with h | h
  · rw [show (n + 1) % 2 = 1 by omega, h]; rfl
  · rw [show (n + 1) % 2 = 0 by omega, h]; rfl
theorem sp_append : ∀ (a b : List Int) (low : Bool), sp low (a ++ b) = sp low a + sp (low ^^ odd a.length) b
  | [], b, low => by simp [sp, odd]
  | x :: t, b, false => by
    have h := sp_append t b true
    rw [List.cons_append, sp, sp, h, List.length_cons, odd_succ]; simp; omega
  | x :: t, b, true => by
    have h := sp_append t b false
    rw [List.cons_append, sp, sp, h, List.length_cons, odd_succ]; simp; omega
theorem sp_nonneg : ∀ {l : List Int} (low : Bool), Byt l → 0 ≤ sp low l
  | [], _, _ => by simp [sp]
  | a :: t, false, h => by
    have h1 := h a (by simp); have := sp_nonneg (l := t) true (fun x hx => h x (by simp [hx])); rw [sp]; omega
  | a :: t, true, h => by
    have h1 := h a (by simp); have := sp_nonneg (l := t) false (fun x hx => h x (by simp [hx])); rw [sp]; omega
theorem sp_le : ∀ {l : List Int} (low : Bool), Byt l → sp low l ≤ 65280 * l.length
  | [], _, _ => by simp [sp]
  | a :: t, false, h => by
    have h1 := h a (by simp); have := sp_le (l := t) true (fun x hx => h x (by simp [hx])); rw [sp]; simp; omega
  | a :: t, true, h => by
    have h1 := h a (by simp); have := sp_le (l := t) false (fun x hx => h x (by simp [hx])); rw [sp]; simp; omega
theorem drop_cons_getD {l : List Int} {i : Nat} (h : i < l.length) : l.drop i = l.getD i 0 :: l.drop (i + 1) := by
  rw [List.drop_eq_getElem_cons h]; simp [List.getD_eq_getElem?_getD, List.getElem?_eq_getElem h]
theorem drop_cons_getD_L {l : List (List Int)} {i : Nat} (h : i < l.length) : l.drop i = l.getD i [] :: l.drop (i + 1) := by
  rw [List.drop_eq_getElem_cons h]; simp [List.getD_eq_getElem?_getD, List.getElem?_eq_getElem h]
def BytL (l : List (List Int)) : Prop := ∀ x ∈ l, Byt x
theorem byt_drop {l : List Int} (h : Byt l) (n : Nat) : Byt (l.drop n) := fun x hx => h x (List.mem_of_mem_drop hx)
theorem byt_take {l : List Int} (h : Byt l) (n : Nat) : Byt (l.take n) := fun x hx => h x (List.mem_of_mem_take hx)
/-- the checksum -/
def ck (l : List Int) : Int := 65535 - fo (sm l)
theorem ck_range (l : List Int) : 0 ≤ ck l ∧ ck l ≤ 65535 := by unfold ck; have := fo_range (sm l); omega

def wt (low : Bool) (i : Nat) : Int := if (low ^^ odd i) then 1 else 256
theorem sp_set : ∀ (l : List Int) (low : Bool) (i : Nat) (v : Int), i < l.length → sp low (l.set i v) = sp low l + (wt low i * v - wt low i * l.getD i 0)
  | [], _, _, _, h => by simp at h
  | a :: t, false, 0, v, _ => by simp [sp, wt, odd]; omega
  | a :: t, true, 0, v, _ => by simp [sp, wt, odd]; omega
  | a :: t, false, i + 1, v, h => by
    have ih := sp_set t true i v (by simpa using h)
    have e : wt false (i + 1) = wt true i := by unfold wt; rw [odd_succ]; simp
    rw [List.set_cons_succ, sp, sp, ih, e, List.getD_cons_succ]; omega
  | a :: t, true, i + 1, v, h => by
    have ih := sp_set t false i v (by simpa using h)
    have e : wt true (i + 1) = wt false i := by unfold wt; rw [odd_succ]; simp
    rw [List.set_cons_succ, sp, sp, ih, e, List.getD_cons_succ]; omega
theorem lgetD_set_ne (l : List Int) {i j : Nat} (v : Int) (h : i ≠ j) : (l.set i v).getD j 0 = l.getD j 0 := by
  simp [List.getD_eq_getElem?_getD, List.getElem?_set_ne h]
theorem sm_set2 (l : List Int) (j : Nat) (a b : Int) (h : 2 * j + 1 < l.length) :
    sm ((l.set (2 * j) a).set (2 * j + 1) b) = sm l + (256 * a - 256 * l.getD (2 * j) 0) + (b - l.getD (2 * j + 1) 0) := by
  have e0 : wt false (2 * j) = 256 := by unfold wt odd; rw [show 2 * j % 2 = 0 by omega]; rfl
  have e1 : wt false (2 * j + 1) = 1 := by unfold wt odd; rw [show (2 * j + 1) % 2 = 1 by omega]; rfl
  rw [← sp_false, sp_set _ _ _ _ (by simpa using h), sp_set _ _ _ _ (by omega), e0, e1, sp_false, lgetD_set_ne _ _ (by omega)]
  omega
theorem fo_comp {n : Int} (h : 0 ≤ n) : fo (n + (65535 - fo n)) = 65535 := by unfold fo; split <;> split <;> omega
end Go.Proofs.Ytkdibloahkhgoaa.Base
