/- KeyOf, Turn, Class and Same agree with the specification for all packets and keys, and Turn is its own inverse. No condition. -/
import Derived.Test.YtkdibloahkhgoaaQPackKeysx7
import Derived.Test.YtkdibloahkhgoaaBase
namespace Go.Proofs.Ytkdibloahkhgoaa.Pure
open Go.RowKit Go.Proofs.Ytkdibloahkhgoaa.QPackKeys Go.Proofs.YtkdibloahkhgoaaW.PrintWords Go.Proofs.YtkdibloahkhgoaaW.PrintLast Go.Proofs.YtkdibloahkhgoaaW.PrintMore Go.Proofs.Ytkdibloahkhgoaa.Base
open Go
set_option linter.unusedVariables false
set_option linter.unusedSimpArgs false

theorem bytes_equal (a b : List Int) : bytes_Equal.f a b = some ((strOfNums a).toList == (strOfNums b).toList) := rfl
theorem ipsame_is (a0 a1 a4 a5 a6 a7 a8 b0 b1 b4 b5 b6 b7 b8 : Int) (a2 a3 b2 b3 : Bool) (ao ad bo bd : List Int) : ∃ z, ip_Same.f a0 a1 a2 a3 a4 a5 a6 a7 a8 ao ad b0 b1 b2 b3 b4 b5 b6 b7 b8 bo bd = some z ∧ castellanref4_Same.f a0 a1 a2 a3 a4 a5 a6 a7 a8 ao ad b0 b1 b2 b3 b4 b5 b6 b7 b8 bo bd = some z := by
  unfold ip_Same.f castellanref4_Same.f
  simp only [bytes_equal, ob]
  by_cases c0 : a0 = b0
  rotate_left
  · rw [if_neg c0, if_neg c0]; exact ⟨_, rfl, rfl⟩
  rw [if_pos c0, if_pos c0]
  by_cases c1 : a1 = b1
  rotate_left
  · rw [if_neg c1, if_neg c1]; exact ⟨_, rfl, rfl⟩
  rw [if_pos c1, if_pos c1]
  by_cases c2 : (a2 == b2) = true
  rotate_left
  · rw [if_neg c2, if_neg c2]; exact ⟨_, rfl, rfl⟩
  rw [if_pos c2, if_pos c2]
  by_cases c3 : (a3 == b3) = true
  rotate_left
  · rw [if_neg c3, if_neg c3]; exact ⟨_, rfl, rfl⟩
  rw [if_pos c3, if_pos c3]
  by_cases c4 : a4 = b4
  rotate_left
  · rw [if_neg c4, if_neg c4]; exact ⟨_, rfl, rfl⟩
  rw [if_pos c4, if_pos c4]
  by_cases c5 : a5 = b5
  rotate_left
  · rw [if_neg c5, if_neg c5]; exact ⟨_, rfl, rfl⟩
  rw [if_pos c5, if_pos c5]
  by_cases c6 : a6 = b6
  rotate_left
  · rw [if_neg c6, if_neg c6]; exact ⟨_, rfl, rfl⟩
  rw [if_pos c6, if_pos c6]
  by_cases c7 : a7 = b7
  rotate_left
  · rw [if_neg c7, if_neg c7]; exact ⟨_, rfl, rfl⟩
  rw [if_pos c7, if_pos c7]
  by_cases c8 : a8 = b8
  rotate_left
  · rw [if_neg c8, if_neg c8]; exact ⟨_, rfl, rfl⟩
  rw [if_pos c8, if_pos c8]
  by_cases c9 : (strOfNums ao).toList = (strOfNums bo).toList
  · rw [if_pos (beq_iff_eq.mpr c9), if_pos c9]; exact ⟨_, rfl, rfl⟩
  · rw [if_neg (by rw [beq_iff_eq]; exact c9), if_neg c9]; exact ⟨_, rfl, rfl⟩

theorem ref4_same (tos id off ttl pr s t : Int) (df mf : Bool) (o d : List Int) : castellanref4_Same.f tos id df mf off ttl pr s t o d tos id df mf off ttl pr s t o d = some true := by
  unfold castellanref4_Same.f
  rw [if_pos rfl, if_pos rfl, if_pos (beq_self_eq_true df), if_pos (beq_self_eq_true mf), if_pos rfl, if_pos rfl, if_pos rfl, if_pos rfl, if_pos rfl, if_pos rfl, beq_self_eq_true]

theorem keyNe_refl (κ : Addr → Int × Int × Int × Int × Int) (i : Option Addr) : keyNe κ i i = false := by
  cases i with
  | none => rfl
  | some a => show (!_) = false; simp
theorem same_is (κ : Addr → Int × Int × Int × Int × Int) (a0 a1 a4 a5 a6 a7 a8 a11 a12 a13 a14 a15 a16 : Int) (a2 a3 : Bool) (ao ad : List Int) (a17 : Option Addr) (b0 b1 b4 b5 b6 b7 b8 b11 b12 b13 b14 b15 b16 : Int) (b2 b3 : Bool) (bo bd : List Int) (b17 : Option Addr) : ∃ z, pack_Same.f κ a0 a1 a2 a3 a4 a5 a6 a7 a8 ao ad a11 a12 a13 a14 a15 a16 a17 b0 b1 b2 b3 b4 b5 b6 b7 b8 bo bd b11 b12 b13 b14 b15 b16 b17 = some z ∧ castellanref8_Same.f κ a0 a1 a2 a3 a4 a5 a6 a7 a8 ao ad a11 a12 a13 a14 a15 a16 a17 b0 b1 b2 b3 b4 b5 b6 b7 b8 bo bd b11 b12 b13 b14 b15 b16 b17 = some z := by
  obtain ⟨z, h1, h2⟩ := ipsame_is a0 a1 a4 a5 a6 a7 a8 b0 b1 b4 b5 b6 b7 b8 a2 a3 b2 b3 ao ad bo bd
  unfold pack_Same.f castellanref8_Same.f
  rw [h1, h2]
  by_cases c : keyNe κ a17 b17 = true
  · rw [if_pos c]; exact ⟨_, rfl, rfl⟩
  · rw [if_neg c]
    simp only [Option.bind_some]
    repeat' split
    all_goals exact ⟨_, rfl, rfl⟩
theorem same_refl (κ : Addr → Int × Int × Int × Int × Int) (a0 a1 a4 a5 a6 a7 a8 a11 a12 a13 a14 a15 a16 : Int) (a2 a3 : Bool) (ao ad : List Int) (a17 : Option Addr) : pack_Same.f κ a0 a1 a2 a3 a4 a5 a6 a7 a8 ao ad a11 a12 a13 a14 a15 a16 a17 a0 a1 a2 a3 a4 a5 a6 a7 a8 ao ad a11 a12 a13 a14 a15 a16 a17 = some true := by
  obtain ⟨z, h1, h2⟩ := ipsame_is a0 a1 a4 a5 a6 a7 a8 a0 a1 a4 a5 a6 a7 a8 a2 a3 a2 a3 ao ad ao ad
  rw [ref4_same] at h2
  unfold pack_Same.f
  rw [h1, keyNe_refl, ← Option.some.inj h2, if_neg (by decide)]
  simp
theorem PackKeys (κ : Addr → Int × Int × Int × Int × Int) (a0 a1 a4 a5 a6 a7 a8 a11 a12 a13 a14 a15 a16 : Int) (a2 a3 : Bool) (ao ad : List Int) (a17 : Option Addr) (b0 b1 b4 b5 b6 b7 b8 b11 b12 b13 b14 b15 b16 : Int) (b2 b3 : Bool) (bo bd : List Int) (b17 : Option Addr) (k0 k1 k2 k3 k4 : Int) : ∃ k, castellanlaw8_PackKeys.f κ k a0 a1 a2 a3 a4 a5 a6 a7 a8 ao ad a11 a12 a13 a14 a15 a16 a17 b0 b1 b2 b3 b4 b5 b6 b7 b8 bo bd b11 b12 b13 b14 b15 b16 b17 k0 k1 k2 k3 k4 = some true := by
  refine ⟨1, ?_⟩
  have hkn : castellanlaw8_known.f = some true := by decide
  have hj (b : Bool) : castellanlaw8_PackKeys.j0 κ 1 b a0 a1 a2 a3 a4 a5 a6 a7 a8 ao ad a11 a12 a13 a14 a15 a16 a17 b0 b1 b2 b3 b4 b5 b6 b7 b8 bo bd b11 b12 b13 b14 b15 b16 b17 k0 k1 k2 k3 k4 = some true := by
    cases b with
    | true => simp only [castellanlaw8_PackKeys.j0]; rfl
    | false =>
      obtain ⟨z, s1, s2⟩ := same_is κ a0 a1 a4 a5 a6 a7 a8 a11 a12 a13 a14 a15 a16 a2 a3 ao ad a17 b0 b1 b4 b5 b6 b7 b8 b11 b12 b13 b14 b15 b16 b2 b3 bo bd b17
      have s3 := same_refl κ a0 a1 a4 a5 a6 a7 a8 a11 a12 a13 a14 a15 a16 a2 a3 ao ad a17
      have hc : ∃ c, pack_Class.f a0 a1 a2 a3 a4 a5 a6 a7 a8 ao ad = some c ∧ castellanref8_Class.f a0 a1 a2 a3 a4 a5 a6 a7 a8 ao ad = some c := by
        unfold pack_Class.f castellanref8_Class.f
        repeat' split
        all_goals exact ⟨_, rfl, rfl⟩
      obtain ⟨c, c1, c2⟩ := hc
      simp only [castellanlaw8_PackKeys.j0]
      rw [s1, s2, s3, c1, c2, hkn]
      unfold pack_KeyOf.f castellanref8_KeyOf.f pack_Turn.f castellanref8_Turn.f
      simp
  unfold castellanlaw8_PackKeys.f castellanlaw8_long.f
  repeat' split
  all_goals simp [hj]

end Go.Proofs.Ytkdibloahkhgoaa.Pure
