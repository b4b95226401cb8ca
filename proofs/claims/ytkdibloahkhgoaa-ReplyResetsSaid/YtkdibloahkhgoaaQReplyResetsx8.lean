-- written by myprint.py, a program of this session's over the kit's printer
import Derived.Test.YtkdibloahkhgoaaQReplyResetsx0
import Derived.Test.YtkdibloahkhgoaaQReplyResetsx1
import Derived.Test.YtkdibloahkhgoaaQReplyResetsx7
namespace Go.Proofs.Ytkdibloahkhgoaa.QReplyResets
open Go.RowKit Go.Proofs.YtkdibloahkhgoaaW.PrintWords Go.Proofs.YtkdibloahkhgoaaW.PrintLast Go.Proofs.YtkdibloahkhgoaaW.PrintMore
attribute [local go_sem] max2_int min2_int max_two min_two max_three min_three max_four min_four   -- for this text's walks alone
set_option linter.unusedVariables false
set_option linter.unusedSimpArgs false

/-! ### castellanref5_Build: function 33 -/
def castellanref5_Build.f (k : Nat) (a0 : Int) (a1 : Int) (a2_0 : Int) (a2_1 : Int) (a2_2 : Int) (a2_3 : Int) (a2_4 : Int) (a2_5 : Int) (a2_6 : Int) (l2_7 : List Int) (l2_8 : List Int) : Option (List Int × Int) := (castellanref5_Is.f a2_0 a2_1 a2_2 a2_3 a2_4 a2_5 a2_6 l2_7 l2_8).bind fun t375 => (if t375 = true then ((castellanref1_Put16.f a2_0).bind fun t376 => ((castellanref1_Put16.f a2_1).bind fun t379 => (if t376.length + t379.length < 140737488355328 then ((some (t376 ++ t379 : List Int)).bind fun y382 => ((castellanref1_Put32.f a2_2).bind fun t385 => (if y382.length + t385.length < 140737488355328 then ((some (y382 ++ t385 : List Int)).bind fun y388 => ((castellanref1_Put32.f a2_3).bind fun t391 => (if y388.length + t391.length < 140737488355328 then ((some (y388 ++ t391 : List Int)).bind fun y394 => ((some (([(wrap64 ((wrap64 (Int.tdiv (wrap64 (20 + (l2_7.length : Int))) 4)) * 16)) % 256, (a2_4) % 256] : List Int) : List Int)).bind fun y397 => (if y394.length + y397.length < 140737488355328 then ((some (y394 ++ y397 : List Int)).bind fun y400 => ((castellanref1_Put16.f a2_5).bind fun t403 => (if y400.length + t403.length < 140737488355328 then ((some (y400 ++ t403 : List Int)).bind fun y406 => ((some (([0, 0] : List Int) : List Int)).bind fun y409 => (if y406.length + y409.length < 140737488355328 then ((some (y406 ++ y409 : List Int)).bind fun y412 => ((castellanref1_Put16.f a2_6).bind fun t415 => (if y412.length + t415.length < 140737488355328 then ((some (y412 ++ t415 : List Int)).bind fun y418 => (if y418.length + l2_7.length < 140737488355328 then ((some (y418 ++ l2_7 : List Int)).bind fun y421 => (if y421.length + l2_8.length < 140737488355328 then ((some (y421 ++ l2_8 : List Int)).bind fun y424 => ((castellanref2_Pseudo.f a0 a1 6 (y424.length : Int)).bind fun t427 => (if t427.length + y424.length < 140737488355328 then ((castellanref2_Of.f k (t427 ++ y424)).bind fun t433 => ((castellanref1_Put16.f t433).bind fun t434 => (if 0 < (t434.length : Int) then (if 1 < (t434.length : Int) then (if 16 < (y424.length : Int) then (if 17 < (y424.length : Int) then (some (((y424.set (16 : Int).toNat (rd t434 0)).set (17 : Int).toNat (rd t434 1)), 0)) else (none)) else (none)) else (none)) else (none)))) else (none)))) else (none))) else (none))) else (none)))) else (none)))) else (none)))) else (none)))) else (none)))) else (none)))) else (none)))) else (some (([] : List Int), 1)))
theorem castellanref5_Build.mono : ∀ a0 a1 a2 a3 a4 a5 a6 a7 a8 a9 a10 k, LeO (castellanref5_Build.f k a0 a1 a2 a3 a4 a5 a6 a7 a8 a9 a10) (castellanref5_Build.f (k + 1) a0 a1 a2 a3 a4 a5 a6 a7 a8 a9 a10) := by
 intro a0 a1 a2 a3 a4 a5 a6 a7 a8 a9 a10 k; unfold castellanref5_Build.f
 repeat' first
   | (with_reducible exact castellanref2_Of.mono _ _)
   | (with_reducible exact LeO.refl _)
   | (with_reducible exact LeO.none _)
   | (with_reducible refine LeO.ite ?_ ?_)
   | (with_reducible refine LeO.bind ?_ (fun _ => ?_))
   | exact castellanref2_Of.mono _ _
   | exact LeO.none _
   | refine LeO.ite ?_ ?_
   | refine LeO.bind ?_ (fun _ => ?_)
def castellanref5_Build.T3 : Bool × List (List Nat × List Nat) := (true, [([], []), ([0], [0]), ([1], [1]), ([], []), ([3], [3]), ([4, 2], [4]), ([2, 5, 5], [2, 5]), ([6, 6, 0, 1, 2, 3, 4, 5, 6], [6])])
def castellanref5_Build.B3 : List Nat := [0, 1, 3, 0, 8, 31, 63, 127]
theorem castellanref5_Build.tab3 : rtab .any (opsOf Try.f33 3) = castellanref5_Build.T3 := by kernel_rfl
theorem castellanref5_Build.bits3 : waitsOk castellanref5_Build.T3.2 castellanref5_Build.B3 = true := by kernel_rfl
def castellanref5_Build.T4 : Bool × List (List Nat × List Nat) := (true, [([], []), ([], []), ([1], [1]), ([2], [2]), ([0, 3, 3], [0, 3]), ([], []), ([5], [5]), ([6, 4], [6]), ([4, 7, 7], [4, 7]), ([8, 8, 0, 1, 2, 3, 4, 5, 6, 7, 8], [0, 8])])
def castellanref5_Build.B4 : List Nat := [0, 0, 2, 6, 15, 0, 32, 127, 255, 511]
theorem castellanref5_Build.tab4 : rtab .any (opsOf Try.f33 4) = castellanref5_Build.T4 := by kernel_rfl
theorem castellanref5_Build.bits4 : waitsOk castellanref5_Build.T4.2 castellanref5_Build.B4 = true := by kernel_rfl
def castellanref5_Build.T7 : Bool × List (List Nat × List Nat) := (true, [([], []), ([], []), ([1], [1]), ([2], [2]), ([0, 3, 3], [0, 3]), ([], []), ([5], [5]), ([4, 6, 4], [4, 6]), ([7, 7, 0, 1, 2, 3, 4, 5, 6, 7], [0, 7])])
def castellanref5_Build.B7 : List Nat := [0, 0, 2, 6, 15, 0, 32, 127, 255]
theorem castellanref5_Build.tab7 : rtab .any (opsOf Try.f33 7) = castellanref5_Build.T7 := by kernel_rfl
theorem castellanref5_Build.bits7 : waitsOk castellanref5_Build.T7.2 castellanref5_Build.B7 = true := by kernel_rfl
def castellanref5_Build.T10 : Bool × List (List Nat × List Nat) := (true, [([], []), ([], []), ([], []), ([2], [2]), ([3], [3]), ([], []), ([5], [5]), ([6], [6]), ([0, 0, 2, 3, 4, 7], [0]), ([8, 4, 0, 2, 3, 4, 7], [4, 8]), ([1, 0, 1, 2, 3, 4, 5, 6, 7, 8, 9], [1]), ([10, 7, 9, 0, 1, 2, 3, 4, 5, 6, 7, 8, 9], [7, 10])])
def castellanref5_Build.B10 : List Nat := [0, 0, 0, 4, 12, 0, 32, 96, 253, 509, 1023, 2047]
theorem castellanref5_Build.tab10 : rtab .any (opsOf Try.f33 10) = castellanref5_Build.T10 := by kernel_rfl
theorem castellanref5_Build.bits10 : waitsOk castellanref5_Build.T10.2 castellanref5_Build.B10 = true := by kernel_rfl
set_option maxHeartbeats 8000000 in
set_option maxRecDepth 100000 in
theorem castellanref5_Build.calls (k : Nat) (a0 : Int) (a1 : Int) (a2_0 : Int) (a2_1 : Int) (a2_2 : Int) (a2_3 : Int) (a2_4 : Int) (a2_5 : Int) (a2_6 : Int) (A2_7 : Option Addr) (c2_7 : Nat) (l2_7 : List Int) (A2_8 : Option Addr) (c2_8 : Nat) (l2_8 : List Int) (r1 : List Int) (w : World) (hr2_7 : Kd.C (Kd.int .u8) w A2_7 l2_7.length l2_7) (hc2_7 : l2_7.length ≤ c2_7) (hr2_8 : Kd.C (Kd.int .u8) w A2_8 l2_8.length l2_8) (hc2_8 : l2_8.length ≤ c2_8) (h : castellanref5_Build.f k a0 a1 a2_0 a2_1 a2_2 a2_3 a2_4 a2_5 a2_6 l2_7 l2_8 = some (r1, 0)) :
  Calls Try.prog 33 #[.int .u32 a0, .int .u32 a1, .agg #[.int .i64 a2_0, .int .i64 a2_1, .int .u32 a2_2, .int .u32 a2_3, .int .i64 a2_4, .int .i64 a2_5, .int .i64 a2_6, .slice A2_7 l2_7.length c2_7, .slice A2_8 l2_8.length c2_8]] w fun e w' => ∃ v0_ : Value, e = .returned (.tuple #[v0_, .int .i64 0]) ∧ Kd.R (Kd.int .u8) 5 w' w.heap.size (fun _ => True) v0_ r1 ∧ Below w.heap.size w w' := by
 have hu59 := Try.underlying59; have HR7 := Aside0.mk hr2_7; have HC7 := Aside0.mk hc2_7; have HR8 := Aside0.mk hr2_8; have HC8 := Aside0.mk hc2_8; clear hr2_7 hc2_7 hr2_8 hc2_8; unfold castellanref5_Build.f at h; have H := h; clear h; obtain ⟨is_, A_, H⟩ := Option.bind_eq_some_iff.mp H; have AIS := Aside0.mk A_; clear A_; cases is_
 ·rw [if_neg Bool.false_ne_true] at H
  simp at H
 rw [if_pos rfl] at H; obtain ⟨t1, A_, H⟩ := Option.bind_eq_some_iff.mp H; have A1 := Aside0.mk A_; clear A_; obtain ⟨t2, A_, H⟩ := Option.bind_eq_some_iff.mp H; have A2 := Aside0.mk A_; clear A_
 by_cases c1 : t1.length + t2.length < 140737488355328
 rotate_left
 ·rw [if_neg c1] at H; exact absurd H (by simp)
 rw [if_pos c1] at H; have L1 := Aside0.mk c1; clear c1; obtain ⟨y1, h_, H⟩ := Option.bind_eq_some_iff.mp H; have Ny1 := Aside0.mk (Option.some.inj h_).symm; clear h_; obtain ⟨t3, A_, H⟩ := Option.bind_eq_some_iff.mp H; have A3 := Aside0.mk A_; clear A_
 by_cases c2 : y1.length + t3.length < 140737488355328
 rotate_left
 ·rw [if_neg c2] at H; exact absurd H (by simp)
 rw [if_pos c2] at H; have L2 := Aside0.mk c2; clear c2; obtain ⟨y2, h_, H⟩ := Option.bind_eq_some_iff.mp H; have Ny2 := Aside0.mk (Option.some.inj h_).symm; clear h_; obtain ⟨t4, A_, H⟩ := Option.bind_eq_some_iff.mp H; have A4 := Aside0.mk A_; clear A_
 by_cases c3 : y2.length + t4.length < 140737488355328
 rotate_left
 ·rw [if_neg c3] at H; exact absurd H (by simp)
 rw [if_pos c3] at H; have L3 := Aside0.mk c3; clear c3; obtain ⟨y3, h_, H⟩ := Option.bind_eq_some_iff.mp H; have Ny3 := Aside0.mk (Option.some.inj h_).symm; clear h_; obtain ⟨y4, h_, H⟩ := Option.bind_eq_some_iff.mp H; have Ny4 := Aside0.mk (Option.some.inj h_).symm; clear h_
 by_cases c4 : y3.length + y4.length < 140737488355328
 rotate_left
 ·rw [if_neg c4] at H; exact absurd H (by simp)
 rw [if_pos c4] at H; have L4 := Aside0.mk c4; clear c4; obtain ⟨y5, h_, H⟩ := Option.bind_eq_some_iff.mp H; have Ny5 := Aside0.mk (Option.some.inj h_).symm; clear h_; obtain ⟨t5, A_, H⟩ := Option.bind_eq_some_iff.mp H; have A5 := Aside0.mk A_; clear A_
 by_cases c5 : y5.length + t5.length < 140737488355328
 rotate_left
 ·rw [if_neg c5] at H; exact absurd H (by simp)
 rw [if_pos c5] at H; have L5 := Aside0.mk c5; clear c5; obtain ⟨y6, h_, H⟩ := Option.bind_eq_some_iff.mp H; have Ny6 := Aside0.mk (Option.some.inj h_).symm; clear h_; obtain ⟨y7, h_, H⟩ := Option.bind_eq_some_iff.mp H; have Ny7 := Aside0.mk (Option.some.inj h_).symm; clear h_
 by_cases c6 : y6.length + y7.length < 140737488355328
 rotate_left
 ·rw [if_neg c6] at H; exact absurd H (by simp)
 rw [if_pos c6] at H; have L6 := Aside0.mk c6; clear c6; obtain ⟨y8, h_, H⟩ := Option.bind_eq_some_iff.mp H; have Ny8 := Aside0.mk (Option.some.inj h_).symm; clear h_; obtain ⟨t6, A_, H⟩ := Option.bind_eq_some_iff.mp H; have A6 := Aside0.mk A_; clear A_
 by_cases c7 : y8.length + t6.length < 140737488355328
 rotate_left
 ·rw [if_neg c7] at H; exact absurd H (by simp)
 rw [if_pos c7] at H; have L7 := Aside0.mk c7; clear c7; obtain ⟨y9, h_, H⟩ := Option.bind_eq_some_iff.mp H; have Ny9 := Aside0.mk (Option.some.inj h_).symm; clear h_
 by_cases c8 : y9.length + l2_7.length < 140737488355328
 rotate_left
 ·rw [if_neg c8] at H; exact absurd H (by simp)
 rw [if_pos c8] at H; have L8 := Aside0.mk c8; clear c8; obtain ⟨y10, h_, H⟩ := Option.bind_eq_some_iff.mp H; have Ny10 := Aside0.mk (Option.some.inj h_).symm; clear h_
 by_cases c9 : y10.length + l2_8.length < 140737488355328
 rotate_left
 ·rw [if_neg c9] at H; exact absurd H (by simp)
 rw [if_pos c9] at H; have L9 := Aside0.mk c9; clear c9; obtain ⟨y11, h_, H⟩ := Option.bind_eq_some_iff.mp H; have Ny11 := Aside0.mk (Option.some.inj h_).symm; clear h_; obtain ⟨t7, A_, H⟩ := Option.bind_eq_some_iff.mp H; have A7 := Aside0.mk A_; clear A_
 by_cases c10 : t7.length + y11.length < 140737488355328
 rotate_left
 ·rw [if_neg c10] at H; exact absurd H (by simp)
 rw [if_pos c10] at H; have L10 := Aside0.mk c10; clear c10
 obtain ⟨y12, hy12⟩ : ∃ y_ : List Int, y_ = t7 ++ y11 := ⟨_, rfl⟩
 rw [← hy12] at H; have Ny12 := Aside0.mk hy12; clear hy12; obtain ⟨ck, A_, H⟩ := Option.bind_eq_some_iff.mp H; have A8 := Aside0.mk A_; clear A_; obtain ⟨t8, A_, H⟩ := Option.bind_eq_some_iff.mp H; have A9 := Aside0.mk A_; clear A_
 by_cases d1 : 0 < (t8.length : Int)
 rotate_left
 ·rw [if_neg d1] at H; exact absurd H (by simp)
 rw [if_pos d1] at H; have D1 := Aside0.mk d1; clear d1
 by_cases d2 : 1 < (t8.length : Int)
 rotate_left
 ·rw [if_neg d2] at H; exact absurd H (by simp)
 rw [if_pos d2] at H; have D2 := Aside0.mk d2; clear d2
 by_cases d3 : 16 < (y11.length : Int)
 rotate_left
 ·rw [if_neg d3] at H; exact absurd H (by simp)
 rw [if_pos d3] at H; have D3 := Aside0.mk d3; clear d3
 by_cases d4 : 17 < (y11.length : Int)
 rotate_left
 ·rw [if_neg d4] at H; exact absurd H (by simp)
 rw [if_pos d4] at H; have D4 := Aside0.mk d4; clear d4
 obtain ⟨y13, hy13⟩ : ∃ y_ : List Int, y_ = y11.set 16 (rd t8 0) := ⟨_, rfl⟩
 obtain ⟨y14, hy14⟩ : ∃ y_ : List Int, y_ = y13.set 17 (rd t8 1) := ⟨_, rfl⟩
 have H2 : some ((y11.set 16 (rd t8 0)).set 17 (rd t8 1), (0 : Int)) = some (r1, 0) := H; rw [← hy13, ← hy14] at H2; obtain rfl : y14 = r1 := by simpa using H2
 have Ny13 := Aside0.mk hy13; have Ny14 := Aside0.mk hy14; clear hy13 hy14 H H2; have HO := Aside0.mk (Owns.nil w); have HF : True := trivial; go_enter Try.func33, Try.ntmps33
 go_upto_region 3 with (first | ((with_reducible refine gate_dst (N := 5) rfl ?_); refine ow_box HO rfl (N := 5) rfl #[.int .i64 a2_0, .int .i64 a2_1, .int .u32 a2_2, .int .u32 a2_3, .int .i64 a2_4, .int .i64 a2_5, .int .i64 a2_6, .slice A2_7 l2_7.length c2_7, .slice A2_8 l2_8.length c2_8] 59 ?hr rfl ?_; (case hr => first | (go_simp; done) | (go_simp; rfl)); clear HO HF; intro g5 w1 HO; have HF := HO.out.facts; simp only [OwnsM.Facts, and_true] at HF) | ((with_reducible refine gate_dst (N := 10) rfl ?_); (first | refine ow_load HO rfl 0 rfl 59 _ rfl _ rfl Try.underlying59 rfl (by kernel_rfl) ?_)) | ((with_reducible refine gate_callee (f := 32) rfl ?_); (try (refine gate_guard (by rfl) ?_; dsimp only)); refine goesL_ (some 11) rfl rfl Try.func32 (by kernel_rfl) rfl #[.agg #[.int .i64 a2_0, .int .i64 a2_1, .int .u32 a2_2, .int .u32 a2_3, .int .i64 a2_4, .int .i64 a2_5, .int .i64 a2_6, .slice A2_7 l2_7.length c2_7, .slice A2_8 l2_8.length c2_8]] rfl (by (try simp only [LmA, LmB, LmC]); first | done | rfl | (simp only [LdA, LtA]; rfl)) ?_; refine (castellanref5_Is.calls a2_0 a2_1 a2_2 a2_3 a2_4 a2_5 a2_6 _ _ l2_7 _ _ l2_8 true _ (HO.out.old HR7.out) HC7.out (HO.out.old HR8.out) HC8.out AIS.out).mono ?_; rintro e w1 ⟨rfl, hb1⟩; refine ⟨_, rfl, ?_⟩; replace HO := Aside0.mk (HO.out.step hb1); clear hb1; clear HF; have HF := HO.out.facts; simp only [OwnsM.Facts, and_true] at HF))
 have HO1_ := Aside0.mk HO.out.drew; clear HO HF; have HO := HO1_; clear HO1_; refine start_ (n := 8) (S := fun w' => w'.cell? ⟨g5, 0, none⟩ = some (.int .i64 a2_0) ∧ w'.cell? ⟨g5, 1, none⟩ = some (.int .i64 a2_1)) (ds := []) (bm 8 0) (by kernel_rfl) rfl rfl ⟨(HO.out.cell 0 0 rfl rfl), (HO.out.cell 0 1 rfl rfl)⟩ (fun hHeld => ?_); refine with_tabW castellanref5_Build.tab3 castellanref5_Build.bits3 (fun HT_ HW_ => ?_)
 generalize w1.drew = w1 at HO hHeld ⊢; refine pure_ (i := 0) (N := some 13) (v := ?_) (a' := ?_) (bm 8 1) rfl rfl (any_of HT_.out (by kernel_rfl)) (fun _ _ _ h => h) (Or.inl ⟨by rfl, ?_⟩) ?_ ?_; rotate_left
 ·intro w'; go_simp; with_reducible rfl
 rotate_left
 ·simp only [Act.put, LsA, LsB, LsC, i64_w, i32_w]; rfl
 refine pure_ (i := 3) (N := some 16) (v := ?_) (a' := ?_) (bm 8 9) rfl rfl (any_of HT_.out (by kernel_rfl)) (fun _ _ _ h => h) (Or.inl ⟨by rfl, ?_⟩) ?_ ?_; rotate_left
 ·intro w'; go_simp; with_reducible rfl
 rotate_left
 ·simp only [Act.put, LsA, LsB, LsC, i64_w, i32_w]; rfl
 refine take_ (i := 1) (N := some 14) (v := ?_) (a' := ?_) (bm 8 11) rfl rfl (take_ofW HT_.out HW_.out (by kernel_rfl)) (fun _ _ _ h => h) (Or.inl ⟨by rfl, ?_⟩) hHeld ?_ ?_; rotate_left
 ·rintro w' ⟨s0, s1⟩; go_simp; with_reducible rfl
 rotate_left
 ·simp only [Act.put, LsA, LsB, LsC, i64_w, i32_w]; rfl
 refine take_ (i := 4) (N := some 17) (v := ?_) (a' := ?_) (bm 8 27) rfl rfl (take_ofW HT_.out HW_.out (by kernel_rfl)) (fun _ _ _ h => h) (Or.inl ⟨by rfl, ?_⟩) hHeld ?_ ?_; rotate_left
 ·rintro w' ⟨s0, s1⟩; go_simp; with_reducible rfl
 rotate_left
 ·simp only [Act.put, LsA, LsB, LsC, i64_w, i32_w]; rfl
 refine one_ (i := 2) (N := some 15) (bm 8 31) rfl rfl (one_of HT_.out (by kernel_rfl)) (by decide) (fun K hK => ?_); refine goes_ Try.func43 (by kernel_rfl) rfl #[.int .i64 a2_0] (by rfl) rfl rfl (by (try simp only [LmA, LmB, LmC]); first | done | rfl | (simp only [LdA, LtA]; rfl)) ?_; refine (castellanref1_Put16.calls a2_0 t1 _ A1.out).mono ?_; rintro e w1 ⟨v1, rfl, h1, hb⟩; refine ⟨_, rfl, ?_⟩; replace HO := Aside0.mk (HO.out.call1 hb h1); clear h1 hb; obtain ⟨At1, ct1, rfl⟩ := Kd.R_slice (HO.out.row 0 rfl); refine hK.out _ _ ⟨(HO.out.cell 0 0 rfl rfl), (HO.out.cell 0 1 rfl rfl)⟩ (fun hHeld => ?_); clear hK K; refine norm_ (a' := ?_) ?_ ?_; rotate_left
 ·show Act.put _ (some 15) _ = _; simp only [Act.put, LsA, LsB, LsC, i64_w, i32_w]; rfl
 refine one_ (i := 5) (N := some 18) (bm 8 63) rfl rfl (one_of HT_.out (by kernel_rfl)) (by decide) (fun K hK => ?_); refine goes_ Try.func43 (by kernel_rfl) rfl #[.int .i64 a2_1] (by rfl) rfl rfl (by (try simp only [LmA, LmB, LmC]); first | done | rfl | (simp only [LdA, LtA]; rfl)) ?_; refine (castellanref1_Put16.calls a2_1 t2 _ A2.out).mono ?_; rintro e w1 ⟨v1, rfl, h1, hb⟩; refine ⟨_, rfl, ?_⟩; replace HO := Aside0.mk (HO.out.call1 hb h1); clear h1 hb; obtain ⟨At2, ct2, rfl⟩ := Kd.R_slice (HO.out.row 0 rfl); refine hK.out _ _ ⟨(HO.out.cell 0 0 rfl rfl), (HO.out.cell 0 1 rfl rfl)⟩ (fun hHeld => ?_); clear hK K; refine norm_ (a' := ?_) ?_ ?_; rotate_left
 ·show Act.put _ (some 18) _ = _; simp only [Act.put, LsA, LsB, LsC, i64_w, i32_w]; rfl
 refine one_ (i := 6) (N := some 19) (bm 8 127) rfl rfl (one_of HT_.out (by kernel_rfl)) (by decide) (fun K hK => ?_); refine ow_app_step HO (by rfl) 1 rfl (.tmp 15) (.tmp 18) 24 rfl Try.underlying24 info5 rfl rfl (HO.out.rd 0 rfl) (L1.out) (fun v1 w1 HO1_ => ?_); clear HO; have HO := HO1_; clear HO1_; simp only [LsB, LsC] at HO; rw [← Ny1.out] at HO; obtain ⟨Ay1, cy1, rfl⟩ := Kd.R_slice (HO.out.row 1 rfl); refine hK.out _ _ ⟨(HO.out.cell 0 0 rfl rfl), (HO.out.cell 0 1 rfl rfl)⟩ (fun hHeld => ?_); clear hK K; refine norm_ (a' := ?_) ?_ ?_; rotate_left
 ·show Act.put _ (some 19) _ = _; simp only [Act.put, LsA, LsB, LsC, i64_w, i32_w]; rfl
 refine pure_ (i := 7) (N := some 8) (v := ?_) (a' := ?_) (bm 8 255) rfl rfl (any_of HT_.out (by kernel_rfl)) (fun _ _ _ h => h) (Or.inl ⟨by rfl, ?_⟩) ?_ ?_; rotate_left
 ·intro w'; go_simp; with_reducible rfl
 rotate_left
 ·simp only [Act.put, LsA, LsB, LsC, i64_w, i32_w]; rfl
 refine done_ (done_of HT_.out (by kernel_rfl)) ?_; replace HO := Aside0.mk (HO.out.keep1 1 rfl); have HF := HO.out.facts; simp only [OwnsM.Facts, and_true] at HF
 go_upto_region 4 with (fail)
 have HO1_ := Aside0.mk HO.out.drew; clear HO HF; have HO := HO1_; clear HO1_; refine start_ (n := 10) (S := fun w' => w'.cell? ⟨g5, 2, none⟩ = some (.int .u32 a2_2) ∧ w'.cell? ⟨g5, 3, none⟩ = some (.int .u32 a2_3)) (ds := []) (bm 10 0) (by kernel_rfl) rfl rfl ⟨(HO.out.cell 0 2 rfl rfl), (HO.out.cell 0 3 rfl rfl)⟩ (fun hHeld => ?_); refine with_tabW castellanref5_Build.tab4 castellanref5_Build.bits4 (fun HT_ HW_ => ?_)
 generalize w1.drew = w1 at HO hHeld ⊢; refine pure_ (i := 0) (N := some 20) (v := ?_) (a' := ?_) (bm 10 1) rfl rfl (any_of HT_.out (by kernel_rfl)) (fun _ _ _ h => h) (Or.inl ⟨by rfl, ?_⟩) ?_ ?_; rotate_left
 ·intro w'; go_simp; with_reducible rfl
 rotate_left
 ·simp only [Act.put, LsA, LsB, LsC, i64_w, i32_w]; rfl
 refine pure_ (i := 1) (N := some 21) (v := ?_) (a' := ?_) (bm 10 3) rfl rfl (any_of HT_.out (by kernel_rfl)) (fun _ _ _ h => h) (Or.inl ⟨by rfl, ?_⟩) ?_ ?_; rotate_left
 ·intro w'; go_simp; with_reducible rfl
 rotate_left
 ·simp only [Act.put, LsA, LsB, LsC, i64_w, i32_w]; rfl
 refine pure_ (i := 5) (N := some 25) (v := ?_) (a' := ?_) (bm 10 35) rfl rfl (any_of HT_.out (by kernel_rfl)) (fun _ _ _ h => h) (Or.inl ⟨by rfl, ?_⟩) ?_ ?_; rotate_left
 ·intro w'; go_simp; with_reducible rfl
 rotate_left
 ·simp only [Act.put, LsA, LsB, LsC, i64_w, i32_w]; rfl
 refine take_ (i := 2) (N := some 22) (v := ?_) (a' := ?_) (bm 10 39) rfl rfl (take_ofW HT_.out HW_.out (by kernel_rfl)) (fun _ _ _ h => h) (Or.inl ⟨by rfl, ?_⟩) hHeld ?_ ?_; rotate_left
 ·rintro w' ⟨s0, s1⟩; go_simp; with_reducible rfl
 rotate_left
 ·simp only [Act.put, LsA, LsB, LsC, i64_w, i32_w]; rfl
 refine take_ (i := 6) (N := some 26) (v := ?_) (a' := ?_) (bm 10 103) rfl rfl (take_ofW HT_.out HW_.out (by kernel_rfl)) (fun _ _ _ h => h) (Or.inl ⟨by rfl, ?_⟩) hHeld ?_ ?_; rotate_left
 ·rintro w' ⟨s0, s1⟩; go_simp; with_reducible rfl
 rotate_left
 ·simp only [Act.put, LsA, LsB, LsC, i64_w, i32_w]; rfl
 refine one_ (i := 3) (N := some 23) (bm 10 111) rfl rfl (one_of HT_.out (by kernel_rfl)) (by decide) (fun K hK => ?_); refine goes_ Try.func44 (by kernel_rfl) rfl #[.int .u32 a2_2] (by rfl) rfl rfl (by (try simp only [LmA, LmB, LmC]); first | done | rfl | (simp only [LdA, LtA]; rfl)) ?_; refine (castellanref1_Put32.calls a2_2 t3 _ A3.out).mono ?_; rintro e w1 ⟨v1, rfl, h1, hb⟩; refine ⟨_, rfl, ?_⟩; replace HO := Aside0.mk (HO.out.call1 hb h1); clear h1 hb; obtain ⟨At3, ct3, rfl⟩ := Kd.R_slice (HO.out.row 0 rfl); refine hK.out _ _ ⟨(HO.out.cell 0 2 rfl rfl), (HO.out.cell 0 3 rfl rfl)⟩ (fun hHeld => ?_); clear hK K; refine norm_ (a' := ?_) ?_ ?_; rotate_left
 ·show Act.put _ (some 23) _ = _; simp only [Act.put, LsA, LsB, LsC, i64_w, i32_w]; rfl
 refine one_ (i := 4) (N := some 24) (bm 10 127) rfl rfl (one_of HT_.out (by kernel_rfl)) (by decide) (fun K hK => ?_); refine ow_app_step HO (by rfl) 1 rfl (.tmp 20) (.tmp 23) 24 rfl Try.underlying24 info5 rfl rfl (HO.out.rd 0 rfl) (L2.out) (fun v1 w1 HO1_ => ?_); clear HO; have HO := HO1_; clear HO1_; simp only [LsB, LsC] at HO; rw [← Ny2.out] at HO; obtain ⟨Ay2, cy2, rfl⟩ := Kd.R_slice (HO.out.row 1 rfl); refine hK.out _ _ ⟨(HO.out.cell 0 2 rfl rfl), (HO.out.cell 0 3 rfl rfl)⟩ (fun hHeld => ?_); clear hK K; refine norm_ (a' := ?_) ?_ ?_; rotate_left
 ·show Act.put _ (some 24) _ = _; simp only [Act.put, LsA, LsB, LsC, i64_w, i32_w]; rfl
 refine one_ (i := 7) (N := some 27) (bm 10 255) rfl rfl (one_of HT_.out (by kernel_rfl)) (by decide) (fun K hK => ?_); refine goes_ Try.func44 (by kernel_rfl) rfl #[.int .u32 a2_3] (by rfl) rfl rfl (by (try simp only [LmA, LmB, LmC]); first | done | rfl | (simp only [LdA, LtA]; rfl)) ?_; refine (castellanref1_Put32.calls a2_3 t4 _ A4.out).mono ?_; rintro e w1 ⟨v1, rfl, h1, hb⟩; refine ⟨_, rfl, ?_⟩; replace HO := Aside0.mk (HO.out.call1 hb h1); clear h1 hb; obtain ⟨At4, ct4, rfl⟩ := Kd.R_slice (HO.out.row 0 rfl); refine hK.out _ _ ⟨(HO.out.cell 0 2 rfl rfl), (HO.out.cell 0 3 rfl rfl)⟩ (fun hHeld => ?_); clear hK K; refine norm_ (a' := ?_) ?_ ?_; rotate_left
 ·show Act.put _ (some 27) _ = _; simp only [Act.put, LsA, LsB, LsC, i64_w, i32_w]; rfl
 refine one_ (i := 8) (N := some 28) (bm 10 511) rfl rfl (one_of HT_.out (by kernel_rfl)) (by decide) (fun K hK => ?_); refine ow_app_step HO (by rfl) 2 rfl (.tmp 24) (.tmp 27) 24 rfl Try.underlying24 info5 rfl rfl (HO.out.rd 0 rfl) (L3.out) (fun v1 w1 HO1_ => ?_); clear HO; have HO := HO1_; clear HO1_; simp only [LsB, LsC] at HO; rw [← Ny3.out] at HO; obtain ⟨Ay3, cy3, rfl⟩ := Kd.R_slice (HO.out.row 2 rfl); refine hK.out _ _ ⟨(HO.out.cell 0 2 rfl rfl), (HO.out.cell 0 3 rfl rfl)⟩ (fun hHeld => ?_); clear hK K; refine norm_ (a' := ?_) ?_ ?_; rotate_left
 ·show Act.put _ (some 28) _ = _; simp only [Act.put, LsA, LsB, LsC, i64_w, i32_w]; rfl
 refine pure_ (i := 9) (N := some 8) (v := ?_) (a' := ?_) (bm 10 1023) rfl rfl (any_of HT_.out (by kernel_rfl)) (fun _ _ _ h => h) (Or.inl ⟨by rfl, ?_⟩) ?_ ?_; rotate_left
 ·intro w'; go_simp; with_reducible rfl
 rotate_left
 ·simp only [Act.put, LsA, LsB, LsC, i64_w, i32_w]; rfl
 refine done_ (done_of HT_.out (by kernel_rfl)) ?_; replace HO := Aside0.mk (HO.out.keep1 2 rfl); have HF := HO.out.facts; simp only [OwnsM.Facts, and_true] at HF
 go_upto_region 7 with (first | ((with_reducible refine gate_dst (N := 40) rfl ?_); refine ow_lit HO rfl (N := 40) rfl ([(wrap64 ((wrap64 (Int.tdiv (wrap64 (20 + (l2_7.length : Int))) 4)) * 16)) % 256, (a2_4) % 256] : List Int) [.int .u8 ((wrap64 ((wrap64 (Int.tdiv (wrap64 (20 + (l2_7.length : Int))) 4)) * 16)) % 256), .int .u8 ((a2_4) % 256)] ?hr ?hp (by simp) ?_; (case hr => first | (go_simp; done) | (go_simp; simp only [IntKind.wrap_u8]; done) | (go_simp; rfl)); (case hp => exact Reps.one (show (fun (x : Int) (cs : List Value) => cs = [Value.int .u8 x]) ((wrap64 ((wrap64 (Int.tdiv (wrap64 (20 + (l2_7.length : Int))) 4)) * 16)) % 256) [.int .u8 ((wrap64 ((wrap64 (Int.tdiv (wrap64 (20 + (l2_7.length : Int))) 4)) * 16)) % 256)] from rfl) (Reps.one (show (fun (x : Int) (cs : List Value) => cs = [Value.int .u8 x]) ((a2_4) % 256) [.int .u8 ((a2_4) % 256)] from rfl) (Reps.none _ _))); clear HO HF; intro v1 w1 HO; rw [← Ny4.out] at HO; obtain ⟨Ay4, cy4, rfl⟩ := Kd.R_slice (HO.out.row 0 rfl); have HF := HO.out.facts; simp only [OwnsM.Facts, and_true] at HF) | ((with_reducible refine gate_builtin (b := .append) (xs := #[.tmp 29, .tmp 40]) rfl ?_); at_builtin; refine ow_app HO rfl 1 rfl (.tmp 29) (.tmp 40) 24 rfl Try.underlying24 info5 rfl rfl (HO.out.rd 0 rfl) (L4.out) ?_; clear HO HF; intro v1 w1 HO; simp only [LsB, LsC] at HO; rw [← Ny5.out] at HO; replace HO := Aside0.mk (HO.out.keep1 1 rfl); obtain ⟨Ay5, cy5, rfl⟩ := Kd.R_slice (HO.out.row 0 rfl); have HF := HO.out.facts; simp only [OwnsM.Facts, and_true] at HF) | ((with_reducible refine gate_callee (f := 43) rfl ?_); refine goesL_ (some 45) rfl rfl Try.func43 (by kernel_rfl) rfl #[.int .i64 a2_5] rfl (by (try simp only [LmA, LmB, LmC]); first | done | rfl | (simp only [LdA, LtA]; rfl)) ?_; refine (castellanref1_Put16.calls a2_5 t5 _ A5.out).mono ?_; rintro e w1 ⟨v1, rfl, h1, hb⟩; obtain ⟨At5, ct5, rfl⟩ := Kd.R_slice h1; refine ⟨_, rfl, ?_⟩; replace HO := Aside0.mk (HO.out.call1 hb h1); clear h1 hb; clear HF; have HF := HO.out.facts; simp only [OwnsM.Facts, and_true] at HF) | ((with_reducible refine gate_builtin (b := .append) (xs := #[.tmp 42, .tmp 45]) rfl ?_); at_builtin; refine ow_app HO rfl 1 rfl (.tmp 42) (.tmp 45) 24 rfl Try.underlying24 info5 rfl rfl (HO.out.rd 0 rfl) (L5.out) ?_; clear HO HF; intro v1 w1 HO; simp only [LsB, LsC] at HO; rw [← Ny6.out] at HO; replace HO := Aside0.mk (HO.out.keep1 1 rfl); obtain ⟨Ay6, cy6, rfl⟩ := Kd.R_slice (HO.out.row 0 rfl); have HF := HO.out.facts; simp only [OwnsM.Facts, and_true] at HF) | ((with_reducible refine gate_dst (N := 47) rfl ?_); refine ow_lit HO rfl (N := 47) rfl ([0, 0] : List Int) [.int .u8 (0), .int .u8 (0)] ?hr ?hp (by simp) ?_; (case hr => first | (go_simp; done) | (go_simp; simp only [IntKind.wrap_u8]; done) | (go_simp; rfl)); (case hp => exact Reps.one (show (fun (x : Int) (cs : List Value) => cs = [Value.int .u8 x]) (0) [.int .u8 (0)] from rfl) (Reps.one (show (fun (x : Int) (cs : List Value) => cs = [Value.int .u8 x]) (0) [.int .u8 (0)] from rfl) (Reps.none _ _))); clear HO HF; intro v1 w1 HO; rw [← Ny7.out] at HO; obtain ⟨Ay7, cy7, rfl⟩ := Kd.R_slice (HO.out.row 0 rfl); have HF := HO.out.facts; simp only [OwnsM.Facts, and_true] at HF) | ((with_reducible refine gate_builtin (b := .append) (xs := #[.tmp 46, .tmp 47]) rfl ?_); at_builtin; refine ow_app HO rfl 1 rfl (.tmp 46) (.tmp 47) 24 rfl Try.underlying24 info5 rfl rfl (HO.out.rd 0 rfl) (L6.out) ?_; clear HO HF; intro v1 w1 HO; simp only [LsB, LsC] at HO; rw [← Ny8.out] at HO; replace HO := Aside0.mk (HO.out.keep1 1 rfl); obtain ⟨Ay8, cy8, rfl⟩ := Kd.R_slice (HO.out.row 0 rfl); have HF := HO.out.facts; simp only [OwnsM.Facts, and_true] at HF))
 have HO1_ := Aside0.mk HO.out.drew; clear HO HF; have HO := HO1_; clear HO1_; refine start_ (n := 9) (S := fun w' => w'.cell? ⟨g5, 6, none⟩ = some (.int .i64 a2_6) ∧ w'.cell? ⟨g5, 7, none⟩ = some (.slice A2_7 l2_7.length c2_7)) (ds := []) (bm 9 0) (by kernel_rfl) rfl rfl ⟨(HO.out.cell 0 6 rfl rfl), (HO.out.cell 0 7 rfl rfl)⟩ (fun hHeld => ?_); refine with_tabW castellanref5_Build.tab7 castellanref5_Build.bits7 (fun HT_ HW_ => ?_)
 generalize w1.drew = w1 at HO hHeld ⊢; refine pure_ (i := 0) (N := some 49) (v := ?_) (a' := ?_) (bm 9 1) rfl rfl (any_of HT_.out (by kernel_rfl)) (fun _ _ _ h => h) (Or.inl ⟨by rfl, ?_⟩) ?_ ?_; rotate_left
 ·intro w'; go_simp; with_reducible rfl
 rotate_left
 ·simp only [Act.put, LsA, LsB, LsC, i64_w, i32_w]; rfl
 refine pure_ (i := 1) (N := some 50) (v := ?_) (a' := ?_) (bm 9 3) rfl rfl (any_of HT_.out (by kernel_rfl)) (fun _ _ _ h => h) (Or.inl ⟨by rfl, ?_⟩) ?_ ?_; rotate_left
 ·intro w'; go_simp; with_reducible rfl
 rotate_left
 ·simp only [Act.put, LsA, LsB, LsC, i64_w, i32_w]; rfl
 refine pure_ (i := 5) (N := some 54) (v := ?_) (a' := ?_) (bm 9 35) rfl rfl (any_of HT_.out (by kernel_rfl)) (fun _ _ _ h => h) (Or.inl ⟨by rfl, ?_⟩) ?_ ?_; rotate_left
 ·intro w'; go_simp; with_reducible rfl
 rotate_left
 ·simp only [Act.put, LsA, LsB, LsC, i64_w, i32_w]; rfl
 refine take_ (i := 2) (N := some 51) (v := ?_) (a' := ?_) (bm 9 39) rfl rfl (take_ofW HT_.out HW_.out (by kernel_rfl)) (fun _ _ _ h => h) (Or.inl ⟨by rfl, ?_⟩) hHeld ?_ ?_; rotate_left
 ·rintro w' ⟨s0, s1⟩; go_simp; with_reducible rfl
 rotate_left
 ·simp only [Act.put, LsA, LsB, LsC, i64_w, i32_w]; rfl
 refine take_ (i := 6) (N := some 55) (v := ?_) (a' := ?_) (bm 9 103) rfl rfl (take_ofW HT_.out HW_.out (by kernel_rfl)) (fun _ _ _ h => h) (Or.inl ⟨by rfl, ?_⟩) hHeld ?_ ?_; rotate_left
 ·rintro w' ⟨s0, s1⟩; go_simp; with_reducible rfl
 rotate_left
 ·simp only [Act.put, LsA, LsB, LsC, i64_w, i32_w]; rfl
 refine one_ (i := 3) (N := some 52) (bm 9 111) rfl rfl (one_of HT_.out (by kernel_rfl)) (by decide) (fun K hK => ?_); refine goes_ Try.func43 (by kernel_rfl) rfl #[.int .i64 a2_6] (by rfl) rfl rfl (by (try simp only [LmA, LmB, LmC]); first | done | rfl | (simp only [LdA, LtA]; rfl)) ?_; refine (castellanref1_Put16.calls a2_6 t6 _ A6.out).mono ?_; rintro e w1 ⟨v1, rfl, h1, hb⟩; refine ⟨_, rfl, ?_⟩; replace HO := Aside0.mk (HO.out.call1 hb h1); clear h1 hb; obtain ⟨At6, ct6, rfl⟩ := Kd.R_slice (HO.out.row 0 rfl); refine hK.out _ _ ⟨(HO.out.cell 0 6 rfl rfl), (HO.out.cell 0 7 rfl rfl)⟩ (fun hHeld => ?_); clear hK K; refine norm_ (a' := ?_) ?_ ?_; rotate_left
 ·show Act.put _ (some 52) _ = _; simp only [Act.put, LsA, LsB, LsC, i64_w, i32_w]; rfl
 refine one_ (i := 4) (N := some 53) (bm 9 127) rfl rfl (one_of HT_.out (by kernel_rfl)) (by decide) (fun K hK => ?_); refine ow_app_step HO (by rfl) 1 rfl (.tmp 49) (.tmp 52) 24 rfl Try.underlying24 info5 rfl rfl (HO.out.rd 0 rfl) (L7.out) (fun v1 w1 HO1_ => ?_); clear HO; have HO := HO1_; clear HO1_; simp only [LsB, LsC] at HO; rw [← Ny9.out] at HO; obtain ⟨Ay9, cy9, rfl⟩ := Kd.R_slice (HO.out.row 1 rfl); refine hK.out _ _ ⟨(HO.out.cell 0 6 rfl rfl), (HO.out.cell 0 7 rfl rfl)⟩ (fun hHeld => ?_); clear hK K; refine norm_ (a' := ?_) ?_ ?_; rotate_left
 ·show Act.put _ (some 53) _ = _; simp only [Act.put, LsA, LsB, LsC, i64_w, i32_w]; rfl
 refine one_ (i := 7) (N := some 56) (bm 9 255) rfl rfl (one_of HT_.out (by kernel_rfl)) (by decide) (fun K hK => ?_); refine ow_app_step HO (by rfl) 1 rfl (.tmp 53) (.tmp 55) 24 rfl Try.underlying24 info5 rfl rfl (HO.out.old HR7.out) (L8.out) (fun v1 w1 HO1_ => ?_); clear HO; have HO := HO1_; clear HO1_; simp only [LsB, LsC] at HO; rw [← Ny10.out] at HO; obtain ⟨Ay10, cy10, rfl⟩ := Kd.R_slice (HO.out.row 1 rfl); refine hK.out _ _ ⟨(HO.out.cell 0 6 rfl rfl), (HO.out.cell 0 7 rfl rfl)⟩ (fun hHeld => ?_); clear hK K; refine norm_ (a' := ?_) ?_ ?_; rotate_left
 ·show Act.put _ (some 56) _ = _; simp only [Act.put, LsA, LsB, LsC, i64_w, i32_w]; rfl
 refine pure_ (i := 8) (N := some 8) (v := ?_) (a' := ?_) (bm 9 511) rfl rfl (any_of HT_.out (by kernel_rfl)) (fun _ _ _ h => h) (Or.inl ⟨by rfl, ?_⟩) ?_ ?_; rotate_left
 ·intro w'; go_simp; with_reducible rfl
 rotate_left
 ·simp only [Act.put, LsA, LsB, LsC, i64_w, i32_w]; rfl
 refine done_ (done_of HT_.out (by kernel_rfl)) ?_; replace HO := Aside0.mk (HO.out.keep1 1 rfl); have HF := HO.out.facts; simp only [OwnsM.Facts, and_true] at HF
 go_upto_region 10 with (first | ((with_reducible refine gate_builtin (b := .append) (xs := #[.tmp 57, .tmp 59]) rfl ?_); at_builtin; refine ow_app HO rfl 0 rfl (.tmp 57) (.tmp 59) 24 rfl Try.underlying24 info5 rfl rfl (HO.out.old HR8.out) (L9.out) ?_; clear HO HF; intro v1 w1 HO; simp only [LsB, LsC] at HO; rw [← Ny11.out] at HO; replace HO := Aside0.mk (HO.out.keep1 0 rfl); obtain ⟨Ay11, cy11, rfl⟩ := Kd.R_slice (HO.out.row 0 rfl); have HF := HO.out.facts; simp only [OwnsM.Facts, and_true] at HF) | ((with_reducible refine gate_callee (f := 57) rfl ?_); refine goesL_ (some 65) rfl rfl Try.func57 (by kernel_rfl) rfl #[.int .u32 a0, .int .u32 a1, .int .i64 6, .int .i64 (y11.length : Int)] rfl (by (try simp only [LmA, LmB, LmC]); first | done | rfl | (simp only [LdA, LtA]; rfl)) ?_; refine (castellanref2_Pseudo.calls a0 a1 6 (y11.length : Int) t7 _ A7.out).mono ?_; rintro e w1 ⟨v1, rfl, h1, hb⟩; obtain ⟨At7, ct7, rfl⟩ := Kd.R_slice h1; refine ⟨_, rfl, ?_⟩; replace HO := Aside0.mk (HO.out.call1 hb h1); clear h1 hb; clear HF; have HF := HO.out.facts; simp only [OwnsM.Facts, and_true] at HF) | ((with_reducible refine gate_builtin (b := .append) (xs := #[.tmp 65, .tmp 66]) rfl ?_); at_builtin; refine ow_app HO rfl 0 rfl (.tmp 65) (.tmp 66) 24 rfl Try.underlying24 info5 rfl rfl (HO.out.rd 1 rfl) (L10.out) ?_; clear HO HF; intro v1 w1 HO; simp only [LsB, LsC] at HO; rw [← Ny12.out] at HO; obtain ⟨Ay12, cy12, rfl⟩ := Kd.R_slice (HO.out.row 0 rfl); have HF := HO.out.facts; simp only [OwnsM.Facts, and_true] at HF) | ((with_reducible refine gate_callee (f := 45) rfl ?_); refine goesL_ (some 68) rfl rfl Try.func45 (by kernel_rfl) rfl #[.slice Ay12 y12.length cy12] rfl (by (try simp only [LmA, LmB, LmC]); first | done | rfl | (simp only [LdA, LtA]; rfl)) ?_; refine (castellanref2_Of.calls k _ _ y12 ck _ (HO.out.rd 0 rfl) (HO.out.cap 0 rfl) A8.out).mono ?_; rintro e w1 ⟨rfl, hd_⟩; refine ⟨_, rfl, ?_⟩; replace HO := Aside0.mk (HO.out.drawn hd_); clear hd_; clear HF; have HF := HO.out.facts; simp only [OwnsM.Facts, and_true] at HF) | ((with_reducible refine gate_callee (f := 43) rfl ?_); refine goesL_ (some 69) rfl rfl Try.func43 (by kernel_rfl) rfl #[.int .i64 ck] rfl (by (try simp only [LmA, LmB, LmC]); first | done | rfl | (simp only [LdA, LtA]; rfl)) ?_; refine (castellanref1_Put16.calls ck t8 _ A9.out).mono ?_; rintro e w1 ⟨v1, rfl, h1, hb⟩; obtain ⟨At8, ct8, rfl⟩ := Kd.R_slice h1; refine ⟨_, rfl, ?_⟩; replace HO := Aside0.mk (HO.out.call1 hb h1); clear h1 hb; clear HF; have HF := HO.out.facts; simp only [OwnsM.Facts, and_true] at HF))
 have d1 := D1.out; have d2 := D2.out; have d3 := D3.out; have d4 := D4.out; obtain ⟨gs, cs_, es⟩ := HO.out.rowform 0 rfl (by omega); cases es; obtain ⟨gt, ct_, et⟩ := HO.out.rowform 2 rfl (by omega); cases et; have n0_ : (16 < y11.length) = True := eq_true (by omega); have n1_ : (17 < y11.length) = True := eq_true (by omega); have n2_ : (0 < t8.length) = True := eq_true (by omega); have n3_ : (1 < t8.length) = True := eq_true (by omega); have m0_ : (16 < (y11.length : Int)) = True := eq_true (by omega); have m1_ : (17 < (y11.length : Int)) = True := eq_true (by omega); have m2_ : (0 < (t8.length : Int)) = True := eq_true (by omega); have m3_ : (1 < (t8.length : Int)) = True := eq_true (by omega)
 have f0_ := (HO.out.rowcell 2 rfl 16 (by omega))
 have f1_ := (HO.out.rowcell 2 rfl 17 (by omega))
 clear f0_ f1_ d1 d2 d3 d4; have HO1_ := Aside0.mk HO.out.drew; clear HO HF; have HO := HO1_; clear HO1_; refine start_ (n := 12) (S := fun w' => w'.cell? ⟨gs, 0, none⟩ = some (.int .u8 (rd t8 0)) ∧ w'.cell? ⟨gs, 1, none⟩ = some (.int .u8 (rd t8 1))) (ds := [9, 11]) (bm 12 0) (by kernel_rfl) rfl rfl ⟨(HO.out.rowcell 0 rfl 0 (by have := D1.out; omega)).1, (HO.out.rowcell 0 rfl 1 (by have := D2.out; omega)).1⟩ (fun hHeld => ?_); refine with_tabW castellanref5_Build.tab10 castellanref5_Build.bits10 (fun HT_ HW_ => ?_)
 generalize w1.drew = w1 at HO hHeld ⊢; refine pure_ (i := 0) (N := some 70) (v := ?_) (a' := ?_) (bm 12 1) rfl rfl (any_of HT_.out (by kernel_rfl)) (fun _ _ _ h => h) (Or.inl ⟨by rfl, ?_⟩) ?_ ?_; rotate_left
 ·intro w'; go_simp; with_reducible rfl
 rotate_left
 ·simp only [Act.put, LsA, LsB, LsC, i64_w, i32_w]; rfl
 refine pure_ (i := 1) (N := some 71) (v := ?_) (a' := ?_) (bm 12 3) rfl rfl (any_of HT_.out (by kernel_rfl)) (fun _ _ _ h => h) (Or.inl ⟨by rfl, ?_⟩) ?_ ?_; rotate_left
 ·intro w'; go_simp; with_reducible rfl
 rotate_left
 ·simp only [Act.put, LsA, LsB, LsC, i64_w, i32_w]; rfl
 refine pure_ (i := 2) (N := some 72) (v := ?_) (a' := ?_) (bm 12 7) rfl rfl (any_of HT_.out (by kernel_rfl)) (fun _ _ _ h => h) (Or.inl ⟨by rfl, ?_⟩) ?_ ?_; rotate_left
 ·intro w'; go_simp; with_reducible rfl
 rotate_left
 ·simp only [Act.put, LsA, LsB, LsC, i64_w, i32_w]; rfl
 refine pure_ (i := 3) (N := some 73) (v := ?_) (a' := ?_) (bm 12 15) rfl rfl (any_of HT_.out (by kernel_rfl)) (fun _ _ _ h => h) (Or.inl ⟨by rfl, ?_⟩) ?_ ?_; rotate_left
 ·intro w'; go_simp; with_reducible rfl
 rotate_left
 ·simp only [Act.put, LsA, LsB, LsC, i64_w, i32_w]; rfl
 refine pure_ (i := 5) (N := some 75) (v := ?_) (a' := ?_) (bm 12 47) rfl rfl (any_of HT_.out (by kernel_rfl)) (fun _ _ _ h => h) (Or.inl ⟨by rfl, ?_⟩) ?_ ?_; rotate_left
 ·intro w'; go_simp; with_reducible rfl
 rotate_left
 ·simp only [Act.put, LsA, LsB, LsC, i64_w, i32_w]; rfl
 refine pure_ (i := 6) (N := some 76) (v := ?_) (a' := ?_) (bm 12 111) rfl rfl (any_of HT_.out (by kernel_rfl)) (fun _ _ _ h => h) (Or.inl ⟨by rfl, ?_⟩) ?_ ?_; rotate_left
 ·intro w'; go_simp; with_reducible rfl
 rotate_left
 ·simp only [Act.put, LsA, LsB, LsC, i64_w, i32_w]; rfl
 refine take_ (i := 4) (N := some 74) (v := ?_) (a' := ?_) (bm 12 127) rfl rfl (take_ofW HT_.out HW_.out (by kernel_rfl)) (fun _ _ _ h => h) (Or.inl ⟨by rfl, ?_⟩) hHeld ?_ ?_; rotate_left
 ·rintro w' ⟨s0, s1⟩; go_simp; with_reducible rfl
 rotate_left
 ·simp only [Act.put, LsA, LsB, LsC, i64_w, i32_w]; rfl
 refine take_ (i := 7) (N := some 77) (v := ?_) (a' := ?_) (bm 12 255) rfl rfl (take_ofW HT_.out HW_.out (by kernel_rfl)) (fun _ _ _ h => h) (Or.inl ⟨by rfl, ?_⟩) hHeld ?_ ?_; rotate_left
 ·rintro w' ⟨s0, s1⟩; go_simp; with_reducible rfl
 rotate_left
 ·simp only [Act.put, LsA, LsB, LsC, i64_w, i32_w]; rfl
 refine pure_ (i := 8) (N := some 78) (v := ?_) (a' := ?_) (bm 12 511) rfl rfl (any_of HT_.out (by kernel_rfl)) (fun _ _ _ h => h) (Or.inl ⟨by rfl, ?_⟩) ?_ ?_; rotate_left
 ·intro w'; go_simp; with_reducible rfl
 rotate_left
 ·simp only [Act.put, LsA, LsB, LsC, i64_w, i32_w]; rfl
 refine last_ (i := 9) (N := none) (bm 12 1023) rfl rfl (one_of HT_.out (by kernel_rfl)) (by decide) (fun K hK => ?_); have b0_ := HO.out.rowcell 2 rfl 16 (by have := D4.out; omega); refine ow_putb_step HO (by rfl) rfl 2 rfl 16 (rd t8 0) ?hr (fun w1 HO1_ => ?_); (case hr => first | (go_simp; done) | (go_simp; rfl))
 clear b0_; clear HO; have HO := HO1_; clear HO1_; simp only [LsB, LsC] at HO; rw [← Ny13.out] at HO; refine hK.out _ _ ?_; clear hK K; refine pure_ (i := 10) (N := some 79) (v := ?_) (a' := ?_) (bm 12 2047) rfl rfl (any_of HT_.out (by kernel_rfl)) (fun _ _ _ h => h) (Or.inl ⟨by rfl, ?_⟩) ?_ ?_; rotate_left
 ·intro w'; go_simp; with_reducible rfl
 rotate_left
 ·simp only [Act.put, LsA, LsB, LsC, i64_w, i32_w]; rfl
 refine last_ (i := 11) (N := none) (bm 12 4095) rfl rfl (one_of HT_.out (by kernel_rfl)) (by decide) (fun K hK => ?_); have b0_ := HO.out.rowcell 2 rfl 17 (by have := D4.out; rw [Ny13.out, List.length_set]; omega); refine ow_putb_step HO (by rfl) rfl 2 rfl 17 (rd t8 1) ?hr (fun w1 HO1_ => ?_); (case hr => first | (go_simp; done) | (go_simp; rfl))
 clear b0_; clear HO; have HO := HO1_; clear HO1_; simp only [LsB, LsC] at HO; rw [← Ny14.out] at HO; refine hK.out _ _ ?_; clear hK K; refine done_ (done_of HT_.out (by kernel_rfl)) ?_; have HF := HO.out.facts; simp only [OwnsM.Facts, and_true] at HF
 go_wp2
 go_ret2
 exact ⟨_, rfl, HO.out.row 2 rfl, HO.out.below⟩

-- NOT PRINTED: function 96 (slices_Grow_byte_byte)

/-! ### slices_Concat_byte_byte: function 91 -/
def slices_Concat_byte_byte.l0 : Nat → List Int → List (List Int) → Int → Int → Option (List Int)
 | 0, _, _, _, _ => none
 | k + 1, x6, x25, x26, x27 => if x27 < x26 then (if 0 ≤ x27 then (if x27 < (x25.length : Int) then (if x6.length + (rd_L1 x25 x27).length < 140737488355328 then (slices_Concat_byte_byte.l0 k (x6 ++ (rd_L1 x25 x27)) x25 x26 (wrap64 (x27 + 1))) else (none)) else (none)) else (none)) else (some x6)
def slices_Concat_byte_byte.f (k : Nat) (l0 : List (List Int)) : Option (List Int) := slices_Concat_byte_byte.l0 k ([] : List Int) l0 (l0.length : Int) 0
theorem slices_Concat_byte_byte.mono_l : ∀ k, (∀ y0 y1 y2 y3, LeO (slices_Concat_byte_byte.l0 k y0 y1 y2 y3) (slices_Concat_byte_byte.l0 (k + 1) y0 y1 y2 y3))
 | 0 => fun _ _ _ _ r h => by simp [slices_Concat_byte_byte.l0] at h
 | k + 1 => by
  have ih0 := slices_Concat_byte_byte.mono_l k
  ·intro y0 y1 y2 y3; unfold slices_Concat_byte_byte.l0
   repeat' first
   | (with_reducible exact ih0 _ _ _ _)
   | (with_reducible exact LeO.refl _)
   | (with_reducible exact LeO.none _)
   | (with_reducible refine LeO.ite ?_ ?_)
   | (with_reducible refine LeO.bind ?_ (fun _ => ?_))
   | exact ih0 _ _ _ _
   | exact LeO.none _
   | refine LeO.ite ?_ ?_
   | refine LeO.bind ?_ (fun _ => ?_)
theorem slices_Concat_byte_byte.mono : ∀ a0 k, LeO (slices_Concat_byte_byte.f k a0) (slices_Concat_byte_byte.f (k + 1) a0) := by
 intro a0 k; have ih0 := slices_Concat_byte_byte.mono_l k; unfold slices_Concat_byte_byte.f
 repeat' first
   | (with_reducible exact ih0 _ _ _ _)
   | (with_reducible exact LeO.refl _)
   | (with_reducible exact LeO.none _)
   | (with_reducible refine LeO.ite ?_ ?_)
   | (with_reducible refine LeO.bind ?_ (fun _ => ?_))
   | exact ih0 _ _ _ _
   | exact LeO.none _
   | refine LeO.ite ?_ ?_
   | refine LeO.bind ?_ (fun _ => ?_)
set_option maxHeartbeats 8000000 in
set_option maxRecDepth 100000 in
theorem slices_Grow_byte_byte.calls (n : Int) (w : World) (h0 : 0 ≤ n) (h1 : n < 140737488355328) :
  Calls Try.prog 96 #[.slice none 0 0, .int .i64 n] w fun e w' => ∃ v0_ : Value, e = .returned (v0_) ∧ Kd.R (Kd.int .u8) 5 w' w.heap.size (fun _ => True) v0_ ([] : List Int) ∧ Below w.heap.size w w' := by
 have HB := Aside0.mk (Below.refl w.heap.size w); have HR := Aside0.mk (Kd.R_nil (Kd.int .u8) 5 w w.heap.size (fun _ => True)); have c1 : decide (n < 0) = false := decide_eq_false (by omega); have c2 : wrap64 (n - wrap64 (0 - 0)) = n := by rw [show wrap64 (0 - 0) = 0 from by unfold wrap64; omega, Int.sub_zero]; unfold wrap64; omega
 by_cases c3 : 0 < n
 ·have c3b : decide (0 < n) = true := decide_eq_true c3; go_enter Try.func96, Try.ntmps96
  go_wp2_with (first | ((first | (with_reducible refine gate_builtin (b := .append) (xs := #[.tmp 20, .tmp 21]) rfl ?_) | skip); at_builtin; refine Kd.R_append_zeros (Kd.int .u8) (w0 := w) w.heap.size rfl (.tmp 20) (.tmp 21) 24 3 5 (.int .u8 0) 1 rfl Try.underlying24 Try.underlying3 info5 rfl (by decide) (by omega) (.slice none 0 0) ([] : List Int) 0 n (fun _ => True) rfl rfl rfl ?aF ?aO h0 ?aB ?aS ?aL ?_; (case aF => exact (fun _ _ => trivial)); (case aO => exact Kd.R_nil _ _ _ _ _); (case aB => exact HB.out); (case aS => exact Nat.le_refl _); (case aL => (simp only [List.length_nil]; omega)); intro v1 w1 ho hb hg hat; obtain ⟨A1, k1, rfl⟩ := Kd.R_slice ho; clear hg hat; have HO := Aside0.mk ho; have HB1 := Aside0.mk hb; clear ho hb))
  go_ret; exact ⟨_, rfl, Kd.R_take HO.out (Nat.zero_le _), HB1.out⟩
 ·have c3b : decide (0 < n) = false := decide_eq_false c3; go_enter Try.func96, Try.ntmps96; go_wp2; go_ret; exact ⟨_, rfl, HR.out, HB.out⟩
set_option maxHeartbeats 8000000 in
set_option maxRecDepth 100000 in
theorem slices_Concat_byte_byte.calls (k : Nat) (A0 : Option Addr) (c0 : Nat) (l0 : List (List Int)) (r : List Int) (w : World) (hr0 : Kd.C (Kd.slice 5 (Kd.int .u8)) w A0 l0.length l0) (hc0 : l0.length ≤ c0) (h : slices_Concat_byte_byte.f k l0 = some r) :
  Calls Try.prog 91 #[.slice A0 l0.length c0] w fun e w' => ∃ v0_ : Value, e = .returned (v0_) ∧ Kd.R (Kd.int .u8) 5 w' w.heap.size (fun _ => True) v0_ r ∧ Below w.heap.size w w' := by
 have HR0 := Aside0.mk hr0; have HC0 := Aside0.mk hc0; clear hr0 hc0; have HB := Aside0.mk (Below.refl w.heap.size w); have H : (slices_Concat_byte_byte.l0 k ([] : List Int) l0 (l0.length : Int) 0) = some r := h; clear h; have H' := Aside0.mk H; clear H; go_enter Try.func91, Try.ntmps91; have H0 := H'; go_wp2
 go_loopg [3, 11] k (fun kq v3 v11 w' => ∃ (z6 : List Int) (z11 : Int), v3 = .int .i64 (z6.length : Int) ∧ v11 = .int .i64 z11 ∧ z6.length < 140737488355328 ∧ Aside0 (slices_Concat_byte_byte.l0 kq z6 l0 (l0.length : Int) z11 = some r) ∧ Aside0 (kq ≤ k) ∧ w = w')
 case atStart => exact ⟨([] : List Int), 0, rfl, rfl, by decide, H', ⟨Nat.le_refl _⟩, rfl⟩
 case round =>
  clear H'; obtain ⟨z6, z11, rfl, rfl, LMz, HA, HK1, rfl⟩ := hrel
  cases gk with
  | zero => exact absurd HA.out (by simp [slices_Concat_byte_byte.l0])
  | succ k1 =>
   have H := HA.out; clear HA; simp only [slices_Concat_byte_byte.l0] at H
   by_cases c2 : z11 < (l0.length : Int)
   ·rw [if_pos c2] at H
    by_cases c3 : 0 ≤ z11
    ·rw [if_pos c3, if_pos c2] at H
     by_cases c5 : z6.length + (rd_L1 l0 z11).length < 140737488355328
     ·rw [if_pos c5] at H; have H' := Aside0.mk H; clear H; obtain ⟨adz, Az, cz, ez, hxz, hlz, hiz⟩ := at_L1 HR0.out z11 c3 c2; cases ez; have c2b0 : decide (z11 < (l0.length : Int)) = true := decide_eq_true c2
      obtain ⟨y_, hy_⟩ : ∃ y_ : List Int, y_ = z6 ++ rd_L1 l0 z11 := ⟨_, rfl⟩
      have hly : y_.length = z6.length + (rd_L1 l0 z11).length := by rw [hy_, List.length_append]
      have e1 : wrap64 ((z6.length : Int) + ((rd_L1 l0 z11).length : Int)) = (y_.length : Int) := by rw [hly, Int.natCast_add]; unfold wrap64; omega
      have e2 : decide ((y_.length : Int) < 0) = false := decide_eq_false (by omega); have HY := Aside0.mk hy_; have HLY := Aside0.mk hly; clear hy_ hly; replace c3 := eq_true c3; replace c2 := eq_true c2; go_wp2
      go_roundg k1
      case measure => have := HK1.out; omega
      case rel => exact ⟨y_, wrap64 (z11 + 1), (by have h_ := HLY.out; first | rfl | (simp [h_]; done) | (simp [*]; done)), (by first | rfl | (simp; done) | (simp [*]; done)), by have := HLY.out; omega, (by rw [HY.out]; exact H'), ⟨by have := HK1.out; omega⟩, rfl⟩
     ·rw [if_neg c5] at H; exact absurd H (by simp)
    ·rw [if_neg c3] at H; exact absurd H (by simp)
   ·rw [if_neg c2] at H; have c2b0 : decide (z11 < (l0.length : Int)) = false := decide_eq_false c2; clear c2; have hz6 := Option.some.inj H; rw [hz6] at LMz ⊢; clear hz6 H; have H' := H0
    go_wp2_with (first | ((with_reducible refine gate_callee (f := 96) rfl ?_); refine goesL_ (some 24) rfl rfl Try.func96 (by kernel_rfl) rfl #[.slice none 0 0, .int .i64 (r.length : Int)] rfl (by (try simp only [LmA, LmB, LmC]); first | done | rfl) ?_; (with_reducible refine (slices_Grow_byte_byte.calls (r.length : Int) _ (Int.natCast_nonneg _) ?side1).mono ?_); (case side1 => omega); rintro e w1 ⟨vg, rfl, hog, hbg⟩; refine ⟨_, rfl, ?_⟩; have HOg := Aside0.mk hog; clear HB; have HB := Aside0.mk hbg; clear hog hbg))
    go_loopg [6, 27] k (fun kq v6 v27 w' => ∃ (x6_1 : List Int) (x27_1 : Int), v27 = .int .i64 x27_1 ∧ Aside0 (slices_Concat_byte_byte.l0 kq x6_1 l0 (l0.length : Int) x27_1 = some r) ∧ Aside0 (kq ≤ k) ∧ Aside0 (Kd.R (Kd.int .u8) 5 w' w.heap.size (fun _ => True) v6 x6_1) ∧ Aside0 (Below w.heap.size w w'))
    case atStart => exact ⟨(([] : List Int)), (0), (by first | rfl | (simp; done) | (simp [*]; done)), H', ⟨Nat.le_refl _⟩, ⟨HOg.out⟩, ⟨by repeat (first | (with_reducible first | exact HB.out | apply below_alloc | apply pw_below_drewN | apply below_drew1) | exact HB.out)⟩⟩
    case round =>
     clear H'; obtain ⟨x6_1, x27_1, rfl, HA, HK1, HO_6, HB⟩ := hrel
     cases gk with
     | zero => exact absurd HA.out (by simp [slices_Concat_byte_byte.l0])
     | succ k1 =>
      have H := HA.out; clear HA; simp only [slices_Concat_byte_byte.l0] at H
      by_cases c2 : x27_1 < (l0.length : Int)
      ·rw [if_pos c2] at H; have c2b0 : decide (x27_1 < (l0.length : Int)) = true := decide_eq_true c2; clear c2
       by_cases c3 : 0 ≤ x27_1
       ·rw [if_pos c3] at H; have c3b0 : decide (0 ≤ x27_1) = true := decide_eq_true c3; clear c3
        by_cases c4 : x27_1 < (l0.length : Int)
        ·rw [if_pos c4] at H; have c4b0 : decide (x27_1 < (l0.length : Int)) = true := decide_eq_true c4; clear c4
         by_cases c5 : x6_1.length + (rd_L1 l0 x27_1).length < 140737488355328
         ·rw [if_pos c5] at H; have LMc5 := Aside0.mk c5; clear c5
          obtain ⟨y442, hy442⟩ : ∃ y_ : List Int, y_ = (x6_1 ++ (rd_L1 l0 x27_1)) := ⟨_, rfl⟩
          replace H : (slices_Concat_byte_byte.l0 k1 y442 l0 (l0.length : Int) (wrap64 (x27_1 + 1))) = some r := by first | (rw [hy442]; with_reducible exact H) | (have H2_ := (Option.bind_some _ _).symm.trans H; rw [hy442]; with_reducible exact H2_) | (have H2_ := (Option.bind_some _ _).symm.trans H; with_reducible exact H2_) | with_reducible exact H | (rw [hy442]; exact H) | exact H
          have Ny442 := Aside0.mk hy442; clear hy442; have H' := Aside0.mk H; clear H; have p441 : 0 ≤ (x27_1 : Int) := of_decide_eq_true (by first | (with_reducible assumption) | assumption); have q441 : x27_1 < (l0.length : Int) := of_decide_eq_true (by first | (with_reducible assumption) | assumption); obtain ⟨ad441, A441_0, c441_0, e441, hx441_0, hl441_0, hi441_0⟩ := at_L1 HR0.out x27_1 p441 q441; cases e441; replace hx441_0 := (HB.out.cell (World.block_lt_of_cell? w _ hx441_0)).trans hx441_0; have HR441_0 := Aside0.mk hi441_0; have HC441_0 := Aside0.mk hl441_0; clear hi441_0 hl441_0; replace p441 := eq_true p441; replace q441 := eq_true q441
          go_wp2_with (first | ((with_reducible refine gate_builtin (b := .append) (xs := #[.tmp 31, .tmp 32]) rfl ?_); at_builtin; refine Kd.R_append_rows (Kd.int .u8) (w0 := w) w.heap.size rfl (.tmp 31) (.tmp 32) 24 5 (.int .u8 0) 1 rfl Try.underlying24 info5 rfl (by decide) (by omega) u6 x6_1 (rd_L1 l0 x27_1) _ _ _ (fun _ => True) (fun _ => False) rfl rfl ?aO ?aR (fun _ _ h => h) (fun _ h => h.elim) ?aF ?aB ?aS ?aL ?_; (case aR => repeat (first | exact (Kd.C_below HR441_0.out HB.out) | (with_reducible refine Kd.C_alloc ?_ _) | (with_reducible refine Kd.C_drewN ?_ _) | (with_reducible refine Kd.C_drew ?_))); (case aB => exact (by repeat (first | (with_reducible first | exact HB.out | apply below_alloc | apply pw_below_drewN | apply below_drew1) | exact HB.out))); (case aF => exact (fun _ _ => trivial)); (case aO => exact (by (with_reducible repeat (first | apply Kd.R_alloc | apply Kd.R_drewN | apply Kd.R_drew)); exact HO_6.out)); (case aS => exact (below_size (by repeat (first | (with_reducible first | exact HB.out | apply below_alloc | apply pw_below_drewN | apply below_drew1) | exact HB.out)))); (case aL => have := LMc5.out; omega); intro v443 w6 ho hb hg hat; rw [← Ny442.out] at ho; have n0_ := Aside0.mk (hb); have n1_ := Aside0.mk (ho); clear HB; clear HO_6; have HB := n0_; have HO444 := n1_; clear n0_ n1_; clear ho hb hg hat))
          go_roundg k1
          case measure => have := HK1.out; omega
          case rel => exact ⟨(y442), (wrap64 (x27_1 + 1)), (by first | rfl | (simp; done) | (simp [*]; done)), H', ⟨by have := HK1.out; omega⟩, ⟨by (with_reducible repeat (first | apply Kd.R_alloc | apply Kd.R_drewN | apply Kd.R_drew)); exact HO444.out⟩, ⟨by repeat (first | (with_reducible first | exact HB.out | apply below_alloc | apply pw_below_drewN | apply below_drew1) | exact HB.out)⟩⟩
         ·rw [if_neg c5] at H; exact absurd H (by simp)
        ·rw [if_neg c4] at H; exact absurd H (by simp)
       ·rw [if_neg c3] at H; exact absurd H (by simp)
      ·rw [if_neg c2] at H; have c2b0 : decide (x27_1 < (l0.length : Int)) = false := decide_eq_false c2; clear c2; obtain rfl := Option.some.inj H; go_wp2; go_ret; exact ⟨_, by first | rfl | (simp [errW_none, errW_some] <;> rfl) | (simp [*, errW_none, errW_some] <;> rfl), by (with_reducible repeat (first | apply Kd.R_alloc | apply Kd.R_drewN | apply Kd.R_drew)); exact HO_6.out, by repeat (first | (with_reducible first | exact HB.out | apply below_alloc | apply pw_below_drewN | apply below_drew1) | exact HB.out)⟩


/-! ### word_Join: function 71 -/
def word_Join.f (k : Nat) (l0 : List (List Int)) : Option (List Int) := (slices_Concat_byte_byte.f k l0).bind fun t445 => (some t445)
theorem word_Join.mono : ∀ a0 k, LeO (word_Join.f k a0) (word_Join.f (k + 1) a0) := by
 intro a0 k; unfold word_Join.f
 repeat' first
   | (with_reducible exact slices_Concat_byte_byte.mono _ _)
   | (with_reducible exact LeO.refl _)
   | (with_reducible exact LeO.none _)
   | (with_reducible refine LeO.ite ?_ ?_)
   | (with_reducible refine LeO.bind ?_ (fun _ => ?_))
   | exact slices_Concat_byte_byte.mono _ _
   | exact LeO.none _
   | refine LeO.ite ?_ ?_
   | refine LeO.bind ?_ (fun _ => ?_)
set_option maxHeartbeats 8000000 in
set_option maxRecDepth 100000 in
theorem word_Join.calls (k : Nat) (A0 : Option Addr) (c0 : Nat) (l0 : List (List Int)) (r : List Int) (w : World) (hr0 : Kd.C (Kd.slice 5 (Kd.int .u8)) w A0 l0.length l0) (hc0 : l0.length ≤ c0) (h : word_Join.f k l0 = some r) :
  Calls Try.prog 71 #[.slice A0 l0.length c0] w fun e w' => ∃ v0_ : Value, e = .returned (v0_) ∧ Kd.R (Kd.int .u8) 5 w' w.heap.size (fun _ => True) v0_ r ∧ Below w.heap.size w w' := by
 have HR0 := Aside0.mk hr0; have HC0 := Aside0.mk hc0; clear hr0 hc0; have HB := Aside0.mk (Below.refl w.heap.size w); have H : ((slices_Concat_byte_byte.f k l0).bind fun t445 => (some t445)) = some r := h; clear h; replace H := Option.bind_eq_some_iff.mp H; obtain ⟨t445, A20, H⟩ := H; replace H : (some t445) = some r := H; have A2 := Aside0.mk A20; clear A20; obtain rfl := Option.some.inj H; go_enter Try.func71, Try.ntmps71
 go_wp2_with (first | ((with_reducible refine gate_callee (f := 91) rfl ?_); refine goesL_ (some 4) rfl rfl Try.func91 (by kernel_rfl) rfl #[.slice A0 l0.length c0] rfl (by (try simp only [LmA, LmB, LmC]); first | done | rfl | (simp only [LdA, LtA]; rfl)) ?_; (with_reducible refine (slices_Concat_byte_byte.calls k _ _ l0 t445 _ ?side1 ?side2 A2.out).mono ?_); (case side1 => repeat (first | exact HR0.out | (with_reducible refine Kd.C_alloc ?_ _) | (with_reducible refine Kd.C_drewN ?_ _) | (with_reducible refine Kd.C_drew ?_))); (case side2 => exact HC0.out); rintro e w3 ⟨v446, rfl, ho0, hb⟩; refine ⟨_, rfl, ?_⟩; have n0_ := Aside0.mk (Kd.R_lower ho0 (below_size (by repeat (first | (with_reducible first | exact HB.out | apply below_alloc | apply pw_below_drewN | apply below_drew1) | exact HB.out)))); have n1_ := Aside0.mk (below_step (by repeat (first | (with_reducible first | exact HB.out | apply below_alloc | apply pw_below_drewN | apply below_drew1) | exact HB.out)) hb); clear HB; have HO447 := n0_; have HB := n1_; clear n0_ n1_; (try clear hb); (try clear hb2); (try clear hk); (try clear hi); (try clear ho0)))
 go_ret; exact ⟨_, by first | rfl | (simp [errW_none, errW_some] <;> rfl) | (simp [*, errW_none, errW_some] <;> rfl), by (with_reducible repeat (first | apply Kd.R_alloc | apply Kd.R_drewN | apply Kd.R_drew)); exact HO447.out, by repeat (first | (with_reducible first | exact HB.out | apply below_alloc | apply pw_below_drewN | apply below_drew1) | exact HB.out)⟩

end Go.Proofs.Ytkdibloahkhgoaa.QReplyResets
