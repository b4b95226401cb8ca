-- written by myprint.py, a program of this session's over the kit's printer
import Derived.Test.YtkdibloahkhgoaaQReplyResetsx0
import Derived.Test.YtkdibloahkhgoaaQReplyResetsx1
import Derived.Test.YtkdibloahkhgoaaQReplyResetsx3
namespace Go.Proofs.Ytkdibloahkhgoaa.QReplyResets
open Go.RowKit Go.Proofs.YtkdibloahkhgoaaW.PrintWords Go.Proofs.YtkdibloahkhgoaaW.PrintLast Go.Proofs.YtkdibloahkhgoaaW.PrintMore
attribute [local go_sem] max2_int min2_int max_two min_two max_three min_three max_four min_four   -- for this text's walks alone
set_option linter.unusedVariables false
set_option linter.unusedSimpArgs false

/-! ### castellanref5_Parse: function 77 -/
def castellanref5_Parse.f (l0 : List Int) : Option (Int × Int × Int × Int × Int × Int × Int × List Int × List Int × Int) := if (l0.length : Int) < 20 then (some (0, 0, 0, 0, 0, 0, 0, ([] : List Int), ([] : List Int), 3)) else (if 12 < (l0.length : Int) then (if (wrap64 (4 * (wrap64 ((rd l0 12) / 16)))) < 20 then (some (0, 0, 0, 0, 0, 0, 0, ([] : List Int), ([] : List Int), 2)) else (if (wrap64 (4 * (wrap64 ((rd l0 12) / 16)))) > (l0.length : Int) then (some (0, 0, 0, 0, 0, 0, 0, ([] : List Int), ([] : List Int), 3)) else ((castellanref1_Get16.f l0 0).bind fun t234 => ((castellanref1_Get16.f l0 2).bind fun t235 => ((castellanref1_Get32.f l0 4).bind fun t236 => ((castellanref1_Get32.f l0 8).bind fun t237 => (if 13 < (l0.length : Int) then ((castellanref1_Get16.f l0 14).bind fun t239 => ((castellanref1_Get16.f l0 18).bind fun t240 => ((some (([] : List Int) : List Int)).bind fun y242 => (if 20 ≤ (wrap64 (4 * (wrap64 ((rd l0 12) / 16)))) then (if (wrap64 (4 * (wrap64 ((rd l0 12) / 16)))) ≤ (l0.length : Int) then (if y242.length + ((l0.take ((wrap64 (4 * (wrap64 ((rd l0 12) / 16)))) : Int).toNat).drop 20).length < 140737488355328 then ((some (([] : List Int) : List Int)).bind fun y249 => (if 0 ≤ (wrap64 (4 * (wrap64 ((rd l0 12) / 16)))) then (if y249.length + (l0.drop ((wrap64 (4 * (wrap64 ((rd l0 12) / 16)))) : Int).toNat).length < 140737488355328 then (some (t234, t235, t236, t237, wrap64 (Go.bits .and .u8 (rd l0 13) 63), t239, t240, (y242 ++ ((l0.take ((wrap64 (4 * (wrap64 ((rd l0 12) / 16)))) : Int).toNat).drop 20)), (y249 ++ (l0.drop ((wrap64 (4 * (wrap64 ((rd l0 12) / 16)))) : Int).toNat)), 0)) else (none)) else (none))) else (none)) else (none)) else (none))))) else (none)))))))) else (none))
def castellanref5_Parse.T8 : Bool × List (List Nat × List Nat) := (true, [([], []), ([0], [0]), ([], []), ([2, 1], [2]), ([], []), ([4, 3], [4]), ([], []), ([6, 5], [6]), ([], []), ([8], [8]), ([9], [9]), ([10], [10]), ([11], [11]), ([], []), ([13, 7], [13]), ([], []), ([15, 14], [15]), ([1, 3, 5, 7, 12, 14, 16], [1, 3, 5, 7, 12, 14, 16]), ([], []), ([18, 17, 16, 0, 1, 2, 3, 4, 5, 6, 7, 8, 9, 10, 11, 12, 13, 14, 15, 16, 17, 18], [17, 18])])
def castellanref5_Parse.B8 : List Nat := [0, 1, 0, 7, 0, 31, 0, 127, 0, 256, 768, 1792, 3840, 0, 8447, 0, 57599, 131071, 0, 524287]
theorem castellanref5_Parse.tab8 : rtab .any (opsOf Try.f77 8) = castellanref5_Parse.T8 := by kernel_rfl
theorem castellanref5_Parse.bits8 : waitsOk castellanref5_Parse.T8.2 castellanref5_Parse.B8 = true := by kernel_rfl
def castellanref5_Parse.T9 : Bool × List (List Nat × List Nat) := (true, [([], []), ([], []), ([], []), ([1, 2], [1, 2]), ([0, 3], [0, 3]), ([], []), ([], []), ([], []), ([6, 7], [6, 7]), ([5, 8, 4], [5, 8]), ([0, 1, 2, 3, 4], []), ([10, 4, 9, 0, 1, 2, 3, 4], [4, 10]), ([0, 1, 2, 3, 4, 5, 6, 7, 8, 9, 10, 11], []), ([12, 9, 11, 0, 1, 2, 3, 4, 5, 6, 7, 8, 9, 10, 11], [9, 12])])
def castellanref5_Parse.B9 : List Nat := [0, 0, 0, 6, 15, 0, 0, 0, 192, 511, 31, 2047, 4095, 8191]
theorem castellanref5_Parse.tab9 : rtab .any (opsOf Try.f77 9) = castellanref5_Parse.T9 := by kernel_rfl
theorem castellanref5_Parse.bits9 : waitsOk castellanref5_Parse.T9.2 castellanref5_Parse.B9 = true := by kernel_rfl
set_option maxHeartbeats 8000000 in
set_option maxRecDepth 100000 in
theorem castellanref5_Parse.calls (A0 : Option Addr) (c0 : Nat) (l0 : List Int) (r1 : Int) (r2 : Int) (r3 : Int) (r4 : Int) (r5 : Int) (r6 : Int) (r7 : Int) (r8 : List Int) (r9 : List Int) (r10 : Int) (w : World) (hr0 : Kd.C (Kd.int .u8) w A0 l0.length l0) (hc0 : l0.length ≤ c0) (h : castellanref5_Parse.f l0 = some (r1, r2, r3, r4, r5, r6, r7, r8, r9, r10)) :
  Calls Try.prog 77 #[.slice A0 l0.length c0] w fun e w' => ∃ v7_ v8_ : Value, e = .returned (.tuple #[.agg #[.int .i64 r1, .int .i64 r2, .int .u32 r3, .int .u32 r4, .int .i64 r5, .int .i64 r6, .int .i64 r7, v7_, v8_], .int .i64 r10]) ∧ Kd.R (Kd.int .u8) 5 w' w.heap.size (fun k_ => some k_ ≠ (v8_ : Value).ownBlock) v7_ r8 ∧ Kd.R (Kd.int .u8) 5 w' w.heap.size (fun k_ => some k_ ≠ (v7_ : Value).ownBlock) v8_ r9 ∧ Below w.heap.size w w' := by
 have hu59 := Try.underlying59; have HR0 := Aside0.mk hr0; have HC0 := Aside0.mk hc0; clear hr0 hc0; have HO := Aside0.mk (Owns.nil w); have HF : True := trivial; unfold castellanref5_Parse.f at h; have H := h; clear h
 by_cases c1 : (l0.length : Int) < 20
 ·rw [if_pos c1] at H; have c1b0 : decide ((l0.length : Int) < 20) = true := decide_eq_true c1; have c1b1 : decide (l0.length < 20) = true := decide_eq_true (by omega); clear c1; simp only [Option.some.injEq, Prod.mk.injEq] at H; obtain ⟨rfl, rfl, rfl, rfl, rfl, rfl, rfl, rfl, rfl, rfl⟩ := H; go_enter Try.func77, Try.ntmps77
  go_wp2_with (first | ((with_reducible refine gate_dst (N := 2) rfl ?_); refine ow_box HO rfl (N := 2) rfl #[.int .i64 0, .int .i64 0, .int .u32 0, .int .u32 0, .int .i64 0, .int .i64 0, .int .i64 0, .slice none 0 0, .slice none 0 0] 59 ?hr rfl ?_; (case hr => first | (go_simp; done) | (go_simp; rfl)); clear HO HF; intro g2 w1 HO; have HF := HO.out.facts; simp only [OwnsM.Facts, and_true] at HF) | ((with_reducible refine gate_store (p := 2) rfl ?_); (first | refine ow_put HO rfl rfl 0 rfl (ty := 59) rfl _ rfl rfl (by kernel_rfl) rfl rfl ?_); clear HO HF; intro w1 HO; simp only [LsB, LsC, LsA] at HO; have HF := HO.out.facts; simp only [OwnsM.Facts, and_true] at HF))
  refine bodyPost_ret (results_ct rfl _ _ g2 59 _ (0, 0) _ rfl (HO.out.at_ 0 rfl) Try.underlying59 rfl (by kernel_rfl)) rfl ?_; exact ⟨_, _, rfl, Kd.R_nil _ _ _ _ _, Kd.R_nil _ _ _ _ _, HO.out.below⟩
 rw [if_neg c1] at H; have c1b0 : decide ((l0.length : Int) < 20) = false := decide_eq_false c1; have c1b1 : decide (l0.length < 20) = false := decide_eq_false (by omega); rw [if_pos (show 12 < (l0.length : Int) by omega)] at H; obtain ⟨ad12, ea12, hx12⟩ := Kd.at_int HR0.out 12 (by omega) (by omega); cases ea12; simp only [show (12 : Int).toNat = 12 from rfl, Nat.reduceMul, Nat.reduceEqDiff, Go.Addr.add, ↓reduceIte] at hx12; have HX12 := Aside0.mk hx12; clear hx12; have qi12 : (12 < l0.length) = True := eq_true (by omega); have qj12 : ((12 : Int) < (l0.length : Int)) = True := eq_true (by omega); obtain ⟨ad13, ea13, hx13⟩ := Kd.at_int HR0.out 13 (by omega) (by omega)
 injection ea13 with ea13
 subst ea13; simp only [show (13 : Int).toNat = 13 from rfl, Nat.reduceMul, Nat.reduceEqDiff, Go.Addr.add, ↓reduceIte] at hx13; have HX13 := Aside0.mk hx13; clear hx13; have qi13 : (13 < l0.length) = True := eq_true (by omega); have qj13 : ((13 : Int) < (l0.length : Int)) = True := eq_true (by omega)
 obtain ⟨hh, hhe⟩ : ∃ j_ : Int, (wrap64 (4 * (wrap64 ((rd l0 12) / 16)))) = j_ := ⟨_, rfl⟩
 simp only [hhe] at H; have C1 := Aside0.mk c1; clear c1
 by_cases c3 : hh < 20
 ·rw [if_pos c3] at H; have c3b0 : decide (hh < 20) = true := decide_eq_true c3; clear c3; simp only [Option.some.injEq, Prod.mk.injEq] at H; obtain ⟨rfl, rfl, rfl, rfl, rfl, rfl, rfl, rfl, rfl, rfl⟩ := H; go_enter Try.func77, Try.ntmps77
  go_wp2_with (first | ((with_reducible refine gate_dst (N := 2) rfl ?_); refine ow_box HO rfl (N := 2) rfl #[.int .i64 0, .int .i64 0, .int .u32 0, .int .u32 0, .int .i64 0, .int .i64 0, .int .i64 0, .slice none 0 0, .slice none 0 0] 59 ?hr rfl ?_; (case hr => first | (go_simp; done) | (go_simp; rfl)); clear HO HF; intro g2 w1 HO; have HF := HO.out.facts; simp only [OwnsM.Facts, and_true] at HF; have HX1 := HO.out.cell_old HX12.out (Nat.ne_of_lt (block_lt_of_cell HX12.out))) | ((with_reducible refine gate_store (p := 2) rfl ?_); (first | refine ow_put HO rfl rfl 0 rfl (ty := 59) rfl _ rfl rfl (by kernel_rfl) rfl rfl ?_); clear HO HF; intro w1 HO; simp only [LsB, LsC, LsA] at HO; have HF := HO.out.facts; simp only [OwnsM.Facts, and_true] at HF))
  refine bodyPost_ret (results_ct rfl _ _ g2 59 _ (0, 0) _ rfl (HO.out.at_ 0 rfl) Try.underlying59 rfl (by kernel_rfl)) rfl ?_; exact ⟨_, _, rfl, Kd.R_nil _ _ _ _ _, Kd.R_nil _ _ _ _ _, HO.out.below⟩
 rw [if_neg c3] at H; have c3b0 : decide (hh < 20) = false := decide_eq_false c3
 by_cases c4 : hh > (l0.length : Int)
 ·rw [if_pos c4] at H; have c4b0 : decide ((l0.length : Int) < hh) = true := decide_eq_true c4; clear c3 c4; simp only [Option.some.injEq, Prod.mk.injEq] at H; obtain ⟨rfl, rfl, rfl, rfl, rfl, rfl, rfl, rfl, rfl, rfl⟩ := H; go_enter Try.func77, Try.ntmps77
  go_wp2_with (first | ((with_reducible refine gate_dst (N := 2) rfl ?_); refine ow_box HO rfl (N := 2) rfl #[.int .i64 0, .int .i64 0, .int .u32 0, .int .u32 0, .int .i64 0, .int .i64 0, .int .i64 0, .slice none 0 0, .slice none 0 0] 59 ?hr rfl ?_; (case hr => first | (go_simp; done) | (go_simp; rfl)); clear HO HF; intro g2 w1 HO; have HF := HO.out.facts; simp only [OwnsM.Facts, and_true] at HF; have HX1 := HO.out.cell_old HX12.out (Nat.ne_of_lt (block_lt_of_cell HX12.out))) | ((with_reducible refine gate_store (p := 2) rfl ?_); (first | refine ow_put HO rfl rfl 0 rfl (ty := 59) rfl _ rfl rfl (by kernel_rfl) rfl rfl ?_); clear HO HF; intro w1 HO; simp only [LsB, LsC, LsA] at HO; have HF := HO.out.facts; simp only [OwnsM.Facts, and_true] at HF))
  refine bodyPost_ret (results_ct rfl _ _ g2 59 _ (0, 0) _ rfl (HO.out.at_ 0 rfl) Try.underlying59 rfl (by kernel_rfl)) rfl ?_; exact ⟨_, _, rfl, Kd.R_nil _ _ _ _ _, Kd.R_nil _ _ _ _ _, HO.out.below⟩
 rw [if_neg c4] at H; have c4b0 : decide ((l0.length : Int) < hh) = false := decide_eq_false c4; obtain ⟨a0, A_, H⟩ := Option.bind_eq_some_iff.mp H; have G0 := Aside0.mk A_; clear A_; obtain ⟨a1, A_, H⟩ := Option.bind_eq_some_iff.mp H; have G1 := Aside0.mk A_; clear A_; obtain ⟨a2, A_, H⟩ := Option.bind_eq_some_iff.mp H; have G2 := Aside0.mk A_; clear A_; obtain ⟨a3, A_, H⟩ := Option.bind_eq_some_iff.mp H; have G3 := Aside0.mk A_; clear A_; rw [if_pos (show 13 < (l0.length : Int) by have := C1.out; omega)] at H; obtain ⟨a4, A_, H⟩ := Option.bind_eq_some_iff.mp H; have G4 := Aside0.mk A_; clear A_; obtain ⟨a5, A_, H⟩ := Option.bind_eq_some_iff.mp H; have G5 := Aside0.mk A_; clear A_; obtain ⟨ya, hya, H⟩ := Option.bind_eq_some_iff.mp H; have NYA := Aside0.mk (Option.some.inj hya).symm; clear hya; rw [if_pos (show 20 ≤ hh by omega), if_pos (show hh ≤ (l0.length : Int) by omega)] at H; have e1 : ((l0.take hh.toNat).drop 20).length = min hh.toNat l0.length - 20 := by rw [LdA, LtA]
 have e2 : (l0.drop hh.toNat).length = l0.length - hh.toNat := LdA
 by_cases c8 : ya.length + ((l0.take hh.toNat).drop 20).length < 140737488355328
 rotate_left
 ·rw [if_neg c8] at H; exact absurd H (by simp)
 rw [if_pos c8] at H; rw [e1] at c8; have LM1 := Aside0.mk c8; obtain ⟨yb, hyb, H⟩ := Option.bind_eq_some_iff.mp H; have NYB := Aside0.mk (Option.some.inj hyb).symm; clear hyb c8; rw [if_pos (show 0 ≤ hh by omega)] at H
 by_cases c10 : yb.length + (l0.drop hh.toNat).length < 140737488355328
 rotate_left
 ·rw [if_neg c10] at H; exact absurd H (by simp)
 rw [if_pos c10] at H; rw [e2] at c10; have LM2 := Aside0.mk c10; clear c10
 obtain ⟨yc, hyc⟩ : ∃ y_ : List Int, y_ = ya ++ ((l0.take hh.toNat).drop 20) := ⟨_, rfl⟩
 obtain ⟨yd, hyd⟩ : ∃ y_ : List Int, y_ = yb ++ (l0.drop hh.toNat) := ⟨_, rfl⟩
 rw [← hyc, ← hyd] at H; have NYC := Aside0.mk hyc; have NYD := Aside0.mk hyd; have E1 := Aside0.mk e1; have E2 := Aside0.mk e2; have P3 := Aside0.mk c3; have P4 := Aside0.mk c4; clear hyc hyd e1 e2 c3 c4; simp only [Option.some.injEq, Prod.mk.injEq] at H; obtain ⟨rfl, rfl, rfl, rfl, rfl, rfl, rfl, rfl, rfl, rfl⟩ := H; go_enter Try.func77, Try.ntmps77
 go_upto_region 8 with (first | ((with_reducible refine gate_dst (N := 2) rfl ?_); refine ow_box HO rfl (N := 2) rfl #[.int .i64 0, .int .i64 0, .int .u32 0, .int .u32 0, .int .i64 0, .int .i64 0, .int .i64 0, .slice none 0 0, .slice none 0 0] 59 ?hr rfl ?_; (case hr => first | (go_simp; done) | (go_simp; rfl)); clear HO HF; intro g2 w1 HO; have HF := HO.out.facts; simp only [OwnsM.Facts, and_true] at HF; have HX1 := HO.out.cell_old HX12.out (Nat.ne_of_lt (block_lt_of_cell HX12.out))))
 clear HX1
 try simp only [hhe]
 go_cut [5] (fun v5 wc => ∃ g5 : Nat, v5 = .pointer (some ⟨g5, 0, none⟩) ∧ Aside0 (Owns w wc [(g5, #[.int .i64 a0, .int .i64 a1, .int .u32 a2, .int .u32 a3, .int .i64 (wrap64 (Go.bits .and .u8 (rd l0 13) 63)), .int .i64 a4, .int .i64 a5, .slice none 0 0, .slice none 0 0], 59), (g2, #[.int .i64 0, .int .i64 0, .int .u32 0, .int .u32 0, .int .i64 0, .int .i64 0, .int .i64 0, .slice none 0 0, .slice none 0 0], 59)] []))
 case first =>
  have HO1_ := Aside0.mk HO.out.drew; clear HO HF; have HO := HO1_; clear HO1_; refine start_ (n := 20) (S := fun w' => w'.cell? ⟨ad12.block, ad12.off + 13, none⟩ = some (.int .u8 (rd l0 13))) (ds := [19]) (bm 20 0) (by kernel_rfl) rfl rfl (HO.out.cell_old HX13.out (Nat.ne_of_lt (block_lt_of_cell HX13.out))) (fun hHeld => ?_); refine with_tabW castellanref5_Parse.tab8 castellanref5_Parse.bits8 (fun HT_ HW_ => ?_)
  generalize w1.drew = w1 at HO hHeld ⊢; refine pure_ (i := 0) (N := some 26) (v := ?_) (a' := ?_) (bm 20 1) rfl rfl (any_of HT_.out (by kernel_rfl)) (fun _ _ _ h => h) (Or.inl ⟨by rfl, ?_⟩) ?_ ?_; rotate_left
  ·intro w'; go_simp; with_reducible rfl
  rotate_left
  ·simp only [Act.put, LsA, LsB, LsC, i64_w, i32_w]; rfl
  refine pure_ (i := 2) (N := some 28) (v := ?_) (a' := ?_) (bm 20 5) rfl rfl (any_of HT_.out (by kernel_rfl)) (fun _ _ _ h => h) (Or.inl ⟨by rfl, ?_⟩) ?_ ?_; rotate_left
  ·intro w'; go_simp; with_reducible rfl
  rotate_left
  ·simp only [Act.put, LsA, LsB, LsC, i64_w, i32_w]; rfl
  refine pure_ (i := 4) (N := some 30) (v := ?_) (a' := ?_) (bm 20 21) rfl rfl (any_of HT_.out (by kernel_rfl)) (fun _ _ _ h => h) (Or.inl ⟨by rfl, ?_⟩) ?_ ?_; rotate_left
  ·intro w'; go_simp; with_reducible rfl
  rotate_left
  ·simp only [Act.put, LsA, LsB, LsC, i64_w, i32_w]; rfl
  refine pure_ (i := 6) (N := some 32) (v := ?_) (a' := ?_) (bm 20 85) rfl rfl (any_of HT_.out (by kernel_rfl)) (fun _ _ _ h => h) (Or.inl ⟨by rfl, ?_⟩) ?_ ?_; rotate_left
  ·intro w'; go_simp; with_reducible rfl
  rotate_left
  ·simp only [Act.put, LsA, LsB, LsC, i64_w, i32_w]; rfl
  refine pure_ (i := 8) (N := some 34) (v := ?_) (a' := ?_) (bm 20 341) rfl rfl (any_of HT_.out (by kernel_rfl)) (fun _ _ _ h => h) (Or.inl ⟨by rfl, ?_⟩) ?_ ?_; rotate_left
  ·intro w'; go_simp; with_reducible rfl
  rotate_left
  ·simp only [Act.put, LsA, LsB, LsC, i64_w, i32_w]; rfl
  refine pure_ (i := 9) (N := some 35) (v := ?_) (a' := ?_) (bm 20 853) rfl rfl (any_of HT_.out (by kernel_rfl)) (fun _ _ _ h => h) (Or.inl ⟨by rfl, ?_⟩) ?_ ?_; rotate_left
  ·intro w'; go_simp; with_reducible rfl
  rotate_left
  ·simp only [Act.put, LsA, LsB, LsC, i64_w, i32_w]; rfl
  refine pure_ (i := 13) (N := some 39) (v := ?_) (a' := ?_) (bm 20 9045) rfl rfl (any_of HT_.out (by kernel_rfl)) (fun _ _ _ h => h) (Or.inl ⟨by rfl, ?_⟩) ?_ ?_; rotate_left
  ·intro w'; go_simp; with_reducible rfl
  rotate_left
  ·simp only [Act.put, LsA, LsB, LsC, i64_w, i32_w]; rfl
  refine pure_ (i := 15) (N := some 41) (v := ?_) (a' := ?_) (bm 20 41813) rfl rfl (any_of HT_.out (by kernel_rfl)) (fun _ _ _ h => h) (Or.inl ⟨by rfl, ?_⟩) ?_ ?_; rotate_left
  ·intro w'; go_simp; with_reducible rfl
  rotate_left
  ·simp only [Act.put, LsA, LsB, LsC, i64_w, i32_w]; rfl
  refine take_ (i := 10) (N := some 36) (v := ?_) (a' := ?_) (bm 20 42837) rfl rfl (take_ofW HT_.out HW_.out (by kernel_rfl)) (fun _ _ _ h => h) (Or.inl ⟨by rfl, ?_⟩) hHeld ?_ ?_; rotate_left
  ·intro w' s0; go_simp; with_reducible rfl
  rotate_left
  ·simp only [Act.put, LsA, LsB, LsC, i64_w, i32_w]; rfl
  refine pure_ (i := 11) (N := some 37) (v := ?_) (a' := ?_) (bm 20 44885) rfl rfl (any_of HT_.out (by kernel_rfl)) (fun _ _ _ h => h) (Or.inl ⟨by rfl, ?_⟩) ?_ ?_; rotate_left
  ·intro w'; go_simp; with_reducible rfl
  rotate_left
  ·simp only [Act.put, LsA, LsB, LsC, i64_w, i32_w]; rfl
  refine pure_ (i := 12) (N := some 38) (v := ?_) (a' := ?_) (bm 20 48981) rfl rfl (any_of HT_.out (by kernel_rfl)) (fun _ _ _ h => h) (Or.inl ⟨by rfl, ?_⟩) ?_ ?_; rotate_left
  ·intro w'; go_simp; with_reducible rfl
  rotate_left
  ·simp only [Act.put, LsA, LsB, LsC, i64_w, i32_w]; rfl
  refine two_ (i := 1) (j := 18) (Ni := some 27) (Nj := some 5) (bm 20 48983) (bm 20 311125) rfl rfl rfl rfl (two_of HT_.out (by kernel_rfl)) (by decide) (by decide) (fun K hK => ?_) (fun K hK => ?_)
  ·skip
   refine goes_ Try.func66 (by kernel_rfl) rfl #[.slice (some ad12) l0.length c0, .int .i64 0] (by rfl) rfl rfl (by (try simp only [LmA, LmB, LmC]); first | done | rfl | (simp only [LdA, LtA]; rfl)) ?_; refine (castellanref1_Get16.calls _ _ l0 0 a0 _ (HO.out.old HR0.out) HC0.out G0.out).mono ?_; rintro e w1 ⟨rfl, hd_⟩; refine ⟨_, rfl, ?_⟩; replace HO := Aside0.mk (HO.out.drawn hd_); clear hd_; refine hK.out _ _ (HO.out.cell_old HX13.out (Nat.ne_of_lt (block_lt_of_cell HX13.out))) (fun hHeld => ?_); clear hK K; refine norm_ (a' := ?_) ?_ ?_; rotate_left
   ·show Act.put _ (some 27) _ = _; simp only [Act.put, LsA, LsB, LsC, i64_w, i32_w]; rfl
   refine two_ (i := 3) (j := 18) (Ni := some 29) (Nj := some 5) (bm 20 48991) (bm 20 311127) rfl rfl rfl rfl (two_of HT_.out (by kernel_rfl)) (by decide) (by decide) (fun K hK => ?_) (fun K hK => ?_)
   ·skip
    refine goes_ Try.func66 (by kernel_rfl) rfl #[.slice (some ad12) l0.length c0, .int .i64 2] (by rfl) rfl rfl (by (try simp only [LmA, LmB, LmC]); first | done | rfl | (simp only [LdA, LtA]; rfl)) ?_; refine (castellanref1_Get16.calls _ _ l0 2 a1 _ (HO.out.old HR0.out) HC0.out G1.out).mono ?_; rintro e w1 ⟨rfl, hd_⟩; refine ⟨_, rfl, ?_⟩; replace HO := Aside0.mk (HO.out.drawn hd_); clear hd_; refine hK.out _ _ (HO.out.cell_old HX13.out (Nat.ne_of_lt (block_lt_of_cell HX13.out))) (fun hHeld => ?_); clear hK K; refine norm_ (a' := ?_) ?_ ?_; rotate_left
    ·show Act.put _ (some 29) _ = _; simp only [Act.put, LsA, LsB, LsC, i64_w, i32_w]; rfl
    refine two_ (i := 5) (j := 18) (Ni := some 31) (Nj := some 5) (bm 20 49023) (bm 20 311135) rfl rfl rfl rfl (two_of HT_.out (by kernel_rfl)) (by decide) (by decide) (fun K hK => ?_) (fun K hK => ?_)
    ·skip
     refine goes_ Try.func80 (by kernel_rfl) rfl #[.slice (some ad12) l0.length c0, .int .i64 4] (by rfl) rfl rfl (by (try simp only [LmA, LmB, LmC]); first | done | rfl | (simp only [LdA, LtA]; rfl)) ?_; refine (castellanref1_Get32.calls _ _ l0 4 a2 _ (HO.out.old HR0.out) HC0.out G2.out).mono ?_; rintro e w1 ⟨rfl, hd_⟩; refine ⟨_, rfl, ?_⟩; replace HO := Aside0.mk (HO.out.drawn hd_); clear hd_; refine hK.out _ _ (HO.out.cell_old HX13.out (Nat.ne_of_lt (block_lt_of_cell HX13.out))) (fun hHeld => ?_); clear hK K; refine norm_ (a' := ?_) ?_ ?_; rotate_left
     ·show Act.put _ (some 31) _ = _; simp only [Act.put, LsA, LsB, LsC, i64_w, i32_w]; rfl
     refine two_ (i := 7) (j := 18) (Ni := some 33) (Nj := some 5) (bm 20 49151) (bm 20 311167) rfl rfl rfl rfl (two_of HT_.out (by kernel_rfl)) (by decide) (by decide) (fun K hK => ?_) (fun K hK => ?_)
     ·skip
      refine goes_ Try.func80 (by kernel_rfl) rfl #[.slice (some ad12) l0.length c0, .int .i64 8] (by rfl) rfl rfl (by (try simp only [LmA, LmB, LmC]); first | done | rfl | (simp only [LdA, LtA]; rfl)) ?_; refine (castellanref1_Get32.calls _ _ l0 8 a3 _ (HO.out.old HR0.out) HC0.out G3.out).mono ?_; rintro e w1 ⟨rfl, hd_⟩; refine ⟨_, rfl, ?_⟩; replace HO := Aside0.mk (HO.out.drawn hd_); clear hd_; refine hK.out _ _ (HO.out.cell_old HX13.out (Nat.ne_of_lt (block_lt_of_cell HX13.out))) (fun hHeld => ?_); clear hK K; refine norm_ (a' := ?_) ?_ ?_; rotate_left
      ·show Act.put _ (some 33) _ = _; simp only [Act.put, LsA, LsB, LsC, i64_w, i32_w]; rfl
      refine two_ (i := 14) (j := 18) (Ni := some 40) (Nj := some 5) (bm 20 65535) (bm 20 311295) rfl rfl rfl rfl (two_of HT_.out (by kernel_rfl)) (by decide) (by decide) (fun K hK => ?_) (fun K hK => ?_)
      ·skip
       refine goes_ Try.func66 (by kernel_rfl) rfl #[.slice (some ad12) l0.length c0, .int .i64 14] (by rfl) rfl rfl (by (try simp only [LmA, LmB, LmC]); first | done | rfl | (simp only [LdA, LtA]; rfl)) ?_; refine (castellanref1_Get16.calls _ _ l0 14 a4 _ (HO.out.old HR0.out) HC0.out G4.out).mono ?_; rintro e w1 ⟨rfl, hd_⟩; refine ⟨_, rfl, ?_⟩; replace HO := Aside0.mk (HO.out.drawn hd_); clear hd_; refine hK.out _ _ (HO.out.cell_old HX13.out (Nat.ne_of_lt (block_lt_of_cell HX13.out))) (fun hHeld => ?_); clear hK K; refine norm_ (a' := ?_) ?_ ?_; rotate_left
       ·show Act.put _ (some 40) _ = _; simp only [Act.put, LsA, LsB, LsC, i64_w, i32_w]; rfl
       refine two_ (i := 16) (j := 18) (Ni := some 42) (Nj := some 5) (bm 20 131071) (bm 20 327679) rfl rfl rfl rfl (two_of HT_.out (by kernel_rfl)) (by decide) (by decide) (fun K hK => ?_) (fun K hK => ?_)
       ·skip
        refine goes_ Try.func66 (by kernel_rfl) rfl #[.slice (some ad12) l0.length c0, .int .i64 18] (by rfl) rfl rfl (by (try simp only [LmA, LmB, LmC]); first | done | rfl | (simp only [LdA, LtA]; rfl)) ?_; refine (castellanref1_Get16.calls _ _ l0 18 a5 _ (HO.out.old HR0.out) HC0.out G5.out).mono ?_; rintro e w1 ⟨rfl, hd_⟩; refine ⟨_, rfl, ?_⟩; replace HO := Aside0.mk (HO.out.drawn hd_); clear hd_; refine hK.out _ _ (HO.out.cell_old HX13.out (Nat.ne_of_lt (block_lt_of_cell HX13.out))) (fun hHeld => ?_); clear hK K; refine norm_ (a' := ?_) ?_ ?_; rotate_left
        ·show Act.put _ (some 42) _ = _; simp only [Act.put, LsA, LsB, LsC, i64_w, i32_w]; rfl
        refine pure_ (i := 17) (N := some 43) (v := ?_) (a' := ?_) (bm 20 262143) rfl rfl (any_of HT_.out (by kernel_rfl)) (fun _ _ _ h => h) (Or.inl ⟨by rfl, ?_⟩) ?_ ?_; rotate_left
        ·intro w'; go_simp; with_reducible rfl
        rotate_left
        ·simp only [Act.put, LsA, LsB, LsC, i64_w, i32_w]; rfl
        refine one_ (i := 18) (N := some 5) (bm 20 524287) rfl rfl (one_of HT_.out (by kernel_rfl)) (by decide) (fun K hK => ?_); refine ow_box_step HO (by rfl) (N := 5) rfl #[.int .i64 0, .int .i64 0, .int .u32 0, .int .u32 0, .int .i64 0, .int .i64 0, .int .i64 0, .slice none 0 0, .slice none 0 0] 59 ?hr rfl (fun g5 w1 HO1_ => ?_); (case hr => first | (go_simp; done) | (go_simp; rfl))
        clear HO; have HO := HO1_; clear HO1_; refine hK.out _ _ (HO.out.cell_old HX13.out (Nat.ne_of_lt (block_lt_of_cell HX13.out))) (fun hHeld => ?_); clear hK K; refine norm_ (a' := ?_) ?_ ?_; rotate_left
        ·show Act.put _ (some 5) _ = _; simp only [Act.put, LsA, LsB, LsC, i64_w, i32_w]; rfl
        refine last_ (i := 19) (N := none) (bm 20 1048575) rfl rfl (one_of HT_.out (by kernel_rfl)) (by decide) (fun K hK => ?_); refine ow_put_step HO (by rfl) rfl 0 rfl (ty := 59) rfl _ rfl rfl (by kernel_rfl) rfl rfl (fun w1 HO1_ => ?_); clear HO; have HO := HO1_; clear HO1_; simp only [LsB, LsC, LsA] at HO; refine hK.out _ _ ?_; clear hK K; refine done_ (done_of HT_.out (by kernel_rfl)) ?_; go_wp2; go_meet
        case rel => exact ⟨_, rfl, ⟨HO.out⟩⟩
       ·skip
        refine ow_box_step HO (by rfl) (N := 5) rfl #[.int .i64 0, .int .i64 0, .int .u32 0, .int .u32 0, .int .i64 0, .int .i64 0, .int .i64 0, .slice none 0 0, .slice none 0 0] 59 ?hr rfl (fun g5 w1 HO1_ => ?_); (case hr => first | (go_simp; done) | (go_simp; rfl))
        clear HO; have HO := HO1_; clear HO1_; refine hK.out _ _ (HO.out.cell_old HX13.out (Nat.ne_of_lt (block_lt_of_cell HX13.out))) (fun hHeld => ?_); clear hK K; refine norm_ (a' := ?_) ?_ ?_; rotate_left
        ·show Act.put _ (some 5) _ = _; simp only [Act.put, LsA, LsB, LsC, i64_w, i32_w]; rfl
        refine one_ (i := 16) (N := some 42) (bm 20 393215) rfl rfl (one_of HT_.out (by kernel_rfl)) (by decide) (fun K hK => ?_); refine goes_ Try.func66 (by kernel_rfl) rfl #[.slice (some ad12) l0.length c0, .int .i64 18] (by rfl) rfl rfl (by (try simp only [LmA, LmB, LmC]); first | done | rfl | (simp only [LdA, LtA]; rfl)) ?_; refine (castellanref1_Get16.calls _ _ l0 18 a5 _ (HO.out.old HR0.out) HC0.out G5.out).mono ?_; rintro e w1 ⟨rfl, hd_⟩; refine ⟨_, rfl, ?_⟩; replace HO := Aside0.mk (HO.out.drawn hd_); clear hd_; refine hK.out _ _ (HO.out.cell_old HX13.out (Nat.ne_of_lt (block_lt_of_cell HX13.out))) (fun hHeld => ?_); clear hK K; refine norm_ (a' := ?_) ?_ ?_; rotate_left
        ·show Act.put _ (some 42) _ = _; simp only [Act.put, LsA, LsB, LsC, i64_w, i32_w]; rfl
        refine pure_ (i := 17) (N := some 43) (v := ?_) (a' := ?_) (bm 20 524287) rfl rfl (any_of HT_.out (by kernel_rfl)) (fun _ _ _ h => h) (Or.inl ⟨by rfl, ?_⟩) ?_ ?_; rotate_left
        ·intro w'; go_simp; with_reducible rfl
        rotate_left
        ·simp only [Act.put, LsA, LsB, LsC, i64_w, i32_w]; rfl
        refine last_ (i := 19) (N := none) (bm 20 1048575) rfl rfl (one_of HT_.out (by kernel_rfl)) (by decide) (fun K hK => ?_); refine ow_put_step HO (by rfl) rfl 0 rfl (ty := 59) rfl _ rfl rfl (by kernel_rfl) rfl rfl (fun w1 HO1_ => ?_); clear HO; have HO := HO1_; clear HO1_; simp only [LsB, LsC, LsA] at HO; refine hK.out _ _ ?_; clear hK K; refine done_ (done_of HT_.out (by kernel_rfl)) ?_; go_wp2; go_meet
        case rel => exact ⟨_, rfl, ⟨HO.out⟩⟩
      ·skip
       refine ow_box_step HO (by rfl) (N := 5) rfl #[.int .i64 0, .int .i64 0, .int .u32 0, .int .u32 0, .int .i64 0, .int .i64 0, .int .i64 0, .slice none 0 0, .slice none 0 0] 59 ?hr rfl (fun g5 w1 HO1_ => ?_); (case hr => first | (go_simp; done) | (go_simp; rfl))
       clear HO; have HO := HO1_; clear HO1_; refine hK.out _ _ (HO.out.cell_old HX13.out (Nat.ne_of_lt (block_lt_of_cell HX13.out))) (fun hHeld => ?_); clear hK K; refine norm_ (a' := ?_) ?_ ?_; rotate_left
       ·show Act.put _ (some 5) _ = _; simp only [Act.put, LsA, LsB, LsC, i64_w, i32_w]; rfl
       refine one_ (i := 14) (N := some 40) (bm 20 327679) rfl rfl (one_of HT_.out (by kernel_rfl)) (by decide) (fun K hK => ?_); refine goes_ Try.func66 (by kernel_rfl) rfl #[.slice (some ad12) l0.length c0, .int .i64 14] (by rfl) rfl rfl (by (try simp only [LmA, LmB, LmC]); first | done | rfl | (simp only [LdA, LtA]; rfl)) ?_; refine (castellanref1_Get16.calls _ _ l0 14 a4 _ (HO.out.old HR0.out) HC0.out G4.out).mono ?_; rintro e w1 ⟨rfl, hd_⟩; refine ⟨_, rfl, ?_⟩; replace HO := Aside0.mk (HO.out.drawn hd_); clear hd_; refine hK.out _ _ (HO.out.cell_old HX13.out (Nat.ne_of_lt (block_lt_of_cell HX13.out))) (fun hHeld => ?_); clear hK K; refine norm_ (a' := ?_) ?_ ?_; rotate_left
       ·show Act.put _ (some 40) _ = _; simp only [Act.put, LsA, LsB, LsC, i64_w, i32_w]; rfl
       refine one_ (i := 16) (N := some 42) (bm 20 393215) rfl rfl (one_of HT_.out (by kernel_rfl)) (by decide) (fun K hK => ?_); refine goes_ Try.func66 (by kernel_rfl) rfl #[.slice (some ad12) l0.length c0, .int .i64 18] (by rfl) rfl rfl (by (try simp only [LmA, LmB, LmC]); first | done | rfl | (simp only [LdA, LtA]; rfl)) ?_; refine (castellanref1_Get16.calls _ _ l0 18 a5 _ (HO.out.old HR0.out) HC0.out G5.out).mono ?_; rintro e w1 ⟨rfl, hd_⟩; refine ⟨_, rfl, ?_⟩; replace HO := Aside0.mk (HO.out.drawn hd_); clear hd_; refine hK.out _ _ (HO.out.cell_old HX13.out (Nat.ne_of_lt (block_lt_of_cell HX13.out))) (fun hHeld => ?_); clear hK K; refine norm_ (a' := ?_) ?_ ?_; rotate_left
       ·show Act.put _ (some 42) _ = _; simp only [Act.put, LsA, LsB, LsC, i64_w, i32_w]; rfl
       refine pure_ (i := 17) (N := some 43) (v := ?_) (a' := ?_) (bm 20 524287) rfl rfl (any_of HT_.out (by kernel_rfl)) (fun _ _ _ h => h) (Or.inl ⟨by rfl, ?_⟩) ?_ ?_; rotate_left
       ·intro w'; go_simp; with_reducible rfl
       rotate_left
       ·simp only [Act.put, LsA, LsB, LsC, i64_w, i32_w]; rfl
       refine last_ (i := 19) (N := none) (bm 20 1048575) rfl rfl (one_of HT_.out (by kernel_rfl)) (by decide) (fun K hK => ?_); refine ow_put_step HO (by rfl) rfl 0 rfl (ty := 59) rfl _ rfl rfl (by kernel_rfl) rfl rfl (fun w1 HO1_ => ?_); clear HO; have HO := HO1_; clear HO1_; simp only [LsB, LsC, LsA] at HO; refine hK.out _ _ ?_; clear hK K; refine done_ (done_of HT_.out (by kernel_rfl)) ?_; go_wp2; go_meet
       case rel => exact ⟨_, rfl, ⟨HO.out⟩⟩
     ·skip
      refine ow_box_step HO (by rfl) (N := 5) rfl #[.int .i64 0, .int .i64 0, .int .u32 0, .int .u32 0, .int .i64 0, .int .i64 0, .int .i64 0, .slice none 0 0, .slice none 0 0] 59 ?hr rfl (fun g5 w1 HO1_ => ?_); (case hr => first | (go_simp; done) | (go_simp; rfl))
      clear HO; have HO := HO1_; clear HO1_; refine hK.out _ _ (HO.out.cell_old HX13.out (Nat.ne_of_lt (block_lt_of_cell HX13.out))) (fun hHeld => ?_); clear hK K; refine norm_ (a' := ?_) ?_ ?_; rotate_left
      ·show Act.put _ (some 5) _ = _; simp only [Act.put, LsA, LsB, LsC, i64_w, i32_w]; rfl
      refine one_ (i := 7) (N := some 33) (bm 20 311295) rfl rfl (one_of HT_.out (by kernel_rfl)) (by decide) (fun K hK => ?_); refine goes_ Try.func80 (by kernel_rfl) rfl #[.slice (some ad12) l0.length c0, .int .i64 8] (by rfl) rfl rfl (by (try simp only [LmA, LmB, LmC]); first | done | rfl | (simp only [LdA, LtA]; rfl)) ?_; refine (castellanref1_Get32.calls _ _ l0 8 a3 _ (HO.out.old HR0.out) HC0.out G3.out).mono ?_; rintro e w1 ⟨rfl, hd_⟩; refine ⟨_, rfl, ?_⟩; replace HO := Aside0.mk (HO.out.drawn hd_); clear hd_; refine hK.out _ _ (HO.out.cell_old HX13.out (Nat.ne_of_lt (block_lt_of_cell HX13.out))) (fun hHeld => ?_); clear hK K; refine norm_ (a' := ?_) ?_ ?_; rotate_left
      ·show Act.put _ (some 33) _ = _; simp only [Act.put, LsA, LsB, LsC, i64_w, i32_w]; rfl
      refine one_ (i := 14) (N := some 40) (bm 20 327679) rfl rfl (one_of HT_.out (by kernel_rfl)) (by decide) (fun K hK => ?_); refine goes_ Try.func66 (by kernel_rfl) rfl #[.slice (some ad12) l0.length c0, .int .i64 14] (by rfl) rfl rfl (by (try simp only [LmA, LmB, LmC]); first | done | rfl | (simp only [LdA, LtA]; rfl)) ?_; refine (castellanref1_Get16.calls _ _ l0 14 a4 _ (HO.out.old HR0.out) HC0.out G4.out).mono ?_; rintro e w1 ⟨rfl, hd_⟩; refine ⟨_, rfl, ?_⟩; replace HO := Aside0.mk (HO.out.drawn hd_); clear hd_; refine hK.out _ _ (HO.out.cell_old HX13.out (Nat.ne_of_lt (block_lt_of_cell HX13.out))) (fun hHeld => ?_); clear hK K; refine norm_ (a' := ?_) ?_ ?_; rotate_left
      ·show Act.put _ (some 40) _ = _; simp only [Act.put, LsA, LsB, LsC, i64_w, i32_w]; rfl
      refine one_ (i := 16) (N := some 42) (bm 20 393215) rfl rfl (one_of HT_.out (by kernel_rfl)) (by decide) (fun K hK => ?_); refine goes_ Try.func66 (by kernel_rfl) rfl #[.slice (some ad12) l0.length c0, .int .i64 18] (by rfl) rfl rfl (by (try simp only [LmA, LmB, LmC]); first | done | rfl | (simp only [LdA, LtA]; rfl)) ?_; refine (castellanref1_Get16.calls _ _ l0 18 a5 _ (HO.out.old HR0.out) HC0.out G5.out).mono ?_; rintro e w1 ⟨rfl, hd_⟩; refine ⟨_, rfl, ?_⟩; replace HO := Aside0.mk (HO.out.drawn hd_); clear hd_; refine hK.out _ _ (HO.out.cell_old HX13.out (Nat.ne_of_lt (block_lt_of_cell HX13.out))) (fun hHeld => ?_); clear hK K; refine norm_ (a' := ?_) ?_ ?_; rotate_left
      ·show Act.put _ (some 42) _ = _; simp only [Act.put, LsA, LsB, LsC, i64_w, i32_w]; rfl
      refine pure_ (i := 17) (N := some 43) (v := ?_) (a' := ?_) (bm 20 524287) rfl rfl (any_of HT_.out (by kernel_rfl)) (fun _ _ _ h => h) (Or.inl ⟨by rfl, ?_⟩) ?_ ?_; rotate_left
      ·intro w'; go_simp; with_reducible rfl
      rotate_left
      ·simp only [Act.put, LsA, LsB, LsC, i64_w, i32_w]; rfl
      refine last_ (i := 19) (N := none) (bm 20 1048575) rfl rfl (one_of HT_.out (by kernel_rfl)) (by decide) (fun K hK => ?_); refine ow_put_step HO (by rfl) rfl 0 rfl (ty := 59) rfl _ rfl rfl (by kernel_rfl) rfl rfl (fun w1 HO1_ => ?_); clear HO; have HO := HO1_; clear HO1_; simp only [LsB, LsC, LsA] at HO; refine hK.out _ _ ?_; clear hK K; refine done_ (done_of HT_.out (by kernel_rfl)) ?_; go_wp2; go_meet
      case rel => exact ⟨_, rfl, ⟨HO.out⟩⟩
    ·skip
     refine ow_box_step HO (by rfl) (N := 5) rfl #[.int .i64 0, .int .i64 0, .int .u32 0, .int .u32 0, .int .i64 0, .int .i64 0, .int .i64 0, .slice none 0 0, .slice none 0 0] 59 ?hr rfl (fun g5 w1 HO1_ => ?_); (case hr => first | (go_simp; done) | (go_simp; rfl))
     clear HO; have HO := HO1_; clear HO1_; refine hK.out _ _ (HO.out.cell_old HX13.out (Nat.ne_of_lt (block_lt_of_cell HX13.out))) (fun hHeld => ?_); clear hK K; refine norm_ (a' := ?_) ?_ ?_; rotate_left
     ·show Act.put _ (some 5) _ = _; simp only [Act.put, LsA, LsB, LsC, i64_w, i32_w]; rfl
     refine one_ (i := 5) (N := some 31) (bm 20 311167) rfl rfl (one_of HT_.out (by kernel_rfl)) (by decide) (fun K hK => ?_); refine goes_ Try.func80 (by kernel_rfl) rfl #[.slice (some ad12) l0.length c0, .int .i64 4] (by rfl) rfl rfl (by (try simp only [LmA, LmB, LmC]); first | done | rfl | (simp only [LdA, LtA]; rfl)) ?_; refine (castellanref1_Get32.calls _ _ l0 4 a2 _ (HO.out.old HR0.out) HC0.out G2.out).mono ?_; rintro e w1 ⟨rfl, hd_⟩; refine ⟨_, rfl, ?_⟩; replace HO := Aside0.mk (HO.out.drawn hd_); clear hd_; refine hK.out _ _ (HO.out.cell_old HX13.out (Nat.ne_of_lt (block_lt_of_cell HX13.out))) (fun hHeld => ?_); clear hK K; refine norm_ (a' := ?_) ?_ ?_; rotate_left
     ·show Act.put _ (some 31) _ = _; simp only [Act.put, LsA, LsB, LsC, i64_w, i32_w]; rfl
     refine one_ (i := 7) (N := some 33) (bm 20 311295) rfl rfl (one_of HT_.out (by kernel_rfl)) (by decide) (fun K hK => ?_); refine goes_ Try.func80 (by kernel_rfl) rfl #[.slice (some ad12) l0.length c0, .int .i64 8] (by rfl) rfl rfl (by (try simp only [LmA, LmB, LmC]); first | done | rfl | (simp only [LdA, LtA]; rfl)) ?_; refine (castellanref1_Get32.calls _ _ l0 8 a3 _ (HO.out.old HR0.out) HC0.out G3.out).mono ?_; rintro e w1 ⟨rfl, hd_⟩; refine ⟨_, rfl, ?_⟩; replace HO := Aside0.mk (HO.out.drawn hd_); clear hd_; refine hK.out _ _ (HO.out.cell_old HX13.out (Nat.ne_of_lt (block_lt_of_cell HX13.out))) (fun hHeld => ?_); clear hK K; refine norm_ (a' := ?_) ?_ ?_; rotate_left
     ·show Act.put _ (some 33) _ = _; simp only [Act.put, LsA, LsB, LsC, i64_w, i32_w]; rfl
     refine one_ (i := 14) (N := some 40) (bm 20 327679) rfl rfl (one_of HT_.out (by kernel_rfl)) (by decide) (fun K hK => ?_); refine goes_ Try.func66 (by kernel_rfl) rfl #[.slice (some ad12) l0.length c0, .int .i64 14] (by rfl) rfl rfl (by (try simp only [LmA, LmB, LmC]); first | done | rfl | (simp only [LdA, LtA]; rfl)) ?_; refine (castellanref1_Get16.calls _ _ l0 14 a4 _ (HO.out.old HR0.out) HC0.out G4.out).mono ?_; rintro e w1 ⟨rfl, hd_⟩; refine ⟨_, rfl, ?_⟩; replace HO := Aside0.mk (HO.out.drawn hd_); clear hd_; refine hK.out _ _ (HO.out.cell_old HX13.out (Nat.ne_of_lt (block_lt_of_cell HX13.out))) (fun hHeld => ?_); clear hK K; refine norm_ (a' := ?_) ?_ ?_; rotate_left
     ·show Act.put _ (some 40) _ = _; simp only [Act.put, LsA, LsB, LsC, i64_w, i32_w]; rfl
     refine one_ (i := 16) (N := some 42) (bm 20 393215) rfl rfl (one_of HT_.out (by kernel_rfl)) (by decide) (fun K hK => ?_); refine goes_ Try.func66 (by kernel_rfl) rfl #[.slice (some ad12) l0.length c0, .int .i64 18] (by rfl) rfl rfl (by (try simp only [LmA, LmB, LmC]); first | done | rfl | (simp only [LdA, LtA]; rfl)) ?_; refine (castellanref1_Get16.calls _ _ l0 18 a5 _ (HO.out.old HR0.out) HC0.out G5.out).mono ?_; rintro e w1 ⟨rfl, hd_⟩; refine ⟨_, rfl, ?_⟩; replace HO := Aside0.mk (HO.out.drawn hd_); clear hd_; refine hK.out _ _ (HO.out.cell_old HX13.out (Nat.ne_of_lt (block_lt_of_cell HX13.out))) (fun hHeld => ?_); clear hK K; refine norm_ (a' := ?_) ?_ ?_; rotate_left
     ·show Act.put _ (some 42) _ = _; simp only [Act.put, LsA, LsB, LsC, i64_w, i32_w]; rfl
     refine pure_ (i := 17) (N := some 43) (v := ?_) (a' := ?_) (bm 20 524287) rfl rfl (any_of HT_.out (by kernel_rfl)) (fun _ _ _ h => h) (Or.inl ⟨by rfl, ?_⟩) ?_ ?_; rotate_left
     ·intro w'; go_simp; with_reducible rfl
     rotate_left
     ·simp only [Act.put, LsA, LsB, LsC, i64_w, i32_w]; rfl
     refine last_ (i := 19) (N := none) (bm 20 1048575) rfl rfl (one_of HT_.out (by kernel_rfl)) (by decide) (fun K hK => ?_); refine ow_put_step HO (by rfl) rfl 0 rfl (ty := 59) rfl _ rfl rfl (by kernel_rfl) rfl rfl (fun w1 HO1_ => ?_); clear HO; have HO := HO1_; clear HO1_; simp only [LsB, LsC, LsA] at HO; refine hK.out _ _ ?_; clear hK K; refine done_ (done_of HT_.out (by kernel_rfl)) ?_; go_wp2; go_meet
     case rel => exact ⟨_, rfl, ⟨HO.out⟩⟩
   ·skip
    refine ow_box_step HO (by rfl) (N := 5) rfl #[.int .i64 0, .int .i64 0, .int .u32 0, .int .u32 0, .int .i64 0, .int .i64 0, .int .i64 0, .slice none 0 0, .slice none 0 0] 59 ?hr rfl (fun g5 w1 HO1_ => ?_); (case hr => first | (go_simp; done) | (go_simp; rfl))
    clear HO; have HO := HO1_; clear HO1_; refine hK.out _ _ (HO.out.cell_old HX13.out (Nat.ne_of_lt (block_lt_of_cell HX13.out))) (fun hHeld => ?_); clear hK K; refine norm_ (a' := ?_) ?_ ?_; rotate_left
    ·show Act.put _ (some 5) _ = _; simp only [Act.put, LsA, LsB, LsC, i64_w, i32_w]; rfl
    refine one_ (i := 3) (N := some 29) (bm 20 311135) rfl rfl (one_of HT_.out (by kernel_rfl)) (by decide) (fun K hK => ?_); refine goes_ Try.func66 (by kernel_rfl) rfl #[.slice (some ad12) l0.length c0, .int .i64 2] (by rfl) rfl rfl (by (try simp only [LmA, LmB, LmC]); first | done | rfl | (simp only [LdA, LtA]; rfl)) ?_; refine (castellanref1_Get16.calls _ _ l0 2 a1 _ (HO.out.old HR0.out) HC0.out G1.out).mono ?_; rintro e w1 ⟨rfl, hd_⟩; refine ⟨_, rfl, ?_⟩; replace HO := Aside0.mk (HO.out.drawn hd_); clear hd_; refine hK.out _ _ (HO.out.cell_old HX13.out (Nat.ne_of_lt (block_lt_of_cell HX13.out))) (fun hHeld => ?_); clear hK K; refine norm_ (a' := ?_) ?_ ?_; rotate_left
    ·show Act.put _ (some 29) _ = _; simp only [Act.put, LsA, LsB, LsC, i64_w, i32_w]; rfl
    refine one_ (i := 5) (N := some 31) (bm 20 311167) rfl rfl (one_of HT_.out (by kernel_rfl)) (by decide) (fun K hK => ?_); refine goes_ Try.func80 (by kernel_rfl) rfl #[.slice (some ad12) l0.length c0, .int .i64 4] (by rfl) rfl rfl (by (try simp only [LmA, LmB, LmC]); first | done | rfl | (simp only [LdA, LtA]; rfl)) ?_; refine (castellanref1_Get32.calls _ _ l0 4 a2 _ (HO.out.old HR0.out) HC0.out G2.out).mono ?_; rintro e w1 ⟨rfl, hd_⟩; refine ⟨_, rfl, ?_⟩; replace HO := Aside0.mk (HO.out.drawn hd_); clear hd_; refine hK.out _ _ (HO.out.cell_old HX13.out (Nat.ne_of_lt (block_lt_of_cell HX13.out))) (fun hHeld => ?_); clear hK K; refine norm_ (a' := ?_) ?_ ?_; rotate_left
    ·show Act.put _ (some 31) _ = _; simp only [Act.put, LsA, LsB, LsC, i64_w, i32_w]; rfl
    refine one_ (i := 7) (N := some 33) (bm 20 311295) rfl rfl (one_of HT_.out (by kernel_rfl)) (by decide) (fun K hK => ?_); refine goes_ Try.func80 (by kernel_rfl) rfl #[.slice (some ad12) l0.length c0, .int .i64 8] (by rfl) rfl rfl (by (try simp only [LmA, LmB, LmC]); first | done | rfl | (simp only [LdA, LtA]; rfl)) ?_; refine (castellanref1_Get32.calls _ _ l0 8 a3 _ (HO.out.old HR0.out) HC0.out G3.out).mono ?_; rintro e w1 ⟨rfl, hd_⟩; refine ⟨_, rfl, ?_⟩; replace HO := Aside0.mk (HO.out.drawn hd_); clear hd_; refine hK.out _ _ (HO.out.cell_old HX13.out (Nat.ne_of_lt (block_lt_of_cell HX13.out))) (fun hHeld => ?_); clear hK K; refine norm_ (a' := ?_) ?_ ?_; rotate_left
    ·show Act.put _ (some 33) _ = _; simp only [Act.put, LsA, LsB, LsC, i64_w, i32_w]; rfl
    refine one_ (i := 14) (N := some 40) (bm 20 327679) rfl rfl (one_of HT_.out (by kernel_rfl)) (by decide) (fun K hK => ?_); refine goes_ Try.func66 (by kernel_rfl) rfl #[.slice (some ad12) l0.length c0, .int .i64 14] (by rfl) rfl rfl (by (try simp only [LmA, LmB, LmC]); first | done | rfl | (simp only [LdA, LtA]; rfl)) ?_; refine (castellanref1_Get16.calls _ _ l0 14 a4 _ (HO.out.old HR0.out) HC0.out G4.out).mono ?_; rintro e w1 ⟨rfl, hd_⟩; refine ⟨_, rfl, ?_⟩; replace HO := Aside0.mk (HO.out.drawn hd_); clear hd_; refine hK.out _ _ (HO.out.cell_old HX13.out (Nat.ne_of_lt (block_lt_of_cell HX13.out))) (fun hHeld => ?_); clear hK K; refine norm_ (a' := ?_) ?_ ?_; rotate_left
    ·show Act.put _ (some 40) _ = _; simp only [Act.put, LsA, LsB, LsC, i64_w, i32_w]; rfl
    refine one_ (i := 16) (N := some 42) (bm 20 393215) rfl rfl (one_of HT_.out (by kernel_rfl)) (by decide) (fun K hK => ?_); refine goes_ Try.func66 (by kernel_rfl) rfl #[.slice (some ad12) l0.length c0, .int .i64 18] (by rfl) rfl rfl (by (try simp only [LmA, LmB, LmC]); first | done | rfl | (simp only [LdA, LtA]; rfl)) ?_; refine (castellanref1_Get16.calls _ _ l0 18 a5 _ (HO.out.old HR0.out) HC0.out G5.out).mono ?_; rintro e w1 ⟨rfl, hd_⟩; refine ⟨_, rfl, ?_⟩; replace HO := Aside0.mk (HO.out.drawn hd_); clear hd_; refine hK.out _ _ (HO.out.cell_old HX13.out (Nat.ne_of_lt (block_lt_of_cell HX13.out))) (fun hHeld => ?_); clear hK K; refine norm_ (a' := ?_) ?_ ?_; rotate_left
    ·show Act.put _ (some 42) _ = _; simp only [Act.put, LsA, LsB, LsC, i64_w, i32_w]; rfl
    refine pure_ (i := 17) (N := some 43) (v := ?_) (a' := ?_) (bm 20 524287) rfl rfl (any_of HT_.out (by kernel_rfl)) (fun _ _ _ h => h) (Or.inl ⟨by rfl, ?_⟩) ?_ ?_; rotate_left
    ·intro w'; go_simp; with_reducible rfl
    rotate_left
    ·simp only [Act.put, LsA, LsB, LsC, i64_w, i32_w]; rfl
    refine last_ (i := 19) (N := none) (bm 20 1048575) rfl rfl (one_of HT_.out (by kernel_rfl)) (by decide) (fun K hK => ?_); refine ow_put_step HO (by rfl) rfl 0 rfl (ty := 59) rfl _ rfl rfl (by kernel_rfl) rfl rfl (fun w1 HO1_ => ?_); clear HO; have HO := HO1_; clear HO1_; simp only [LsB, LsC, LsA] at HO; refine hK.out _ _ ?_; clear hK K; refine done_ (done_of HT_.out (by kernel_rfl)) ?_; go_wp2; go_meet
    case rel => exact ⟨_, rfl, ⟨HO.out⟩⟩
  ·skip
   refine ow_box_step HO (by rfl) (N := 5) rfl #[.int .i64 0, .int .i64 0, .int .u32 0, .int .u32 0, .int .i64 0, .int .i64 0, .int .i64 0, .slice none 0 0, .slice none 0 0] 59 ?hr rfl (fun g5 w1 HO1_ => ?_); (case hr => first | (go_simp; done) | (go_simp; rfl))
   clear HO; have HO := HO1_; clear HO1_; refine hK.out _ _ (HO.out.cell_old HX13.out (Nat.ne_of_lt (block_lt_of_cell HX13.out))) (fun hHeld => ?_); clear hK K; refine norm_ (a' := ?_) ?_ ?_; rotate_left
   ·show Act.put _ (some 5) _ = _; simp only [Act.put, LsA, LsB, LsC, i64_w, i32_w]; rfl
   refine one_ (i := 1) (N := some 27) (bm 20 311127) rfl rfl (one_of HT_.out (by kernel_rfl)) (by decide) (fun K hK => ?_); refine goes_ Try.func66 (by kernel_rfl) rfl #[.slice (some ad12) l0.length c0, .int .i64 0] (by rfl) rfl rfl (by (try simp only [LmA, LmB, LmC]); first | done | rfl | (simp only [LdA, LtA]; rfl)) ?_; refine (castellanref1_Get16.calls _ _ l0 0 a0 _ (HO.out.old HR0.out) HC0.out G0.out).mono ?_; rintro e w1 ⟨rfl, hd_⟩; refine ⟨_, rfl, ?_⟩; replace HO := Aside0.mk (HO.out.drawn hd_); clear hd_; refine hK.out _ _ (HO.out.cell_old HX13.out (Nat.ne_of_lt (block_lt_of_cell HX13.out))) (fun hHeld => ?_); clear hK K; refine norm_ (a' := ?_) ?_ ?_; rotate_left
   ·show Act.put _ (some 27) _ = _; simp only [Act.put, LsA, LsB, LsC, i64_w, i32_w]; rfl
   refine one_ (i := 3) (N := some 29) (bm 20 311135) rfl rfl (one_of HT_.out (by kernel_rfl)) (by decide) (fun K hK => ?_); refine goes_ Try.func66 (by kernel_rfl) rfl #[.slice (some ad12) l0.length c0, .int .i64 2] (by rfl) rfl rfl (by (try simp only [LmA, LmB, LmC]); first | done | rfl | (simp only [LdA, LtA]; rfl)) ?_; refine (castellanref1_Get16.calls _ _ l0 2 a1 _ (HO.out.old HR0.out) HC0.out G1.out).mono ?_; rintro e w1 ⟨rfl, hd_⟩; refine ⟨_, rfl, ?_⟩; replace HO := Aside0.mk (HO.out.drawn hd_); clear hd_; refine hK.out _ _ (HO.out.cell_old HX13.out (Nat.ne_of_lt (block_lt_of_cell HX13.out))) (fun hHeld => ?_); clear hK K; refine norm_ (a' := ?_) ?_ ?_; rotate_left
   ·show Act.put _ (some 29) _ = _; simp only [Act.put, LsA, LsB, LsC, i64_w, i32_w]; rfl
   refine one_ (i := 5) (N := some 31) (bm 20 311167) rfl rfl (one_of HT_.out (by kernel_rfl)) (by decide) (fun K hK => ?_); refine goes_ Try.func80 (by kernel_rfl) rfl #[.slice (some ad12) l0.length c0, .int .i64 4] (by rfl) rfl rfl (by (try simp only [LmA, LmB, LmC]); first | done | rfl | (simp only [LdA, LtA]; rfl)) ?_; refine (castellanref1_Get32.calls _ _ l0 4 a2 _ (HO.out.old HR0.out) HC0.out G2.out).mono ?_; rintro e w1 ⟨rfl, hd_⟩; refine ⟨_, rfl, ?_⟩; replace HO := Aside0.mk (HO.out.drawn hd_); clear hd_; refine hK.out _ _ (HO.out.cell_old HX13.out (Nat.ne_of_lt (block_lt_of_cell HX13.out))) (fun hHeld => ?_); clear hK K; refine norm_ (a' := ?_) ?_ ?_; rotate_left
   ·show Act.put _ (some 31) _ = _; simp only [Act.put, LsA, LsB, LsC, i64_w, i32_w]; rfl
   refine one_ (i := 7) (N := some 33) (bm 20 311295) rfl rfl (one_of HT_.out (by kernel_rfl)) (by decide) (fun K hK => ?_); refine goes_ Try.func80 (by kernel_rfl) rfl #[.slice (some ad12) l0.length c0, .int .i64 8] (by rfl) rfl rfl (by (try simp only [LmA, LmB, LmC]); first | done | rfl | (simp only [LdA, LtA]; rfl)) ?_; refine (castellanref1_Get32.calls _ _ l0 8 a3 _ (HO.out.old HR0.out) HC0.out G3.out).mono ?_; rintro e w1 ⟨rfl, hd_⟩; refine ⟨_, rfl, ?_⟩; replace HO := Aside0.mk (HO.out.drawn hd_); clear hd_; refine hK.out _ _ (HO.out.cell_old HX13.out (Nat.ne_of_lt (block_lt_of_cell HX13.out))) (fun hHeld => ?_); clear hK K; refine norm_ (a' := ?_) ?_ ?_; rotate_left
   ·show Act.put _ (some 33) _ = _; simp only [Act.put, LsA, LsB, LsC, i64_w, i32_w]; rfl
   refine one_ (i := 14) (N := some 40) (bm 20 327679) rfl rfl (one_of HT_.out (by kernel_rfl)) (by decide) (fun K hK => ?_); refine goes_ Try.func66 (by kernel_rfl) rfl #[.slice (some ad12) l0.length c0, .int .i64 14] (by rfl) rfl rfl (by (try simp only [LmA, LmB, LmC]); first | done | rfl | (simp only [LdA, LtA]; rfl)) ?_; refine (castellanref1_Get16.calls _ _ l0 14 a4 _ (HO.out.old HR0.out) HC0.out G4.out).mono ?_; rintro e w1 ⟨rfl, hd_⟩; refine ⟨_, rfl, ?_⟩; replace HO := Aside0.mk (HO.out.drawn hd_); clear hd_; refine hK.out _ _ (HO.out.cell_old HX13.out (Nat.ne_of_lt (block_lt_of_cell HX13.out))) (fun hHeld => ?_); clear hK K; refine norm_ (a' := ?_) ?_ ?_; rotate_left
   ·show Act.put _ (some 40) _ = _; simp only [Act.put, LsA, LsB, LsC, i64_w, i32_w]; rfl
   refine one_ (i := 16) (N := some 42) (bm 20 393215) rfl rfl (one_of HT_.out (by kernel_rfl)) (by decide) (fun K hK => ?_); refine goes_ Try.func66 (by kernel_rfl) rfl #[.slice (some ad12) l0.length c0, .int .i64 18] (by rfl) rfl rfl (by (try simp only [LmA, LmB, LmC]); first | done | rfl | (simp only [LdA, LtA]; rfl)) ?_; refine (castellanref1_Get16.calls _ _ l0 18 a5 _ (HO.out.old HR0.out) HC0.out G5.out).mono ?_; rintro e w1 ⟨rfl, hd_⟩; refine ⟨_, rfl, ?_⟩; replace HO := Aside0.mk (HO.out.drawn hd_); clear hd_; refine hK.out _ _ (HO.out.cell_old HX13.out (Nat.ne_of_lt (block_lt_of_cell HX13.out))) (fun hHeld => ?_); clear hK K; refine norm_ (a' := ?_) ?_ ?_; rotate_left
   ·show Act.put _ (some 42) _ = _; simp only [Act.put, LsA, LsB, LsC, i64_w, i32_w]; rfl
   refine pure_ (i := 17) (N := some 43) (v := ?_) (a' := ?_) (bm 20 524287) rfl rfl (any_of HT_.out (by kernel_rfl)) (fun _ _ _ h => h) (Or.inl ⟨by rfl, ?_⟩) ?_ ?_; rotate_left
   ·intro w'; go_simp; with_reducible rfl
   rotate_left
   ·simp only [Act.put, LsA, LsB, LsC, i64_w, i32_w]; rfl
   refine last_ (i := 19) (N := none) (bm 20 1048575) rfl rfl (one_of HT_.out (by kernel_rfl)) (by decide) (fun K hK => ?_); refine ow_put_step HO (by rfl) rfl 0 rfl (ty := 59) rfl _ rfl rfl (by kernel_rfl) rfl rfl (fun w1 HO1_ => ?_); clear HO; have HO := HO1_; clear HO1_; simp only [LsB, LsC, LsA] at HO; refine hK.out _ _ ?_; clear hK K; refine done_ (done_of HT_.out (by kernel_rfl)) ?_; go_wp2; go_meet
   case rel => exact ⟨_, rfl, ⟨HO.out⟩⟩
 case rest =>
  clear HO HF; obtain ⟨g5, rfl, HO⟩ := hcut; have HF := HO.out.facts; simp only [OwnsM.Facts, and_true] at HF
  have p3 := P3.out; have p4 := P4.out; obtain ⟨i1_, hi1, _, hs1, _⟩ := info_parts info5; obtain ⟨A1, hcut1, hA1, hC1⟩ := print_mid_of (P := Try.prog) (Value.int .u8) 0 24 5 .i64 .i64 Try.underlying24 hi1 hs1 (some ad12) c0 l0 20 hh (by omega) (by omega) (by omega) HC0.out
  have HRM : Aside0 (Kd.C (Kd.int .u8) w A1 ((l0.take hh.toNat).drop 20).length ((l0.take hh.toNat).drop 20)) := ⟨Kd.C_of_reads (h1 := fun _ => rfl) (hA1 _ (Kd.reads_of_C HR0.out))⟩
  obtain ⟨A2, hcut2, hA2, hC2⟩ := print_drop_of (P := Try.prog) (Value.int .u8) 0 24 5 .i64 Try.underlying24 hi1 hs1 (some ad12) c0 l0 hh (by omega) (by omega) HC0.out; have HRD := Aside0.mk (Kd.C_of_reads (h1 := fun _ => rfl) (hA2 _ (Kd.reads_of_C HR0.out))); clear hA1 hC1 hA2 hC2 hi1 hs1 p3 p4
  go_upto_region 9 with (fail)
  have HO1_ := Aside0.mk HO.out.drew; clear HO HF; have HO := HO1_; clear HO1_; refine start_ (n := 14) (S := fun w' => True) (ds := [13]) (bm 14 0) (by kernel_rfl) rfl rfl trivial (fun hHeld => ?_); refine with_tabW castellanref5_Parse.tab9 castellanref5_Parse.bits9 (fun HT_ HW_ => ?_)
  generalize w1.drew = w1 at HO hHeld ⊢; refine pure_ (i := 1) (N := some 45) (v := ?_) (a' := ?_) (bm 14 2) rfl rfl (any_of HT_.out (by kernel_rfl)) (fun _ _ _ h => h) (Or.inl ⟨by rfl, ?_⟩) ?_ ?_; rotate_left
  ·intro w'; go_simp; with_reducible rfl
  rotate_left
  ·simp only [Act.put, LsA, LsB, LsC, i64_w, i32_w]; rfl
  refine pure_ (i := 2) (N := some 46) (v := ?_) (a' := ?_) (bm 14 6) rfl rfl (any_of HT_.out (by kernel_rfl)) (fun _ _ _ h => h) (Or.inl ⟨by rfl, ?_⟩) ?_ ?_; rotate_left
  ·intro w'; go_simp; with_reducible rfl
  rotate_left
  ·simp only [Act.put, LsA, LsB, LsC, i64_w, i32_w]; rfl
  refine pure_ (i := 3) (N := some 47) (v := ?_) (a' := ?_) (bm 14 14) rfl rfl (any_of HT_.out (by kernel_rfl)) (fun _ _ _ h => h) (Or.inl ⟨by rfl, ?_⟩) ?_ ?_; rotate_left
  ·intro w'; go_simp; with_reducible rfl
  rotate_left
  ·simp only [Act.put, LsA, LsB, LsC, i64_w, i32_w]; rfl
  refine pure_ (i := 6) (N := some 50) (v := ?_) (a' := ?_) (bm 14 78) rfl rfl (any_of HT_.out (by kernel_rfl)) (fun _ _ _ h => h) (Or.inl ⟨by rfl, ?_⟩) ?_ ?_; rotate_left
  ·intro w'; go_simp; with_reducible rfl
  rotate_left
  ·simp only [Act.put, LsA, LsB, LsC, i64_w, i32_w]; rfl
  refine pure_ (i := 7) (N := some 51) (v := ?_) (a' := ?_) (bm 14 206) rfl rfl (any_of HT_.out (by kernel_rfl)) (fun _ _ _ h => h) (Or.inl ⟨by rfl, ?_⟩) ?_ ?_; rotate_left
  ·intro w'; go_simp; with_reducible rfl
  rotate_left
  ·simp only [Act.put, LsA, LsB, LsC, i64_w, i32_w]; rfl
  refine pure_ (i := 8) (N := some 52) (v := ?_) (a' := ?_) (bm 14 462) rfl rfl (any_of HT_.out (by kernel_rfl)) (fun _ _ _ h => h) (Or.inl ⟨by rfl, ?_⟩) ?_ ?_; rotate_left
  ·intro w'; go_simp; with_reducible rfl
  rotate_left
  ·simp only [Act.put, LsA, LsB, LsC, i64_w, i32_w]; rfl
  refine two_ (i := 0) (j := 5) (Ni := some 44) (Nj := some 49) (bm 14 463) (bm 14 494) rfl rfl rfl rfl (two_of HT_.out (by kernel_rfl)) (by decide) (by decide) (fun K hK => ?_) (fun K hK => ?_)
  ·skip
   refine ow_lit_step HO (by rfl) (N := 44) rfl ([] : List Int) [] ?hr ?hp (by simp) (fun v1 w1 HO1_ => ?_); (case hr => first | (go_simp; done) | (go_simp; simp only [IntKind.wrap_u8]; done) | (go_simp; rfl)); (case hp => exact Reps.none _ _)
   clear HO; have HO := HO1_; clear HO1_; rw [← NYA.out] at HO; obtain ⟨Aya, cya, rfl⟩ := Kd.R_slice (HO.out.row 0 rfl); refine hK.out _ _ trivial (fun hHeld => ?_); clear hK K; refine norm_ (a' := ?_) ?_ ?_; rotate_left
   ·show Act.put _ (some 44) _ = _; simp only [Act.put, LsA, LsB, LsC, i64_w, i32_w]; rfl
   refine two_ (i := 4) (j := 5) (Ni := some 48) (Nj := some 49) (bm 14 479) (bm 14 495) rfl rfl rfl rfl (two_of HT_.out (by kernel_rfl)) (by decide) (by decide) (fun K hK => ?_) (fun K hK => ?_)
   ·skip
    refine ow_app_step HO (by rfl) 0 rfl (.tmp 44) (.tmp 47) 24 rfl Try.underlying24 info5 rfl rfl (RR_len E1.out (HO.out.old HRM.out)) (LM1.out) (fun v1 w1 HO1_ => ?_); clear HO; have HO := HO1_; clear HO1_; simp only [LsB, LsC] at HO; rw [← NYC.out] at HO; obtain ⟨Ayc, cyc, rfl⟩ := Kd.R_slice (HO.out.row 0 rfl); refine hK.out _ _ trivial (fun hHeld => ?_); clear hK K; refine norm_ (a' := ?_) ?_ ?_; rotate_left
    ·show Act.put _ (some 48) _ = _; simp only [Act.put, LsA, LsB, LsC, i64_w, i32_w]; rfl
    refine pure_ (i := 10) (N := some 54) (v := ?_) (a' := ?_) (bm 14 1503) rfl rfl (any_of HT_.out (by kernel_rfl)) (fun _ _ _ h => h) (Or.inl ⟨by rfl, ?_⟩) ?_ ?_; rotate_left
    ·intro w'; go_simp; with_reducible rfl
    rotate_left
    ·simp only [Act.put, LsA, LsB, LsC, i64_w, i32_w]; rfl
    refine one_ (i := 5) (N := some 49) (bm 14 1535) rfl rfl (one_of HT_.out (by kernel_rfl)) (by decide) (fun K hK => ?_); refine ow_lit_step HO (by rfl) (N := 49) rfl ([] : List Int) [] ?hr ?hp (by simp) (fun v1 w1 HO1_ => ?_); (case hr => first | (go_simp; done) | (go_simp; simp only [IntKind.wrap_u8]; done) | (go_simp; rfl)); (case hp => exact Reps.none _ _)
    clear HO; have HO := HO1_; clear HO1_; rw [← NYB.out] at HO; obtain ⟨Ayb, cyb, rfl⟩ := Kd.R_slice (HO.out.row 0 rfl); refine hK.out _ _ trivial (fun hHeld => ?_); clear hK K; refine norm_ (a' := ?_) ?_ ?_; rotate_left
    ·show Act.put _ (some 49) _ = _; simp only [Act.put, LsA, LsB, LsC, i64_w, i32_w]; rfl
    refine one_ (i := 9) (N := some 53) (bm 14 2047) rfl rfl (one_of HT_.out (by kernel_rfl)) (by decide) (fun K hK => ?_); refine ow_app_step HO (by rfl) 0 rfl (.tmp 49) (.tmp 52) 24 rfl Try.underlying24 info5 rfl rfl (RR_len E2.out (HO.out.old HRD.out)) (LM2.out) (fun v1 w1 HO1_ => ?_); clear HO; have HO := HO1_; clear HO1_; simp only [LsB, LsC] at HO; rw [← NYD.out] at HO; obtain ⟨Ayd, cyd, rfl⟩ := Kd.R_slice (HO.out.row 0 rfl); refine hK.out _ _ trivial (fun hHeld => ?_); clear hK K; refine norm_ (a' := ?_) ?_ ?_; rotate_left
    ·show Act.put _ (some 53) _ = _; simp only [Act.put, LsA, LsB, LsC, i64_w, i32_w]; rfl
    refine one_ (i := 11) (N := none) (bm 14 4095) rfl rfl (one_of HT_.out (by kernel_rfl)) (by decide) (fun K hK => ?_); have HF := HO.out.facts; simp only [OwnsM.Facts, and_true] at HF
    refine ow_putc_step HO (by rfl) rfl 0 rfl 7 ?_ ?hr (fun w1 HO1_ => ?_); (case hr => first | (go_simp; done) | (go_simp; rfl))
    clear HO; have HO := HO1_; clear HO1_; simp only [LsB, LsC, LsA] at HO; clear HF; refine hK.out _ _ trivial (fun hHeld => ?_); clear hK K; refine pure_ (i := 12) (N := some 55) (v := ?_) (a' := ?_) (bm 14 8191) rfl rfl (any_of HT_.out (by kernel_rfl)) (fun _ _ _ h => h) (Or.inl ⟨by rfl, ?_⟩) ?_ ?_; rotate_left
    ·intro w'; go_simp; with_reducible rfl
    rotate_left
    ·simp only [Act.put, LsA, LsB, LsC, i64_w, i32_w]; rfl
    refine last_ (i := 13) (N := none) (bm 14 16383) rfl rfl (one_of HT_.out (by kernel_rfl)) (by decide) (fun K hK => ?_); have HF := HO.out.facts; simp only [OwnsM.Facts, and_true] at HF
    refine ow_putc_step HO (by rfl) rfl 0 rfl 8 ?_ ?hr (fun w1 HO1_ => ?_); (case hr => first | (go_simp; done) | (go_simp; rfl))
    clear HO; have HO := HO1_; clear HO1_; simp only [LsB, LsC, LsA] at HO; clear HF; refine hK.out _ _ ?_; clear hK K; refine done_ (done_of HT_.out (by kernel_rfl)) ?_; have HF := HO.out.facts; simp only [OwnsM.Facts, and_true] at HF
    go_wp2_with (first | ((with_reducible refine gate_dst (N := 56) rfl ?_); (first | refine ow_load HO rfl 0 rfl 59 _ rfl _ rfl Try.underlying59 rfl (by kernel_rfl) ?_)) | ((with_reducible refine gate_store (p := 2) rfl ?_); (first | refine ow_put HO rfl rfl 1 rfl (ty := 59) rfl _ rfl rfl (by kernel_rfl) rfl rfl ?_); clear HO HF; intro w1 HO; simp only [LsB, LsC, LsA] at HO; have HF := HO.out.facts; simp only [OwnsM.Facts, and_true] at HF))
    refine bodyPost_ret (results_ct rfl _ _ g2 59 _ (0, 0) _ rfl (HO.out.at_ 1 rfl) Try.underlying59 rfl (by kernel_rfl)) rfl ?_; exact ⟨_, _, rfl, HO.out.rowapart 1 0 (by decide) rfl rfl, HO.out.rowapart 0 1 (by decide) rfl rfl, HO.out.below⟩
   ·skip
    refine ow_lit_step HO (by rfl) (N := 49) rfl ([] : List Int) [] ?hr ?hp (by simp) (fun v1 w1 HO1_ => ?_); (case hr => first | (go_simp; done) | (go_simp; simp only [IntKind.wrap_u8]; done) | (go_simp; rfl)); (case hp => exact Reps.none _ _)
    clear HO; have HO := HO1_; clear HO1_; rw [← NYB.out] at HO; obtain ⟨Ayb, cyb, rfl⟩ := Kd.R_slice (HO.out.row 0 rfl); refine hK.out _ _ trivial (fun hHeld => ?_); clear hK K; refine norm_ (a' := ?_) ?_ ?_; rotate_left
    ·show Act.put _ (some 49) _ = _; simp only [Act.put, LsA, LsB, LsC, i64_w, i32_w]; rfl
    refine one_ (i := 4) (N := some 48) (bm 14 511) rfl rfl (one_of HT_.out (by kernel_rfl)) (by decide) (fun K hK => ?_); refine ow_app_step HO (by rfl) 1 rfl (.tmp 44) (.tmp 47) 24 rfl Try.underlying24 info5 rfl rfl (RR_len E1.out (HO.out.old HRM.out)) (LM1.out) (fun v1 w1 HO1_ => ?_); clear HO; have HO := HO1_; clear HO1_; simp only [LsB, LsC] at HO; rw [← NYC.out] at HO; obtain ⟨Ayc, cyc, rfl⟩ := Kd.R_slice (HO.out.row 1 rfl); refine hK.out _ _ trivial (fun hHeld => ?_); clear hK K; refine norm_ (a' := ?_) ?_ ?_; rotate_left
    ·show Act.put _ (some 48) _ = _; simp only [Act.put, LsA, LsB, LsC, i64_w, i32_w]; rfl
    refine pure_ (i := 10) (N := some 54) (v := ?_) (a' := ?_) (bm 14 1535) rfl rfl (any_of HT_.out (by kernel_rfl)) (fun _ _ _ h => h) (Or.inl ⟨by rfl, ?_⟩) ?_ ?_; rotate_left
    ·intro w'; go_simp; with_reducible rfl
    rotate_left
    ·simp only [Act.put, LsA, LsB, LsC, i64_w, i32_w]; rfl
    refine one_ (i := 9) (N := some 53) (bm 14 2047) rfl rfl (one_of HT_.out (by kernel_rfl)) (by decide) (fun K hK => ?_); refine ow_app_step HO (by rfl) 0 rfl (.tmp 49) (.tmp 52) 24 rfl Try.underlying24 info5 rfl rfl (RR_len E2.out (HO.out.old HRD.out)) (LM2.out) (fun v1 w1 HO1_ => ?_); clear HO; have HO := HO1_; clear HO1_; simp only [LsB, LsC] at HO; rw [← NYD.out] at HO; obtain ⟨Ayd, cyd, rfl⟩ := Kd.R_slice (HO.out.row 0 rfl); refine hK.out _ _ trivial (fun hHeld => ?_); clear hK K; refine norm_ (a' := ?_) ?_ ?_; rotate_left
    ·show Act.put _ (some 53) _ = _; simp only [Act.put, LsA, LsB, LsC, i64_w, i32_w]; rfl
    refine one_ (i := 11) (N := none) (bm 14 4095) rfl rfl (one_of HT_.out (by kernel_rfl)) (by decide) (fun K hK => ?_); have HF := HO.out.facts; simp only [OwnsM.Facts, and_true] at HF
    refine ow_putc_step HO (by rfl) rfl 0 rfl 7 ?_ ?hr (fun w1 HO1_ => ?_); (case hr => first | (go_simp; done) | (go_simp; rfl))
    clear HO; have HO := HO1_; clear HO1_; simp only [LsB, LsC, LsA] at HO; clear HF; refine hK.out _ _ trivial (fun hHeld => ?_); clear hK K; refine pure_ (i := 12) (N := some 55) (v := ?_) (a' := ?_) (bm 14 8191) rfl rfl (any_of HT_.out (by kernel_rfl)) (fun _ _ _ h => h) (Or.inl ⟨by rfl, ?_⟩) ?_ ?_; rotate_left
    ·intro w'; go_simp; with_reducible rfl
    rotate_left
    ·simp only [Act.put, LsA, LsB, LsC, i64_w, i32_w]; rfl
    refine last_ (i := 13) (N := none) (bm 14 16383) rfl rfl (one_of HT_.out (by kernel_rfl)) (by decide) (fun K hK => ?_); have HF := HO.out.facts; simp only [OwnsM.Facts, and_true] at HF
    refine ow_putc_step HO (by rfl) rfl 0 rfl 8 ?_ ?hr (fun w1 HO1_ => ?_); (case hr => first | (go_simp; done) | (go_simp; rfl))
    clear HO; have HO := HO1_; clear HO1_; simp only [LsB, LsC, LsA] at HO; clear HF; refine hK.out _ _ ?_; clear hK K; refine done_ (done_of HT_.out (by kernel_rfl)) ?_; have HF := HO.out.facts; simp only [OwnsM.Facts, and_true] at HF
    go_wp2_with (first | ((with_reducible refine gate_dst (N := 56) rfl ?_); (first | refine ow_load HO rfl 0 rfl 59 _ rfl _ rfl Try.underlying59 rfl (by kernel_rfl) ?_)) | ((with_reducible refine gate_store (p := 2) rfl ?_); (first | refine ow_put HO rfl rfl 1 rfl (ty := 59) rfl _ rfl rfl (by kernel_rfl) rfl rfl ?_); clear HO HF; intro w1 HO; simp only [LsB, LsC, LsA] at HO; have HF := HO.out.facts; simp only [OwnsM.Facts, and_true] at HF))
    refine bodyPost_ret (results_ct rfl _ _ g2 59 _ (0, 0) _ rfl (HO.out.at_ 1 rfl) Try.underlying59 rfl (by kernel_rfl)) rfl ?_; exact ⟨_, _, rfl, HO.out.rowapart 1 0 (by decide) rfl rfl, HO.out.rowapart 0 1 (by decide) rfl rfl, HO.out.below⟩
  ·skip
   refine ow_lit_step HO (by rfl) (N := 49) rfl ([] : List Int) [] ?hr ?hp (by simp) (fun v1 w1 HO1_ => ?_); (case hr => first | (go_simp; done) | (go_simp; simp only [IntKind.wrap_u8]; done) | (go_simp; rfl)); (case hp => exact Reps.none _ _)
   clear HO; have HO := HO1_; clear HO1_; rw [← NYB.out] at HO; obtain ⟨Ayb, cyb, rfl⟩ := Kd.R_slice (HO.out.row 0 rfl); refine hK.out _ _ trivial (fun hHeld => ?_); clear hK K; refine norm_ (a' := ?_) ?_ ?_; rotate_left
   ·show Act.put _ (some 49) _ = _; simp only [Act.put, LsA, LsB, LsC, i64_w, i32_w]; rfl
   refine one_ (i := 0) (N := some 44) (bm 14 495) rfl rfl (one_of HT_.out (by kernel_rfl)) (by decide) (fun K hK => ?_); refine ow_lit_step HO (by rfl) (N := 44) rfl ([] : List Int) [] ?hr ?hp (by simp) (fun v1 w1 HO1_ => ?_); (case hr => first | (go_simp; done) | (go_simp; simp only [IntKind.wrap_u8]; done) | (go_simp; rfl)); (case hp => exact Reps.none _ _)
   clear HO; have HO := HO1_; clear HO1_; rw [← NYA.out] at HO; obtain ⟨Aya, cya, rfl⟩ := Kd.R_slice (HO.out.row 0 rfl); refine hK.out _ _ trivial (fun hHeld => ?_); clear hK K; refine norm_ (a' := ?_) ?_ ?_; rotate_left
   ·show Act.put _ (some 44) _ = _; simp only [Act.put, LsA, LsB, LsC, i64_w, i32_w]; rfl
   refine one_ (i := 4) (N := some 48) (bm 14 511) rfl rfl (one_of HT_.out (by kernel_rfl)) (by decide) (fun K hK => ?_); refine ow_app_step HO (by rfl) 0 rfl (.tmp 44) (.tmp 47) 24 rfl Try.underlying24 info5 rfl rfl (RR_len E1.out (HO.out.old HRM.out)) (LM1.out) (fun v1 w1 HO1_ => ?_); clear HO; have HO := HO1_; clear HO1_; simp only [LsB, LsC] at HO; rw [← NYC.out] at HO; obtain ⟨Ayc, cyc, rfl⟩ := Kd.R_slice (HO.out.row 0 rfl); refine hK.out _ _ trivial (fun hHeld => ?_); clear hK K; refine norm_ (a' := ?_) ?_ ?_; rotate_left
   ·show Act.put _ (some 48) _ = _; simp only [Act.put, LsA, LsB, LsC, i64_w, i32_w]; rfl
   refine pure_ (i := 10) (N := some 54) (v := ?_) (a' := ?_) (bm 14 1535) rfl rfl (any_of HT_.out (by kernel_rfl)) (fun _ _ _ h => h) (Or.inl ⟨by rfl, ?_⟩) ?_ ?_; rotate_left
   ·intro w'; go_simp; with_reducible rfl
   rotate_left
   ·simp only [Act.put, LsA, LsB, LsC, i64_w, i32_w]; rfl
   refine one_ (i := 9) (N := some 53) (bm 14 2047) rfl rfl (one_of HT_.out (by kernel_rfl)) (by decide) (fun K hK => ?_); refine ow_app_step HO (by rfl) 1 rfl (.tmp 49) (.tmp 52) 24 rfl Try.underlying24 info5 rfl rfl (RR_len E2.out (HO.out.old HRD.out)) (LM2.out) (fun v1 w1 HO1_ => ?_); clear HO; have HO := HO1_; clear HO1_; simp only [LsB, LsC] at HO; rw [← NYD.out] at HO; obtain ⟨Ayd, cyd, rfl⟩ := Kd.R_slice (HO.out.row 1 rfl); refine hK.out _ _ trivial (fun hHeld => ?_); clear hK K; refine norm_ (a' := ?_) ?_ ?_; rotate_left
   ·show Act.put _ (some 53) _ = _; simp only [Act.put, LsA, LsB, LsC, i64_w, i32_w]; rfl
   refine one_ (i := 11) (N := none) (bm 14 4095) rfl rfl (one_of HT_.out (by kernel_rfl)) (by decide) (fun K hK => ?_); have HF := HO.out.facts; simp only [OwnsM.Facts, and_true] at HF
   refine ow_putc_step HO (by rfl) rfl 0 rfl 7 ?_ ?hr (fun w1 HO1_ => ?_); (case hr => first | (go_simp; done) | (go_simp; rfl))
   clear HO; have HO := HO1_; clear HO1_; simp only [LsB, LsC, LsA] at HO; clear HF; refine hK.out _ _ trivial (fun hHeld => ?_); clear hK K; refine pure_ (i := 12) (N := some 55) (v := ?_) (a' := ?_) (bm 14 8191) rfl rfl (any_of HT_.out (by kernel_rfl)) (fun _ _ _ h => h) (Or.inl ⟨by rfl, ?_⟩) ?_ ?_; rotate_left
   ·intro w'; go_simp; with_reducible rfl
   rotate_left
   ·simp only [Act.put, LsA, LsB, LsC, i64_w, i32_w]; rfl
   refine last_ (i := 13) (N := none) (bm 14 16383) rfl rfl (one_of HT_.out (by kernel_rfl)) (by decide) (fun K hK => ?_); have HF := HO.out.facts; simp only [OwnsM.Facts, and_true] at HF
   refine ow_putc_step HO (by rfl) rfl 0 rfl 8 ?_ ?hr (fun w1 HO1_ => ?_); (case hr => first | (go_simp; done) | (go_simp; rfl))
   clear HO; have HO := HO1_; clear HO1_; simp only [LsB, LsC, LsA] at HO; clear HF; refine hK.out _ _ ?_; clear hK K; refine done_ (done_of HT_.out (by kernel_rfl)) ?_; have HF := HO.out.facts; simp only [OwnsM.Facts, and_true] at HF
   go_wp2_with (first | ((with_reducible refine gate_dst (N := 56) rfl ?_); (first | refine ow_load HO rfl 0 rfl 59 _ rfl _ rfl Try.underlying59 rfl (by kernel_rfl) ?_)) | ((with_reducible refine gate_store (p := 2) rfl ?_); (first | refine ow_put HO rfl rfl 1 rfl (ty := 59) rfl _ rfl rfl (by kernel_rfl) rfl rfl ?_); clear HO HF; intro w1 HO; simp only [LsB, LsC, LsA] at HO; have HF := HO.out.facts; simp only [OwnsM.Facts, and_true] at HF))
   refine bodyPost_ret (results_ct rfl _ _ g2 59 _ (0, 0) _ rfl (HO.out.at_ 1 rfl) Try.underlying59 rfl (by kernel_rfl)) rfl ?_; exact ⟨_, _, rfl, HO.out.rowapart 0 1 (by decide) rfl rfl, HO.out.rowapart 1 0 (by decide) rfl rfl, HO.out.below⟩

end Go.Proofs.Ytkdibloahkhgoaa.QReplyResets
