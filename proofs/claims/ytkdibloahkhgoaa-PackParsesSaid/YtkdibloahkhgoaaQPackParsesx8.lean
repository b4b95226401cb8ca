-- written by myprint.py, a program of this session's over the kit's printer
import Derived.Test.YtkdibloahkhgoaaQPackParsesx0
import Derived.Test.YtkdibloahkhgoaaQPackParsesx1
import Derived.Test.YtkdibloahkhgoaaQPackParsesx2
import Derived.Test.YtkdibloahkhgoaaQPackParsesx4
import Derived.Test.YtkdibloahkhgoaaQPackParsesx5
import Derived.Test.YtkdibloahkhgoaaQPackParsesx6
import Derived.Test.YtkdibloahkhgoaaQPackParsesx7
namespace Go.Proofs.Ytkdibloahkhgoaa.QPackParses
open Go.RowKit Go.Proofs.YtkdibloahkhgoaaW.PrintWords Go.Proofs.YtkdibloahkhgoaaW.PrintLast Go.Proofs.YtkdibloahkhgoaaW.PrintMore
attribute [local go_sem] max2_int min2_int max_two min_two max_three min_three max_four min_four   -- for this text's walks alone
set_option linter.unusedVariables false
set_option linter.unusedSimpArgs false

/-! ### castellanref8_Parse: function 28 -/
def castellanref8_inner.g (l0 : List Int) (n p s d : Int) : Option (Option K5) :=
 if p = 6 then ((castellanref1_Get16.f l0 n).bind fun a => (castellanref1_Get16.f l0 (wrap64 (n + 2))).bind fun b => some (some (p, s, d, a, b)))
 else if p = 17 then ((castellanref1_Get16.f l0 n).bind fun a => (castellanref1_Get16.f l0 (wrap64 (n + 2))).bind fun b => some (some (p, s, d, a, b)))
 else if p = 1 then (if 0 ≤ n ∧ n < (l0.length : Int) then ((castellanref7_Query.f (wrap64 (rd l0 n))).bind fun q => if q = true then ((castellanref1_Get16.f l0 (wrap64 (n + 4))).bind fun a => some (some (p, s, d, a, a))) else some (some (p, s, d, 0, 0))) else none)
 else some (some (p, s, d, 0, 0))
def castellanref8_inner.f (l0 : List Int) : Option (Option K5) := (castellanref4_Header.f l0).bind fun n =>
 if (l0.length : Int) < 20 then some none else if (rd l0 0) / 16 = 4 then (if n < 20 then some none else if (l0.length : Int) < wrap64 (n + 8) then some none
  else ((castellanref1_Get16.f l0 6).bind fun o => if Go.bits .and .i64 o 8191 = 0 then ((castellanref1_Get32.f l0 12).bind fun s => (castellanref1_Get32.f l0 16).bind fun d => castellanref8_inner.g l0 n (wrap64 (rd l0 9)) s d) else some none)) else some none
def castellanref8_inner.T4 : Bool × List (List Nat × List Nat) := (true, [([], []), ([0], [0]), ([1], [1]), ([2], [2]), ([], []), ([4], [4]), ([], []), ([6, 5], [6]), ([3, 5, 7], [3, 5, 7]), ([8], [8]), ([9, 7, 0, 1, 2, 3, 4, 5, 6, 7, 8, 9], [9])])
def castellanref8_inner.B4 : List Nat := [0, 1, 3, 7, 0, 16, 0, 112, 255, 511, 1023]
theorem castellanref8_inner.tab4 : rtab .any (opsOf Try.f95 4) = castellanref8_inner.T4 := by kernel_rfl
theorem castellanref8_inner.bits4 : waitsOk castellanref8_inner.T4.2 castellanref8_inner.B4 = true := by kernel_rfl
set_option maxHeartbeats 8000000 in
set_option maxRecDepth 100000 in
theorem castellanref8_inner.calls (A0 : Option Addr) (c0 : Nat) (l0 : List Int) (r : Option K5) (w : World) (hr0 : Kd.C (Kd.int .u8) w A0 l0.length l0) (hc0 : l0.length ≤ c0) (h : castellanref8_inner.f l0 = some r) :
  Calls Try.prog 95 #[.slice A0 l0.length c0] w fun e w' => ∃ vi, e = .returned (.pointer vi) ∧ KeyAt w.heap.size w' 35 vi r ∧ Below w.heap.size w w' := by
 have HR0 := Aside0.mk hr0; have HC0 := Aside0.mk hc0; clear hr0 hc0; have HO := Aside0.mk (Owns.nil w); have HF : True := trivial; unfold castellanref8_inner.f at h; obtain ⟨n, A_, H⟩ := Option.bind_eq_some_iff.mp h; have AN := Aside0.mk A_; clear A_ h
 try dsimp only at H
 by_cases c1 : (l0.length : Int) < 20
 ·rw [if_pos c1] at H; have c1b0 : decide ((l0.length : Int) < 20) = true := decide_eq_true c1; have c1b1 : decide (l0.length < 20) = true := decide_eq_true (by omega); clear c1; obtain rfl := Option.some.inj H; go_enter Try.func95, Try.ntmps95
  go_wp2_with (first | ((with_reducible refine gate_callee (f := 30) rfl ?_); refine goesL_ (some 6) rfl rfl Try.func30 (by kernel_rfl) rfl #[.slice A0 l0.length c0] rfl (by (try simp only [LmA, LmB, LmC]); first | done | rfl | (simp only [LdA, LtA]; rfl)) ?_; refine (castellanref4_Header.calls _ _ l0 n _ (HO.out.old HR0.out) HC0.out AN.out).mono ?_; rintro e w1 ⟨rfl, hd_⟩; refine ⟨_, rfl, ?_⟩; replace HO := Aside0.mk (HO.out.drawn hd_); clear hd_; clear HF; have HF := HO.out.facts; simp only [OwnsM.Facts, and_true] at HF))
  go_ret; exact ⟨none, rfl, rfl, HO.out.below⟩
 ·rw [if_neg c1] at H; have c1b0 : decide ((l0.length : Int) < 20) = false := decide_eq_false c1; have c1b1 : decide (l0.length < 20) = false := decide_eq_false (by omega); obtain ⟨ad, ea, hx⟩ := Kd.at_int HR0.out 0 (by omega) (by omega); cases ea; rw [show ((0 : Int)).toNat = 0 from rfl, Addr.add_zero'] at hx; have HX0 := Aside0.mk hx; clear hx; have qi0 : (0 < l0.length) = True := eq_true (by omega); have qj0 : ((0 : Int) < (l0.length : Int)) = True := eq_true (by omega)
  by_cases c2 : (rd l0 0) / 16 = 4
  ·rw [if_pos c2] at H; have c2b0 : (((rd l0 0) / 16) == 4) = true := beq_iff_eq.mpr c2; have c2b1 : (((rd l0 0) / 16) != 4) = false := bne_eq_false_iff_eq.mpr c2; clear c2
   by_cases c3 : n < 20
   ·rw [if_pos c3] at H; have c3b0 : decide (n < 20) = true := decide_eq_true c3; clear c3; obtain rfl := Option.some.inj H; go_enter Try.func95, Try.ntmps95
    go_wp2_with (first | ((with_reducible refine gate_callee (f := 30) rfl ?_); refine goesL_ (some 6) rfl rfl Try.func30 (by kernel_rfl) rfl #[.slice (some ad) l0.length c0] rfl (by (try simp only [LmA, LmB, LmC]); first | done | rfl | (simp only [LdA, LtA]; rfl)) ?_; refine (castellanref4_Header.calls _ _ l0 n _ (HO.out.old HR0.out) HC0.out AN.out).mono ?_; rintro e w1 ⟨rfl, hd_⟩; refine ⟨_, rfl, ?_⟩; replace HO := Aside0.mk (HO.out.drawn hd_); clear hd_; have HX1 := HO.out.cell_old HX0.out (Nat.ne_of_lt (block_lt_of_cell HX0.out)); clear HF; have HF := HO.out.facts; simp only [OwnsM.Facts, and_true] at HF))
    go_ret; exact ⟨none, rfl, rfl, HO.out.below⟩
   ·rw [if_neg c3] at H; have c3b0 : decide (n < 20) = false := decide_eq_false c3; clear c3
    by_cases c4 : (l0.length : Int) < wrap64 (n + 8)
    ·rw [if_pos c4] at H; have c4b0 : decide ((l0.length : Int) < wrap64 (n + 8)) = true := decide_eq_true c4; clear c4; obtain rfl := Option.some.inj H; go_enter Try.func95, Try.ntmps95
     go_wp2_with (first | ((with_reducible refine gate_callee (f := 30) rfl ?_); refine goesL_ (some 6) rfl rfl Try.func30 (by kernel_rfl) rfl #[.slice (some ad) l0.length c0] rfl (by (try simp only [LmA, LmB, LmC]); first | done | rfl | (simp only [LdA, LtA]; rfl)) ?_; refine (castellanref4_Header.calls _ _ l0 n _ (HO.out.old HR0.out) HC0.out AN.out).mono ?_; rintro e w1 ⟨rfl, hd_⟩; refine ⟨_, rfl, ?_⟩; replace HO := Aside0.mk (HO.out.drawn hd_); clear hd_; have HX1 := HO.out.cell_old HX0.out (Nat.ne_of_lt (block_lt_of_cell HX0.out)); clear HF; have HF := HO.out.facts; simp only [OwnsM.Facts, and_true] at HF))
     go_ret; exact ⟨none, rfl, rfl, HO.out.below⟩
    ·rw [if_neg c4] at H; have c4b0 : decide ((l0.length : Int) < wrap64 (n + 8)) = false := decide_eq_false c4; clear c4; obtain ⟨o, A_, H⟩ := Option.bind_eq_some_iff.mp H; have AO := Aside0.mk A_; clear A_
     try dsimp only at H
     by_cases c5 : Go.bits .and .i64 o 8191 = 0
     ·rw [if_pos c5] at H; have c5b0 : ((Go.bits .and .i64 o 8191) == 0) = true := beq_iff_eq.mpr c5; have c5b1 : ((Go.bits .and .i64 o 8191) != 0) = false := bne_eq_false_iff_eq.mpr c5; clear c5; obtain ⟨s, A_, H⟩ := Option.bind_eq_some_iff.mp H; have AS := Aside0.mk A_; clear A_; obtain ⟨d, A_, H⟩ := Option.bind_eq_some_iff.mp H; have AD := Aside0.mk A_; clear A_
      try dsimp only at H
      obtain ⟨ad9, ea9, hx9⟩ := Kd.at_int HR0.out 9 (by omega) (by omega)
      injection ea9 with ea9
      subst ea9; simp only [show (9 : Int).toNat = 9 from rfl, Nat.reduceMul, Nat.reduceEqDiff, Go.Addr.add, ↓reduceIte] at hx9; have HX9 := Aside0.mk hx9; clear hx9; have qi9 : (9 < l0.length) = True := eq_true (by omega); have qj9 : ((9 : Int) < (l0.length : Int)) = True := eq_true (by omega); have c1' := Aside0.mk c1; clear c1; have HH := Aside0.mk H; clear H; go_enter Try.func95, Try.ntmps95
      go_upto_region 4 with (first | ((with_reducible refine gate_callee (f := 30) rfl ?_); refine goesL_ (some 6) rfl rfl Try.func30 (by kernel_rfl) rfl #[.slice (some ad) l0.length c0] rfl (by (try simp only [LmA, LmB, LmC]); first | done | rfl | (simp only [LdA, LtA]; rfl)) ?_; refine (castellanref4_Header.calls _ _ l0 n _ (HO.out.old HR0.out) HC0.out AN.out).mono ?_; rintro e w1 ⟨rfl, hd_⟩; refine ⟨_, rfl, ?_⟩; replace HO := Aside0.mk (HO.out.drawn hd_); clear hd_; have HX1 := HO.out.cell_old HX0.out (Nat.ne_of_lt (block_lt_of_cell HX0.out)); clear HF; have HF := HO.out.facts; simp only [OwnsM.Facts, and_true] at HF) | ((with_reducible refine gate_callee (f := 66) rfl ?_); (try (refine gate_guard (by rfl) ?_; dsimp only)); refine goesL_ (some 30) rfl rfl Try.func66 (by kernel_rfl) rfl #[.slice (some ad) l0.length c0, .int .i64 6] rfl (by (try simp only [LmA, LmB, LmC]); first | done | rfl | (simp only [LdA, LtA]; rfl)) ?_; refine (castellanref1_Get16.calls _ _ l0 6 o _ (HO.out.old HR0.out) HC0.out AO.out).mono ?_; rintro e w1 ⟨rfl, hd_⟩; refine ⟨_, rfl, ?_⟩; replace HO := Aside0.mk (HO.out.drawn hd_); clear hd_; try clear HX1; clear HF; have HF := HO.out.facts; simp only [OwnsM.Facts, and_true] at HF))
      have HO1_ := Aside0.mk HO.out.drew; clear HO HF; have HO := HO1_; clear HO1_; refine start_ (n := 11) (S := fun w' => w'.cell? ⟨ad.block, ad.off + 9, none⟩ = some (.int .u8 (rd l0 9))) (ds := [9]) (bm 11 0) (by kernel_rfl) rfl rfl (HO.out.cell_old HX9.out (Nat.ne_of_lt (block_lt_of_cell HX9.out))) (fun hHeld => ?_); refine with_tabW castellanref8_inner.tab4 castellanref8_inner.bits4 (fun HT_ HW_ => ?_)
      generalize w1.drew = w1 at HO hHeld ⊢; refine pure_ (i := 0) (N := some 34) (v := ?_) (a' := ?_) (bm 11 1) rfl rfl (any_of HT_.out (by kernel_rfl)) (fun _ _ _ h => h) (Or.inl ⟨by rfl, ?_⟩) ?_ ?_; rotate_left
      ·intro w'; go_simp; with_reducible rfl
      rotate_left
      ·simp only [Act.put, LsA, LsB, LsC, i64_w, i32_w]; rfl
      refine pure_ (i := 1) (N := some 35) (v := ?_) (a' := ?_) (bm 11 3) rfl rfl (any_of HT_.out (by kernel_rfl)) (fun _ _ _ h => h) (Or.inl ⟨by rfl, ?_⟩) ?_ ?_; rotate_left
      ·intro w'; go_simp; with_reducible rfl
      rotate_left
      ·simp only [Act.put, LsA, LsB, LsC, i64_w, i32_w]; rfl
      refine pure_ (i := 4) (N := some 38) (v := ?_) (a' := ?_) (bm 11 19) rfl rfl (any_of HT_.out (by kernel_rfl)) (fun _ _ _ h => h) (Or.inl ⟨by rfl, ?_⟩) ?_ ?_; rotate_left
      ·intro w'; go_simp; with_reducible rfl
      rotate_left
      ·simp only [Act.put, LsA, LsB, LsC, i64_w, i32_w]; rfl
      refine pure_ (i := 6) (N := some 40) (v := ?_) (a' := ?_) (bm 11 83) rfl rfl (any_of HT_.out (by kernel_rfl)) (fun _ _ _ h => h) (Or.inl ⟨by rfl, ?_⟩) ?_ ?_; rotate_left
      ·intro w'; go_simp; with_reducible rfl
      rotate_left
      ·simp only [Act.put, LsA, LsB, LsC, i64_w, i32_w]; rfl
      refine take_ (i := 2) (N := some 36) (v := ?_) (a' := ?_) (bm 11 87) rfl rfl (take_ofW HT_.out HW_.out (by kernel_rfl)) (fun _ _ _ h => h) (Or.inl ⟨by rfl, ?_⟩) hHeld ?_ ?_; rotate_left
      ·intro w' s0; go_simp; with_reducible rfl
      rotate_left
      ·simp only [Act.put, LsA, LsB, LsC, i64_w, i32_w]; rfl
      refine pure_ (i := 3) (N := some 37) (v := ?_) (a' := ?_) (bm 11 95) rfl rfl (any_of HT_.out (by kernel_rfl)) (fun _ _ _ h => h) (Or.inl ⟨by rfl, ?_⟩) ?_ ?_; rotate_left
      ·intro w'; go_simp; with_reducible rfl
      rotate_left
      ·simp only [Act.put, LsA, LsB, LsC, i64_w, i32_w]; rfl
      refine one_ (i := 5) (N := some 39) (bm 11 127) rfl rfl (one_of HT_.out (by kernel_rfl)) (by decide) (fun K hK => ?_); refine goes_ Try.func80 (by kernel_rfl) rfl #[.slice (some ad) l0.length c0, .int .i64 12] (by rfl) rfl rfl (by (try simp only [LmA, LmB, LmC]); first | done | rfl | (simp only [LdA, LtA]; rfl)) ?_; refine (castellanref1_Get32.calls _ _ l0 12 s _ (HO.out.old HR0.out) HC0.out AS.out).mono ?_; rintro e w1 ⟨rfl, hd_⟩; refine ⟨_, rfl, ?_⟩; replace HO := Aside0.mk (HO.out.drawn hd_); clear hd_; refine hK.out _ _ (HO.out.cell_old HX9.out (Nat.ne_of_lt (block_lt_of_cell HX9.out))) (fun hHeld => ?_); clear hK K; refine norm_ (a' := ?_) ?_ ?_; rotate_left
      ·show Act.put _ (some 39) _ = _; simp only [Act.put, LsA, LsB, LsC, i64_w, i32_w]; rfl
      refine one_ (i := 7) (N := some 41) (bm 11 255) rfl rfl (one_of HT_.out (by kernel_rfl)) (by decide) (fun K hK => ?_); refine goes_ Try.func80 (by kernel_rfl) rfl #[.slice (some ad) l0.length c0, .int .i64 16] (by rfl) rfl rfl (by (try simp only [LmA, LmB, LmC]); first | done | rfl | (simp only [LdA, LtA]; rfl)) ?_; refine (castellanref1_Get32.calls _ _ l0 16 d _ (HO.out.old HR0.out) HC0.out AD.out).mono ?_; rintro e w1 ⟨rfl, hd_⟩; refine ⟨_, rfl, ?_⟩; replace HO := Aside0.mk (HO.out.drawn hd_); clear hd_; refine hK.out _ _ (HO.out.cell_old HX9.out (Nat.ne_of_lt (block_lt_of_cell HX9.out))) (fun hHeld => ?_); clear hK K; refine norm_ (a' := ?_) ?_ ?_; rotate_left
      ·show Act.put _ (some 41) _ = _; simp only [Act.put, LsA, LsB, LsC, i64_w, i32_w]; rfl
      refine pure_ (i := 8) (N := some 42) (v := ?_) (a' := ?_) (bm 11 511) rfl rfl (any_of HT_.out (by kernel_rfl)) (fun _ _ _ h => h) (Or.inl ⟨by rfl, ?_⟩) ?_ ?_; rotate_left
      ·intro w'; go_simp; with_reducible rfl
      rotate_left
      ·simp only [Act.put, LsA, LsB, LsC, i64_w, i32_w]; rfl
      refine last_ (i := 9) (N := some 43) (bm 11 1023) rfl rfl (one_of HT_.out (by kernel_rfl)) (by decide) (fun K hK => ?_); refine ow_box_step HO (by rfl) (N := 43) rfl #[.int .i64 (wrap64 (rd l0 9)), .int .u32 s, .int .u32 d, .int .i64 0, .int .i64 0] 35 ?hr rfl (fun gk w1 HO1_ => ?_); (case hr => first | (go_simp; done) | (go_simp; rfl))
      clear HO; have HO := HO1_; clear HO1_; refine hK.out _ _ ?_; clear hK K; refine norm_ (a' := ?_) ?_ ?_; rotate_left
      ·show Act.put _ (some 43) _ = _; simp only [Act.put, LsA, LsB, LsC, i64_w, i32_w]; rfl
      refine pure_ (i := 10) (N := some 4) (v := ?_) (a' := ?_) (bm 11 2047) rfl rfl (any_of HT_.out (by kernel_rfl)) (fun _ _ _ h => h) (Or.inl ⟨by rfl, ?_⟩) ?_ ?_; rotate_left
      ·intro w'; go_simp; with_reducible rfl
      rotate_left
      ·simp only [Act.put, LsA, LsB, LsC, i64_w, i32_w]; rfl
      refine done_ (done_of HT_.out (by kernel_rfl)) ?_; have HF := HO.out.facts; simp only [OwnsM.Facts, and_true] at HF
      have H := HH.out; clear HH; unfold castellanref8_inner.g at H
      by_cases p1 : (wrap64 (rd l0 9)) = 6
      ·rw [if_pos p1] at H; have p1b0 : ((wrap64 (rd l0 9)) == 6) = true := beq_iff_eq.mpr p1; have p1b1 : ((wrap64 (rd l0 9)) != 6) = false := bne_eq_false_iff_eq.mpr p1; clear p1; obtain ⟨a, A_, H⟩ := Option.bind_eq_some_iff.mp H; have AA := Aside0.mk A_; clear A_; obtain ⟨b, A_, H⟩ := Option.bind_eq_some_iff.mp H; have AB := Aside0.mk A_; clear A_; obtain rfl := Option.some.inj H
       go_wp2_with (first | ((with_reducible refine gate_callee (f := 66) rfl ?_); refine goesL_ (some 61) rfl rfl Try.func66 (by kernel_rfl) rfl #[.slice (some ad) l0.length c0, .int .i64 n] rfl (by (try simp only [LmA, LmB, LmC]); first | done | rfl | (simp only [LdA, LtA]; rfl)) ?_; refine (castellanref1_Get16.calls _ _ l0 n a _ (HO.out.old HR0.out) HC0.out AA.out).mono ?_; rintro e w1 ⟨rfl, hd_⟩; refine ⟨_, rfl, ?_⟩; replace HO := Aside0.mk (HO.out.drawn hd_); clear hd_; clear HF; have HF := HO.out.facts; simp only [OwnsM.Facts, and_true] at HF) | ((with_reducible refine gate_callee (f := 66) rfl ?_); refine goesL_ (some 65) rfl rfl Try.func66 (by kernel_rfl) rfl #[.slice (some ad) l0.length c0, .int .i64 (wrap64 (n + 2))] rfl (by (try simp only [LmA, LmB, LmC]); first | done | rfl | (simp only [LdA, LtA]; rfl)) ?_; refine (castellanref1_Get16.calls _ _ l0 (wrap64 (n + 2)) b _ (HO.out.old HR0.out) HC0.out AB.out).mono ?_; rintro e w1 ⟨rfl, hd_⟩; refine ⟨_, rfl, ?_⟩; replace HO := Aside0.mk (HO.out.drawn hd_); clear hd_; clear HF; have HF := HO.out.facts; simp only [OwnsM.Facts, and_true] at HF) | ((with_reducible refine gate_store (p := 67) rfl ?_); (first | (refine ow_putc HO rfl rfl 0 rfl 3 ?_ ?hr ?_; (case hr => first | (go_simp; done) | (go_simp; rfl)))); clear HO HF; intro w1 HO; simp only [LsB, LsC, LsA] at HO; have HF := HO.out.facts; simp only [OwnsM.Facts, and_true] at HF) | ((with_reducible refine gate_store (p := 69) rfl ?_); (first | (refine ow_putc HO rfl rfl 0 rfl 4 ?_ ?hr ?_; (case hr => first | (go_simp; done) | (go_simp; rfl)))); clear HO HF; intro w1 HO; simp only [LsB, LsC, LsA] at HO; have HF := HO.out.facts; simp only [OwnsM.Facts, and_true] at HF))
       go_ret; exact ⟨_, rfl, ⟨gk, rfl, HO.out.ge 0 rfl, HO.out.at_ 0 rfl⟩, HO.out.below⟩
      ·rw [if_neg p1] at H; have p1b0 : ((wrap64 (rd l0 9)) == 6) = false := beq_eq_false_iff_ne.mpr p1; have p1b1 : ((wrap64 (rd l0 9)) != 6) = true := bne_iff_ne.mpr p1; clear p1
       by_cases p2 : (wrap64 (rd l0 9)) = 17
       ·rw [if_pos p2] at H; have p2b0 : ((wrap64 (rd l0 9)) == 17) = true := beq_iff_eq.mpr p2; have p2b1 : ((wrap64 (rd l0 9)) != 17) = false := bne_eq_false_iff_eq.mpr p2; clear p2; obtain ⟨a, A_, H⟩ := Option.bind_eq_some_iff.mp H; have AA := Aside0.mk A_; clear A_; obtain ⟨b, A_, H⟩ := Option.bind_eq_some_iff.mp H; have AB := Aside0.mk A_; clear A_; obtain rfl := Option.some.inj H
        go_wp2_with (first | ((with_reducible refine gate_callee (f := 66) rfl ?_); refine goesL_ (some 61) rfl rfl Try.func66 (by kernel_rfl) rfl #[.slice (some ad) l0.length c0, .int .i64 n] rfl (by (try simp only [LmA, LmB, LmC]); first | done | rfl | (simp only [LdA, LtA]; rfl)) ?_; refine (castellanref1_Get16.calls _ _ l0 n a _ (HO.out.old HR0.out) HC0.out AA.out).mono ?_; rintro e w1 ⟨rfl, hd_⟩; refine ⟨_, rfl, ?_⟩; replace HO := Aside0.mk (HO.out.drawn hd_); clear hd_; clear HF; have HF := HO.out.facts; simp only [OwnsM.Facts, and_true] at HF) | ((with_reducible refine gate_callee (f := 66) rfl ?_); refine goesL_ (some 65) rfl rfl Try.func66 (by kernel_rfl) rfl #[.slice (some ad) l0.length c0, .int .i64 (wrap64 (n + 2))] rfl (by (try simp only [LmA, LmB, LmC]); first | done | rfl | (simp only [LdA, LtA]; rfl)) ?_; refine (castellanref1_Get16.calls _ _ l0 (wrap64 (n + 2)) b _ (HO.out.old HR0.out) HC0.out AB.out).mono ?_; rintro e w1 ⟨rfl, hd_⟩; refine ⟨_, rfl, ?_⟩; replace HO := Aside0.mk (HO.out.drawn hd_); clear hd_; clear HF; have HF := HO.out.facts; simp only [OwnsM.Facts, and_true] at HF) | ((with_reducible refine gate_store (p := 67) rfl ?_); (first | (refine ow_putc HO rfl rfl 0 rfl 3 ?_ ?hr ?_; (case hr => first | (go_simp; done) | (go_simp; rfl)))); clear HO HF; intro w1 HO; simp only [LsB, LsC, LsA] at HO; have HF := HO.out.facts; simp only [OwnsM.Facts, and_true] at HF) | ((with_reducible refine gate_store (p := 69) rfl ?_); (first | (refine ow_putc HO rfl rfl 0 rfl 4 ?_ ?hr ?_; (case hr => first | (go_simp; done) | (go_simp; rfl)))); clear HO HF; intro w1 HO; simp only [LsB, LsC, LsA] at HO; have HF := HO.out.facts; simp only [OwnsM.Facts, and_true] at HF))
        go_ret; exact ⟨_, rfl, ⟨gk, rfl, HO.out.ge 0 rfl, HO.out.at_ 0 rfl⟩, HO.out.below⟩
       ·rw [if_neg p2] at H; have p2b0 : ((wrap64 (rd l0 9)) == 17) = false := beq_eq_false_iff_ne.mpr p2; have p2b1 : ((wrap64 (rd l0 9)) != 17) = true := bne_iff_ne.mpr p2; clear p2
        by_cases p3 : (wrap64 (rd l0 9)) = 1
        ·rw [if_pos p3] at H; have p3b0 : ((wrap64 (rd l0 9)) == 1) = true := beq_iff_eq.mpr p3; have p3b1 : ((wrap64 (rd l0 9)) != 1) = false := bne_eq_false_iff_eq.mpr p3; clear p3
         by_cases c6 : 0 ≤ n ∧ n < (l0.length : Int)
         ·rw [if_pos c6] at H; obtain ⟨pn, qn⟩ := c6; obtain ⟨adn, ean, hxn⟩ := Kd.at_int HR0.out n pn qn
          injection ean with ean
          subst ean; have HXN := Aside0.mk hxn; clear hxn; replace pn := eq_true pn; replace qn := eq_true qn; have hxN := HO.out.cell_old HXN.out (Nat.ne_of_lt (block_lt_of_cell HXN.out)); obtain ⟨q, A_, H⟩ := Option.bind_eq_some_iff.mp H; have AQ := Aside0.mk A_; clear A_
          try dsimp only at H
          cases q
          ·rw [if_neg Bool.false_ne_true] at H; obtain rfl := Option.some.inj H
           go_wp2_with (first | (go_at_call 93; refine (castellanref7_Query.calls _ _ _ AQ.out).mono ?_; rintro e w1 ⟨rfl, hd_⟩; replace HO := Aside0.mk (HO.out.drawn hd_); clear hd_; clear hxN; clear HF; have HF := HO.out.facts; simp only [OwnsM.Facts, and_true] at HF))
           go_ret; exact ⟨_, rfl, ⟨gk, rfl, HO.out.ge 0 rfl, HO.out.at_ 0 rfl⟩, HO.out.below⟩
          ·rw [if_pos rfl] at H; obtain ⟨a, A_, H⟩ := Option.bind_eq_some_iff.mp H; have AA := Aside0.mk A_; clear A_; obtain rfl := Option.some.inj H
           go_wp2_with (first | (go_at_call 93; refine (castellanref7_Query.calls _ _ _ AQ.out).mono ?_; rintro e w1 ⟨rfl, hd_⟩; replace HO := Aside0.mk (HO.out.drawn hd_); clear hd_; clear hxN; clear HF; have HF := HO.out.facts; simp only [OwnsM.Facts, and_true] at HF) | ((with_reducible refine gate_callee (f := 66) rfl ?_); refine goesL_ (some 89) rfl rfl Try.func66 (by kernel_rfl) rfl #[.slice (some ad) l0.length c0, .int .i64 (wrap64 (n + 4))] rfl (by (try simp only [LmA, LmB, LmC]); first | done | rfl | (simp only [LdA, LtA]; rfl)) ?_; refine (castellanref1_Get16.calls _ _ l0 (wrap64 (n + 4)) a _ (HO.out.old HR0.out) HC0.out AA.out).mono ?_; rintro e w1 ⟨rfl, hd_⟩; refine ⟨_, rfl, ?_⟩; replace HO := Aside0.mk (HO.out.drawn hd_); clear hd_; clear HF; have HF := HO.out.facts; simp only [OwnsM.Facts, and_true] at HF) | ((with_reducible refine gate_callee (f := 66) rfl ?_); refine goesL_ (some 93) rfl rfl Try.func66 (by kernel_rfl) rfl #[.slice (some ad) l0.length c0, .int .i64 (wrap64 (n + 4))] rfl (by (try simp only [LmA, LmB, LmC]); first | done | rfl | (simp only [LdA, LtA]; rfl)) ?_; refine (castellanref1_Get16.calls _ _ l0 (wrap64 (n + 4)) a _ (HO.out.old HR0.out) HC0.out AA.out).mono ?_; rintro e w1 ⟨rfl, hd_⟩; refine ⟨_, rfl, ?_⟩; replace HO := Aside0.mk (HO.out.drawn hd_); clear hd_; clear HF; have HF := HO.out.facts; simp only [OwnsM.Facts, and_true] at HF) | ((with_reducible refine gate_store (p := 95) rfl ?_); (first | (refine ow_putc HO rfl rfl 0 rfl 3 ?_ ?hr ?_; (case hr => first | (go_simp; done) | (go_simp; rfl)))); clear HO HF; intro w1 HO; simp only [LsB, LsC, LsA] at HO; have HF := HO.out.facts; simp only [OwnsM.Facts, and_true] at HF) | ((with_reducible refine gate_store (p := 97) rfl ?_); (first | (refine ow_putc HO rfl rfl 0 rfl 4 ?_ ?hr ?_; (case hr => first | (go_simp; done) | (go_simp; rfl)))); clear HO HF; intro w1 HO; simp only [LsB, LsC, LsA] at HO; have HF := HO.out.facts; simp only [OwnsM.Facts, and_true] at HF))
           go_ret; exact ⟨_, rfl, ⟨gk, rfl, HO.out.ge 0 rfl, HO.out.at_ 0 rfl⟩, HO.out.below⟩
         ·rw [if_neg c6] at H; exact absurd H (by simp)
        ·rw [if_neg p3] at H; have p3b0 : ((wrap64 (rd l0 9)) == 1) = false := beq_eq_false_iff_ne.mpr p3; have p3b1 : ((wrap64 (rd l0 9)) != 1) = true := bne_iff_ne.mpr p3; clear p3; obtain rfl := Option.some.inj H; go_wp2; go_ret; exact ⟨_, rfl, ⟨gk, rfl, HO.out.ge 0 rfl, HO.out.at_ 0 rfl⟩, HO.out.below⟩
     ·rw [if_neg c5] at H; have c5b0 : ((Go.bits .and .i64 o 8191) == 0) = false := beq_eq_false_iff_ne.mpr c5; have c5b1 : ((Go.bits .and .i64 o 8191) != 0) = true := bne_iff_ne.mpr c5; clear c5; obtain rfl := Option.some.inj H; go_enter Try.func95, Try.ntmps95
      go_wp2_with (first | ((with_reducible refine gate_callee (f := 30) rfl ?_); refine goesL_ (some 6) rfl rfl Try.func30 (by kernel_rfl) rfl #[.slice (some ad) l0.length c0] rfl (by (try simp only [LmA, LmB, LmC]); first | done | rfl | (simp only [LdA, LtA]; rfl)) ?_; refine (castellanref4_Header.calls _ _ l0 n _ (HO.out.old HR0.out) HC0.out AN.out).mono ?_; rintro e w1 ⟨rfl, hd_⟩; refine ⟨_, rfl, ?_⟩; replace HO := Aside0.mk (HO.out.drawn hd_); clear hd_; have HX1 := HO.out.cell_old HX0.out (Nat.ne_of_lt (block_lt_of_cell HX0.out)); clear HF; have HF := HO.out.facts; simp only [OwnsM.Facts, and_true] at HF) | ((with_reducible refine gate_callee (f := 66) rfl ?_); (try (refine gate_guard (by rfl) ?_; dsimp only)); refine goesL_ (some 30) rfl rfl Try.func66 (by kernel_rfl) rfl #[.slice (some ad) l0.length c0, .int .i64 6] rfl (by (try simp only [LmA, LmB, LmC]); first | done | rfl | (simp only [LdA, LtA]; rfl)) ?_; refine (castellanref1_Get16.calls _ _ l0 6 o _ (HO.out.old HR0.out) HC0.out AO.out).mono ?_; rintro e w1 ⟨rfl, hd_⟩; refine ⟨_, rfl, ?_⟩; replace HO := Aside0.mk (HO.out.drawn hd_); clear hd_; try clear HX1; clear HF; have HF := HO.out.facts; simp only [OwnsM.Facts, and_true] at HF))
      go_ret; exact ⟨none, rfl, rfl, HO.out.below⟩
  ·rw [if_neg c2] at H; have c2b0 : (((rd l0 0) / 16) == 4) = false := beq_eq_false_iff_ne.mpr c2; have c2b1 : (((rd l0 0) / 16) != 4) = true := bne_iff_ne.mpr c2; clear c2; obtain rfl := Option.some.inj H; go_enter Try.func95, Try.ntmps95
   go_wp2_with (first | ((with_reducible refine gate_callee (f := 30) rfl ?_); refine goesL_ (some 6) rfl rfl Try.func30 (by kernel_rfl) rfl #[.slice (some ad) l0.length c0] rfl (by (try simp only [LmA, LmB, LmC]); first | done | rfl | (simp only [LdA, LtA]; rfl)) ?_; refine (castellanref4_Header.calls _ _ l0 n _ (HO.out.old HR0.out) HC0.out AN.out).mono ?_; rintro e w1 ⟨rfl, hd_⟩; refine ⟨_, rfl, ?_⟩; replace HO := Aside0.mk (HO.out.drawn hd_); clear hd_; have HX1 := HO.out.cell_old HX0.out (Nat.ne_of_lt (block_lt_of_cell HX0.out)); clear HF; have HF := HO.out.facts; simp only [OwnsM.Facts, and_true] at HF))
   go_ret; exact ⟨none, rfl, rfl, HO.out.below⟩
def castellanref8_message.g (d : List Int) : Option (Int × Int × Int × Option K5 × Int) := (castellanref7_Read.f d).bind fun m => (castellanref7_Query.f m.1).bind fun q => (castellanref7_Bad.f m.1).bind fun bd =>
 if q = true then (if bd = true then none else some (wrap64 (m.2.2.1 / 65536), m.1, m.2.1, none, 0)) else if bd = true then ((castellanref8_inner.f m.2.2.2).bind fun key => some (0, m.1, m.2.1, key, 0)) else some (0, m.1, m.2.1, none, 0)
def castellanref8_message.f (k : Nat) (cl : Int) (d : List Int) : Option (Int × Int × Int × Option K5 × Int) := (castellanref7_Parse.f k d).bind fun m =>
 if m.2.2.2.2 = 3 then some (0, 0, 0, none, m.2.2.2.2) else if m.2.2.2.2 = 0 then castellanref8_message.g d else if cl = 0 then some (0, 0, 0, none, m.2.2.2.2) else castellanref8_message.g d
def castellanref8_message.T6 : Bool × List (List Nat × List Nat) := (true, [([], []), ([], []), ([], []), ([2], [2]), ([], []), ([4], [4]), ([0, 0, 2, 3], [0]), ([6, 0, 2, 3], [6]), ([7, 3, 0, 2, 3], [3, 7]), ([1, 0, 1, 2, 3, 4, 5, 6, 7, 8], [1]), ([9, 0, 1, 2, 3, 4, 5, 6, 7, 8], [9]), ([10, 5, 8, 0, 1, 2, 3, 4, 5, 6, 7, 8], [5, 10])])
def castellanref8_message.B6 : List Nat := [0, 0, 0, 4, 0, 16, 13, 77, 205, 511, 1023, 2047]
theorem castellanref8_message.tab6 : rtab .any (opsOf Try.f79 6) = castellanref8_message.T6 := by kernel_rfl
theorem castellanref8_message.bits6 : waitsOk castellanref8_message.T6.2 castellanref8_message.B6 = true := by kernel_rfl
def castellanref8_message.T8 : Bool × List (List Nat × List Nat) := (true, [([], []), ([], []), ([], []), ([2], [2]), ([3], [3]), ([4], [4]), ([], []), ([6], [6]), ([7], [7]), ([8], [8]), ([0, 0, 2, 3, 4, 5], [0]), ([10, 0, 2, 3, 4, 5], [10]), ([11, 5, 0, 2, 3, 4, 5], [5, 11]), ([1, 0, 1, 2, 3, 4, 5, 6, 7, 8, 9, 10, 11, 12], [1]), ([13, 0, 1, 2, 3, 4, 5, 6, 7, 8, 9, 10, 11, 12], [13]), ([14, 9, 12, 0, 1, 2, 3, 4, 5, 6, 7, 8, 9, 10, 11, 12], [9, 14])])
def castellanref8_message.B8 : List Nat := [0, 0, 0, 4, 12, 28, 0, 64, 192, 448, 61, 1085, 3133, 8191, 16383, 32767]
theorem castellanref8_message.tab8 : rtab .any (opsOf Try.f79 8) = castellanref8_message.T8 := by kernel_rfl
theorem castellanref8_message.bits8 : waitsOk castellanref8_message.T8.2 castellanref8_message.B8 = true := by kernel_rfl
set_option maxHeartbeats 8000000 in
set_option maxRecDepth 100000 in
theorem castellanref8_message.hand (k g : Nat) (t1 t2 : Int) (t3 t4 : Bool) (t5 t6 t7 t8 t9 : Int) (Ao : Option Addr) (no co : Nat) (Ad : Option Addr) (cd : Nat) (d : List Int) (cl : Int) (a ty code : Int) (key : Option K5) (e : Int) (w : World) (hb0 : w.heap[g]? = some (.cells #[.int .i64 t1, .int .i64 t2, .bool t3, .bool t4, .int .i64 t5, .int .i64 t6, .int .i64 t7, .int .u32 t8, .int .u32 t9, .slice Ao no co, .slice Ad d.length cd, .int .i64 cl, .int .i64 0, .int .i64 0, .int .i64 0, .int .i64 0, .int .i64 0, .pointer none] 29 (0, 0))) (hr : Kd.C (Kd.int .u8) w Ad d.length d) (hc : d.length ≤ cd) (h : castellanref8_message.f k cl d = some (a, ty, code, key, e)) :
  Calls Try.prog 79 #[.pointer (some ⟨g, 0, none⟩)] w fun e' w' => ∃ vi, e' = .returned (.int .i64 e) ∧ Turned w w' g #[.int .i64 t1, .int .i64 t2, .bool t3, .bool t4, .int .i64 t5, .int .i64 t6, .int .i64 t7, .int .u32 t8, .int .u32 t9, .slice Ao no co, .slice Ad d.length cd, .int .i64 cl, .int .i64 a, .int .i64 a, .int .i64 0, .int .i64 ty, .int .i64 code, .pointer vi] 29 ∧ KeyAt w.heap.size w' 35 vi key := by
 have HO := Aside0.mk (OwnsM.one hb0 rfl); have hb := Aside0.mk hb0; clear hb0; have HF := HO.out.facts; simp only [OwnsM.Facts, and_true] at HF
 unfold castellanref8_message.f at h; have H := h; clear h; obtain ⟨⟨m1, m2, m3, m4, m5⟩, A_, H⟩ := Option.bind_eq_some_iff.mp H; have AM := Aside0.mk A_; clear A_
 try dsimp only at H
 by_cases c1 : m5 = 3
 ·rw [if_pos c1] at H; have c1b0 : (m5 == 3) = true := beq_iff_eq.mpr c1; have c1b1 : (m5 != 3) = false := bne_eq_false_iff_eq.mpr c1; clear c1; simp only [Option.some.injEq, Prod.mk.injEq] at H; obtain ⟨rfl, rfl, rfl, rfl, rfl⟩ := H; go_enter Try.func79, Try.ntmps79
  go_wp2_with (first | ((with_reducible refine gate_callee (f := 29) rfl ?_); refine goesL_ (some 14) rfl rfl Try.func29 (by kernel_rfl) rfl #[.slice Ad d.length cd] rfl (by (try simp only [LmA, LmB, LmC]); first | done | rfl | (simp only [LdA, LtA]; rfl)) ?_; refine (castellanref7_Parse.calls k _ _ d m1 m2 m3 m4 m5 _ (HO.out.oldm hr hb.out (fun v hv x e => by subst e; simp at hv)) hc AM.out).mono ?_; rintro e w1 ⟨v1, rfl, h1, hb1⟩; obtain ⟨Ax, cx, rfl⟩ := Kd.R_slice h1; refine ⟨_, rfl, ?_⟩; replace HO := Aside0.mk (HO.out.call1 hb1 h1); clear hb1 h1; clear HF; have HF := HO.out.facts; simp only [OwnsM.Facts, and_true] at HF) | ((with_reducible refine gate_dst (N := 4) rfl ?_); refine ow_box HO rfl (N := 4) rfl #[.int .i64 0, .int .i64 0, .int .u32 0, .slice none 0 0] 50 ?hr rfl ?_; (case hr => first | (go_simp; done) | (go_simp; rfl)); clear HO HF; intro g4 w1 HO; have HF := HO.out.facts; simp only [OwnsM.Facts, and_true] at HF) | ((with_reducible refine gate_store (p := 4) rfl ?_); (first | refine ow_put HO rfl rfl 0 rfl (ty := 50) rfl _ rfl rfl (by kernel_rfl) rfl rfl ?_); clear HO HF; intro w1 HO; simp only [LsB, LsC, LsA] at HO; have HF := HO.out.facts; simp only [OwnsM.Facts, and_true] at HF))
  go_ret; exact ⟨none, rfl, HO.out.turned 1 rfl, rfl⟩
 ·rw [if_neg c1] at H; have c1b0 : (m5 == 3) = false := beq_eq_false_iff_ne.mpr c1; have c1b1 : (m5 != 3) = true := bne_iff_ne.mpr c1; clear c1
  by_cases c2 : m5 = 0
  ·rw [if_pos c2] at H; have c2b0 : (m5 == 0) = true := beq_iff_eq.mpr c2; have c2b1 : (m5 != 0) = false := bne_eq_false_iff_eq.mpr c2; clear c2; unfold castellanref8_message.g at H; obtain ⟨⟨r1, r2, r3, r4⟩, A_, H⟩ := Option.bind_eq_some_iff.mp H; have AR := Aside0.mk A_; clear A_
   try dsimp only at H
   obtain ⟨q, A_, H⟩ := Option.bind_eq_some_iff.mp H; have AQ := Aside0.mk A_; clear A_; obtain ⟨bd, A_, H⟩ := Option.bind_eq_some_iff.mp H; have AB := Aside0.mk A_; clear A_
   try dsimp only at H
   have HH := Aside0.mk H; clear H; go_enter Try.func79, Try.ntmps79
   go_upto_region 6 with (first | ((with_reducible refine gate_callee (f := 29) rfl ?_); refine goesL_ (some 14) rfl rfl Try.func29 (by kernel_rfl) rfl #[.slice Ad d.length cd] rfl (by (try simp only [LmA, LmB, LmC]); first | done | rfl | (simp only [LdA, LtA]; rfl)) ?_; refine (castellanref7_Parse.calls k _ _ d m1 m2 m3 m4 m5 _ (HO.out.oldm hr hb.out (fun v hv x e => by subst e; simp at hv)) hc AM.out).mono ?_; rintro e w1 ⟨v1, rfl, h1, hb1⟩; obtain ⟨Ax, cx, rfl⟩ := Kd.R_slice h1; refine ⟨_, rfl, ?_⟩; replace HO := Aside0.mk (HO.out.call1 hb1 h1); clear hb1 h1; clear HF; have HF := HO.out.facts; simp only [OwnsM.Facts, and_true] at HF) | ((with_reducible refine gate_dst (N := 4) rfl ?_); refine ow_box HO rfl (N := 4) rfl #[.int .i64 0, .int .i64 0, .int .u32 0, .slice none 0 0] 50 ?hr rfl ?_; (case hr => first | (go_simp; done) | (go_simp; rfl)); clear HO HF; intro g4 w1 HO; have HF := HO.out.facts; simp only [OwnsM.Facts, and_true] at HF) | ((with_reducible refine gate_store (p := 4) rfl ?_); (first | refine ow_put HO rfl rfl 0 rfl (ty := 50) rfl _ rfl rfl (by kernel_rfl) rfl rfl ?_); clear HO HF; intro w1 HO; simp only [LsB, LsC, LsA] at HO; have HF := HO.out.facts; simp only [OwnsM.Facts, and_true] at HF) | ((with_reducible refine gate_callee (f := 53) rfl ?_); refine goesL_ (some 32) rfl rfl Try.func53 (by kernel_rfl) rfl #[.slice Ad d.length cd] rfl (by (try simp only [LmA, LmB, LmC]); first | done | rfl | (simp only [LdA, LtA]; rfl)) ?_; refine (castellanref7_Read.calls _ _ d r1 r2 r3 r4 _ (HO.out.oldm hr hb.out (fun v hv x e => by subst e; simp at hv)) hc AR.out).mono ?_; rintro e w1 ⟨v1, rfl, h1, hb1⟩; obtain ⟨Ay, cy, rfl⟩ := Kd.R_slice h1; refine ⟨_, rfl, ?_⟩; replace HO := Aside0.mk (HO.out.call1 hb1 h1); clear hb1 h1; clear HF; have HF := HO.out.facts; simp only [OwnsM.Facts, and_true] at HF) | ((with_reducible refine gate_dst (N := 6) rfl ?_); refine ow_box HO rfl (N := 6) rfl #[.int .i64 0, .int .i64 0, .int .u32 0, .slice none 0 0] 50 ?hr rfl ?_; (case hr => first | (go_simp; done) | (go_simp; rfl)); clear HO HF; intro g6 w1 HO; have HF := HO.out.facts; simp only [OwnsM.Facts, and_true] at HF) | ((with_reducible refine gate_store (p := 6) rfl ?_); (first | refine ow_put HO rfl rfl 0 rfl (ty := 50) rfl _ rfl rfl (by kernel_rfl) rfl rfl ?_); clear HO HF; intro w1 HO; simp only [LsB, LsC, LsA] at HO; have HF := HO.out.facts; simp only [OwnsM.Facts, and_true] at HF))
   have HO1_ := Aside0.mk HO.out.drew; clear HO HF; have HO := HO1_; clear HO1_; refine start_ (n := 12) (S := fun w' => w'.cell? ⟨g6, 0, none⟩ = some (.int .i64 r1) ∧ w'.cell? ⟨g6, 1, none⟩ = some (.int .i64 r2)) (ds := [11]) (bm 12 0) (by kernel_rfl) rfl rfl ⟨(HO.out.cell 0 0 rfl rfl), (HO.out.cell 0 1 rfl rfl)⟩ (fun hHeld => ?_); refine with_tabW castellanref8_message.tab6 castellanref8_message.bits6 (fun HT_ HW_ => ?_)
   generalize w1.drew = w1 at HO hHeld ⊢; refine pure_ (i := 0) (N := some 33) (v := ?_) (a' := ?_) (bm 12 1) rfl rfl (any_of HT_.out (by kernel_rfl)) (fun _ _ _ h => h) (Or.inl ⟨by rfl, ?_⟩) ?_ ?_; rotate_left
   ·intro w'; go_simp; with_reducible rfl
   rotate_left
   ·simp only [Act.put, LsA, LsB, LsC, i64_w, i32_w]; rfl
   refine pure_ (i := 1) (N := some 34) (v := ?_) (a' := ?_) (bm 12 3) rfl rfl (any_of HT_.out (by kernel_rfl)) (fun _ _ _ h => h) (Or.inl ⟨by rfl, ?_⟩) ?_ ?_; rotate_left
   ·intro w'; go_simp; with_reducible rfl
   rotate_left
   ·simp only [Act.put, LsA, LsB, LsC, i64_w, i32_w]; rfl
   refine pure_ (i := 2) (N := some 35) (v := ?_) (a' := ?_) (bm 12 7) rfl rfl (any_of HT_.out (by kernel_rfl)) (fun _ _ _ h => h) (Or.inl ⟨by rfl, ?_⟩) ?_ ?_; rotate_left
   ·intro w'; go_simp; with_reducible rfl
   rotate_left
   ·simp only [Act.put, LsA, LsB, LsC, i64_w, i32_w]; rfl
   refine pure_ (i := 4) (N := some 37) (v := ?_) (a' := ?_) (bm 12 23) rfl rfl (any_of HT_.out (by kernel_rfl)) (fun _ _ _ h => h) (Or.inl ⟨by rfl, ?_⟩) ?_ ?_; rotate_left
   ·intro w'; go_simp; with_reducible rfl
   rotate_left
   ·simp only [Act.put, LsA, LsB, LsC, i64_w, i32_w]; rfl
   refine take_ (i := 3) (N := some 36) (v := ?_) (a' := ?_) (bm 12 31) rfl rfl (take_ofW HT_.out HW_.out (by kernel_rfl)) (fun _ _ _ h => h) (Or.inl ⟨by rfl, ?_⟩) hHeld ?_ ?_; rotate_left
   ·rintro w' ⟨s0, s1⟩; go_simp; with_reducible rfl
   rotate_left
   ·simp only [Act.put, LsA, LsB, LsC, i64_w, i32_w]; rfl
   refine pure_ (i := 6) (N := some 39) (v := ?_) (a' := ?_) (bm 12 95) rfl rfl (any_of HT_.out (by kernel_rfl)) (fun _ _ _ h => h) (Or.inl ⟨by rfl, ?_⟩) ?_ ?_; rotate_left
   ·intro w'; go_simp; with_reducible rfl
   rotate_left
   ·simp only [Act.put, LsA, LsB, LsC, i64_w, i32_w]; rfl
   refine pure_ (i := 7) (N := some 40) (v := ?_) (a' := ?_) (bm 12 223) rfl rfl (any_of HT_.out (by kernel_rfl)) (fun _ _ _ h => h) (Or.inl ⟨by rfl, ?_⟩) ?_ ?_; rotate_left
   ·intro w'; go_simp; with_reducible rfl
   rotate_left
   ·simp only [Act.put, LsA, LsB, LsC, i64_w, i32_w]; rfl
   refine take_ (i := 5) (N := some 38) (v := ?_) (a' := ?_) (bm 12 255) rfl rfl (take_ofW HT_.out HW_.out (by kernel_rfl)) (fun _ _ _ h => h) (Or.inl ⟨by rfl, ?_⟩) hHeld ?_ ?_; rotate_left
   ·rintro w' ⟨s0, s1⟩; go_simp; with_reducible rfl
   rotate_left
   ·simp only [Act.put, LsA, LsB, LsC, i64_w, i32_w]; rfl
   refine one_ (i := 8) (N := none) (bm 12 511) rfl rfl (one_of HT_.out (by kernel_rfl)) (by decide) (fun K hK => ?_); have HF := HO.out.facts; simp only [OwnsM.Facts, and_true] at HF
   refine ow_putc_step HO (by rfl) rfl 2 rfl 15 ?_ ?hr (fun w1 HO1_ => ?_); (case hr => first | (go_simp; done) | (go_simp; rfl))
   clear HO; have HO := HO1_; clear HO1_; simp only [LsB, LsC, LsA] at HO; clear HF; refine hK.out _ _ ⟨(HO.out.cell 0 0 rfl rfl), (HO.out.cell 0 1 rfl rfl)⟩ (fun hHeld => ?_); clear hK K; refine pure_ (i := 9) (N := some 41) (v := ?_) (a' := ?_) (bm 12 1023) rfl rfl (any_of HT_.out (by kernel_rfl)) (fun _ _ _ h => h) (Or.inl ⟨by rfl, ?_⟩) ?_ ?_; rotate_left
   ·intro w'; go_simp; with_reducible rfl
   rotate_left
   ·simp only [Act.put, LsA, LsB, LsC, i64_w, i32_w]; rfl
   refine pure_ (i := 10) (N := some 42) (v := ?_) (a' := ?_) (bm 12 2047) rfl rfl (any_of HT_.out (by kernel_rfl)) (fun _ _ _ h => h) (Or.inl ⟨by rfl, ?_⟩) ?_ ?_; rotate_left
   ·intro w'; go_simp; with_reducible rfl
   rotate_left
   ·simp only [Act.put, LsA, LsB, LsC, i64_w, i32_w]; rfl
   refine last_ (i := 11) (N := none) (bm 12 4095) rfl rfl (one_of HT_.out (by kernel_rfl)) (by decide) (fun K hK => ?_); have HF := HO.out.facts; simp only [OwnsM.Facts, and_true] at HF
   refine ow_putc_step HO (by rfl) rfl 2 rfl 16 ?_ ?hr (fun w1 HO1_ => ?_); (case hr => first | (go_simp; done) | (go_simp; rfl))
   clear HO; have HO := HO1_; clear HO1_; simp only [LsB, LsC, LsA] at HO; clear HF; refine hK.out _ _ ?_; clear hK K; refine done_ (done_of HT_.out (by kernel_rfl)) ?_; have H := HH.out; clear HH; have HF := HO.out.facts; simp only [OwnsM.Facts, and_true] at HF
   cases q
   ·rw [if_neg Bool.false_ne_true] at H; cases bd
    ·rw [if_neg Bool.false_ne_true] at H; simp only [Option.some.injEq, Prod.mk.injEq] at H; obtain ⟨rfl, rfl, rfl, rfl, rfl⟩ := H
     go_wp2_with (first | ((with_reducible refine gate_callee (f := 93) rfl ?_); refine goesL_ (some 45) rfl rfl Try.func93 (by kernel_rfl) rfl #[.int .i64 r1] rfl (by (try simp only [LmA, LmB, LmC]); first | done | rfl | (simp only [LdA, LtA]; rfl)) ?_; refine (castellanref7_Query.calls r1 _ _ AQ.out).mono ?_; rintro e w1 ⟨rfl, hd_⟩; refine ⟨_, rfl, ?_⟩; replace HO := Aside0.mk (HO.out.drawn hd_); clear hd_; clear HF; have HF := HO.out.facts; simp only [OwnsM.Facts, and_true] at HF) | ((with_reducible refine gate_callee (f := 94) rfl ?_); refine goesL_ (some 62) rfl rfl Try.func94 (by kernel_rfl) rfl #[.int .i64 r1] rfl (by (try simp only [LmA, LmB, LmC]); first | done | rfl | (simp only [LdA, LtA]; rfl)) ?_; refine (castellanref7_Bad.calls r1 _ _ AB.out).mono ?_; rintro e w1 ⟨rfl, hd_⟩; refine ⟨_, rfl, ?_⟩; replace HO := Aside0.mk (HO.out.drawn hd_); clear hd_; clear HF; have HF := HO.out.facts; simp only [OwnsM.Facts, and_true] at HF))
     go_ret; exact ⟨none, rfl, HO.out.turned 2 rfl, rfl⟩
    ·rw [if_pos rfl] at H; obtain ⟨key, A_, H⟩ := Option.bind_eq_some_iff.mp H; have AI := Aside0.mk A_; clear A_; simp only [Option.some.injEq, Prod.mk.injEq] at H; obtain ⟨rfl, rfl, rfl, rfl, rfl⟩ := H
     cases key with
     | none =>
      go_wp2_with (first | ((with_reducible refine gate_callee (f := 93) rfl ?_); refine goesL_ (some 45) rfl rfl Try.func93 (by kernel_rfl) rfl #[.int .i64 r1] rfl (by (try simp only [LmA, LmB, LmC]); first | done | rfl | (simp only [LdA, LtA]; rfl)) ?_; refine (castellanref7_Query.calls r1 _ _ AQ.out).mono ?_; rintro e w1 ⟨rfl, hd_⟩; refine ⟨_, rfl, ?_⟩; replace HO := Aside0.mk (HO.out.drawn hd_); clear hd_; clear HF; have HF := HO.out.facts; simp only [OwnsM.Facts, and_true] at HF) | ((with_reducible refine gate_callee (f := 94) rfl ?_); refine goesL_ (some 62) rfl rfl Try.func94 (by kernel_rfl) rfl #[.int .i64 r1] rfl (by (try simp only [LmA, LmB, LmC]); first | done | rfl | (simp only [LdA, LtA]; rfl)) ?_; refine (castellanref7_Bad.calls r1 _ _ AB.out).mono ?_; rintro e w1 ⟨rfl, hd_⟩; refine ⟨_, rfl, ?_⟩; replace HO := Aside0.mk (HO.out.drawn hd_); clear hd_; clear HF; have HF := HO.out.facts; simp only [OwnsM.Facts, and_true] at HF) | ((with_reducible refine gate_callee (f := 95) rfl ?_); refine goesL_ (some 66) rfl rfl Try.func95 (by kernel_rfl) rfl #[.slice Ay r4.length cy] rfl (by (try simp only [LmA, LmB, LmC]); first | done | rfl | (simp only [LdA, LtA]; rfl)) ?_; refine (castellanref8_inner.calls _ _ r4 none _ (HO.out.rd 0 rfl) (HO.out.cap 0 rfl) AI.out).mono ?_; rintro e w1 ⟨vi, rfl, hk, hb1⟩; refine ⟨_, rfl, ?_⟩; obtain rfl : vi = none := hk; replace HO := Aside0.mk (HO.out.step hb1); clear hb1; clear HF; have HF := HO.out.facts; simp only [OwnsM.Facts, and_true] at HF) | ((with_reducible refine gate_store (p := 68) rfl ?_); (first | (refine ow_putc HO rfl rfl 2 rfl 17 ?_ ?hr ?_; (case hr => first | (go_simp; done) | (go_simp; rfl)))); clear HO HF; intro w1 HO; simp only [LsB, LsC, LsA] at HO; have HF := HO.out.facts; simp only [OwnsM.Facts, and_true] at HF))
      go_ret; exact ⟨none, rfl, HO.out.turned 2 rfl, rfl⟩
     | some key =>
      go_wp2_with (first | ((with_reducible refine gate_callee (f := 93) rfl ?_); refine goesL_ (some 45) rfl rfl Try.func93 (by kernel_rfl) rfl #[.int .i64 r1] rfl (by (try simp only [LmA, LmB, LmC]); first | done | rfl | (simp only [LdA, LtA]; rfl)) ?_; refine (castellanref7_Query.calls r1 _ _ AQ.out).mono ?_; rintro e w1 ⟨rfl, hd_⟩; refine ⟨_, rfl, ?_⟩; replace HO := Aside0.mk (HO.out.drawn hd_); clear hd_; clear HF; have HF := HO.out.facts; simp only [OwnsM.Facts, and_true] at HF) | ((with_reducible refine gate_callee (f := 94) rfl ?_); refine goesL_ (some 62) rfl rfl Try.func94 (by kernel_rfl) rfl #[.int .i64 r1] rfl (by (try simp only [LmA, LmB, LmC]); first | done | rfl | (simp only [LdA, LtA]; rfl)) ?_; refine (castellanref7_Bad.calls r1 _ _ AB.out).mono ?_; rintro e w1 ⟨rfl, hd_⟩; refine ⟨_, rfl, ?_⟩; replace HO := Aside0.mk (HO.out.drawn hd_); clear hd_; clear HF; have HF := HO.out.facts; simp only [OwnsM.Facts, and_true] at HF) | ((with_reducible refine gate_callee (f := 95) rfl ?_); refine goesL_ (some 66) rfl rfl Try.func95 (by kernel_rfl) rfl #[.slice Ay r4.length cy] rfl (by (try simp only [LmA, LmB, LmC]); first | done | rfl | (simp only [LdA, LtA]; rfl)) ?_; refine (castellanref8_inner.calls _ _ r4 (some key) _ (HO.out.rd 0 rfl) (HO.out.cap 0 rfl) AI.out).mono ?_; rintro e w1 ⟨vi, rfl, hk, hb1⟩; refine ⟨_, rfl, ?_⟩; obtain ⟨gk, rfl, hge, hbk⟩ := hk; have hgk := Aside0.mk (Nat.le_trans HO.out.size hge); replace HO := Aside0.mk (HO.out.stepnew hb1 hge hbk (by decide)); clear hb1 hge hbk; clear HF; have HF := HO.out.facts; simp only [OwnsM.Facts, and_true] at HF) | ((with_reducible refine gate_store (p := 68) rfl ?_); (first | (refine ow_putc HO rfl rfl 3 rfl 17 ?_ ?hr ?_; (case hr => first | (go_simp; done) | (go_simp; rfl)))); clear HO HF; intro w1 HO; simp only [LsB, LsC, LsA] at HO; have HF := HO.out.facts; simp only [OwnsM.Facts, and_true] at HF))
      go_ret; exact ⟨some ⟨gk, 0, none⟩, rfl, HO.out.turned 3 rfl, ⟨gk, rfl, hgk.out, HO.out.at_ 0 rfl⟩⟩
   ·rw [if_pos rfl] at H; cases bd
    ·rw [if_neg Bool.false_ne_true] at H; simp only [Option.some.injEq, Prod.mk.injEq] at H; obtain ⟨rfl, rfl, rfl, rfl, rfl⟩ := H
     go_upto_region 8 with (first | ((with_reducible refine gate_callee (f := 93) rfl ?_); refine goesL_ (some 45) rfl rfl Try.func93 (by kernel_rfl) rfl #[.int .i64 r1] rfl (by (try simp only [LmA, LmB, LmC]); first | done | rfl | (simp only [LdA, LtA]; rfl)) ?_; refine (castellanref7_Query.calls r1 _ _ AQ.out).mono ?_; rintro e w1 ⟨rfl, hd_⟩; refine ⟨_, rfl, ?_⟩; replace HO := Aside0.mk (HO.out.drawn hd_); clear hd_; clear HF; have HF := HO.out.facts; simp only [OwnsM.Facts, and_true] at HF))
     have HO1_ := Aside0.mk HO.out.drew; clear HO HF; have HO := HO1_; clear HO1_; refine start_ (n := 16) (S := fun w' => w'.cell? ⟨g6, 2, none⟩ = some (.int .u32 r3)) (ds := [15]) (bm 16 0) (by kernel_rfl) rfl rfl (HO.out.cell 0 2 rfl rfl) (fun hHeld => ?_); refine with_tabW castellanref8_message.tab8 castellanref8_message.bits8 (fun HT_ HW_ => ?_)
     generalize w1.drew = w1 at HO hHeld ⊢; refine pure_ (i := 0) (N := some 46) (v := ?_) (a' := ?_) (bm 16 1) rfl rfl (any_of HT_.out (by kernel_rfl)) (fun _ _ _ h => h) (Or.inl ⟨by rfl, ?_⟩) ?_ ?_; rotate_left
     ·intro w'; go_simp; with_reducible rfl
     rotate_left
     ·simp only [Act.put, LsA, LsB, LsC, i64_w, i32_w]; rfl
     refine pure_ (i := 1) (N := some 47) (v := ?_) (a' := ?_) (bm 16 3) rfl rfl (any_of HT_.out (by kernel_rfl)) (fun _ _ _ h => h) (Or.inl ⟨by rfl, ?_⟩) ?_ ?_; rotate_left
     ·intro w'; go_simp; with_reducible rfl
     rotate_left
     ·simp only [Act.put, LsA, LsB, LsC, i64_w, i32_w]; rfl
     refine pure_ (i := 2) (N := some 48) (v := ?_) (a' := ?_) (bm 16 7) rfl rfl (any_of HT_.out (by kernel_rfl)) (fun _ _ _ h => h) (Or.inl ⟨by rfl, ?_⟩) ?_ ?_; rotate_left
     ·intro w'; go_simp; with_reducible rfl
     rotate_left
     ·simp only [Act.put, LsA, LsB, LsC, i64_w, i32_w]; rfl
     refine pure_ (i := 6) (N := some 52) (v := ?_) (a' := ?_) (bm 16 71) rfl rfl (any_of HT_.out (by kernel_rfl)) (fun _ _ _ h => h) (Or.inl ⟨by rfl, ?_⟩) ?_ ?_; rotate_left
     ·intro w'; go_simp; with_reducible rfl
     rotate_left
     ·simp only [Act.put, LsA, LsB, LsC, i64_w, i32_w]; rfl
     refine take_ (i := 3) (N := some 49) (v := ?_) (a' := ?_) (bm 16 79) rfl rfl (take_ofW HT_.out HW_.out (by kernel_rfl)) (fun _ _ _ h => h) (Or.inl ⟨by rfl, ?_⟩) hHeld ?_ ?_; rotate_left
     ·intro w' s0; go_simp; with_reducible rfl
     rotate_left
     ·simp only [Act.put, LsA, LsB, LsC, i64_w, i32_w]; rfl
     refine pure_ (i := 4) (N := some 50) (v := ?_) (a' := ?_) (bm 16 95) rfl rfl (any_of HT_.out (by kernel_rfl)) (fun _ _ _ h => h) (Or.inl ⟨by rfl, ?_⟩) ?_ ?_; rotate_left
     ·intro w'; go_simp; with_reducible rfl
     rotate_left
     ·simp only [Act.put, LsA, LsB, LsC, i64_w, i32_w]; rfl
     refine pure_ (i := 5) (N := some 51) (v := ?_) (a' := ?_) (bm 16 127) rfl rfl (any_of HT_.out (by kernel_rfl)) (fun _ _ _ h => h) (Or.inl ⟨by rfl, ?_⟩) ?_ ?_; rotate_left
     ·intro w'; go_simp; with_reducible rfl
     rotate_left
     ·simp only [Act.put, LsA, LsB, LsC, i64_w, i32_w]; rfl
     refine pure_ (i := 10) (N := some 56) (v := ?_) (a' := ?_) (bm 16 1151) rfl rfl (any_of HT_.out (by kernel_rfl)) (fun _ _ _ h => h) (Or.inl ⟨by rfl, ?_⟩) ?_ ?_; rotate_left
     ·intro w'; go_simp; with_reducible rfl
     rotate_left
     ·simp only [Act.put, LsA, LsB, LsC, i64_w, i32_w]; rfl
     refine pure_ (i := 11) (N := some 57) (v := ?_) (a' := ?_) (bm 16 3199) rfl rfl (any_of HT_.out (by kernel_rfl)) (fun _ _ _ h => h) (Or.inl ⟨by rfl, ?_⟩) ?_ ?_; rotate_left
     ·intro w'; go_simp; with_reducible rfl
     rotate_left
     ·simp only [Act.put, LsA, LsB, LsC, i64_w, i32_w]; rfl
     refine take_ (i := 7) (N := some 53) (v := ?_) (a' := ?_) (bm 16 3327) rfl rfl (take_ofW HT_.out HW_.out (by kernel_rfl)) (fun _ _ _ h => h) (Or.inl ⟨by rfl, ?_⟩) hHeld ?_ ?_; rotate_left
     ·intro w' s0; go_simp; with_reducible rfl
     rotate_left
     ·simp only [Act.put, LsA, LsB, LsC, i64_w, i32_w]; rfl
     refine pure_ (i := 8) (N := some 54) (v := ?_) (a' := ?_) (bm 16 3583) rfl rfl (any_of HT_.out (by kernel_rfl)) (fun _ _ _ h => h) (Or.inl ⟨by rfl, ?_⟩) ?_ ?_; rotate_left
     ·intro w'; go_simp; with_reducible rfl
     rotate_left
     ·simp only [Act.put, LsA, LsB, LsC, i64_w, i32_w]; rfl
     refine pure_ (i := 9) (N := some 55) (v := ?_) (a' := ?_) (bm 16 4095) rfl rfl (any_of HT_.out (by kernel_rfl)) (fun _ _ _ h => h) (Or.inl ⟨by rfl, ?_⟩) ?_ ?_; rotate_left
     ·intro w'; go_simp; with_reducible rfl
     rotate_left
     ·simp only [Act.put, LsA, LsB, LsC, i64_w, i32_w]; rfl
     refine one_ (i := 12) (N := none) (bm 16 8191) rfl rfl (one_of HT_.out (by kernel_rfl)) (by decide) (fun K hK => ?_); have HF := HO.out.facts; simp only [OwnsM.Facts, and_true] at HF
     refine ow_putc_step HO (by rfl) rfl 2 rfl 12 ?_ ?hr (fun w1 HO1_ => ?_); (case hr => first | (go_simp; done) | (go_simp; rfl))
     clear HO; have HO := HO1_; clear HO1_; simp only [LsB, LsC, LsA] at HO; clear HF; refine hK.out _ _ (HO.out.cell 0 2 rfl rfl) (fun hHeld => ?_); clear hK K; refine pure_ (i := 13) (N := some 58) (v := ?_) (a' := ?_) (bm 16 16383) rfl rfl (any_of HT_.out (by kernel_rfl)) (fun _ _ _ h => h) (Or.inl ⟨by rfl, ?_⟩) ?_ ?_; rotate_left
     ·intro w'; go_simp; with_reducible rfl
     rotate_left
     ·simp only [Act.put, LsA, LsB, LsC, i64_w, i32_w]; rfl
     refine pure_ (i := 14) (N := some 59) (v := ?_) (a' := ?_) (bm 16 32767) rfl rfl (any_of HT_.out (by kernel_rfl)) (fun _ _ _ h => h) (Or.inl ⟨by rfl, ?_⟩) ?_ ?_; rotate_left
     ·intro w'; go_simp; with_reducible rfl
     rotate_left
     ·simp only [Act.put, LsA, LsB, LsC, i64_w, i32_w]; rfl
     refine last_ (i := 15) (N := none) (bm 16 65535) rfl rfl (one_of HT_.out (by kernel_rfl)) (by decide) (fun K hK => ?_); have HF := HO.out.facts; simp only [OwnsM.Facts, and_true] at HF
     refine ow_putc_step HO (by rfl) rfl 2 rfl 13 ?_ ?hr (fun w1 HO1_ => ?_); (case hr => first | (go_simp; done) | (go_simp; rfl))
     clear HO; have HO := HO1_; clear HO1_; simp only [LsB, LsC, LsA] at HO; clear HF; refine hK.out _ _ ?_; clear hK K; refine done_ (done_of HT_.out (by kernel_rfl)) ?_; have HF := HO.out.facts; simp only [OwnsM.Facts, and_true] at HF
     go_wp2_with (first | ((with_reducible refine gate_callee (f := 94) rfl ?_); refine goesL_ (some 62) rfl rfl Try.func94 (by kernel_rfl) rfl #[.int .i64 r1] rfl (by (try simp only [LmA, LmB, LmC]); first | done | rfl | (simp only [LdA, LtA]; rfl)) ?_; refine (castellanref7_Bad.calls r1 _ _ AB.out).mono ?_; rintro e w1 ⟨rfl, hd_⟩; refine ⟨_, rfl, ?_⟩; replace HO := Aside0.mk (HO.out.drawn hd_); clear hd_; clear HF; have HF := HO.out.facts; simp only [OwnsM.Facts, and_true] at HF))
     go_ret
     first | exact ⟨none, rfl, HO.out.turned 2 rfl, rfl⟩ | exact ⟨rfl, none, HO.out.turned 2 rfl, rfl⟩
    ·rw [if_pos rfl] at H; exact absurd H (by simp)
  ·rw [if_neg c2] at H; have c2b0 : (m5 == 0) = false := beq_eq_false_iff_ne.mpr c2; have c2b1 : (m5 != 0) = true := bne_iff_ne.mpr c2; clear c2
   by_cases c3 : cl = 0
   ·rw [if_pos c3] at H; have c3b0 : (cl == 0) = true := beq_iff_eq.mpr c3; have c3b1 : (cl != 0) = false := bne_eq_false_iff_eq.mpr c3; have C3 := Aside0.mk c3; clear c3; simp only [Option.some.injEq, Prod.mk.injEq] at H; obtain ⟨rfl, rfl, rfl, rfl, rfl⟩ := H; go_enter Try.func79, Try.ntmps79
    go_wp2_with (first | ((with_reducible refine gate_callee (f := 29) rfl ?_); refine goesL_ (some 14) rfl rfl Try.func29 (by kernel_rfl) rfl #[.slice Ad d.length cd] rfl (by (try simp only [LmA, LmB, LmC]); first | done | rfl | (simp only [LdA, LtA]; rfl)) ?_; refine (castellanref7_Parse.calls k _ _ d m1 m2 m3 m4 m5 _ (HO.out.oldm hr hb.out (fun v hv x e => by subst e; simp at hv)) hc AM.out).mono ?_; rintro e w1 ⟨v1, rfl, h1, hb1⟩; obtain ⟨Ax, cx, rfl⟩ := Kd.R_slice h1; refine ⟨_, rfl, ?_⟩; replace HO := Aside0.mk (HO.out.call1 hb1 h1); clear hb1 h1; clear HF; have HF := HO.out.facts; simp only [OwnsM.Facts, and_true] at HF) | ((with_reducible refine gate_dst (N := 4) rfl ?_); refine ow_box HO rfl (N := 4) rfl #[.int .i64 0, .int .i64 0, .int .u32 0, .slice none 0 0] 50 ?hr rfl ?_; (case hr => first | (go_simp; done) | (go_simp; rfl)); clear HO HF; intro g4 w1 HO; have HF := HO.out.facts; simp only [OwnsM.Facts, and_true] at HF) | ((with_reducible refine gate_store (p := 4) rfl ?_); (first | refine ow_put HO rfl rfl 0 rfl (ty := 50) rfl _ rfl rfl (by kernel_rfl) rfl rfl ?_); clear HO HF; intro w1 HO; simp only [LsB, LsC, LsA] at HO; have HF := HO.out.facts; simp only [OwnsM.Facts, and_true] at HF))
    go_ret; exact ⟨none, rfl, HO.out.turned 1 rfl, rfl⟩
   ·rw [if_neg c3] at H; have c3b0 : (cl == 0) = false := beq_eq_false_iff_ne.mpr c3; have c3b1 : (cl != 0) = true := bne_iff_ne.mpr c3; clear c3; unfold castellanref8_message.g at H; obtain ⟨⟨r1, r2, r3, r4⟩, A_, H⟩ := Option.bind_eq_some_iff.mp H; have AR := Aside0.mk A_; clear A_
    try dsimp only at H
    obtain ⟨q, A_, H⟩ := Option.bind_eq_some_iff.mp H; have AQ := Aside0.mk A_; clear A_; obtain ⟨bd, A_, H⟩ := Option.bind_eq_some_iff.mp H; have AB := Aside0.mk A_; clear A_
    try dsimp only at H
    have HH := Aside0.mk H; clear H; go_enter Try.func79, Try.ntmps79
    go_upto_region 6 with (first | ((with_reducible refine gate_callee (f := 29) rfl ?_); refine goesL_ (some 14) rfl rfl Try.func29 (by kernel_rfl) rfl #[.slice Ad d.length cd] rfl (by (try simp only [LmA, LmB, LmC]); first | done | rfl | (simp only [LdA, LtA]; rfl)) ?_; refine (castellanref7_Parse.calls k _ _ d m1 m2 m3 m4 m5 _ (HO.out.oldm hr hb.out (fun v hv x e => by subst e; simp at hv)) hc AM.out).mono ?_; rintro e w1 ⟨v1, rfl, h1, hb1⟩; obtain ⟨Ax, cx, rfl⟩ := Kd.R_slice h1; refine ⟨_, rfl, ?_⟩; replace HO := Aside0.mk (HO.out.call1 hb1 h1); clear hb1 h1; clear HF; have HF := HO.out.facts; simp only [OwnsM.Facts, and_true] at HF) | ((with_reducible refine gate_dst (N := 4) rfl ?_); refine ow_box HO rfl (N := 4) rfl #[.int .i64 0, .int .i64 0, .int .u32 0, .slice none 0 0] 50 ?hr rfl ?_; (case hr => first | (go_simp; done) | (go_simp; rfl)); clear HO HF; intro g4 w1 HO; have HF := HO.out.facts; simp only [OwnsM.Facts, and_true] at HF) | ((with_reducible refine gate_store (p := 4) rfl ?_); (first | refine ow_put HO rfl rfl 0 rfl (ty := 50) rfl _ rfl rfl (by kernel_rfl) rfl rfl ?_); clear HO HF; intro w1 HO; simp only [LsB, LsC, LsA] at HO; have HF := HO.out.facts; simp only [OwnsM.Facts, and_true] at HF) | ((with_reducible refine gate_callee (f := 53) rfl ?_); refine goesL_ (some 32) rfl rfl Try.func53 (by kernel_rfl) rfl #[.slice Ad d.length cd] rfl (by (try simp only [LmA, LmB, LmC]); first | done | rfl | (simp only [LdA, LtA]; rfl)) ?_; refine (castellanref7_Read.calls _ _ d r1 r2 r3 r4 _ (HO.out.oldm hr hb.out (fun v hv x e => by subst e; simp at hv)) hc AR.out).mono ?_; rintro e w1 ⟨v1, rfl, h1, hb1⟩; obtain ⟨Ay, cy, rfl⟩ := Kd.R_slice h1; refine ⟨_, rfl, ?_⟩; replace HO := Aside0.mk (HO.out.call1 hb1 h1); clear hb1 h1; clear HF; have HF := HO.out.facts; simp only [OwnsM.Facts, and_true] at HF) | ((with_reducible refine gate_dst (N := 6) rfl ?_); refine ow_box HO rfl (N := 6) rfl #[.int .i64 0, .int .i64 0, .int .u32 0, .slice none 0 0] 50 ?hr rfl ?_; (case hr => first | (go_simp; done) | (go_simp; rfl)); clear HO HF; intro g6 w1 HO; have HF := HO.out.facts; simp only [OwnsM.Facts, and_true] at HF) | ((with_reducible refine gate_store (p := 6) rfl ?_); (first | refine ow_put HO rfl rfl 0 rfl (ty := 50) rfl _ rfl rfl (by kernel_rfl) rfl rfl ?_); clear HO HF; intro w1 HO; simp only [LsB, LsC, LsA] at HO; have HF := HO.out.facts; simp only [OwnsM.Facts, and_true] at HF))
    have HO1_ := Aside0.mk HO.out.drew; clear HO HF; have HO := HO1_; clear HO1_; refine start_ (n := 12) (S := fun w' => w'.cell? ⟨g6, 0, none⟩ = some (.int .i64 r1) ∧ w'.cell? ⟨g6, 1, none⟩ = some (.int .i64 r2)) (ds := [11]) (bm 12 0) (by kernel_rfl) rfl rfl ⟨(HO.out.cell 0 0 rfl rfl), (HO.out.cell 0 1 rfl rfl)⟩ (fun hHeld => ?_); refine with_tabW castellanref8_message.tab6 castellanref8_message.bits6 (fun HT_ HW_ => ?_)
    generalize w1.drew = w1 at HO hHeld ⊢; refine pure_ (i := 0) (N := some 33) (v := ?_) (a' := ?_) (bm 12 1) rfl rfl (any_of HT_.out (by kernel_rfl)) (fun _ _ _ h => h) (Or.inl ⟨by rfl, ?_⟩) ?_ ?_; rotate_left
    ·intro w'; go_simp; with_reducible rfl
    rotate_left
    ·simp only [Act.put, LsA, LsB, LsC, i64_w, i32_w]; rfl
    refine pure_ (i := 1) (N := some 34) (v := ?_) (a' := ?_) (bm 12 3) rfl rfl (any_of HT_.out (by kernel_rfl)) (fun _ _ _ h => h) (Or.inl ⟨by rfl, ?_⟩) ?_ ?_; rotate_left
    ·intro w'; go_simp; with_reducible rfl
    rotate_left
    ·simp only [Act.put, LsA, LsB, LsC, i64_w, i32_w]; rfl
    refine pure_ (i := 2) (N := some 35) (v := ?_) (a' := ?_) (bm 12 7) rfl rfl (any_of HT_.out (by kernel_rfl)) (fun _ _ _ h => h) (Or.inl ⟨by rfl, ?_⟩) ?_ ?_; rotate_left
    ·intro w'; go_simp; with_reducible rfl
    rotate_left
    ·simp only [Act.put, LsA, LsB, LsC, i64_w, i32_w]; rfl
    refine pure_ (i := 4) (N := some 37) (v := ?_) (a' := ?_) (bm 12 23) rfl rfl (any_of HT_.out (by kernel_rfl)) (fun _ _ _ h => h) (Or.inl ⟨by rfl, ?_⟩) ?_ ?_; rotate_left
    ·intro w'; go_simp; with_reducible rfl
    rotate_left
    ·simp only [Act.put, LsA, LsB, LsC, i64_w, i32_w]; rfl
    refine take_ (i := 3) (N := some 36) (v := ?_) (a' := ?_) (bm 12 31) rfl rfl (take_ofW HT_.out HW_.out (by kernel_rfl)) (fun _ _ _ h => h) (Or.inl ⟨by rfl, ?_⟩) hHeld ?_ ?_; rotate_left
    ·rintro w' ⟨s0, s1⟩; go_simp; with_reducible rfl
    rotate_left
    ·simp only [Act.put, LsA, LsB, LsC, i64_w, i32_w]; rfl
    refine pure_ (i := 6) (N := some 39) (v := ?_) (a' := ?_) (bm 12 95) rfl rfl (any_of HT_.out (by kernel_rfl)) (fun _ _ _ h => h) (Or.inl ⟨by rfl, ?_⟩) ?_ ?_; rotate_left
    ·intro w'; go_simp; with_reducible rfl
    rotate_left
    ·simp only [Act.put, LsA, LsB, LsC, i64_w, i32_w]; rfl
    refine pure_ (i := 7) (N := some 40) (v := ?_) (a' := ?_) (bm 12 223) rfl rfl (any_of HT_.out (by kernel_rfl)) (fun _ _ _ h => h) (Or.inl ⟨by rfl, ?_⟩) ?_ ?_; rotate_left
    ·intro w'; go_simp; with_reducible rfl
    rotate_left
    ·simp only [Act.put, LsA, LsB, LsC, i64_w, i32_w]; rfl
    refine take_ (i := 5) (N := some 38) (v := ?_) (a' := ?_) (bm 12 255) rfl rfl (take_ofW HT_.out HW_.out (by kernel_rfl)) (fun _ _ _ h => h) (Or.inl ⟨by rfl, ?_⟩) hHeld ?_ ?_; rotate_left
    ·rintro w' ⟨s0, s1⟩; go_simp; with_reducible rfl
    rotate_left
    ·simp only [Act.put, LsA, LsB, LsC, i64_w, i32_w]; rfl
    refine one_ (i := 8) (N := none) (bm 12 511) rfl rfl (one_of HT_.out (by kernel_rfl)) (by decide) (fun K hK => ?_); have HF := HO.out.facts; simp only [OwnsM.Facts, and_true] at HF
    refine ow_putc_step HO (by rfl) rfl 2 rfl 15 ?_ ?hr (fun w1 HO1_ => ?_); (case hr => first | (go_simp; done) | (go_simp; rfl))
    clear HO; have HO := HO1_; clear HO1_; simp only [LsB, LsC, LsA] at HO; clear HF; refine hK.out _ _ ⟨(HO.out.cell 0 0 rfl rfl), (HO.out.cell 0 1 rfl rfl)⟩ (fun hHeld => ?_); clear hK K; refine pure_ (i := 9) (N := some 41) (v := ?_) (a' := ?_) (bm 12 1023) rfl rfl (any_of HT_.out (by kernel_rfl)) (fun _ _ _ h => h) (Or.inl ⟨by rfl, ?_⟩) ?_ ?_; rotate_left
    ·intro w'; go_simp; with_reducible rfl
    rotate_left
    ·simp only [Act.put, LsA, LsB, LsC, i64_w, i32_w]; rfl
    refine pure_ (i := 10) (N := some 42) (v := ?_) (a' := ?_) (bm 12 2047) rfl rfl (any_of HT_.out (by kernel_rfl)) (fun _ _ _ h => h) (Or.inl ⟨by rfl, ?_⟩) ?_ ?_; rotate_left
    ·intro w'; go_simp; with_reducible rfl
    rotate_left
    ·simp only [Act.put, LsA, LsB, LsC, i64_w, i32_w]; rfl
    refine last_ (i := 11) (N := none) (bm 12 4095) rfl rfl (one_of HT_.out (by kernel_rfl)) (by decide) (fun K hK => ?_); have HF := HO.out.facts; simp only [OwnsM.Facts, and_true] at HF
    refine ow_putc_step HO (by rfl) rfl 2 rfl 16 ?_ ?hr (fun w1 HO1_ => ?_); (case hr => first | (go_simp; done) | (go_simp; rfl))
    clear HO; have HO := HO1_; clear HO1_; simp only [LsB, LsC, LsA] at HO; clear HF; refine hK.out _ _ ?_; clear hK K; refine done_ (done_of HT_.out (by kernel_rfl)) ?_; have H := HH.out; clear HH; have HF := HO.out.facts; simp only [OwnsM.Facts, and_true] at HF
    cases q
    ·rw [if_neg Bool.false_ne_true] at H; cases bd
     ·rw [if_neg Bool.false_ne_true] at H; simp only [Option.some.injEq, Prod.mk.injEq] at H; obtain ⟨rfl, rfl, rfl, rfl, rfl⟩ := H
      go_wp2_with (first | ((with_reducible refine gate_callee (f := 93) rfl ?_); refine goesL_ (some 45) rfl rfl Try.func93 (by kernel_rfl) rfl #[.int .i64 r1] rfl (by (try simp only [LmA, LmB, LmC]); first | done | rfl | (simp only [LdA, LtA]; rfl)) ?_; refine (castellanref7_Query.calls r1 _ _ AQ.out).mono ?_; rintro e w1 ⟨rfl, hd_⟩; refine ⟨_, rfl, ?_⟩; replace HO := Aside0.mk (HO.out.drawn hd_); clear hd_; clear HF; have HF := HO.out.facts; simp only [OwnsM.Facts, and_true] at HF) | ((with_reducible refine gate_callee (f := 94) rfl ?_); refine goesL_ (some 62) rfl rfl Try.func94 (by kernel_rfl) rfl #[.int .i64 r1] rfl (by (try simp only [LmA, LmB, LmC]); first | done | rfl | (simp only [LdA, LtA]; rfl)) ?_; refine (castellanref7_Bad.calls r1 _ _ AB.out).mono ?_; rintro e w1 ⟨rfl, hd_⟩; refine ⟨_, rfl, ?_⟩; replace HO := Aside0.mk (HO.out.drawn hd_); clear hd_; clear HF; have HF := HO.out.facts; simp only [OwnsM.Facts, and_true] at HF))
      go_ret; exact ⟨none, rfl, HO.out.turned 2 rfl, rfl⟩
     ·rw [if_pos rfl] at H; obtain ⟨key, A_, H⟩ := Option.bind_eq_some_iff.mp H; have AI := Aside0.mk A_; clear A_; simp only [Option.some.injEq, Prod.mk.injEq] at H; obtain ⟨rfl, rfl, rfl, rfl, rfl⟩ := H
      cases key with
      | none =>
       go_wp2_with (first | ((with_reducible refine gate_callee (f := 93) rfl ?_); refine goesL_ (some 45) rfl rfl Try.func93 (by kernel_rfl) rfl #[.int .i64 r1] rfl (by (try simp only [LmA, LmB, LmC]); first | done | rfl | (simp only [LdA, LtA]; rfl)) ?_; refine (castellanref7_Query.calls r1 _ _ AQ.out).mono ?_; rintro e w1 ⟨rfl, hd_⟩; refine ⟨_, rfl, ?_⟩; replace HO := Aside0.mk (HO.out.drawn hd_); clear hd_; clear HF; have HF := HO.out.facts; simp only [OwnsM.Facts, and_true] at HF) | ((with_reducible refine gate_callee (f := 94) rfl ?_); refine goesL_ (some 62) rfl rfl Try.func94 (by kernel_rfl) rfl #[.int .i64 r1] rfl (by (try simp only [LmA, LmB, LmC]); first | done | rfl | (simp only [LdA, LtA]; rfl)) ?_; refine (castellanref7_Bad.calls r1 _ _ AB.out).mono ?_; rintro e w1 ⟨rfl, hd_⟩; refine ⟨_, rfl, ?_⟩; replace HO := Aside0.mk (HO.out.drawn hd_); clear hd_; clear HF; have HF := HO.out.facts; simp only [OwnsM.Facts, and_true] at HF) | ((with_reducible refine gate_callee (f := 95) rfl ?_); refine goesL_ (some 66) rfl rfl Try.func95 (by kernel_rfl) rfl #[.slice Ay r4.length cy] rfl (by (try simp only [LmA, LmB, LmC]); first | done | rfl | (simp only [LdA, LtA]; rfl)) ?_; refine (castellanref8_inner.calls _ _ r4 none _ (HO.out.rd 0 rfl) (HO.out.cap 0 rfl) AI.out).mono ?_; rintro e w1 ⟨vi, rfl, hk, hb1⟩; refine ⟨_, rfl, ?_⟩; obtain rfl : vi = none := hk; replace HO := Aside0.mk (HO.out.step hb1); clear hb1; clear HF; have HF := HO.out.facts; simp only [OwnsM.Facts, and_true] at HF) | ((with_reducible refine gate_store (p := 68) rfl ?_); (first | (refine ow_putc HO rfl rfl 2 rfl 17 ?_ ?hr ?_; (case hr => first | (go_simp; done) | (go_simp; rfl)))); clear HO HF; intro w1 HO; simp only [LsB, LsC, LsA] at HO; have HF := HO.out.facts; simp only [OwnsM.Facts, and_true] at HF))
       go_ret; exact ⟨none, rfl, HO.out.turned 2 rfl, rfl⟩
      | some key =>
       go_wp2_with (first | ((with_reducible refine gate_callee (f := 93) rfl ?_); refine goesL_ (some 45) rfl rfl Try.func93 (by kernel_rfl) rfl #[.int .i64 r1] rfl (by (try simp only [LmA, LmB, LmC]); first | done | rfl | (simp only [LdA, LtA]; rfl)) ?_; refine (castellanref7_Query.calls r1 _ _ AQ.out).mono ?_; rintro e w1 ⟨rfl, hd_⟩; refine ⟨_, rfl, ?_⟩; replace HO := Aside0.mk (HO.out.drawn hd_); clear hd_; clear HF; have HF := HO.out.facts; simp only [OwnsM.Facts, and_true] at HF) | ((with_reducible refine gate_callee (f := 94) rfl ?_); refine goesL_ (some 62) rfl rfl Try.func94 (by kernel_rfl) rfl #[.int .i64 r1] rfl (by (try simp only [LmA, LmB, LmC]); first | done | rfl | (simp only [LdA, LtA]; rfl)) ?_; refine (castellanref7_Bad.calls r1 _ _ AB.out).mono ?_; rintro e w1 ⟨rfl, hd_⟩; refine ⟨_, rfl, ?_⟩; replace HO := Aside0.mk (HO.out.drawn hd_); clear hd_; clear HF; have HF := HO.out.facts; simp only [OwnsM.Facts, and_true] at HF) | ((with_reducible refine gate_callee (f := 95) rfl ?_); refine goesL_ (some 66) rfl rfl Try.func95 (by kernel_rfl) rfl #[.slice Ay r4.length cy] rfl (by (try simp only [LmA, LmB, LmC]); first | done | rfl | (simp only [LdA, LtA]; rfl)) ?_; refine (castellanref8_inner.calls _ _ r4 (some key) _ (HO.out.rd 0 rfl) (HO.out.cap 0 rfl) AI.out).mono ?_; rintro e w1 ⟨vi, rfl, hk, hb1⟩; refine ⟨_, rfl, ?_⟩; obtain ⟨gk, rfl, hge, hbk⟩ := hk; have hgk := Aside0.mk (Nat.le_trans HO.out.size hge); replace HO := Aside0.mk (HO.out.stepnew hb1 hge hbk (by decide)); clear hb1 hge hbk; clear HF; have HF := HO.out.facts; simp only [OwnsM.Facts, and_true] at HF) | ((with_reducible refine gate_store (p := 68) rfl ?_); (first | (refine ow_putc HO rfl rfl 3 rfl 17 ?_ ?hr ?_; (case hr => first | (go_simp; done) | (go_simp; rfl)))); clear HO HF; intro w1 HO; simp only [LsB, LsC, LsA] at HO; have HF := HO.out.facts; simp only [OwnsM.Facts, and_true] at HF))
       go_ret; exact ⟨some ⟨gk, 0, none⟩, rfl, HO.out.turned 3 rfl, ⟨gk, rfl, hgk.out, HO.out.at_ 0 rfl⟩⟩
    ·rw [if_pos rfl] at H; cases bd
     ·rw [if_neg Bool.false_ne_true] at H; simp only [Option.some.injEq, Prod.mk.injEq] at H; obtain ⟨rfl, rfl, rfl, rfl, rfl⟩ := H
      go_upto_region 8 with (first | ((with_reducible refine gate_callee (f := 93) rfl ?_); refine goesL_ (some 45) rfl rfl Try.func93 (by kernel_rfl) rfl #[.int .i64 r1] rfl (by (try simp only [LmA, LmB, LmC]); first | done | rfl | (simp only [LdA, LtA]; rfl)) ?_; refine (castellanref7_Query.calls r1 _ _ AQ.out).mono ?_; rintro e w1 ⟨rfl, hd_⟩; refine ⟨_, rfl, ?_⟩; replace HO := Aside0.mk (HO.out.drawn hd_); clear hd_; clear HF; have HF := HO.out.facts; simp only [OwnsM.Facts, and_true] at HF))
      have HO1_ := Aside0.mk HO.out.drew; clear HO HF; have HO := HO1_; clear HO1_; refine start_ (n := 16) (S := fun w' => w'.cell? ⟨g6, 2, none⟩ = some (.int .u32 r3)) (ds := [15]) (bm 16 0) (by kernel_rfl) rfl rfl (HO.out.cell 0 2 rfl rfl) (fun hHeld => ?_); refine with_tabW castellanref8_message.tab8 castellanref8_message.bits8 (fun HT_ HW_ => ?_)
      generalize w1.drew = w1 at HO hHeld ⊢; refine pure_ (i := 0) (N := some 46) (v := ?_) (a' := ?_) (bm 16 1) rfl rfl (any_of HT_.out (by kernel_rfl)) (fun _ _ _ h => h) (Or.inl ⟨by rfl, ?_⟩) ?_ ?_; rotate_left
      ·intro w'; go_simp; with_reducible rfl
      rotate_left
      ·simp only [Act.put, LsA, LsB, LsC, i64_w, i32_w]; rfl
      refine pure_ (i := 1) (N := some 47) (v := ?_) (a' := ?_) (bm 16 3) rfl rfl (any_of HT_.out (by kernel_rfl)) (fun _ _ _ h => h) (Or.inl ⟨by rfl, ?_⟩) ?_ ?_; rotate_left
      ·intro w'; go_simp; with_reducible rfl
      rotate_left
      ·simp only [Act.put, LsA, LsB, LsC, i64_w, i32_w]; rfl
      refine pure_ (i := 2) (N := some 48) (v := ?_) (a' := ?_) (bm 16 7) rfl rfl (any_of HT_.out (by kernel_rfl)) (fun _ _ _ h => h) (Or.inl ⟨by rfl, ?_⟩) ?_ ?_; rotate_left
      ·intro w'; go_simp; with_reducible rfl
      rotate_left
      ·simp only [Act.put, LsA, LsB, LsC, i64_w, i32_w]; rfl
      refine pure_ (i := 6) (N := some 52) (v := ?_) (a' := ?_) (bm 16 71) rfl rfl (any_of HT_.out (by kernel_rfl)) (fun _ _ _ h => h) (Or.inl ⟨by rfl, ?_⟩) ?_ ?_; rotate_left
      ·intro w'; go_simp; with_reducible rfl
      rotate_left
      ·simp only [Act.put, LsA, LsB, LsC, i64_w, i32_w]; rfl
      refine take_ (i := 3) (N := some 49) (v := ?_) (a' := ?_) (bm 16 79) rfl rfl (take_ofW HT_.out HW_.out (by kernel_rfl)) (fun _ _ _ h => h) (Or.inl ⟨by rfl, ?_⟩) hHeld ?_ ?_; rotate_left
      ·intro w' s0; go_simp; with_reducible rfl
      rotate_left
      ·simp only [Act.put, LsA, LsB, LsC, i64_w, i32_w]; rfl
      refine pure_ (i := 4) (N := some 50) (v := ?_) (a' := ?_) (bm 16 95) rfl rfl (any_of HT_.out (by kernel_rfl)) (fun _ _ _ h => h) (Or.inl ⟨by rfl, ?_⟩) ?_ ?_; rotate_left
      ·intro w'; go_simp; with_reducible rfl
      rotate_left
      ·simp only [Act.put, LsA, LsB, LsC, i64_w, i32_w]; rfl
      refine pure_ (i := 5) (N := some 51) (v := ?_) (a' := ?_) (bm 16 127) rfl rfl (any_of HT_.out (by kernel_rfl)) (fun _ _ _ h => h) (Or.inl ⟨by rfl, ?_⟩) ?_ ?_; rotate_left
      ·intro w'; go_simp; with_reducible rfl
      rotate_left
      ·simp only [Act.put, LsA, LsB, LsC, i64_w, i32_w]; rfl
      refine pure_ (i := 10) (N := some 56) (v := ?_) (a' := ?_) (bm 16 1151) rfl rfl (any_of HT_.out (by kernel_rfl)) (fun _ _ _ h => h) (Or.inl ⟨by rfl, ?_⟩) ?_ ?_; rotate_left
      ·intro w'; go_simp; with_reducible rfl
      rotate_left
      ·simp only [Act.put, LsA, LsB, LsC, i64_w, i32_w]; rfl
      refine pure_ (i := 11) (N := some 57) (v := ?_) (a' := ?_) (bm 16 3199) rfl rfl (any_of HT_.out (by kernel_rfl)) (fun _ _ _ h => h) (Or.inl ⟨by rfl, ?_⟩) ?_ ?_; rotate_left
      ·intro w'; go_simp; with_reducible rfl
      rotate_left
      ·simp only [Act.put, LsA, LsB, LsC, i64_w, i32_w]; rfl
      refine take_ (i := 7) (N := some 53) (v := ?_) (a' := ?_) (bm 16 3327) rfl rfl (take_ofW HT_.out HW_.out (by kernel_rfl)) (fun _ _ _ h => h) (Or.inl ⟨by rfl, ?_⟩) hHeld ?_ ?_; rotate_left
      ·intro w' s0; go_simp; with_reducible rfl
      rotate_left
      ·simp only [Act.put, LsA, LsB, LsC, i64_w, i32_w]; rfl
      refine pure_ (i := 8) (N := some 54) (v := ?_) (a' := ?_) (bm 16 3583) rfl rfl (any_of HT_.out (by kernel_rfl)) (fun _ _ _ h => h) (Or.inl ⟨by rfl, ?_⟩) ?_ ?_; rotate_left
      ·intro w'; go_simp; with_reducible rfl
      rotate_left
      ·simp only [Act.put, LsA, LsB, LsC, i64_w, i32_w]; rfl
      refine pure_ (i := 9) (N := some 55) (v := ?_) (a' := ?_) (bm 16 4095) rfl rfl (any_of HT_.out (by kernel_rfl)) (fun _ _ _ h => h) (Or.inl ⟨by rfl, ?_⟩) ?_ ?_; rotate_left
      ·intro w'; go_simp; with_reducible rfl
      rotate_left
      ·simp only [Act.put, LsA, LsB, LsC, i64_w, i32_w]; rfl
      refine one_ (i := 12) (N := none) (bm 16 8191) rfl rfl (one_of HT_.out (by kernel_rfl)) (by decide) (fun K hK => ?_); have HF := HO.out.facts; simp only [OwnsM.Facts, and_true] at HF
      refine ow_putc_step HO (by rfl) rfl 2 rfl 12 ?_ ?hr (fun w1 HO1_ => ?_); (case hr => first | (go_simp; done) | (go_simp; rfl))
      clear HO; have HO := HO1_; clear HO1_; simp only [LsB, LsC, LsA] at HO; clear HF; refine hK.out _ _ (HO.out.cell 0 2 rfl rfl) (fun hHeld => ?_); clear hK K; refine pure_ (i := 13) (N := some 58) (v := ?_) (a' := ?_) (bm 16 16383) rfl rfl (any_of HT_.out (by kernel_rfl)) (fun _ _ _ h => h) (Or.inl ⟨by rfl, ?_⟩) ?_ ?_; rotate_left
      ·intro w'; go_simp; with_reducible rfl
      rotate_left
      ·simp only [Act.put, LsA, LsB, LsC, i64_w, i32_w]; rfl
      refine pure_ (i := 14) (N := some 59) (v := ?_) (a' := ?_) (bm 16 32767) rfl rfl (any_of HT_.out (by kernel_rfl)) (fun _ _ _ h => h) (Or.inl ⟨by rfl, ?_⟩) ?_ ?_; rotate_left
      ·intro w'; go_simp; with_reducible rfl
      rotate_left
      ·simp only [Act.put, LsA, LsB, LsC, i64_w, i32_w]; rfl
      refine last_ (i := 15) (N := none) (bm 16 65535) rfl rfl (one_of HT_.out (by kernel_rfl)) (by decide) (fun K hK => ?_); have HF := HO.out.facts; simp only [OwnsM.Facts, and_true] at HF
      refine ow_putc_step HO (by rfl) rfl 2 rfl 13 ?_ ?hr (fun w1 HO1_ => ?_); (case hr => first | (go_simp; done) | (go_simp; rfl))
      clear HO; have HO := HO1_; clear HO1_; simp only [LsB, LsC, LsA] at HO; clear HF; refine hK.out _ _ ?_; clear hK K; refine done_ (done_of HT_.out (by kernel_rfl)) ?_; have HF := HO.out.facts; simp only [OwnsM.Facts, and_true] at HF
      go_wp2_with (first | ((with_reducible refine gate_callee (f := 94) rfl ?_); refine goesL_ (some 62) rfl rfl Try.func94 (by kernel_rfl) rfl #[.int .i64 r1] rfl (by (try simp only [LmA, LmB, LmC]); first | done | rfl | (simp only [LdA, LtA]; rfl)) ?_; refine (castellanref7_Bad.calls r1 _ _ AB.out).mono ?_; rintro e w1 ⟨rfl, hd_⟩; refine ⟨_, rfl, ?_⟩; replace HO := Aside0.mk (HO.out.drawn hd_); clear hd_; clear HF; have HF := HO.out.facts; simp only [OwnsM.Facts, and_true] at HF))
      go_ret
      first | exact ⟨none, rfl, HO.out.turned 2 rfl, rfl⟩ | exact ⟨rfl, none, HO.out.turned 2 rfl, rfl⟩
     ·rw [if_pos rfl] at H; exact absurd H (by simp)
def castellanref8_inside.f (k : Nat) (p cl : Int) (d : List Int) : Option (Int × Int × Int × Int × Int × Option K5 × Int) :=
 if p = 6 then ((castellanref5_Parse.f d).bind fun s => some (s.1, s.2.1, s.2.2.2.2.1, 0, 0, none, s.2.2.2.2.2.2.2.2.2))
 else if p = 17 then ((castellanref6_Parse.f d).bind fun u => if (d.length : Int) < 8 then some (0, 0, 0, 0, 0, none, if u.2.2.2 < 2 then 2 else u.2.2.2) else if u.2.2.2 = 0 then ((castellanref1_Get16.f d 0).bind fun a => (castellanref1_Get16.f d 2).bind fun b => some (a, b, 0, 0, 0, none, 0)) else if cl = 0 then some (0, 0, 0, 0, 0, none, if u.2.2.2 < 2 then 2 else u.2.2.2) else ((castellanref1_Get16.f d 0).bind fun a => (castellanref1_Get16.f d 2).bind fun b => some (a, b, 0, 0, 0, none, 0)))
 else if p = 1 then ((castellanref8_message.f k cl d).bind fun m => some (m.1, m.1, 0, m.2.1, m.2.2.1, m.2.2.2.1, m.2.2.2.2))
 else some (0, 0, 0, 0, 0, none, 0)
def castellanref8_inside.T5 : Bool × List (List Nat × List Nat) := (true, [([], []), ([], []), ([], []), ([], []), ([3], [3]), ([], []), ([5], [5]), ([], []), ([7], [7]), ([0, 0, 3, 4], [0]), ([9, 0, 3, 4], [9]), ([10, 4, 0, 3, 4], [4, 10]), ([1, 0, 1, 3, 4, 5, 6, 9, 10, 11], [1]), ([12, 0, 1, 3, 4, 5, 6, 9, 10, 11], [12]), ([13, 6, 11, 0, 1, 3, 4, 5, 6, 9, 10, 11], [6, 13]), ([2, 0, 1, 2, 3, 4, 5, 6, 7, 8, 9, 10, 11, 12, 13, 14], [2]), ([15, 0, 1, 2, 3, 4, 5, 6, 7, 8, 9, 10, 11, 12, 13, 14], [15]), ([16, 8, 14, 0, 1, 2, 3, 4, 5, 6, 7, 8, 9, 10, 11, 12, 13, 14], [8, 16])])
def castellanref8_inside.B5 : List Nat := [0, 0, 0, 0, 8, 0, 32, 0, 128, 25, 537, 1561, 3707, 7803, 15995, 32767, 65535, 131071]
theorem castellanref8_inside.tab5 : rtab .any (opsOf Try.f51 5) = castellanref8_inside.T5 := by kernel_rfl
theorem castellanref8_inside.bits5 : waitsOk castellanref8_inside.T5.2 castellanref8_inside.B5 = true := by kernel_rfl
set_option maxHeartbeats 8000000 in
set_option maxRecDepth 100000 in
theorem castellanref8_inside.hand (k g : Nat) (t1 t2 : Int) (t3 t4 : Bool) (t5 t6 t7 t8 t9 : Int) (Ao : Option Addr) (no co : Nat) (Ad : Option Addr) (cd : Nat) (d : List Int) (cl : Int) (a b fl ty code : Int) (key : Option K5) (e : Int) (w : World) (hb0 : w.heap[g]? = some (.cells #[.int .i64 t1, .int .i64 t2, .bool t3, .bool t4, .int .i64 t5, .int .i64 t6, .int .i64 t7, .int .u32 t8, .int .u32 t9, .slice Ao no co, .slice Ad d.length cd, .int .i64 cl, .int .i64 0, .int .i64 0, .int .i64 0, .int .i64 0, .int .i64 0, .pointer none] 29 (0, 0))) (hr : Kd.C (Kd.int .u8) w Ad d.length d) (hc : d.length ≤ cd) (h : castellanref8_inside.f k t7 cl d = some (a, b, fl, ty, code, key, e)) :
  Calls Try.prog 51 #[.pointer (some ⟨g, 0, none⟩)] w fun e' w' => ∃ vi, e' = .returned (.int .i64 e) ∧ Turned w w' g #[.int .i64 t1, .int .i64 t2, .bool t3, .bool t4, .int .i64 t5, .int .i64 t6, .int .i64 t7, .int .u32 t8, .int .u32 t9, .slice Ao no co, .slice Ad d.length cd, .int .i64 cl, .int .i64 a, .int .i64 b, .int .i64 fl, .int .i64 ty, .int .i64 code, .pointer vi] 29 ∧ KeyAt w.heap.size w' 35 vi key := by
 have HO := Aside0.mk (OwnsM.one hb0 rfl); have hb := Aside0.mk hb0; clear hb0; have HF := HO.out.facts; simp only [OwnsM.Facts, and_true] at HF
 unfold castellanref8_inside.f at h; have H := h; clear h
 by_cases c1 : t7 = 6
 ·rw [if_pos c1] at H; have c1b0 : (t7 == 6) = true := beq_iff_eq.mpr c1; have c1b1 : (t7 != 6) = false := bne_eq_false_iff_eq.mpr c1; clear c1; obtain ⟨⟨s1, s2, s3, s4, s5, s6, s7, s8, s9, s10⟩, A_, H⟩ := Option.bind_eq_some_iff.mp H; have AS := Aside0.mk A_; clear A_; simp only [Option.some.injEq, Prod.mk.injEq] at H; obtain ⟨rfl, rfl, rfl, rfl, rfl, rfl, rfl⟩ := H; go_enter Try.func51, Try.ntmps51
  go_upto_region 5 with (first | ((with_reducible refine gate_callee (f := 77) rfl ?_); refine goesL_ (some 22) rfl rfl Try.func77 (by kernel_rfl) rfl #[.slice Ad d.length cd] rfl (by (try simp only [LmA, LmB, LmC]); first | done | rfl | (simp only [LdA, LtA]; rfl)) ?_; refine (castellanref5_Parse.calls _ _ d s1 s2 s3 s4 s5 s6 s7 s8 s9 s10 _ (HO.out.oldm hr hb.out (fun v hv x e => by subst e; simp at hv)) hc AS.out).mono ?_; rintro e w1 ⟨v1, v2, rfl, h1, h2, hb1⟩; obtain ⟨Ax, cx, rfl⟩ := Kd.R_slice h1; obtain ⟨Ay, cy, rfl⟩ := Kd.R_slice h2; refine ⟨_, rfl, ?_⟩; replace HO := Aside0.mk (HO.out.call2 hb1 h1 h2); clear hb1 h1 h2; clear HF; have HF := HO.out.facts; simp only [OwnsM.Facts, and_true] at HF) | ((with_reducible refine gate_dst (N := 4) rfl ?_); refine ow_box HO rfl (N := 4) rfl #[.int .i64 0, .int .i64 0, .int .u32 0, .int .u32 0, .int .i64 0, .int .i64 0, .int .i64 0, .slice none 0 0, .slice none 0 0] 59 ?hr rfl ?_; (case hr => first | (go_simp; done) | (go_simp; rfl)); clear HO HF; intro g4 w1 HO; have HF := HO.out.facts; simp only [OwnsM.Facts, and_true] at HF) | ((with_reducible refine gate_store (p := 4) rfl ?_); (first | refine ow_put HO rfl rfl 0 rfl (ty := 59) rfl _ rfl rfl (by kernel_rfl) rfl rfl ?_); clear HO HF; intro w1 HO; simp only [LsB, LsC, LsA] at HO; have HF := HO.out.facts; simp only [OwnsM.Facts, and_true] at HF))
  have HO1_ := Aside0.mk HO.out.drew; clear HO HF; have HO := HO1_; clear HO1_; refine start_ (n := 18) (S := fun w' => w'.cell? ⟨g4, 0, none⟩ = some (.int .i64 s1) ∧ w'.cell? ⟨g4, 1, none⟩ = some (.int .i64 s2) ∧ w'.cell? ⟨g4, 4, none⟩ = some (.int .i64 s5)) (ds := [17]) (bm 18 0) (by kernel_rfl) rfl rfl ⟨(HO.out.cell 0 0 rfl rfl), (HO.out.cell 0 1 rfl rfl), (HO.out.cell 0 4 rfl rfl)⟩ (fun hHeld => ?_); refine with_tabW castellanref8_inside.tab5 castellanref8_inside.bits5 (fun HT_ HW_ => ?_)
  generalize w1.drew = w1 at HO hHeld ⊢; refine pure_ (i := 0) (N := some 25) (v := ?_) (a' := ?_) (bm 18 1) rfl rfl (any_of HT_.out (by kernel_rfl)) (fun _ _ _ h => h) (Or.inl ⟨by rfl, ?_⟩) ?_ ?_; rotate_left
  ·intro w'; go_simp; with_reducible rfl
  rotate_left
  ·simp only [Act.put, LsA, LsB, LsC, i64_w, i32_w]; rfl
  refine pure_ (i := 1) (N := some 26) (v := ?_) (a' := ?_) (bm 18 3) rfl rfl (any_of HT_.out (by kernel_rfl)) (fun _ _ _ h => h) (Or.inl ⟨by rfl, ?_⟩) ?_ ?_; rotate_left
  ·intro w'; go_simp; with_reducible rfl
  rotate_left
  ·simp only [Act.put, LsA, LsB, LsC, i64_w, i32_w]; rfl
  refine pure_ (i := 2) (N := some 27) (v := ?_) (a' := ?_) (bm 18 7) rfl rfl (any_of HT_.out (by kernel_rfl)) (fun _ _ _ h => h) (Or.inl ⟨by rfl, ?_⟩) ?_ ?_; rotate_left
  ·intro w'; go_simp; with_reducible rfl
  rotate_left
  ·simp only [Act.put, LsA, LsB, LsC, i64_w, i32_w]; rfl
  refine pure_ (i := 3) (N := some 28) (v := ?_) (a' := ?_) (bm 18 15) rfl rfl (any_of HT_.out (by kernel_rfl)) (fun _ _ _ h => h) (Or.inl ⟨by rfl, ?_⟩) ?_ ?_; rotate_left
  ·intro w'; go_simp; with_reducible rfl
  rotate_left
  ·simp only [Act.put, LsA, LsB, LsC, i64_w, i32_w]; rfl
  refine pure_ (i := 5) (N := some 30) (v := ?_) (a' := ?_) (bm 18 47) rfl rfl (any_of HT_.out (by kernel_rfl)) (fun _ _ _ h => h) (Or.inl ⟨by rfl, ?_⟩) ?_ ?_; rotate_left
  ·intro w'; go_simp; with_reducible rfl
  rotate_left
  ·simp only [Act.put, LsA, LsB, LsC, i64_w, i32_w]; rfl
  refine pure_ (i := 7) (N := some 32) (v := ?_) (a' := ?_) (bm 18 175) rfl rfl (any_of HT_.out (by kernel_rfl)) (fun _ _ _ h => h) (Or.inl ⟨by rfl, ?_⟩) ?_ ?_; rotate_left
  ·intro w'; go_simp; with_reducible rfl
  rotate_left
  ·simp only [Act.put, LsA, LsB, LsC, i64_w, i32_w]; rfl
  refine take_ (i := 4) (N := some 29) (v := ?_) (a' := ?_) (bm 18 191) rfl rfl (take_ofW HT_.out HW_.out (by kernel_rfl)) (fun _ _ _ h => h) (Or.inl ⟨by rfl, ?_⟩) hHeld ?_ ?_; rotate_left
  ·rintro w' ⟨s0, s1, s2⟩; go_simp; with_reducible rfl
  rotate_left
  ·simp only [Act.put, LsA, LsB, LsC, i64_w, i32_w]; rfl
  refine pure_ (i := 9) (N := some 34) (v := ?_) (a' := ?_) (bm 18 703) rfl rfl (any_of HT_.out (by kernel_rfl)) (fun _ _ _ h => h) (Or.inl ⟨by rfl, ?_⟩) ?_ ?_; rotate_left
  ·intro w'; go_simp; with_reducible rfl
  rotate_left
  ·simp only [Act.put, LsA, LsB, LsC, i64_w, i32_w]; rfl
  refine pure_ (i := 10) (N := some 35) (v := ?_) (a' := ?_) (bm 18 1727) rfl rfl (any_of HT_.out (by kernel_rfl)) (fun _ _ _ h => h) (Or.inl ⟨by rfl, ?_⟩) ?_ ?_; rotate_left
  ·intro w'; go_simp; with_reducible rfl
  rotate_left
  ·simp only [Act.put, LsA, LsB, LsC, i64_w, i32_w]; rfl
  refine take_ (i := 6) (N := some 31) (v := ?_) (a' := ?_) (bm 18 1791) rfl rfl (take_ofW HT_.out HW_.out (by kernel_rfl)) (fun _ _ _ h => h) (Or.inl ⟨by rfl, ?_⟩) hHeld ?_ ?_; rotate_left
  ·rintro w' ⟨s0, s1, s2⟩; go_simp; with_reducible rfl
  rotate_left
  ·simp only [Act.put, LsA, LsB, LsC, i64_w, i32_w]; rfl
  refine take_ (i := 8) (N := some 33) (v := ?_) (a' := ?_) (bm 18 2047) rfl rfl (take_ofW HT_.out HW_.out (by kernel_rfl)) (fun _ _ _ h => h) (Or.inl ⟨by rfl, ?_⟩) hHeld ?_ ?_; rotate_left
  ·rintro w' ⟨s0, s1, s2⟩; go_simp; with_reducible rfl
  rotate_left
  ·simp only [Act.put, LsA, LsB, LsC, i64_w, i32_w]; rfl
  refine one_ (i := 11) (N := none) (bm 18 4095) rfl rfl (one_of HT_.out (by kernel_rfl)) (by decide) (fun K hK => ?_); have HF := HO.out.facts; simp only [OwnsM.Facts, and_true] at HF
  refine ow_putc_step HO (by rfl) rfl 1 rfl 12 ?_ ?hr (fun w1 HO1_ => ?_); (case hr => first | (go_simp; done) | (go_simp; rfl))
  clear HO; have HO := HO1_; clear HO1_; simp only [LsB, LsC, LsA] at HO; clear HF; refine hK.out _ _ ⟨(HO.out.cell 0 0 rfl rfl), (HO.out.cell 0 1 rfl rfl), (HO.out.cell 0 4 rfl rfl)⟩ (fun hHeld => ?_); clear hK K; refine pure_ (i := 12) (N := some 36) (v := ?_) (a' := ?_) (bm 18 8191) rfl rfl (any_of HT_.out (by kernel_rfl)) (fun _ _ _ h => h) (Or.inl ⟨by rfl, ?_⟩) ?_ ?_; rotate_left
  ·intro w'; go_simp; with_reducible rfl
  rotate_left
  ·simp only [Act.put, LsA, LsB, LsC, i64_w, i32_w]; rfl
  refine pure_ (i := 13) (N := some 37) (v := ?_) (a' := ?_) (bm 18 16383) rfl rfl (any_of HT_.out (by kernel_rfl)) (fun _ _ _ h => h) (Or.inl ⟨by rfl, ?_⟩) ?_ ?_; rotate_left
  ·intro w'; go_simp; with_reducible rfl
  rotate_left
  ·simp only [Act.put, LsA, LsB, LsC, i64_w, i32_w]; rfl
  refine one_ (i := 14) (N := none) (bm 18 32767) rfl rfl (one_of HT_.out (by kernel_rfl)) (by decide) (fun K hK => ?_); have HF := HO.out.facts; simp only [OwnsM.Facts, and_true] at HF
  refine ow_putc_step HO (by rfl) rfl 1 rfl 13 ?_ ?hr (fun w1 HO1_ => ?_); (case hr => first | (go_simp; done) | (go_simp; rfl))
  clear HO; have HO := HO1_; clear HO1_; simp only [LsB, LsC, LsA] at HO; clear HF; refine hK.out _ _ ⟨(HO.out.cell 0 0 rfl rfl), (HO.out.cell 0 1 rfl rfl), (HO.out.cell 0 4 rfl rfl)⟩ (fun hHeld => ?_); clear hK K; refine pure_ (i := 15) (N := some 38) (v := ?_) (a' := ?_) (bm 18 65535) rfl rfl (any_of HT_.out (by kernel_rfl)) (fun _ _ _ h => h) (Or.inl ⟨by rfl, ?_⟩) ?_ ?_; rotate_left
  ·intro w'; go_simp; with_reducible rfl
  rotate_left
  ·simp only [Act.put, LsA, LsB, LsC, i64_w, i32_w]; rfl
  refine pure_ (i := 16) (N := some 39) (v := ?_) (a' := ?_) (bm 18 131071) rfl rfl (any_of HT_.out (by kernel_rfl)) (fun _ _ _ h => h) (Or.inl ⟨by rfl, ?_⟩) ?_ ?_; rotate_left
  ·intro w'; go_simp; with_reducible rfl
  rotate_left
  ·simp only [Act.put, LsA, LsB, LsC, i64_w, i32_w]; rfl
  refine last_ (i := 17) (N := none) (bm 18 262143) rfl rfl (one_of HT_.out (by kernel_rfl)) (by decide) (fun K hK => ?_); have HF := HO.out.facts; simp only [OwnsM.Facts, and_true] at HF
  refine ow_putc_step HO (by rfl) rfl 1 rfl 14 ?_ ?hr (fun w1 HO1_ => ?_); (case hr => first | (go_simp; done) | (go_simp; rfl))
  clear HO; have HO := HO1_; clear HO1_; simp only [LsB, LsC, LsA] at HO; clear HF; refine hK.out _ _ ?_; clear hK K; refine done_ (done_of HT_.out (by kernel_rfl)) ?_; have HF := HO.out.facts; simp only [OwnsM.Facts, and_true] at HF
  go_wp2; go_ret
  first | exact ⟨none, rfl, HO.out.turned 1 rfl, rfl⟩ | exact ⟨rfl, none, HO.out.turned 1 rfl, rfl⟩
 ·rw [if_neg c1] at H; have c1b0 : (t7 == 6) = false := beq_eq_false_iff_ne.mpr c1; have c1b1 : (t7 != 6) = true := bne_iff_ne.mpr c1; clear c1
  by_cases c2 : t7 = 17
  ·rw [if_pos c2] at H; have c2b0 : (t7 == 17) = true := beq_iff_eq.mpr c2; have c2b1 : (t7 != 17) = false := bne_eq_false_iff_eq.mpr c2; clear c2; obtain ⟨⟨u1, u2, u3, u4⟩, A_, H⟩ := Option.bind_eq_some_iff.mp H; have AU := Aside0.mk A_; clear A_
   try dsimp only at H
   by_cases c3 : (d.length : Int) < 8
   ·rw [if_pos c3] at H; have c3b0 : decide ((d.length : Int) < 8) = true := decide_eq_true c3; have c3b1 : decide (d.length < 8) = true := decide_eq_true (by omega); clear c3
    by_cases cm : u4 < 2
    ·rw [if_pos cm] at H; simp only [Option.some.injEq, Prod.mk.injEq] at H; obtain ⟨rfl, rfl, rfl, rfl, rfl, rfl, rfl⟩ := H; go_enter Try.func51, Try.ntmps51
     go_wp2_with (first | ((with_reducible refine gate_callee (f := 78) rfl ?_); refine goesL_ (some 45) rfl rfl Try.func78 (by kernel_rfl) rfl #[.slice Ad d.length cd] rfl (by (try simp only [LmA, LmB, LmC]); first | done | rfl | (simp only [LdA, LtA]; rfl)) ?_; refine (castellanref6_Parse.calls _ _ d u1 u2 u3 u4 _ (HO.out.oldm hr hb.out (fun v hv x e => by subst e; simp at hv)) hc AU.out).mono ?_; rintro e w1 ⟨v1, rfl, h1, hb1⟩; obtain ⟨Ax, cx, rfl⟩ := Kd.R_slice h1; refine ⟨_, rfl, ?_⟩; replace HO := Aside0.mk (HO.out.call1 hb1 h1); clear hb1 h1; clear HF; have HF := HO.out.facts; simp only [OwnsM.Facts, and_true] at HF) | ((with_reducible refine gate_dst (N := 6) rfl ?_); refine ow_box HO rfl (N := 6) rfl #[.int .i64 0, .int .i64 0, .slice none 0 0] 74 ?hr rfl ?_; (case hr => first | (go_simp; done) | (go_simp; rfl)); clear HO HF; intro g6 w1 HO; have HF := HO.out.facts; simp only [OwnsM.Facts, and_true] at HF) | ((with_reducible refine gate_store (p := 6) rfl ?_); (first | refine ow_put HO rfl rfl 0 rfl (ty := 74) rfl _ rfl rfl (by kernel_rfl) rfl rfl ?_); clear HO HF; intro w1 HO; simp only [LsB, LsC, LsA] at HO; have HF := HO.out.facts; simp only [OwnsM.Facts, and_true] at HF))
     go_ret
     first | exact ⟨none, rfl, HO.out.turned 1 rfl, rfl⟩ | exact ⟨rfl, none, HO.out.turned 1 rfl, rfl⟩
    ·rw [if_neg cm] at H; simp only [Option.some.injEq, Prod.mk.injEq] at H; obtain ⟨rfl, rfl, rfl, rfl, rfl, rfl, rfl⟩ := H; go_enter Try.func51, Try.ntmps51
     go_wp2_with (first | ((with_reducible refine gate_callee (f := 78) rfl ?_); refine goesL_ (some 45) rfl rfl Try.func78 (by kernel_rfl) rfl #[.slice Ad d.length cd] rfl (by (try simp only [LmA, LmB, LmC]); first | done | rfl | (simp only [LdA, LtA]; rfl)) ?_; refine (castellanref6_Parse.calls _ _ d u1 u2 u3 u4 _ (HO.out.oldm hr hb.out (fun v hv x e => by subst e; simp at hv)) hc AU.out).mono ?_; rintro e w1 ⟨v1, rfl, h1, hb1⟩; obtain ⟨Ax, cx, rfl⟩ := Kd.R_slice h1; refine ⟨_, rfl, ?_⟩; replace HO := Aside0.mk (HO.out.call1 hb1 h1); clear hb1 h1; clear HF; have HF := HO.out.facts; simp only [OwnsM.Facts, and_true] at HF) | ((with_reducible refine gate_dst (N := 6) rfl ?_); refine ow_box HO rfl (N := 6) rfl #[.int .i64 0, .int .i64 0, .slice none 0 0] 74 ?hr rfl ?_; (case hr => first | (go_simp; done) | (go_simp; rfl)); clear HO HF; intro g6 w1 HO; have HF := HO.out.facts; simp only [OwnsM.Facts, and_true] at HF) | ((with_reducible refine gate_store (p := 6) rfl ?_); (first | refine ow_put HO rfl rfl 0 rfl (ty := 74) rfl _ rfl rfl (by kernel_rfl) rfl rfl ?_); clear HO HF; intro w1 HO; simp only [LsB, LsC, LsA] at HO; have HF := HO.out.facts; simp only [OwnsM.Facts, and_true] at HF))
     go_ret
     first | exact ⟨none, rfl, HO.out.turned 1 rfl, rfl⟩ | exact ⟨rfl, none, HO.out.turned 1 rfl, rfl⟩
   ·rw [if_neg c3] at H; have c3b0 : decide ((d.length : Int) < 8) = false := decide_eq_false c3; have c3b1 : decide (d.length < 8) = false := decide_eq_false (by omega); clear c3
    by_cases c4 : u4 = 0
    ·rw [if_pos c4] at H; have c4b0 : (u4 == 0) = true := beq_iff_eq.mpr c4; have c4b1 : (u4 != 0) = false := bne_eq_false_iff_eq.mpr c4; clear c4; obtain ⟨a, A_, H⟩ := Option.bind_eq_some_iff.mp H; have AA := Aside0.mk A_; clear A_; obtain ⟨b, A_, H⟩ := Option.bind_eq_some_iff.mp H; have AB := Aside0.mk A_; clear A_; simp only [Option.some.injEq, Prod.mk.injEq] at H; obtain ⟨rfl, rfl, rfl, rfl, rfl, rfl, rfl⟩ := H; go_enter Try.func51, Try.ntmps51
     go_wp2_with (first | ((with_reducible refine gate_callee (f := 78) rfl ?_); refine goesL_ (some 45) rfl rfl Try.func78 (by kernel_rfl) rfl #[.slice Ad d.length cd] rfl (by (try simp only [LmA, LmB, LmC]); first | done | rfl | (simp only [LdA, LtA]; rfl)) ?_; refine (castellanref6_Parse.calls _ _ d u1 u2 u3 u4 _ (HO.out.oldm hr hb.out (fun v hv x e => by subst e; simp at hv)) hc AU.out).mono ?_; rintro e w1 ⟨v1, rfl, h1, hb1⟩; obtain ⟨Ax, cx, rfl⟩ := Kd.R_slice h1; refine ⟨_, rfl, ?_⟩; replace HO := Aside0.mk (HO.out.call1 hb1 h1); clear hb1 h1; clear HF; have HF := HO.out.facts; simp only [OwnsM.Facts, and_true] at HF) | ((with_reducible refine gate_dst (N := 6) rfl ?_); refine ow_box HO rfl (N := 6) rfl #[.int .i64 0, .int .i64 0, .slice none 0 0] 74 ?hr rfl ?_; (case hr => first | (go_simp; done) | (go_simp; rfl)); clear HO HF; intro g6 w1 HO; have HF := HO.out.facts; simp only [OwnsM.Facts, and_true] at HF) | ((with_reducible refine gate_store (p := 6) rfl ?_); (first | refine ow_put HO rfl rfl 0 rfl (ty := 74) rfl _ rfl rfl (by kernel_rfl) rfl rfl ?_); clear HO HF; intro w1 HO; simp only [LsB, LsC, LsA] at HO; have HF := HO.out.facts; simp only [OwnsM.Facts, and_true] at HF) | ((with_reducible refine gate_callee (f := 66) rfl ?_); refine goesL_ (some 67) rfl rfl Try.func66 (by kernel_rfl) rfl #[.slice Ad d.length cd, .int .i64 0] rfl (by (try simp only [LmA, LmB, LmC]); first | done | rfl | (simp only [LdA, LtA]; rfl)) ?_; refine (castellanref1_Get16.calls _ _ d 0 a _ (HO.out.oldm hr hb.out (fun v hv x e => by subst e; simp at hv)) hc AA.out).mono ?_; rintro e w1 ⟨rfl, hd_⟩; refine ⟨_, rfl, ?_⟩; replace HO := Aside0.mk (HO.out.drawn hd_); clear hd_; clear HF; have HF := HO.out.facts; simp only [OwnsM.Facts, and_true] at HF) | ((with_reducible refine gate_callee (f := 66) rfl ?_); refine goesL_ (some 69) rfl rfl Try.func66 (by kernel_rfl) rfl #[.slice Ad d.length cd, .int .i64 2] rfl (by (try simp only [LmA, LmB, LmC]); first | done | rfl | (simp only [LdA, LtA]; rfl)) ?_; refine (castellanref1_Get16.calls _ _ d 2 b _ (HO.out.oldm hr hb.out (fun v hv x e => by subst e; simp at hv)) hc AB.out).mono ?_; rintro e w1 ⟨rfl, hd_⟩; refine ⟨_, rfl, ?_⟩; replace HO := Aside0.mk (HO.out.drawn hd_); clear hd_; clear HF; have HF := HO.out.facts; simp only [OwnsM.Facts, and_true] at HF) | ((with_reducible refine gate_store (p := 71) rfl ?_); (first | (refine ow_putc HO rfl rfl 1 rfl 12 ?_ ?hr ?_; (case hr => first | (go_simp; done) | (go_simp; rfl)))); clear HO HF; intro w1 HO; simp only [LsB, LsC, LsA] at HO; have HF := HO.out.facts; simp only [OwnsM.Facts, and_true] at HF) | ((with_reducible refine gate_store (p := 73) rfl ?_); (first | (refine ow_putc HO rfl rfl 1 rfl 13 ?_ ?hr ?_; (case hr => first | (go_simp; done) | (go_simp; rfl)))); clear HO HF; intro w1 HO; simp only [LsB, LsC, LsA] at HO; have HF := HO.out.facts; simp only [OwnsM.Facts, and_true] at HF))
     go_ret
     first | exact ⟨none, rfl, HO.out.turned 1 rfl, rfl⟩ | exact ⟨rfl, none, HO.out.turned 1 rfl, rfl⟩
    ·rw [if_neg c4] at H; have c4b0 : (u4 == 0) = false := beq_eq_false_iff_ne.mpr c4; have c4b1 : (u4 != 0) = true := bne_iff_ne.mpr c4; clear c4
     by_cases c5 : cl = 0
     ·rw [if_pos c5] at H; have c5b0 : (cl == 0) = true := beq_iff_eq.mpr c5; have c5b1 : (cl != 0) = false := bne_eq_false_iff_eq.mpr c5; clear c5
      by_cases cm : u4 < 2
      ·rw [if_pos cm] at H; simp only [Option.some.injEq, Prod.mk.injEq] at H; obtain ⟨rfl, rfl, rfl, rfl, rfl, rfl, rfl⟩ := H; go_enter Try.func51, Try.ntmps51
       go_wp2_with (first | ((with_reducible refine gate_callee (f := 78) rfl ?_); refine goesL_ (some 45) rfl rfl Try.func78 (by kernel_rfl) rfl #[.slice Ad d.length cd] rfl (by (try simp only [LmA, LmB, LmC]); first | done | rfl | (simp only [LdA, LtA]; rfl)) ?_; refine (castellanref6_Parse.calls _ _ d u1 u2 u3 u4 _ (HO.out.oldm hr hb.out (fun v hv x e => by subst e; simp at hv)) hc AU.out).mono ?_; rintro e w1 ⟨v1, rfl, h1, hb1⟩; obtain ⟨Ax, cx, rfl⟩ := Kd.R_slice h1; refine ⟨_, rfl, ?_⟩; replace HO := Aside0.mk (HO.out.call1 hb1 h1); clear hb1 h1; clear HF; have HF := HO.out.facts; simp only [OwnsM.Facts, and_true] at HF) | ((with_reducible refine gate_dst (N := 6) rfl ?_); refine ow_box HO rfl (N := 6) rfl #[.int .i64 0, .int .i64 0, .slice none 0 0] 74 ?hr rfl ?_; (case hr => first | (go_simp; done) | (go_simp; rfl)); clear HO HF; intro g6 w1 HO; have HF := HO.out.facts; simp only [OwnsM.Facts, and_true] at HF) | ((with_reducible refine gate_store (p := 6) rfl ?_); (first | refine ow_put HO rfl rfl 0 rfl (ty := 74) rfl _ rfl rfl (by kernel_rfl) rfl rfl ?_); clear HO HF; intro w1 HO; simp only [LsB, LsC, LsA] at HO; have HF := HO.out.facts; simp only [OwnsM.Facts, and_true] at HF))
       go_ret
       first | exact ⟨none, rfl, HO.out.turned 1 rfl, rfl⟩ | exact ⟨rfl, none, HO.out.turned 1 rfl, rfl⟩
      ·rw [if_neg cm] at H; simp only [Option.some.injEq, Prod.mk.injEq] at H; obtain ⟨rfl, rfl, rfl, rfl, rfl, rfl, rfl⟩ := H; go_enter Try.func51, Try.ntmps51
       go_wp2_with (first | ((with_reducible refine gate_callee (f := 78) rfl ?_); refine goesL_ (some 45) rfl rfl Try.func78 (by kernel_rfl) rfl #[.slice Ad d.length cd] rfl (by (try simp only [LmA, LmB, LmC]); first | done | rfl | (simp only [LdA, LtA]; rfl)) ?_; refine (castellanref6_Parse.calls _ _ d u1 u2 u3 u4 _ (HO.out.oldm hr hb.out (fun v hv x e => by subst e; simp at hv)) hc AU.out).mono ?_; rintro e w1 ⟨v1, rfl, h1, hb1⟩; obtain ⟨Ax, cx, rfl⟩ := Kd.R_slice h1; refine ⟨_, rfl, ?_⟩; replace HO := Aside0.mk (HO.out.call1 hb1 h1); clear hb1 h1; clear HF; have HF := HO.out.facts; simp only [OwnsM.Facts, and_true] at HF) | ((with_reducible refine gate_dst (N := 6) rfl ?_); refine ow_box HO rfl (N := 6) rfl #[.int .i64 0, .int .i64 0, .slice none 0 0] 74 ?hr rfl ?_; (case hr => first | (go_simp; done) | (go_simp; rfl)); clear HO HF; intro g6 w1 HO; have HF := HO.out.facts; simp only [OwnsM.Facts, and_true] at HF) | ((with_reducible refine gate_store (p := 6) rfl ?_); (first | refine ow_put HO rfl rfl 0 rfl (ty := 74) rfl _ rfl rfl (by kernel_rfl) rfl rfl ?_); clear HO HF; intro w1 HO; simp only [LsB, LsC, LsA] at HO; have HF := HO.out.facts; simp only [OwnsM.Facts, and_true] at HF))
       go_ret
       first | exact ⟨none, rfl, HO.out.turned 1 rfl, rfl⟩ | exact ⟨rfl, none, HO.out.turned 1 rfl, rfl⟩
     ·rw [if_neg c5] at H; have c5b0 : (cl == 0) = false := beq_eq_false_iff_ne.mpr c5; have c5b1 : (cl != 0) = true := bne_iff_ne.mpr c5; clear c5; obtain ⟨a, A_, H⟩ := Option.bind_eq_some_iff.mp H; have AA := Aside0.mk A_; clear A_; obtain ⟨b, A_, H⟩ := Option.bind_eq_some_iff.mp H; have AB := Aside0.mk A_; clear A_; simp only [Option.some.injEq, Prod.mk.injEq] at H; obtain ⟨rfl, rfl, rfl, rfl, rfl, rfl, rfl⟩ := H; go_enter Try.func51, Try.ntmps51
      go_wp2_with (first | ((with_reducible refine gate_callee (f := 78) rfl ?_); refine goesL_ (some 45) rfl rfl Try.func78 (by kernel_rfl) rfl #[.slice Ad d.length cd] rfl (by (try simp only [LmA, LmB, LmC]); first | done | rfl | (simp only [LdA, LtA]; rfl)) ?_; refine (castellanref6_Parse.calls _ _ d u1 u2 u3 u4 _ (HO.out.oldm hr hb.out (fun v hv x e => by subst e; simp at hv)) hc AU.out).mono ?_; rintro e w1 ⟨v1, rfl, h1, hb1⟩; obtain ⟨Ax, cx, rfl⟩ := Kd.R_slice h1; refine ⟨_, rfl, ?_⟩; replace HO := Aside0.mk (HO.out.call1 hb1 h1); clear hb1 h1; clear HF; have HF := HO.out.facts; simp only [OwnsM.Facts, and_true] at HF) | ((with_reducible refine gate_dst (N := 6) rfl ?_); refine ow_box HO rfl (N := 6) rfl #[.int .i64 0, .int .i64 0, .slice none 0 0] 74 ?hr rfl ?_; (case hr => first | (go_simp; done) | (go_simp; rfl)); clear HO HF; intro g6 w1 HO; have HF := HO.out.facts; simp only [OwnsM.Facts, and_true] at HF) | ((with_reducible refine gate_store (p := 6) rfl ?_); (first | refine ow_put HO rfl rfl 0 rfl (ty := 74) rfl _ rfl rfl (by kernel_rfl) rfl rfl ?_); clear HO HF; intro w1 HO; simp only [LsB, LsC, LsA] at HO; have HF := HO.out.facts; simp only [OwnsM.Facts, and_true] at HF) | ((with_reducible refine gate_callee (f := 66) rfl ?_); refine goesL_ (some 67) rfl rfl Try.func66 (by kernel_rfl) rfl #[.slice Ad d.length cd, .int .i64 0] rfl (by (try simp only [LmA, LmB, LmC]); first | done | rfl | (simp only [LdA, LtA]; rfl)) ?_; refine (castellanref1_Get16.calls _ _ d 0 a _ (HO.out.oldm hr hb.out (fun v hv x e => by subst e; simp at hv)) hc AA.out).mono ?_; rintro e w1 ⟨rfl, hd_⟩; refine ⟨_, rfl, ?_⟩; replace HO := Aside0.mk (HO.out.drawn hd_); clear hd_; clear HF; have HF := HO.out.facts; simp only [OwnsM.Facts, and_true] at HF) | ((with_reducible refine gate_callee (f := 66) rfl ?_); refine goesL_ (some 69) rfl rfl Try.func66 (by kernel_rfl) rfl #[.slice Ad d.length cd, .int .i64 2] rfl (by (try simp only [LmA, LmB, LmC]); first | done | rfl | (simp only [LdA, LtA]; rfl)) ?_; refine (castellanref1_Get16.calls _ _ d 2 b _ (HO.out.oldm hr hb.out (fun v hv x e => by subst e; simp at hv)) hc AB.out).mono ?_; rintro e w1 ⟨rfl, hd_⟩; refine ⟨_, rfl, ?_⟩; replace HO := Aside0.mk (HO.out.drawn hd_); clear hd_; clear HF; have HF := HO.out.facts; simp only [OwnsM.Facts, and_true] at HF) | ((with_reducible refine gate_store (p := 71) rfl ?_); (first | (refine ow_putc HO rfl rfl 1 rfl 12 ?_ ?hr ?_; (case hr => first | (go_simp; done) | (go_simp; rfl)))); clear HO HF; intro w1 HO; simp only [LsB, LsC, LsA] at HO; have HF := HO.out.facts; simp only [OwnsM.Facts, and_true] at HF) | ((with_reducible refine gate_store (p := 73) rfl ?_); (first | (refine ow_putc HO rfl rfl 1 rfl 13 ?_ ?hr ?_; (case hr => first | (go_simp; done) | (go_simp; rfl)))); clear HO HF; intro w1 HO; simp only [LsB, LsC, LsA] at HO; have HF := HO.out.facts; simp only [OwnsM.Facts, and_true] at HF))
      go_ret
      first | exact ⟨none, rfl, HO.out.turned 1 rfl, rfl⟩ | exact ⟨rfl, none, HO.out.turned 1 rfl, rfl⟩
  ·rw [if_neg c2] at H; have c2b0 : (t7 == 17) = false := beq_eq_false_iff_ne.mpr c2; have c2b1 : (t7 != 17) = true := bne_iff_ne.mpr c2; clear c2
   by_cases c6 : t7 = 1
   ·rw [if_pos c6] at H; have c6b0 : (t7 == 1) = true := beq_iff_eq.mpr c6; have c6b1 : (t7 != 1) = false := bne_eq_false_iff_eq.mpr c6; clear c6; obtain ⟨⟨a, ty, code, key, e⟩, A_, H⟩ := Option.bind_eq_some_iff.mp H; have AM := Aside0.mk A_; clear A_; simp only [Option.some.injEq, Prod.mk.injEq] at H; obtain ⟨rfl, rfl, rfl, rfl, rfl, rfl, rfl⟩ := H; go_enter Try.func51, Try.ntmps51
    go_wp2_with (first | ((with_reducible refine gate_callee (f := 79) rfl ?_); refine goesL_ (some 77) rfl rfl Try.func79 (by kernel_rfl) rfl #[.pointer (some ⟨g, 0, none⟩)] rfl (by (try simp only [LmA, LmB, LmC]); first | done | rfl | (simp only [LdA, LtA]; rfl)) ?_; refine (castellanref8_message.hand k g t1 t2 t3 t4 t5 t6 t7 t8 t9 Ao no co Ad cd d cl a ty code key e _ hb.out hr hc AM.out).mono ?_; rintro e' w1 ⟨vi, rfl, ht, hk⟩; refine ⟨_, rfl, ?_⟩; replace HO := Aside0.mk (HO.out.turn 0 rfl ht); clear ht; simp only [LsB, LsC, LsA] at HO; clear HF; have HF := HO.out.facts; simp only [OwnsM.Facts, and_true] at HF))
    go_ret; exact ⟨vi, rfl, HO.out.turned 0 rfl, hk⟩
   ·rw [if_neg c6] at H; have c6b0 : (t7 == 1) = false := beq_eq_false_iff_ne.mpr c6; have c6b1 : (t7 != 1) = true := bne_iff_ne.mpr c6; clear c6; simp only [Option.some.injEq, Prod.mk.injEq] at H; obtain ⟨rfl, rfl, rfl, rfl, rfl, rfl, rfl⟩ := H; go_enter Try.func51, Try.ntmps51; go_wp2; go_ret
    first | exact ⟨none, rfl, HO.out.turned 0 rfl, rfl⟩ | exact ⟨rfl, none, HO.out.turned 0 rfl, rfl⟩
def castellanref8_Parse.g (k : Nat) (t1 t2 : Int) (t3 t4 : Bool) (t5 t6 t7 t8 t9 : Int) (t10 t11 : List Int) (t12 : Int) : Option (Int × Int × Bool × Bool × Int × Int × Int × Int × Int × List Int × List Int × Int × Int × Int × Int × Int × Int × Option K5 × Int) :=
 if t12 = 0 then (if t5 = 0 then ((castellanref8_inside.f k t7 (if t4 = true then 1 else 0) t11).bind fun i => if i.2.2.2.2.2.2 = 0 then some (t1, t2, t3, t4, t5, t6, t7, t8, t9, t10, t11, (if t4 = true then 1 else 0), i.1, i.2.1, i.2.2.1, i.2.2.2.1, i.2.2.2.2.1, i.2.2.2.2.2.1, 0) else some (0, 0, false, false, 0, 0, 0, 0, 0, ([] : List Int), ([] : List Int), 0, 0, 0, 0, 0, 0, none, i.2.2.2.2.2.2))
  else some (t1, t2, t3, t4, t5, t6, t7, t8, t9, t10, t11, 2, 0, 0, 0, 0, 0, none, 0)) else some (0, 0, false, false, 0, 0, 0, 0, 0, ([] : List Int), ([] : List Int), 0, 0, 0, 0, 0, 0, none, t12)
def castellanref8_Parse.f (k : Nat) (l0 : List Int) : Option (Int × Int × Bool × Bool × Int × Int × Int × Int × Int × List Int × List Int × Int × Int × Int × Int × Int × Int × Option K5 × Int) := (castellanref4_Parse.f k l0).bind fun b => castellanref8_Parse.g k b.1 b.2.1 b.2.2.1 b.2.2.2.1 b.2.2.2.2.1 b.2.2.2.2.2.1 b.2.2.2.2.2.2.1 b.2.2.2.2.2.2.2.1 b.2.2.2.2.2.2.2.2.1 b.2.2.2.2.2.2.2.2.2.1 b.2.2.2.2.2.2.2.2.2.2.1 b.2.2.2.2.2.2.2.2.2.2.2
/-- a whole struct read from its block -/
theorem exec_load_row8 {P : Program} {a : Act} {o : Oper} {w : World} (ty : TypeId) (x : Operand) (ho : o.op = .load ty x) {g : Nat} (hx : a.eval x = .pointer (some ⟨g, 0, none⟩)) {t : TypeId} {cs : Array Value} {d : TypeDesc} (hg : w.heap[g]? = some (.cells cs t (0, 0))) (hu : P.underlying ty = some d)
  (hd : (match d with | .struct _ | .array _ _ => true | _ => false) = true) (hi : (P.info? ty).map (·.size) = some cs.size) : (execOp a.eval o).run P w = .ok (.value (.agg cs)) w := by
 unfold execOp; simp only [ho, hx, Instr.loadAt, Instr.sureAddr, Sem.run_bind, Sem.run_pure, Result.andThen_ok, run_loadVar_row w g t ty cs (0, 0) d hg hu hd hi]
def castellanref8_Parse.T4 : Bool × List (List Nat × List Nat) := (true, [([], []), ([], []), ([1], [1]), ([0, 2], [0, 2]), ([3], [3]), ([4, 2, 0, 1, 2, 3, 4], [4])])
def castellanref8_Parse.B4 : List Nat := [0, 0, 2, 7, 15, 31]
theorem castellanref8_Parse.tab4 : rtab .any (opsOf Try.f28 4) = castellanref8_Parse.T4 := by kernel_rfl
theorem castellanref8_Parse.bits4 : waitsOk castellanref8_Parse.T4.2 castellanref8_Parse.B4 = true := by kernel_rfl
set_option maxHeartbeats 8000000 in
set_option maxRecDepth 100000 in
theorem castellanref8_Parse.calls (k : Nat) (A0 : Option Addr) (c0 : Nat) (l0 : List Int) (r1 : Int) (r2 : Int) (r3 : Bool) (r4 : Bool) (r5 : Int) (r6 : Int) (r7 : Int) (r8 : Int) (r9 : Int) (r10 : List Int) (r11 : List Int) (r12 : Int) (r13 : Int) (r14 : Int) (r15 : Int) (r16 : Int) (r17 : Int) (r18 : Option K5) (r19 : Int) (w : World) (hr0 : Kd.C (Kd.int .u8) w A0 l0.length l0) (hc0 : l0.length ≤ c0) (h : castellanref8_Parse.f k l0 = some (r1, r2, r3, r4, r5, r6, r7, r8, r9, r10, r11, r12, r13, r14, r15, r16, r17, r18, r19)) :
  Calls Try.prog 28 #[.slice A0 l0.length c0] w fun e w' => ∃ v9_ v10_ vi, e = .returned (.tuple #[.agg #[.int .i64 r1, .int .i64 r2, .bool r3, .bool r4, .int .i64 r5, .int .i64 r6, .int .i64 r7, .int .u32 r8, .int .u32 r9, v9_, v10_, .int .i64 r12, .int .i64 r13, .int .i64 r14, .int .i64 r15, .int .i64 r16, .int .i64 r17, .pointer vi], .int .i64 r19]) ∧ Kd.R (Kd.int .u8) 5 w' w.heap.size (fun k_ => some k_ ≠ (v10_ : Value).ownBlock) v9_ r10 ∧ Kd.R (Kd.int .u8) 5 w' w.heap.size (fun k_ => some k_ ≠ (v9_ : Value).ownBlock) v10_ r11 ∧ KeyAt w.heap.size w' 35 vi r18 ∧ Below w.heap.size w w' := by
 have hu29 := Try.underlying29; have HO := Aside0.mk (Owns.nil w); have HF : True := trivial; unfold castellanref8_Parse.f at h; obtain ⟨⟨t1, t2, t3, t4, t5, t6, t7, t8, t9, t10, t11, t12⟩, A_, H⟩ := Option.bind_eq_some_iff.mp h; have AI := Aside0.mk A_; clear A_ h
 try dsimp only at H
 unfold castellanref8_Parse.g at H
 by_cases c1 : t12 = 0
 ·rw [if_pos c1] at H; have c1b0 : (t12 == 0) = true := beq_iff_eq.mpr c1; have c1b1 : (t12 != 0) = false := bne_eq_false_iff_eq.mpr c1; clear c1
  by_cases c2 : t5 = 0
  ·rw [if_pos c2] at H; have c2b0 : (t5 == 0) = true := beq_iff_eq.mpr c2; have c2b1 : (t5 != 0) = false := bne_eq_false_iff_eq.mpr c2; have hcl : castellanref8_Class.f t1 t2 t3 t4 t5 t6 t7 t8 t9 t10 t11 = some (if t4 = true then 1 else 0) := by unfold castellanref8_Class.f; rw [if_pos c2]; cases t4 <;> rfl
   have AC := Aside0.mk hcl; clear hcl
   obtain ⟨cl, hcl⟩ : ∃ cl : Int, cl = (if t4 = true then 1 else 0) := ⟨_, rfl⟩
   rw [← hcl] at AC; simp only [← hcl] at H; have hc2 : (cl == 2) = false := by rw [hcl]; cases t4 <;> rfl
   have hc3 : (cl != 2) = true := by rw [hcl]; cases t4 <;> rfl
   have HCL := Aside0.mk hcl; clear hcl c2; obtain ⟨⟨a, b, fl, ty, code, key, e⟩, A_, H⟩ := Option.bind_eq_some_iff.mp H; have AN := Aside0.mk A_; clear A_
   try dsimp only at H
   by_cases c3 : e = 0
   ·rw [if_pos c3] at H; have c3b0 : (e == 0) = true := beq_iff_eq.mpr c3; have c3b1 : (e != 0) = false := bne_eq_false_iff_eq.mpr c3; have K3 := Aside0.mk c3; clear c3; simp only [Option.some.injEq, Prod.mk.injEq] at H; obtain ⟨rfl, rfl, rfl, rfl, rfl, rfl, rfl, rfl, rfl, rfl, rfl, rfl, rfl, rfl, rfl, rfl, rfl, rfl, rfl⟩ := H; go_enter Try.func28, Try.ntmps28
    go_upto_region 4 with (first | ((with_reducible refine gate_dst (N := 2) rfl ?_); refine ow_box HO rfl (N := 2) rfl #[.int .i64 0, .int .i64 0, .bool false, .bool false, .int .i64 0, .int .i64 0, .int .i64 0, .int .u32 0, .int .u32 0, .slice none 0 0, .slice none 0 0, .int .i64 0, .int .i64 0, .int .i64 0, .int .i64 0, .int .i64 0, .int .i64 0, .pointer none] 29 ?hr rfl ?_; (case hr => first | (go_simp; done) | (go_simp; rfl)); clear HO HF; intro g2 w1 HO; have HF := HO.out.facts; simp only [OwnsM.Facts, and_true] at HF) | ((with_reducible refine gate_callee (f := 31) rfl ?_); refine goesL_ (some 9) rfl rfl Try.func31 (by kernel_rfl) rfl #[.slice A0 l0.length c0] rfl (by (try simp only [LmA, LmB, LmC]); first | done | rfl | (simp only [LdA, LtA]; rfl)) ?_; refine (castellanref4_Parse.calls k _ _ l0 t1 t2 t3 t4 t5 t6 t7 t8 t9 t10 t11 t12 _ (HO.out.old hr0) hc0 AI.out).mono ?_; rintro e w1 ⟨v1, v2, rfl, h1, h2, hb1⟩; obtain ⟨Ao, co, rfl⟩ := Kd.R_slice h1; obtain ⟨Ad, cd, rfl⟩ := Kd.R_slice h2; refine ⟨_, rfl, ?_⟩; replace HO := Aside0.mk (HO.out.call2 hb1 h1 h2); clear hb1 h1 h2; clear HF; have HF := HO.out.facts; simp only [OwnsM.Facts, and_true] at HF) | ((with_reducible refine gate_dst (N := 4) rfl ?_); refine ow_box HO rfl (N := 4) rfl #[.int .i64 0, .int .i64 0, .bool false, .bool false, .int .i64 0, .int .i64 0, .int .i64 0, .int .u32 0, .int .u32 0, .slice none 0 0, .slice none 0 0] 26 ?hr rfl ?_; (case hr => first | (go_simp; done) | (go_simp; rfl)); clear HO HF; intro g4 w1 HO; have HF := HO.out.facts; simp only [OwnsM.Facts, and_true] at HF) | ((with_reducible refine gate_store (p := 4) rfl ?_); (first | refine ow_put HO rfl rfl 0 rfl (ty := 26) rfl _ rfl rfl (by kernel_rfl) rfl rfl ?_); clear HO HF; intro w1 HO; simp only [LsB, LsC, LsA] at HO; have HF := HO.out.facts; simp only [OwnsM.Facts, and_true] at HF))
    have HO1_ := Aside0.mk HO.out.drew; clear HO HF; have HO := HO1_; clear HO1_; refine start_ (n := 6) (S := fun w' => w'.heap[g4]? = some (.cells #[.int .i64 t1, .int .i64 t2, .bool t3, .bool t4, .int .i64 t5, .int .i64 t6, .int .i64 t7, .int .u32 t8, .int .u32 t9, .slice Ao t10.length co, .slice Ad t11.length cd] 26 (0, 0))) (ds := [4]) (bm 6 0) (by kernel_rfl) rfl rfl (HO.out.at_ 0 rfl) (fun hHeld => ?_); refine with_tabW castellanref8_Parse.tab4 castellanref8_Parse.bits4 (fun HT_ HW_ => ?_)
    generalize w1.drew = w1 at HO hHeld ⊢; refine take_ (i := 0) (N := some 16) (v := ?_) (a' := ?_) (bm 6 1) rfl rfl (take_ofW HT_.out HW_.out (by kernel_rfl)) (fun _ _ _ h => h) (Or.inl ⟨by rfl, ?_⟩) hHeld ?_ ?_; rotate_left
    ·intro w' s0; refine exec_load_row8 26 (.tmp 4) ?ho ?hx s0 Try.underlying26 rfl ?hi
     case ho => rfl
     case hx => rfl
     case hi => kernel_rfl
    rotate_left
    ·simp only [Act.put, LsA, LsB, LsC, i64_w, i32_w]; rfl
    refine take_ (i := 1) (N := some 17) (v := ?_) (a' := ?_) (bm 6 3) rfl rfl (take_ofW HT_.out HW_.out (by kernel_rfl)) (fun _ _ _ h => h) (Or.inl ⟨by rfl, ?_⟩) hHeld ?_ ?_; rotate_left
    ·intro w' s0; refine exec_load_row8 26 (.tmp 4) ?ho ?hx s0 Try.underlying26 rfl ?hi
     case ho => rfl
     case hx => rfl
     case hi => kernel_rfl
    rotate_left
    ·simp only [Act.put, LsA, LsB, LsC, i64_w, i32_w]; rfl
    refine one_ (i := 2) (N := some 18) (bm 6 7) rfl rfl (one_of HT_.out (by kernel_rfl)) (by decide) (fun K hK => ?_); refine goes_ Try.func21 (by kernel_rfl) rfl #[.agg #[.int .i64 t1, .int .i64 t2, .bool t3, .bool t4, .int .i64 t5, .int .i64 t6, .int .i64 t7, .int .u32 t8, .int .u32 t9, .slice Ao t10.length co, .slice Ad t11.length cd]] (by rfl) rfl rfl (by (try simp only [LmA, LmB, LmC]); first | done | rfl | (simp only [LdA, LtA]; rfl)) ?_; refine (castellanref8_Class.calls t1 t2 t3 t4 t5 t6 t7 t8 t9 _ _ t10 _ _ t11 cl _ (HO.out.rd 1 rfl) (HO.out.cap 1 rfl) (HO.out.rd 0 rfl) (HO.out.cap 0 rfl) AC.out).mono ?_; rintro e w1 ⟨rfl, hb1⟩; refine ⟨_, rfl, ?_⟩; replace HO := Aside0.mk (HO.out.step hb1); clear hb1; refine hK.out _ _ (HO.out.at_ 0 rfl) (fun hHeld => ?_); clear hK K; refine norm_ (a' := ?_) ?_ ?_; rotate_left
    ·show Act.put _ (some 18) _ = _; simp only [Act.put, LsA, LsB, LsC, i64_w, i32_w]; rfl
    refine pure_ (i := 3) (N := some 19) (v := ?_) (a' := ?_) (bm 6 15) rfl rfl (any_of HT_.out (by kernel_rfl)) (fun _ _ _ h => h) (Or.inl ⟨by rfl, ?_⟩) ?_ ?_; rotate_left
    ·intro w'; go_simp; with_reducible rfl
    rotate_left
    ·simp only [Act.put, LsA, LsB, LsC, i64_w, i32_w]; rfl
    refine last_ (i := 4) (N := some 20) (bm 6 31) rfl rfl (one_of HT_.out (by kernel_rfl)) (by decide) (fun K hK => ?_); refine ow_box_step HO (by rfl) (N := 20) rfl #[.int .i64 t1, .int .i64 t2, .bool t3, .bool t4, .int .i64 t5, .int .i64 t6, .int .i64 t7, .int .u32 t8, .int .u32 t9, .slice Ao t10.length co, .slice Ad t11.length cd, .int .i64 cl, .int .i64 0, .int .i64 0, .int .i64 0, .int .i64 0, .int .i64 0, .pointer none] 29 ?hr rfl (fun g20 w1 HO1_ => ?_); (case hr => first | (go_simp; done) | (go_simp; rfl))
    clear HO; have HO := HO1_; clear HO1_; refine hK.out _ _ ?_; clear hK K; refine norm_ (a' := ?_) ?_ ?_; rotate_left
    ·show Act.put _ (some 20) _ = _; simp only [Act.put, LsA, LsB, LsC, i64_w, i32_w]; rfl
    refine pure_ (i := 5) (N := some 6) (v := ?_) (a' := ?_) (bm 6 63) rfl rfl (any_of HT_.out (by kernel_rfl)) (fun _ _ _ h => h) (Or.inl ⟨by rfl, ?_⟩) ?_ ?_; rotate_left
    ·intro w'; go_simp; with_reducible rfl
    rotate_left
    ·simp only [Act.put, LsA, LsB, LsC, i64_w, i32_w]; rfl
    refine done_ (done_of HT_.out (by kernel_rfl)) ?_
    cases key with
    | none =>
     have HF := HO.out.facts; simp only [OwnsM.Facts, and_true] at HF
     go_wp2_with (first | ((with_reducible refine gate_callee (f := 51) rfl ?_); refine goesL_ (some 27) rfl rfl Try.func51 (by kernel_rfl) rfl #[.pointer (some ⟨g20, 0, none⟩)] rfl (by (try simp only [LmA, LmB, LmC]); first | done | rfl | (simp only [LdA, LtA]; rfl)) ?_; refine (castellanref8_inside.hand k g20 t1 t2 t3 t4 t5 t6 t7 t8 t9 _ _ _ _ _ t11 cl a b fl ty code none e _ (HO.out.at_ 0 rfl) (HO.out.rd 0 rfl) (HO.out.cap 0 rfl) AN.out).mono ?_; rintro e' w1 ⟨vi, rfl, ht, hk⟩; refine ⟨_, rfl, ?_⟩; obtain rfl : vi = none := hk; replace HO := Aside0.mk (HO.out.turn 0 rfl ht); clear ht; simp only [LsB, LsC, LsA] at HO; clear HF; have HF := HO.out.facts; simp only [OwnsM.Facts, and_true] at HF) | ((with_reducible refine gate_dst (N := 34) rfl ?_); (first | refine ow_load HO rfl 0 rfl 29 _ rfl _ rfl Try.underlying29 rfl (by kernel_rfl) ?_)) | ((with_reducible refine gate_store (p := 2) rfl ?_); (first | refine ow_put HO rfl rfl 2 rfl (ty := 29) rfl _ rfl rfl (by kernel_rfl) rfl rfl ?_); clear HO HF; intro w1 HO; simp only [LsB, LsC, LsA] at HO; have HF := HO.out.facts; simp only [OwnsM.Facts, and_true] at HF))
     refine bodyPost_ret (results_ct rfl _ _ g2 29 _ (0, 0) _ rfl (HO.out.at_ 2 rfl) Try.underlying29 rfl (by kernel_rfl)) rfl ?_; exact ⟨_, _, _, rfl, HO.out.rowapart 1 0 (by decide) rfl rfl, HO.out.rowapart 0 1 (by decide) rfl rfl, rfl, HO.out.below⟩
    | some key =>
     have HF := HO.out.facts; simp only [OwnsM.Facts, and_true] at HF
     go_wp2_with (first | ((with_reducible refine gate_callee (f := 51) rfl ?_); refine goesL_ (some 27) rfl rfl Try.func51 (by kernel_rfl) rfl #[.pointer (some ⟨g20, 0, none⟩)] rfl (by (try simp only [LmA, LmB, LmC]); first | done | rfl | (simp only [LdA, LtA]; rfl)) ?_; refine (castellanref8_inside.hand k g20 t1 t2 t3 t4 t5 t6 t7 t8 t9 _ _ _ _ _ t11 cl a b fl ty code (some key) e _ (HO.out.at_ 0 rfl) (HO.out.rd 0 rfl) (HO.out.cap 0 rfl) AN.out).mono ?_; rintro e' w1 ⟨vi, rfl, ht, hk⟩; refine ⟨_, rfl, ?_⟩; obtain ⟨gk, rfl, hge, hbk⟩ := hk; replace HO := Aside0.mk (HO.out.turnkey 0 rfl ht hge hbk (by decide)); clear ht hge hbk; simp only [LsB, LsC, LsA] at HO; clear HF; have HF := HO.out.facts; simp only [OwnsM.Facts, and_true] at HF) | ((with_reducible refine gate_dst (N := 34) rfl ?_); (first | refine ow_load HO rfl 1 rfl 29 _ rfl _ rfl Try.underlying29 rfl (by kernel_rfl) ?_)) | ((with_reducible refine gate_store (p := 2) rfl ?_); (first | refine ow_put HO rfl rfl 3 rfl (ty := 29) rfl _ rfl rfl (by kernel_rfl) rfl rfl ?_); clear HO HF; intro w1 HO; simp only [LsB, LsC, LsA] at HO; have HF := HO.out.facts; simp only [OwnsM.Facts, and_true] at HF))
     refine bodyPost_ret (results_ct rfl _ _ g2 29 _ (0, 0) _ rfl (HO.out.at_ 3 rfl) Try.underlying29 rfl (by kernel_rfl)) rfl ?_; exact ⟨_, _, _, rfl, HO.out.rowapart 1 0 (by decide) rfl rfl, HO.out.rowapart 0 1 (by decide) rfl rfl, ⟨gk, rfl, HO.out.ge 0 rfl, HO.out.at_ 0 rfl⟩, HO.out.below⟩
   ·rw [if_neg c3] at H; have c3b0 : (e == 0) = false := beq_eq_false_iff_ne.mpr c3; have c3b1 : (e != 0) = true := bne_iff_ne.mpr c3; clear c3; simp only [Option.some.injEq, Prod.mk.injEq] at H; obtain ⟨rfl, rfl, rfl, rfl, rfl, rfl, rfl, rfl, rfl, rfl, rfl, rfl, rfl, rfl, rfl, rfl, rfl, rfl, rfl⟩ := H; go_enter Try.func28, Try.ntmps28
    go_upto_region 4 with (first | ((with_reducible refine gate_dst (N := 2) rfl ?_); refine ow_box HO rfl (N := 2) rfl #[.int .i64 0, .int .i64 0, .bool false, .bool false, .int .i64 0, .int .i64 0, .int .i64 0, .int .u32 0, .int .u32 0, .slice none 0 0, .slice none 0 0, .int .i64 0, .int .i64 0, .int .i64 0, .int .i64 0, .int .i64 0, .int .i64 0, .pointer none] 29 ?hr rfl ?_; (case hr => first | (go_simp; done) | (go_simp; rfl)); clear HO HF; intro g2 w1 HO; have HF := HO.out.facts; simp only [OwnsM.Facts, and_true] at HF) | ((with_reducible refine gate_callee (f := 31) rfl ?_); refine goesL_ (some 9) rfl rfl Try.func31 (by kernel_rfl) rfl #[.slice A0 l0.length c0] rfl (by (try simp only [LmA, LmB, LmC]); first | done | rfl | (simp only [LdA, LtA]; rfl)) ?_; refine (castellanref4_Parse.calls k _ _ l0 t1 t2 t3 t4 t5 t6 t7 t8 t9 t10 t11 t12 _ (HO.out.old hr0) hc0 AI.out).mono ?_; rintro e w1 ⟨v1, v2, rfl, h1, h2, hb1⟩; obtain ⟨Ao, co, rfl⟩ := Kd.R_slice h1; obtain ⟨Ad, cd, rfl⟩ := Kd.R_slice h2; refine ⟨_, rfl, ?_⟩; replace HO := Aside0.mk (HO.out.call2 hb1 h1 h2); clear hb1 h1 h2; clear HF; have HF := HO.out.facts; simp only [OwnsM.Facts, and_true] at HF) | ((with_reducible refine gate_dst (N := 4) rfl ?_); refine ow_box HO rfl (N := 4) rfl #[.int .i64 0, .int .i64 0, .bool false, .bool false, .int .i64 0, .int .i64 0, .int .i64 0, .int .u32 0, .int .u32 0, .slice none 0 0, .slice none 0 0] 26 ?hr rfl ?_; (case hr => first | (go_simp; done) | (go_simp; rfl)); clear HO HF; intro g4 w1 HO; have HF := HO.out.facts; simp only [OwnsM.Facts, and_true] at HF) | ((with_reducible refine gate_store (p := 4) rfl ?_); (first | refine ow_put HO rfl rfl 0 rfl (ty := 26) rfl _ rfl rfl (by kernel_rfl) rfl rfl ?_); clear HO HF; intro w1 HO; simp only [LsB, LsC, LsA] at HO; have HF := HO.out.facts; simp only [OwnsM.Facts, and_true] at HF))
    have HO1_ := Aside0.mk HO.out.drew; clear HO HF; have HO := HO1_; clear HO1_; refine start_ (n := 6) (S := fun w' => w'.heap[g4]? = some (.cells #[.int .i64 t1, .int .i64 t2, .bool t3, .bool t4, .int .i64 t5, .int .i64 t6, .int .i64 t7, .int .u32 t8, .int .u32 t9, .slice Ao t10.length co, .slice Ad t11.length cd] 26 (0, 0))) (ds := [4]) (bm 6 0) (by kernel_rfl) rfl rfl (HO.out.at_ 0 rfl) (fun hHeld => ?_); refine with_tabW castellanref8_Parse.tab4 castellanref8_Parse.bits4 (fun HT_ HW_ => ?_)
    generalize w1.drew = w1 at HO hHeld ⊢; refine take_ (i := 0) (N := some 16) (v := ?_) (a' := ?_) (bm 6 1) rfl rfl (take_ofW HT_.out HW_.out (by kernel_rfl)) (fun _ _ _ h => h) (Or.inl ⟨by rfl, ?_⟩) hHeld ?_ ?_; rotate_left
    ·intro w' s0; refine exec_load_row8 26 (.tmp 4) ?ho ?hx s0 Try.underlying26 rfl ?hi
     case ho => rfl
     case hx => rfl
     case hi => kernel_rfl
    rotate_left
    ·simp only [Act.put, LsA, LsB, LsC, i64_w, i32_w]; rfl
    refine take_ (i := 1) (N := some 17) (v := ?_) (a' := ?_) (bm 6 3) rfl rfl (take_ofW HT_.out HW_.out (by kernel_rfl)) (fun _ _ _ h => h) (Or.inl ⟨by rfl, ?_⟩) hHeld ?_ ?_; rotate_left
    ·intro w' s0; refine exec_load_row8 26 (.tmp 4) ?ho ?hx s0 Try.underlying26 rfl ?hi
     case ho => rfl
     case hx => rfl
     case hi => kernel_rfl
    rotate_left
    ·simp only [Act.put, LsA, LsB, LsC, i64_w, i32_w]; rfl
    refine one_ (i := 2) (N := some 18) (bm 6 7) rfl rfl (one_of HT_.out (by kernel_rfl)) (by decide) (fun K hK => ?_); refine goes_ Try.func21 (by kernel_rfl) rfl #[.agg #[.int .i64 t1, .int .i64 t2, .bool t3, .bool t4, .int .i64 t5, .int .i64 t6, .int .i64 t7, .int .u32 t8, .int .u32 t9, .slice Ao t10.length co, .slice Ad t11.length cd]] (by rfl) rfl rfl (by (try simp only [LmA, LmB, LmC]); first | done | rfl | (simp only [LdA, LtA]; rfl)) ?_; refine (castellanref8_Class.calls t1 t2 t3 t4 t5 t6 t7 t8 t9 _ _ t10 _ _ t11 cl _ (HO.out.rd 1 rfl) (HO.out.cap 1 rfl) (HO.out.rd 0 rfl) (HO.out.cap 0 rfl) AC.out).mono ?_; rintro e w1 ⟨rfl, hb1⟩; refine ⟨_, rfl, ?_⟩; replace HO := Aside0.mk (HO.out.step hb1); clear hb1; refine hK.out _ _ (HO.out.at_ 0 rfl) (fun hHeld => ?_); clear hK K; refine norm_ (a' := ?_) ?_ ?_; rotate_left
    ·show Act.put _ (some 18) _ = _; simp only [Act.put, LsA, LsB, LsC, i64_w, i32_w]; rfl
    refine pure_ (i := 3) (N := some 19) (v := ?_) (a' := ?_) (bm 6 15) rfl rfl (any_of HT_.out (by kernel_rfl)) (fun _ _ _ h => h) (Or.inl ⟨by rfl, ?_⟩) ?_ ?_; rotate_left
    ·intro w'; go_simp; with_reducible rfl
    rotate_left
    ·simp only [Act.put, LsA, LsB, LsC, i64_w, i32_w]; rfl
    refine last_ (i := 4) (N := some 20) (bm 6 31) rfl rfl (one_of HT_.out (by kernel_rfl)) (by decide) (fun K hK => ?_); refine ow_box_step HO (by rfl) (N := 20) rfl #[.int .i64 t1, .int .i64 t2, .bool t3, .bool t4, .int .i64 t5, .int .i64 t6, .int .i64 t7, .int .u32 t8, .int .u32 t9, .slice Ao t10.length co, .slice Ad t11.length cd, .int .i64 cl, .int .i64 0, .int .i64 0, .int .i64 0, .int .i64 0, .int .i64 0, .pointer none] 29 ?hr rfl (fun g20 w1 HO1_ => ?_); (case hr => first | (go_simp; done) | (go_simp; rfl))
    clear HO; have HO := HO1_; clear HO1_; refine hK.out _ _ ?_; clear hK K; refine norm_ (a' := ?_) ?_ ?_; rotate_left
    ·show Act.put _ (some 20) _ = _; simp only [Act.put, LsA, LsB, LsC, i64_w, i32_w]; rfl
    refine pure_ (i := 5) (N := some 6) (v := ?_) (a' := ?_) (bm 6 63) rfl rfl (any_of HT_.out (by kernel_rfl)) (fun _ _ _ h => h) (Or.inl ⟨by rfl, ?_⟩) ?_ ?_; rotate_left
    ·intro w'; go_simp; with_reducible rfl
    rotate_left
    ·simp only [Act.put, LsA, LsB, LsC, i64_w, i32_w]; rfl
    refine done_ (done_of HT_.out (by kernel_rfl)) ?_
    cases key with
    | none =>
     have HF := HO.out.facts; simp only [OwnsM.Facts, and_true] at HF
     go_wp2_with (first | ((with_reducible refine gate_callee (f := 51) rfl ?_); refine goesL_ (some 27) rfl rfl Try.func51 (by kernel_rfl) rfl #[.pointer (some ⟨g20, 0, none⟩)] rfl (by (try simp only [LmA, LmB, LmC]); first | done | rfl | (simp only [LdA, LtA]; rfl)) ?_; refine (castellanref8_inside.hand k g20 t1 t2 t3 t4 t5 t6 t7 t8 t9 _ _ _ _ _ t11 cl a b fl ty code none e _ (HO.out.at_ 0 rfl) (HO.out.rd 0 rfl) (HO.out.cap 0 rfl) AN.out).mono ?_; rintro e' w1 ⟨vi, rfl, ht, hk⟩; refine ⟨_, rfl, ?_⟩; obtain rfl : vi = none := hk; replace HO := Aside0.mk (HO.out.turn 0 rfl ht); clear ht; simp only [LsB, LsC, LsA] at HO; clear HF; have HF := HO.out.facts; simp only [OwnsM.Facts, and_true] at HF) | ((with_reducible refine gate_store (p := 2) rfl ?_); (first | refine ow_put HO rfl rfl 2 rfl (ty := 29) rfl _ rfl rfl (by kernel_rfl) rfl rfl ?_); clear HO HF; intro w1 HO; simp only [LsB, LsC, LsA] at HO; have HF := HO.out.facts; simp only [OwnsM.Facts, and_true] at HF))
     refine bodyPost_ret (results_ct rfl _ _ g2 29 _ (0, 0) _ rfl (HO.out.at_ 2 rfl) Try.underlying29 rfl (by kernel_rfl)) rfl ?_; exact ⟨_, _, _, rfl, Kd.R_nil _ _ _ _ _, Kd.R_nil _ _ _ _ _, rfl, HO.out.below⟩
    | some key =>
     have HF := HO.out.facts; simp only [OwnsM.Facts, and_true] at HF
     go_wp2_with (first | ((with_reducible refine gate_callee (f := 51) rfl ?_); refine goesL_ (some 27) rfl rfl Try.func51 (by kernel_rfl) rfl #[.pointer (some ⟨g20, 0, none⟩)] rfl (by (try simp only [LmA, LmB, LmC]); first | done | rfl | (simp only [LdA, LtA]; rfl)) ?_; refine (castellanref8_inside.hand k g20 t1 t2 t3 t4 t5 t6 t7 t8 t9 _ _ _ _ _ t11 cl a b fl ty code (some key) e _ (HO.out.at_ 0 rfl) (HO.out.rd 0 rfl) (HO.out.cap 0 rfl) AN.out).mono ?_; rintro e' w1 ⟨vi, rfl, ht, hk⟩; refine ⟨_, rfl, ?_⟩; obtain ⟨gk, rfl, hge, hbk⟩ := hk; replace HO := Aside0.mk (HO.out.turnkey 0 rfl ht hge hbk (by decide)); clear ht hge hbk; simp only [LsB, LsC, LsA] at HO; clear HF; have HF := HO.out.facts; simp only [OwnsM.Facts, and_true] at HF) | ((with_reducible refine gate_store (p := 2) rfl ?_); (first | refine ow_put HO rfl rfl 3 rfl (ty := 29) rfl _ rfl rfl (by kernel_rfl) rfl rfl ?_); clear HO HF; intro w1 HO; simp only [LsB, LsC, LsA] at HO; have HF := HO.out.facts; simp only [OwnsM.Facts, and_true] at HF))
     refine bodyPost_ret (results_ct rfl _ _ g2 29 _ (0, 0) _ rfl (HO.out.at_ 3 rfl) Try.underlying29 rfl (by kernel_rfl)) rfl ?_; exact ⟨_, _, _, rfl, Kd.R_nil _ _ _ _ _, Kd.R_nil _ _ _ _ _, rfl, HO.out.below⟩
  ·rw [if_neg c2] at H; have c2b0 : (t5 == 0) = false := beq_eq_false_iff_ne.mpr c2; have c2b1 : (t5 != 0) = true := bne_iff_ne.mpr c2; have AC := Aside0.mk (show castellanref8_Class.f t1 t2 t3 t4 t5 t6 t7 t8 t9 t10 t11 = some 2 from by unfold castellanref8_Class.f; rw [if_neg c2]); clear c2; simp only [Option.some.injEq, Prod.mk.injEq] at H; obtain ⟨rfl, rfl, rfl, rfl, rfl, rfl, rfl, rfl, rfl, rfl, rfl, rfl, rfl, rfl, rfl, rfl, rfl, rfl, rfl⟩ := H; go_enter Try.func28, Try.ntmps28
   go_upto_region 4 with (first | ((with_reducible refine gate_dst (N := 2) rfl ?_); refine ow_box HO rfl (N := 2) rfl #[.int .i64 0, .int .i64 0, .bool false, .bool false, .int .i64 0, .int .i64 0, .int .i64 0, .int .u32 0, .int .u32 0, .slice none 0 0, .slice none 0 0, .int .i64 0, .int .i64 0, .int .i64 0, .int .i64 0, .int .i64 0, .int .i64 0, .pointer none] 29 ?hr rfl ?_; (case hr => first | (go_simp; done) | (go_simp; rfl)); clear HO HF; intro g2 w1 HO; have HF := HO.out.facts; simp only [OwnsM.Facts, and_true] at HF) | ((with_reducible refine gate_callee (f := 31) rfl ?_); refine goesL_ (some 9) rfl rfl Try.func31 (by kernel_rfl) rfl #[.slice A0 l0.length c0] rfl (by (try simp only [LmA, LmB, LmC]); first | done | rfl | (simp only [LdA, LtA]; rfl)) ?_; refine (castellanref4_Parse.calls k _ _ l0 t1 t2 t3 t4 t5 t6 t7 t8 t9 t10 t11 t12 _ (HO.out.old hr0) hc0 AI.out).mono ?_; rintro e w1 ⟨v1, v2, rfl, h1, h2, hb1⟩; obtain ⟨Ao, co, rfl⟩ := Kd.R_slice h1; obtain ⟨Ad, cd, rfl⟩ := Kd.R_slice h2; refine ⟨_, rfl, ?_⟩; replace HO := Aside0.mk (HO.out.call2 hb1 h1 h2); clear hb1 h1 h2; clear HF; have HF := HO.out.facts; simp only [OwnsM.Facts, and_true] at HF) | ((with_reducible refine gate_dst (N := 4) rfl ?_); refine ow_box HO rfl (N := 4) rfl #[.int .i64 0, .int .i64 0, .bool false, .bool false, .int .i64 0, .int .i64 0, .int .i64 0, .int .u32 0, .int .u32 0, .slice none 0 0, .slice none 0 0] 26 ?hr rfl ?_; (case hr => first | (go_simp; done) | (go_simp; rfl)); clear HO HF; intro g4 w1 HO; have HF := HO.out.facts; simp only [OwnsM.Facts, and_true] at HF) | ((with_reducible refine gate_store (p := 4) rfl ?_); (first | refine ow_put HO rfl rfl 0 rfl (ty := 26) rfl _ rfl rfl (by kernel_rfl) rfl rfl ?_); clear HO HF; intro w1 HO; simp only [LsB, LsC, LsA] at HO; have HF := HO.out.facts; simp only [OwnsM.Facts, and_true] at HF))
   have HO1_ := Aside0.mk HO.out.drew; clear HO HF; have HO := HO1_; clear HO1_; refine start_ (n := 6) (S := fun w' => w'.heap[g4]? = some (.cells #[.int .i64 t1, .int .i64 t2, .bool t3, .bool t4, .int .i64 t5, .int .i64 t6, .int .i64 t7, .int .u32 t8, .int .u32 t9, .slice Ao t10.length co, .slice Ad t11.length cd] 26 (0, 0))) (ds := [4]) (bm 6 0) (by kernel_rfl) rfl rfl (HO.out.at_ 0 rfl) (fun hHeld => ?_); refine with_tabW castellanref8_Parse.tab4 castellanref8_Parse.bits4 (fun HT_ HW_ => ?_)
   generalize w1.drew = w1 at HO hHeld ⊢; refine take_ (i := 0) (N := some 16) (v := ?_) (a' := ?_) (bm 6 1) rfl rfl (take_ofW HT_.out HW_.out (by kernel_rfl)) (fun _ _ _ h => h) (Or.inl ⟨by rfl, ?_⟩) hHeld ?_ ?_; rotate_left
   ·intro w' s0; refine exec_load_row8 26 (.tmp 4) ?ho ?hx s0 Try.underlying26 rfl ?hi
    case ho => rfl
    case hx => rfl
    case hi => kernel_rfl
   rotate_left
   ·simp only [Act.put, LsA, LsB, LsC, i64_w, i32_w]; rfl
   refine take_ (i := 1) (N := some 17) (v := ?_) (a' := ?_) (bm 6 3) rfl rfl (take_ofW HT_.out HW_.out (by kernel_rfl)) (fun _ _ _ h => h) (Or.inl ⟨by rfl, ?_⟩) hHeld ?_ ?_; rotate_left
   ·intro w' s0; refine exec_load_row8 26 (.tmp 4) ?ho ?hx s0 Try.underlying26 rfl ?hi
    case ho => rfl
    case hx => rfl
    case hi => kernel_rfl
   rotate_left
   ·simp only [Act.put, LsA, LsB, LsC, i64_w, i32_w]; rfl
   refine one_ (i := 2) (N := some 18) (bm 6 7) rfl rfl (one_of HT_.out (by kernel_rfl)) (by decide) (fun K hK => ?_); refine goes_ Try.func21 (by kernel_rfl) rfl #[.agg #[.int .i64 t1, .int .i64 t2, .bool t3, .bool t4, .int .i64 t5, .int .i64 t6, .int .i64 t7, .int .u32 t8, .int .u32 t9, .slice Ao t10.length co, .slice Ad t11.length cd]] (by rfl) rfl rfl (by (try simp only [LmA, LmB, LmC]); first | done | rfl | (simp only [LdA, LtA]; rfl)) ?_; refine (castellanref8_Class.calls t1 t2 t3 t4 t5 t6 t7 t8 t9 _ _ t10 _ _ t11 2 _ (HO.out.rd 1 rfl) (HO.out.cap 1 rfl) (HO.out.rd 0 rfl) (HO.out.cap 0 rfl) AC.out).mono ?_; rintro e w1 ⟨rfl, hb1⟩; refine ⟨_, rfl, ?_⟩; replace HO := Aside0.mk (HO.out.step hb1); clear hb1; refine hK.out _ _ (HO.out.at_ 0 rfl) (fun hHeld => ?_); clear hK K; refine norm_ (a' := ?_) ?_ ?_; rotate_left
   ·show Act.put _ (some 18) _ = _; simp only [Act.put, LsA, LsB, LsC, i64_w, i32_w]; rfl
   refine pure_ (i := 3) (N := some 19) (v := ?_) (a' := ?_) (bm 6 15) rfl rfl (any_of HT_.out (by kernel_rfl)) (fun _ _ _ h => h) (Or.inl ⟨by rfl, ?_⟩) ?_ ?_; rotate_left
   ·intro w'; go_simp; with_reducible rfl
   rotate_left
   ·simp only [Act.put, LsA, LsB, LsC, i64_w, i32_w]; rfl
   refine last_ (i := 4) (N := some 20) (bm 6 31) rfl rfl (one_of HT_.out (by kernel_rfl)) (by decide) (fun K hK => ?_); refine ow_box_step HO (by rfl) (N := 20) rfl #[.int .i64 t1, .int .i64 t2, .bool t3, .bool t4, .int .i64 t5, .int .i64 t6, .int .i64 t7, .int .u32 t8, .int .u32 t9, .slice Ao t10.length co, .slice Ad t11.length cd, .int .i64 2, .int .i64 0, .int .i64 0, .int .i64 0, .int .i64 0, .int .i64 0, .pointer none] 29 ?hr rfl (fun g20 w1 HO1_ => ?_); (case hr => first | (go_simp; done) | (go_simp; rfl))
   clear HO; have HO := HO1_; clear HO1_; refine hK.out _ _ ?_; clear hK K; refine norm_ (a' := ?_) ?_ ?_; rotate_left
   ·show Act.put _ (some 20) _ = _; simp only [Act.put, LsA, LsB, LsC, i64_w, i32_w]; rfl
   refine pure_ (i := 5) (N := some 6) (v := ?_) (a' := ?_) (bm 6 63) rfl rfl (any_of HT_.out (by kernel_rfl)) (fun _ _ _ h => h) (Or.inl ⟨by rfl, ?_⟩) ?_ ?_; rotate_left
   ·intro w'; go_simp; with_reducible rfl
   rotate_left
   ·simp only [Act.put, LsA, LsB, LsC, i64_w, i32_w]; rfl
   refine done_ (done_of HT_.out (by kernel_rfl)) ?_; have HF := HO.out.facts; simp only [OwnsM.Facts, and_true] at HF
   go_wp2_with (first | ((with_reducible refine gate_dst (N := 34) rfl ?_); (first | refine ow_load HO rfl 0 rfl 29 _ rfl _ rfl Try.underlying29 rfl (by kernel_rfl) ?_)) | ((with_reducible refine gate_store (p := 2) rfl ?_); (first | refine ow_put HO rfl rfl 2 rfl (ty := 29) rfl _ rfl rfl (by kernel_rfl) rfl rfl ?_); clear HO HF; intro w1 HO; simp only [LsB, LsC, LsA] at HO; have HF := HO.out.facts; simp only [OwnsM.Facts, and_true] at HF))
   refine bodyPost_ret (results_ct rfl _ _ g2 29 _ (0, 0) _ rfl (HO.out.at_ 2 rfl) Try.underlying29 rfl (by kernel_rfl)) rfl ?_; exact ⟨_, _, _, rfl, HO.out.rowapart 1 0 (by decide) rfl rfl, HO.out.rowapart 0 1 (by decide) rfl rfl, rfl, HO.out.below⟩
 ·rw [if_neg c1] at H; have c1b0 : (t12 == 0) = false := beq_eq_false_iff_ne.mpr c1; have c1b1 : (t12 != 0) = true := bne_iff_ne.mpr c1; simp only [Option.some.injEq, Prod.mk.injEq] at H; obtain ⟨rfl, rfl, rfl, rfl, rfl, rfl, rfl, rfl, rfl, rfl, rfl, rfl, rfl, rfl, rfl, rfl, rfl, rfl, rfl⟩ := H; go_enter Try.func28, Try.ntmps28
  go_wp2_with (first | ((with_reducible refine gate_dst (N := 2) rfl ?_); refine ow_box HO rfl (N := 2) rfl #[.int .i64 0, .int .i64 0, .bool false, .bool false, .int .i64 0, .int .i64 0, .int .i64 0, .int .u32 0, .int .u32 0, .slice none 0 0, .slice none 0 0, .int .i64 0, .int .i64 0, .int .i64 0, .int .i64 0, .int .i64 0, .int .i64 0, .pointer none] 29 ?hr rfl ?_; (case hr => first | (go_simp; done) | (go_simp; rfl)); clear HO HF; intro g2 w1 HO; have HF := HO.out.facts; simp only [OwnsM.Facts, and_true] at HF) | ((with_reducible refine gate_callee (f := 31) rfl ?_); refine goesL_ (some 9) rfl rfl Try.func31 (by kernel_rfl) rfl #[.slice A0 l0.length c0] rfl (by (try simp only [LmA, LmB, LmC]); first | done | rfl | (simp only [LdA, LtA]; rfl)) ?_; refine (castellanref4_Parse.calls k _ _ l0 t1 t2 t3 t4 t5 t6 t7 t8 t9 t10 t11 t12 _ (HO.out.old hr0) hc0 AI.out).mono ?_; rintro e w1 ⟨v1, v2, rfl, h1, h2, hb1⟩; obtain ⟨Ao, co, rfl⟩ := Kd.R_slice h1; obtain ⟨Ad, cd, rfl⟩ := Kd.R_slice h2; refine ⟨_, rfl, ?_⟩; replace HO := Aside0.mk (HO.out.call2 hb1 h1 h2); clear hb1 h1 h2; clear HF; have HF := HO.out.facts; simp only [OwnsM.Facts, and_true] at HF) | ((with_reducible refine gate_dst (N := 4) rfl ?_); refine ow_box HO rfl (N := 4) rfl #[.int .i64 0, .int .i64 0, .bool false, .bool false, .int .i64 0, .int .i64 0, .int .i64 0, .int .u32 0, .int .u32 0, .slice none 0 0, .slice none 0 0] 26 ?hr rfl ?_; (case hr => first | (go_simp; done) | (go_simp; rfl)); clear HO HF; intro g4 w1 HO; have HF := HO.out.facts; simp only [OwnsM.Facts, and_true] at HF) | ((with_reducible refine gate_store (p := 4) rfl ?_); (first | refine ow_put HO rfl rfl 0 rfl (ty := 26) rfl _ rfl rfl (by kernel_rfl) rfl rfl ?_); clear HO HF; intro w1 HO; simp only [LsB, LsC, LsA] at HO; have HF := HO.out.facts; simp only [OwnsM.Facts, and_true] at HF) | ((with_reducible refine gate_store (p := 2) rfl ?_); (first | refine ow_put HO rfl rfl 1 rfl (ty := 29) rfl _ rfl rfl (by kernel_rfl) rfl rfl ?_); clear HO HF; intro w1 HO; simp only [LsB, LsC, LsA] at HO; have HF := HO.out.facts; simp only [OwnsM.Facts, and_true] at HF))
  refine bodyPost_ret (results_ct rfl _ _ g2 29 _ (0, 0) _ rfl (HO.out.at_ 1 rfl) Try.underlying29 rfl (by kernel_rfl)) rfl ?_; exact ⟨_, _, _, rfl, Kd.R_nil _ _ _ _ _, Kd.R_nil _ _ _ _ _, rfl, HO.out.below⟩

end Go.Proofs.Ytkdibloahkhgoaa.QPackParses
