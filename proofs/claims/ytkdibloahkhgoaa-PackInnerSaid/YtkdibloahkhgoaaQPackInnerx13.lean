-- written by myprint.py, a program of this session's over the kit's printer
import Derived.Test.YtkdibloahkhgoaaQPackInnerx0
import Derived.Test.YtkdibloahkhgoaaQPackInnerx1
import Derived.Test.YtkdibloahkhgoaaQPackInnerx10
import Derived.Test.YtkdibloahkhgoaaQPackInnerx11
import Derived.Test.YtkdibloahkhgoaaQPackInnerx12
namespace Go.Proofs.Ytkdibloahkhgoaa.QPackInner
open Go.RowKit Go.Proofs.YtkdibloahkhgoaaW.PrintWords Go.Proofs.YtkdibloahkhgoaaW.PrintLast Go.Proofs.YtkdibloahkhgoaaW.PrintMore
attribute [local go_sem] max2_int min2_int max_two min_two max_three min_three max_four min_four   -- for this text's walks alone
set_option linter.unusedVariables false
set_option linter.unusedSimpArgs false

/-! ### pack_Parse: function 35 -/
def pack_inner.g (dl : List Int) (p s d : Int) : Option (Option K5) :=
 if p = 6 then ((pack_ports.f dl).bind fun ab => some (some (p, s, d, ab.1, ab.2))) else if p = 17 then ((pack_ports.f dl).bind fun ab => some (some (p, s, d, ab.1, ab.2)))
 else if p = 1 then ((icmp_Query.f (wrap64 (rd dl 0))).bind fun q => if q = true then ((word_Get16.f dl 4).bind fun a => some (some (p, s, d, a, a))) else some (some (p, s, d, 0, 0)))
 else some (some (p, s, d, 0, 0))
def pack_inner.f (k : Nat) (l0 : List Int) : Option (Option K5) := (ip_Header.f l0).bind fun n =>
 if (l0.length : Int) < 20 then none else if (rd l0 0) / 16 = 4 then (if n < 20 then none else if (l0.length : Int) < wrap64 (n + 8) then none
  else ((word_Get16.f l0 6).bind fun o => if Go.bits .and .i64 o 8191 = 0 then ((word_Get32.f k l0 12).bind fun s => (word_Get32.f k l0 16).bind fun d => if 0 ≤ n ∧ n ≤ (l0.length : Int) ∧ 0 < ((l0.drop n.toNat).length : Int) then pack_inner.g (l0.drop n.toNat) (wrap64 (rd l0 9)) s d else none) else some none)) else none
def pack_inner.T4 : Bool × List (List Nat × List Nat) := (true, [([], []), ([0], [0]), ([1], [1]), ([2], [2]), ([], []), ([4], [4]), ([], []), ([6, 5], [6]), ([3, 5, 7], [3, 5, 7]), ([8], [8]), ([9, 7, 0, 1, 2, 3, 4, 5, 6, 7, 8, 9], [9])])
def pack_inner.B4 : List Nat := [0, 1, 3, 7, 0, 16, 0, 112, 255, 511, 1023]
theorem pack_inner.tab4 : rtab .any (opsOf Try.f88 4) = pack_inner.T4 := by kernel_rfl
theorem pack_inner.bits4 : waitsOk pack_inner.T4.2 pack_inner.B4 = true := by kernel_rfl
set_option maxHeartbeats 8000000 in
set_option maxRecDepth 100000 in
theorem pack_inner.calls (k : Nat) (A0 : Option Addr) (c0 : Nat) (l0 : List Int) (r : Option K5) (w : World) (hr0 : Kd.C (Kd.int .u8) w A0 l0.length l0) (hc0 : l0.length ≤ c0) (h : pack_inner.f k l0 = some r) :
  Calls Try.prog 88 #[.slice A0 l0.length c0] w fun e w' => ∃ vi, e = .returned (.pointer vi) ∧ KeyAt w.heap.size w' 35 vi r ∧ Below w.heap.size w w' := by
 have HR0 := Aside0.mk hr0; have HC0 := Aside0.mk hc0; clear hr0 hc0; have HO := Aside0.mk (Owns.nil w); have HF : True := trivial; unfold pack_inner.f at h; obtain ⟨n, A_, H⟩ := Option.bind_eq_some_iff.mp h; have AN := Aside0.mk A_; clear A_ h
 by_cases c1 : (l0.length : Int) < 20
 ·rw [if_pos c1] at H; exact absurd H (by simp)
 ·rw [if_neg c1] at H; have c1b0 : decide ((l0.length : Int) < 20) = false := decide_eq_false c1; have c1b1 : decide (l0.length < 20) = false := decide_eq_false (by omega); obtain ⟨ad, ea, hx⟩ := Kd.at_int HR0.out 0 (by omega) (by omega); cases ea; rw [show ((0 : Int)).toNat = 0 from rfl, Addr.add_zero'] at hx; have HX0 := Aside0.mk hx; clear hx; have qi0 : (0 < l0.length) = True := eq_true (by omega); have qj0 : ((0 : Int) < (l0.length : Int)) = True := eq_true (by omega)
  by_cases c2 : (rd l0 0) / 16 = 4
  ·rw [if_pos c2] at H; have c2b0 : (((rd l0 0) / 16) == 4) = true := beq_iff_eq.mpr c2; have c2b1 : (((rd l0 0) / 16) != 4) = false := bne_eq_false_iff_eq.mpr c2; clear c2
   by_cases c3 : n < 20
   ·rw [if_pos c3] at H; exact absurd H (by simp)
   ·rw [if_neg c3] at H; have c3b0 : decide (n < 20) = false := decide_eq_false c3; clear c3
    by_cases c4 : (l0.length : Int) < wrap64 (n + 8)
    ·rw [if_pos c4] at H; exact absurd H (by simp)
    ·rw [if_neg c4] at H; have c4b0 : decide ((l0.length : Int) < wrap64 (n + 8)) = false := decide_eq_false c4; clear c4; obtain ⟨o, A_, H⟩ := Option.bind_eq_some_iff.mp H; have AO := Aside0.mk A_; clear A_
     by_cases c5 : Go.bits .and .i64 o 8191 = 0
     ·rw [if_pos c5] at H; have c5b0 : ((Go.bits .and .i64 o 8191) == 0) = true := beq_iff_eq.mpr c5; have c5b1 : ((Go.bits .and .i64 o 8191) != 0) = false := bne_eq_false_iff_eq.mpr c5; clear c5; obtain ⟨s, A_, H⟩ := Option.bind_eq_some_iff.mp H; have AS := Aside0.mk A_; clear A_; obtain ⟨d, A_, H⟩ := Option.bind_eq_some_iff.mp H; have AD := Aside0.mk A_; clear A_
      by_cases c6 : 0 ≤ n ∧ n ≤ (l0.length : Int) ∧ 0 < ((l0.drop n.toNat).length : Int)
      rotate_left
      ·rw [if_neg c6] at H; exact absurd H (by simp)
      rw [if_pos c6] at H; obtain ⟨n0, n1, n2⟩ := c6; obtain ⟨i0_, hi0, _, hs0, _⟩ := info_parts info5; obtain ⟨A2, hcut2, hA2, hC2⟩ := print_drop_of (P := Try.prog) (Value.int .u8) 0 24 5 .i64 Try.underlying24 hi0 hs0 (some ad) c0 l0 n n0 n1 HC0.out; generalize l0.drop n.toNat = dl at hcut2 hA2 hC2 n2 H; have hrd : Kd.C (Kd.int .u8) w A2 dl.length dl := Kd.C_of_reads (h1 := fun _ => rfl) (hA2 _ (Kd.reads_of_C HR0.out)); obtain ⟨adx, eax, hxx⟩ := Kd.at_int hrd 0 (by omega) n2; subst eax; rw [show ((0 : Int)).toNat = 0 from rfl, Addr.add_zero'] at hxx; have HXX := Aside0.mk hxx; have HRD := Aside0.mk hrd; have HCD := Aside0.mk hC2; have qx0 : (0 < dl.length) = True := eq_true (by omega); have qx1 : ((0 : Int) < (dl.length : Int)) = True := eq_true n2; clear hrd hxx hA2 hC2 n0 n1 n2 hi0 hs0; obtain ⟨ad9, ea9, hx9⟩ := Kd.at_int HR0.out 9 (by omega) (by omega)
      injection ea9 with ea9
      subst ea9; simp only [show (9 : Int).toNat = 9 from rfl, Nat.reduceMul, Nat.reduceEqDiff, Go.Addr.add, ↓reduceIte] at hx9; have HX9 := Aside0.mk hx9; clear hx9; have qi9 : (9 < l0.length) = True := eq_true (by omega); have qj9 : ((9 : Int) < (l0.length : Int)) = True := eq_true (by omega); have c1' := Aside0.mk c1; clear c1; have HH := Aside0.mk H; clear H; go_enter Try.func88, Try.ntmps88
      go_upto_region 4 with (first | ((with_reducible refine gate_callee (f := 68) rfl ?_); refine goesL_ (some 7) rfl rfl Try.func68 (by kernel_rfl) rfl #[.slice (some ad) l0.length c0] rfl (by (try simp only [LmA, LmB, LmC]); first | done | rfl | (simp only [LdA, LtA]; rfl)) ?_; refine (ip_Header.calls _ _ l0 n _ (HO.out.old HR0.out) HC0.out AN.out).mono ?_; rintro e w1 ⟨rfl, hd_⟩; refine ⟨_, rfl, ?_⟩; replace HO := Aside0.mk (HO.out.drawn hd_); clear hd_; have HX1 := HO.out.cell_old HX0.out (Nat.ne_of_lt (block_lt_of_cell HX0.out)); clear HF; have HF := HO.out.facts; simp only [OwnsM.Facts, and_true] at HF) | ((with_reducible refine gate_callee (f := 49) rfl ?_); (try (refine gate_guard (by rfl) ?_; dsimp only)); refine goesL_ (some 31) rfl rfl Try.func49 (by kernel_rfl) rfl #[.slice (some ad) l0.length c0, .int .i64 6] rfl (by (try simp only [LmA, LmB, LmC]); first | done | rfl | (simp only [LdA, LtA]; rfl)) ?_; refine (word_Get16.calls _ _ l0 6 o _ (HO.out.old HR0.out) HC0.out AO.out).mono ?_; rintro e w1 ⟨rfl, hd_⟩; refine ⟨_, rfl, ?_⟩; replace HO := Aside0.mk (HO.out.drawn hd_); clear hd_; try clear HX1; clear HF; have HF := HO.out.facts; simp only [OwnsM.Facts, and_true] at HF))
      have HO1_ := Aside0.mk HO.out.drew; clear HO HF; have HO := HO1_; clear HO1_; refine start_ (n := 11) (S := fun w' => w'.cell? ⟨ad.block, ad.off + 9, none⟩ = some (.int .u8 (rd l0 9))) (ds := [9]) (bm 11 0) (by kernel_rfl) rfl rfl (HO.out.cell_old HX9.out (Nat.ne_of_lt (block_lt_of_cell HX9.out))) (fun hHeld => ?_); refine with_tabW pack_inner.tab4 pack_inner.bits4 (fun HT_ HW_ => ?_)
      generalize w1.drew = w1 at HO hHeld ⊢; refine pure_ (i := 0) (N := some 35) (v := ?_) (a' := ?_) (bm 11 1) rfl rfl (any_of HT_.out (by kernel_rfl)) (fun _ _ _ h => h) (Or.inl ⟨by rfl, ?_⟩) ?_ ?_; rotate_left
      ·intro w'; go_simp; with_reducible rfl
      rotate_left
      ·simp only [Act.put, LsA, LsB, LsC, i64_w, i32_w]; rfl
      refine pure_ (i := 1) (N := some 36) (v := ?_) (a' := ?_) (bm 11 3) rfl rfl (any_of HT_.out (by kernel_rfl)) (fun _ _ _ h => h) (Or.inl ⟨by rfl, ?_⟩) ?_ ?_; rotate_left
      ·intro w'; go_simp; with_reducible rfl
      rotate_left
      ·simp only [Act.put, LsA, LsB, LsC, i64_w, i32_w]; rfl
      refine pure_ (i := 4) (N := some 39) (v := ?_) (a' := ?_) (bm 11 19) rfl rfl (any_of HT_.out (by kernel_rfl)) (fun _ _ _ h => h) (Or.inl ⟨by rfl, ?_⟩) ?_ ?_; rotate_left
      ·intro w'; go_simp; with_reducible rfl
      rotate_left
      ·simp only [Act.put, LsA, LsB, LsC, i64_w, i32_w]; rfl
      refine pure_ (i := 6) (N := some 41) (v := ?_) (a' := ?_) (bm 11 83) rfl rfl (any_of HT_.out (by kernel_rfl)) (fun _ _ _ h => h) (Or.inl ⟨by rfl, ?_⟩) ?_ ?_; rotate_left
      ·intro w'; go_simp; with_reducible rfl
      rotate_left
      ·simp only [Act.put, LsA, LsB, LsC, i64_w, i32_w]; rfl
      refine take_ (i := 2) (N := some 37) (v := ?_) (a' := ?_) (bm 11 87) rfl rfl (take_ofW HT_.out HW_.out (by kernel_rfl)) (fun _ _ _ h => h) (Or.inl ⟨by rfl, ?_⟩) hHeld ?_ ?_; rotate_left
      ·intro w' s0; go_simp; with_reducible rfl
      rotate_left
      ·simp only [Act.put, LsA, LsB, LsC, i64_w, i32_w]; rfl
      refine pure_ (i := 3) (N := some 38) (v := ?_) (a' := ?_) (bm 11 95) rfl rfl (any_of HT_.out (by kernel_rfl)) (fun _ _ _ h => h) (Or.inl ⟨by rfl, ?_⟩) ?_ ?_; rotate_left
      ·intro w'; go_simp; with_reducible rfl
      rotate_left
      ·simp only [Act.put, LsA, LsB, LsC, i64_w, i32_w]; rfl
      refine one_ (i := 5) (N := some 40) (bm 11 127) rfl rfl (one_of HT_.out (by kernel_rfl)) (by decide) (fun K hK => ?_); refine goes_ Try.func69 (by kernel_rfl) rfl #[.slice (some ad) l0.length c0, .int .i64 12] (by rfl) rfl rfl (by (try simp only [LmA, LmB, LmC]); first | done | rfl | (simp only [LdA, LtA]; rfl)) ?_; refine (word_Get32.calls k _ _ l0 12 s _ (HO.out.old HR0.out) HC0.out AS.out).mono ?_; rintro e w1 ⟨rfl, hd_⟩; refine ⟨_, rfl, ?_⟩; replace HO := Aside0.mk (HO.out.drawn hd_); clear hd_; refine hK.out _ _ (HO.out.cell_old HX9.out (Nat.ne_of_lt (block_lt_of_cell HX9.out))) (fun hHeld => ?_); clear hK K; refine norm_ (a' := ?_) ?_ ?_; rotate_left
      ·show Act.put _ (some 40) _ = _; simp only [Act.put, LsA, LsB, LsC, i64_w, i32_w]; rfl
      refine one_ (i := 7) (N := some 42) (bm 11 255) rfl rfl (one_of HT_.out (by kernel_rfl)) (by decide) (fun K hK => ?_); refine goes_ Try.func69 (by kernel_rfl) rfl #[.slice (some ad) l0.length c0, .int .i64 16] (by rfl) rfl rfl (by (try simp only [LmA, LmB, LmC]); first | done | rfl | (simp only [LdA, LtA]; rfl)) ?_; refine (word_Get32.calls k _ _ l0 16 d _ (HO.out.old HR0.out) HC0.out AD.out).mono ?_; rintro e w1 ⟨rfl, hd_⟩; refine ⟨_, rfl, ?_⟩; replace HO := Aside0.mk (HO.out.drawn hd_); clear hd_; refine hK.out _ _ (HO.out.cell_old HX9.out (Nat.ne_of_lt (block_lt_of_cell HX9.out))) (fun hHeld => ?_); clear hK K; refine norm_ (a' := ?_) ?_ ?_; rotate_left
      ·show Act.put _ (some 42) _ = _; simp only [Act.put, LsA, LsB, LsC, i64_w, i32_w]; rfl
      refine pure_ (i := 8) (N := some 43) (v := ?_) (a' := ?_) (bm 11 511) rfl rfl (any_of HT_.out (by kernel_rfl)) (fun _ _ _ h => h) (Or.inl ⟨by rfl, ?_⟩) ?_ ?_; rotate_left
      ·intro w'; go_simp; with_reducible rfl
      rotate_left
      ·simp only [Act.put, LsA, LsB, LsC, i64_w, i32_w]; rfl
      refine last_ (i := 9) (N := some 44) (bm 11 1023) rfl rfl (one_of HT_.out (by kernel_rfl)) (by decide) (fun K hK => ?_); refine ow_box_step HO (by rfl) (N := 44) rfl #[.int .i64 (wrap64 (rd l0 9)), .int .u32 s, .int .u32 d, .int .i64 0, .int .i64 0] 35 ?hr rfl (fun gk w1 HO1_ => ?_); (case hr => first | (go_simp; done) | (go_simp; rfl))
      clear HO; have HO := HO1_; clear HO1_; refine hK.out _ _ ?_; clear hK K; refine norm_ (a' := ?_) ?_ ?_; rotate_left
      ·show Act.put _ (some 44) _ = _; simp only [Act.put, LsA, LsB, LsC, i64_w, i32_w]; rfl
      refine pure_ (i := 10) (N := some 4) (v := ?_) (a' := ?_) (bm 11 2047) rfl rfl (any_of HT_.out (by kernel_rfl)) (fun _ _ _ h => h) (Or.inl ⟨by rfl, ?_⟩) ?_ ?_; rotate_left
      ·intro w'; go_simp; with_reducible rfl
      rotate_left
      ·simp only [Act.put, LsA, LsB, LsC, i64_w, i32_w]; rfl
      refine done_ (done_of HT_.out (by kernel_rfl)) ?_; have HF := HO.out.facts; simp only [OwnsM.Facts, and_true] at HF
      have H := HH.out; clear HH; unfold pack_inner.g at H
      by_cases p1 : (wrap64 (rd l0 9)) = 6
      ·rw [if_pos p1] at H; have p1b0 : ((wrap64 (rd l0 9)) == 6) = true := beq_iff_eq.mpr p1; have p1b1 : ((wrap64 (rd l0 9)) != 6) = false := bne_eq_false_iff_eq.mpr p1; clear p1; obtain ⟨⟨a, b⟩, A_, H⟩ := Option.bind_eq_some_iff.mp H; have AA := Aside0.mk A_; clear A_
       try dsimp only at H
       obtain rfl := Option.some.inj H
       go_wp2_with (first | ((with_reducible refine gate_callee (f := 85) rfl ?_); refine goesL_ (some 65) rfl rfl Try.func85 (by kernel_rfl) rfl #[.slice (some adx) dl.length (c0 - n.toNat)] rfl (by (try simp only [LmA, LmB, LmC]); first | done | rfl | (simp only [LdA, LtA]; rfl)) ?_; refine (pack_ports.calls _ _ dl a b _ (HO.out.old HRD.out) HCD.out AA.out).mono ?_; rintro e w1 ⟨rfl, hd_⟩; refine ⟨_, rfl, ?_⟩; replace HO := Aside0.mk (HO.out.drawn hd_); clear hd_; clear HF; have HF := HO.out.facts; simp only [OwnsM.Facts, and_true] at HF) | ((with_reducible refine gate_store (p := 69) rfl ?_); (first | (refine ow_putc HO rfl rfl 0 rfl 3 ?_ ?hr ?_; (case hr => first | (go_simp; done) | (go_simp; rfl)))); clear HO HF; intro w1 HO; simp only [LsB, LsC, LsA] at HO; have HF := HO.out.facts; simp only [OwnsM.Facts, and_true] at HF) | ((with_reducible refine gate_store (p := 71) rfl ?_); (first | (refine ow_putc HO rfl rfl 0 rfl 4 ?_ ?hr ?_; (case hr => first | (go_simp; done) | (go_simp; rfl)))); clear HO HF; intro w1 HO; simp only [LsB, LsC, LsA] at HO; have HF := HO.out.facts; simp only [OwnsM.Facts, and_true] at HF))
       go_ret; exact ⟨_, rfl, ⟨gk, rfl, HO.out.ge 0 rfl, HO.out.at_ 0 rfl⟩, HO.out.below⟩
      ·rw [if_neg p1] at H; have p1b0 : ((wrap64 (rd l0 9)) == 6) = false := beq_eq_false_iff_ne.mpr p1; have p1b1 : ((wrap64 (rd l0 9)) != 6) = true := bne_iff_ne.mpr p1; clear p1
       by_cases p2 : (wrap64 (rd l0 9)) = 17
       ·rw [if_pos p2] at H; have p2b0 : ((wrap64 (rd l0 9)) == 17) = true := beq_iff_eq.mpr p2; have p2b1 : ((wrap64 (rd l0 9)) != 17) = false := bne_eq_false_iff_eq.mpr p2; clear p2; obtain ⟨⟨a, b⟩, A_, H⟩ := Option.bind_eq_some_iff.mp H; have AA := Aside0.mk A_; clear A_
        try dsimp only at H
        obtain rfl := Option.some.inj H
        go_wp2_with (first | ((with_reducible refine gate_callee (f := 85) rfl ?_); refine goesL_ (some 65) rfl rfl Try.func85 (by kernel_rfl) rfl #[.slice (some adx) dl.length (c0 - n.toNat)] rfl (by (try simp only [LmA, LmB, LmC]); first | done | rfl | (simp only [LdA, LtA]; rfl)) ?_; refine (pack_ports.calls _ _ dl a b _ (HO.out.old HRD.out) HCD.out AA.out).mono ?_; rintro e w1 ⟨rfl, hd_⟩; refine ⟨_, rfl, ?_⟩; replace HO := Aside0.mk (HO.out.drawn hd_); clear hd_; clear HF; have HF := HO.out.facts; simp only [OwnsM.Facts, and_true] at HF) | ((with_reducible refine gate_store (p := 69) rfl ?_); (first | (refine ow_putc HO rfl rfl 0 rfl 3 ?_ ?hr ?_; (case hr => first | (go_simp; done) | (go_simp; rfl)))); clear HO HF; intro w1 HO; simp only [LsB, LsC, LsA] at HO; have HF := HO.out.facts; simp only [OwnsM.Facts, and_true] at HF) | ((with_reducible refine gate_store (p := 71) rfl ?_); (first | (refine ow_putc HO rfl rfl 0 rfl 4 ?_ ?hr ?_; (case hr => first | (go_simp; done) | (go_simp; rfl)))); clear HO HF; intro w1 HO; simp only [LsB, LsC, LsA] at HO; have HF := HO.out.facts; simp only [OwnsM.Facts, and_true] at HF))
        go_ret; exact ⟨_, rfl, ⟨gk, rfl, HO.out.ge 0 rfl, HO.out.at_ 0 rfl⟩, HO.out.below⟩
       ·rw [if_neg p2] at H; have p2b0 : ((wrap64 (rd l0 9)) == 17) = false := beq_eq_false_iff_ne.mpr p2; have p2b1 : ((wrap64 (rd l0 9)) != 17) = true := bne_iff_ne.mpr p2; clear p2
        by_cases p3 : (wrap64 (rd l0 9)) = 1
        ·rw [if_pos p3] at H; have p3b0 : ((wrap64 (rd l0 9)) == 1) = true := beq_iff_eq.mpr p3; have p3b1 : ((wrap64 (rd l0 9)) != 1) = false := bne_eq_false_iff_eq.mpr p3; clear p3; have hxN := HO.out.cell_old HXX.out (Nat.ne_of_lt (block_lt_of_cell HXX.out)); obtain ⟨q, A_, H⟩ := Option.bind_eq_some_iff.mp H; have AQ := Aside0.mk A_; clear A_; cases q
         ·rw [if_neg Bool.false_ne_true] at H; obtain rfl := Option.some.inj H
          go_wp2_with (first | (go_at_call 87; refine (icmp_Query.calls _ _ _ AQ.out).mono ?_; rintro e w1 ⟨rfl, hd_⟩; replace HO := Aside0.mk (HO.out.drawn hd_); clear hd_; clear hxN; clear HF; have HF := HO.out.facts; simp only [OwnsM.Facts, and_true] at HF))
          go_ret; exact ⟨_, rfl, ⟨gk, rfl, HO.out.ge 0 rfl, HO.out.at_ 0 rfl⟩, HO.out.below⟩
         ·rw [if_pos rfl] at H; obtain ⟨a, A_, H⟩ := Option.bind_eq_some_iff.mp H; have AA := Aside0.mk A_; clear A_; obtain rfl := Option.some.inj H
          go_wp2_with (first | (go_at_call 87; refine (icmp_Query.calls _ _ _ AQ.out).mono ?_; rintro e w1 ⟨rfl, hd_⟩; replace HO := Aside0.mk (HO.out.drawn hd_); clear hd_; clear hxN; clear HF; have HF := HO.out.facts; simp only [OwnsM.Facts, and_true] at HF) | ((with_reducible refine gate_callee (f := 49) rfl ?_); refine goesL_ (some 87) rfl rfl Try.func49 (by kernel_rfl) rfl #[.slice (some adx) dl.length (c0 - n.toNat), .int .i64 4] rfl (by (try simp only [LmA, LmB, LmC]); first | done | rfl | (simp only [LdA, LtA]; rfl)) ?_; refine (word_Get16.calls _ _ dl 4 a _ (HO.out.old HRD.out) HCD.out AA.out).mono ?_; rintro e w1 ⟨rfl, hd_⟩; refine ⟨_, rfl, ?_⟩; replace HO := Aside0.mk (HO.out.drawn hd_); clear hd_; clear HF; have HF := HO.out.facts; simp only [OwnsM.Facts, and_true] at HF) | ((with_reducible refine gate_store (p := 89) rfl ?_); (first | (refine ow_putc HO rfl rfl 0 rfl 3 ?_ ?hr ?_; (case hr => first | (go_simp; done) | (go_simp; rfl)))); clear HO HF; intro w1 HO; simp only [LsB, LsC, LsA] at HO; have HF := HO.out.facts; simp only [OwnsM.Facts, and_true] at HF) | ((with_reducible refine gate_store (p := 96) rfl ?_); (first | (refine ow_putc HO rfl rfl 0 rfl 4 ?_ ?hr ?_; (case hr => first | (go_simp; done) | (go_simp; rfl)))); clear HO HF; intro w1 HO; simp only [LsB, LsC, LsA] at HO; have HF := HO.out.facts; simp only [OwnsM.Facts, and_true] at HF))
          go_ret; exact ⟨_, rfl, ⟨gk, rfl, HO.out.ge 0 rfl, HO.out.at_ 0 rfl⟩, HO.out.below⟩
        ·rw [if_neg p3] at H; have p3b0 : ((wrap64 (rd l0 9)) == 1) = false := beq_eq_false_iff_ne.mpr p3; have p3b1 : ((wrap64 (rd l0 9)) != 1) = true := bne_iff_ne.mpr p3; clear p3; obtain rfl := Option.some.inj H; go_wp2; go_ret; exact ⟨_, rfl, ⟨gk, rfl, HO.out.ge 0 rfl, HO.out.at_ 0 rfl⟩, HO.out.below⟩
     ·rw [if_neg c5] at H; have c5b0 : ((Go.bits .and .i64 o 8191) == 0) = false := beq_eq_false_iff_ne.mpr c5; have c5b1 : ((Go.bits .and .i64 o 8191) != 0) = true := bne_iff_ne.mpr c5; clear c5; obtain rfl := Option.some.inj H; go_enter Try.func88, Try.ntmps88
      go_wp2_with (first | ((with_reducible refine gate_callee (f := 68) rfl ?_); refine goesL_ (some 7) rfl rfl Try.func68 (by kernel_rfl) rfl #[.slice (some ad) l0.length c0] rfl (by (try simp only [LmA, LmB, LmC]); first | done | rfl | (simp only [LdA, LtA]; rfl)) ?_; refine (ip_Header.calls _ _ l0 n _ (HO.out.old HR0.out) HC0.out AN.out).mono ?_; rintro e w1 ⟨rfl, hd_⟩; refine ⟨_, rfl, ?_⟩; replace HO := Aside0.mk (HO.out.drawn hd_); clear hd_; have HX1 := HO.out.cell_old HX0.out (Nat.ne_of_lt (block_lt_of_cell HX0.out)); clear HF; have HF := HO.out.facts; simp only [OwnsM.Facts, and_true] at HF) | ((with_reducible refine gate_callee (f := 49) rfl ?_); (try (refine gate_guard (by rfl) ?_; dsimp only)); refine goesL_ (some 31) rfl rfl Try.func49 (by kernel_rfl) rfl #[.slice (some ad) l0.length c0, .int .i64 6] rfl (by (try simp only [LmA, LmB, LmC]); first | done | rfl | (simp only [LdA, LtA]; rfl)) ?_; refine (word_Get16.calls _ _ l0 6 o _ (HO.out.old HR0.out) HC0.out AO.out).mono ?_; rintro e w1 ⟨rfl, hd_⟩; refine ⟨_, rfl, ?_⟩; replace HO := Aside0.mk (HO.out.drawn hd_); clear hd_; try clear HX1; clear HF; have HF := HO.out.facts; simp only [OwnsM.Facts, and_true] at HF))
      go_ret; exact ⟨none, rfl, rfl, HO.out.below⟩
  ·rw [if_neg c2] at H; exact absurd H (by simp)
def pack_ofICMP.g (k : Nat) (d : List Int) : Option (Int × Int × Int × Option K5 × Int) := if 8 ≤ (d.length : Int) then ((icmp_Query.f (wrap64 (rd d 0))).bind fun q =>
 if q = true then none else ((icmp_Bad.f (wrap64 (rd d 0))).bind fun bd => if bd = true then ((pack_inner.f k (d.drop 8)).bind fun key => some (0, wrap64 (rd d 0), wrap64 (rd d 1), key, 0)) else none)) else none
def pack_ofICMP.f (k : Nat) (cl : Int) (d : List Int) : Option (Int × Int × Int × Option K5 × Int) := (icmp_Parse.f k d).bind fun m =>
 if cl = 1 then (none) else if m.2.2.2.2 = 0 then pack_ofICMP.g k d else none
def pack_ofICMP.T7 : Bool × List (List Nat × List Nat) := (true, [([], []), ([], []), ([], []), ([2], [2]), ([3], [3]), ([4], [4]), ([], []), ([6], [6]), ([7], [7]), ([8], [8]), ([0, 0, 2, 3, 4, 5, 8], [0]), ([10, 0, 2, 3, 4, 5, 8], [10]), ([11, 5, 0, 2, 3, 4, 5, 8], [5, 11]), ([1, 0, 1, 2, 3, 4, 5, 6, 7, 8, 9, 10, 11, 12], [1]), ([13, 0, 1, 2, 3, 4, 5, 6, 7, 8, 9, 10, 11, 12], [13]), ([14, 9, 12, 0, 1, 2, 3, 4, 5, 6, 7, 8, 9, 10, 11, 12], [9, 14])])
def pack_ofICMP.B7 : List Nat := [0, 0, 0, 4, 12, 28, 0, 64, 192, 448, 509, 1533, 3581, 8191, 16383, 32767]
theorem pack_ofICMP.tab7 : rtab .any (opsOf Try.f63 7) = pack_ofICMP.T7 := by kernel_rfl
theorem pack_ofICMP.bits7 : waitsOk pack_ofICMP.T7.2 pack_ofICMP.B7 = true := by kernel_rfl
set_option maxHeartbeats 8000000 in
set_option maxRecDepth 100000 in
theorem pack_ofICMP.hand (k g : Nat) (t1 t2 : Int) (t3 t4 : Bool) (t5 t6 t7 t8 t9 : Int) (Ao : Option Addr) (no co : Nat) (Ad : Option Addr) (cd : Nat) (d : List Int) (cl : Int) (a ty code : Int) (key : Option K5) (e : Int) (w : World) (hb0 : w.heap[g]? = some (.cells #[.int .i64 t1, .int .i64 t2, .bool t3, .bool t4, .int .i64 t5, .int .i64 t6, .int .i64 t7, .int .u32 t8, .int .u32 t9, .slice Ao no co, .slice Ad d.length cd, .int .i64 cl, .int .i64 0, .int .i64 0, .int .i64 0, .int .i64 0, .int .i64 0, .pointer none] 29 (0, 0))) (hr : Kd.C (Kd.int .u8) w Ad d.length d) (hc : d.length ≤ cd) (h : pack_ofICMP.f k cl d = some (a, ty, code, key, e)) :
  Calls Try.prog 63 #[.pointer (some ⟨g, 0, none⟩)] w fun e' w' => ∃ vi, e' = .returned (.int .i64 e) ∧ Turned w w' g #[.int .i64 t1, .int .i64 t2, .bool t3, .bool t4, .int .i64 t5, .int .i64 t6, .int .i64 t7, .int .u32 t8, .int .u32 t9, .slice Ao no co, .slice Ad d.length cd, .int .i64 cl, .int .i64 a, .int .i64 a, .int .i64 0, .int .i64 ty, .int .i64 code, .pointer vi] 29 ∧ KeyAt w.heap.size w' 35 vi key := by
 have HO := Aside0.mk (OwnsM.one hb0 rfl); have hb := Aside0.mk hb0; clear hb0; have HF := HO.out.facts; simp only [OwnsM.Facts, and_true] at HF
 unfold pack_ofICMP.f at h; have H := h; clear h; obtain ⟨⟨m1, m2, m3, m4, m5⟩, A_, H⟩ := Option.bind_eq_some_iff.mp H; have AM := Aside0.mk A_; clear A_
 try dsimp only at H
 by_cases c1 : cl = 1
 ·rw [if_pos c1] at H; exact absurd H (by simp)
 ·rw [if_neg c1] at H; have c1b0 : (cl == 1) = false := beq_eq_false_iff_ne.mpr c1; have c1b1 : (cl != 1) = true := bne_iff_ne.mpr c1; clear c1
  by_cases c2 : m5 = 0
  ·rw [if_pos c2] at H; have c2b0 : (m5 == 0) = true := beq_iff_eq.mpr c2; have c2b1 : (m5 != 0) = false := bne_eq_false_iff_eq.mpr c2; clear c2; unfold pack_ofICMP.g at H
   by_cases c8 : 8 ≤ (d.length : Int)
   rotate_left
   ·rw [if_neg c8] at H; exact absurd H (by simp)
   rw [if_pos c8] at H; obtain ⟨ad, ea, hx0⟩ := Kd.at_int hr 0 (by omega) (by omega); subst ea; clear hx0; have q0 : (0 < d.length) = True := eq_true (by omega); have q1 : (1 < d.length) = True := eq_true (by omega); have r0 : ((0 : Int) < (d.length : Int)) = True := eq_true (by omega); have r1 : ((1 : Int) < (d.length : Int)) = True := eq_true (by omega); obtain ⟨i0_, hi0, _, hs0, _⟩ := info_parts info5; obtain ⟨A8, hcut8, hA8, hC8⟩ := print_drop_of (P := Try.prog) (Value.int .u8) 0 24 5 .i64 Try.underlying24 hi0 hs0 (some ad) cd d 8 (by decide) c8 hc; rw [show (8 : Int).toNat = 8 from rfl] at hcut8 hA8 hC8; have C8 := Aside0.mk c8; clear c8; generalize d.drop 8 = dl at hcut8 hA8 hC8 H
   have HRD : Aside0 (Kd.C (Kd.int .u8) w A8 dl.length dl) := ⟨Kd.C_of_reads (h1 := fun _ => rfl) (hA8 _ (Kd.reads_of_C hr))⟩
   have HCD := Aside0.mk hC8; clear hA8 hC8 hi0 hs0; obtain ⟨q, A_, H⟩ := Option.bind_eq_some_iff.mp H; have AQ := Aside0.mk A_; clear A_; have HH := Aside0.mk H; clear H; go_enter Try.func63, Try.ntmps63
   go_upto_region 7 with (first | ((with_reducible refine gate_callee (f := 86) rfl ?_); refine goesL_ (some 13) rfl rfl Try.func86 (by kernel_rfl) rfl #[.slice (some ad) d.length cd] rfl (by (try simp only [LmA, LmB, LmC]); first | done | rfl | (simp only [LdA, LtA]; rfl)) ?_; refine (icmp_Parse.calls k _ _ d m1 m2 m3 m4 m5 _ (HO.out.oldm hr hb.out (fun v hv x e => by subst e; simp at hv)) hc AM.out).mono ?_; rintro e w1 ⟨v1, rfl, h1, hb1⟩; obtain ⟨Ax, cx, rfl⟩ := Kd.R_slice h1; refine ⟨_, rfl, ?_⟩; replace HO := Aside0.mk (HO.out.call1 hb1 h1); clear hb1 h1; clear HF; have HF := HO.out.facts; simp only [OwnsM.Facts, and_true] at HF) | ((with_reducible refine gate_dst (N := 4) rfl ?_); refine ow_box HO rfl (N := 4) rfl #[.int .i64 0, .int .i64 0, .int .u32 0, .slice none 0 0] 50 ?hr rfl ?_; (case hr => first | (go_simp; done) | (go_simp; rfl)); clear HO HF; intro g4 w1 HO; have HF := HO.out.facts; simp only [OwnsM.Facts, and_true] at HF) | ((with_reducible refine gate_store (p := 4) rfl ?_); (first | refine ow_put HO rfl rfl 0 rfl (ty := 50) rfl _ rfl rfl (by kernel_rfl) rfl rfl ?_); clear HO HF; intro w1 HO; simp only [LsB, LsC, LsA] at HO; have HF := HO.out.facts; simp only [OwnsM.Facts, and_true] at HF))
   have HO1_ := Aside0.mk HO.out.drew; clear HO HF; have HO := HO1_; clear HO1_; refine start_ (n := 16) (S := fun w' => w'.cell? ad = some (.int .u8 (rd d 0)) ∧ w'.cell? ⟨ad.block, ad.off + 1, none⟩ = some (.int .u8 (rd d 1))) (ds := [15]) (bm 16 0) (by kernel_rfl) rfl rfl ⟨(by have h_ := Kd.foot_int (HO.out.oldm hr hb.out (fun v hv x e => by subst e; simp at hv)) 0 (by omega) (by have := C8.out; omega); rw [show ((0 : Int)).toNat = 0 from rfl, Addr.add_zero'] at h_; exact h_), (Kd.foot_int (HO.out.oldm hr hb.out (fun v hv x e => by subst e; simp at hv)) 1 (by omega) (by have := C8.out; omega))⟩ (fun hHeld => ?_); refine with_tabW pack_ofICMP.tab7 pack_ofICMP.bits7 (fun HT_ HW_ => ?_)
   generalize w1.drew = w1 at HO hHeld ⊢; refine pure_ (i := 0) (N := some 26) (v := ?_) (a' := ?_) (bm 16 1) rfl rfl (any_of HT_.out (by kernel_rfl)) (fun _ _ _ h => h) (Or.inl ⟨by rfl, ?_⟩) ?_ ?_; rotate_left
   ·intro w'; go_simp; with_reducible rfl
   rotate_left
   ·simp only [Act.put, LsA, LsB, LsC, i64_w, i32_w]; rfl
   refine pure_ (i := 1) (N := some 27) (v := ?_) (a' := ?_) (bm 16 3) rfl rfl (any_of HT_.out (by kernel_rfl)) (fun _ _ _ h => h) (Or.inl ⟨by rfl, ?_⟩) ?_ ?_; rotate_left
   ·intro w'; go_simp; with_reducible rfl
   rotate_left
   ·simp only [Act.put, LsA, LsB, LsC, i64_w, i32_w]; rfl
   refine pure_ (i := 2) (N := some 28) (v := ?_) (a' := ?_) (bm 16 7) rfl rfl (any_of HT_.out (by kernel_rfl)) (fun _ _ _ h => h) (Or.inl ⟨by rfl, ?_⟩) ?_ ?_; rotate_left
   ·intro w'; go_simp; with_reducible rfl
   rotate_left
   ·simp only [Act.put, LsA, LsB, LsC, i64_w, i32_w]; rfl
   refine pure_ (i := 3) (N := some 29) (v := ?_) (a' := ?_) (bm 16 15) rfl rfl (any_of HT_.out (by kernel_rfl)) (fun _ _ _ h => h) (Or.inl ⟨by rfl, ?_⟩) ?_ ?_; rotate_left
   ·intro w'; go_simp; with_reducible rfl
   rotate_left
   ·simp only [Act.put, LsA, LsB, LsC, i64_w, i32_w]; rfl
   refine pure_ (i := 6) (N := some 32) (v := ?_) (a' := ?_) (bm 16 79) rfl rfl (any_of HT_.out (by kernel_rfl)) (fun _ _ _ h => h) (Or.inl ⟨by rfl, ?_⟩) ?_ ?_; rotate_left
   ·intro w'; go_simp; with_reducible rfl
   rotate_left
   ·simp only [Act.put, LsA, LsB, LsC, i64_w, i32_w]; rfl
   refine pure_ (i := 7) (N := some 33) (v := ?_) (a' := ?_) (bm 16 207) rfl rfl (any_of HT_.out (by kernel_rfl)) (fun _ _ _ h => h) (Or.inl ⟨by rfl, ?_⟩) ?_ ?_; rotate_left
   ·intro w'; go_simp; with_reducible rfl
   rotate_left
   ·simp only [Act.put, LsA, LsB, LsC, i64_w, i32_w]; rfl
   refine take_ (i := 4) (N := some 30) (v := ?_) (a' := ?_) (bm 16 223) rfl rfl (take_ofW HT_.out HW_.out (by kernel_rfl)) (fun _ _ _ h => h) (Or.inl ⟨by rfl, ?_⟩) hHeld ?_ ?_; rotate_left
   ·rintro w' ⟨s0, s1⟩; go_simp; with_reducible rfl
   rotate_left
   ·simp only [Act.put, LsA, LsB, LsC, i64_w, i32_w]; rfl
   refine pure_ (i := 5) (N := some 31) (v := ?_) (a' := ?_) (bm 16 255) rfl rfl (any_of HT_.out (by kernel_rfl)) (fun _ _ _ h => h) (Or.inl ⟨by rfl, ?_⟩) ?_ ?_; rotate_left
   ·intro w'; go_simp; with_reducible rfl
   rotate_left
   ·simp only [Act.put, LsA, LsB, LsC, i64_w, i32_w]; rfl
   refine take_ (i := 8) (N := some 34) (v := ?_) (a' := ?_) (bm 16 511) rfl rfl (take_ofW HT_.out HW_.out (by kernel_rfl)) (fun _ _ _ h => h) (Or.inl ⟨by rfl, ?_⟩) hHeld ?_ ?_; rotate_left
   ·rintro w' ⟨s0, s1⟩; go_simp; with_reducible rfl
   rotate_left
   ·simp only [Act.put, LsA, LsB, LsC, i64_w, i32_w]; rfl
   refine pure_ (i := 9) (N := some 35) (v := ?_) (a' := ?_) (bm 16 1023) rfl rfl (any_of HT_.out (by kernel_rfl)) (fun _ _ _ h => h) (Or.inl ⟨by rfl, ?_⟩) ?_ ?_; rotate_left
   ·intro w'; go_simp; with_reducible rfl
   rotate_left
   ·simp only [Act.put, LsA, LsB, LsC, i64_w, i32_w]; rfl
   refine pure_ (i := 10) (N := some 36) (v := ?_) (a' := ?_) (bm 16 2047) rfl rfl (any_of HT_.out (by kernel_rfl)) (fun _ _ _ h => h) (Or.inl ⟨by rfl, ?_⟩) ?_ ?_; rotate_left
   ·intro w'; go_simp; with_reducible rfl
   rotate_left
   ·simp only [Act.put, LsA, LsB, LsC, i64_w, i32_w]; rfl
   refine pure_ (i := 11) (N := some 37) (v := ?_) (a' := ?_) (bm 16 4095) rfl rfl (any_of HT_.out (by kernel_rfl)) (fun _ _ _ h => h) (Or.inl ⟨by rfl, ?_⟩) ?_ ?_; rotate_left
   ·intro w'; go_simp; with_reducible rfl
   rotate_left
   ·simp only [Act.put, LsA, LsB, LsC, i64_w, i32_w]; rfl
   refine one_ (i := 12) (N := none) (bm 16 8191) rfl rfl (one_of HT_.out (by kernel_rfl)) (by decide) (fun K hK => ?_); have HF := HO.out.facts; simp only [OwnsM.Facts, and_true] at HF
   refine ow_putc_step HO (by rfl) rfl 1 rfl 15 ?_ ?hr (fun w1 HO1_ => ?_); (case hr => first | (go_simp; done) | (go_simp; rfl))
   clear HO; have HO := HO1_; clear HO1_; simp only [LsB, LsC, LsA] at HO; clear HF; refine hK.out _ _ ⟨(by have h_ := Kd.foot_int (HO.out.oldm hr hb.out (fun v hv x e => by subst e; simp at hv)) 0 (by omega) (by have := C8.out; omega); rw [show ((0 : Int)).toNat = 0 from rfl, Addr.add_zero'] at h_; exact h_), (Kd.foot_int (HO.out.oldm hr hb.out (fun v hv x e => by subst e; simp at hv)) 1 (by omega) (by have := C8.out; omega))⟩ (fun hHeld => ?_); clear hK K; refine pure_ (i := 13) (N := some 38) (v := ?_) (a' := ?_) (bm 16 16383) rfl rfl (any_of HT_.out (by kernel_rfl)) (fun _ _ _ h => h) (Or.inl ⟨by rfl, ?_⟩) ?_ ?_; rotate_left
   ·intro w'; go_simp; with_reducible rfl
   rotate_left
   ·simp only [Act.put, LsA, LsB, LsC, i64_w, i32_w]; rfl
   refine pure_ (i := 14) (N := some 39) (v := ?_) (a' := ?_) (bm 16 32767) rfl rfl (any_of HT_.out (by kernel_rfl)) (fun _ _ _ h => h) (Or.inl ⟨by rfl, ?_⟩) ?_ ?_; rotate_left
   ·intro w'; go_simp; with_reducible rfl
   rotate_left
   ·simp only [Act.put, LsA, LsB, LsC, i64_w, i32_w]; rfl
   refine last_ (i := 15) (N := none) (bm 16 65535) rfl rfl (one_of HT_.out (by kernel_rfl)) (by decide) (fun K hK => ?_); have HF := HO.out.facts; simp only [OwnsM.Facts, and_true] at HF
   refine ow_putc_step HO (by rfl) rfl 1 rfl 16 ?_ ?hr (fun w1 HO1_ => ?_); (case hr => first | (go_simp; done) | (go_simp; rfl))
   clear HO; have HO := HO1_; clear HO1_; simp only [LsB, LsC, LsA] at HO; clear HF; refine hK.out _ _ ?_; clear hK K; refine done_ (done_of HT_.out (by kernel_rfl)) ?_; have H := HH.out; clear HH; have HF := HO.out.facts; simp only [OwnsM.Facts, and_true] at HF
   cases q; rotate_left
   ·rw [if_pos rfl] at H; exact absurd H (by simp)
   rw [if_neg Bool.false_ne_true] at H; obtain ⟨bd, A_, H⟩ := Option.bind_eq_some_iff.mp H; have AB := Aside0.mk A_; clear A_; cases bd
   ·rw [if_neg Bool.false_ne_true] at H; exact absurd H (by simp)
   rw [if_pos rfl] at H; obtain ⟨key, A_, H⟩ := Option.bind_eq_some_iff.mp H; have AI := Aside0.mk A_; clear A_; simp only [Option.some.injEq, Prod.mk.injEq] at H; obtain ⟨rfl, rfl, rfl, rfl, rfl⟩ := H
   cases key with
   | none =>
    go_wp2_with (first | ((with_reducible refine gate_callee (f := 87) rfl ?_); refine goesL_ (some 45) rfl rfl Try.func87 (by kernel_rfl) rfl #[.int .i64 (wrap64 (rd d 0))] rfl (by (try simp only [LmA, LmB, LmC]); first | done | rfl | (simp only [LdA, LtA]; rfl)) ?_; refine (icmp_Query.calls _ _ _ AQ.out).mono ?_; rintro e w1 ⟨rfl, hd_⟩; refine ⟨_, rfl, ?_⟩; replace HO := Aside0.mk (HO.out.drawn hd_); clear hd_; clear HF; have HF := HO.out.facts; simp only [OwnsM.Facts, and_true] at HF) | ((with_reducible refine gate_callee (f := 39) rfl ?_); refine goesL_ (some 63) rfl rfl Try.func39 (by kernel_rfl) rfl #[.int .i64 (wrap64 (rd d 0))] rfl (by (try simp only [LmA, LmB, LmC]); first | done | rfl | (simp only [LdA, LtA]; rfl)) ?_; refine (icmp_Bad.calls _ _ _ AB.out).mono ?_; rintro e w1 ⟨rfl, hd_⟩; refine ⟨_, rfl, ?_⟩; replace HO := Aside0.mk (HO.out.drawn hd_); clear hd_; clear HF; have HF := HO.out.facts; simp only [OwnsM.Facts, and_true] at HF) | ((with_reducible refine gate_callee (f := 88) rfl ?_); refine goesL_ (some 67) rfl rfl Try.func88 (by kernel_rfl) rfl #[.slice A8 dl.length (cd - 8)] rfl (by (try simp only [LmA, LmB, LmC]); first | done | rfl | (simp only [LdA, LtA]; rfl)) ?_; refine (pack_inner.calls k _ _ dl none _ (HO.out.oldm HRD.out hb.out (fun v hv x e => by subst e; simp at hv)) HCD.out AI.out).mono ?_; rintro e w1 ⟨vi, rfl, hk, hb1⟩; refine ⟨_, rfl, ?_⟩; obtain rfl : vi = none := hk; replace HO := Aside0.mk (HO.out.step hb1); clear hb1; clear HF; have HF := HO.out.facts; simp only [OwnsM.Facts, and_true] at HF) | ((with_reducible refine gate_store (p := 69) rfl ?_); (first | (refine ow_putc HO rfl rfl 1 rfl 17 ?_ ?hr ?_; (case hr => first | (go_simp; done) | (go_simp; rfl)))); clear HO HF; intro w1 HO; simp only [LsB, LsC, LsA] at HO; have HF := HO.out.facts; simp only [OwnsM.Facts, and_true] at HF))
    go_ret
    first | exact ⟨none, rfl, HO.out.turned 1 rfl, rfl⟩ | exact ⟨rfl, none, HO.out.turned 1 rfl, rfl⟩
   | some key =>
    go_wp2_with (first | ((with_reducible refine gate_callee (f := 87) rfl ?_); refine goesL_ (some 45) rfl rfl Try.func87 (by kernel_rfl) rfl #[.int .i64 (wrap64 (rd d 0))] rfl (by (try simp only [LmA, LmB, LmC]); first | done | rfl | (simp only [LdA, LtA]; rfl)) ?_; refine (icmp_Query.calls _ _ _ AQ.out).mono ?_; rintro e w1 ⟨rfl, hd_⟩; refine ⟨_, rfl, ?_⟩; replace HO := Aside0.mk (HO.out.drawn hd_); clear hd_; clear HF; have HF := HO.out.facts; simp only [OwnsM.Facts, and_true] at HF) | ((with_reducible refine gate_callee (f := 39) rfl ?_); refine goesL_ (some 63) rfl rfl Try.func39 (by kernel_rfl) rfl #[.int .i64 (wrap64 (rd d 0))] rfl (by (try simp only [LmA, LmB, LmC]); first | done | rfl | (simp only [LdA, LtA]; rfl)) ?_; refine (icmp_Bad.calls _ _ _ AB.out).mono ?_; rintro e w1 ⟨rfl, hd_⟩; refine ⟨_, rfl, ?_⟩; replace HO := Aside0.mk (HO.out.drawn hd_); clear hd_; clear HF; have HF := HO.out.facts; simp only [OwnsM.Facts, and_true] at HF) | ((with_reducible refine gate_callee (f := 88) rfl ?_); refine goesL_ (some 67) rfl rfl Try.func88 (by kernel_rfl) rfl #[.slice A8 dl.length (cd - 8)] rfl (by (try simp only [LmA, LmB, LmC]); first | done | rfl | (simp only [LdA, LtA]; rfl)) ?_; refine (pack_inner.calls k _ _ dl (some key) _ (HO.out.oldm HRD.out hb.out (fun v hv x e => by subst e; simp at hv)) HCD.out AI.out).mono ?_; rintro e w1 ⟨vi, rfl, hk, hb1⟩; refine ⟨_, rfl, ?_⟩; obtain ⟨gk, rfl, hge, hbk⟩ := hk; have hgk := Aside0.mk (Nat.le_trans HO.out.size hge); replace HO := Aside0.mk (HO.out.stepnew hb1 hge hbk (by decide)); clear hb1 hge hbk; clear HF; have HF := HO.out.facts; simp only [OwnsM.Facts, and_true] at HF) | ((with_reducible refine gate_store (p := 69) rfl ?_); (first | (refine ow_putc HO rfl rfl 2 rfl 17 ?_ ?hr ?_; (case hr => first | (go_simp; done) | (go_simp; rfl)))); clear HO HF; intro w1 HO; simp only [LsB, LsC, LsA] at HO; have HF := HO.out.facts; simp only [OwnsM.Facts, and_true] at HF))
    go_ret
    first | exact ⟨some ⟨gk, 0, none⟩, rfl, HO.out.turned 2 rfl, ⟨gk, rfl, hgk.out, HO.out.at_ 0 rfl⟩⟩ | exact ⟨rfl, some ⟨gk, 0, none⟩, HO.out.turned 2 rfl, ⟨gk, rfl, hgk.out, HO.out.at_ 0 rfl⟩⟩
  ·rw [if_neg c2] at H; exact absurd H (by simp)
def pack_Parse.g (k : Nat) (t1 t2 : Int) (t3 t4 : Bool) (t5 t6 t7 t8 t9 : Int) (t10 t11 : List Int) (t12 : Int) : Option (Int × Int × Bool × Bool × Int × Int × Int × Int × Int × List Int × List Int × Int × Int × Int × Int × Int × Int × Option K5 × Int) :=
 if t12 = 0 then (if t5 = 0 then (if t4 = false then (if t7 = 1 then ((pack_ofICMP.f k 0 t11).bind fun m => if m.2.2.2.2 = 0 then some (t1, t2, t3, t4, t5, t6, t7, t8, t9, t10, t11, 0, m.1, m.1, 0, m.2.1, m.2.2.1, m.2.2.2.1, 0) else none) else none) else none) else none) else none
def pack_Parse.f (k : Nat) (l0 : List Int) : Option (Int × Int × Bool × Bool × Int × Int × Int × Int × Int × List Int × List Int × Int × Int × Int × Int × Int × Int × Option K5 × Int) := (ip_Parse.f k l0).bind fun b => pack_Parse.g k b.1 b.2.1 b.2.2.1 b.2.2.2.1 b.2.2.2.2.1 b.2.2.2.2.2.1 b.2.2.2.2.2.2.1 b.2.2.2.2.2.2.2.1 b.2.2.2.2.2.2.2.2.1 b.2.2.2.2.2.2.2.2.2.1 b.2.2.2.2.2.2.2.2.2.2.1 b.2.2.2.2.2.2.2.2.2.2.2
def pack_Parse.T4 : Bool × List (List Nat × List Nat) := (true, [([], []), ([], []), ([1], [1]), ([0, 2], [0, 2]), ([], []), ([4, 3, 2, 0, 1, 2, 3, 4], [3, 4])])
def pack_Parse.B4 : List Nat := [0, 0, 2, 7, 0, 31]
theorem pack_Parse.tab4 : rtab .any (opsOf Try.f35 4) = pack_Parse.T4 := by kernel_rfl
theorem pack_Parse.bits4 : waitsOk pack_Parse.T4.2 pack_Parse.B4 = true := by kernel_rfl
set_option maxHeartbeats 8000000 in
set_option maxRecDepth 100000 in
theorem pack_Parse.calls (k : Nat) (A0 : Option Addr) (c0 : Nat) (l0 : List Int) (r1 : Int) (r2 : Int) (r3 : Bool) (r4 : Bool) (r5 : Int) (r6 : Int) (r7 : Int) (r8 : Int) (r9 : Int) (r10 : List Int) (r11 : List Int) (r12 : Int) (r13 : Int) (r14 : Int) (r15 : Int) (r16 : Int) (r17 : Int) (r18 : Option K5) (r19 : Int) (w : World) (hr0 : Kd.C (Kd.int .u8) w A0 l0.length l0) (hc0 : l0.length ≤ c0) (h : pack_Parse.f k l0 = some (r1, r2, r3, r4, r5, r6, r7, r8, r9, r10, r11, r12, r13, r14, r15, r16, r17, r18, r19)) :
  Calls Try.prog 35 #[.slice A0 l0.length c0] w fun e w' => ∃ v9_ v10_ vi, e = .returned (.tuple #[.agg #[.int .i64 r1, .int .i64 r2, .bool r3, .bool r4, .int .i64 r5, .int .i64 r6, .int .i64 r7, .int .u32 r8, .int .u32 r9, v9_, v10_, .int .i64 r12, .int .i64 r13, .int .i64 r14, .int .i64 r15, .int .i64 r16, .int .i64 r17, .pointer vi], .int .i64 r19]) ∧ Kd.R (Kd.int .u8) 5 w' w.heap.size (fun k_ => some k_ ≠ (v10_ : Value).ownBlock) v9_ r10 ∧ Kd.R (Kd.int .u8) 5 w' w.heap.size (fun k_ => some k_ ≠ (v9_ : Value).ownBlock) v10_ r11 ∧ KeyAt w.heap.size w' 35 vi r18 ∧ Below w.heap.size w w' := by
 have hu29 := Try.underlying29; have HO := Aside0.mk (Owns.nil w); have HF : True := trivial; unfold pack_Parse.f at h; obtain ⟨⟨t1, t2, t3, t4, t5, t6, t7, t8, t9, t10, t11, t12⟩, A_, H⟩ := Option.bind_eq_some_iff.mp h; have AI := Aside0.mk A_; clear A_ h; dsimp only at H; unfold pack_Parse.g at H
 by_cases c1 : t12 = 0
 rotate_left
 ·rw [if_neg c1] at H; exact absurd H (by simp)
 rw [if_pos c1] at H; have c1b0 : (t12 == 0) = true := beq_iff_eq.mpr c1; have c1b1 : (t12 != 0) = false := bne_eq_false_iff_eq.mpr c1; clear c1
 by_cases c2 : t5 = 0
 rotate_left
 ·rw [if_neg c2] at H; exact absurd H (by simp)
 rw [if_pos c2] at H; have c2b0 : (t5 == 0) = true := beq_iff_eq.mpr c2; have c2b1 : (t5 != 0) = false := bne_eq_false_iff_eq.mpr c2
 by_cases c4 : t4 = false
 rotate_left
 ·rw [if_neg c4] at H; exact absurd H (by simp)
 rw [if_pos c4] at H; subst c4; have AC := Aside0.mk (show pack_Class.f t1 t2 t3 false t5 t6 t7 t8 t9 t10 t11 = some 0 from by unfold pack_Class.f; rw [if_pos c2]; rfl); clear c2
 by_cases c7 : t7 = 1
 rotate_left
 ·rw [if_neg c7] at H; exact absurd H (by simp)
 rw [if_pos c7] at H; have c7b0 : (t7 == 1) = true := beq_iff_eq.mpr c7; have c7b1 : (t7 != 1) = false := bne_eq_false_iff_eq.mpr c7; clear c7; obtain ⟨⟨a, ty, code, key, e⟩, A_, H⟩ := Option.bind_eq_some_iff.mp H; have AI2 := Aside0.mk A_; clear A_
 try dsimp only at H
 by_cases c8 : e = 0
 rotate_left
 ·rw [if_neg c8] at H; exact absurd H (by simp)
 rw [if_pos c8] at H; have c8b0 : (e == 0) = true := beq_iff_eq.mpr c8; have c8b1 : (e != 0) = false := bne_eq_false_iff_eq.mpr c8; clear c8; simp only [Option.some.injEq, Prod.mk.injEq] at H; obtain ⟨rfl, rfl, rfl, rfl, rfl, rfl, rfl, rfl, rfl, rfl, rfl, rfl, rfl, rfl, rfl, rfl, rfl, rfl, rfl⟩ := H; go_enter Try.func35, Try.ntmps35
 go_upto_region 4 with (first | ((with_reducible refine gate_dst (N := 2) rfl ?_); refine ow_box HO rfl (N := 2) rfl #[.int .i64 0, .int .i64 0, .bool false, .bool false, .int .i64 0, .int .i64 0, .int .i64 0, .int .u32 0, .int .u32 0, .slice none 0 0, .slice none 0 0, .int .i64 0, .int .i64 0, .int .i64 0, .int .i64 0, .int .i64 0, .int .i64 0, .pointer none] 29 ?hr rfl ?_; (case hr => first | (go_simp; done) | (go_simp; rfl)); clear HO HF; intro g2 w1 HO; have HF := HO.out.facts; simp only [OwnsM.Facts, and_true] at HF) | ((with_reducible refine gate_callee (f := 46) rfl ?_); refine goesL_ (some 9) rfl rfl Try.func46 (by kernel_rfl) rfl #[.slice A0 l0.length c0] rfl (by (try simp only [LmA, LmB, LmC]); first | done | rfl | (simp only [LdA, LtA]; rfl)) ?_; refine (ip_Parse.calls k _ _ l0 t1 t2 t3 false t5 t6 t7 t8 t9 t10 t11 t12 _ (HO.out.old hr0) hc0 AI.out).mono ?_; rintro e w1 ⟨v1, v2, rfl, h1, h2, hb1⟩; obtain ⟨Ao, co, rfl⟩ := Kd.R_slice h1; obtain ⟨Ad, cd, rfl⟩ := Kd.R_slice h2; refine ⟨_, rfl, ?_⟩; replace HO := Aside0.mk (HO.out.call2 hb1 h1 h2); clear hb1 h1 h2; clear HF; have HF := HO.out.facts; simp only [OwnsM.Facts, and_true] at HF) | ((with_reducible refine gate_dst (N := 4) rfl ?_); refine ow_box HO rfl (N := 4) rfl #[.int .i64 0, .int .i64 0, .bool false, .bool false, .int .i64 0, .int .i64 0, .int .i64 0, .int .u32 0, .int .u32 0, .slice none 0 0, .slice none 0 0] 26 ?hr rfl ?_; (case hr => first | (go_simp; done) | (go_simp; rfl)); clear HO HF; intro g4 w1 HO; have HF := HO.out.facts; simp only [OwnsM.Facts, and_true] at HF) | ((with_reducible refine gate_store (p := 4) rfl ?_); (first | refine ow_put HO rfl rfl 0 rfl (ty := 26) rfl _ rfl rfl (by kernel_rfl) rfl rfl ?_); clear HO HF; intro w1 HO; simp only [LsB, LsC, LsA] at HO; have HF := HO.out.facts; simp only [OwnsM.Facts, and_true] at HF))
 have HO1_ := Aside0.mk HO.out.drew; clear HO HF; have HO := HO1_; clear HO1_; refine start_ (n := 6) (S := fun w' => w'.cell? ⟨g4, 0, none⟩ = some (.int .i64 t1) ∧ w'.cell? ⟨g4, 1, none⟩ = some (.int .i64 t2) ∧ w'.cell? ⟨g4, 2, none⟩ = some (.bool t3) ∧ w'.cell? ⟨g4, 3, none⟩ = some (.bool false) ∧ w'.cell? ⟨g4, 4, none⟩ = some (.int .i64 t5) ∧ w'.cell? ⟨g4, 5, none⟩ = some (.int .i64 t6) ∧ w'.cell? ⟨g4, 6, none⟩ = some (.int .i64 t7) ∧ w'.cell? ⟨g4, 7, none⟩ = some (.int .u32 t8) ∧ w'.cell? ⟨g4, 8, none⟩ = some (.int .u32 t9) ∧ w'.cell? ⟨g4, 9, none⟩ = some (.slice Ao t10.length co) ∧ w'.cell? ⟨g4, 10, none⟩ = some (.slice Ad t11.length cd)) (ds := [5]) (bm 6 0) (by kernel_rfl) rfl rfl ⟨(HO.out.cell 0 0 rfl rfl), (HO.out.cell 0 1 rfl rfl), (HO.out.cell 0 2 rfl rfl), (HO.out.cell 0 3 rfl rfl), (HO.out.cell 0 4 rfl rfl), (HO.out.cell 0 5 rfl rfl), (HO.out.cell 0 6 rfl rfl), (HO.out.cell 0 7 rfl rfl), (HO.out.cell 0 8 rfl rfl), (HO.out.cell 0 9 rfl rfl), (HO.out.cell 0 10 rfl rfl)⟩ (fun hHeld => ?_); refine with_tabW pack_Parse.tab4 pack_Parse.bits4 (fun HT_ HW_ => ?_)
 generalize w1.drew = w1 at HO hHeld ⊢; refine take_ (i := 0) (N := some 16) (v := ?_) (a' := ?_) (bm 6 1) rfl rfl (take_ofW HT_.out HW_.out (by kernel_rfl)) (fun _ _ _ h => h) (Or.inl ⟨by rfl, ?_⟩) hHeld ?_ ?_; rotate_left
 ·rintro w' ⟨s0, s1, s2, s3, s4, s5, s6, s7, s8, s9, s10⟩; go_simp; with_reducible rfl
 rotate_left
 ·simp only [Act.put, LsA, LsB, LsC, i64_w, i32_w]; rfl
 refine take_ (i := 1) (N := some 17) (v := ?_) (a' := ?_) (bm 6 3) rfl rfl (take_ofW HT_.out HW_.out (by kernel_rfl)) (fun _ _ _ h => h) (Or.inl ⟨by rfl, ?_⟩) hHeld ?_ ?_; rotate_left
 ·rintro w' ⟨s0, s1, s2, s3, s4, s5, s6, s7, s8, s9, s10⟩; go_simp; with_reducible rfl
 rotate_left
 ·simp only [Act.put, LsA, LsB, LsC, i64_w, i32_w]; rfl
 refine two_ (i := 2) (j := 4) (Ni := some 18) (Nj := some 6) (bm 6 7) (bm 6 19) rfl rfl rfl rfl (two_of HT_.out (by kernel_rfl)) (by decide) (by decide) (fun K hK => ?_) (fun K hK => ?_)
 ·skip
  refine goes_ Try.func20 (by kernel_rfl) rfl #[.agg #[.int .i64 t1, .int .i64 t2, .bool t3, .bool false, .int .i64 t5, .int .i64 t6, .int .i64 t7, .int .u32 t8, .int .u32 t9, .slice Ao t10.length co, .slice Ad t11.length cd]] (by rfl) rfl rfl (by (try simp only [LmA, LmB, LmC]); first | done | rfl | (simp only [LdA, LtA]; rfl)) ?_; refine (pack_Class.calls t1 t2 t3 false t5 t6 t7 t8 t9 _ _ t10 _ _ t11 0 _ (HO.out.rd 1 rfl) (HO.out.cap 1 rfl) (HO.out.rd 0 rfl) (HO.out.cap 0 rfl) AC.out).mono ?_; rintro e w1 ⟨rfl, hb1⟩; refine ⟨_, rfl, ?_⟩; replace HO := Aside0.mk (HO.out.step hb1); clear hb1; refine hK.out _ _ ⟨(HO.out.cell 0 0 rfl rfl), (HO.out.cell 0 1 rfl rfl), (HO.out.cell 0 2 rfl rfl), (HO.out.cell 0 3 rfl rfl), (HO.out.cell 0 4 rfl rfl), (HO.out.cell 0 5 rfl rfl), (HO.out.cell 0 6 rfl rfl), (HO.out.cell 0 7 rfl rfl), (HO.out.cell 0 8 rfl rfl), (HO.out.cell 0 9 rfl rfl), (HO.out.cell 0 10 rfl rfl)⟩ (fun hHeld => ?_); clear hK K; refine norm_ (a' := ?_) ?_ ?_; rotate_left
  ·show Act.put _ (some 18) _ = _; simp only [Act.put, LsA, LsB, LsC, i64_w, i32_w]; rfl
  refine pure_ (i := 3) (N := some 19) (v := ?_) (a' := ?_) (bm 6 15) rfl rfl (any_of HT_.out (by kernel_rfl)) (fun _ _ _ h => h) (Or.inl ⟨by rfl, ?_⟩) ?_ ?_; rotate_left
  ·intro w'; go_simp; with_reducible rfl
  rotate_left
  ·simp only [Act.put, LsA, LsB, LsC, i64_w, i32_w]; rfl
  refine one_ (i := 4) (N := some 6) (bm 6 31) rfl rfl (one_of HT_.out (by kernel_rfl)) (by decide) (fun K hK => ?_); refine ow_box_step HO (by rfl) (N := 6) rfl #[.int .i64 0, .int .i64 0, .bool false, .bool false, .int .i64 0, .int .i64 0, .int .i64 0, .int .u32 0, .int .u32 0, .slice none 0 0, .slice none 0 0, .int .i64 0, .int .i64 0, .int .i64 0, .int .i64 0, .int .i64 0, .int .i64 0, .pointer none] 29 ?hr rfl (fun g6 w1 HO1_ => ?_); (case hr => first | (go_simp; done) | (go_simp; rfl))
  clear HO; have HO := HO1_; clear HO1_; refine hK.out _ _ ⟨(HO.out.cell 1 0 rfl rfl), (HO.out.cell 1 1 rfl rfl), (HO.out.cell 1 2 rfl rfl), (HO.out.cell 1 3 rfl rfl), (HO.out.cell 1 4 rfl rfl), (HO.out.cell 1 5 rfl rfl), (HO.out.cell 1 6 rfl rfl), (HO.out.cell 1 7 rfl rfl), (HO.out.cell 1 8 rfl rfl), (HO.out.cell 1 9 rfl rfl), (HO.out.cell 1 10 rfl rfl)⟩ (fun hHeld => ?_); clear hK K; refine norm_ (a' := ?_) ?_ ?_; rotate_left
  ·show Act.put _ (some 6) _ = _; simp only [Act.put, LsA, LsB, LsC, i64_w, i32_w]; rfl
  refine last_ (i := 5) (N := none) (bm 6 63) rfl rfl (one_of HT_.out (by kernel_rfl)) (by decide) (fun K hK => ?_); refine ow_put_step HO (by rfl) rfl 0 rfl (ty := 29) rfl _ rfl rfl (by kernel_rfl) rfl rfl (fun w1 HO1_ => ?_); clear HO; have HO := HO1_; clear HO1_; simp only [LsB, LsC, LsA] at HO; refine hK.out _ _ ?_; clear hK K; refine done_ (done_of HT_.out (by kernel_rfl)) ?_
  cases key with
  | none =>
   have HF := HO.out.facts; simp only [OwnsM.Facts, and_true] at HF
   go_wp2_with (first | ((with_reducible refine gate_callee (f := 63) rfl ?_); refine goesL_ (some 38) rfl rfl Try.func63 (by kernel_rfl) rfl #[.pointer (some ⟨g6, 0, none⟩)] rfl (by (try simp only [LmA, LmB, LmC]); first | done | rfl | (simp only [LdA, LtA]; rfl)) ?_; refine (pack_ofICMP.hand k g6 t1 t2 t3 false t5 t6 t7 t8 t9 _ _ _ _ _ t11 0 a ty code none e _ (HO.out.at_ 0 rfl) (HO.out.rd 0 rfl) (HO.out.cap 0 rfl) AI2.out).mono ?_; rintro e' w1 ⟨vi, rfl, ht, hk⟩; refine ⟨_, rfl, ?_⟩; obtain rfl : vi = none := hk; replace HO := Aside0.mk (HO.out.turn 0 rfl ht); clear ht; simp only [LsB, LsC, LsA] at HO; clear HF; have HF := HO.out.facts; simp only [OwnsM.Facts, and_true] at HF) | ((with_reducible refine gate_dst (N := 43) rfl ?_); (first | refine ow_load HO rfl 0 rfl 29 _ rfl _ rfl Try.underlying29 rfl (by kernel_rfl) ?_)) | ((with_reducible refine gate_store (p := 2) rfl ?_); (first | refine ow_put HO rfl rfl 2 rfl (ty := 29) rfl _ rfl rfl (by kernel_rfl) rfl rfl ?_); clear HO HF; intro w1 HO; simp only [LsB, LsC, LsA] at HO; have HF := HO.out.facts; simp only [OwnsM.Facts, and_true] at HF))
   refine bodyPost_ret (results_ct rfl _ _ g2 29 _ (0, 0) _ rfl (HO.out.at_ 2 rfl) Try.underlying29 rfl (by kernel_rfl)) rfl ?_; exact ⟨_, _, _, rfl, HO.out.rowapart 1 0 (by decide) rfl rfl, HO.out.rowapart 0 1 (by decide) rfl rfl, rfl, HO.out.below⟩
  | some key =>
   have HF := HO.out.facts; simp only [OwnsM.Facts, and_true] at HF
   go_wp2_with (first | ((with_reducible refine gate_callee (f := 63) rfl ?_); refine goesL_ (some 38) rfl rfl Try.func63 (by kernel_rfl) rfl #[.pointer (some ⟨g6, 0, none⟩)] rfl (by (try simp only [LmA, LmB, LmC]); first | done | rfl | (simp only [LdA, LtA]; rfl)) ?_; refine (pack_ofICMP.hand k g6 t1 t2 t3 false t5 t6 t7 t8 t9 _ _ _ _ _ t11 0 a ty code (some key) e _ (HO.out.at_ 0 rfl) (HO.out.rd 0 rfl) (HO.out.cap 0 rfl) AI2.out).mono ?_; rintro e' w1 ⟨vi, rfl, ht, hk⟩; refine ⟨_, rfl, ?_⟩; obtain ⟨gk, rfl, hge, hbk⟩ := hk; replace HO := Aside0.mk (HO.out.turnkey 0 rfl ht hge hbk (by decide)); clear ht hge hbk; simp only [LsB, LsC, LsA] at HO; clear HF; have HF := HO.out.facts; simp only [OwnsM.Facts, and_true] at HF) | ((with_reducible refine gate_dst (N := 43) rfl ?_); (first | refine ow_load HO rfl 1 rfl 29 _ rfl _ rfl Try.underlying29 rfl (by kernel_rfl) ?_)) | ((with_reducible refine gate_store (p := 2) rfl ?_); (first | refine ow_put HO rfl rfl 3 rfl (ty := 29) rfl _ rfl rfl (by kernel_rfl) rfl rfl ?_); clear HO HF; intro w1 HO; simp only [LsB, LsC, LsA] at HO; have HF := HO.out.facts; simp only [OwnsM.Facts, and_true] at HF))
   refine bodyPost_ret (results_ct rfl _ _ g2 29 _ (0, 0) _ rfl (HO.out.at_ 3 rfl) Try.underlying29 rfl (by kernel_rfl)) rfl ?_; exact ⟨_, _, _, rfl, HO.out.rowapart 1 0 (by decide) rfl rfl, HO.out.rowapart 0 1 (by decide) rfl rfl, ⟨gk, rfl, HO.out.ge 0 rfl, HO.out.at_ 0 rfl⟩, HO.out.below⟩
 ·skip
  refine ow_box_step HO (by rfl) (N := 6) rfl #[.int .i64 0, .int .i64 0, .bool false, .bool false, .int .i64 0, .int .i64 0, .int .i64 0, .int .u32 0, .int .u32 0, .slice none 0 0, .slice none 0 0, .int .i64 0, .int .i64 0, .int .i64 0, .int .i64 0, .int .i64 0, .int .i64 0, .pointer none] 29 ?hr rfl (fun g6 w1 HO1_ => ?_); (case hr => first | (go_simp; done) | (go_simp; rfl))
  clear HO; have HO := HO1_; clear HO1_; refine hK.out _ _ ⟨(HO.out.cell 1 0 rfl rfl), (HO.out.cell 1 1 rfl rfl), (HO.out.cell 1 2 rfl rfl), (HO.out.cell 1 3 rfl rfl), (HO.out.cell 1 4 rfl rfl), (HO.out.cell 1 5 rfl rfl), (HO.out.cell 1 6 rfl rfl), (HO.out.cell 1 7 rfl rfl), (HO.out.cell 1 8 rfl rfl), (HO.out.cell 1 9 rfl rfl), (HO.out.cell 1 10 rfl rfl)⟩ (fun hHeld => ?_); clear hK K; refine norm_ (a' := ?_) ?_ ?_; rotate_left
  ·show Act.put _ (some 6) _ = _; simp only [Act.put, LsA, LsB, LsC, i64_w, i32_w]; rfl
  refine one_ (i := 2) (N := some 18) (bm 6 23) rfl rfl (one_of HT_.out (by kernel_rfl)) (by decide) (fun K hK => ?_); refine goes_ Try.func20 (by kernel_rfl) rfl #[.agg #[.int .i64 t1, .int .i64 t2, .bool t3, .bool false, .int .i64 t5, .int .i64 t6, .int .i64 t7, .int .u32 t8, .int .u32 t9, .slice Ao t10.length co, .slice Ad t11.length cd]] (by rfl) rfl rfl (by (try simp only [LmA, LmB, LmC]); first | done | rfl | (simp only [LdA, LtA]; rfl)) ?_; refine (pack_Class.calls t1 t2 t3 false t5 t6 t7 t8 t9 _ _ t10 _ _ t11 0 _ (HO.out.rd 1 rfl) (HO.out.cap 1 rfl) (HO.out.rd 0 rfl) (HO.out.cap 0 rfl) AC.out).mono ?_; rintro e w1 ⟨rfl, hb1⟩; refine ⟨_, rfl, ?_⟩; replace HO := Aside0.mk (HO.out.step hb1); clear hb1; refine hK.out _ _ ⟨(HO.out.cell 1 0 rfl rfl), (HO.out.cell 1 1 rfl rfl), (HO.out.cell 1 2 rfl rfl), (HO.out.cell 1 3 rfl rfl), (HO.out.cell 1 4 rfl rfl), (HO.out.cell 1 5 rfl rfl), (HO.out.cell 1 6 rfl rfl), (HO.out.cell 1 7 rfl rfl), (HO.out.cell 1 8 rfl rfl), (HO.out.cell 1 9 rfl rfl), (HO.out.cell 1 10 rfl rfl)⟩ (fun hHeld => ?_); clear hK K; refine norm_ (a' := ?_) ?_ ?_; rotate_left
  ·show Act.put _ (some 18) _ = _; simp only [Act.put, LsA, LsB, LsC, i64_w, i32_w]; rfl
  refine pure_ (i := 3) (N := some 19) (v := ?_) (a' := ?_) (bm 6 31) rfl rfl (any_of HT_.out (by kernel_rfl)) (fun _ _ _ h => h) (Or.inl ⟨by rfl, ?_⟩) ?_ ?_; rotate_left
  ·intro w'; go_simp; with_reducible rfl
  rotate_left
  ·simp only [Act.put, LsA, LsB, LsC, i64_w, i32_w]; rfl
  refine last_ (i := 5) (N := none) (bm 6 63) rfl rfl (one_of HT_.out (by kernel_rfl)) (by decide) (fun K hK => ?_); refine ow_put_step HO (by rfl) rfl 0 rfl (ty := 29) rfl _ rfl rfl (by kernel_rfl) rfl rfl (fun w1 HO1_ => ?_); clear HO; have HO := HO1_; clear HO1_; simp only [LsB, LsC, LsA] at HO; refine hK.out _ _ ?_; clear hK K; refine done_ (done_of HT_.out (by kernel_rfl)) ?_
  cases key with
  | none =>
   have HF := HO.out.facts; simp only [OwnsM.Facts, and_true] at HF
   go_wp2_with (first | ((with_reducible refine gate_callee (f := 63) rfl ?_); refine goesL_ (some 38) rfl rfl Try.func63 (by kernel_rfl) rfl #[.pointer (some ⟨g6, 0, none⟩)] rfl (by (try simp only [LmA, LmB, LmC]); first | done | rfl | (simp only [LdA, LtA]; rfl)) ?_; refine (pack_ofICMP.hand k g6 t1 t2 t3 false t5 t6 t7 t8 t9 _ _ _ _ _ t11 0 a ty code none e _ (HO.out.at_ 0 rfl) (HO.out.rd 0 rfl) (HO.out.cap 0 rfl) AI2.out).mono ?_; rintro e' w1 ⟨vi, rfl, ht, hk⟩; refine ⟨_, rfl, ?_⟩; obtain rfl : vi = none := hk; replace HO := Aside0.mk (HO.out.turn 0 rfl ht); clear ht; simp only [LsB, LsC, LsA] at HO; clear HF; have HF := HO.out.facts; simp only [OwnsM.Facts, and_true] at HF) | ((with_reducible refine gate_dst (N := 43) rfl ?_); (first | refine ow_load HO rfl 0 rfl 29 _ rfl _ rfl Try.underlying29 rfl (by kernel_rfl) ?_)) | ((with_reducible refine gate_store (p := 2) rfl ?_); (first | refine ow_put HO rfl rfl 2 rfl (ty := 29) rfl _ rfl rfl (by kernel_rfl) rfl rfl ?_); clear HO HF; intro w1 HO; simp only [LsB, LsC, LsA] at HO; have HF := HO.out.facts; simp only [OwnsM.Facts, and_true] at HF))
   refine bodyPost_ret (results_ct rfl _ _ g2 29 _ (0, 0) _ rfl (HO.out.at_ 2 rfl) Try.underlying29 rfl (by kernel_rfl)) rfl ?_; exact ⟨_, _, _, rfl, HO.out.rowapart 1 0 (by decide) rfl rfl, HO.out.rowapart 0 1 (by decide) rfl rfl, rfl, HO.out.below⟩
  | some key =>
   have HF := HO.out.facts; simp only [OwnsM.Facts, and_true] at HF
   go_wp2_with (first | ((with_reducible refine gate_callee (f := 63) rfl ?_); refine goesL_ (some 38) rfl rfl Try.func63 (by kernel_rfl) rfl #[.pointer (some ⟨g6, 0, none⟩)] rfl (by (try simp only [LmA, LmB, LmC]); first | done | rfl | (simp only [LdA, LtA]; rfl)) ?_; refine (pack_ofICMP.hand k g6 t1 t2 t3 false t5 t6 t7 t8 t9 _ _ _ _ _ t11 0 a ty code (some key) e _ (HO.out.at_ 0 rfl) (HO.out.rd 0 rfl) (HO.out.cap 0 rfl) AI2.out).mono ?_; rintro e' w1 ⟨vi, rfl, ht, hk⟩; refine ⟨_, rfl, ?_⟩; obtain ⟨gk, rfl, hge, hbk⟩ := hk; replace HO := Aside0.mk (HO.out.turnkey 0 rfl ht hge hbk (by decide)); clear ht hge hbk; simp only [LsB, LsC, LsA] at HO; clear HF; have HF := HO.out.facts; simp only [OwnsM.Facts, and_true] at HF) | ((with_reducible refine gate_dst (N := 43) rfl ?_); (first | refine ow_load HO rfl 1 rfl 29 _ rfl _ rfl Try.underlying29 rfl (by kernel_rfl) ?_)) | ((with_reducible refine gate_store (p := 2) rfl ?_); (first | refine ow_put HO rfl rfl 3 rfl (ty := 29) rfl _ rfl rfl (by kernel_rfl) rfl rfl ?_); clear HO HF; intro w1 HO; simp only [LsB, LsC, LsA] at HO; have HF := HO.out.facts; simp only [OwnsM.Facts, and_true] at HF))
   refine bodyPost_ret (results_ct rfl _ _ g2 29 _ (0, 0) _ rfl (HO.out.at_ 3 rfl) Try.underlying29 rfl (by kernel_rfl)) rfl ?_; exact ⟨_, _, _, rfl, HO.out.rowapart 1 0 (by decide) rfl rfl, HO.out.rowapart 0 1 (by decide) rfl rfl, ⟨gk, rfl, HO.out.ge 0 rfl, HO.out.at_ 0 rfl⟩, HO.out.below⟩

end Go.Proofs.Ytkdibloahkhgoaa.QPackInner
