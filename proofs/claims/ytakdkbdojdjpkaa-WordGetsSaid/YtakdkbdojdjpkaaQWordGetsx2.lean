-- written by myprint.py, a program of this session's over the kit's printer
import Derived.Test.YtakdkbdojdjpkaaQWordGetsx0
import Derived.Test.YtakdkbdojdjpkaaQWordGetsx1
namespace Go.Proofs.Ytakdkbdojdjpkaa.QWordGets
open Go.RowKit Go.Proofs.YtakdkbdojdjpkaaW.PrintWords Go.Proofs.YtakdkbdojdjpkaaW.PrintLast Go.Proofs.YtakdkbdojdjpkaaW.PrintMore
attribute [local go_sem] max2_int min2_int max_two min_two max_three min_three max_four min_four   -- for this text's walks alone
set_option linter.unusedVariables false
set_option linter.unusedSimpArgs false

/-! ### castellanlaw1_WordGets: function 5 -/
def castellanlaw1_WordGets.j0 : Nat → List Int → Int → Int → Int → Bool → Option (Bool)
  | 0, _, _, _, _, _ => none
  | k + 1, x0, x1, x2, x3, x15 => if x15 = true then (some true) else ((word_Get16.f x0 x1).bind fun t131 => ((castellanref1_Get16.f x0 x1).bind fun t132 => (if t131 = t132 then ((word_Get32.f k x0 x1).bind fun t133 => ((castellanref1_Get32.f x0 x1).bind fun t134 => (if t133 = t134 then ((word_Put16.f x2).bind fun t135 => ((castellanref1_Put16.f x2).bind fun t138 => (if (strOfNums t135).toList = (strOfNums t138).toList then ((word_Put32.f x3).bind fun t141 => ((castellanref1_Put32.f x3).bind fun t144 => (if (strOfNums t141).toList = (strOfNums t144).toList then ((castellanlaw1_known.f).bind fun t147 => (some t147)) else (some false)))) else (some false)))) else (some false)))) else (some false))))
def castellanlaw1_WordGets.f (k : Nat) (l0 : List Int) (a1 : Int) (a2 : Int) (a3 : Int) : Option (Bool) := if (l0.length : Int) > 2000 then (castellanlaw1_WordGets.j0 k l0 a1 a2 a3 true) else (castellanlaw1_WordGets.j0 k l0 a1 a2 a3 (decide (a1 > 1099511627776)))
theorem castellanlaw1_WordGets.mono_l : ∀ k, (∀ y0 y1 y2 y3 y4, LeO (castellanlaw1_WordGets.j0 k y0 y1 y2 y3 y4) (castellanlaw1_WordGets.j0 (k + 1) y0 y1 y2 y3 y4))
  | 0 => fun _ _ _ _ _ r h => by simp [castellanlaw1_WordGets.j0] at h
  | k + 1 => by
    have ih0 := castellanlaw1_WordGets.mono_l k
    · intro y0 y1 y2 y3 y4
      unfold castellanlaw1_WordGets.j0
      repeat' first
      | (with_reducible exact ih0 _ _ _ _ _)
      | (with_reducible exact word_Get32.mono _ _ _)
      | (with_reducible exact LeO.refl _)
      | (with_reducible exact LeO.none _)
      | (with_reducible refine LeO.ite ?_ ?_)
      | (with_reducible refine LeO.bind ?_ (fun _ => ?_))
      | exact ih0 _ _ _ _ _
      | exact word_Get32.mono _ _ _
      | exact LeO.none _
      | refine LeO.ite ?_ ?_
      | refine LeO.bind ?_ (fun _ => ?_)
theorem castellanlaw1_WordGets.mono : ∀ a0 a1 a2 a3 k, LeO (castellanlaw1_WordGets.f k a0 a1 a2 a3) (castellanlaw1_WordGets.f (k + 1) a0 a1 a2 a3) := by
  intro a0 a1 a2 a3 k
  have ih0 := castellanlaw1_WordGets.mono_l k
  unfold castellanlaw1_WordGets.f
  repeat' first
      | (with_reducible exact ih0 _ _ _ _ _)
      | (with_reducible exact word_Get32.mono _ _ _)
      | (with_reducible exact LeO.refl _)
      | (with_reducible exact LeO.none _)
      | (with_reducible refine LeO.ite ?_ ?_)
      | (with_reducible refine LeO.bind ?_ (fun _ => ?_))
      | exact ih0 _ _ _ _ _
      | exact word_Get32.mono _ _ _
      | exact LeO.none _
      | refine LeO.ite ?_ ?_
      | refine LeO.bind ?_ (fun _ => ?_)
def castellanlaw1_WordGets.T3 : Bool × List (List Nat × List Nat) := (true, [([], []), ([], []), ([0, 1], [0, 1]), ([], []), ([], []), ([3, 4, 2], [3, 4]), ([2, 5], [2, 5]), ([6, 5], [6]), ([7], [7]), ([7], [7]), ([8, 9, 7, 7], [7, 8, 9]), ([7], [7]), ([7], [7]), ([11, 12, 10, 7], [7, 11, 12]), ([10, 13, 7], [7, 10, 13]), ([7, 14], [7, 14]), ([15, 13], [15]), ([16], [16]), ([17, 16, 16], [16, 17]), ([18, 16], [16, 18]), ([16], [16]), ([20, 18, 16], [16, 20]), ([21, 16], [16, 21]), ([19, 22, 16], [16, 19, 22]), ([16, 23], [16, 23]), ([24, 21], [24]), ([25], [25]), ([26, 25, 25], [25, 26]), ([27, 25], [25, 27]), ([25], [25]), ([29, 27, 25], [25, 29]), ([30, 25], [25, 30]), ([28, 31, 25], [25, 28, 31]), ([25, 32], [25, 32]), ([33, 30], [33]), ([34, 34], [34]), ([34, 35], [34, 35]), ([36, 35, 0, 1, 2, 3, 4, 5, 6, 7, 8, 9, 10, 11, 12, 13, 14, 15, 16, 17, 18, 19, 20, 21, 22, 23, 24, 25, 26, 27, 28, 29, 30, 31, 32, 33, 34, 35, 36], [36])])
def castellanlaw1_WordGets.B3 : List Nat := [0, 0, 3, 0, 0, 31, 63, 127, 255, 255, 1023, 255, 255, 8191, 16383, 32767, 65535, 131071, 262143, 524287, 131071, 1572863, 3670015, 8388607, 16777215, 33554431, 67108863, 134217727, 268435455, 67108863, 805306367, 1879048191, 4294967295, 8589934591, 17179869183, 34359738367, 68719476735, 137438953471]
theorem castellanlaw1_WordGets.tab3 : rtab .any (opsOf Try.f5 3) = castellanlaw1_WordGets.T3 := by kernel_rfl
theorem castellanlaw1_WordGets.bits3 : waitsOk castellanlaw1_WordGets.T3.2 castellanlaw1_WordGets.B3 = true := by kernel_rfl
set_option maxHeartbeats 8000000 in
set_option maxRecDepth 100000 in
theorem castellanlaw1_WordGets.calls (k : Nat) (A0 : Option Addr) (c0 : Nat) (l0 : List Int) (a1 : Int) (a2 : Int) (a3 : Int) (r : Bool) (w : World) (hr0 : Kd.C (Kd.int .u8) w A0 l0.length l0) (hc0 : l0.length ≤ c0) (hrt : r = true) (h : castellanlaw1_WordGets.f k l0 a1 a2 a3 = some r) :
    Calls Try.prog 5 #[.slice A0 l0.length c0, .int .i64 a1, .int .i64 a2, .int .u32 a3] w fun e w' => e = .returned (.bool r) ∧ Below w.heap.size w w' := by
  have HRT := Aside0.mk hrt
  clear hrt
  have HR0 := Aside0.mk hr0
  have HC0 := Aside0.mk hc0
  clear hr0 hc0
  have HB := Aside0.mk (Below.refl w.heap.size w)
  have H : (if (l0.length : Int) > 2000 then (castellanlaw1_WordGets.j0 k l0 a1 a2 a3 true) else (castellanlaw1_WordGets.j0 k l0 a1 a2 a3 (decide (a1 > 1099511627776)))) = some r := h
  clear h
  have HC5 := Aside0.mk H
  clear H
  go_enter Try.func5, Try.ntmps5
  go_upto_region 1 with (fail)
  go_cut [15] (fun v15 wc => ∃ (kq : Nat) (x15_4 : Bool), v15 = .bool x15_4 ∧ Aside0 (castellanlaw1_WordGets.j0 kq l0 a1 a2 a3 x15_4 = some r) ∧ Aside0 (kq ≤ k) ∧ Aside0 (Below w.heap.size w wc))
  case first =>
    have H := HC5.out
    clear HC5
    by_cases c6 : (l0.length : Int) > 2000
    · rw [if_pos c6] at H
      have c6b0 : decide (2000 < (l0.length : Int)) = true := decide_eq_true c6
      have c6b1 : decide (2000 < l0.length) = true := decide_eq_true (by omega)
      clear c6
      (first | rw [c6b0] | (simp only [i64_w, i32_w]; rw [c6b0]) | skip)
      have H' := Aside0.mk H
      clear H
      go_wp2
      go_meet
      case rel => exact ⟨_, (true), (by first | rfl | (simp; done) | (simp [*]; done)), H', ⟨by first | omega | exact Nat.le_refl _⟩, ⟨by repeat (first | (with_reducible first | exact HB.out | apply below_alloc | apply pw_below_drewN | apply below_drew1) | exact HB.out)⟩⟩
    · rw [if_neg c6] at H
      have c6b0 : decide (2000 < (l0.length : Int)) = false := decide_eq_false c6
      have c6b1 : decide (2000 < l0.length) = false := decide_eq_false (by omega)
      clear c6
      (first | rw [c6b0] | (simp only [i64_w, i32_w]; rw [c6b0]) | skip)
      have H' := Aside0.mk H
      clear H
      go_wp2
      go_meet
      case rel => exact ⟨_, (decide (a1 > 1099511627776)), (by first | rfl | (simp; done) | (simp [*]; done)), H', ⟨by first | omega | exact Nat.le_refl _⟩, ⟨by repeat (first | (with_reducible first | exact HB.out | apply below_alloc | apply pw_below_drewN | apply below_drew1) | exact HB.out)⟩⟩
  case rest =>
    clear HC5
    try clear p2
    try clear c5
    try clear c6
    try clear c6b0
    try clear c6b1
    obtain ⟨kq, x15_4, rfl, HA, HJ4, HB⟩ := hcut
    cases kq with
    | zero => exact absurd HA.out (by simp [castellanlaw1_WordGets.j0])
    | succ kj4 =>
      have H := HA.out
      clear HA
      simp only [castellanlaw1_WordGets.j0] at H
      by_cases c7 : x15_4 = true
      · subst c7
        have H1 : (some true) = some r := by rw [if_pos rfl] at H; exact H
        clear H
        have H := H1
        clear H1
        obtain rfl := Option.some.inj H
        go_wp2
        go_ret
        exact ⟨by first | rfl | (simp [errW_none, errW_some] <;> rfl) | (simp [*, errW_none, errW_some] <;> rfl), by repeat (first | (with_reducible first | exact HB.out | apply below_alloc | apply pw_below_drewN | apply below_drew1) | exact HB.out)⟩
      · replace c7 := Bool.eq_false_iff.mpr c7
        subst c7
        have H1 : ((word_Get16.f l0 a1).bind fun t131 => ((castellanref1_Get16.f l0 a1).bind fun t132 => (if t131 = t132 then ((word_Get32.f kj4 l0 a1).bind fun t133 => ((castellanref1_Get32.f l0 a1).bind fun t134 => (if t133 = t134 then ((word_Put16.f a2).bind fun t135 => ((castellanref1_Put16.f a2).bind fun t138 => (if (strOfNums t135).toList = (strOfNums t138).toList then ((word_Put32.f a3).bind fun t141 => ((castellanref1_Put32.f a3).bind fun t144 => (if (strOfNums t141).toList = (strOfNums t144).toList then ((castellanlaw1_known.f).bind fun t147 => (some t147)) else (some false)))) else (some false)))) else (some false)))) else (some false)))) = some r := by rw [if_neg (show ¬ (false = true) by decide)] at H; exact H
        clear H
        have H := H1
        clear H1
        replace H := Option.bind_eq_some_iff.mp H
        obtain ⟨t131, A80, H⟩ := H
        replace H : ((castellanref1_Get16.f l0 a1).bind fun t132 => (if t131 = t132 then ((word_Get32.f kj4 l0 a1).bind fun t133 => ((castellanref1_Get32.f l0 a1).bind fun t134 => (if t133 = t134 then ((word_Put16.f a2).bind fun t135 => ((castellanref1_Put16.f a2).bind fun t138 => (if (strOfNums t135).toList = (strOfNums t138).toList then ((word_Put32.f a3).bind fun t141 => ((castellanref1_Put32.f a3).bind fun t144 => (if (strOfNums t141).toList = (strOfNums t144).toList then ((castellanlaw1_known.f).bind fun t147 => (some t147)) else (some false)))) else (some false)))) else (some false)))) else (some false))) = some r := H
        have A8 := Aside0.mk A80
        clear A80
        replace H := Option.bind_eq_some_iff.mp H
        obtain ⟨t132, A90, H⟩ := H
        replace H : (if t131 = t132 then ((word_Get32.f kj4 l0 a1).bind fun t133 => ((castellanref1_Get32.f l0 a1).bind fun t134 => (if t133 = t134 then ((word_Put16.f a2).bind fun t135 => ((castellanref1_Put16.f a2).bind fun t138 => (if (strOfNums t135).toList = (strOfNums t138).toList then ((word_Put32.f a3).bind fun t141 => ((castellanref1_Put32.f a3).bind fun t144 => (if (strOfNums t141).toList = (strOfNums t144).toList then ((castellanlaw1_known.f).bind fun t147 => (some t147)) else (some false)))) else (some false)))) else (some false)))) else (some false)) = some r := H
        have A9 := Aside0.mk A90
        clear A90
        by_cases c10 : t131 = t132
        · rw [if_pos c10] at H
          have c10b0 : (t131 == t132) = true := beq_iff_eq.mpr c10
          have c10b1 : (t131 != t132) = false := bne_eq_false_iff_eq.mpr c10
          clear c10
          replace H := Option.bind_eq_some_iff.mp H
          obtain ⟨t133, A110, H⟩ := H
          replace H : ((castellanref1_Get32.f l0 a1).bind fun t134 => (if t133 = t134 then ((word_Put16.f a2).bind fun t135 => ((castellanref1_Put16.f a2).bind fun t138 => (if (strOfNums t135).toList = (strOfNums t138).toList then ((word_Put32.f a3).bind fun t141 => ((castellanref1_Put32.f a3).bind fun t144 => (if (strOfNums t141).toList = (strOfNums t144).toList then ((castellanlaw1_known.f).bind fun t147 => (some t147)) else (some false)))) else (some false)))) else (some false))) = some r := H
          have A11 := Aside0.mk A110
          clear A110
          replace H := Option.bind_eq_some_iff.mp H
          obtain ⟨t134, A120, H⟩ := H
          replace H : (if t133 = t134 then ((word_Put16.f a2).bind fun t135 => ((castellanref1_Put16.f a2).bind fun t138 => (if (strOfNums t135).toList = (strOfNums t138).toList then ((word_Put32.f a3).bind fun t141 => ((castellanref1_Put32.f a3).bind fun t144 => (if (strOfNums t141).toList = (strOfNums t144).toList then ((castellanlaw1_known.f).bind fun t147 => (some t147)) else (some false)))) else (some false)))) else (some false)) = some r := H
          have A12 := Aside0.mk A120
          clear A120
          by_cases c13 : t133 = t134
          · rw [if_pos c13] at H
            have c13b0 : (t133 == t134) = true := beq_iff_eq.mpr c13
            have c13b1 : (t133 != t134) = false := bne_eq_false_iff_eq.mpr c13
            clear c13
            replace H := Option.bind_eq_some_iff.mp H
            obtain ⟨t135, A140, H⟩ := H
            replace H : ((castellanref1_Put16.f a2).bind fun t138 => (if (strOfNums t135).toList = (strOfNums t138).toList then ((word_Put32.f a3).bind fun t141 => ((castellanref1_Put32.f a3).bind fun t144 => (if (strOfNums t141).toList = (strOfNums t144).toList then ((castellanlaw1_known.f).bind fun t147 => (some t147)) else (some false)))) else (some false))) = some r := H
            have A14 := Aside0.mk A140
            clear A140
            replace H := Option.bind_eq_some_iff.mp H
            obtain ⟨t138, A150, H⟩ := H
            replace H : (if (strOfNums t135).toList = (strOfNums t138).toList then ((word_Put32.f a3).bind fun t141 => ((castellanref1_Put32.f a3).bind fun t144 => (if (strOfNums t141).toList = (strOfNums t144).toList then ((castellanlaw1_known.f).bind fun t147 => (some t147)) else (some false)))) else (some false)) = some r := H
            have A15 := Aside0.mk A150
            clear A150
            by_cases c16 : (strOfNums t135).toList = (strOfNums t138).toList
            · rw [if_pos c16] at H
              have c16b0 : ((strOfNums t135).toList == (strOfNums t138).toList) = true := beq_iff_eq.mpr c16
              have c16b1 : ((strOfNums t135).toList != (strOfNums t138).toList) = false := bne_eq_false_iff_eq.mpr c16
              clear c16
              replace H := Option.bind_eq_some_iff.mp H
              obtain ⟨t141, A170, H⟩ := H
              replace H : ((castellanref1_Put32.f a3).bind fun t144 => (if (strOfNums t141).toList = (strOfNums t144).toList then ((castellanlaw1_known.f).bind fun t147 => (some t147)) else (some false))) = some r := H
              have A17 := Aside0.mk A170
              clear A170
              replace H := Option.bind_eq_some_iff.mp H
              obtain ⟨t144, A180, H⟩ := H
              replace H : (if (strOfNums t141).toList = (strOfNums t144).toList then ((castellanlaw1_known.f).bind fun t147 => (some t147)) else (some false)) = some r := H
              have A18 := Aside0.mk A180
              clear A180
              by_cases c19 : (strOfNums t141).toList = (strOfNums t144).toList
              · rw [if_pos c19] at H
                have c19b0 : ((strOfNums t141).toList == (strOfNums t144).toList) = true := beq_iff_eq.mpr c19
                have c19b1 : ((strOfNums t141).toList != (strOfNums t144).toList) = false := bne_eq_false_iff_eq.mpr c19
                clear c19
                replace H := Option.bind_eq_some_iff.mp H
                obtain ⟨t147, A200, H⟩ := H
                replace H : (some t147) = some r := H
                have A20 := Aside0.mk A200
                clear A200
                obtain rfl := Option.some.inj H
                try go_wp2
                have n0_ := Aside0.mk (below_drew1 HB.out)
                clear HB
                have HB := n0_
                clear n0_
                refine start_ (n := 38) (S := fun w' => True) (ds := []) #[false, false, false, false, false, false, false, false, false, false, false, false, false, false, false, false, false, false, false, false, false, false, false, false, false, false, false, false, false, false, false, false, false, false, false, false, false, false] (by kernel_rfl) rfl rfl trivial (fun hHeld => ?_); refine with_tabW castellanlaw1_WordGets.tab3 castellanlaw1_WordGets.bits3 (fun HT_ HW_ => ?_)
                generalize wc.drew = w21 at HB hHeld ⊢
                refine pure_ (i := 0) (N := some 16) (v := ?_) (a' := ?_) #[true, false, false, false, false, false, false, false, false, false, false, false, false, false, false, false, false, false, false, false, false, false, false, false, false, false, false, false, false, false, false, false, false, false, false, false, false, false] rfl rfl (any_of HT_.out (by kernel_rfl)) (fun _ _ _ h => h) (Or.inl ⟨by rfl, ?_⟩) ?_ ?_
                rotate_left
                · intro w'
                  go_simp
                  with_reducible rfl
                rotate_left
                · simp only [Act.put, List.setIfInBounds_toArray, List.set_cons_zero, List.set_cons_succ, i64_w, i32_w]
                  rfl
                refine pure_ (i := 1) (N := some 17) (v := ?_) (a' := ?_) #[true, true, false, false, false, false, false, false, false, false, false, false, false, false, false, false, false, false, false, false, false, false, false, false, false, false, false, false, false, false, false, false, false, false, false, false, false, false] rfl rfl (any_of HT_.out (by kernel_rfl)) (fun _ _ _ h => h) (Or.inl ⟨by rfl, ?_⟩) ?_ ?_
                rotate_left
                · intro w'
                  go_simp
                  with_reducible rfl
                rotate_left
                · simp only [Act.put, List.setIfInBounds_toArray, List.set_cons_zero, List.set_cons_succ, i64_w, i32_w]
                  rfl
                refine pure_ (i := 3) (N := some 19) (v := ?_) (a' := ?_) #[true, true, false, true, false, false, false, false, false, false, false, false, false, false, false, false, false, false, false, false, false, false, false, false, false, false, false, false, false, false, false, false, false, false, false, false, false, false] rfl rfl (any_of HT_.out (by kernel_rfl)) (fun _ _ _ h => h) (Or.inl ⟨by rfl, ?_⟩) ?_ ?_
                rotate_left
                · intro w'
                  go_simp
                  with_reducible rfl
                rotate_left
                · simp only [Act.put, List.setIfInBounds_toArray, List.set_cons_zero, List.set_cons_succ, i64_w, i32_w]
                  rfl
                refine pure_ (i := 4) (N := some 20) (v := ?_) (a' := ?_) #[true, true, false, true, true, false, false, false, false, false, false, false, false, false, false, false, false, false, false, false, false, false, false, false, false, false, false, false, false, false, false, false, false, false, false, false, false, false] rfl rfl (any_of HT_.out (by kernel_rfl)) (fun _ _ _ h => h) (Or.inl ⟨by rfl, ?_⟩) ?_ ?_
                rotate_left
                · intro w'
                  go_simp
                  with_reducible rfl
                rotate_left
                · simp only [Act.put, List.setIfInBounds_toArray, List.set_cons_zero, List.set_cons_succ, i64_w, i32_w]
                  rfl
                refine inv_at [2, 5, 6, 7, 8, 9, 10, 11, 12, 13, 14, 15, 16, 17, 18, 19, 20, 21, 22, 23, 24, 25, 26, 27, 28, 29, 30, 31, 32, 33, 34, 35, 36, 37] (fun a0_ b a w' => ∃ (v136 : Value) (v139 : Value) (v142 : Value) (v145 : Value), a = putSel a0_ b [(2, 18, .int .i64 t131), (5, 21, .int .i64 t132), (6, 22, .bool (t131 == t132)), (7, 23, .bool (t131 == t132)), (8, 24, .slice A0 l0.length c0), (9, 25, .int .i64 a1), (10, 26, .int .u32 t133), (11, 27, .slice A0 l0.length c0), (12, 28, .int .i64 a1), (13, 29, .int .u32 t134), (14, 30, .bool (t133 == t134)), (15, 31, .bool (t133 == t134)), (16, 32, .bool (t133 == t134)), (17, 33, .int .i64 a2), (18, 34, v136), (19, 35, .string (strOfNums t135)), (20, 36, .int .i64 a2), (21, 37, v139), (22, 38, .string (strOfNums t138)), (23, 39, .bool ((strOfNums t135).toList == (strOfNums t138).toList)), (24, 40, .bool ((strOfNums t135).toList == (strOfNums t138).toList)), (25, 41, .bool ((strOfNums t135).toList == (strOfNums t138).toList)), (26, 42, .int .u32 a3), (27, 43, v142), (28, 44, .string (strOfNums t141)), (29, 45, .int .u32 a3), (30, 46, v145), (31, 47, .string (strOfNums t144)), (32, 48, .bool ((strOfNums t141).toList == (strOfNums t144).toList)), (33, 49, .bool ((strOfNums t141).toList == (strOfNums t144).toList)), (34, 50, .bool ((strOfNums t141).toList == (strOfNums t144).toList)), (35, 51, .bool t147), (36, 52, .bool t147), (37, 8, .bool t147)] ∧ (Below w.heap.size w w') ∧ (b 18 = true → Kd.R (Kd.int .u8) 5 w' w.heap.size (fun _ => True) v136 t135) ∧ (b 21 = true → Kd.R (Kd.int .u8) 5 w' w.heap.size (fun _ => True) v139 t138) ∧ (b 27 = true → Kd.R (Kd.int .u8) 5 w' w.heap.size (fun _ => True) v142 t141) ∧ (b 30 = true → Kd.R (Kd.int .u8) 5 w' w.heap.size (fun _ => True) v145 t144)) HT_.out HW_.out (by kernel_rfl) (by kernel_rfl) ?_ ?_ ?_
                · exact ⟨.bool false, .bool false, .bool false, .bool false, by simp only [putSel, Bool.false_eq_true, if_false], HB.out, fun h_ => absurd h_ (by decide), fun h_ => absurd h_ (by decide), fun h_ => absurd h_ (by decide), fun h_ => absurd h_ (by decide)⟩
                · skip
                  clear HB
                  refine steps_cons ?_ ?_
                  · rintro b a w' ⟨v136, v139, v142, v145, ha, Q_HB, Q_HO137, Q_HO140, Q_HO143, Q_HO146⟩ hb_ hon hoff
                    refine ⟨_, rfl, fun K hK => ?_⟩
                    have e16 : a.tmps[16]? = some (.slice A0 l0.length c0) := by rw [ha]; exact (putSel_off rfl).trans rfl
                    have e17 : a.tmps[17]? = some (.int .i64 a1) := by rw [ha]; exact (putSel_off rfl).trans rfl
                    replace ha := Aside0.mk ha
                    have HB := Aside0.mk Q_HB
                    refine goes_ Try.func14 (by kernel_rfl) rfl #[.slice A0 l0.length c0, .int .i64 a1] (by rfl) rfl rfl (by first | (simp only [List.map_toArray, List.map_cons, List.map_nil, Act.eval, Array.getD_eq_getD_getElem?, Option.getD_some, e16, e17]; done) | (simp only [List.map_toArray, List.map_cons, List.map_nil, Act.eval, Array.getD_eq_getD_getElem?, Option.getD_some, e16, e17]; rfl)) ?_
                    with_reducible refine (word_Get16.calls _ _ l0 a1 t131 _ ?side1 ?side2 A8.out).mono ?_
                    (case side1 => repeat (first | exact (Kd.C_below HR0.out HB.out) | (with_reducible refine Kd.C_alloc ?_ _) | (with_reducible refine Kd.C_drewN ?_ _) | (with_reducible refine Kd.C_drew ?_)))
                    (case side2 => exact HC0.out)
                    rintro e w' ⟨rfl, ⟨nd, rfl⟩⟩
                    refine ⟨_, rfl, ?_⟩
                    refine hK.out _ _ ⟨v136, v139, v142, v145, (by rw [ha.out]; exact putSel_upk 0 hb_ rfl rfl rfl), (by repeat (first | (with_reducible first | exact HB.out | apply below_alloc | apply pw_below_drewN | apply below_drew1) | exact HB.out)), fun h0_ => absurd ((hoff 18 (by kernel_rfl)).symm.trans h0_) (by decide), fun h0_ => absurd ((hoff 21 (by kernel_rfl)).symm.trans h0_) (by decide), fun h0_ => absurd ((hoff 27 (by kernel_rfl)).symm.trans h0_) (by decide), fun h0_ => absurd ((hoff 30 (by kernel_rfl)).symm.trans h0_) (by decide)⟩
                  refine steps_cons ?_ ?_
                  · rintro b a w' ⟨v136, v139, v142, v145, ha, Q_HB, Q_HO137, Q_HO140, Q_HO143, Q_HO146⟩ hb_ hon hoff
                    refine ⟨_, rfl, fun K hK => ?_⟩
                    have e19 : a.tmps[19]? = some (.slice A0 l0.length c0) := by rw [ha]; exact (putSel_off rfl).trans rfl
                    have e20 : a.tmps[20]? = some (.int .i64 a1) := by rw [ha]; exact (putSel_off rfl).trans rfl
                    replace ha := Aside0.mk ha
                    have HB := Aside0.mk Q_HB
                    refine goes_ Try.func17 (by kernel_rfl) rfl #[.slice A0 l0.length c0, .int .i64 a1] (by rfl) rfl rfl (by first | (simp only [List.map_toArray, List.map_cons, List.map_nil, Act.eval, Array.getD_eq_getD_getElem?, Option.getD_some, e19, e20]; done) | (simp only [List.map_toArray, List.map_cons, List.map_nil, Act.eval, Array.getD_eq_getD_getElem?, Option.getD_some, e19, e20]; rfl)) ?_
                    with_reducible refine (castellanref1_Get16.calls _ _ l0 a1 t132 _ ?side1 ?side2 A9.out).mono ?_
                    (case side1 => repeat (first | exact (Kd.C_below HR0.out HB.out) | (with_reducible refine Kd.C_alloc ?_ _) | (with_reducible refine Kd.C_drewN ?_ _) | (with_reducible refine Kd.C_drew ?_)))
                    (case side2 => exact HC0.out)
                    rintro e w' ⟨rfl, ⟨nd, rfl⟩⟩
                    refine ⟨_, rfl, ?_⟩
                    refine hK.out _ _ ⟨v136, v139, v142, v145, (by rw [ha.out]; exact putSel_upk 1 hb_ rfl rfl rfl), (by repeat (first | (with_reducible first | exact HB.out | apply below_alloc | apply pw_below_drewN | apply below_drew1) | exact HB.out)), fun h0_ => absurd ((hoff 18 (by kernel_rfl)).symm.trans h0_) (by decide), fun h0_ => absurd ((hoff 21 (by kernel_rfl)).symm.trans h0_) (by decide), fun h0_ => absurd ((hoff 27 (by kernel_rfl)).symm.trans h0_) (by decide), fun h0_ => absurd ((hoff 30 (by kernel_rfl)).symm.trans h0_) (by decide)⟩
                  refine steps_cons ?_ ?_
                  · rintro b a w' ⟨v136, v139, v142, v145, ha, Q_HB, Q_HO137, Q_HO140, Q_HO143, Q_HO146⟩ hb_ hon hoff
                    refine ⟨_, rfl, fun K hK => ?_⟩
                    have e18 : a.tmps[18]? = some (.int .i64 t131) := by rw [ha]; exact putSel_on (e := (2, 18, .int .i64 t131)) 0 rfl rfl (hon 2 (by kernel_rfl)) rfl
                    have e21 : a.tmps[21]? = some (.int .i64 t132) := by rw [ha]; exact putSel_on (e := (5, 21, .int .i64 t132)) 1 rfl rfl (hon 5 (by kernel_rfl)) rfl
                    replace ha := Aside0.mk ha
                    have HB := Aside0.mk Q_HB
                    refine value_ (w1 := w') (v := .bool (t131 == t132)) (by rfl) rfl ?_ ?_
                    · go_simp
                      (try simp only [i64_w])
                      try rfl
                    refine hK.out _ _ ⟨v136, v139, v142, v145, (by rw [ha.out]; exact putSel_upk 2 hb_ rfl rfl rfl), Q_HB, fun h0_ => absurd ((hoff 18 (by kernel_rfl)).symm.trans h0_) (by decide), fun h0_ => absurd ((hoff 21 (by kernel_rfl)).symm.trans h0_) (by decide), fun h0_ => absurd ((hoff 27 (by kernel_rfl)).symm.trans h0_) (by decide), fun h0_ => absurd ((hoff 30 (by kernel_rfl)).symm.trans h0_) (by decide)⟩
                  refine steps_cons ?_ ?_
                  · rintro b a w' ⟨v136, v139, v142, v145, ha, Q_HB, Q_HO137, Q_HO140, Q_HO143, Q_HO146⟩ hb_ hon hoff
                    refine ⟨_, rfl, fun K hK => ?_⟩
                    have e22 : a.tmps[22]? = some (.bool (t131 == t132)) := by rw [ha]; exact putSel_on (e := (6, 22, .bool (t131 == t132))) 2 rfl rfl (hon 6 (by kernel_rfl)) rfl
                    replace ha := Aside0.mk ha
                    have HB := Aside0.mk Q_HB
                    refine value_ (w1 := w') (v := .bool (t131 == t132)) (by rfl) rfl ?_ ?_
                    · go_simp
                      (try simp only [i64_w])
                      try rfl
                    refine hK.out _ _ ⟨v136, v139, v142, v145, (by rw [ha.out]; exact putSel_upk 3 hb_ rfl rfl rfl), Q_HB, fun h0_ => absurd ((hoff 18 (by kernel_rfl)).symm.trans h0_) (by decide), fun h0_ => absurd ((hoff 21 (by kernel_rfl)).symm.trans h0_) (by decide), fun h0_ => absurd ((hoff 27 (by kernel_rfl)).symm.trans h0_) (by decide), fun h0_ => absurd ((hoff 30 (by kernel_rfl)).symm.trans h0_) (by decide)⟩
                  refine steps_cons ?_ ?_
                  · rintro b a w' ⟨v136, v139, v142, v145, ha, Q_HB, Q_HO137, Q_HO140, Q_HO143, Q_HO146⟩ hb_ hon hoff
                    refine ⟨_, rfl, fun K hK => ?_⟩
                    have e0 : a.tmps[0]? = some (.slice A0 l0.length c0) := by rw [ha]; exact (putSel_off rfl).trans rfl
                    have e23 : a.tmps[23]? = some (.bool (t131 == t132)) := by rw [ha]; exact putSel_on (e := (7, 23, .bool (t131 == t132))) 3 rfl rfl (hon 7 (by kernel_rfl)) rfl
                    replace ha := Aside0.mk ha
                    have HB := Aside0.mk Q_HB
                    refine value_ (w1 := w') (v := .slice A0 l0.length c0) (wanted_on rfl rfl rfl (e23.trans (by first | rfl | (simp [*]; done)))) rfl ?_ ?_
                    · go_simp
                      (try simp only [i64_w])
                      try rfl
                    refine hK.out _ _ ⟨v136, v139, v142, v145, (by rw [ha.out]; exact putSel_upk 4 hb_ rfl rfl rfl), Q_HB, fun h0_ => absurd ((hoff 18 (by kernel_rfl)).symm.trans h0_) (by decide), fun h0_ => absurd ((hoff 21 (by kernel_rfl)).symm.trans h0_) (by decide), fun h0_ => absurd ((hoff 27 (by kernel_rfl)).symm.trans h0_) (by decide), fun h0_ => absurd ((hoff 30 (by kernel_rfl)).symm.trans h0_) (by decide)⟩
                  refine steps_cons ?_ ?_
                  · rintro b a w' ⟨v136, v139, v142, v145, ha, Q_HB, Q_HO137, Q_HO140, Q_HO143, Q_HO146⟩ hb_ hon hoff
                    refine ⟨_, rfl, fun K hK => ?_⟩
                    have e1 : a.tmps[1]? = some (.int .i64 a1) := by rw [ha]; exact (putSel_off rfl).trans rfl
                    have e23 : a.tmps[23]? = some (.bool (t131 == t132)) := by rw [ha]; exact putSel_on (e := (7, 23, .bool (t131 == t132))) 3 rfl rfl (hon 7 (by kernel_rfl)) rfl
                    replace ha := Aside0.mk ha
                    have HB := Aside0.mk Q_HB
                    refine value_ (w1 := w') (v := .int .i64 a1) (wanted_on rfl rfl rfl (e23.trans (by first | rfl | (simp [*]; done)))) rfl ?_ ?_
                    · go_simp
                      (try simp only [i64_w])
                      try rfl
                    refine hK.out _ _ ⟨v136, v139, v142, v145, (by rw [ha.out]; exact putSel_upk 5 hb_ rfl rfl rfl), Q_HB, fun h0_ => absurd ((hoff 18 (by kernel_rfl)).symm.trans h0_) (by decide), fun h0_ => absurd ((hoff 21 (by kernel_rfl)).symm.trans h0_) (by decide), fun h0_ => absurd ((hoff 27 (by kernel_rfl)).symm.trans h0_) (by decide), fun h0_ => absurd ((hoff 30 (by kernel_rfl)).symm.trans h0_) (by decide)⟩
                  refine steps_cons ?_ ?_
                  · rintro b a w' ⟨v136, v139, v142, v145, ha, Q_HB, Q_HO137, Q_HO140, Q_HO143, Q_HO146⟩ hb_ hon hoff
                    refine ⟨_, rfl, fun K hK => ?_⟩
                    have e24 : a.tmps[24]? = some (.slice A0 l0.length c0) := by rw [ha]; exact putSel_on (e := (8, 24, .slice A0 l0.length c0)) 4 rfl rfl (hon 8 (by kernel_rfl)) rfl
                    have e25 : a.tmps[25]? = some (.int .i64 a1) := by rw [ha]; exact putSel_on (e := (9, 25, .int .i64 a1)) 5 rfl rfl (hon 9 (by kernel_rfl)) rfl
                    have e23 : a.tmps[23]? = some (.bool (t131 == t132)) := by rw [ha]; exact putSel_on (e := (7, 23, .bool (t131 == t132))) 3 rfl rfl (hon 7 (by kernel_rfl)) rfl
                    replace ha := Aside0.mk ha
                    have HB := Aside0.mk Q_HB
                    refine goes_ Try.func15 (by kernel_rfl) rfl #[.slice A0 l0.length c0, .int .i64 a1] (wanted_on rfl rfl rfl (e23.trans (by first | rfl | (simp [*]; done)))) rfl rfl (by first | (simp only [List.map_toArray, List.map_cons, List.map_nil, Act.eval, Array.getD_eq_getD_getElem?, Option.getD_some, e24, e25, e23]; done) | (simp only [List.map_toArray, List.map_cons, List.map_nil, Act.eval, Array.getD_eq_getD_getElem?, Option.getD_some, e24, e25, e23]; rfl)) ?_
                    with_reducible refine (word_Get32.calls kj4 _ _ l0 a1 t133 _ ?side1 ?side2 A11.out).mono ?_
                    (case side1 => repeat (first | exact (Kd.C_below HR0.out HB.out) | (with_reducible refine Kd.C_alloc ?_ _) | (with_reducible refine Kd.C_drewN ?_ _) | (with_reducible refine Kd.C_drew ?_)))
                    (case side2 => exact HC0.out)
                    rintro e w' ⟨rfl, ⟨nd, rfl⟩⟩
                    refine ⟨_, rfl, ?_⟩
                    refine hK.out _ _ ⟨v136, v139, v142, v145, (by rw [ha.out]; exact putSel_upk 6 hb_ rfl rfl rfl), (by repeat (first | (with_reducible first | exact HB.out | apply below_alloc | apply pw_below_drewN | apply below_drew1) | exact HB.out)), fun h0_ => absurd ((hoff 18 (by kernel_rfl)).symm.trans h0_) (by decide), fun h0_ => absurd ((hoff 21 (by kernel_rfl)).symm.trans h0_) (by decide), fun h0_ => absurd ((hoff 27 (by kernel_rfl)).symm.trans h0_) (by decide), fun h0_ => absurd ((hoff 30 (by kernel_rfl)).symm.trans h0_) (by decide)⟩
                  refine steps_cons ?_ ?_
                  · rintro b a w' ⟨v136, v139, v142, v145, ha, Q_HB, Q_HO137, Q_HO140, Q_HO143, Q_HO146⟩ hb_ hon hoff
                    refine ⟨_, rfl, fun K hK => ?_⟩
                    have e0 : a.tmps[0]? = some (.slice A0 l0.length c0) := by rw [ha]; exact (putSel_off rfl).trans rfl
                    have e23 : a.tmps[23]? = some (.bool (t131 == t132)) := by rw [ha]; exact putSel_on (e := (7, 23, .bool (t131 == t132))) 3 rfl rfl (hon 7 (by kernel_rfl)) rfl
                    replace ha := Aside0.mk ha
                    have HB := Aside0.mk Q_HB
                    refine value_ (w1 := w') (v := .slice A0 l0.length c0) (wanted_on rfl rfl rfl (e23.trans (by first | rfl | (simp [*]; done)))) rfl ?_ ?_
                    · go_simp
                      (try simp only [i64_w])
                      try rfl
                    refine hK.out _ _ ⟨v136, v139, v142, v145, (by rw [ha.out]; exact putSel_upk 7 hb_ rfl rfl rfl), Q_HB, fun h0_ => absurd ((hoff 18 (by kernel_rfl)).symm.trans h0_) (by decide), fun h0_ => absurd ((hoff 21 (by kernel_rfl)).symm.trans h0_) (by decide), fun h0_ => absurd ((hoff 27 (by kernel_rfl)).symm.trans h0_) (by decide), fun h0_ => absurd ((hoff 30 (by kernel_rfl)).symm.trans h0_) (by decide)⟩
                  refine steps_cons ?_ ?_
                  · rintro b a w' ⟨v136, v139, v142, v145, ha, Q_HB, Q_HO137, Q_HO140, Q_HO143, Q_HO146⟩ hb_ hon hoff
                    refine ⟨_, rfl, fun K hK => ?_⟩
                    have e1 : a.tmps[1]? = some (.int .i64 a1) := by rw [ha]; exact (putSel_off rfl).trans rfl
                    have e23 : a.tmps[23]? = some (.bool (t131 == t132)) := by rw [ha]; exact putSel_on (e := (7, 23, .bool (t131 == t132))) 3 rfl rfl (hon 7 (by kernel_rfl)) rfl
                    replace ha := Aside0.mk ha
                    have HB := Aside0.mk Q_HB
                    refine value_ (w1 := w') (v := .int .i64 a1) (wanted_on rfl rfl rfl (e23.trans (by first | rfl | (simp [*]; done)))) rfl ?_ ?_
                    · go_simp
                      (try simp only [i64_w])
                      try rfl
                    refine hK.out _ _ ⟨v136, v139, v142, v145, (by rw [ha.out]; exact putSel_upk 8 hb_ rfl rfl rfl), Q_HB, fun h0_ => absurd ((hoff 18 (by kernel_rfl)).symm.trans h0_) (by decide), fun h0_ => absurd ((hoff 21 (by kernel_rfl)).symm.trans h0_) (by decide), fun h0_ => absurd ((hoff 27 (by kernel_rfl)).symm.trans h0_) (by decide), fun h0_ => absurd ((hoff 30 (by kernel_rfl)).symm.trans h0_) (by decide)⟩
                  refine steps_cons ?_ ?_
                  · rintro b a w' ⟨v136, v139, v142, v145, ha, Q_HB, Q_HO137, Q_HO140, Q_HO143, Q_HO146⟩ hb_ hon hoff
                    refine ⟨_, rfl, fun K hK => ?_⟩
                    have e27 : a.tmps[27]? = some (.slice A0 l0.length c0) := by rw [ha]; exact putSel_on (e := (11, 27, .slice A0 l0.length c0)) 7 rfl rfl (hon 11 (by kernel_rfl)) rfl
                    have e28 : a.tmps[28]? = some (.int .i64 a1) := by rw [ha]; exact putSel_on (e := (12, 28, .int .i64 a1)) 8 rfl rfl (hon 12 (by kernel_rfl)) rfl
                    have e23 : a.tmps[23]? = some (.bool (t131 == t132)) := by rw [ha]; exact putSel_on (e := (7, 23, .bool (t131 == t132))) 3 rfl rfl (hon 7 (by kernel_rfl)) rfl
                    replace ha := Aside0.mk ha
                    have HB := Aside0.mk Q_HB
                    refine goes_ Try.func18 (by kernel_rfl) rfl #[.slice A0 l0.length c0, .int .i64 a1] (wanted_on rfl rfl rfl (e23.trans (by first | rfl | (simp [*]; done)))) rfl rfl (by first | (simp only [List.map_toArray, List.map_cons, List.map_nil, Act.eval, Array.getD_eq_getD_getElem?, Option.getD_some, e27, e28, e23]; done) | (simp only [List.map_toArray, List.map_cons, List.map_nil, Act.eval, Array.getD_eq_getD_getElem?, Option.getD_some, e27, e28, e23]; rfl)) ?_
                    with_reducible refine (castellanref1_Get32.calls _ _ l0 a1 t134 _ ?side1 ?side2 A12.out).mono ?_
                    (case side1 => repeat (first | exact (Kd.C_below HR0.out HB.out) | (with_reducible refine Kd.C_alloc ?_ _) | (with_reducible refine Kd.C_drewN ?_ _) | (with_reducible refine Kd.C_drew ?_)))
                    (case side2 => exact HC0.out)
                    rintro e w' ⟨rfl, ⟨nd, rfl⟩⟩
                    refine ⟨_, rfl, ?_⟩
                    refine hK.out _ _ ⟨v136, v139, v142, v145, (by rw [ha.out]; exact putSel_upk 9 hb_ rfl rfl rfl), (by repeat (first | (with_reducible first | exact HB.out | apply below_alloc | apply pw_below_drewN | apply below_drew1) | exact HB.out)), fun h0_ => absurd ((hoff 18 (by kernel_rfl)).symm.trans h0_) (by decide), fun h0_ => absurd ((hoff 21 (by kernel_rfl)).symm.trans h0_) (by decide), fun h0_ => absurd ((hoff 27 (by kernel_rfl)).symm.trans h0_) (by decide), fun h0_ => absurd ((hoff 30 (by kernel_rfl)).symm.trans h0_) (by decide)⟩
                  refine steps_cons ?_ ?_
                  · rintro b a w' ⟨v136, v139, v142, v145, ha, Q_HB, Q_HO137, Q_HO140, Q_HO143, Q_HO146⟩ hb_ hon hoff
                    refine ⟨_, rfl, fun K hK => ?_⟩
                    have e26 : a.tmps[26]? = some (.int .u32 t133) := by rw [ha]; exact putSel_on (e := (10, 26, .int .u32 t133)) 6 rfl rfl (hon 10 (by kernel_rfl)) rfl
                    have e29 : a.tmps[29]? = some (.int .u32 t134) := by rw [ha]; exact putSel_on (e := (13, 29, .int .u32 t134)) 9 rfl rfl (hon 13 (by kernel_rfl)) rfl
                    have e23 : a.tmps[23]? = some (.bool (t131 == t132)) := by rw [ha]; exact putSel_on (e := (7, 23, .bool (t131 == t132))) 3 rfl rfl (hon 7 (by kernel_rfl)) rfl
                    replace ha := Aside0.mk ha
                    have HB := Aside0.mk Q_HB
                    refine value_ (w1 := w') (v := .bool (t133 == t134)) (wanted_on rfl rfl rfl (e23.trans (by first | rfl | (simp [*]; done)))) rfl ?_ ?_
                    · go_simp
                      (try simp only [i64_w])
                      try rfl
                    refine hK.out _ _ ⟨v136, v139, v142, v145, (by rw [ha.out]; exact putSel_upk 10 hb_ rfl rfl rfl), Q_HB, fun h0_ => absurd ((hoff 18 (by kernel_rfl)).symm.trans h0_) (by decide), fun h0_ => absurd ((hoff 21 (by kernel_rfl)).symm.trans h0_) (by decide), fun h0_ => absurd ((hoff 27 (by kernel_rfl)).symm.trans h0_) (by decide), fun h0_ => absurd ((hoff 30 (by kernel_rfl)).symm.trans h0_) (by decide)⟩
                  refine steps_cons ?_ ?_
                  · rintro b a w' ⟨v136, v139, v142, v145, ha, Q_HB, Q_HO137, Q_HO140, Q_HO143, Q_HO146⟩ hb_ hon hoff
                    refine ⟨_, rfl, fun K hK => ?_⟩
                    have e23 : a.tmps[23]? = some (.bool (t131 == t132)) := by rw [ha]; exact putSel_on (e := (7, 23, .bool (t131 == t132))) 3 rfl rfl (hon 7 (by kernel_rfl)) rfl
                    have e30 : a.tmps[30]? = some (.bool (t133 == t134)) := by rw [ha]; exact putSel_on (e := (14, 30, .bool (t133 == t134))) 10 rfl rfl (hon 14 (by kernel_rfl)) rfl
                    replace ha := Aside0.mk ha
                    have HB := Aside0.mk Q_HB
                    refine value_ (w1 := w') (v := .bool (t133 == t134)) (by rfl) rfl ?_ ?_
                    · go_simp
                      (try simp only [i64_w])
                      try rfl
                    refine hK.out _ _ ⟨v136, v139, v142, v145, (by rw [ha.out]; exact putSel_upk 11 hb_ rfl rfl rfl), Q_HB, fun h0_ => absurd ((hoff 18 (by kernel_rfl)).symm.trans h0_) (by decide), fun h0_ => absurd ((hoff 21 (by kernel_rfl)).symm.trans h0_) (by decide), fun h0_ => absurd ((hoff 27 (by kernel_rfl)).symm.trans h0_) (by decide), fun h0_ => absurd ((hoff 30 (by kernel_rfl)).symm.trans h0_) (by decide)⟩
                  refine steps_cons ?_ ?_
                  · rintro b a w' ⟨v136, v139, v142, v145, ha, Q_HB, Q_HO137, Q_HO140, Q_HO143, Q_HO146⟩ hb_ hon hoff
                    refine ⟨_, rfl, fun K hK => ?_⟩
                    have e31 : a.tmps[31]? = some (.bool (t133 == t134)) := by rw [ha]; exact putSel_on (e := (15, 31, .bool (t133 == t134))) 11 rfl rfl (hon 15 (by kernel_rfl)) rfl
                    replace ha := Aside0.mk ha
                    have HB := Aside0.mk Q_HB
                    refine value_ (w1 := w') (v := .bool (t133 == t134)) (by rfl) rfl ?_ ?_
                    · go_simp
                      (try simp only [i64_w])
                      try rfl
                    refine hK.out _ _ ⟨v136, v139, v142, v145, (by rw [ha.out]; exact putSel_upk 12 hb_ rfl rfl rfl), Q_HB, fun h0_ => absurd ((hoff 18 (by kernel_rfl)).symm.trans h0_) (by decide), fun h0_ => absurd ((hoff 21 (by kernel_rfl)).symm.trans h0_) (by decide), fun h0_ => absurd ((hoff 27 (by kernel_rfl)).symm.trans h0_) (by decide), fun h0_ => absurd ((hoff 30 (by kernel_rfl)).symm.trans h0_) (by decide)⟩
                  refine steps_cons ?_ ?_
                  · rintro b a w' ⟨v136, v139, v142, v145, ha, Q_HB, Q_HO137, Q_HO140, Q_HO143, Q_HO146⟩ hb_ hon hoff
                    refine ⟨_, rfl, fun K hK => ?_⟩
                    have e2 : a.tmps[2]? = some (.int .i64 a2) := by rw [ha]; exact (putSel_off rfl).trans rfl
                    have e32 : a.tmps[32]? = some (.bool (t133 == t134)) := by rw [ha]; exact putSel_on (e := (16, 32, .bool (t133 == t134))) 12 rfl rfl (hon 16 (by kernel_rfl)) rfl
                    replace ha := Aside0.mk ha
                    have HB := Aside0.mk Q_HB
                    refine value_ (w1 := w') (v := .int .i64 a2) (wanted_on rfl rfl rfl (e32.trans (by first | rfl | (simp [*]; done)))) rfl ?_ ?_
                    · go_simp
                      (try simp only [i64_w])
                      try rfl
                    refine hK.out _ _ ⟨v136, v139, v142, v145, (by rw [ha.out]; exact putSel_upk 13 hb_ rfl rfl rfl), Q_HB, fun h0_ => absurd ((hoff 18 (by kernel_rfl)).symm.trans h0_) (by decide), fun h0_ => absurd ((hoff 21 (by kernel_rfl)).symm.trans h0_) (by decide), fun h0_ => absurd ((hoff 27 (by kernel_rfl)).symm.trans h0_) (by decide), fun h0_ => absurd ((hoff 30 (by kernel_rfl)).symm.trans h0_) (by decide)⟩
                  refine steps_cons ?_ ?_
                  · rintro b a w' ⟨v136, v139, v142, v145, ha, Q_HB, Q_HO137, Q_HO140, Q_HO143, Q_HO146⟩ hb_ hon hoff
                    refine ⟨_, rfl, fun K hK => ?_⟩
                    have e33 : a.tmps[33]? = some (.int .i64 a2) := by rw [ha]; exact putSel_on (e := (17, 33, .int .i64 a2)) 13 rfl rfl (hon 17 (by kernel_rfl)) rfl
                    have e32 : a.tmps[32]? = some (.bool (t133 == t134)) := by rw [ha]; exact putSel_on (e := (16, 32, .bool (t133 == t134))) 12 rfl rfl (hon 16 (by kernel_rfl)) rfl
                    replace ha := Aside0.mk ha
                    have HB := Aside0.mk Q_HB
                    refine goes_ Try.func13 (by kernel_rfl) rfl #[.int .i64 a2] (wanted_on rfl rfl rfl (e32.trans (by first | rfl | (simp [*]; done)))) rfl rfl (by first | (simp only [List.map_toArray, List.map_cons, List.map_nil, Act.eval, Array.getD_eq_getD_getElem?, Option.getD_some, e33, e32]; done) | (simp only [List.map_toArray, List.map_cons, List.map_nil, Act.eval, Array.getD_eq_getD_getElem?, Option.getD_some, e33, e32]; rfl)) ?_
                    with_reducible refine (word_Put16.calls a2 t135 _ A14.out).mono ?_
                    rintro e w23 ⟨v136, rfl, ho0, hb⟩
                    refine ⟨_, rfl, ?_⟩
                    have n0_ := Aside0.mk (Kd.R_lower ho0 (below_size (by repeat (first | (with_reducible first | exact HB.out | apply below_alloc | apply pw_below_drewN | apply below_drew1) | exact HB.out))))
                    have n1_ := Aside0.mk (below_step (by repeat (first | (with_reducible first | exact HB.out | apply below_alloc | apply pw_below_drewN | apply below_drew1) | exact HB.out)) hb)
                    clear HB
                    have HO137 := n0_
                    have HB := n1_
                    clear n0_ n1_
                    (try clear hb)
                    (try clear hb2)
                    (try clear hk)
                    (try clear hi)
                    (try clear ho0)
                    refine hK.out _ _ ⟨v136, v139, v142, v145, (by rw [ha.out]; exact putSel_upk 14 hb_ rfl rfl rfl), (by repeat (first | (with_reducible first | exact HB.out | apply below_alloc | apply pw_below_drewN | apply below_drew1) | exact HB.out)), fun _ => (by first | ((with_reducible repeat (first | apply Kd.R_alloc | apply Kd.R_drewN | apply Kd.R_drew)); exact HO137.out) | ((with_reducible repeat (first | apply Kd.R_alloc | apply Kd.R_drewN | apply Kd.R_drew)); exact Kd.R_mono HO137.out (fun _ hk => by first | trivial | exact hk | exact hk.1 | exact hk.2 | exact hk.1.1))), fun h0_ => absurd ((hoff 21 (by kernel_rfl)).symm.trans h0_) (by decide), fun h0_ => absurd ((hoff 27 (by kernel_rfl)).symm.trans h0_) (by decide), fun h0_ => absurd ((hoff 30 (by kernel_rfl)).symm.trans h0_) (by decide)⟩
                  refine steps_cons ?_ ?_
                  · rintro b a w' ⟨v136, v139, v142, v145, ha, Q_HB, Q_HO137, Q_HO140, Q_HO143, Q_HO146⟩ hb_ hon hoff
                    refine ⟨_, rfl, fun K hK => ?_⟩
                    have e34 : a.tmps[34]? = some (v136) := by rw [ha]; exact putSel_on (e := (18, 34, v136)) 14 rfl rfl (hon 18 (by kernel_rfl)) rfl
                    have e32 : a.tmps[32]? = some (.bool (t133 == t134)) := by rw [ha]; exact putSel_on (e := (16, 32, .bool (t133 == t134))) 12 rfl rfl (hon 16 (by kernel_rfl)) rfl
                    replace ha := Aside0.mk ha
                    have HB := Aside0.mk Q_HB
                    have HO137 := Aside0.mk (Q_HO137 (hon 18 (by kernel_rfl)))
                    obtain ⟨Ao19_0, co19_0, eo_⟩ := Kd.R_slice HO137.out
                    subst eo_
                    have hcv_ := Kd.C_string (P := Try.prog) (A := Ao19_0) (c := co19_0) Try.underlying22 Try.underlying5 Try.underlying9 (Kd.R_reads' HO137.out).2.2
                    refine value_ (w1 := w') (v := .string (strOfNums t135)) (wanted_on rfl rfl rfl (e32.trans (by first | rfl | (simp [*]; done)))) rfl ?_ ?_
                    · go_simp
                      (try simp only [i64_w])
                      try rfl
                    refine hK.out _ _ ⟨.slice Ao19_0 t135.length co19_0, v139, v142, v145, (by rw [ha.out]; exact putSel_upk 15 hb_ rfl rfl rfl), Q_HB, Q_HO137, Q_HO140, fun h0_ => absurd ((hoff 27 (by kernel_rfl)).symm.trans h0_) (by decide), fun h0_ => absurd ((hoff 30 (by kernel_rfl)).symm.trans h0_) (by decide)⟩
                  refine steps_cons ?_ ?_
                  · rintro b a w' ⟨v136, v139, v142, v145, ha, Q_HB, Q_HO137, Q_HO140, Q_HO143, Q_HO146⟩ hb_ hon hoff
                    refine ⟨_, rfl, fun K hK => ?_⟩
                    have e2 : a.tmps[2]? = some (.int .i64 a2) := by rw [ha]; exact (putSel_off rfl).trans rfl
                    have e32 : a.tmps[32]? = some (.bool (t133 == t134)) := by rw [ha]; exact putSel_on (e := (16, 32, .bool (t133 == t134))) 12 rfl rfl (hon 16 (by kernel_rfl)) rfl
                    replace ha := Aside0.mk ha
                    have HB := Aside0.mk Q_HB
                    refine value_ (w1 := w') (v := .int .i64 a2) (wanted_on rfl rfl rfl (e32.trans (by first | rfl | (simp [*]; done)))) rfl ?_ ?_
                    · go_simp
                      (try simp only [i64_w])
                      try rfl
                    refine hK.out _ _ ⟨v136, v139, v142, v145, (by rw [ha.out]; exact putSel_upk 16 hb_ rfl rfl rfl), Q_HB, Q_HO137, fun h0_ => absurd ((hoff 21 (by kernel_rfl)).symm.trans h0_) (by decide), fun h0_ => absurd ((hoff 27 (by kernel_rfl)).symm.trans h0_) (by decide), fun h0_ => absurd ((hoff 30 (by kernel_rfl)).symm.trans h0_) (by decide)⟩
                  refine steps_cons ?_ ?_
                  · rintro b a w' ⟨v136, v139, v142, v145, ha, Q_HB, Q_HO137, Q_HO140, Q_HO143, Q_HO146⟩ hb_ hon hoff
                    refine ⟨_, rfl, fun K hK => ?_⟩
                    have e36 : a.tmps[36]? = some (.int .i64 a2) := by rw [ha]; exact putSel_on (e := (20, 36, .int .i64 a2)) 16 rfl rfl (hon 20 (by kernel_rfl)) rfl
                    have e32 : a.tmps[32]? = some (.bool (t133 == t134)) := by rw [ha]; exact putSel_on (e := (16, 32, .bool (t133 == t134))) 12 rfl rfl (hon 16 (by kernel_rfl)) rfl
                    replace ha := Aside0.mk ha
                    have HB := Aside0.mk Q_HB
                    have HO137 := Aside0.mk (Q_HO137 (hon 18 (by kernel_rfl)))
                    refine goes_ Try.func19 (by kernel_rfl) rfl #[.int .i64 a2] (wanted_on rfl rfl rfl (e32.trans (by first | rfl | (simp [*]; done)))) rfl rfl (by first | (simp only [List.map_toArray, List.map_cons, List.map_nil, Act.eval, Array.getD_eq_getD_getElem?, Option.getD_some, e36, e32]; done) | (simp only [List.map_toArray, List.map_cons, List.map_nil, Act.eval, Array.getD_eq_getD_getElem?, Option.getD_some, e36, e32]; rfl)) ?_
                    with_reducible refine (castellanref1_Put16.calls a2 t138 _ A15.out).mono ?_
                    rintro e w24 ⟨v139, rfl, ho0, hb⟩
                    refine ⟨_, rfl, ?_⟩
                    have n0_ := Aside0.mk (Kd.R_elder' (by (with_reducible repeat (first | apply Kd.R_alloc | apply Kd.R_drewN | apply Kd.R_drew)); exact HO137.out) (Kd.R_base ho0) hb)
                    have n1_ := Aside0.mk (Kd.R_lower (Kd.R_new' ho0 (Kd.R_lt (by (with_reducible repeat (first | apply Kd.R_alloc | apply Kd.R_drewN | apply Kd.R_drew)); exact HO137.out))) (below_size (by repeat (first | (with_reducible first | exact HB.out | apply below_alloc | apply pw_below_drewN | apply below_drew1) | exact HB.out))))
                    have n2_ := Aside0.mk (below_step (by repeat (first | (with_reducible first | exact HB.out | apply below_alloc | apply pw_below_drewN | apply below_drew1) | exact HB.out)) hb)
                    clear HO137
                    clear HB
                    have HO137 := n0_
                    have HO140 := n1_
                    have HB := n2_
                    clear n0_ n1_ n2_
                    (try clear hb)
                    (try clear hb2)
                    (try clear hk)
                    (try clear hi)
                    (try clear ho0)
                    refine hK.out _ _ ⟨v136, v139, v142, v145, (by rw [ha.out]; exact putSel_upk 17 hb_ rfl rfl rfl), (by repeat (first | (with_reducible first | exact HB.out | apply below_alloc | apply pw_below_drewN | apply below_drew1) | exact HB.out)), fun _ => (by first | ((with_reducible repeat (first | apply Kd.R_alloc | apply Kd.R_drewN | apply Kd.R_drew)); exact Kd.R_mono HO137.out (fun _ hk => hk.2)) | ((with_reducible repeat (first | apply Kd.R_alloc | apply Kd.R_drewN | apply Kd.R_drew)); exact Kd.R_mono HO137.out (fun _ hk => by first | trivial | exact hk | exact hk.1 | exact hk.2 | exact hk.1.1))), fun _ => (by first | ((with_reducible repeat (first | apply Kd.R_alloc | apply Kd.R_drewN | apply Kd.R_drew)); exact Kd.R_mono HO140.out (fun _ hk => hk.2)) | ((with_reducible repeat (first | apply Kd.R_alloc | apply Kd.R_drewN | apply Kd.R_drew)); exact Kd.R_mono HO140.out (fun _ hk => by first | trivial | exact hk | exact hk.1 | exact hk.2 | exact hk.1.1))), fun h0_ => absurd ((hoff 27 (by kernel_rfl)).symm.trans h0_) (by decide), fun h0_ => absurd ((hoff 30 (by kernel_rfl)).symm.trans h0_) (by decide)⟩
                  refine steps_cons ?_ ?_
                  · rintro b a w' ⟨v136, v139, v142, v145, ha, Q_HB, Q_HO137, Q_HO140, Q_HO143, Q_HO146⟩ hb_ hon hoff
                    refine ⟨_, rfl, fun K hK => ?_⟩
                    have e37 : a.tmps[37]? = some (v139) := by rw [ha]; exact putSel_on (e := (21, 37, v139)) 17 rfl rfl (hon 21 (by kernel_rfl)) rfl
                    have e32 : a.tmps[32]? = some (.bool (t133 == t134)) := by rw [ha]; exact putSel_on (e := (16, 32, .bool (t133 == t134))) 12 rfl rfl (hon 16 (by kernel_rfl)) rfl
                    replace ha := Aside0.mk ha
                    have HB := Aside0.mk Q_HB
                    have HO137 := Aside0.mk (Q_HO137 (hon 18 (by kernel_rfl)))
                    have HO140 := Aside0.mk (Q_HO140 (hon 21 (by kernel_rfl)))
                    obtain ⟨Ao22_0, co22_0, eo_⟩ := Kd.R_slice HO140.out
                    subst eo_
                    have hcv_ := Kd.C_string (P := Try.prog) (A := Ao22_0) (c := co22_0) Try.underlying22 Try.underlying5 Try.underlying9 (Kd.R_reads' HO140.out).2.2
                    refine value_ (w1 := w') (v := .string (strOfNums t138)) (wanted_on rfl rfl rfl (e32.trans (by first | rfl | (simp [*]; done)))) rfl ?_ ?_
                    · go_simp
                      (try simp only [i64_w])
                      try rfl
                    refine hK.out _ _ ⟨v136, .slice Ao22_0 t138.length co22_0, v142, v145, (by rw [ha.out]; exact putSel_upk 18 hb_ rfl rfl rfl), Q_HB, Q_HO137, Q_HO140, fun h0_ => absurd ((hoff 27 (by kernel_rfl)).symm.trans h0_) (by decide), fun h0_ => absurd ((hoff 30 (by kernel_rfl)).symm.trans h0_) (by decide)⟩
                  refine steps_cons ?_ ?_
                  · rintro b a w' ⟨v136, v139, v142, v145, ha, Q_HB, Q_HO137, Q_HO140, Q_HO143, Q_HO146⟩ hb_ hon hoff
                    refine ⟨_, rfl, fun K hK => ?_⟩
                    have e35 : a.tmps[35]? = some (.string (strOfNums t135)) := by rw [ha]; exact putSel_on (e := (19, 35, .string (strOfNums t135))) 15 rfl rfl (hon 19 (by kernel_rfl)) rfl
                    have e38 : a.tmps[38]? = some (.string (strOfNums t138)) := by rw [ha]; exact putSel_on (e := (22, 38, .string (strOfNums t138))) 18 rfl rfl (hon 22 (by kernel_rfl)) rfl
                    have e32 : a.tmps[32]? = some (.bool (t133 == t134)) := by rw [ha]; exact putSel_on (e := (16, 32, .bool (t133 == t134))) 12 rfl rfl (hon 16 (by kernel_rfl)) rfl
                    replace ha := Aside0.mk ha
                    have HB := Aside0.mk Q_HB
                    have HO137 := Aside0.mk (Q_HO137 (hon 18 (by kernel_rfl)))
                    have HO140 := Aside0.mk (Q_HO140 (hon 21 (by kernel_rfl)))
                    refine value_ (w1 := w') (v := .bool ((strOfNums t135).toList == (strOfNums t138).toList)) (wanted_on rfl rfl rfl (e32.trans (by first | rfl | (simp [*]; done)))) rfl ?_ ?_
                    · go_simp
                      (try simp only [i64_w])
                      try rfl
                    refine hK.out _ _ ⟨v136, v139, v142, v145, (by rw [ha.out]; exact putSel_upk 19 hb_ rfl rfl rfl), Q_HB, Q_HO137, Q_HO140, fun h0_ => absurd ((hoff 27 (by kernel_rfl)).symm.trans h0_) (by decide), fun h0_ => absurd ((hoff 30 (by kernel_rfl)).symm.trans h0_) (by decide)⟩
                  refine steps_cons ?_ ?_
                  · rintro b a w' ⟨v136, v139, v142, v145, ha, Q_HB, Q_HO137, Q_HO140, Q_HO143, Q_HO146⟩ hb_ hon hoff
                    refine ⟨_, rfl, fun K hK => ?_⟩
                    have e32 : a.tmps[32]? = some (.bool (t133 == t134)) := by rw [ha]; exact putSel_on (e := (16, 32, .bool (t133 == t134))) 12 rfl rfl (hon 16 (by kernel_rfl)) rfl
                    have e39 : a.tmps[39]? = some (.bool ((strOfNums t135).toList == (strOfNums t138).toList)) := by rw [ha]; exact putSel_on (e := (23, 39, .bool ((strOfNums t135).toList == (strOfNums t138).toList))) 19 rfl rfl (hon 23 (by kernel_rfl)) rfl
                    replace ha := Aside0.mk ha
                    have HB := Aside0.mk Q_HB
                    have HO137 := Aside0.mk (Q_HO137 (hon 18 (by kernel_rfl)))
                    have HO140 := Aside0.mk (Q_HO140 (hon 21 (by kernel_rfl)))
                    refine value_ (w1 := w') (v := .bool ((strOfNums t135).toList == (strOfNums t138).toList)) (by rfl) rfl ?_ ?_
                    · go_simp
                      (try simp only [i64_w])
                      try rfl
                    refine hK.out _ _ ⟨v136, v139, v142, v145, (by rw [ha.out]; exact putSel_upk 20 hb_ rfl rfl rfl), Q_HB, Q_HO137, Q_HO140, fun h0_ => absurd ((hoff 27 (by kernel_rfl)).symm.trans h0_) (by decide), fun h0_ => absurd ((hoff 30 (by kernel_rfl)).symm.trans h0_) (by decide)⟩
                  refine steps_cons ?_ ?_
                  · rintro b a w' ⟨v136, v139, v142, v145, ha, Q_HB, Q_HO137, Q_HO140, Q_HO143, Q_HO146⟩ hb_ hon hoff
                    refine ⟨_, rfl, fun K hK => ?_⟩
                    have e40 : a.tmps[40]? = some (.bool ((strOfNums t135).toList == (strOfNums t138).toList)) := by rw [ha]; exact putSel_on (e := (24, 40, .bool ((strOfNums t135).toList == (strOfNums t138).toList))) 20 rfl rfl (hon 24 (by kernel_rfl)) rfl
                    replace ha := Aside0.mk ha
                    have HB := Aside0.mk Q_HB
                    have HO137 := Aside0.mk (Q_HO137 (hon 18 (by kernel_rfl)))
                    have HO140 := Aside0.mk (Q_HO140 (hon 21 (by kernel_rfl)))
                    refine value_ (w1 := w') (v := .bool ((strOfNums t135).toList == (strOfNums t138).toList)) (by rfl) rfl ?_ ?_
                    · go_simp
                      (try simp only [i64_w])
                      try rfl
                    refine hK.out _ _ ⟨v136, v139, v142, v145, (by rw [ha.out]; exact putSel_upk 21 hb_ rfl rfl rfl), Q_HB, Q_HO137, Q_HO140, fun h0_ => absurd ((hoff 27 (by kernel_rfl)).symm.trans h0_) (by decide), fun h0_ => absurd ((hoff 30 (by kernel_rfl)).symm.trans h0_) (by decide)⟩
                  refine steps_cons ?_ ?_
                  · rintro b a w' ⟨v136, v139, v142, v145, ha, Q_HB, Q_HO137, Q_HO140, Q_HO143, Q_HO146⟩ hb_ hon hoff
                    refine ⟨_, rfl, fun K hK => ?_⟩
                    have e3 : a.tmps[3]? = some (.int .u32 a3) := by rw [ha]; exact (putSel_off rfl).trans rfl
                    have e41 : a.tmps[41]? = some (.bool ((strOfNums t135).toList == (strOfNums t138).toList)) := by rw [ha]; exact putSel_on (e := (25, 41, .bool ((strOfNums t135).toList == (strOfNums t138).toList))) 21 rfl rfl (hon 25 (by kernel_rfl)) rfl
                    replace ha := Aside0.mk ha
                    have HB := Aside0.mk Q_HB
                    have HO137 := Aside0.mk (Q_HO137 (hon 18 (by kernel_rfl)))
                    have HO140 := Aside0.mk (Q_HO140 (hon 21 (by kernel_rfl)))
                    refine value_ (w1 := w') (v := .int .u32 a3) (wanted_on rfl rfl rfl (e41.trans (by first | rfl | (simp [*]; done)))) rfl ?_ ?_
                    · go_simp
                      (try simp only [i64_w])
                      try rfl
                    refine hK.out _ _ ⟨v136, v139, v142, v145, (by rw [ha.out]; exact putSel_upk 22 hb_ rfl rfl rfl), Q_HB, Q_HO137, Q_HO140, fun h0_ => absurd ((hoff 27 (by kernel_rfl)).symm.trans h0_) (by decide), fun h0_ => absurd ((hoff 30 (by kernel_rfl)).symm.trans h0_) (by decide)⟩
                  refine steps_cons ?_ ?_
                  · rintro b a w' ⟨v136, v139, v142, v145, ha, Q_HB, Q_HO137, Q_HO140, Q_HO143, Q_HO146⟩ hb_ hon hoff
                    refine ⟨_, rfl, fun K hK => ?_⟩
                    have e42 : a.tmps[42]? = some (.int .u32 a3) := by rw [ha]; exact putSel_on (e := (26, 42, .int .u32 a3)) 22 rfl rfl (hon 26 (by kernel_rfl)) rfl
                    have e41 : a.tmps[41]? = some (.bool ((strOfNums t135).toList == (strOfNums t138).toList)) := by rw [ha]; exact putSel_on (e := (25, 41, .bool ((strOfNums t135).toList == (strOfNums t138).toList))) 21 rfl rfl (hon 25 (by kernel_rfl)) rfl
                    replace ha := Aside0.mk ha
                    have HB := Aside0.mk Q_HB
                    have HO137 := Aside0.mk (Q_HO137 (hon 18 (by kernel_rfl)))
                    have HO140 := Aside0.mk (Q_HO140 (hon 21 (by kernel_rfl)))
                    refine goes_ Try.func20 (by kernel_rfl) rfl #[.int .u32 a3] (wanted_on rfl rfl rfl (e41.trans (by first | rfl | (simp [*]; done)))) rfl rfl (by first | (simp only [List.map_toArray, List.map_cons, List.map_nil, Act.eval, Array.getD_eq_getD_getElem?, Option.getD_some, e42, e41]; done) | (simp only [List.map_toArray, List.map_cons, List.map_nil, Act.eval, Array.getD_eq_getD_getElem?, Option.getD_some, e42, e41]; rfl)) ?_
                    with_reducible refine (word_Put32.calls a3 t141 _ A17.out).mono ?_
                    rintro e w25 ⟨v142, rfl, ho0, hb⟩
                    refine ⟨_, rfl, ?_⟩
                    have n0_ := Aside0.mk (Kd.R_elder' (by (with_reducible repeat (first | apply Kd.R_alloc | apply Kd.R_drewN | apply Kd.R_drew)); exact HO137.out) (Kd.R_base ho0) hb)
                    have n1_ := Aside0.mk (Kd.R_elder' (by (with_reducible repeat (first | apply Kd.R_alloc | apply Kd.R_drewN | apply Kd.R_drew)); exact HO140.out) (Kd.R_base ho0) hb)
                    have n2_ := Aside0.mk (Kd.R_lower (Kd.R_new' (Kd.R_new' ho0 (Kd.R_lt (by (with_reducible repeat (first | apply Kd.R_alloc | apply Kd.R_drewN | apply Kd.R_drew)); exact HO137.out))) (Kd.R_lt (by (with_reducible repeat (first | apply Kd.R_alloc | apply Kd.R_drewN | apply Kd.R_drew)); exact HO140.out))) (below_size (by repeat (first | (with_reducible first | exact HB.out | apply below_alloc | apply pw_below_drewN | apply below_drew1) | exact HB.out))))
                    have n3_ := Aside0.mk (below_step (by repeat (first | (with_reducible first | exact HB.out | apply below_alloc | apply pw_below_drewN | apply below_drew1) | exact HB.out)) hb)
                    clear HO137
                    clear HO140
                    clear HB
                    have HO137 := n0_
                    have HO140 := n1_
                    have HO143 := n2_
                    have HB := n3_
                    clear n0_ n1_ n2_ n3_
                    (try clear hb)
                    (try clear hb2)
                    (try clear hk)
                    (try clear hi)
                    (try clear ho0)
                    refine hK.out _ _ ⟨v136, v139, v142, v145, (by rw [ha.out]; exact putSel_upk 23 hb_ rfl rfl rfl), (by repeat (first | (with_reducible first | exact HB.out | apply below_alloc | apply pw_below_drewN | apply below_drew1) | exact HB.out)), fun _ => (by first | ((with_reducible repeat (first | apply Kd.R_alloc | apply Kd.R_drewN | apply Kd.R_drew)); exact HO137.out) | ((with_reducible repeat (first | apply Kd.R_alloc | apply Kd.R_drewN | apply Kd.R_drew)); exact Kd.R_mono HO137.out (fun _ hk => by first | trivial | exact hk | exact hk.1 | exact hk.2 | exact hk.1.1))), fun _ => (by first | ((with_reducible repeat (first | apply Kd.R_alloc | apply Kd.R_drewN | apply Kd.R_drew)); exact HO140.out) | ((with_reducible repeat (first | apply Kd.R_alloc | apply Kd.R_drewN | apply Kd.R_drew)); exact Kd.R_mono HO140.out (fun _ hk => by first | trivial | exact hk | exact hk.1 | exact hk.2 | exact hk.1.1))), fun _ => (by first | ((with_reducible repeat (first | apply Kd.R_alloc | apply Kd.R_drewN | apply Kd.R_drew)); exact Kd.R_mono HO143.out (fun _ hk => ⟨hk.1.2, hk.2⟩)) | ((with_reducible repeat (first | apply Kd.R_alloc | apply Kd.R_drewN | apply Kd.R_drew)); exact Kd.R_mono HO143.out (fun _ hk => by first | trivial | exact hk | exact hk.1 | exact hk.2 | exact hk.1.1))), fun h0_ => absurd ((hoff 30 (by kernel_rfl)).symm.trans h0_) (by decide)⟩
                  refine steps_cons ?_ ?_
                  · rintro b a w' ⟨v136, v139, v142, v145, ha, Q_HB, Q_HO137, Q_HO140, Q_HO143, Q_HO146⟩ hb_ hon hoff
                    refine ⟨_, rfl, fun K hK => ?_⟩
                    have e43 : a.tmps[43]? = some (v142) := by rw [ha]; exact putSel_on (e := (27, 43, v142)) 23 rfl rfl (hon 27 (by kernel_rfl)) rfl
                    have e41 : a.tmps[41]? = some (.bool ((strOfNums t135).toList == (strOfNums t138).toList)) := by rw [ha]; exact putSel_on (e := (25, 41, .bool ((strOfNums t135).toList == (strOfNums t138).toList))) 21 rfl rfl (hon 25 (by kernel_rfl)) rfl
                    replace ha := Aside0.mk ha
                    have HB := Aside0.mk Q_HB
                    have HO137 := Aside0.mk (Q_HO137 (hon 18 (by kernel_rfl)))
                    have HO140 := Aside0.mk (Q_HO140 (hon 21 (by kernel_rfl)))
                    have HO143 := Aside0.mk (Q_HO143 (hon 27 (by kernel_rfl)))
                    obtain ⟨Ao28_0, co28_0, eo_⟩ := Kd.R_slice HO143.out
                    subst eo_
                    have hcv_ := Kd.C_string (P := Try.prog) (A := Ao28_0) (c := co28_0) Try.underlying22 Try.underlying5 Try.underlying9 (Kd.R_reads' HO143.out).2.2
                    refine value_ (w1 := w') (v := .string (strOfNums t141)) (wanted_on rfl rfl rfl (e41.trans (by first | rfl | (simp [*]; done)))) rfl ?_ ?_
                    · go_simp
                      (try simp only [i64_w])
                      try rfl
                    refine hK.out _ _ ⟨v136, v139, .slice Ao28_0 t141.length co28_0, v145, (by rw [ha.out]; exact putSel_upk 24 hb_ rfl rfl rfl), Q_HB, Q_HO137, Q_HO140, Q_HO143, Q_HO146⟩
                  refine steps_cons ?_ ?_
                  · rintro b a w' ⟨v136, v139, v142, v145, ha, Q_HB, Q_HO137, Q_HO140, Q_HO143, Q_HO146⟩ hb_ hon hoff
                    refine ⟨_, rfl, fun K hK => ?_⟩
                    have e3 : a.tmps[3]? = some (.int .u32 a3) := by rw [ha]; exact (putSel_off rfl).trans rfl
                    have e41 : a.tmps[41]? = some (.bool ((strOfNums t135).toList == (strOfNums t138).toList)) := by rw [ha]; exact putSel_on (e := (25, 41, .bool ((strOfNums t135).toList == (strOfNums t138).toList))) 21 rfl rfl (hon 25 (by kernel_rfl)) rfl
                    replace ha := Aside0.mk ha
                    have HB := Aside0.mk Q_HB
                    have HO137 := Aside0.mk (Q_HO137 (hon 18 (by kernel_rfl)))
                    have HO140 := Aside0.mk (Q_HO140 (hon 21 (by kernel_rfl)))
                    refine value_ (w1 := w') (v := .int .u32 a3) (wanted_on rfl rfl rfl (e41.trans (by first | rfl | (simp [*]; done)))) rfl ?_ ?_
                    · go_simp
                      (try simp only [i64_w])
                      try rfl
                    refine hK.out _ _ ⟨v136, v139, v142, v145, (by rw [ha.out]; exact putSel_upk 25 hb_ rfl rfl rfl), Q_HB, Q_HO137, Q_HO140, Q_HO143, fun h0_ => absurd ((hoff 30 (by kernel_rfl)).symm.trans h0_) (by decide)⟩
                  refine steps_cons ?_ ?_
                  · rintro b a w' ⟨v136, v139, v142, v145, ha, Q_HB, Q_HO137, Q_HO140, Q_HO143, Q_HO146⟩ hb_ hon hoff
                    refine ⟨_, rfl, fun K hK => ?_⟩
                    have e45 : a.tmps[45]? = some (.int .u32 a3) := by rw [ha]; exact putSel_on (e := (29, 45, .int .u32 a3)) 25 rfl rfl (hon 29 (by kernel_rfl)) rfl
                    have e41 : a.tmps[41]? = some (.bool ((strOfNums t135).toList == (strOfNums t138).toList)) := by rw [ha]; exact putSel_on (e := (25, 41, .bool ((strOfNums t135).toList == (strOfNums t138).toList))) 21 rfl rfl (hon 25 (by kernel_rfl)) rfl
                    replace ha := Aside0.mk ha
                    have HB := Aside0.mk Q_HB
                    have HO137 := Aside0.mk (Q_HO137 (hon 18 (by kernel_rfl)))
                    have HO140 := Aside0.mk (Q_HO140 (hon 21 (by kernel_rfl)))
                    have HO143 := Aside0.mk (Q_HO143 (hon 27 (by kernel_rfl)))
                    refine goes_ Try.func21 (by kernel_rfl) rfl #[.int .u32 a3] (wanted_on rfl rfl rfl (e41.trans (by first | rfl | (simp [*]; done)))) rfl rfl (by first | (simp only [List.map_toArray, List.map_cons, List.map_nil, Act.eval, Array.getD_eq_getD_getElem?, Option.getD_some, e45, e41]; done) | (simp only [List.map_toArray, List.map_cons, List.map_nil, Act.eval, Array.getD_eq_getD_getElem?, Option.getD_some, e45, e41]; rfl)) ?_
                    with_reducible refine (castellanref1_Put32.calls a3 t144 _ A18.out).mono ?_
                    rintro e w26 ⟨v145, rfl, ho0, hb⟩
                    refine ⟨_, rfl, ?_⟩
                    have n0_ := Aside0.mk (Kd.R_elder' (by (with_reducible repeat (first | apply Kd.R_alloc | apply Kd.R_drewN | apply Kd.R_drew)); exact HO137.out) (Kd.R_base ho0) hb)
                    have n1_ := Aside0.mk (Kd.R_elder' (by (with_reducible repeat (first | apply Kd.R_alloc | apply Kd.R_drewN | apply Kd.R_drew)); exact HO140.out) (Kd.R_base ho0) hb)
                    have n2_ := Aside0.mk (Kd.R_elder' (by (with_reducible repeat (first | apply Kd.R_alloc | apply Kd.R_drewN | apply Kd.R_drew)); exact HO143.out) (Kd.R_base ho0) hb)
                    have n3_ := Aside0.mk (Kd.R_lower (Kd.R_new' (Kd.R_new' (Kd.R_new' ho0 (Kd.R_lt (by (with_reducible repeat (first | apply Kd.R_alloc | apply Kd.R_drewN | apply Kd.R_drew)); exact HO137.out))) (Kd.R_lt (by (with_reducible repeat (first | apply Kd.R_alloc | apply Kd.R_drewN | apply Kd.R_drew)); exact HO140.out))) (Kd.R_lt (by (with_reducible repeat (first | apply Kd.R_alloc | apply Kd.R_drewN | apply Kd.R_drew)); exact HO143.out))) (below_size (by repeat (first | (with_reducible first | exact HB.out | apply below_alloc | apply pw_below_drewN | apply below_drew1) | exact HB.out))))
                    have n4_ := Aside0.mk (below_step (by repeat (first | (with_reducible first | exact HB.out | apply below_alloc | apply pw_below_drewN | apply below_drew1) | exact HB.out)) hb)
                    clear HO137
                    clear HO140
                    clear HO143
                    clear HB
                    have HO137 := n0_
                    have HO140 := n1_
                    have HO143 := n2_
                    have HO146 := n3_
                    have HB := n4_
                    clear n0_ n1_ n2_ n3_ n4_
                    (try clear hb)
                    (try clear hb2)
                    (try clear hk)
                    (try clear hi)
                    (try clear ho0)
                    refine hK.out _ _ ⟨v136, v139, v142, v145, (by rw [ha.out]; exact putSel_upk 26 hb_ rfl rfl rfl), (by repeat (first | (with_reducible first | exact HB.out | apply below_alloc | apply pw_below_drewN | apply below_drew1) | exact HB.out)), fun _ => (by first | ((with_reducible repeat (first | apply Kd.R_alloc | apply Kd.R_drewN | apply Kd.R_drew)); exact Kd.R_mono HO137.out (fun _ hk => ⟨hk.1.1, ⟨hk.1.2, hk.2⟩⟩)) | ((with_reducible repeat (first | apply Kd.R_alloc | apply Kd.R_drewN | apply Kd.R_drew)); exact Kd.R_mono HO137.out (fun _ hk => by first | trivial | exact hk | exact hk.1 | exact hk.2 | exact hk.1.1))), fun _ => (by first | ((with_reducible repeat (first | apply Kd.R_alloc | apply Kd.R_drewN | apply Kd.R_drew)); exact Kd.R_mono HO140.out (fun _ hk => ⟨hk.1.1, ⟨hk.1.2, hk.2⟩⟩)) | ((with_reducible repeat (first | apply Kd.R_alloc | apply Kd.R_drewN | apply Kd.R_drew)); exact Kd.R_mono HO140.out (fun _ hk => by first | trivial | exact hk | exact hk.1 | exact hk.2 | exact hk.1.1))), fun _ => (by first | ((with_reducible repeat (first | apply Kd.R_alloc | apply Kd.R_drewN | apply Kd.R_drew)); exact Kd.R_mono HO143.out (fun _ hk => ⟨hk.1.1, ⟨hk.1.2, hk.2⟩⟩)) | ((with_reducible repeat (first | apply Kd.R_alloc | apply Kd.R_drewN | apply Kd.R_drew)); exact Kd.R_mono HO143.out (fun _ hk => by first | trivial | exact hk | exact hk.1 | exact hk.2 | exact hk.1.1))), fun _ => (by first | ((with_reducible repeat (first | apply Kd.R_alloc | apply Kd.R_drewN | apply Kd.R_drew)); exact Kd.R_mono HO146.out (fun _ hk => ⟨hk.1.1.2, ⟨hk.1.2, hk.2⟩⟩)) | ((with_reducible repeat (first | apply Kd.R_alloc | apply Kd.R_drewN | apply Kd.R_drew)); exact Kd.R_mono HO146.out (fun _ hk => by first | trivial | exact hk | exact hk.1 | exact hk.2 | exact hk.1.1)))⟩
                  refine steps_cons ?_ ?_
                  · rintro b a w' ⟨v136, v139, v142, v145, ha, Q_HB, Q_HO137, Q_HO140, Q_HO143, Q_HO146⟩ hb_ hon hoff
                    refine ⟨_, rfl, fun K hK => ?_⟩
                    have e46 : a.tmps[46]? = some (v145) := by rw [ha]; exact putSel_on (e := (30, 46, v145)) 26 rfl rfl (hon 30 (by kernel_rfl)) rfl
                    have e41 : a.tmps[41]? = some (.bool ((strOfNums t135).toList == (strOfNums t138).toList)) := by rw [ha]; exact putSel_on (e := (25, 41, .bool ((strOfNums t135).toList == (strOfNums t138).toList))) 21 rfl rfl (hon 25 (by kernel_rfl)) rfl
                    replace ha := Aside0.mk ha
                    have HB := Aside0.mk Q_HB
                    have HO137 := Aside0.mk (Q_HO137 (hon 18 (by kernel_rfl)))
                    have HO140 := Aside0.mk (Q_HO140 (hon 21 (by kernel_rfl)))
                    have HO143 := Aside0.mk (Q_HO143 (hon 27 (by kernel_rfl)))
                    have HO146 := Aside0.mk (Q_HO146 (hon 30 (by kernel_rfl)))
                    obtain ⟨Ao31_0, co31_0, eo_⟩ := Kd.R_slice HO146.out
                    subst eo_
                    have hcv_ := Kd.C_string (P := Try.prog) (A := Ao31_0) (c := co31_0) Try.underlying22 Try.underlying5 Try.underlying9 (Kd.R_reads' HO146.out).2.2
                    refine value_ (w1 := w') (v := .string (strOfNums t144)) (wanted_on rfl rfl rfl (e41.trans (by first | rfl | (simp [*]; done)))) rfl ?_ ?_
                    · go_simp
                      (try simp only [i64_w])
                      try rfl
                    refine hK.out _ _ ⟨v136, v139, v142, .slice Ao31_0 t144.length co31_0, (by rw [ha.out]; exact putSel_upk 27 hb_ rfl rfl rfl), Q_HB, Q_HO137, Q_HO140, Q_HO143, Q_HO146⟩
                  refine steps_cons ?_ ?_
                  · rintro b a w' ⟨v136, v139, v142, v145, ha, Q_HB, Q_HO137, Q_HO140, Q_HO143, Q_HO146⟩ hb_ hon hoff
                    refine ⟨_, rfl, fun K hK => ?_⟩
                    have e44 : a.tmps[44]? = some (.string (strOfNums t141)) := by rw [ha]; exact putSel_on (e := (28, 44, .string (strOfNums t141))) 24 rfl rfl (hon 28 (by kernel_rfl)) rfl
                    have e47 : a.tmps[47]? = some (.string (strOfNums t144)) := by rw [ha]; exact putSel_on (e := (31, 47, .string (strOfNums t144))) 27 rfl rfl (hon 31 (by kernel_rfl)) rfl
                    have e41 : a.tmps[41]? = some (.bool ((strOfNums t135).toList == (strOfNums t138).toList)) := by rw [ha]; exact putSel_on (e := (25, 41, .bool ((strOfNums t135).toList == (strOfNums t138).toList))) 21 rfl rfl (hon 25 (by kernel_rfl)) rfl
                    replace ha := Aside0.mk ha
                    have HB := Aside0.mk Q_HB
                    have HO137 := Aside0.mk (Q_HO137 (hon 18 (by kernel_rfl)))
                    have HO140 := Aside0.mk (Q_HO140 (hon 21 (by kernel_rfl)))
                    have HO143 := Aside0.mk (Q_HO143 (hon 27 (by kernel_rfl)))
                    have HO146 := Aside0.mk (Q_HO146 (hon 30 (by kernel_rfl)))
                    refine value_ (w1 := w') (v := .bool ((strOfNums t141).toList == (strOfNums t144).toList)) (wanted_on rfl rfl rfl (e41.trans (by first | rfl | (simp [*]; done)))) rfl ?_ ?_
                    · go_simp
                      (try simp only [i64_w])
                      try rfl
                    refine hK.out _ _ ⟨v136, v139, v142, v145, (by rw [ha.out]; exact putSel_upk 28 hb_ rfl rfl rfl), Q_HB, Q_HO137, Q_HO140, Q_HO143, Q_HO146⟩
                  refine steps_cons ?_ ?_
                  · rintro b a w' ⟨v136, v139, v142, v145, ha, Q_HB, Q_HO137, Q_HO140, Q_HO143, Q_HO146⟩ hb_ hon hoff
                    refine ⟨_, rfl, fun K hK => ?_⟩
                    have e41 : a.tmps[41]? = some (.bool ((strOfNums t135).toList == (strOfNums t138).toList)) := by rw [ha]; exact putSel_on (e := (25, 41, .bool ((strOfNums t135).toList == (strOfNums t138).toList))) 21 rfl rfl (hon 25 (by kernel_rfl)) rfl
                    have e48 : a.tmps[48]? = some (.bool ((strOfNums t141).toList == (strOfNums t144).toList)) := by rw [ha]; exact putSel_on (e := (32, 48, .bool ((strOfNums t141).toList == (strOfNums t144).toList))) 28 rfl rfl (hon 32 (by kernel_rfl)) rfl
                    replace ha := Aside0.mk ha
                    have HB := Aside0.mk Q_HB
                    have HO137 := Aside0.mk (Q_HO137 (hon 18 (by kernel_rfl)))
                    have HO140 := Aside0.mk (Q_HO140 (hon 21 (by kernel_rfl)))
                    have HO143 := Aside0.mk (Q_HO143 (hon 27 (by kernel_rfl)))
                    have HO146 := Aside0.mk (Q_HO146 (hon 30 (by kernel_rfl)))
                    refine value_ (w1 := w') (v := .bool ((strOfNums t141).toList == (strOfNums t144).toList)) (by rfl) rfl ?_ ?_
                    · go_simp
                      (try simp only [i64_w])
                      try rfl
                    refine hK.out _ _ ⟨v136, v139, v142, v145, (by rw [ha.out]; exact putSel_upk 29 hb_ rfl rfl rfl), Q_HB, Q_HO137, Q_HO140, Q_HO143, Q_HO146⟩
                  refine steps_cons ?_ ?_
                  · rintro b a w' ⟨v136, v139, v142, v145, ha, Q_HB, Q_HO137, Q_HO140, Q_HO143, Q_HO146⟩ hb_ hon hoff
                    refine ⟨_, rfl, fun K hK => ?_⟩
                    have e49 : a.tmps[49]? = some (.bool ((strOfNums t141).toList == (strOfNums t144).toList)) := by rw [ha]; exact putSel_on (e := (33, 49, .bool ((strOfNums t141).toList == (strOfNums t144).toList))) 29 rfl rfl (hon 33 (by kernel_rfl)) rfl
                    replace ha := Aside0.mk ha
                    have HB := Aside0.mk Q_HB
                    have HO137 := Aside0.mk (Q_HO137 (hon 18 (by kernel_rfl)))
                    have HO140 := Aside0.mk (Q_HO140 (hon 21 (by kernel_rfl)))
                    have HO143 := Aside0.mk (Q_HO143 (hon 27 (by kernel_rfl)))
                    have HO146 := Aside0.mk (Q_HO146 (hon 30 (by kernel_rfl)))
                    refine value_ (w1 := w') (v := .bool ((strOfNums t141).toList == (strOfNums t144).toList)) (by rfl) rfl ?_ ?_
                    · go_simp
                      (try simp only [i64_w])
                      try rfl
                    refine hK.out _ _ ⟨v136, v139, v142, v145, (by rw [ha.out]; exact putSel_upk 30 hb_ rfl rfl rfl), Q_HB, Q_HO137, Q_HO140, Q_HO143, Q_HO146⟩
                  refine steps_cons ?_ ?_
                  · rintro b a w' ⟨v136, v139, v142, v145, ha, Q_HB, Q_HO137, Q_HO140, Q_HO143, Q_HO146⟩ hb_ hon hoff
                    refine ⟨_, rfl, fun K hK => ?_⟩
                    have e50 : a.tmps[50]? = some (.bool ((strOfNums t141).toList == (strOfNums t144).toList)) := by rw [ha]; exact putSel_on (e := (34, 50, .bool ((strOfNums t141).toList == (strOfNums t144).toList))) 30 rfl rfl (hon 34 (by kernel_rfl)) rfl
                    replace ha := Aside0.mk ha
                    have HB := Aside0.mk Q_HB
                    have HO137 := Aside0.mk (Q_HO137 (hon 18 (by kernel_rfl)))
                    have HO140 := Aside0.mk (Q_HO140 (hon 21 (by kernel_rfl)))
                    have HO143 := Aside0.mk (Q_HO143 (hon 27 (by kernel_rfl)))
                    have HO146 := Aside0.mk (Q_HO146 (hon 30 (by kernel_rfl)))
                    refine goes_ Try.func16 (by kernel_rfl) rfl #[] (wanted_on rfl rfl rfl (e50.trans (by first | rfl | (simp [*]; done)))) rfl rfl (by first | (simp only [List.map_toArray, List.map_cons, List.map_nil, Act.eval, Array.getD_eq_getD_getElem?, Option.getD_some, e50]; done) | (simp only [List.map_toArray, List.map_cons, List.map_nil, Act.eval, Array.getD_eq_getD_getElem?, Option.getD_some, e50]; rfl)) ?_
                    with_reducible refine (castellanlaw1_known.calls  t147 _ A20.out).mono ?_
                    rintro e w27 ⟨rfl, hb⟩
                    refine ⟨_, rfl, ?_⟩
                    have n0_ := Aside0.mk (Kd.R_below (by (with_reducible repeat (first | apply Kd.R_alloc | apply Kd.R_drewN | apply Kd.R_drew)); exact HO137.out) hb)
                    have n1_ := Aside0.mk (Kd.R_below (by (with_reducible repeat (first | apply Kd.R_alloc | apply Kd.R_drewN | apply Kd.R_drew)); exact HO140.out) hb)
                    have n2_ := Aside0.mk (Kd.R_below (by (with_reducible repeat (first | apply Kd.R_alloc | apply Kd.R_drewN | apply Kd.R_drew)); exact HO143.out) hb)
                    have n3_ := Aside0.mk (Kd.R_below (by (with_reducible repeat (first | apply Kd.R_alloc | apply Kd.R_drewN | apply Kd.R_drew)); exact HO146.out) hb)
                    have n4_ := Aside0.mk (below_step (by repeat (first | (with_reducible first | exact HB.out | apply below_alloc | apply pw_below_drewN | apply below_drew1) | exact HB.out)) hb)
                    clear HO137
                    clear HO140
                    clear HO143
                    clear HO146
                    clear HB
                    have HO137 := n0_
                    have HO140 := n1_
                    have HO143 := n2_
                    have HO146 := n3_
                    have HB := n4_
                    clear n0_ n1_ n2_ n3_ n4_
                    (try clear hb)
                    (try clear hb2)
                    (try clear hk)
                    (try clear hi)
                    refine hK.out _ _ ⟨v136, v139, v142, v145, (by rw [ha.out]; exact putSel_upk 31 hb_ rfl rfl rfl), (by repeat (first | (with_reducible first | exact HB.out | apply below_alloc | apply pw_below_drewN | apply below_drew1) | exact HB.out)), fun _ => (by first | ((with_reducible repeat (first | apply Kd.R_alloc | apply Kd.R_drewN | apply Kd.R_drew)); exact HO137.out) | ((with_reducible repeat (first | apply Kd.R_alloc | apply Kd.R_drewN | apply Kd.R_drew)); exact Kd.R_mono HO137.out (fun _ hk => by first | trivial | exact hk | exact hk.1 | exact hk.2 | exact hk.1.1))), fun _ => (by first | ((with_reducible repeat (first | apply Kd.R_alloc | apply Kd.R_drewN | apply Kd.R_drew)); exact HO140.out) | ((with_reducible repeat (first | apply Kd.R_alloc | apply Kd.R_drewN | apply Kd.R_drew)); exact Kd.R_mono HO140.out (fun _ hk => by first | trivial | exact hk | exact hk.1 | exact hk.2 | exact hk.1.1))), fun _ => (by first | ((with_reducible repeat (first | apply Kd.R_alloc | apply Kd.R_drewN | apply Kd.R_drew)); exact HO143.out) | ((with_reducible repeat (first | apply Kd.R_alloc | apply Kd.R_drewN | apply Kd.R_drew)); exact Kd.R_mono HO143.out (fun _ hk => by first | trivial | exact hk | exact hk.1 | exact hk.2 | exact hk.1.1))), fun _ => (by first | ((with_reducible repeat (first | apply Kd.R_alloc | apply Kd.R_drewN | apply Kd.R_drew)); exact HO146.out) | ((with_reducible repeat (first | apply Kd.R_alloc | apply Kd.R_drewN | apply Kd.R_drew)); exact Kd.R_mono HO146.out (fun _ hk => by first | trivial | exact hk | exact hk.1 | exact hk.2 | exact hk.1.1)))⟩
                  refine steps_cons ?_ ?_
                  · rintro b a w' ⟨v136, v139, v142, v145, ha, Q_HB, Q_HO137, Q_HO140, Q_HO143, Q_HO146⟩ hb_ hon hoff
                    refine ⟨_, rfl, fun K hK => ?_⟩
                    have e50 : a.tmps[50]? = some (.bool ((strOfNums t141).toList == (strOfNums t144).toList)) := by rw [ha]; exact putSel_on (e := (34, 50, .bool ((strOfNums t141).toList == (strOfNums t144).toList))) 30 rfl rfl (hon 34 (by kernel_rfl)) rfl
                    have e51 : a.tmps[51]? = some (.bool t147) := by rw [ha]; exact putSel_on (e := (35, 51, .bool t147)) 31 rfl rfl (hon 35 (by kernel_rfl)) rfl
                    replace ha := Aside0.mk ha
                    have HB := Aside0.mk Q_HB
                    have HO137 := Aside0.mk (Q_HO137 (hon 18 (by kernel_rfl)))
                    have HO140 := Aside0.mk (Q_HO140 (hon 21 (by kernel_rfl)))
                    have HO143 := Aside0.mk (Q_HO143 (hon 27 (by kernel_rfl)))
                    have HO146 := Aside0.mk (Q_HO146 (hon 30 (by kernel_rfl)))
                    refine value_ (w1 := w') (v := .bool t147) (by rfl) rfl ?_ ?_
                    · go_simp
                      (try simp only [i64_w])
                      try rfl
                    refine hK.out _ _ ⟨v136, v139, v142, v145, (by rw [ha.out]; exact putSel_upk 32 hb_ rfl rfl rfl), Q_HB, Q_HO137, Q_HO140, Q_HO143, Q_HO146⟩
                  refine steps_cons ?_ ?_
                  · rintro b a w' ⟨v136, v139, v142, v145, ha, Q_HB, Q_HO137, Q_HO140, Q_HO143, Q_HO146⟩ hb_ hon hoff
                    refine ⟨_, rfl, fun K hK => ?_⟩
                    have e52 : a.tmps[52]? = some (.bool t147) := by rw [ha]; exact putSel_on (e := (36, 52, .bool t147)) 32 rfl rfl (hon 36 (by kernel_rfl)) rfl
                    replace ha := Aside0.mk ha
                    have HB := Aside0.mk Q_HB
                    have HO137 := Aside0.mk (Q_HO137 (hon 18 (by kernel_rfl)))
                    have HO140 := Aside0.mk (Q_HO140 (hon 21 (by kernel_rfl)))
                    have HO143 := Aside0.mk (Q_HO143 (hon 27 (by kernel_rfl)))
                    have HO146 := Aside0.mk (Q_HO146 (hon 30 (by kernel_rfl)))
                    refine value_ (w1 := w') (v := .bool t147) (by rfl) rfl ?_ ?_
                    · go_simp
                      (try simp only [i64_w])
                      try rfl
                    refine hK.out _ _ ⟨v136, v139, v142, v145, (by rw [ha.out]; exact putSel_upk 33 hb_ rfl rfl rfl), Q_HB, Q_HO137, Q_HO140, Q_HO143, Q_HO146⟩
                  exact steps_nil
                rintro b a w27 hall ⟨v136, v139, v142, v145, ha, Q_HB, Q_HO137, Q_HO140, Q_HO143, Q_HO146⟩
                clear HB
                have hb2_ := hall 2 (by kernel_rfl)
                have hb5_ := hall 5 (by kernel_rfl)
                have hb6_ := hall 6 (by kernel_rfl)
                have hb7_ := hall 7 (by kernel_rfl)
                have hb8_ := hall 8 (by kernel_rfl)
                have hb9_ := hall 9 (by kernel_rfl)
                have hb10_ := hall 10 (by kernel_rfl)
                have hb11_ := hall 11 (by kernel_rfl)
                have hb12_ := hall 12 (by kernel_rfl)
                have hb13_ := hall 13 (by kernel_rfl)
                have hb14_ := hall 14 (by kernel_rfl)
                have hb15_ := hall 15 (by kernel_rfl)
                have hb16_ := hall 16 (by kernel_rfl)
                have hb17_ := hall 17 (by kernel_rfl)
                have hb18_ := hall 18 (by kernel_rfl)
                have hb19_ := hall 19 (by kernel_rfl)
                have hb20_ := hall 20 (by kernel_rfl)
                have hb21_ := hall 21 (by kernel_rfl)
                have hb22_ := hall 22 (by kernel_rfl)
                have hb23_ := hall 23 (by kernel_rfl)
                have hb24_ := hall 24 (by kernel_rfl)
                have hb25_ := hall 25 (by kernel_rfl)
                have hb26_ := hall 26 (by kernel_rfl)
                have hb27_ := hall 27 (by kernel_rfl)
                have hb28_ := hall 28 (by kernel_rfl)
                have hb29_ := hall 29 (by kernel_rfl)
                have hb30_ := hall 30 (by kernel_rfl)
                have hb31_ := hall 31 (by kernel_rfl)
                have hb32_ := hall 32 (by kernel_rfl)
                have hb33_ := hall 33 (by kernel_rfl)
                have hb34_ := hall 34 (by kernel_rfl)
                have hb35_ := hall 35 (by kernel_rfl)
                have hb36_ := hall 36 (by kernel_rfl)
                have hb37_ := hall 37 (by kernel_rfl)
                subst ha
                simp only [putSel, hb2_, hb5_, hb6_, hb7_, hb8_, hb9_, hb10_, hb11_, hb12_, hb13_, hb14_, hb15_, hb16_, hb17_, hb18_, hb19_, hb20_, hb21_, hb22_, hb23_, hb24_, hb25_, hb26_, hb27_, hb28_, hb29_, hb30_, hb31_, hb32_, hb33_, hb34_, hb35_, hb36_, hb37_, if_true, Act.put, List.setIfInBounds_toArray, List.set_cons_zero, List.set_cons_succ]
                have HB := Aside0.mk Q_HB
                clear Q_HB
                have HO137 := Aside0.mk (Q_HO137 hb18_)
                clear Q_HO137
                have HO140 := Aside0.mk (Q_HO140 hb21_)
                clear Q_HO140
                have HO143 := Aside0.mk (Q_HO143 hb27_)
                clear Q_HO143
                have HO146 := Aside0.mk (Q_HO146 hb30_)
                clear Q_HO146
                clear hall hb2_ hb5_ hb6_ hb7_ hb8_ hb9_ hb10_ hb11_ hb12_ hb13_ hb14_ hb15_ hb16_ hb17_ hb18_ hb19_ hb20_ hb21_ hb22_ hb23_ hb24_ hb25_ hb26_ hb27_ hb28_ hb29_ hb30_ hb31_ hb32_ hb33_ hb34_ hb35_ hb36_ hb37_
                try go_wp2
                go_ret
                exact ⟨by first | rfl | (simp [errW_none, errW_some] <;> rfl) | (simp [*, errW_none, errW_some] <;> rfl), by repeat (first | (with_reducible first | exact HB.out | apply below_alloc | apply pw_below_drewN | apply below_drew1) | exact HB.out)⟩
              · rw [if_neg c19] at H
                have c19b0 : ((strOfNums t141).toList == (strOfNums t144).toList) = false := beq_eq_false_iff_ne.mpr c19
                have c19b1 : ((strOfNums t141).toList != (strOfNums t144).toList) = true := bne_iff_ne.mpr c19
                exact absurd (H.trans (congrArg some HRT.out)) (by simp)
            · rw [if_neg c16] at H
              have c16b0 : ((strOfNums t135).toList == (strOfNums t138).toList) = false := beq_eq_false_iff_ne.mpr c16
              have c16b1 : ((strOfNums t135).toList != (strOfNums t138).toList) = true := bne_iff_ne.mpr c16
              exact absurd (H.trans (congrArg some HRT.out)) (by simp)
          · rw [if_neg c13] at H
            have c13b0 : (t133 == t134) = false := beq_eq_false_iff_ne.mpr c13
            have c13b1 : (t133 != t134) = true := bne_iff_ne.mpr c13
            exact absurd (H.trans (congrArg some HRT.out)) (by simp)
        · rw [if_neg c10] at H
          have c10b0 : (t131 == t132) = false := beq_eq_false_iff_ne.mpr c10
          have c10b1 : (t131 != t132) = true := bne_iff_ne.mpr c10
          exact absurd (H.trans (congrArg some HRT.out)) (by simp)

/-- THE ONE PURE STATEMENT of castellanlaw1_WordGets: yours. -/
def castellanlaw1_WordGets.Pure : Prop := ∀ (l0 : List Int) (a1 : Int) (a2 : Int) (a3 : Int), l0.length ≤ maxLen → l0.length * 1 ≤ 140737488351232 → (∀ x ∈ l0, (Lit.int .u8 x).wf = true) → (Lit.int .i64 a1).wf = true → (Lit.int .i64 a2).wf = true → (Lit.int .u32 a3).wf = true → ∃ k, castellanlaw1_WordGets.f k l0 a1 a2 a3 = some true
theorem castellanlaw1_WordGets.walk (P : castellanlaw1_WordGets.Pure) (a0 : Option Addr) (len0 cap0 : Nat) (z0 : List Int) (a1 : Int) (a2 : Int) (a3 : Int) (w : World) (w0 : (a0 = none ∧ len0 = 0 ∧ cap0 = 0 ∧ z0 = []) ∨ ∃ x, a0 = some x ∧ len0 ≤ cap0 ∧ cap0 ≤ maxLen ∧ z0.length = cap0 ∧ (∀ i, i < z0.length → w.cell? (x.add i) = some (.int .u8 (z0.getD i 0))) ∧ ∀ n ∈ z0, (Lit.int .u8 n).wf = true) (y0 : len0 * 1 ≤ 140737488351232) (w1 : (Lit.int .i64 a1).wf = true) (w2 : (Lit.int .i64 a2).wf = true) (w3 : (Lit.int .u32 a3).wf = true) :
    Calls Try.prog 5 #[.slice a0 len0 cap0, .int .i64 a1, .int .i64 a2, .int .u32 a3] w fun e w' => e = .returned (.bool true) ∧ Below w.heap.size w w' := by
  obtain ⟨l0, rfl, hr0, hm0, hw0, hc0⟩ := ReadsInt.ofRowC w0
  obtain ⟨k, h⟩ := P l0 a1 a2 a3 hm0 y0 hw0 w1 w2 w3
  refine (castellanlaw1_WordGets.calls k _ _ l0 a1 a2 a3 true w (Kd.C_of_reads (d := (0 : Int)) (h1 := fun _ => rfl) hr0) hc0 rfl h).mono ?_
  rintro e w' ⟨rfl, hd⟩
  exact ⟨rfl, hd⟩

end Go.Proofs.Ytakdkbdojdjpkaa.QWordGets
