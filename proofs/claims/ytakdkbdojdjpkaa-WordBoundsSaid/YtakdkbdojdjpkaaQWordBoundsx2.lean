-- written by myprint.py, a program of this session's over the kit's printer
import Derived.Test.YtakdkbdojdjpkaaQWordBoundsx0
import Derived.Test.YtakdkbdojdjpkaaQWordBoundsx1
namespace Go.Proofs.Ytakdkbdojdjpkaa.QWordBounds
open Go.RowKit Go.Proofs.YtakdkbdojdjpkaaW.PrintWords Go.Proofs.YtakdkbdojdjpkaaW.PrintLast Go.Proofs.YtakdkbdojdjpkaaW.PrintMore
attribute [local go_sem] max2_int min2_int max_two min_two max_three min_three max_four min_four   -- for this text's walks alone
set_option linter.unusedVariables false
set_option linter.unusedSimpArgs false

/-! ### castellanlaw1_WordBounds: function 3 -/
def castellanlaw1_WordBounds.j0 : Nat → List Int → Int → Int → Bool → Option (Bool)
  | 0, _, _, _, _ => none
  | k + 1, x0, x1, x2, x26 => if x26 = true then (some true) else ((word_Put16.f (wrap64 (x1 + (wrap64 (65536 * x2))))).bind fun t115 => ((word_Get16.f x0 (x0.length : Int)).bind fun t118 => (if t118 = 0 then ((word_Get32.f k x0 (-4)).bind fun t119 => (if t119 = 0 then ((word_Put16.f x1).bind fun t120 => (if (strOfNums t115).toList = (strOfNums t120).toList then ((word_Get16.f t115 0).bind fun t123 => (if t123 = x1 then ((castellanlaw1_known.f).bind fun t124 => (some t124)) else (some false))) else (some false))) else (some false))) else (some false))))
def castellanlaw1_WordBounds.f (k : Nat) (l0 : List Int) (a1 : Int) (a2 : Int) : Option (Bool) := if (l0.length : Int) > 500 then (castellanlaw1_WordBounds.j0 k l0 a1 a2 true) else (if a1 < 0 then (castellanlaw1_WordBounds.j0 k l0 a1 a2 true) else (if a1 > 65535 then (castellanlaw1_WordBounds.j0 k l0 a1 a2 true) else (if a2 < 0 then (castellanlaw1_WordBounds.j0 k l0 a1 a2 true) else (castellanlaw1_WordBounds.j0 k l0 a1 a2 (decide (a2 > 1000))))))
theorem castellanlaw1_WordBounds.mono_l : ∀ k, (∀ y0 y1 y2 y3, LeO (castellanlaw1_WordBounds.j0 k y0 y1 y2 y3) (castellanlaw1_WordBounds.j0 (k + 1) y0 y1 y2 y3))
  | 0 => fun _ _ _ _ r h => by simp [castellanlaw1_WordBounds.j0] at h
  | k + 1 => by
    have ih0 := castellanlaw1_WordBounds.mono_l k
    · intro y0 y1 y2 y3
      unfold castellanlaw1_WordBounds.j0
      repeat' first
      | (with_reducible exact ih0 _ _ _ _)
      | (with_reducible exact word_Get32.mono _ _ _)
      | (with_reducible exact LeO.refl _)
      | (with_reducible exact LeO.none _)
      | (with_reducible refine LeO.ite ?_ ?_)
      | (with_reducible refine LeO.bind ?_ (fun _ => ?_))
      | exact ih0 _ _ _ _
      | exact word_Get32.mono _ _ _
      | exact LeO.none _
      | refine LeO.ite ?_ ?_
      | refine LeO.bind ?_ (fun _ => ?_)
theorem castellanlaw1_WordBounds.mono : ∀ a0 a1 a2 k, LeO (castellanlaw1_WordBounds.f k a0 a1 a2) (castellanlaw1_WordBounds.f (k + 1) a0 a1 a2) := by
  intro a0 a1 a2 k
  have ih0 := castellanlaw1_WordBounds.mono_l k
  unfold castellanlaw1_WordBounds.f
  repeat' first
      | (with_reducible exact ih0 _ _ _ _)
      | (with_reducible exact word_Get32.mono _ _ _)
      | (with_reducible exact LeO.refl _)
      | (with_reducible exact LeO.none _)
      | (with_reducible refine LeO.ite ?_ ?_)
      | (with_reducible refine LeO.bind ?_ (fun _ => ?_))
      | exact ih0 _ _ _ _
      | exact word_Get32.mono _ _ _
      | exact LeO.none _
      | refine LeO.ite ?_ ?_
      | refine LeO.bind ?_ (fun _ => ?_)
def castellanlaw1_WordBounds.T4 : Bool × List (List Nat × List Nat) := (true, [([], []), ([], []), ([1], [1]), ([0, 2], [0, 2]), ([3], [3]), ([4, 3], [4]), ([5], [5]), ([6, 5, 5], [5, 6]), ([7, 5], [5, 7]), ([5, 8], [5, 8]), ([9, 7], [9]), ([10], [10]), ([11, 10], [10, 11]), ([10], [10]), ([13, 10, 10], [10, 13]), ([14, 10], [10, 14]), ([12, 15, 10], [10, 12, 15]), ([10, 16], [10, 16]), ([17, 14], [17]), ([18], [18]), ([19, 18, 18], [18, 19]), ([18], [18]), ([20, 21, 18], [18, 20, 21]), ([18, 22], [18, 22]), ([23, 20], [23]), ([24, 24], [24]), ([24, 25], [24, 25]), ([26, 25, 0, 1, 2, 3, 4, 5, 6, 7, 8, 9, 10, 11, 12, 13, 14, 15, 16, 17, 18, 19, 20, 21, 22, 23, 24, 25, 26], [26])])
def castellanlaw1_WordBounds.B4 : List Nat := [0, 0, 2, 7, 15, 31, 63, 127, 255, 511, 1023, 2047, 4095, 2047, 10239, 26623, 65535, 131071, 262143, 524287, 1048575, 524287, 4194303, 8388607, 16777215, 33554431, 67108863, 134217727]
theorem castellanlaw1_WordBounds.tab4 : rtab .any (opsOf Try.f3 4) = castellanlaw1_WordBounds.T4 := by kernel_rfl
theorem castellanlaw1_WordBounds.bits4 : waitsOk castellanlaw1_WordBounds.T4.2 castellanlaw1_WordBounds.B4 = true := by kernel_rfl
set_option maxHeartbeats 8000000 in
set_option maxRecDepth 100000 in
theorem castellanlaw1_WordBounds.calls (k : Nat) (A0 : Option Addr) (c0 : Nat) (l0 : List Int) (a1 : Int) (a2 : Int) (r : Bool) (w : World) (hr0 : Kd.C (Kd.int .u8) w A0 l0.length l0) (hc0 : l0.length ≤ c0) (hrt : r = true) (h : castellanlaw1_WordBounds.f k l0 a1 a2 = some r) :
    Calls Try.prog 3 #[.slice A0 l0.length c0, .int .i64 a1, .int .i64 a2] w fun e w' => e = .returned (.bool r) ∧ Below w.heap.size w w' := by
  have HRT := Aside0.mk hrt
  clear hrt
  have HR0 := Aside0.mk hr0
  have HC0 := Aside0.mk hc0
  clear hr0 hc0
  have HB := Aside0.mk (Below.refl w.heap.size w)
  have H : (if (l0.length : Int) > 500 then (castellanlaw1_WordBounds.j0 k l0 a1 a2 true) else (if a1 < 0 then (castellanlaw1_WordBounds.j0 k l0 a1 a2 true) else (if a1 > 65535 then (castellanlaw1_WordBounds.j0 k l0 a1 a2 true) else (if a2 < 0 then (castellanlaw1_WordBounds.j0 k l0 a1 a2 true) else (castellanlaw1_WordBounds.j0 k l0 a1 a2 (decide (a2 > 1000))))))) = some r := h
  clear h
  have HC4 := Aside0.mk H
  clear H
  go_enter Try.func3, Try.ntmps3
  go_upto_region 1 with (fail)
  go_cut [26] (fun v26 wc => ∃ (kq : Nat) (x26_3 : Bool), v26 = .bool x26_3 ∧ Aside0 (castellanlaw1_WordBounds.j0 kq l0 a1 a2 x26_3 = some r) ∧ Aside0 (kq ≤ k) ∧ Aside0 (Below w.heap.size w wc))
  case first =>
    have H := HC4.out
    clear HC4
    by_cases c5 : (l0.length : Int) > 500
    · rw [if_pos c5] at H
      have c5b0 : decide (500 < (l0.length : Int)) = true := decide_eq_true c5
      have c5b1 : decide (500 < l0.length) = true := decide_eq_true (by omega)
      clear c5
      (first | rw [c5b0] | (simp only [i64_w, i32_w]; rw [c5b0]) | skip)
      have H' := Aside0.mk H
      clear H
      go_wp2
      go_meet
      case rel => exact ⟨_, (true), (by first | rfl | (simp; done) | (simp [*]; done)), H', ⟨by first | omega | exact Nat.le_refl _⟩, ⟨by repeat (first | (with_reducible first | exact HB.out | apply below_alloc | apply pw_below_drewN | apply below_drew1) | exact HB.out)⟩⟩
    · rw [if_neg c5] at H
      have c5b0 : decide (500 < (l0.length : Int)) = false := decide_eq_false c5
      have c5b1 : decide (500 < l0.length) = false := decide_eq_false (by omega)
      clear c5
      (first | rw [c5b0] | (simp only [i64_w, i32_w]; rw [c5b0]) | skip)
      by_cases c6 : a1 < 0
      · rw [if_pos c6] at H
        have c6b0 : decide (a1 < 0) = true := decide_eq_true c6
        clear c6
        have H' := Aside0.mk H
        clear H
        go_wp2
        go_meet
        case rel => exact ⟨_, (true), (by first | rfl | (simp; done) | (simp [*]; done)), H', ⟨by first | omega | exact Nat.le_refl _⟩, ⟨by repeat (first | (with_reducible first | exact HB.out | apply below_alloc | apply pw_below_drewN | apply below_drew1) | exact HB.out)⟩⟩
      · rw [if_neg c6] at H
        have c6b0 : decide (a1 < 0) = false := decide_eq_false c6
        clear c6
        by_cases c7 : a1 > 65535
        · rw [if_pos c7] at H
          have c7b0 : decide (65535 < a1) = true := decide_eq_true c7
          clear c7
          have H' := Aside0.mk H
          clear H
          go_wp2
          go_meet
          case rel => exact ⟨_, (true), (by first | rfl | (simp; done) | (simp [*]; done)), H', ⟨by first | omega | exact Nat.le_refl _⟩, ⟨by repeat (first | (with_reducible first | exact HB.out | apply below_alloc | apply pw_below_drewN | apply below_drew1) | exact HB.out)⟩⟩
        · rw [if_neg c7] at H
          have c7b0 : decide (65535 < a1) = false := decide_eq_false c7
          clear c7
          by_cases c8 : a2 < 0
          · rw [if_pos c8] at H
            have c8b0 : decide (a2 < 0) = true := decide_eq_true c8
            clear c8
            have H' := Aside0.mk H
            clear H
            go_wp2
            go_meet
            case rel => exact ⟨_, (true), (by first | rfl | (simp; done) | (simp [*]; done)), H', ⟨by first | omega | exact Nat.le_refl _⟩, ⟨by repeat (first | (with_reducible first | exact HB.out | apply below_alloc | apply pw_below_drewN | apply below_drew1) | exact HB.out)⟩⟩
          · rw [if_neg c8] at H
            have c8b0 : decide (a2 < 0) = false := decide_eq_false c8
            clear c8
            have H' := Aside0.mk H
            clear H
            go_wp2
            go_meet
            case rel => exact ⟨_, (decide (a2 > 1000)), (by first | rfl | (simp; done) | (simp [*]; done)), H', ⟨by first | omega | exact Nat.le_refl _⟩, ⟨by repeat (first | (with_reducible first | exact HB.out | apply below_alloc | apply pw_below_drewN | apply below_drew1) | exact HB.out)⟩⟩
  case rest =>
    clear HC4
    try clear p2
    try clear c3
    try clear c5
    try clear c5b0
    try clear c5b1
    try clear c6
    try clear c6b0
    try clear c7
    try clear c7b0
    try clear c8
    try clear c8b0
    obtain ⟨kq, x26_3, rfl, HA, HJ3, HB⟩ := hcut
    cases kq with
    | zero => exact absurd HA.out (by simp [castellanlaw1_WordBounds.j0])
    | succ kj3 =>
      have H := HA.out
      clear HA
      simp only [castellanlaw1_WordBounds.j0] at H
      by_cases c9 : x26_3 = true
      · subst c9
        have H1 : (some true) = some r := by rw [if_pos rfl] at H; exact H
        clear H
        have H := H1
        clear H1
        obtain rfl := Option.some.inj H
        go_wp2
        go_ret
        exact ⟨by first | rfl | (simp [errW_none, errW_some] <;> rfl) | (simp [*, errW_none, errW_some] <;> rfl), by repeat (first | (with_reducible first | exact HB.out | apply below_alloc | apply pw_below_drewN | apply below_drew1) | exact HB.out)⟩
      · replace c9 := Bool.eq_false_iff.mpr c9
        subst c9
        have H1 : ((word_Put16.f (wrap64 (a1 + (wrap64 (65536 * a2))))).bind fun t115 => ((word_Get16.f l0 (l0.length : Int)).bind fun t118 => (if t118 = 0 then ((word_Get32.f kj3 l0 (-4)).bind fun t119 => (if t119 = 0 then ((word_Put16.f a1).bind fun t120 => (if (strOfNums t115).toList = (strOfNums t120).toList then ((word_Get16.f t115 0).bind fun t123 => (if t123 = a1 then ((castellanlaw1_known.f).bind fun t124 => (some t124)) else (some false))) else (some false))) else (some false))) else (some false)))) = some r := by rw [if_neg (show ¬ (false = true) by decide)] at H; exact H
        clear H
        have H := H1
        clear H1
        replace H := Option.bind_eq_some_iff.mp H
        obtain ⟨t115, A100, H⟩ := H
        replace H : ((word_Get16.f l0 (l0.length : Int)).bind fun t118 => (if t118 = 0 then ((word_Get32.f kj3 l0 (-4)).bind fun t119 => (if t119 = 0 then ((word_Put16.f a1).bind fun t120 => (if (strOfNums t115).toList = (strOfNums t120).toList then ((word_Get16.f t115 0).bind fun t123 => (if t123 = a1 then ((castellanlaw1_known.f).bind fun t124 => (some t124)) else (some false))) else (some false))) else (some false))) else (some false))) = some r := H
        have A10 := Aside0.mk A100
        clear A100
        replace H := Option.bind_eq_some_iff.mp H
        obtain ⟨t118, A110, H⟩ := H
        replace H : (if t118 = 0 then ((word_Get32.f kj3 l0 (-4)).bind fun t119 => (if t119 = 0 then ((word_Put16.f a1).bind fun t120 => (if (strOfNums t115).toList = (strOfNums t120).toList then ((word_Get16.f t115 0).bind fun t123 => (if t123 = a1 then ((castellanlaw1_known.f).bind fun t124 => (some t124)) else (some false))) else (some false))) else (some false))) else (some false)) = some r := H
        have A11 := Aside0.mk A110
        clear A110
        by_cases c12 : t118 = 0
        · rw [if_pos c12] at H
          have c12b0 : (t118 == 0) = true := beq_iff_eq.mpr c12
          have c12b1 : (t118 != 0) = false := bne_eq_false_iff_eq.mpr c12
          clear c12
          replace H := Option.bind_eq_some_iff.mp H
          obtain ⟨t119, A130, H⟩ := H
          replace H : (if t119 = 0 then ((word_Put16.f a1).bind fun t120 => (if (strOfNums t115).toList = (strOfNums t120).toList then ((word_Get16.f t115 0).bind fun t123 => (if t123 = a1 then ((castellanlaw1_known.f).bind fun t124 => (some t124)) else (some false))) else (some false))) else (some false)) = some r := H
          have A13 := Aside0.mk A130
          clear A130
          by_cases c14 : t119 = 0
          · rw [if_pos c14] at H
            have c14b0 : (t119 == 0) = true := beq_iff_eq.mpr c14
            have c14b1 : (t119 != 0) = false := bne_eq_false_iff_eq.mpr c14
            clear c14
            replace H := Option.bind_eq_some_iff.mp H
            obtain ⟨t120, A150, H⟩ := H
            replace H : (if (strOfNums t115).toList = (strOfNums t120).toList then ((word_Get16.f t115 0).bind fun t123 => (if t123 = a1 then ((castellanlaw1_known.f).bind fun t124 => (some t124)) else (some false))) else (some false)) = some r := H
            have A15 := Aside0.mk A150
            clear A150
            by_cases c16 : (strOfNums t115).toList = (strOfNums t120).toList
            · rw [if_pos c16] at H
              have c16b0 : ((strOfNums t115).toList == (strOfNums t120).toList) = true := beq_iff_eq.mpr c16
              have c16b1 : ((strOfNums t115).toList != (strOfNums t120).toList) = false := bne_eq_false_iff_eq.mpr c16
              clear c16
              replace H := Option.bind_eq_some_iff.mp H
              obtain ⟨t123, A170, H⟩ := H
              replace H : (if t123 = a1 then ((castellanlaw1_known.f).bind fun t124 => (some t124)) else (some false)) = some r := H
              have A17 := Aside0.mk A170
              clear A170
              by_cases c18 : t123 = a1
              · rw [if_pos c18] at H
                have c18b0 : (t123 == a1) = true := beq_iff_eq.mpr c18
                have c18b1 : (t123 != a1) = false := bne_eq_false_iff_eq.mpr c18
                clear c18
                replace H := Option.bind_eq_some_iff.mp H
                obtain ⟨t124, A190, H⟩ := H
                replace H : (some t124) = some r := H
                have A19 := Aside0.mk A190
                clear A190
                obtain rfl := Option.some.inj H
                try go_wp2_with (first | ((with_reducible refine gate_callee (f := 13) rfl ?_); refine goesL_ (some 31) rfl rfl Try.func13 (by kernel_rfl) rfl #[.int .i64 (wrap64 (a1 + (wrap64 (65536 * a2))))] rfl (by (try simp only [List.map_toArray, List.map_cons, List.map_nil]); first | done | rfl | (simp only [List.length_drop, List.length_take]; rfl)) ?_; (with_reducible refine (word_Put16.calls (wrap64 (a1 + (wrap64 (65536 * a2)))) t115 _ A10.out).mono ?_); rintro e w20 ⟨v116, rfl, ho0, hb⟩; refine ⟨_, rfl, ?_⟩; have n0_ := Aside0.mk (Kd.R_lower ho0 (below_size (by repeat (first | (with_reducible first | exact HB.out | apply below_alloc | apply pw_below_drewN | apply below_drew1) | exact HB.out)))); have n1_ := Aside0.mk (below_step (by repeat (first | (with_reducible first | exact HB.out | apply below_alloc | apply pw_below_drewN | apply below_drew1) | exact HB.out)) hb); clear HB; have HO117 := n0_; have HB := n1_; clear n0_ n1_; (try clear hb); (try clear hb2); (try clear hk); (try clear hi); (try clear ho0); obtain ⟨Ao21, co21, eo21⟩ := Kd.R_slice HO117.out; subst eo21))
                have n0_ := Aside0.mk (Kd.R_drew HO117.out)
                have n1_ := Aside0.mk (below_drew1 HB.out)
                clear HO117
                clear HB
                have HO117 := n0_
                have HB := n1_
                clear n0_ n1_
                refine start_ (n := 28) (S := fun w' => True) (ds := []) #[false, false, false, false, false, false, false, false, false, false, false, false, false, false, false, false, false, false, false, false, false, false, false, false, false, false, false, false] (by kernel_rfl) rfl rfl trivial (fun hHeld => ?_); refine with_tabW castellanlaw1_WordBounds.tab4 castellanlaw1_WordBounds.bits4 (fun HT_ HW_ => ?_)
                generalize w20.drew = w22 at HO117 HB hHeld ⊢
                refine pure_ (i := 0) (N := some 32) (v := ?_) (a' := ?_) #[true, false, false, false, false, false, false, false, false, false, false, false, false, false, false, false, false, false, false, false, false, false, false, false, false, false, false, false] rfl rfl (any_of HT_.out (by kernel_rfl)) (fun _ _ _ h => h) (Or.inl ⟨by rfl, ?_⟩) ?_ ?_
                rotate_left
                · intro w'
                  go_simp
                  with_reducible rfl
                rotate_left
                · simp only [Act.put, List.setIfInBounds_toArray, List.set_cons_zero, List.set_cons_succ, i64_w, i32_w]
                  rfl
                refine pure_ (i := 1) (N := some 33) (v := ?_) (a' := ?_) #[true, true, false, false, false, false, false, false, false, false, false, false, false, false, false, false, false, false, false, false, false, false, false, false, false, false, false, false] rfl rfl (any_of HT_.out (by kernel_rfl)) (fun _ _ _ h => h) (Or.inl ⟨by rfl, ?_⟩) ?_ ?_
                rotate_left
                · intro w'
                  go_simp
                  with_reducible rfl
                rotate_left
                · simp only [Act.put, List.setIfInBounds_toArray, List.set_cons_zero, List.set_cons_succ, i64_w, i32_w]
                  rfl
                refine inv_at [2, 3, 4, 5, 6, 7, 8, 9, 10, 11, 12, 13, 14, 15, 16, 17, 18, 19, 20, 21, 22, 23, 24, 25, 26, 27] (fun a0_ b a w' => ∃ (v121 : Value), a = putSel a0_ b [(2, 34, .int .i64 (l0.length : Int)), (3, 35, .int .i64 t118), (4, 36, .bool (t118 == 0)), (5, 37, .bool (t118 == 0)), (6, 38, .slice A0 l0.length c0), (7, 39, .int .u32 t119), (8, 40, .bool (t119 == 0)), (9, 41, .bool (t119 == 0)), (10, 42, .bool (t119 == 0)), (11, 43, .slice Ao21 t115.length co21), (12, 44, .string (strOfNums t115)), (13, 45, .int .i64 a1), (14, 46, v121), (15, 47, .string (strOfNums t120)), (16, 48, .bool ((strOfNums t115).toList == (strOfNums t120).toList)), (17, 49, .bool ((strOfNums t115).toList == (strOfNums t120).toList)), (18, 50, .bool ((strOfNums t115).toList == (strOfNums t120).toList)), (19, 51, .slice Ao21 t115.length co21), (20, 52, .int .i64 t123), (21, 53, .int .i64 a1), (22, 54, .bool (t123 == a1)), (23, 55, .bool (t123 == a1)), (24, 56, .bool (t123 == a1)), (25, 57, .bool t124), (26, 58, .bool t124), (27, 6, .bool t124)] ∧ (Kd.R (Kd.int .u8) 5 w' w.heap.size (fun _ => True) (.slice Ao21 t115.length co21) t115) ∧ (Below w.heap.size w w') ∧ (b 14 = true → Kd.R (Kd.int .u8) 5 w' w.heap.size (fun k_ => some k_ ≠ (.slice Ao21 t115.length co21 : Value).ownBlock) v121 t120)) HT_.out HW_.out (by kernel_rfl) (by kernel_rfl) ?_ ?_ ?_
                · exact ⟨.bool false, by simp only [putSel, Bool.false_eq_true, if_false], HO117.out, HB.out, fun h_ => absurd h_ (by decide)⟩
                · skip
                  clear HB HO117
                  refine steps_cons ?_ ?_
                  · rintro b a w' ⟨v121, ha, Q_HO117, Q_HB, Q_HO122⟩ hb_ hon hoff
                    refine ⟨_, rfl, fun K hK => ?_⟩
                    have e33 : a.tmps[33]? = some (.slice A0 l0.length c0) := by rw [ha]; exact (putSel_off rfl).trans rfl
                    replace ha := Aside0.mk ha
                    have HO117 := Aside0.mk Q_HO117
                    have HB := Aside0.mk Q_HB
                    refine value_ (w1 := w') (v := .int .i64 (l0.length : Int)) (by rfl) rfl ?_ ?_
                    · go_simp
                      (try simp only [i64_w])
                      try rfl
                    refine hK.out _ _ ⟨v121, (by rw [ha.out]; exact putSel_upk 0 hb_ rfl rfl rfl), Q_HO117, Q_HB, fun h0_ => absurd ((hoff 14 (by kernel_rfl)).symm.trans h0_) (by decide)⟩
                  refine steps_cons ?_ ?_
                  · rintro b a w' ⟨v121, ha, Q_HO117, Q_HB, Q_HO122⟩ hb_ hon hoff
                    refine ⟨_, rfl, fun K hK => ?_⟩
                    have e32 : a.tmps[32]? = some (.slice A0 l0.length c0) := by rw [ha]; exact (putSel_off rfl).trans rfl
                    have e34 : a.tmps[34]? = some (.int .i64 (l0.length : Int)) := by rw [ha]; exact putSel_on (e := (2, 34, .int .i64 (l0.length : Int))) 0 rfl rfl (hon 2 (by kernel_rfl)) rfl
                    replace ha := Aside0.mk ha
                    have HO117 := Aside0.mk Q_HO117
                    have HB := Aside0.mk Q_HB
                    refine goes_ Try.func14 (by kernel_rfl) rfl #[.slice A0 l0.length c0, .int .i64 (l0.length : Int)] (by rfl) rfl rfl (by first | (simp only [List.map_toArray, List.map_cons, List.map_nil, Act.eval, Array.getD_eq_getD_getElem?, Option.getD_some, e32, e34]; done) | (simp only [List.map_toArray, List.map_cons, List.map_nil, Act.eval, Array.getD_eq_getD_getElem?, Option.getD_some, e32, e34]; rfl)) ?_
                    with_reducible refine (word_Get16.calls _ _ l0 (l0.length : Int) t118 _ ?side1 ?side2 A11.out).mono ?_
                    (case side1 => repeat (first | exact (Kd.C_below HR0.out HB.out) | (with_reducible refine Kd.C_alloc ?_ _) | (with_reducible refine Kd.C_drewN ?_ _) | (with_reducible refine Kd.C_drew ?_)))
                    (case side2 => exact HC0.out)
                    rintro e w' ⟨rfl, ⟨nd, rfl⟩⟩
                    refine ⟨_, rfl, ?_⟩
                    refine hK.out _ _ ⟨v121, (by rw [ha.out]; exact putSel_upk 1 hb_ rfl rfl rfl), (by first | ((with_reducible repeat (first | apply Kd.R_alloc | apply Kd.R_drewN | apply Kd.R_drew)); exact HO117.out) | ((with_reducible repeat (first | apply Kd.R_alloc | apply Kd.R_drewN | apply Kd.R_drew)); exact Kd.R_mono HO117.out (fun _ hk => by first | trivial | exact hk | exact hk.1 | exact hk.2 | exact hk.1.1))), (by repeat (first | (with_reducible first | exact HB.out | apply below_alloc | apply pw_below_drewN | apply below_drew1) | exact HB.out)), fun h0_ => absurd ((hoff 14 (by kernel_rfl)).symm.trans h0_) (by decide)⟩
                  refine steps_cons ?_ ?_
                  · rintro b a w' ⟨v121, ha, Q_HO117, Q_HB, Q_HO122⟩ hb_ hon hoff
                    refine ⟨_, rfl, fun K hK => ?_⟩
                    have e35 : a.tmps[35]? = some (.int .i64 t118) := by rw [ha]; exact putSel_on (e := (3, 35, .int .i64 t118)) 1 rfl rfl (hon 3 (by kernel_rfl)) rfl
                    replace ha := Aside0.mk ha
                    have HO117 := Aside0.mk Q_HO117
                    have HB := Aside0.mk Q_HB
                    refine value_ (w1 := w') (v := .bool (t118 == 0)) (by rfl) rfl ?_ ?_
                    · go_simp
                      (try simp only [i64_w])
                      try rfl
                    refine hK.out _ _ ⟨v121, (by rw [ha.out]; exact putSel_upk 2 hb_ rfl rfl rfl), Q_HO117, Q_HB, fun h0_ => absurd ((hoff 14 (by kernel_rfl)).symm.trans h0_) (by decide)⟩
                  refine steps_cons ?_ ?_
                  · rintro b a w' ⟨v121, ha, Q_HO117, Q_HB, Q_HO122⟩ hb_ hon hoff
                    refine ⟨_, rfl, fun K hK => ?_⟩
                    have e36 : a.tmps[36]? = some (.bool (t118 == 0)) := by rw [ha]; exact putSel_on (e := (4, 36, .bool (t118 == 0))) 2 rfl rfl (hon 4 (by kernel_rfl)) rfl
                    replace ha := Aside0.mk ha
                    have HO117 := Aside0.mk Q_HO117
                    have HB := Aside0.mk Q_HB
                    refine value_ (w1 := w') (v := .bool (t118 == 0)) (by rfl) rfl ?_ ?_
                    · go_simp
                      (try simp only [i64_w])
                      try rfl
                    refine hK.out _ _ ⟨v121, (by rw [ha.out]; exact putSel_upk 3 hb_ rfl rfl rfl), Q_HO117, Q_HB, fun h0_ => absurd ((hoff 14 (by kernel_rfl)).symm.trans h0_) (by decide)⟩
                  refine steps_cons ?_ ?_
                  · rintro b a w' ⟨v121, ha, Q_HO117, Q_HB, Q_HO122⟩ hb_ hon hoff
                    refine ⟨_, rfl, fun K hK => ?_⟩
                    have e0 : a.tmps[0]? = some (.slice A0 l0.length c0) := by rw [ha]; exact (putSel_off rfl).trans rfl
                    have e37 : a.tmps[37]? = some (.bool (t118 == 0)) := by rw [ha]; exact putSel_on (e := (5, 37, .bool (t118 == 0))) 3 rfl rfl (hon 5 (by kernel_rfl)) rfl
                    replace ha := Aside0.mk ha
                    have HO117 := Aside0.mk Q_HO117
                    have HB := Aside0.mk Q_HB
                    refine value_ (w1 := w') (v := .slice A0 l0.length c0) (wanted_on rfl rfl rfl (e37.trans (by first | rfl | (simp [*]; done)))) rfl ?_ ?_
                    · go_simp
                      (try simp only [i64_w])
                      try rfl
                    refine hK.out _ _ ⟨v121, (by rw [ha.out]; exact putSel_upk 4 hb_ rfl rfl rfl), Q_HO117, Q_HB, fun h0_ => absurd ((hoff 14 (by kernel_rfl)).symm.trans h0_) (by decide)⟩
                  refine steps_cons ?_ ?_
                  · rintro b a w' ⟨v121, ha, Q_HO117, Q_HB, Q_HO122⟩ hb_ hon hoff
                    refine ⟨_, rfl, fun K hK => ?_⟩
                    have e38 : a.tmps[38]? = some (.slice A0 l0.length c0) := by rw [ha]; exact putSel_on (e := (6, 38, .slice A0 l0.length c0)) 4 rfl rfl (hon 6 (by kernel_rfl)) rfl
                    have e37 : a.tmps[37]? = some (.bool (t118 == 0)) := by rw [ha]; exact putSel_on (e := (5, 37, .bool (t118 == 0))) 3 rfl rfl (hon 5 (by kernel_rfl)) rfl
                    replace ha := Aside0.mk ha
                    have HO117 := Aside0.mk Q_HO117
                    have HB := Aside0.mk Q_HB
                    refine goes_ Try.func15 (by kernel_rfl) rfl #[.slice A0 l0.length c0, .int .i64 (-4)] (wanted_on rfl rfl rfl (e37.trans (by first | rfl | (simp [*]; done)))) rfl rfl (by first | (simp only [List.map_toArray, List.map_cons, List.map_nil, Act.eval, Array.getD_eq_getD_getElem?, Option.getD_some, e38, e37]; done) | (simp only [List.map_toArray, List.map_cons, List.map_nil, Act.eval, Array.getD_eq_getD_getElem?, Option.getD_some, e38, e37]; rfl)) ?_
                    with_reducible refine (word_Get32.calls kj3 _ _ l0 (-4) t119 _ ?side1 ?side2 A13.out).mono ?_
                    (case side1 => repeat (first | exact (Kd.C_below HR0.out HB.out) | (with_reducible refine Kd.C_alloc ?_ _) | (with_reducible refine Kd.C_drewN ?_ _) | (with_reducible refine Kd.C_drew ?_)))
                    (case side2 => exact HC0.out)
                    rintro e w' ⟨rfl, ⟨nd, rfl⟩⟩
                    refine ⟨_, rfl, ?_⟩
                    refine hK.out _ _ ⟨v121, (by rw [ha.out]; exact putSel_upk 5 hb_ rfl rfl rfl), (by first | ((with_reducible repeat (first | apply Kd.R_alloc | apply Kd.R_drewN | apply Kd.R_drew)); exact HO117.out) | ((with_reducible repeat (first | apply Kd.R_alloc | apply Kd.R_drewN | apply Kd.R_drew)); exact Kd.R_mono HO117.out (fun _ hk => by first | trivial | exact hk | exact hk.1 | exact hk.2 | exact hk.1.1))), (by repeat (first | (with_reducible first | exact HB.out | apply below_alloc | apply pw_below_drewN | apply below_drew1) | exact HB.out)), fun h0_ => absurd ((hoff 14 (by kernel_rfl)).symm.trans h0_) (by decide)⟩
                  refine steps_cons ?_ ?_
                  · rintro b a w' ⟨v121, ha, Q_HO117, Q_HB, Q_HO122⟩ hb_ hon hoff
                    refine ⟨_, rfl, fun K hK => ?_⟩
                    have e39 : a.tmps[39]? = some (.int .u32 t119) := by rw [ha]; exact putSel_on (e := (7, 39, .int .u32 t119)) 5 rfl rfl (hon 7 (by kernel_rfl)) rfl
                    have e37 : a.tmps[37]? = some (.bool (t118 == 0)) := by rw [ha]; exact putSel_on (e := (5, 37, .bool (t118 == 0))) 3 rfl rfl (hon 5 (by kernel_rfl)) rfl
                    replace ha := Aside0.mk ha
                    have HO117 := Aside0.mk Q_HO117
                    have HB := Aside0.mk Q_HB
                    refine value_ (w1 := w') (v := .bool (t119 == 0)) (wanted_on rfl rfl rfl (e37.trans (by first | rfl | (simp [*]; done)))) rfl ?_ ?_
                    · go_simp
                      (try simp only [i64_w])
                      try rfl
                    refine hK.out _ _ ⟨v121, (by rw [ha.out]; exact putSel_upk 6 hb_ rfl rfl rfl), Q_HO117, Q_HB, fun h0_ => absurd ((hoff 14 (by kernel_rfl)).symm.trans h0_) (by decide)⟩
                  refine steps_cons ?_ ?_
                  · rintro b a w' ⟨v121, ha, Q_HO117, Q_HB, Q_HO122⟩ hb_ hon hoff
                    refine ⟨_, rfl, fun K hK => ?_⟩
                    have e37 : a.tmps[37]? = some (.bool (t118 == 0)) := by rw [ha]; exact putSel_on (e := (5, 37, .bool (t118 == 0))) 3 rfl rfl (hon 5 (by kernel_rfl)) rfl
                    have e40 : a.tmps[40]? = some (.bool (t119 == 0)) := by rw [ha]; exact putSel_on (e := (8, 40, .bool (t119 == 0))) 6 rfl rfl (hon 8 (by kernel_rfl)) rfl
                    replace ha := Aside0.mk ha
                    have HO117 := Aside0.mk Q_HO117
                    have HB := Aside0.mk Q_HB
                    refine value_ (w1 := w') (v := .bool (t119 == 0)) (by rfl) rfl ?_ ?_
                    · go_simp
                      (try simp only [i64_w])
                      try rfl
                    refine hK.out _ _ ⟨v121, (by rw [ha.out]; exact putSel_upk 7 hb_ rfl rfl rfl), Q_HO117, Q_HB, fun h0_ => absurd ((hoff 14 (by kernel_rfl)).symm.trans h0_) (by decide)⟩
                  refine steps_cons ?_ ?_
                  · rintro b a w' ⟨v121, ha, Q_HO117, Q_HB, Q_HO122⟩ hb_ hon hoff
                    refine ⟨_, rfl, fun K hK => ?_⟩
                    have e41 : a.tmps[41]? = some (.bool (t119 == 0)) := by rw [ha]; exact putSel_on (e := (9, 41, .bool (t119 == 0))) 7 rfl rfl (hon 9 (by kernel_rfl)) rfl
                    replace ha := Aside0.mk ha
                    have HO117 := Aside0.mk Q_HO117
                    have HB := Aside0.mk Q_HB
                    refine value_ (w1 := w') (v := .bool (t119 == 0)) (by rfl) rfl ?_ ?_
                    · go_simp
                      (try simp only [i64_w])
                      try rfl
                    refine hK.out _ _ ⟨v121, (by rw [ha.out]; exact putSel_upk 8 hb_ rfl rfl rfl), Q_HO117, Q_HB, fun h0_ => absurd ((hoff 14 (by kernel_rfl)).symm.trans h0_) (by decide)⟩
                  refine steps_cons ?_ ?_
                  · rintro b a w' ⟨v121, ha, Q_HO117, Q_HB, Q_HO122⟩ hb_ hon hoff
                    refine ⟨_, rfl, fun K hK => ?_⟩
                    have e7 : a.tmps[7]? = some (.slice Ao21 t115.length co21) := by rw [ha]; exact (putSel_off rfl).trans rfl
                    have e42 : a.tmps[42]? = some (.bool (t119 == 0)) := by rw [ha]; exact putSel_on (e := (10, 42, .bool (t119 == 0))) 8 rfl rfl (hon 10 (by kernel_rfl)) rfl
                    replace ha := Aside0.mk ha
                    have HO117 := Aside0.mk Q_HO117
                    have HB := Aside0.mk Q_HB
                    refine value_ (w1 := w') (v := .slice Ao21 t115.length co21) (wanted_on rfl rfl rfl (e42.trans (by first | rfl | (simp [*]; done)))) rfl ?_ ?_
                    · go_simp
                      (try simp only [i64_w])
                      try rfl
                    refine hK.out _ _ ⟨v121, (by rw [ha.out]; exact putSel_upk 9 hb_ rfl rfl rfl), Q_HO117, Q_HB, Q_HO122⟩
                  refine steps_cons ?_ ?_
                  · rintro b a w' ⟨v121, ha, Q_HO117, Q_HB, Q_HO122⟩ hb_ hon hoff
                    refine ⟨_, rfl, fun K hK => ?_⟩
                    have e43 : a.tmps[43]? = some (.slice Ao21 t115.length co21) := by rw [ha]; exact putSel_on (e := (11, 43, .slice Ao21 t115.length co21)) 9 rfl rfl (hon 11 (by kernel_rfl)) rfl
                    have e42 : a.tmps[42]? = some (.bool (t119 == 0)) := by rw [ha]; exact putSel_on (e := (10, 42, .bool (t119 == 0))) 8 rfl rfl (hon 10 (by kernel_rfl)) rfl
                    replace ha := Aside0.mk ha
                    have HO117 := Aside0.mk Q_HO117
                    have HB := Aside0.mk Q_HB
                    have hcv_ := Kd.C_string (P := Try.prog) (A := Ao21) (c := co21) Try.underlying22 Try.underlying5 Try.underlying9 (Kd.R_reads' HO117.out).2.2
                    refine value_ (w1 := w') (v := .string (strOfNums t115)) (wanted_on rfl rfl rfl (e42.trans (by first | rfl | (simp [*]; done)))) rfl ?_ ?_
                    · go_simp
                      (try simp only [i64_w])
                      try rfl
                    refine hK.out _ _ ⟨v121, (by rw [ha.out]; exact putSel_upk 10 hb_ rfl rfl rfl), Q_HO117, Q_HB, Q_HO122⟩
                  refine steps_cons ?_ ?_
                  · rintro b a w' ⟨v121, ha, Q_HO117, Q_HB, Q_HO122⟩ hb_ hon hoff
                    refine ⟨_, rfl, fun K hK => ?_⟩
                    have e1 : a.tmps[1]? = some (.int .i64 a1) := by rw [ha]; exact (putSel_off rfl).trans rfl
                    have e42 : a.tmps[42]? = some (.bool (t119 == 0)) := by rw [ha]; exact putSel_on (e := (10, 42, .bool (t119 == 0))) 8 rfl rfl (hon 10 (by kernel_rfl)) rfl
                    replace ha := Aside0.mk ha
                    have HO117 := Aside0.mk Q_HO117
                    have HB := Aside0.mk Q_HB
                    refine value_ (w1 := w') (v := .int .i64 a1) (wanted_on rfl rfl rfl (e42.trans (by first | rfl | (simp [*]; done)))) rfl ?_ ?_
                    · go_simp
                      (try simp only [i64_w])
                      try rfl
                    refine hK.out _ _ ⟨v121, (by rw [ha.out]; exact putSel_upk 11 hb_ rfl rfl rfl), Q_HO117, Q_HB, fun h0_ => absurd ((hoff 14 (by kernel_rfl)).symm.trans h0_) (by decide)⟩
                  refine steps_cons ?_ ?_
                  · rintro b a w' ⟨v121, ha, Q_HO117, Q_HB, Q_HO122⟩ hb_ hon hoff
                    refine ⟨_, rfl, fun K hK => ?_⟩
                    have e45 : a.tmps[45]? = some (.int .i64 a1) := by rw [ha]; exact putSel_on (e := (13, 45, .int .i64 a1)) 11 rfl rfl (hon 13 (by kernel_rfl)) rfl
                    have e42 : a.tmps[42]? = some (.bool (t119 == 0)) := by rw [ha]; exact putSel_on (e := (10, 42, .bool (t119 == 0))) 8 rfl rfl (hon 10 (by kernel_rfl)) rfl
                    replace ha := Aside0.mk ha
                    have HO117 := Aside0.mk Q_HO117
                    have HB := Aside0.mk Q_HB
                    refine goes_ Try.func13 (by kernel_rfl) rfl #[.int .i64 a1] (wanted_on rfl rfl rfl (e42.trans (by first | rfl | (simp [*]; done)))) rfl rfl (by first | (simp only [List.map_toArray, List.map_cons, List.map_nil, Act.eval, Array.getD_eq_getD_getElem?, Option.getD_some, e45, e42]; done) | (simp only [List.map_toArray, List.map_cons, List.map_nil, Act.eval, Array.getD_eq_getD_getElem?, Option.getD_some, e45, e42]; rfl)) ?_
                    with_reducible refine (word_Put16.calls a1 t120 _ A15.out).mono ?_
                    rintro e w24 ⟨v121, rfl, ho0, hb⟩
                    refine ⟨_, rfl, ?_⟩
                    have n0_ := Aside0.mk (Kd.R_elder' (by (with_reducible repeat (first | apply Kd.R_alloc | apply Kd.R_drewN | apply Kd.R_drew)); exact HO117.out) (Kd.R_base ho0) hb)
                    have n1_ := Aside0.mk (Kd.R_lower (Kd.R_new' ho0 (Kd.R_lt (by (with_reducible repeat (first | apply Kd.R_alloc | apply Kd.R_drewN | apply Kd.R_drew)); exact HO117.out))) (below_size (by repeat (first | (with_reducible first | exact HB.out | apply below_alloc | apply pw_below_drewN | apply below_drew1) | exact HB.out))))
                    have n2_ := Aside0.mk (below_step (by repeat (first | (with_reducible first | exact HB.out | apply below_alloc | apply pw_below_drewN | apply below_drew1) | exact HB.out)) hb)
                    clear HO117
                    clear HB
                    have HO117 := n0_
                    have HO122 := n1_
                    have HB := n2_
                    clear n0_ n1_ n2_
                    (try clear hb)
                    (try clear hb2)
                    (try clear hk)
                    (try clear hi)
                    (try clear ho0)
                    refine hK.out _ _ ⟨v121, (by rw [ha.out]; exact putSel_upk 12 hb_ rfl rfl rfl), (by first | ((with_reducible repeat (first | apply Kd.R_alloc | apply Kd.R_drewN | apply Kd.R_drew)); exact Kd.R_mono HO117.out (fun _ hk => hk.2)) | ((with_reducible repeat (first | apply Kd.R_alloc | apply Kd.R_drewN | apply Kd.R_drew)); exact Kd.R_mono HO117.out (fun _ hk => by first | trivial | exact hk | exact hk.1 | exact hk.2 | exact hk.1.1))), (by repeat (first | (with_reducible first | exact HB.out | apply below_alloc | apply pw_below_drewN | apply below_drew1) | exact HB.out)), fun _ => (by first | ((with_reducible repeat (first | apply Kd.R_alloc | apply Kd.R_drewN | apply Kd.R_drew)); exact Kd.R_mono HO122.out (fun _ hk => hk.2)) | ((with_reducible repeat (first | apply Kd.R_alloc | apply Kd.R_drewN | apply Kd.R_drew)); exact Kd.R_mono HO122.out (fun _ hk => by first | trivial | exact hk | exact hk.1 | exact hk.2 | exact hk.1.1)))⟩
                  refine steps_cons ?_ ?_
                  · rintro b a w' ⟨v121, ha, Q_HO117, Q_HB, Q_HO122⟩ hb_ hon hoff
                    refine ⟨_, rfl, fun K hK => ?_⟩
                    have e46 : a.tmps[46]? = some (v121) := by rw [ha]; exact putSel_on (e := (14, 46, v121)) 12 rfl rfl (hon 14 (by kernel_rfl)) rfl
                    have e42 : a.tmps[42]? = some (.bool (t119 == 0)) := by rw [ha]; exact putSel_on (e := (10, 42, .bool (t119 == 0))) 8 rfl rfl (hon 10 (by kernel_rfl)) rfl
                    replace ha := Aside0.mk ha
                    have HO117 := Aside0.mk Q_HO117
                    have HB := Aside0.mk Q_HB
                    have HO122 := Aside0.mk (Q_HO122 (hon 14 (by kernel_rfl)))
                    obtain ⟨Ao15_0, co15_0, eo_⟩ := Kd.R_slice HO122.out
                    subst eo_
                    have hcv_ := Kd.C_string (P := Try.prog) (A := Ao15_0) (c := co15_0) Try.underlying22 Try.underlying5 Try.underlying9 (Kd.R_reads' HO122.out).2.2
                    refine value_ (w1 := w') (v := .string (strOfNums t120)) (wanted_on rfl rfl rfl (e42.trans (by first | rfl | (simp [*]; done)))) rfl ?_ ?_
                    · go_simp
                      (try simp only [i64_w])
                      try rfl
                    refine hK.out _ _ ⟨.slice Ao15_0 t120.length co15_0, (by rw [ha.out]; exact putSel_upk 13 hb_ rfl rfl rfl), Q_HO117, Q_HB, Q_HO122⟩
                  refine steps_cons ?_ ?_
                  · rintro b a w' ⟨v121, ha, Q_HO117, Q_HB, Q_HO122⟩ hb_ hon hoff
                    refine ⟨_, rfl, fun K hK => ?_⟩
                    have e44 : a.tmps[44]? = some (.string (strOfNums t115)) := by rw [ha]; exact putSel_on (e := (12, 44, .string (strOfNums t115))) 10 rfl rfl (hon 12 (by kernel_rfl)) rfl
                    have e47 : a.tmps[47]? = some (.string (strOfNums t120)) := by rw [ha]; exact putSel_on (e := (15, 47, .string (strOfNums t120))) 13 rfl rfl (hon 15 (by kernel_rfl)) rfl
                    have e42 : a.tmps[42]? = some (.bool (t119 == 0)) := by rw [ha]; exact putSel_on (e := (10, 42, .bool (t119 == 0))) 8 rfl rfl (hon 10 (by kernel_rfl)) rfl
                    replace ha := Aside0.mk ha
                    have HO117 := Aside0.mk Q_HO117
                    have HB := Aside0.mk Q_HB
                    have HO122 := Aside0.mk (Q_HO122 (hon 14 (by kernel_rfl)))
                    refine value_ (w1 := w') (v := .bool ((strOfNums t115).toList == (strOfNums t120).toList)) (wanted_on rfl rfl rfl (e42.trans (by first | rfl | (simp [*]; done)))) rfl ?_ ?_
                    · go_simp
                      (try simp only [i64_w])
                      try rfl
                    refine hK.out _ _ ⟨v121, (by rw [ha.out]; exact putSel_upk 14 hb_ rfl rfl rfl), Q_HO117, Q_HB, Q_HO122⟩
                  refine steps_cons ?_ ?_
                  · rintro b a w' ⟨v121, ha, Q_HO117, Q_HB, Q_HO122⟩ hb_ hon hoff
                    refine ⟨_, rfl, fun K hK => ?_⟩
                    have e42 : a.tmps[42]? = some (.bool (t119 == 0)) := by rw [ha]; exact putSel_on (e := (10, 42, .bool (t119 == 0))) 8 rfl rfl (hon 10 (by kernel_rfl)) rfl
                    have e48 : a.tmps[48]? = some (.bool ((strOfNums t115).toList == (strOfNums t120).toList)) := by rw [ha]; exact putSel_on (e := (16, 48, .bool ((strOfNums t115).toList == (strOfNums t120).toList))) 14 rfl rfl (hon 16 (by kernel_rfl)) rfl
                    replace ha := Aside0.mk ha
                    have HO117 := Aside0.mk Q_HO117
                    have HB := Aside0.mk Q_HB
                    have HO122 := Aside0.mk (Q_HO122 (hon 14 (by kernel_rfl)))
                    refine value_ (w1 := w') (v := .bool ((strOfNums t115).toList == (strOfNums t120).toList)) (by rfl) rfl ?_ ?_
                    · go_simp
                      (try simp only [i64_w])
                      try rfl
                    refine hK.out _ _ ⟨v121, (by rw [ha.out]; exact putSel_upk 15 hb_ rfl rfl rfl), Q_HO117, Q_HB, Q_HO122⟩
                  refine steps_cons ?_ ?_
                  · rintro b a w' ⟨v121, ha, Q_HO117, Q_HB, Q_HO122⟩ hb_ hon hoff
                    refine ⟨_, rfl, fun K hK => ?_⟩
                    have e49 : a.tmps[49]? = some (.bool ((strOfNums t115).toList == (strOfNums t120).toList)) := by rw [ha]; exact putSel_on (e := (17, 49, .bool ((strOfNums t115).toList == (strOfNums t120).toList))) 15 rfl rfl (hon 17 (by kernel_rfl)) rfl
                    replace ha := Aside0.mk ha
                    have HO117 := Aside0.mk Q_HO117
                    have HB := Aside0.mk Q_HB
                    have HO122 := Aside0.mk (Q_HO122 (hon 14 (by kernel_rfl)))
                    refine value_ (w1 := w') (v := .bool ((strOfNums t115).toList == (strOfNums t120).toList)) (by rfl) rfl ?_ ?_
                    · go_simp
                      (try simp only [i64_w])
                      try rfl
                    refine hK.out _ _ ⟨v121, (by rw [ha.out]; exact putSel_upk 16 hb_ rfl rfl rfl), Q_HO117, Q_HB, Q_HO122⟩
                  refine steps_cons ?_ ?_
                  · rintro b a w' ⟨v121, ha, Q_HO117, Q_HB, Q_HO122⟩ hb_ hon hoff
                    refine ⟨_, rfl, fun K hK => ?_⟩
                    have e7 : a.tmps[7]? = some (.slice Ao21 t115.length co21) := by rw [ha]; exact (putSel_off rfl).trans rfl
                    have e50 : a.tmps[50]? = some (.bool ((strOfNums t115).toList == (strOfNums t120).toList)) := by rw [ha]; exact putSel_on (e := (18, 50, .bool ((strOfNums t115).toList == (strOfNums t120).toList))) 16 rfl rfl (hon 18 (by kernel_rfl)) rfl
                    replace ha := Aside0.mk ha
                    have HO117 := Aside0.mk Q_HO117
                    have HB := Aside0.mk Q_HB
                    have HO122 := Aside0.mk (Q_HO122 (hon 14 (by kernel_rfl)))
                    refine value_ (w1 := w') (v := .slice Ao21 t115.length co21) (wanted_on rfl rfl rfl (e50.trans (by first | rfl | (simp [*]; done)))) rfl ?_ ?_
                    · go_simp
                      (try simp only [i64_w])
                      try rfl
                    refine hK.out _ _ ⟨v121, (by rw [ha.out]; exact putSel_upk 17 hb_ rfl rfl rfl), Q_HO117, Q_HB, Q_HO122⟩
                  refine steps_cons ?_ ?_
                  · rintro b a w' ⟨v121, ha, Q_HO117, Q_HB, Q_HO122⟩ hb_ hon hoff
                    refine ⟨_, rfl, fun K hK => ?_⟩
                    have e51 : a.tmps[51]? = some (.slice Ao21 t115.length co21) := by rw [ha]; exact putSel_on (e := (19, 51, .slice Ao21 t115.length co21)) 17 rfl rfl (hon 19 (by kernel_rfl)) rfl
                    have e50 : a.tmps[50]? = some (.bool ((strOfNums t115).toList == (strOfNums t120).toList)) := by rw [ha]; exact putSel_on (e := (18, 50, .bool ((strOfNums t115).toList == (strOfNums t120).toList))) 16 rfl rfl (hon 18 (by kernel_rfl)) rfl
                    replace ha := Aside0.mk ha
                    have HO117 := Aside0.mk Q_HO117
                    have HB := Aside0.mk Q_HB
                    have HO122 := Aside0.mk (Q_HO122 (hon 14 (by kernel_rfl)))
                    refine goes_ Try.func14 (by kernel_rfl) rfl #[.slice Ao21 t115.length co21, .int .i64 0] (wanted_on rfl rfl rfl (e50.trans (by first | rfl | (simp [*]; done)))) rfl rfl (by first | (simp only [List.map_toArray, List.map_cons, List.map_nil, Act.eval, Array.getD_eq_getD_getElem?, Option.getD_some, e51, e50]; done) | (simp only [List.map_toArray, List.map_cons, List.map_nil, Act.eval, Array.getD_eq_getD_getElem?, Option.getD_some, e51, e50]; rfl)) ?_
                    with_reducible refine (word_Get16.calls _ _ t115 0 t123 _ ?side1 ?side2 A17.out).mono ?_
                    (case side1 => repeat (first | exact (Kd.R_reads' HO117.out).2.2 | (with_reducible refine Kd.C_alloc ?_ _) | (with_reducible refine Kd.C_drewN ?_ _) | (with_reducible refine Kd.C_drew ?_)))
                    (case side2 => exact (Kd.R_reads' HO117.out).2.1)
                    rintro e w' ⟨rfl, ⟨nd, rfl⟩⟩
                    refine ⟨_, rfl, ?_⟩
                    refine hK.out _ _ ⟨v121, (by rw [ha.out]; exact putSel_upk 18 hb_ rfl rfl rfl), (by first | ((with_reducible repeat (first | apply Kd.R_alloc | apply Kd.R_drewN | apply Kd.R_drew)); exact HO117.out) | ((with_reducible repeat (first | apply Kd.R_alloc | apply Kd.R_drewN | apply Kd.R_drew)); exact Kd.R_mono HO117.out (fun _ hk => by first | trivial | exact hk | exact hk.1 | exact hk.2 | exact hk.1.1))), (by repeat (first | (with_reducible first | exact HB.out | apply below_alloc | apply pw_below_drewN | apply below_drew1) | exact HB.out)), fun _ => (by first | ((with_reducible repeat (first | apply Kd.R_alloc | apply Kd.R_drewN | apply Kd.R_drew)); exact HO122.out) | ((with_reducible repeat (first | apply Kd.R_alloc | apply Kd.R_drewN | apply Kd.R_drew)); exact Kd.R_mono HO122.out (fun _ hk => by first | trivial | exact hk | exact hk.1 | exact hk.2 | exact hk.1.1)))⟩
                  refine steps_cons ?_ ?_
                  · rintro b a w' ⟨v121, ha, Q_HO117, Q_HB, Q_HO122⟩ hb_ hon hoff
                    refine ⟨_, rfl, fun K hK => ?_⟩
                    have e1 : a.tmps[1]? = some (.int .i64 a1) := by rw [ha]; exact (putSel_off rfl).trans rfl
                    have e50 : a.tmps[50]? = some (.bool ((strOfNums t115).toList == (strOfNums t120).toList)) := by rw [ha]; exact putSel_on (e := (18, 50, .bool ((strOfNums t115).toList == (strOfNums t120).toList))) 16 rfl rfl (hon 18 (by kernel_rfl)) rfl
                    replace ha := Aside0.mk ha
                    have HO117 := Aside0.mk Q_HO117
                    have HB := Aside0.mk Q_HB
                    have HO122 := Aside0.mk (Q_HO122 (hon 14 (by kernel_rfl)))
                    refine value_ (w1 := w') (v := .int .i64 a1) (wanted_on rfl rfl rfl (e50.trans (by first | rfl | (simp [*]; done)))) rfl ?_ ?_
                    · go_simp
                      (try simp only [i64_w])
                      try rfl
                    refine hK.out _ _ ⟨v121, (by rw [ha.out]; exact putSel_upk 19 hb_ rfl rfl rfl), Q_HO117, Q_HB, Q_HO122⟩
                  refine steps_cons ?_ ?_
                  · rintro b a w' ⟨v121, ha, Q_HO117, Q_HB, Q_HO122⟩ hb_ hon hoff
                    refine ⟨_, rfl, fun K hK => ?_⟩
                    have e52 : a.tmps[52]? = some (.int .i64 t123) := by rw [ha]; exact putSel_on (e := (20, 52, .int .i64 t123)) 18 rfl rfl (hon 20 (by kernel_rfl)) rfl
                    have e53 : a.tmps[53]? = some (.int .i64 a1) := by rw [ha]; exact putSel_on (e := (21, 53, .int .i64 a1)) 19 rfl rfl (hon 21 (by kernel_rfl)) rfl
                    have e50 : a.tmps[50]? = some (.bool ((strOfNums t115).toList == (strOfNums t120).toList)) := by rw [ha]; exact putSel_on (e := (18, 50, .bool ((strOfNums t115).toList == (strOfNums t120).toList))) 16 rfl rfl (hon 18 (by kernel_rfl)) rfl
                    replace ha := Aside0.mk ha
                    have HO117 := Aside0.mk Q_HO117
                    have HB := Aside0.mk Q_HB
                    have HO122 := Aside0.mk (Q_HO122 (hon 14 (by kernel_rfl)))
                    refine value_ (w1 := w') (v := .bool (t123 == a1)) (wanted_on rfl rfl rfl (e50.trans (by first | rfl | (simp [*]; done)))) rfl ?_ ?_
                    · go_simp
                      (try simp only [i64_w])
                      try rfl
                    refine hK.out _ _ ⟨v121, (by rw [ha.out]; exact putSel_upk 20 hb_ rfl rfl rfl), Q_HO117, Q_HB, Q_HO122⟩
                  refine steps_cons ?_ ?_
                  · rintro b a w' ⟨v121, ha, Q_HO117, Q_HB, Q_HO122⟩ hb_ hon hoff
                    refine ⟨_, rfl, fun K hK => ?_⟩
                    have e50 : a.tmps[50]? = some (.bool ((strOfNums t115).toList == (strOfNums t120).toList)) := by rw [ha]; exact putSel_on (e := (18, 50, .bool ((strOfNums t115).toList == (strOfNums t120).toList))) 16 rfl rfl (hon 18 (by kernel_rfl)) rfl
                    have e54 : a.tmps[54]? = some (.bool (t123 == a1)) := by rw [ha]; exact putSel_on (e := (22, 54, .bool (t123 == a1))) 20 rfl rfl (hon 22 (by kernel_rfl)) rfl
                    replace ha := Aside0.mk ha
                    have HO117 := Aside0.mk Q_HO117
                    have HB := Aside0.mk Q_HB
                    have HO122 := Aside0.mk (Q_HO122 (hon 14 (by kernel_rfl)))
                    refine value_ (w1 := w') (v := .bool (t123 == a1)) (by rfl) rfl ?_ ?_
                    · go_simp
                      (try simp only [i64_w])
                      try rfl
                    refine hK.out _ _ ⟨v121, (by rw [ha.out]; exact putSel_upk 21 hb_ rfl rfl rfl), Q_HO117, Q_HB, Q_HO122⟩
                  refine steps_cons ?_ ?_
                  · rintro b a w' ⟨v121, ha, Q_HO117, Q_HB, Q_HO122⟩ hb_ hon hoff
                    refine ⟨_, rfl, fun K hK => ?_⟩
                    have e55 : a.tmps[55]? = some (.bool (t123 == a1)) := by rw [ha]; exact putSel_on (e := (23, 55, .bool (t123 == a1))) 21 rfl rfl (hon 23 (by kernel_rfl)) rfl
                    replace ha := Aside0.mk ha
                    have HO117 := Aside0.mk Q_HO117
                    have HB := Aside0.mk Q_HB
                    have HO122 := Aside0.mk (Q_HO122 (hon 14 (by kernel_rfl)))
                    refine value_ (w1 := w') (v := .bool (t123 == a1)) (by rfl) rfl ?_ ?_
                    · go_simp
                      (try simp only [i64_w])
                      try rfl
                    refine hK.out _ _ ⟨v121, (by rw [ha.out]; exact putSel_upk 22 hb_ rfl rfl rfl), Q_HO117, Q_HB, Q_HO122⟩
                  refine steps_cons ?_ ?_
                  · rintro b a w' ⟨v121, ha, Q_HO117, Q_HB, Q_HO122⟩ hb_ hon hoff
                    refine ⟨_, rfl, fun K hK => ?_⟩
                    have e56 : a.tmps[56]? = some (.bool (t123 == a1)) := by rw [ha]; exact putSel_on (e := (24, 56, .bool (t123 == a1))) 22 rfl rfl (hon 24 (by kernel_rfl)) rfl
                    replace ha := Aside0.mk ha
                    have HO117 := Aside0.mk Q_HO117
                    have HB := Aside0.mk Q_HB
                    have HO122 := Aside0.mk (Q_HO122 (hon 14 (by kernel_rfl)))
                    refine goes_ Try.func16 (by kernel_rfl) rfl #[] (wanted_on rfl rfl rfl (e56.trans (by first | rfl | (simp [*]; done)))) rfl rfl (by first | (simp only [List.map_toArray, List.map_cons, List.map_nil, Act.eval, Array.getD_eq_getD_getElem?, Option.getD_some, e56]; done) | (simp only [List.map_toArray, List.map_cons, List.map_nil, Act.eval, Array.getD_eq_getD_getElem?, Option.getD_some, e56]; rfl)) ?_
                    with_reducible refine (castellanlaw1_known.calls  t124 _ A19.out).mono ?_
                    rintro e w25 ⟨rfl, hb⟩
                    refine ⟨_, rfl, ?_⟩
                    have n0_ := Aside0.mk (Kd.R_below (by (with_reducible repeat (first | apply Kd.R_alloc | apply Kd.R_drewN | apply Kd.R_drew)); exact HO117.out) hb)
                    have n1_ := Aside0.mk (Kd.R_below (by (with_reducible repeat (first | apply Kd.R_alloc | apply Kd.R_drewN | apply Kd.R_drew)); exact HO122.out) hb)
                    have n2_ := Aside0.mk (below_step (by repeat (first | (with_reducible first | exact HB.out | apply below_alloc | apply pw_below_drewN | apply below_drew1) | exact HB.out)) hb)
                    clear HO117
                    clear HO122
                    clear HB
                    have HO117 := n0_
                    have HO122 := n1_
                    have HB := n2_
                    clear n0_ n1_ n2_
                    (try clear hb)
                    (try clear hb2)
                    (try clear hk)
                    (try clear hi)
                    refine hK.out _ _ ⟨v121, (by rw [ha.out]; exact putSel_upk 23 hb_ rfl rfl rfl), (by first | ((with_reducible repeat (first | apply Kd.R_alloc | apply Kd.R_drewN | apply Kd.R_drew)); exact HO117.out) | ((with_reducible repeat (first | apply Kd.R_alloc | apply Kd.R_drewN | apply Kd.R_drew)); exact Kd.R_mono HO117.out (fun _ hk => by first | trivial | exact hk | exact hk.1 | exact hk.2 | exact hk.1.1))), (by repeat (first | (with_reducible first | exact HB.out | apply below_alloc | apply pw_below_drewN | apply below_drew1) | exact HB.out)), fun _ => (by first | ((with_reducible repeat (first | apply Kd.R_alloc | apply Kd.R_drewN | apply Kd.R_drew)); exact HO122.out) | ((with_reducible repeat (first | apply Kd.R_alloc | apply Kd.R_drewN | apply Kd.R_drew)); exact Kd.R_mono HO122.out (fun _ hk => by first | trivial | exact hk | exact hk.1 | exact hk.2 | exact hk.1.1)))⟩
                  refine steps_cons ?_ ?_
                  · rintro b a w' ⟨v121, ha, Q_HO117, Q_HB, Q_HO122⟩ hb_ hon hoff
                    refine ⟨_, rfl, fun K hK => ?_⟩
                    have e56 : a.tmps[56]? = some (.bool (t123 == a1)) := by rw [ha]; exact putSel_on (e := (24, 56, .bool (t123 == a1))) 22 rfl rfl (hon 24 (by kernel_rfl)) rfl
                    have e57 : a.tmps[57]? = some (.bool t124) := by rw [ha]; exact putSel_on (e := (25, 57, .bool t124)) 23 rfl rfl (hon 25 (by kernel_rfl)) rfl
                    replace ha := Aside0.mk ha
                    have HO117 := Aside0.mk Q_HO117
                    have HB := Aside0.mk Q_HB
                    have HO122 := Aside0.mk (Q_HO122 (hon 14 (by kernel_rfl)))
                    refine value_ (w1 := w') (v := .bool t124) (by rfl) rfl ?_ ?_
                    · go_simp
                      (try simp only [i64_w])
                      try rfl
                    refine hK.out _ _ ⟨v121, (by rw [ha.out]; exact putSel_upk 24 hb_ rfl rfl rfl), Q_HO117, Q_HB, Q_HO122⟩
                  refine steps_cons ?_ ?_
                  · rintro b a w' ⟨v121, ha, Q_HO117, Q_HB, Q_HO122⟩ hb_ hon hoff
                    refine ⟨_, rfl, fun K hK => ?_⟩
                    have e58 : a.tmps[58]? = some (.bool t124) := by rw [ha]; exact putSel_on (e := (26, 58, .bool t124)) 24 rfl rfl (hon 26 (by kernel_rfl)) rfl
                    replace ha := Aside0.mk ha
                    have HO117 := Aside0.mk Q_HO117
                    have HB := Aside0.mk Q_HB
                    have HO122 := Aside0.mk (Q_HO122 (hon 14 (by kernel_rfl)))
                    refine value_ (w1 := w') (v := .bool t124) (by rfl) rfl ?_ ?_
                    · go_simp
                      (try simp only [i64_w])
                      try rfl
                    refine hK.out _ _ ⟨v121, (by rw [ha.out]; exact putSel_upk 25 hb_ rfl rfl rfl), Q_HO117, Q_HB, Q_HO122⟩
                  exact steps_nil
                rintro b a w25 hall ⟨v121, ha, Q_HO117, Q_HB, Q_HO122⟩
                clear HB HO117
                have hb2_ := hall 2 (by kernel_rfl)
                have hb3_ := hall 3 (by kernel_rfl)
                have hb4_ := hall 4 (by kernel_rfl)
                have hb5_ := hall 5 (by kernel_rfl)
                have hb6_ := hall 6 (by kernel_rfl)
                have hb7_ := hall 7 (by kernel_rfl)
                have hb8_ := hall 8 (by kernel_rfl)
                have hb9_ := hall 9 (by kernel_rfl)
                have hb10_ := hall 10 (by kernel_rfl)
                have hb11_ := hall 11 (by kernel_rfl)
                have hb12_ := hall 12 (by kernel_rfl)
                have hb13_ := hall 13 (by kernel_rfl)
                have hb14_ := hall 14 (by kernel_rfl)
                have hb15_ := hall 15 (by kernel_rfl)
                have hb16_ := hall 16 (by kernel_rfl)
                have hb17_ := hall 17 (by kernel_rfl)
                have hb18_ := hall 18 (by kernel_rfl)
                have hb19_ := hall 19 (by kernel_rfl)
                have hb20_ := hall 20 (by kernel_rfl)
                have hb21_ := hall 21 (by kernel_rfl)
                have hb22_ := hall 22 (by kernel_rfl)
                have hb23_ := hall 23 (by kernel_rfl)
                have hb24_ := hall 24 (by kernel_rfl)
                have hb25_ := hall 25 (by kernel_rfl)
                have hb26_ := hall 26 (by kernel_rfl)
                have hb27_ := hall 27 (by kernel_rfl)
                subst ha
                simp only [putSel, hb2_, hb3_, hb4_, hb5_, hb6_, hb7_, hb8_, hb9_, hb10_, hb11_, hb12_, hb13_, hb14_, hb15_, hb16_, hb17_, hb18_, hb19_, hb20_, hb21_, hb22_, hb23_, hb24_, hb25_, hb26_, hb27_, if_true, Act.put, List.setIfInBounds_toArray, List.set_cons_zero, List.set_cons_succ]
                have HO117 := Aside0.mk Q_HO117
                clear Q_HO117
                have HB := Aside0.mk Q_HB
                clear Q_HB
                have HO122 := Aside0.mk (Q_HO122 hb14_)
                clear Q_HO122
                clear hall hb2_ hb3_ hb4_ hb5_ hb6_ hb7_ hb8_ hb9_ hb10_ hb11_ hb12_ hb13_ hb14_ hb15_ hb16_ hb17_ hb18_ hb19_ hb20_ hb21_ hb22_ hb23_ hb24_ hb25_ hb26_ hb27_
                try go_wp2
                go_ret
                exact ⟨by first | rfl | (simp [errW_none, errW_some] <;> rfl) | (simp [*, errW_none, errW_some] <;> rfl), by repeat (first | (with_reducible first | exact HB.out | apply below_alloc | apply pw_below_drewN | apply below_drew1) | exact HB.out)⟩
              · rw [if_neg c18] at H
                have c18b0 : (t123 == a1) = false := beq_eq_false_iff_ne.mpr c18
                have c18b1 : (t123 != a1) = true := bne_iff_ne.mpr c18
                exact absurd (H.trans (congrArg some HRT.out)) (by simp)
            · rw [if_neg c16] at H
              have c16b0 : ((strOfNums t115).toList == (strOfNums t120).toList) = false := beq_eq_false_iff_ne.mpr c16
              have c16b1 : ((strOfNums t115).toList != (strOfNums t120).toList) = true := bne_iff_ne.mpr c16
              exact absurd (H.trans (congrArg some HRT.out)) (by simp)
          · rw [if_neg c14] at H
            have c14b0 : (t119 == 0) = false := beq_eq_false_iff_ne.mpr c14
            have c14b1 : (t119 != 0) = true := bne_iff_ne.mpr c14
            exact absurd (H.trans (congrArg some HRT.out)) (by simp)
        · rw [if_neg c12] at H
          have c12b0 : (t118 == 0) = false := beq_eq_false_iff_ne.mpr c12
          have c12b1 : (t118 != 0) = true := bne_iff_ne.mpr c12
          exact absurd (H.trans (congrArg some HRT.out)) (by simp)

/-- THE ONE PURE STATEMENT of castellanlaw1_WordBounds: yours. -/
def castellanlaw1_WordBounds.Pure : Prop := ∀ (l0 : List Int) (a1 : Int) (a2 : Int), l0.length ≤ maxLen → l0.length * 1 ≤ 140737488351232 → (∀ x ∈ l0, (Lit.int .u8 x).wf = true) → (Lit.int .i64 a1).wf = true → (Lit.int .i64 a2).wf = true → ∃ k, castellanlaw1_WordBounds.f k l0 a1 a2 = some true
theorem castellanlaw1_WordBounds.walk (P : castellanlaw1_WordBounds.Pure) (a0 : Option Addr) (len0 cap0 : Nat) (z0 : List Int) (a1 : Int) (a2 : Int) (w : World) (w0 : (a0 = none ∧ len0 = 0 ∧ cap0 = 0 ∧ z0 = []) ∨ ∃ x, a0 = some x ∧ len0 ≤ cap0 ∧ cap0 ≤ maxLen ∧ z0.length = cap0 ∧ (∀ i, i < z0.length → w.cell? (x.add i) = some (.int .u8 (z0.getD i 0))) ∧ ∀ n ∈ z0, (Lit.int .u8 n).wf = true) (y0 : len0 * 1 ≤ 140737488351232) (w1 : (Lit.int .i64 a1).wf = true) (w2 : (Lit.int .i64 a2).wf = true) :
    Calls Try.prog 3 #[.slice a0 len0 cap0, .int .i64 a1, .int .i64 a2] w fun e w' => e = .returned (.bool true) ∧ Below w.heap.size w w' := by
  obtain ⟨l0, rfl, hr0, hm0, hw0, hc0⟩ := ReadsInt.ofRowC w0
  obtain ⟨k, h⟩ := P l0 a1 a2 hm0 y0 hw0 w1 w2
  refine (castellanlaw1_WordBounds.calls k _ _ l0 a1 a2 true w (Kd.C_of_reads (d := (0 : Int)) (h1 := fun _ => rfl) hr0) hc0 rfl h).mono ?_
  rintro e w' ⟨rfl, hd⟩
  exact ⟨rfl, hd⟩

end Go.Proofs.Ytakdkbdojdjpkaa.QWordBounds
