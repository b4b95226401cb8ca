-- written by myprint.py, a program of this session's over the kit's printer
import Derived.Test.YtakdkbdojdjpkaaQSumStandsx0
import Derived.Test.YtakdkbdojdjpkaaQSumStandsx1
namespace Go.Proofs.Ytakdkbdojdjpkaa.QSumStands
open Go.RowKit Go.Proofs.YtakdkbdojdjpkaaW.PrintWords Go.Proofs.YtakdkbdojdjpkaaW.PrintLast Go.Proofs.YtakdkbdojdjpkaaW.PrintMore
attribute [local go_sem] max2_int min2_int max_two min_two max_three min_three max_four min_four   -- for this text's walks alone
set_option linter.unusedVariables false
set_option linter.unusedSimpArgs false

/-! ### castellanlaw2_SumStands: function 8 -/
mutual
def castellanlaw2_SumStands.j0 : Nat → List Int → Int → Int → Int → Bool → Option (Bool)
  | 0, _, _, _, _, _ => none
  | k + 1, x0, x1, x2, x3, x23 => if x23 = true then (some true) else ((some (([] : List Int) : List Int)).bind fun y121 => (if y121.length + x0.length < 140737488355328 then ((some (y121 ++ x0 : List Int)).bind fun y124 => (if (wrap64 ((y124.length : Int) / 2)) = 0 then (none) else (if 0 ≤ (wrap64 (2 * (Int.tmod (Go.bits .and .i64 x1 65535) (wrap64 ((y124.length : Int) / 2))))) then (if (wrap64 (2 * (Int.tmod (Go.bits .and .i64 x1 65535) (wrap64 ((y124.length : Int) / 2))))) < (y124.length : Int) then (if 0 ≤ (wrap64 ((wrap64 (2 * (Int.tmod (Go.bits .and .i64 x1 65535) (wrap64 ((y124.length : Int) / 2))))) + 1)) then (if (wrap64 ((wrap64 (2 * (Int.tmod (Go.bits .and .i64 x1 65535) (wrap64 ((y124.length : Int) / 2))))) + 1)) < (y124.length : Int) then ((some ((y124.set ((wrap64 (2 * (Int.tmod (Go.bits .and .i64 x1 65535) (wrap64 ((y124.length : Int) / 2))))) : Int).toNat 0).set ((wrap64 ((wrap64 (2 * (Int.tmod (Go.bits .and .i64 x1 65535) (wrap64 ((y124.length : Int) / 2))))) + 1)) : Int).toNat 0 : List Int)).bind fun y128 => ((sum_Of.f k (([y128] : List (List Int)))).bind fun t132 => (if t132 < 0 then (castellanlaw2_SumStands.j1 k x2 x3 y128 (wrap64 (2 * (Int.tmod (Go.bits .and .i64 x1 65535) (wrap64 ((y124.length : Int) / 2))))) t132 true) else (castellanlaw2_SumStands.j1 k x2 x3 y128 (wrap64 (2 * (Int.tmod (Go.bits .and .i64 x1 65535) (wrap64 ((y124.length : Int) / 2))))) t132 (decide (t132 > 65535)))))) else (none)) else (none)) else (none)) else (none)))) else (none)))
def castellanlaw2_SumStands.j1 : Nat → Int → Int → List Int → Int → Int → Bool → Option (Bool)
  | 0, _, _, _, _, _, _ => none
  | k + 1, x2, x3, x9, x10, x11, x49 => if x49 = true then (some false) else (if 0 ≤ x10 then (if x10 < (x9.length : Int) then (if 0 ≤ (wrap64 (x10 + 1)) then (if (wrap64 (x10 + 1)) < (x9.length : Int) then ((some ((x9.set (x10 : Int).toNat ((x11 / 256) % 256)).set ((wrap64 (x10 + 1)) : Int).toNat ((x11) % 256) : List Int)).bind fun y134 => ((sum_Right.f k y134).bind fun t135 => (if t135 = true then (if (x9.length : Int) = 0 then (none) else (if 0 ≤ (Int.tmod (Go.bits .and .i64 x2 65535) (x9.length : Int)) then (if (Int.tmod (Go.bits .and .i64 x2 65535) (x9.length : Int)) < (x9.length : Int) then ((some (y134.set ((Int.tmod (Go.bits .and .i64 x2 65535) (x9.length : Int)) : Int).toNat (Go.bits .xor .u8 (rd y134 (Int.tmod (Go.bits .and .i64 x2 65535) (x9.length : Int))) x3) : List Int)).bind fun y137 => ((sum_Right.f k y137).bind fun t138 => ((castellanref2_Right.f k y137).bind fun t139 => (if (t138 == t139) = true then ((castellanlaw2_known.f k).bind fun t140 => (some t140)) else (some false))))) else (none)) else (none))) else (some false)))) else (none)) else (none)) else (none)) else (none))
end
def castellanlaw2_SumStands.f (k : Nat) (l0 : List Int) (a1 : Int) (a2 : Int) (a3 : Int) : Option (Bool) := if (l0.length : Int) < 4 then (castellanlaw2_SumStands.j0 k l0 a1 a2 a3 true) else (if (l0.length : Int) > 1500 then (castellanlaw2_SumStands.j0 k l0 a1 a2 a3 true) else (castellanlaw2_SumStands.j0 k l0 a1 a2 a3 (a3 == 0)))
theorem castellanlaw2_SumStands.mono_l : ∀ k, (∀ y0 y1 y2 y3 y4, LeO (castellanlaw2_SumStands.j0 k y0 y1 y2 y3 y4) (castellanlaw2_SumStands.j0 (k + 1) y0 y1 y2 y3 y4)) ∧ (∀ y0 y1 y2 y3 y4 y5, LeO (castellanlaw2_SumStands.j1 k y0 y1 y2 y3 y4 y5) (castellanlaw2_SumStands.j1 (k + 1) y0 y1 y2 y3 y4 y5))
  | 0 => ⟨fun _ _ _ _ _ r h => by simp [castellanlaw2_SumStands.j0] at h, fun _ _ _ _ _ _ r h => by simp [castellanlaw2_SumStands.j1] at h⟩
  | k + 1 => by
    obtain ⟨ih0, ih1⟩ := castellanlaw2_SumStands.mono_l k
    refine ⟨?_, ?_⟩
    · intro y0 y1 y2 y3 y4
      unfold castellanlaw2_SumStands.j0
      repeat' first
      | (with_reducible exact ih0 _ _ _ _ _)
      | (with_reducible exact ih1 _ _ _ _ _ _)
      | (with_reducible exact castellanlaw2_known.mono _)
      | (with_reducible exact castellanref2_Right.mono _ _)
      | (with_reducible exact sum_Of.mono _ _)
      | (with_reducible exact sum_Right.mono _ _)
      | (with_reducible exact LeO.refl _)
      | (with_reducible exact LeO.none _)
      | (with_reducible refine LeO.ite ?_ ?_)
      | (with_reducible refine LeO.bind ?_ (fun _ => ?_))
      | exact ih0 _ _ _ _ _
      | exact ih1 _ _ _ _ _ _
      | exact castellanlaw2_known.mono _
      | exact castellanref2_Right.mono _ _
      | exact sum_Of.mono _ _
      | exact sum_Right.mono _ _
      | exact LeO.none _
      | refine LeO.ite ?_ ?_
      | refine LeO.bind ?_ (fun _ => ?_)
    · intro y0 y1 y2 y3 y4 y5
      unfold castellanlaw2_SumStands.j1
      repeat' first
      | (with_reducible exact ih0 _ _ _ _ _)
      | (with_reducible exact ih1 _ _ _ _ _ _)
      | (with_reducible exact castellanlaw2_known.mono _)
      | (with_reducible exact castellanref2_Right.mono _ _)
      | (with_reducible exact sum_Of.mono _ _)
      | (with_reducible exact sum_Right.mono _ _)
      | (with_reducible exact LeO.refl _)
      | (with_reducible exact LeO.none _)
      | (with_reducible refine LeO.ite ?_ ?_)
      | (with_reducible refine LeO.bind ?_ (fun _ => ?_))
      | exact ih0 _ _ _ _ _
      | exact ih1 _ _ _ _ _ _
      | exact castellanlaw2_known.mono _
      | exact castellanref2_Right.mono _ _
      | exact sum_Of.mono _ _
      | exact sum_Right.mono _ _
      | exact LeO.none _
      | refine LeO.ite ?_ ?_
      | refine LeO.bind ?_ (fun _ => ?_)
theorem castellanlaw2_SumStands.mono : ∀ a0 a1 a2 a3 k, LeO (castellanlaw2_SumStands.f k a0 a1 a2 a3) (castellanlaw2_SumStands.f (k + 1) a0 a1 a2 a3) := by
  intro a0 a1 a2 a3 k
  obtain ⟨ih0, ih1⟩ := castellanlaw2_SumStands.mono_l k
  unfold castellanlaw2_SumStands.f
  repeat' first
      | (with_reducible exact ih0 _ _ _ _ _)
      | (with_reducible exact ih1 _ _ _ _ _ _)
      | (with_reducible exact castellanlaw2_known.mono _)
      | (with_reducible exact castellanref2_Right.mono _ _)
      | (with_reducible exact sum_Of.mono _ _)
      | (with_reducible exact sum_Right.mono _ _)
      | (with_reducible exact LeO.refl _)
      | (with_reducible exact LeO.none _)
      | (with_reducible refine LeO.ite ?_ ?_)
      | (with_reducible refine LeO.bind ?_ (fun _ => ?_))
      | exact ih0 _ _ _ _ _
      | exact ih1 _ _ _ _ _ _
      | exact castellanlaw2_known.mono _
      | exact castellanref2_Right.mono _ _
      | exact sum_Of.mono _ _
      | exact sum_Right.mono _ _
      | exact LeO.none _
      | refine LeO.ite ?_ ?_
      | refine LeO.bind ?_ (fun _ => ?_)
set_option maxHeartbeats 8000000 in
set_option maxRecDepth 100000 in
theorem castellanlaw2_SumStands.calls (k : Nat) (A0 : Option Addr) (c0 : Nat) (l0 : List Int) (a1 : Int) (a2 : Int) (a3 : Int) (r : Bool) (w : World) (hr0 : Kd.C (Kd.int .u8) w A0 l0.length l0) (hc0 : l0.length ≤ c0) (hrt : r = true) (h : castellanlaw2_SumStands.f k l0 a1 a2 a3 = some r) :
    Calls Try.prog 8 #[.slice A0 l0.length c0, .int .i64 a1, .int .i64 a2, .int .u8 a3] w fun e w' => e = .returned (.bool r) ∧ Below w.heap.size w w' := by
  have HRT := Aside0.mk hrt
  clear hrt
  have HR0 := Aside0.mk hr0
  have HC0 := Aside0.mk hc0
  clear hr0 hc0
  have HB := Aside0.mk (Below.refl w.heap.size w)
  have H : (if (l0.length : Int) < 4 then (castellanlaw2_SumStands.j0 k l0 a1 a2 a3 true) else (if (l0.length : Int) > 1500 then (castellanlaw2_SumStands.j0 k l0 a1 a2 a3 true) else (castellanlaw2_SumStands.j0 k l0 a1 a2 a3 (a3 == 0)))) = some r := h
  clear h
  have HC5 := Aside0.mk H
  clear H
  go_enter Try.func8, Try.ntmps8
  go_upto_region 1 with (fail)
  go_cut [23] (fun v23 wc => ∃ (kq : Nat) (x23_4 : Bool), v23 = .bool x23_4 ∧ Aside0 (castellanlaw2_SumStands.j0 kq l0 a1 a2 a3 x23_4 = some r) ∧ Aside0 (kq ≤ k) ∧ Aside0 (Below w.heap.size w wc))
  case first =>
    have H := HC5.out
    clear HC5
    by_cases c6 : (l0.length : Int) < 4
    · rw [if_pos c6] at H
      have c6b0 : decide ((l0.length : Int) < 4) = true := decide_eq_true c6
      have c6b1 : decide (l0.length < 4) = true := decide_eq_true (by omega)
      clear c6
      (first | rw [c6b0] | (simp only [i64_w, i32_w]; rw [c6b0]) | skip)
      have H' := Aside0.mk H
      clear H
      go_wp2
      go_meet
      case rel => exact ⟨_, (true), (by first | rfl | (simp; done) | (simp [*]; done)), H', ⟨by first | omega | exact Nat.le_refl _⟩, ⟨by repeat (first | (with_reducible first | exact HB.out | apply below_alloc | apply pw_below_drewN | apply below_drew1) | exact HB.out)⟩⟩
    · rw [if_neg c6] at H
      have c6b0 : decide ((l0.length : Int) < 4) = false := decide_eq_false c6
      have c6b1 : decide (l0.length < 4) = false := decide_eq_false (by omega)
      clear c6
      (first | rw [c6b0] | (simp only [i64_w, i32_w]; rw [c6b0]) | skip)
      by_cases c7 : (l0.length : Int) > 1500
      · rw [if_pos c7] at H
        have c7b0 : decide (1500 < (l0.length : Int)) = true := decide_eq_true c7
        have c7b1 : decide (1500 < l0.length) = true := decide_eq_true (by omega)
        clear c7
        have H' := Aside0.mk H
        clear H
        go_wp2
        go_meet
        case rel => exact ⟨_, (true), (by first | rfl | (simp; done) | (simp [*]; done)), H', ⟨by first | omega | exact Nat.le_refl _⟩, ⟨by repeat (first | (with_reducible first | exact HB.out | apply below_alloc | apply pw_below_drewN | apply below_drew1) | exact HB.out)⟩⟩
      · rw [if_neg c7] at H
        have c7b0 : decide (1500 < (l0.length : Int)) = false := decide_eq_false c7
        have c7b1 : decide (1500 < l0.length) = false := decide_eq_false (by omega)
        clear c7
        have H' := Aside0.mk H
        clear H
        go_wp2
        go_meet
        case rel => exact ⟨_, ((a3 == 0)), (by first | rfl | (simp; done) | (simp [*]; done)), H', ⟨by first | omega | exact Nat.le_refl _⟩, ⟨by repeat (first | (with_reducible first | exact HB.out | apply below_alloc | apply pw_below_drewN | apply below_drew1) | exact HB.out)⟩⟩
  case rest =>
    clear HC5
    try clear p2
    try clear c6
    try clear c6b0
    try clear c6b1
    try clear c7
    try clear c7b0
    try clear c7b1
    obtain ⟨kq, x23_4, rfl, HA, HJ4, HB⟩ := hcut
    cases kq with
    | zero => exact absurd HA.out (by simp [castellanlaw2_SumStands.j0])
    | succ kj4 =>
      have H := HA.out
      clear HA
      simp only [castellanlaw2_SumStands.j0] at H
      by_cases c8 : x23_4 = true
      · subst c8
        have H1 : (some true) = some r := by rw [if_pos rfl] at H; exact H
        clear H
        have H := H1
        clear H1
        obtain rfl := Option.some.inj H
        go_wp2
        go_ret
        exact ⟨by first | rfl | (simp [errW_none, errW_some] <;> rfl) | (simp [*, errW_none, errW_some] <;> rfl), by repeat (first | (with_reducible first | exact HB.out | apply below_alloc | apply pw_below_drewN | apply below_drew1) | exact HB.out)⟩
      · replace c8 := Bool.eq_false_iff.mpr c8
        subst c8
        have H1 : ((some (([] : List Int) : List Int)).bind fun y121 => (if y121.length + l0.length < 140737488355328 then ((some (y121 ++ l0 : List Int)).bind fun y124 => (if (wrap64 ((y124.length : Int) / 2)) = 0 then (none) else (if 0 ≤ (wrap64 (2 * (Int.tmod (Go.bits .and .i64 a1 65535) (wrap64 ((y124.length : Int) / 2))))) then (if (wrap64 (2 * (Int.tmod (Go.bits .and .i64 a1 65535) (wrap64 ((y124.length : Int) / 2))))) < (y124.length : Int) then (if 0 ≤ (wrap64 ((wrap64 (2 * (Int.tmod (Go.bits .and .i64 a1 65535) (wrap64 ((y124.length : Int) / 2))))) + 1)) then (if (wrap64 ((wrap64 (2 * (Int.tmod (Go.bits .and .i64 a1 65535) (wrap64 ((y124.length : Int) / 2))))) + 1)) < (y124.length : Int) then ((some ((y124.set ((wrap64 (2 * (Int.tmod (Go.bits .and .i64 a1 65535) (wrap64 ((y124.length : Int) / 2))))) : Int).toNat 0).set ((wrap64 ((wrap64 (2 * (Int.tmod (Go.bits .and .i64 a1 65535) (wrap64 ((y124.length : Int) / 2))))) + 1)) : Int).toNat 0 : List Int)).bind fun y128 => ((sum_Of.f kj4 (([y128] : List (List Int)))).bind fun t132 => (if t132 < 0 then (castellanlaw2_SumStands.j1 kj4 a2 a3 y128 (wrap64 (2 * (Int.tmod (Go.bits .and .i64 a1 65535) (wrap64 ((y124.length : Int) / 2))))) t132 true) else (castellanlaw2_SumStands.j1 kj4 a2 a3 y128 (wrap64 (2 * (Int.tmod (Go.bits .and .i64 a1 65535) (wrap64 ((y124.length : Int) / 2))))) t132 (decide (t132 > 65535)))))) else (none)) else (none)) else (none)) else (none)))) else (none))) = some r := by rw [if_neg (show ¬ (false = true) by decide)] at H; exact H
        clear H
        have H := H1
        clear H1
        obtain ⟨y121, hy121⟩ : ∃ y_ : List Int, y_ = (([] : List Int)) := ⟨_, rfl⟩
        replace H : (if y121.length + l0.length < 140737488355328 then ((some (y121 ++ l0 : List Int)).bind fun y124 => (if (wrap64 ((y124.length : Int) / 2)) = 0 then (none) else (if 0 ≤ (wrap64 (2 * (Int.tmod (Go.bits .and .i64 a1 65535) (wrap64 ((y124.length : Int) / 2))))) then (if (wrap64 (2 * (Int.tmod (Go.bits .and .i64 a1 65535) (wrap64 ((y124.length : Int) / 2))))) < (y124.length : Int) then (if 0 ≤ (wrap64 ((wrap64 (2 * (Int.tmod (Go.bits .and .i64 a1 65535) (wrap64 ((y124.length : Int) / 2))))) + 1)) then (if (wrap64 ((wrap64 (2 * (Int.tmod (Go.bits .and .i64 a1 65535) (wrap64 ((y124.length : Int) / 2))))) + 1)) < (y124.length : Int) then ((some ((y124.set ((wrap64 (2 * (Int.tmod (Go.bits .and .i64 a1 65535) (wrap64 ((y124.length : Int) / 2))))) : Int).toNat 0).set ((wrap64 ((wrap64 (2 * (Int.tmod (Go.bits .and .i64 a1 65535) (wrap64 ((y124.length : Int) / 2))))) + 1)) : Int).toNat 0 : List Int)).bind fun y128 => ((sum_Of.f kj4 (([y128] : List (List Int)))).bind fun t132 => (if t132 < 0 then (castellanlaw2_SumStands.j1 kj4 a2 a3 y128 (wrap64 (2 * (Int.tmod (Go.bits .and .i64 a1 65535) (wrap64 ((y124.length : Int) / 2))))) t132 true) else (castellanlaw2_SumStands.j1 kj4 a2 a3 y128 (wrap64 (2 * (Int.tmod (Go.bits .and .i64 a1 65535) (wrap64 ((y124.length : Int) / 2))))) t132 (decide (t132 > 65535)))))) else (none)) else (none)) else (none)) else (none)))) else (none)) = some r := by first | (rw [hy121]; with_reducible exact H) | (have H2_ := (Option.bind_some _ _).symm.trans H; rw [hy121]; with_reducible exact H2_) | (have H2_ := (Option.bind_some _ _).symm.trans H; with_reducible exact H2_) | with_reducible exact H | (rw [hy121]; exact H) | exact H
        have Ny121 := Aside0.mk hy121
        clear hy121
        by_cases c9 : y121.length + l0.length < 140737488355328
        · rw [if_pos c9] at H
          have LMc9 := Aside0.mk c9
          clear c9
          obtain ⟨y124, hy124⟩ : ∃ y_ : List Int, y_ = (y121 ++ l0) := ⟨_, rfl⟩
          replace H : (if (wrap64 ((y124.length : Int) / 2)) = 0 then (none) else (if 0 ≤ (wrap64 (2 * (Int.tmod (Go.bits .and .i64 a1 65535) (wrap64 ((y124.length : Int) / 2))))) then (if (wrap64 (2 * (Int.tmod (Go.bits .and .i64 a1 65535) (wrap64 ((y124.length : Int) / 2))))) < (y124.length : Int) then (if 0 ≤ (wrap64 ((wrap64 (2 * (Int.tmod (Go.bits .and .i64 a1 65535) (wrap64 ((y124.length : Int) / 2))))) + 1)) then (if (wrap64 ((wrap64 (2 * (Int.tmod (Go.bits .and .i64 a1 65535) (wrap64 ((y124.length : Int) / 2))))) + 1)) < (y124.length : Int) then ((some ((y124.set ((wrap64 (2 * (Int.tmod (Go.bits .and .i64 a1 65535) (wrap64 ((y124.length : Int) / 2))))) : Int).toNat 0).set ((wrap64 ((wrap64 (2 * (Int.tmod (Go.bits .and .i64 a1 65535) (wrap64 ((y124.length : Int) / 2))))) + 1)) : Int).toNat 0 : List Int)).bind fun y128 => ((sum_Of.f kj4 (([y128] : List (List Int)))).bind fun t132 => (if t132 < 0 then (castellanlaw2_SumStands.j1 kj4 a2 a3 y128 (wrap64 (2 * (Int.tmod (Go.bits .and .i64 a1 65535) (wrap64 ((y124.length : Int) / 2))))) t132 true) else (castellanlaw2_SumStands.j1 kj4 a2 a3 y128 (wrap64 (2 * (Int.tmod (Go.bits .and .i64 a1 65535) (wrap64 ((y124.length : Int) / 2))))) t132 (decide (t132 > 65535)))))) else (none)) else (none)) else (none)) else (none))) = some r := by first | (rw [hy124]; with_reducible exact H) | (have H2_ := (Option.bind_some _ _).symm.trans H; rw [hy124]; with_reducible exact H2_) | (have H2_ := (Option.bind_some _ _).symm.trans H; with_reducible exact H2_) | with_reducible exact H | (rw [hy124]; exact H) | exact H
          have Ny124 := Aside0.mk hy124
          clear hy124
          by_cases c10 : (wrap64 ((y124.length : Int) / 2)) = 0
          · rw [if_pos c10] at H
            exact absurd H (by simp)
          · rw [if_neg c10] at H
            have c10b0 : ((wrap64 ((y124.length : Int) / 2)) == 0) = false := beq_eq_false_iff_ne.mpr c10
            have c10b1 : ((wrap64 ((y124.length : Int) / 2)) != 0) = true := bne_iff_ne.mpr c10
            obtain ⟨ji11, hji11⟩ : ∃ j_ : Int, (wrap64 (2 * (Int.tmod (Go.bits .and .i64 a1 65535) (wrap64 ((y124.length : Int) / 2))))) = j_ := ⟨_, rfl⟩
            replace H : (if 0 ≤ (ji11) then (if (ji11) < (y124.length : Int) then (if 0 ≤ (wrap64 ((ji11) + 1)) then (if (wrap64 ((ji11) + 1)) < (y124.length : Int) then ((some ((y124.set ((ji11) : Int).toNat 0).set ((wrap64 ((ji11) + 1)) : Int).toNat 0 : List Int)).bind fun y128 => ((sum_Of.f kj4 (([y128] : List (List Int)))).bind fun t132 => (if t132 < 0 then (castellanlaw2_SumStands.j1 kj4 a2 a3 y128 ji11 t132 true) else (castellanlaw2_SumStands.j1 kj4 a2 a3 y128 ji11 t132 (decide (t132 > 65535)))))) else (none)) else (none)) else (none)) else (none)) = some r := by first | (rw [hji11] at H; exact H) | (simp only [hji11] at H ⊢; exact H)
            have hji11w : (IntKind.i64.wrap (2 * (Int.tmod (Go.bits .and .i64 a1 65535) (wrap64 ((y124.length : Int) / 2))))) = ji11 := (i64_w _).trans hji11
            by_cases c12 : 0 ≤ (ji11)
            · rw [if_pos c12] at H
              have c12b0 : decide (0 ≤ (ji11)) = true := decide_eq_true c12
              clear c12
              by_cases c13 : (ji11) < (y124.length : Int)
              · rw [if_pos c13] at H
                have c13b0 : decide ((ji11) < (y124.length : Int)) = true := decide_eq_true c13
                clear c13
                obtain ⟨y127, hy127⟩ : ∃ y_ : List Int, y_ = (y124.set ((ji11) : Int).toNat 0) := ⟨_, rfl⟩
                replace H : (if 0 ≤ (wrap64 ((ji11) + 1)) then (if (wrap64 ((ji11) + 1)) < (y124.length : Int) then ((some (y127.set ((wrap64 ((ji11) + 1)) : Int).toNat 0 : List Int)).bind fun y128 => ((sum_Of.f kj4 (([y128] : List (List Int)))).bind fun t132 => (if t132 < 0 then (castellanlaw2_SumStands.j1 kj4 a2 a3 y128 ji11 t132 true) else (castellanlaw2_SumStands.j1 kj4 a2 a3 y128 ji11 t132 (decide (t132 > 65535)))))) else (none)) else (none)) = some r := by first | (rw [hy127]; with_reducible exact H) | (have H2_ := (Option.bind_some _ _).symm.trans H; rw [hy127]; with_reducible exact H2_) | (have H2_ := (Option.bind_some _ _).symm.trans H; with_reducible exact H2_) | with_reducible exact H | (rw [hy127]; exact H) | exact H
                have Ny127 := Aside0.mk hy127
                clear hy127
                obtain ⟨ji15, hji15⟩ : ∃ j_ : Int, (wrap64 ((ji11) + 1)) = j_ := ⟨_, rfl⟩
                replace H : (if 0 ≤ (ji15) then (if (ji15) < (y124.length : Int) then ((some (y127.set ((ji15) : Int).toNat 0 : List Int)).bind fun y128 => ((sum_Of.f kj4 (([y128] : List (List Int)))).bind fun t132 => (if t132 < 0 then (castellanlaw2_SumStands.j1 kj4 a2 a3 y128 ji11 t132 true) else (castellanlaw2_SumStands.j1 kj4 a2 a3 y128 ji11 t132 (decide (t132 > 65535)))))) else (none)) else (none)) = some r := by first | (rw [hji15] at H; exact H) | (simp only [hji15] at H ⊢; exact H)
                have hji15w : (IntKind.i64.wrap ((ji11) + 1)) = ji15 := (i64_w _).trans hji15
                by_cases c16 : 0 ≤ (ji15)
                · rw [if_pos c16] at H
                  have c16b0 : decide (0 ≤ (ji15)) = true := decide_eq_true c16
                  clear c16
                  by_cases c17 : (ji15) < (y124.length : Int)
                  · rw [if_pos c17] at H
                    have c17b0 : decide ((ji15) < (y124.length : Int)) = true := decide_eq_true c17
                    clear c17
                    obtain ⟨y128, hy128⟩ : ∃ y_ : List Int, y_ = (y127.set ((ji15) : Int).toNat 0) := ⟨_, rfl⟩
                    replace H : ((sum_Of.f kj4 (([y128] : List (List Int)))).bind fun t132 => (if t132 < 0 then (castellanlaw2_SumStands.j1 kj4 a2 a3 y128 ji11 t132 true) else (castellanlaw2_SumStands.j1 kj4 a2 a3 y128 ji11 t132 (decide (t132 > 65535))))) = some r := by first | (rw [hy128]; with_reducible exact H) | (have H2_ := (Option.bind_some _ _).symm.trans H; rw [hy128]; with_reducible exact H2_) | (have H2_ := (Option.bind_some _ _).symm.trans H; with_reducible exact H2_) | with_reducible exact H | (rw [hy128]; exact H) | exact H
                    have Ny128 := Aside0.mk hy128
                    clear hy128
                    obtain ⟨y129, hy129⟩ : ∃ y_ : List (List Int), y_ = (([y128] : List (List Int))) := ⟨_, rfl⟩
                    replace H : ((sum_Of.f kj4 y129).bind fun t132 => (if t132 < 0 then (castellanlaw2_SumStands.j1 kj4 a2 a3 y128 ji11 t132 true) else (castellanlaw2_SumStands.j1 kj4 a2 a3 y128 ji11 t132 (decide (t132 > 65535))))) = some r := by first | (rw [hy129]; with_reducible exact H) | (have H2_ := (Option.bind_some _ _).symm.trans H; rw [hy129]; with_reducible exact H2_) | (have H2_ := (Option.bind_some _ _).symm.trans H; with_reducible exact H2_) | with_reducible exact H | (rw [hy129]; exact H) | exact H
                    have Ny129 := Aside0.mk hy129
                    clear hy129
                    replace H := Option.bind_eq_some_iff.mp H
                    obtain ⟨t132, A190, H⟩ := H
                    replace H : (if t132 < 0 then (castellanlaw2_SumStands.j1 kj4 a2 a3 y128 ji11 t132 true) else (castellanlaw2_SumStands.j1 kj4 a2 a3 y128 ji11 t132 (decide (t132 > 65535)))) = some r := H
                    have A19 := Aside0.mk A190
                    clear A190
                    have HC20 := Aside0.mk H
                    clear H
                    go_upto_region 7 with (first | ((with_reducible refine gate_dst (N := 24) rfl ?_); (try (refine gate_guard (by rfl) ?_; dsimp only)); refine Kd.R_lit (Kd.int .u8) _ 5 ?hg (N := 24) ?hd (xs := ([] : List Int)) (inner := []) (ok := fun _ => True) (okp := fun _ => True) ?hr ?hp (fun _ hk => hk) trivial (Below.refl _ _) (Nat.le_refl _) (by simp) ?_; (case hd => rfl); (case hg => rfl); (case hr => first | (go_simp; done) | (go_simp; rfl)); (case hp => exact (Reps.none _ _)); intro v122 w21 ho22 hb hg_ hnew_; clear hg_ hnew_; (first | rw [← Ny121.out] at ho22 | (simp only [Int.reduceToNat] at ho22; rw [← Ny121.out] at ho22)); have n0_ := Aside0.mk (Kd.R_lower ho22 (below_size (by repeat (first | (with_reducible first | exact HB.out | apply below_alloc | apply pw_below_drewN | apply below_drew1) | exact HB.out)))); have n1_ := Aside0.mk (below_step (by repeat (first | (with_reducible first | exact HB.out | apply below_alloc | apply pw_below_drewN | apply below_drew1) | exact HB.out)) hb); clear HB; have HO123 := n0_; have HB := n1_; clear n0_ n1_; clear hb ho22) | ((with_reducible refine gate_builtin (b := .append) (xs := #[.tmp 24, .tmp 25]) rfl ?_); (try (refine gate_guard (by rfl) ?_; dsimp only)); at_builtin; refine Kd.R_append_rows (Kd.int .u8) (w0 := w) w.heap.size rfl (.tmp 24) (.tmp 25) 22 5 (.int .u8 0) 1 rfl Try.underlying22 info5 rfl (by decide) (by omega) v122 y121 l0 _ _ _ (fun _ => True) (fun _ => False) rfl rfl ?aO ?aR (fun _ _ h => h) (fun _ h => h.elim) ?aF ?aB ?aS ?aL ?_; (case aR => repeat (first | exact (Kd.C_below HR0.out HB.out) | (with_reducible refine Kd.C_alloc ?_ _) | (with_reducible refine Kd.C_drewN ?_ _) | (with_reducible refine Kd.C_drew ?_))); (case aB => exact (by repeat (first | (with_reducible first | exact HB.out | apply below_alloc | apply pw_below_drewN | apply below_drew1) | exact HB.out))); (case aF => exact (fun _ _ => trivial)); (case aO => exact (by (with_reducible repeat (first | apply Kd.R_alloc | apply Kd.R_drewN | apply Kd.R_drew)); exact HO123.out)); (case aS => exact (below_size (by repeat (first | (with_reducible first | exact HB.out | apply below_alloc | apply pw_below_drewN | apply below_drew1) | exact HB.out)))); (case aL => have := LMc9.out; omega); intro v125 w23 ho hb hg hat; rw [← Ny124.out] at ho; have n0_ := Aside0.mk (hb); have n1_ := Aside0.mk (ho); clear HB; clear HO123; have HB := n0_; have HO126 := n1_; clear n0_ n1_; clear ho hb hg hat; obtain ⟨Ao24, co24, eo24⟩ := Kd.R_slice HO126.out; subst eo24; have p14 : 0 ≤ ((ji11) : Int) := of_decide_eq_true (by first | (with_reducible assumption) | assumption); have q14 : ((ji11) : Int) < ((y124.length : Int) : Int) := of_decide_eq_true (by first | (with_reducible assumption) | assumption); obtain ⟨go14, co14, eo14, gb14, gl14, cl14, HG14⟩ := Kd.R_form HO126.out (by omega); (first | cases eo14 | (injection eo14 with ea_ en_ ec_; (first | subst ea_ | (injection ea_ with ea_; subst ea_)); subst ec_; clear en_)); have GB14 := Aside0.mk gb14; have GG14 := Aside0.mk HG14; clear gb14 gl14 HG14; obtain ⟨hx14_0, hf14_0⟩ := Kd.R_celln 0 HO126.out ((ji11) : Int) p14 q14; replace p14 := eq_true p14; replace q14 := eq_true q14; obtain ⟨hy25_, hz25_⟩ := Kd.R_celln 0 HO126.out ((ji11) : Int) (of_decide_eq_true (by first | (with_reducible assumption) | assumption)) (of_decide_eq_true (by first | (with_reducible assumption) | assumption)); have HP25 := Kd.R_putg HO126.out ((ji11) : Int) 0) | ((with_reducible refine gate_store (t := 5) (p := 39) rfl ?_); refine store_event (t := 5) (p := 39) (v := ?vo_w26) (w1 := (w23.setCell ⟨go14, ((ji11) : Int).toNat, none⟩ (.int .u8 0))) ?hg ?ho ?hn ?hr ?_; (case ho => rfl); (case hg => rfl); (case hn => rfl); (case hr => first | (go_simp; done) | (go_simp; rfl)); intro w26 hw; have hg : w23.grownBy w26 (some go14) := (by rw [hw]; exact HP25.2); have hp_ : Kd.R (Kd.int .u8) 5 w26 w.heap.size (fun _ => True) (.slice (some ⟨go14, 0, none⟩) y124.length co24) y127 := (by rw [hw, Ny127.out]; exact HP25.1); clear HP25; have n0_ := Aside0.mk (hp_); have n1_ := Aside0.mk ((by rw [hw]; exact below_set (HB.out) GB14.out : Below w.heap.size w w26)); clear HO126; clear HB; have HO126 := n0_; have HB := n1_; clear n0_ n1_; clear hg hw hp_; have p18 : 0 ≤ ((ji15) : Int) := of_decide_eq_true (by first | (with_reducible assumption) | assumption); have q18 : ((ji15) : Int) < ((y124.length : Int) : Int) := of_decide_eq_true (by first | (with_reducible assumption) | assumption); obtain ⟨hx18_0, hf18_0⟩ := Kd.R_celln 0 HO126.out ((ji15) : Int) p18 q18; replace p18 := eq_true p18; replace q18 := eq_true q18; obtain ⟨hy27_, hz27_⟩ := Kd.R_celln 0 HO126.out ((ji15) : Int) (of_decide_eq_true (by first | (with_reducible assumption) | assumption)) (of_decide_eq_true (by first | (with_reducible assumption) | assumption)); have HP27 := Kd.R_putg HO126.out ((ji15) : Int) 0) | ((with_reducible refine gate_store (t := 5) (p := 40) rfl ?_); refine store_event (t := 5) (p := 40) (v := ?vo_w28) (w1 := (w26.setCell ⟨go14, ((ji15) : Int).toNat, none⟩ (.int .u8 0))) ?hg ?ho ?hn ?hr ?_; (case ho => rfl); (case hg => rfl); (case hn => rfl); (case hr => first | (go_simp; done) | (go_simp; rfl)); intro w28 hw; have hg : w26.grownBy w28 (some go14) := (by rw [hw]; exact HP27.2); have hp_ : Kd.R (Kd.int .u8) 5 w28 w.heap.size (fun _ => True) (.slice (some ⟨go14, 0, none⟩) y124.length co24) y128 := (by rw [hw, Ny128.out]; exact HP27.1); clear HP27; have n0_ := Aside0.mk (hp_); have n1_ := Aside0.mk ((by rw [hw]; exact below_set (HB.out) GB14.out : Below w.heap.size w w28)); clear HO126; clear HB; have HO126 := n0_; have HB := n1_; clear n0_ n1_; clear hg hw hp_) | ((with_reducible refine gate_dst (N := 42) rfl ?_); (try (refine gate_guard (by rfl) ?_; dsimp only)); refine Kd.N_lit (Kd.slice 5 (Kd.int .u8)) _ 22 ?hg (N' := 42) ?hd (xs := ([y128] : List (List Int))) (inner := [.slice (some ⟨go14, 0, none⟩) y124.length co24]) (ok := (fun _ => True)) (okp := (fun _ => True)) ?hr ?hp (fun _ hk => hk) ((show ∀ k_, w28.heap.size ≤ k_ → (fun _ => True) k_ from fun k_ hk => trivial) _ (Nat.le_refl _)) (Below.refl _ _) (Nat.le_refl _) (by simp) ?_; (case hd => rfl); (case hg => rfl); (case hr => first | (go_simp; done) | (go_simp; rfl)); (case hp => exact (Reps.one (show Kd.FK (Kd.slice 5 (Kd.int .u8)) _ _ y128 [.slice (some ⟨go14, 0, none⟩) y124.length co24] from (by first | exact Kd.FK_slice_mk (Kd.R_reads' (Kd.R_mono (ok' := (fun _ => True)) (HO126.out) (fun k_ hk => trivial))).2.1 (Kd.R_F (Kd.R_mono (ok' := (fun _ => True)) (HO126.out) (fun k_ hk => trivial))) | exact FK_slice_of (Kd.R_reads' (Kd.R_mono (ok' := (fun _ => True)) (HO126.out) (fun k_ hk => trivial))).1 (Kd.R_reads' (Kd.R_mono (ok' := (fun _ => True)) (HO126.out) (fun k_ hk => trivial))).2.1 (Kd.R_F (Kd.R_mono (ok' := (fun _ => True)) (HO126.out) (fun k_ hk => trivial))))) (Reps.none _ _))); intro v130 w29 ho30 hb hg_ hnew_; clear hg_ hnew_; (first | rw [← Ny129.out] at ho30 | (simp only [Int.reduceToNat] at ho30; rw [← Ny129.out] at ho30)); have n0_ := Aside0.mk (Kd.R_below (by (with_reducible repeat (first | apply Kd.R_alloc | apply Kd.R_drewN | apply Kd.R_drew)); exact HO126.out) hb); have n1_ := Aside0.mk (Kd.N_lower ho30 (below_size (by repeat (first | (with_reducible first | exact HB.out | apply below_alloc | apply pw_below_drewN | apply below_drew1) | exact HB.out)))); have n2_ := Aside0.mk (below_step (by repeat (first | (with_reducible first | exact HB.out | apply below_alloc | apply pw_below_drewN | apply below_drew1) | exact HB.out)) hb); clear HO126; clear HB; have HO126 := n0_; have HO131 := n1_; have HB := n2_; clear n0_ n1_ n2_; clear hb ho30; obtain ⟨Ao31, co31, eo31⟩ := Kd.N_slice HO131.out; subst eo31) | ((with_reducible refine gate_callee (f := 22) rfl ?_); refine goesL_ (some 43) rfl rfl Try.func22 (by kernel_rfl) rfl #[.slice Ao31 y129.length co31] rfl (by (try simp only [List.map_toArray, List.map_cons, List.map_nil]); first | done | rfl | (simp only [List.length_drop, List.length_take]; rfl)) ?_; (with_reducible refine (sum_Of.calls kj4 _ _ y129 t132 _ ?side1 ?side2 A19.out).mono ?_); (case side1 => repeat (first | exact (Kd.N_reads' HO131.out).2.2 | (with_reducible refine Kd.C_alloc ?_ _) | (with_reducible refine Kd.C_drewN ?_ _) | (with_reducible refine Kd.C_drew ?_))); (case side2 => exact (Kd.N_reads' HO131.out).2.1); rintro e w' ⟨rfl, ⟨nd, rfl⟩⟩; refine ⟨_, rfl, ?_⟩))
                    (try simp only [Act.put, List.setIfInBounds_toArray, List.set_cons_zero, List.set_cons_succ])
                    go_cut [49] (fun v49 wc => ∃ (kq : Nat) (x49_19 : Bool), v49 = .bool x49_19 ∧ Aside0 (castellanlaw2_SumStands.j1 kq a2 a3 y128 ji11 t132 x49_19 = some r) ∧ Aside0 (kq ≤ kj4) ∧ Aside0 (Kd.R (Kd.int .u8) 5 wc w.heap.size (fun _ => True) (.slice (some ⟨go14, 0, none⟩) y124.length co24) y128) ∧ Aside0 (Below w.heap.size w wc))
                    case first =>
                      have H := HC20.out
                      clear HC20
                      by_cases c32 : t132 < 0
                      · rw [if_pos c32] at H
                        have c32b0 : decide (t132 < 0) = true := decide_eq_true c32
                        clear c32
                        (first | rw [c32b0] | (simp only [i64_w, i32_w]; rw [c32b0]) | skip)
                        have H' := Aside0.mk H
                        clear H
                        go_wp2
                        go_meet
                        case rel => exact ⟨_, (true), (by first | rfl | (simp; done) | (simp [*]; done)), H', ⟨by have := HJ4.out; first | omega | exact Nat.le_refl _⟩, ⟨by (with_reducible repeat (first | apply Kd.R_alloc | apply Kd.R_drewN | apply Kd.R_drew)); exact HO126.out⟩, ⟨by repeat (first | (with_reducible first | exact HB.out | apply below_alloc | apply pw_below_drewN | apply below_drew1) | exact HB.out)⟩⟩
                      · rw [if_neg c32] at H
                        have c32b0 : decide (t132 < 0) = false := decide_eq_false c32
                        clear c32
                        (first | rw [c32b0] | (simp only [i64_w, i32_w]; rw [c32b0]) | skip)
                        have H' := Aside0.mk H
                        clear H
                        go_wp2
                        go_meet
                        case rel => exact ⟨_, (decide (t132 > 65535)), (by first | rfl | (simp; done) | (simp [*]; done)), H', ⟨by have := HJ4.out; first | omega | exact Nat.le_refl _⟩, ⟨by (with_reducible repeat (first | apply Kd.R_alloc | apply Kd.R_drewN | apply Kd.R_drew)); exact HO126.out⟩, ⟨by repeat (first | (with_reducible first | exact HB.out | apply below_alloc | apply pw_below_drewN | apply below_drew1) | exact HB.out)⟩⟩
                    case rest =>
                      clear HC20
                      try clear c1
                      try clear p1
                      try clear q1
                      try clear hx1
                      try clear c2
                      try clear p2
                      try clear c3
                      try clear c6
                      try clear c6b0
                      try clear c6b1
                      try clear p6
                      try clear c7
                      try clear c7b0
                      try clear c7b1
                      try clear c8
                      try clear c9
                      try clear c10
                      try clear c10b0
                      try clear c10b1
                      try clear c12
                      try clear c12b0
                      try clear c13
                      try clear c13b0
                      try clear p14
                      try clear q14
                      try clear hx14
                      try clear hf14
                      try clear c16
                      try clear c16b0
                      try clear c17
                      try clear c17b0
                      try clear p18
                      try clear q18
                      try clear hx18
                      try clear hf18
                      try clear c22
                      try clear c32
                      try clear c32b0
                      try clear hx14_0
                      try clear hx18_0
                      try clear p14
                      try clear p18
                      try clear p2
                      try clear q14
                      try clear q18
                      obtain ⟨kq, x49_19, rfl, HA, HJ19, HO_9, HB⟩ := hcut
                      have hl9_19 := (Kd.R_reads' HO_9.out).1
                      rw [hl9_19] at HO_9
                      (try simp only [hl9_19])
                      cases kq with
                      | zero => exact absurd HA.out (by simp [castellanlaw2_SumStands.j1])
                      | succ kj19 =>
                        have H := HA.out
                        clear HA
                        simp only [castellanlaw2_SumStands.j1] at H
                        by_cases c33 : x49_19 = true
                        · subst c33
                          have H1 : (some false) = some r := by rw [if_pos rfl] at H; exact H
                          clear H
                          have H := H1
                          clear H1
                          exact absurd (H.trans (congrArg some HRT.out)) (by simp)
                        · replace c33 := Bool.eq_false_iff.mpr c33
                          subst c33
                          have H1 : (if 0 ≤ ji11 then (if ji11 < (y128.length : Int) then (if 0 ≤ (wrap64 (ji11 + 1)) then (if (wrap64 (ji11 + 1)) < (y128.length : Int) then ((some ((y128.set (ji11 : Int).toNat ((t132 / 256) % 256)).set ((wrap64 (ji11 + 1)) : Int).toNat ((t132) % 256) : List Int)).bind fun y134 => ((sum_Right.f kj19 y134).bind fun t135 => (if t135 = true then (if (y128.length : Int) = 0 then (none) else (if 0 ≤ (Int.tmod (Go.bits .and .i64 a2 65535) (y128.length : Int)) then (if (Int.tmod (Go.bits .and .i64 a2 65535) (y128.length : Int)) < (y128.length : Int) then ((some (y134.set ((Int.tmod (Go.bits .and .i64 a2 65535) (y128.length : Int)) : Int).toNat (Go.bits .xor .u8 (rd y134 (Int.tmod (Go.bits .and .i64 a2 65535) (y128.length : Int))) a3) : List Int)).bind fun y137 => ((sum_Right.f kj19 y137).bind fun t138 => ((castellanref2_Right.f kj19 y137).bind fun t139 => (if (t138 == t139) = true then ((castellanlaw2_known.f kj19).bind fun t140 => (some t140)) else (some false))))) else (none)) else (none))) else (some false)))) else (none)) else (none)) else (none)) else (none)) = some r := by rw [if_neg (show ¬ (false = true) by decide)] at H; exact H
                          clear H
                          have H := H1
                          clear H1
                          by_cases c34 : 0 ≤ ji11
                          · rw [if_pos c34] at H
                            have c34b0 : decide (0 ≤ ji11) = true := decide_eq_true c34
                            clear c34
                            by_cases c35 : ji11 < (y128.length : Int)
                            · rw [if_pos c35] at H
                              have c35b0 : decide (ji11 < (y128.length : Int)) = true := decide_eq_true c35
                              clear c35
                              obtain ⟨y133, hy133⟩ : ∃ y_ : List Int, y_ = (y128.set (ji11 : Int).toNat ((t132 / 256) % 256)) := ⟨_, rfl⟩
                              replace H : (if 0 ≤ (wrap64 (ji11 + 1)) then (if (wrap64 (ji11 + 1)) < (y128.length : Int) then ((some (y133.set ((wrap64 (ji11 + 1)) : Int).toNat ((t132) % 256) : List Int)).bind fun y134 => ((sum_Right.f kj19 y134).bind fun t135 => (if t135 = true then (if (y128.length : Int) = 0 then (none) else (if 0 ≤ (Int.tmod (Go.bits .and .i64 a2 65535) (y128.length : Int)) then (if (Int.tmod (Go.bits .and .i64 a2 65535) (y128.length : Int)) < (y128.length : Int) then ((some (y134.set ((Int.tmod (Go.bits .and .i64 a2 65535) (y128.length : Int)) : Int).toNat (Go.bits .xor .u8 (rd y134 (Int.tmod (Go.bits .and .i64 a2 65535) (y128.length : Int))) a3) : List Int)).bind fun y137 => ((sum_Right.f kj19 y137).bind fun t138 => ((castellanref2_Right.f kj19 y137).bind fun t139 => (if (t138 == t139) = true then ((castellanlaw2_known.f kj19).bind fun t140 => (some t140)) else (some false))))) else (none)) else (none))) else (some false)))) else (none)) else (none)) = some r := by first | (rw [hy133]; with_reducible exact H) | (have H2_ := (Option.bind_some _ _).symm.trans H; rw [hy133]; with_reducible exact H2_) | (have H2_ := (Option.bind_some _ _).symm.trans H; with_reducible exact H2_) | with_reducible exact H | (rw [hy133]; exact H) | exact H
                              have Ny133 := Aside0.mk hy133
                              clear hy133
                              (try clear hji15w)
                              (try clear hji15)
                              obtain ⟨ji37, hji37⟩ : ∃ j_ : Int, (wrap64 (ji11 + 1)) = j_ := ⟨_, rfl⟩
                              replace H : (if 0 ≤ (ji37) then (if (ji37) < (y128.length : Int) then ((some (y133.set ((ji37) : Int).toNat ((t132) % 256) : List Int)).bind fun y134 => ((sum_Right.f kj19 y134).bind fun t135 => (if t135 = true then (if (y128.length : Int) = 0 then (none) else (if 0 ≤ (Int.tmod (Go.bits .and .i64 a2 65535) (y128.length : Int)) then (if (Int.tmod (Go.bits .and .i64 a2 65535) (y128.length : Int)) < (y128.length : Int) then ((some (y134.set ((Int.tmod (Go.bits .and .i64 a2 65535) (y128.length : Int)) : Int).toNat (Go.bits .xor .u8 (rd y134 (Int.tmod (Go.bits .and .i64 a2 65535) (y128.length : Int))) a3) : List Int)).bind fun y137 => ((sum_Right.f kj19 y137).bind fun t138 => ((castellanref2_Right.f kj19 y137).bind fun t139 => (if (t138 == t139) = true then ((castellanlaw2_known.f kj19).bind fun t140 => (some t140)) else (some false))))) else (none)) else (none))) else (some false)))) else (none)) else (none)) = some r := by first | (rw [hji37] at H; exact H) | (simp only [hji37] at H ⊢; exact H)
                              have hji37w : (IntKind.i64.wrap (ji11 + 1)) = ji37 := (i64_w _).trans hji37
                              (try simp only [hl9_19] at hji37)
                              (try simp only [hl9_19] at hji37w)
                              by_cases c38 : 0 ≤ (ji37)
                              · rw [if_pos c38] at H
                                have c38b0 : decide (0 ≤ (ji37)) = true := decide_eq_true c38
                                clear c38
                                by_cases c39 : (ji37) < (y128.length : Int)
                                · rw [if_pos c39] at H
                                  have c39b0 : decide ((ji37) < (y128.length : Int)) = true := decide_eq_true c39
                                  clear c39
                                  obtain ⟨y134, hy134⟩ : ∃ y_ : List Int, y_ = (y133.set ((ji37) : Int).toNat ((t132) % 256)) := ⟨_, rfl⟩
                                  replace H : ((sum_Right.f kj19 y134).bind fun t135 => (if t135 = true then (if (y128.length : Int) = 0 then (none) else (if 0 ≤ (Int.tmod (Go.bits .and .i64 a2 65535) (y128.length : Int)) then (if (Int.tmod (Go.bits .and .i64 a2 65535) (y128.length : Int)) < (y128.length : Int) then ((some (y134.set ((Int.tmod (Go.bits .and .i64 a2 65535) (y128.length : Int)) : Int).toNat (Go.bits .xor .u8 (rd y134 (Int.tmod (Go.bits .and .i64 a2 65535) (y128.length : Int))) a3) : List Int)).bind fun y137 => ((sum_Right.f kj19 y137).bind fun t138 => ((castellanref2_Right.f kj19 y137).bind fun t139 => (if (t138 == t139) = true then ((castellanlaw2_known.f kj19).bind fun t140 => (some t140)) else (some false))))) else (none)) else (none))) else (some false))) = some r := by first | (rw [hy134]; with_reducible exact H) | (have H2_ := (Option.bind_some _ _).symm.trans H; rw [hy134]; with_reducible exact H2_) | (have H2_ := (Option.bind_some _ _).symm.trans H; with_reducible exact H2_) | with_reducible exact H | (rw [hy134]; exact H) | exact H
                                  have Ny134 := Aside0.mk hy134
                                  clear hy134
                                  replace H := Option.bind_eq_some_iff.mp H
                                  obtain ⟨t135, A410, H⟩ := H
                                  replace H : (if t135 = true then (if (y128.length : Int) = 0 then (none) else (if 0 ≤ (Int.tmod (Go.bits .and .i64 a2 65535) (y128.length : Int)) then (if (Int.tmod (Go.bits .and .i64 a2 65535) (y128.length : Int)) < (y128.length : Int) then ((some (y134.set ((Int.tmod (Go.bits .and .i64 a2 65535) (y128.length : Int)) : Int).toNat (Go.bits .xor .u8 (rd y134 (Int.tmod (Go.bits .and .i64 a2 65535) (y128.length : Int))) a3) : List Int)).bind fun y137 => ((sum_Right.f kj19 y137).bind fun t138 => ((castellanref2_Right.f kj19 y137).bind fun t139 => (if (t138 == t139) = true then ((castellanlaw2_known.f kj19).bind fun t140 => (some t140)) else (some false))))) else (none)) else (none))) else (some false)) = some r := H
                                  have A41 := Aside0.mk A410
                                  clear A410
                                  by_cases c42 : t135 = true
                                  · subst c42
                                    have H1 : (if (y128.length : Int) = 0 then (none) else (if 0 ≤ (Int.tmod (Go.bits .and .i64 a2 65535) (y128.length : Int)) then (if (Int.tmod (Go.bits .and .i64 a2 65535) (y128.length : Int)) < (y128.length : Int) then ((some (y134.set ((Int.tmod (Go.bits .and .i64 a2 65535) (y128.length : Int)) : Int).toNat (Go.bits .xor .u8 (rd y134 (Int.tmod (Go.bits .and .i64 a2 65535) (y128.length : Int))) a3) : List Int)).bind fun y137 => ((sum_Right.f kj19 y137).bind fun t138 => ((castellanref2_Right.f kj19 y137).bind fun t139 => (if (t138 == t139) = true then ((castellanlaw2_known.f kj19).bind fun t140 => (some t140)) else (some false))))) else (none)) else (none))) = some r := by rw [if_pos rfl] at H; exact H
                                    clear H
                                    have H := H1
                                    clear H1
                                    by_cases c43 : (y128.length : Int) = 0
                                    · rw [if_pos c43] at H
                                      exact absurd H (by simp)
                                    · rw [if_neg c43] at H
                                      have c43b0 : ((y128.length : Int) == 0) = false := beq_eq_false_iff_ne.mpr c43
                                      have c43b1 : ((y128.length : Int) != 0) = true := bne_iff_ne.mpr c43
                                      have c43b2 : ¬ (y128 = []) := fun h_ => c43 (by rw [h_]; rfl)
                                      obtain ⟨ji44, hji44⟩ : ∃ j_ : Int, (Int.tmod (Go.bits .and .i64 a2 65535) (y128.length : Int)) = j_ := ⟨_, rfl⟩
                                      replace H : (if 0 ≤ (ji44) then (if (ji44) < (y128.length : Int) then ((some (y134.set ((ji44) : Int).toNat (Go.bits .xor .u8 (rd y134 (ji44)) a3) : List Int)).bind fun y137 => ((sum_Right.f kj19 y137).bind fun t138 => ((castellanref2_Right.f kj19 y137).bind fun t139 => (if (t138 == t139) = true then ((castellanlaw2_known.f kj19).bind fun t140 => (some t140)) else (some false))))) else (none)) else (none)) = some r := by first | (rw [hji44] at H; exact H) | (simp only [hji44] at H ⊢; exact H)
                                      (try rw [hji44] at A41)
                                      (try simp only [hl9_19] at hji44)
                                      (try simp only [hl9_19] at hji44w)
                                      by_cases c45 : 0 ≤ (ji44)
                                      · rw [if_pos c45] at H
                                        have c45b0 : decide (0 ≤ (ji44)) = true := decide_eq_true c45
                                        clear c45
                                        by_cases c46 : (ji44) < (y128.length : Int)
                                        · rw [if_pos c46] at H
                                          have c46b0 : decide ((ji44) < (y128.length : Int)) = true := decide_eq_true c46
                                          clear c46
                                          obtain ⟨y137, hy137⟩ : ∃ y_ : List Int, y_ = (y134.set ((ji44) : Int).toNat (Go.bits .xor .u8 (rd y134 (ji44)) a3)) := ⟨_, rfl⟩
                                          replace H : ((sum_Right.f kj19 y137).bind fun t138 => ((castellanref2_Right.f kj19 y137).bind fun t139 => (if (t138 == t139) = true then ((castellanlaw2_known.f kj19).bind fun t140 => (some t140)) else (some false)))) = some r := by first | (rw [hy137]; with_reducible exact H) | (have H2_ := (Option.bind_some _ _).symm.trans H; rw [hy137]; with_reducible exact H2_) | (have H2_ := (Option.bind_some _ _).symm.trans H; with_reducible exact H2_) | with_reducible exact H | (rw [hy137]; exact H) | exact H
                                          have Ny137 := Aside0.mk hy137
                                          clear hy137
                                          replace H := Option.bind_eq_some_iff.mp H
                                          obtain ⟨t138, A480, H⟩ := H
                                          replace H : ((castellanref2_Right.f kj19 y137).bind fun t139 => (if (t138 == t139) = true then ((castellanlaw2_known.f kj19).bind fun t140 => (some t140)) else (some false))) = some r := H
                                          have A48 := Aside0.mk A480
                                          clear A480
                                          replace H := Option.bind_eq_some_iff.mp H
                                          obtain ⟨t139, A490, H⟩ := H
                                          replace H : (if (t138 == t139) = true then ((castellanlaw2_known.f kj19).bind fun t140 => (some t140)) else (some false)) = some r := H
                                          have A49 := Aside0.mk A490
                                          clear A490
                                          by_cases c50 : (t138 == t139) = true
                                          · rw [if_pos c50] at H
                                            have c50b0 : (t138 == t139) = true := c50
                                            (try (have c50b1 : decide (t138 = t139) = true := by simpa using c50))
                                            (try (have c50b2 : (t138 == t139) = true := by simpa using c50))
                                            clear c50
                                            replace H := Option.bind_eq_some_iff.mp H
                                            obtain ⟨t140, A510, H⟩ := H
                                            replace H : (some t140) = some r := H
                                            have A51 := Aside0.mk A510
                                            clear A510
                                            obtain rfl := Option.some.inj H
                                            have p36 : 0 ≤ (ji11 : Int) := of_decide_eq_true (by first | (with_reducible assumption) | assumption)
                                            have q36 : (ji11 : Int) < ((y128.length : Int) : Int) := of_decide_eq_true (by first | (with_reducible assumption) | assumption)
                                            obtain ⟨hx36_0, hf36_0⟩ := Kd.R_celln 0 HO_9.out (ji11 : Int) p36 q36
                                            replace p36 := eq_true p36
                                            replace q36 := eq_true q36
                                            have HP52 := Kd.R_putg HO_9.out (ji11 : Int) ((t132 / 256) % 256)
                                            go_wp2_with (first | ((with_reducible refine gate_store (t := 5) (p := 60) rfl ?_); refine store_event (t := 5) (p := 60) (v := ?vo_w53) (w1 := (wc.setCell ⟨go14, (ji11 : Int).toNat, none⟩ (.int .u8 ((t132 / 256) % 256)))) ?hg ?ho ?hn ?hr ?_; (case ho => rfl); (case hg => rfl); (case hn => rfl); (case hr => first | (go_simp; done) | (go_simp; rfl)); intro w53 hw; have hg : wc.grownBy w53 (some go14) := (by rw [hw]; exact HP52.2); have hp_ : Kd.R (Kd.int .u8) 5 w53 w.heap.size (fun _ => True) (.slice (some ⟨go14, 0, none⟩) y128.length co24) y133 := (by rw [hw, Ny133.out]; exact HP52.1); clear HP52; have n0_ := Aside0.mk (hp_); have n1_ := Aside0.mk ((by rw [hw]; exact below_set (HB.out) GB14.out : Below w.heap.size w w53)); clear HO_9; clear HB; have HO_9 := n0_; have HB := n1_; clear n0_ n1_; clear hg hw hp_; have p40 : 0 ≤ ((ji37) : Int) := of_decide_eq_true (by first | (with_reducible assumption) | assumption); have q40 : ((ji37) : Int) < ((y128.length : Int) : Int) := of_decide_eq_true (by first | (with_reducible assumption) | assumption); obtain ⟨hx40_0, hf40_0⟩ := Kd.R_celln 0 HO_9.out ((ji37) : Int) p40 q40; replace p40 := eq_true p40; replace q40 := eq_true q40; obtain ⟨hy54_, hz54_⟩ := Kd.R_celln 0 HO_9.out ((ji37) : Int) (of_decide_eq_true (by first | (with_reducible assumption) | assumption)) (of_decide_eq_true (by first | (with_reducible assumption) | assumption)); have HP54 := Kd.R_putg HO_9.out ((ji37) : Int) ((t132) % 256)) | ((with_reducible refine gate_store (t := 5) (p := 61) rfl ?_); refine store_event (t := 5) (p := 61) (v := ?vo_w55) (w1 := (w53.setCell ⟨go14, ((ji37) : Int).toNat, none⟩ (.int .u8 ((t132) % 256)))) ?hg ?ho ?hn ?hr ?_; (case ho => rfl); (case hg => rfl); (case hn => rfl); (case hr => first | (go_simp; done) | (go_simp; rfl)); intro w55 hw; have hg : w53.grownBy w55 (some go14) := (by rw [hw]; exact HP54.2); have hp_ : Kd.R (Kd.int .u8) 5 w55 w.heap.size (fun _ => True) (.slice (some ⟨go14, 0, none⟩) y128.length co24) y134 := (by rw [hw, Ny134.out]; exact HP54.1); clear HP54; have n0_ := Aside0.mk (hp_); have n1_ := Aside0.mk ((by rw [hw]; exact below_set (HB.out) GB14.out : Below w.heap.size w w55)); clear HO_9; clear HB; have HO_9 := n0_; have HB := n1_; clear n0_ n1_; clear hg hw hp_) | ((with_reducible refine gate_callee (f := 24) rfl ?_); refine goesL_ (some 63) rfl rfl Try.func24 (by kernel_rfl) rfl #[.slice (some ⟨go14, 0, none⟩) y134.length co24] rfl (by (try simp only [List.map_toArray, List.map_cons, List.map_nil]); first | done | (rw [show y134.length = y128.length from (Kd.R_reads' HO_9.out).1.symm] <;> rfl) | rfl | (simp only [List.length_drop, List.length_take]; rfl)) ?_; (with_reducible refine (sum_Right.calls kj19 (fun k_ => some k_ = (.slice (some ⟨go14, 0, none⟩) y128.length co24 : Value).ownBlock) _ _ y134 true _ ?side1 A41.out).mono ?_); (case side1 => rw [show y134.length = y128.length from (Kd.R_reads' HO_9.out).1.symm]; exact Kd.R_V (Kd.R_tight rfl (HO_9.out))); rintro e w56 ⟨rfl, hb⟩; refine ⟨_, rfl, ?_⟩; have n0_ := Aside0.mk (Kd.R_below (by (with_reducible repeat (first | apply Kd.R_alloc | apply Kd.R_drewN | apply Kd.R_drew)); exact HO_9.out) hb); have n1_ := Aside0.mk (below_step (by repeat (first | (with_reducible first | exact HB.out | apply below_alloc | apply pw_below_drewN | apply below_drew1) | exact HB.out)) hb); clear HO_9; clear HB; have HO_9 := n0_; have HB := n1_; clear n0_ n1_; (try clear hb); (try clear hb2); (try clear hk); (try clear hi); have p136 : 0 ≤ ((ji44) : Int) := of_decide_eq_true (by first | (with_reducible assumption) | assumption); have q136 : (ji44) < (y134.length : Int) := (by have h_ : ((ji44) : Int) < ((y128.length : Int) : Int) := of_decide_eq_true (by first | (with_reducible assumption) | assumption); first | (have e_ := (Kd.R_reads' HO_9.out).1; omega) | simpa only [Ny133.out, Ny134.out, List.length_set] using h_); have ql136 : (((ji44) : Int) < ((y128.length : Int) : Int)) = True := eq_true (of_decide_eq_true (by first | (with_reducible assumption) | assumption)); obtain ⟨ad136, e136, hx136_0⟩ := Kd.at_int (Kd.R_reads' HO_9.out).2.2 (ji44) p136 q136; obtain rfl : (⟨go14, 0, none⟩ : Addr) = ad136 := (by injection e136); (first | simp only [add_plain] at hx136_0 | simp only [add_at] at hx136_0 | simp only [Addr.add, Nat.zero_add] at hx136_0 | skip); replace p136 := eq_true p136; replace q136 := eq_true q136; have p47 : 0 ≤ ((ji44) : Int) := of_decide_eq_true (by first | (with_reducible assumption) | assumption); have q47 : ((ji44) : Int) < ((y128.length : Int) : Int) := of_decide_eq_true (by first | (with_reducible assumption) | assumption); obtain ⟨hx47_0, hf47_0⟩ := Kd.R_celln 0 HO_9.out ((ji44) : Int) p47 q47; replace p47 := eq_true p47; replace q47 := eq_true q47; obtain ⟨hy57_, hz57_⟩ := Kd.R_celln 0 HO_9.out ((ji44) : Int) (of_decide_eq_true (by first | (with_reducible assumption) | assumption)) (of_decide_eq_true (by first | (with_reducible assumption) | assumption)); have HP57 := Kd.R_putg HO_9.out ((ji44) : Int) (Go.bits .xor .u8 (rd y134 (ji44)) a3)) | ((with_reducible refine gate_store (t := 5) (p := 75) rfl ?_); refine store_event (t := 5) (p := 75) (v := ?vo_w58) (w1 := (w56.setCell ⟨go14, ((ji44) : Int).toNat, none⟩ (.int .u8 (Go.bits .xor .u8 (rd y134 (ji44)) a3)))) ?hg ?ho ?hn ?hr ?_; (case ho => rfl); (case hg => rfl); (case hn => rfl); (case hr => first | (go_simp; done) | (go_simp; rfl)); intro w58 hw; have hg : w56.grownBy w58 (some go14) := (by rw [hw]; exact HP57.2); have hp_ : Kd.R (Kd.int .u8) 5 w58 w.heap.size (fun _ => True) (.slice (some ⟨go14, 0, none⟩) y128.length co24) y137 := (by rw [hw, Ny137.out]; exact HP57.1); clear HP57; have n0_ := Aside0.mk (hp_); have n1_ := Aside0.mk ((by rw [hw]; exact below_set (HB.out) GB14.out : Below w.heap.size w w58)); clear HO_9; clear HB; have HO_9 := n0_; have HB := n1_; clear n0_ n1_; clear hg hw hp_) | ((with_reducible refine gate_callee (f := 24) rfl ?_); refine goesL_ (some 77) rfl rfl Try.func24 (by kernel_rfl) rfl #[.slice (some ⟨go14, 0, none⟩) y137.length co24] rfl (by (try simp only [List.map_toArray, List.map_cons, List.map_nil]); first | done | (rw [show y137.length = y128.length from (Kd.R_reads' HO_9.out).1.symm] <;> rfl) | rfl | (simp only [List.length_drop, List.length_take]; rfl)) ?_; (with_reducible refine (sum_Right.calls kj19 (fun k_ => some k_ = (.slice (some ⟨go14, 0, none⟩) y128.length co24 : Value).ownBlock) _ _ y137 t138 _ ?side1 A48.out).mono ?_); (case side1 => rw [show y137.length = y128.length from (Kd.R_reads' HO_9.out).1.symm]; exact Kd.R_V (Kd.R_tight rfl (HO_9.out))); rintro e w59 ⟨rfl, hb⟩; refine ⟨_, rfl, ?_⟩; have n0_ := Aside0.mk (Kd.R_below (by (with_reducible repeat (first | apply Kd.R_alloc | apply Kd.R_drewN | apply Kd.R_drew)); exact HO_9.out) hb); have n1_ := Aside0.mk (below_step (by repeat (first | (with_reducible first | exact HB.out | apply below_alloc | apply pw_below_drewN | apply below_drew1) | exact HB.out)) hb); clear HO_9; clear HB; have HO_9 := n0_; have HB := n1_; clear n0_ n1_; (try clear hb); (try clear hb2); (try clear hk); (try clear hi)) | ((with_reducible refine gate_callee (f := 25) rfl ?_); refine goesL_ (some 79) rfl rfl Try.func25 (by kernel_rfl) rfl #[.slice (some ⟨go14, 0, none⟩) y137.length co24] rfl (by (try simp only [List.map_toArray, List.map_cons, List.map_nil]); first | done | (rw [show y137.length = y128.length from (Kd.R_reads' HO_9.out).1.symm] <;> rfl) | rfl | (simp only [List.length_drop, List.length_take]; rfl)) ?_; (with_reducible refine (castellanref2_Right.calls kj19 _ _ y137 t139 _ ?side1 ?side2 A49.out).mono ?_); (case side1 => repeat (first | exact (Kd.R_reads' HO_9.out).2.2 | (with_reducible refine Kd.C_alloc ?_ _) | (with_reducible refine Kd.C_drewN ?_ _) | (with_reducible refine Kd.C_drew ?_))); (case side2 => rw [show y137.length = y128.length from (Kd.R_reads' HO_9.out).1.symm]; exact (Kd.R_reads' HO_9.out).2.1); rintro e w' ⟨rfl, ⟨nd, rfl⟩⟩; refine ⟨_, rfl, ?_⟩) | (go_at_call 23; (with_reducible refine (castellanlaw2_known.calls kj19  t140 _ A51.out).mono ?_); rintro e w60 ⟨rfl, hb⟩; have n0_ := Aside0.mk (Kd.R_below (by (with_reducible repeat (first | apply Kd.R_alloc | apply Kd.R_drewN | apply Kd.R_drew)); exact HO_9.out) hb); have n1_ := Aside0.mk (below_step (by repeat (first | (with_reducible first | exact HB.out | apply below_alloc | apply pw_below_drewN | apply below_drew1) | exact HB.out)) hb); clear HO_9; clear HB; have HO_9 := n0_; have HB := n1_; clear n0_ n1_; (try clear hb); (try clear hb2); (try clear hk); (try clear hi)))
                                            go_ret
                                            exact ⟨by first | rfl | (simp [errW_none, errW_some] <;> rfl) | (simp only [← hji11, ← hji15, ← hji37, ← hji44]; first | rfl | (simp [errW_none, errW_some] <;> rfl)) | (simp [*, errW_none, errW_some] <;> rfl), by repeat (first | (with_reducible first | exact HB.out | apply below_alloc | apply pw_below_drewN | apply below_drew1) | exact HB.out)⟩
                                          · rw [if_neg c50] at H
                                            have c50b0 : (t138 == t139) = false := by simpa using c50
                                            (try (have c50b1 : decide (t138 = t139) = false := by simpa using c50))
                                            (try (have c50b2 : (t138 == t139) = false := by simpa using c50))
                                            (try (have c50b3 : ¬ (t138 = t139) := by simpa using c50))
                                            clear c50
                                            exact absurd (H.trans (congrArg some HRT.out)) (by simp)
                                        · rw [if_neg c46] at H
                                          exact absurd H (by simp)
                                      · rw [if_neg c45] at H
                                        exact absurd H (by simp)
                                  · replace c42 := Bool.eq_false_iff.mpr c42
                                    subst c42
                                    have H1 : (some false) = some r := by rw [if_neg (show ¬ (false = true) by decide)] at H; exact H
                                    clear H
                                    have H := H1
                                    clear H1
                                    exact absurd (H.trans (congrArg some HRT.out)) (by simp)
                                · rw [if_neg c39] at H
                                  exact absurd H (by simp)
                              · rw [if_neg c38] at H
                                exact absurd H (by simp)
                            · rw [if_neg c35] at H
                              exact absurd H (by simp)
                          · rw [if_neg c34] at H
                            exact absurd H (by simp)
                  · rw [if_neg c17] at H
                    exact absurd H (by simp)
                · rw [if_neg c16] at H
                  exact absurd H (by simp)
              · rw [if_neg c13] at H
                exact absurd H (by simp)
            · rw [if_neg c12] at H
              exact absurd H (by simp)
        · rw [if_neg c9] at H
          exact absurd H (by simp)

/-- THE ONE PURE STATEMENT of castellanlaw2_SumStands: yours. -/
def castellanlaw2_SumStands.Pure : Prop := ∀ (l0 : List Int) (a1 : Int) (a2 : Int) (a3 : Int), l0.length ≤ maxLen → l0.length * 1 ≤ 140737488351232 → (∀ x ∈ l0, (Lit.int .u8 x).wf = true) → (Lit.int .i64 a1).wf = true → (Lit.int .i64 a2).wf = true → (Lit.int .u8 a3).wf = true → ∃ k, castellanlaw2_SumStands.f k l0 a1 a2 a3 = some true
theorem castellanlaw2_SumStands.walk (P : castellanlaw2_SumStands.Pure) (a0 : Option Addr) (len0 cap0 : Nat) (z0 : List Int) (a1 : Int) (a2 : Int) (a3 : Int) (w : World) (w0 : (a0 = none ∧ len0 = 0 ∧ cap0 = 0 ∧ z0 = []) ∨ ∃ x, a0 = some x ∧ len0 ≤ cap0 ∧ cap0 ≤ maxLen ∧ z0.length = cap0 ∧ (∀ i, i < z0.length → w.cell? (x.add i) = some (.int .u8 (z0.getD i 0))) ∧ ∀ n ∈ z0, (Lit.int .u8 n).wf = true) (y0 : len0 * 1 ≤ 140737488351232) (w1 : (Lit.int .i64 a1).wf = true) (w2 : (Lit.int .i64 a2).wf = true) (w3 : (Lit.int .u8 a3).wf = true) :
    Calls Try.prog 8 #[.slice a0 len0 cap0, .int .i64 a1, .int .i64 a2, .int .u8 a3] w fun e w' => e = .returned (.bool true) ∧ Below w.heap.size w w' := by
  obtain ⟨l0, rfl, hr0, hm0, hw0, hc0⟩ := ReadsInt.ofRowC w0
  obtain ⟨k, h⟩ := P l0 a1 a2 a3 hm0 y0 hw0 w1 w2 w3
  refine (castellanlaw2_SumStands.calls k _ _ l0 a1 a2 a3 true w (Kd.C_of_reads (d := (0 : Int)) (h1 := fun _ => rfl) hr0) hc0 rfl h).mono ?_
  rintro e w' ⟨rfl, hd⟩
  exact ⟨rfl, hd⟩

end Go.Proofs.Ytakdkbdojdjpkaa.QSumStands
