-- written by myprint.py, a program of this session's over the kit's printer
import Derived.Test.YtakdkbdojdjpkaaQSumUpdatesx0
import Derived.Test.YtakdkbdojdjpkaaQSumUpdatesx1
namespace Go.Proofs.Ytakdkbdojdjpkaa.QSumUpdates
open Go.RowKit Go.Proofs.YtakdkbdojdjpkaaW.PrintWords Go.Proofs.YtakdkbdojdjpkaaW.PrintLast Go.Proofs.YtakdkbdojdjpkaaW.PrintMore
attribute [local go_sem] max2_int min2_int max_two min_two max_three min_three max_four min_four   -- for this text's walks alone
set_option linter.unusedVariables false
set_option linter.unusedSimpArgs false

/-! ### castellanlaw2_SumUpdates: function 10 -/
mutual
def castellanlaw2_SumUpdates.j0 : Nat → List Int → Int → Int → Bool → Option (Bool)
  | 0, _, _, _, _ => none
  | k + 1, x0, x1, x2, x20 => if x20 = true then (some true) else ((some (([] : List Int) : List Int)).bind fun y124 => (if 0 ≤ (wrap64 ((wrap64 ((x0.length : Int) / 2)) * 2)) then (if (wrap64 ((wrap64 ((x0.length : Int) / 2)) * 2)) ≤ (x0.length : Int) then (if y124.length + (x0.take ((wrap64 ((wrap64 ((x0.length : Int) / 2)) * 2)) : Int).toNat).length < 140737488355328 then ((some (y124 ++ (x0.take ((wrap64 ((wrap64 ((x0.length : Int) / 2)) * 2)) : Int).toNat) : List Int)).bind fun y128 => (if 0 < (y128.length : Int) then (if 1 < (y128.length : Int) then ((some ((y128.set (0 : Int).toNat 0).set (1 : Int).toNat 0 : List Int)).bind fun y132 => ((castellanref2_Of.f k y132).bind fun t133 => ((castellanref1_Put16.f t133).bind fun t134 => (if 0 < (t134.length : Int) then (if 1 < (t134.length : Int) then ((some ((y132.set (0 : Int).toNat (rd t134 0)).set (1 : Int).toNat (rd t134 1) : List Int)).bind fun y140 => (if (wrap64 ((wrap64 ((y128.length : Int) / 2)) - 1)) = 0 then (none) else ((castellanref1_Get16.f y140 0).bind fun t141 => ((castellanref1_Get16.f y140 (wrap64 (2 + (wrap64 (2 * (Int.tmod (Go.bits .and .i64 x1 65535) (wrap64 ((wrap64 ((y128.length : Int) / 2)) - 1)))))))).bind fun t142 => ((sum_Update.f k t141 t142 (wrap64 (x2))).bind fun t143 => (if t143 < 0 then (castellanlaw2_SumUpdates.j1 k x2 y140 (wrap64 (2 + (wrap64 (2 * (Int.tmod (Go.bits .and .i64 x1 65535) (wrap64 ((wrap64 ((y128.length : Int) / 2)) - 1))))))) t143 true) else (castellanlaw2_SumUpdates.j1 k x2 y140 (wrap64 (2 + (wrap64 (2 * (Int.tmod (Go.bits .and .i64 x1 65535) (wrap64 ((wrap64 ((y128.length : Int) / 2)) - 1))))))) t143 (decide (t143 > 65535))))))))) else (none)) else (none))))) else (none)) else (none))) else (none)) else (none)) else (none)))
def castellanlaw2_SumUpdates.j1 : Nat → Int → List Int → Int → Int → Bool → Option (Bool)
  | 0, _, _, _, _, _ => none
  | k + 1, x2, x7, x9, x10, x68 => if x68 = true then (some false) else (if 0 < (x7.length : Int) then (if 1 < (x7.length : Int) then (if 0 ≤ x9 then (if x9 < (x7.length : Int) then (if 0 ≤ (wrap64 (x9 + 1)) then (if (wrap64 (x9 + 1)) < (x7.length : Int) then (castellanlaw2_SumUpdates.l0 k ((((x7.set (0 : Int).toNat ((x10 / 256) % 256)).set (1 : Int).toNat ((x10) % 256)).set (x9 : Int).toNat ((x2 / 256) % 256)).set ((wrap64 (x9 + 1)) : Int).toNat ((x2) % 256)) 0 0) else (none)) else (none)) else (none)) else (none)) else (none)) else (none))
def castellanlaw2_SumUpdates.l0 : Nat → List Int → Int → Int → Option (Bool)
  | 0, _, _, _ => none
  | k + 1, x7, x11, x12 => if x12 < (x7.length : Int) then (if 0 ≤ x12 then (castellanlaw2_SumUpdates.l0 k x7 (Go.bits .or .i64 x11 (wrap64 (rd x7 x12))) (wrap64 (x12 + 1))) else (none)) else ((sum_Right.f k x7).bind fun t149 => (if t149 = true then ((castellanlaw2_known.f k).bind fun t150 => (some t150)) else (if x11 = 0 then ((castellanlaw2_known.f k).bind fun t151 => (some t151)) else (some false))))
end
def castellanlaw2_SumUpdates.f (k : Nat) (l0 : List Int) (a1 : Int) (a2 : Int) : Option (Bool) := if (l0.length : Int) < 6 then (castellanlaw2_SumUpdates.j0 k l0 a1 a2 true) else (castellanlaw2_SumUpdates.j0 k l0 a1 a2 (decide ((l0.length : Int) > 1500)))
theorem castellanlaw2_SumUpdates.mono_l : ∀ k, (∀ y0 y1 y2 y3, LeO (castellanlaw2_SumUpdates.j0 k y0 y1 y2 y3) (castellanlaw2_SumUpdates.j0 (k + 1) y0 y1 y2 y3)) ∧ (∀ y0 y1 y2 y3 y4, LeO (castellanlaw2_SumUpdates.j1 k y0 y1 y2 y3 y4) (castellanlaw2_SumUpdates.j1 (k + 1) y0 y1 y2 y3 y4)) ∧ (∀ y0 y1 y2, LeO (castellanlaw2_SumUpdates.l0 k y0 y1 y2) (castellanlaw2_SumUpdates.l0 (k + 1) y0 y1 y2))
  | 0 => ⟨fun _ _ _ _ r h => by simp [castellanlaw2_SumUpdates.j0] at h, fun _ _ _ _ _ r h => by simp [castellanlaw2_SumUpdates.j1] at h, fun _ _ _ r h => by simp [castellanlaw2_SumUpdates.l0] at h⟩
  | k + 1 => by
    obtain ⟨ih0, ih1, ih2⟩ := castellanlaw2_SumUpdates.mono_l k
    refine ⟨?_, ?_, ?_⟩
    · intro y0 y1 y2 y3
      unfold castellanlaw2_SumUpdates.j0
      repeat' first
      | (with_reducible exact ih0 _ _ _ _)
      | (with_reducible exact ih1 _ _ _ _ _)
      | (with_reducible exact ih2 _ _ _)
      | (with_reducible exact castellanlaw2_known.mono _)
      | (with_reducible exact castellanref2_Of.mono _ _)
      | (with_reducible exact sum_Right.mono _ _)
      | (with_reducible exact sum_Update.mono _ _ _ _)
      | (with_reducible exact LeO.refl _)
      | (with_reducible exact LeO.none _)
      | (with_reducible refine LeO.ite ?_ ?_)
      | (with_reducible refine LeO.bind ?_ (fun _ => ?_))
      | exact ih0 _ _ _ _
      | exact ih1 _ _ _ _ _
      | exact ih2 _ _ _
      | exact castellanlaw2_known.mono _
      | exact castellanref2_Of.mono _ _
      | exact sum_Right.mono _ _
      | exact sum_Update.mono _ _ _ _
      | exact LeO.none _
      | refine LeO.ite ?_ ?_
      | refine LeO.bind ?_ (fun _ => ?_)
    · intro y0 y1 y2 y3 y4
      unfold castellanlaw2_SumUpdates.j1
      repeat' first
      | (with_reducible exact ih0 _ _ _ _)
      | (with_reducible exact ih1 _ _ _ _ _)
      | (with_reducible exact ih2 _ _ _)
      | (with_reducible exact castellanlaw2_known.mono _)
      | (with_reducible exact castellanref2_Of.mono _ _)
      | (with_reducible exact sum_Right.mono _ _)
      | (with_reducible exact sum_Update.mono _ _ _ _)
      | (with_reducible exact LeO.refl _)
      | (with_reducible exact LeO.none _)
      | (with_reducible refine LeO.ite ?_ ?_)
      | (with_reducible refine LeO.bind ?_ (fun _ => ?_))
      | exact ih0 _ _ _ _
      | exact ih1 _ _ _ _ _
      | exact ih2 _ _ _
      | exact castellanlaw2_known.mono _
      | exact castellanref2_Of.mono _ _
      | exact sum_Right.mono _ _
      | exact sum_Update.mono _ _ _ _
      | exact LeO.none _
      | refine LeO.ite ?_ ?_
      | refine LeO.bind ?_ (fun _ => ?_)
    · intro y0 y1 y2
      unfold castellanlaw2_SumUpdates.l0
      repeat' first
      | (with_reducible exact ih0 _ _ _ _)
      | (with_reducible exact ih1 _ _ _ _ _)
      | (with_reducible exact ih2 _ _ _)
      | (with_reducible exact castellanlaw2_known.mono _)
      | (with_reducible exact castellanref2_Of.mono _ _)
      | (with_reducible exact sum_Right.mono _ _)
      | (with_reducible exact sum_Update.mono _ _ _ _)
      | (with_reducible exact LeO.refl _)
      | (with_reducible exact LeO.none _)
      | (with_reducible refine LeO.ite ?_ ?_)
      | (with_reducible refine LeO.bind ?_ (fun _ => ?_))
      | exact ih0 _ _ _ _
      | exact ih1 _ _ _ _ _
      | exact ih2 _ _ _
      | exact castellanlaw2_known.mono _
      | exact castellanref2_Of.mono _ _
      | exact sum_Right.mono _ _
      | exact sum_Update.mono _ _ _ _
      | exact LeO.none _
      | refine LeO.ite ?_ ?_
      | refine LeO.bind ?_ (fun _ => ?_)
theorem castellanlaw2_SumUpdates.mono : ∀ a0 a1 a2 k, LeO (castellanlaw2_SumUpdates.f k a0 a1 a2) (castellanlaw2_SumUpdates.f (k + 1) a0 a1 a2) := by
  intro a0 a1 a2 k
  obtain ⟨ih0, ih1, ih2⟩ := castellanlaw2_SumUpdates.mono_l k
  unfold castellanlaw2_SumUpdates.f
  repeat' first
      | (with_reducible exact ih0 _ _ _ _)
      | (with_reducible exact ih1 _ _ _ _ _)
      | (with_reducible exact ih2 _ _ _)
      | (with_reducible exact castellanlaw2_known.mono _)
      | (with_reducible exact castellanref2_Of.mono _ _)
      | (with_reducible exact sum_Right.mono _ _)
      | (with_reducible exact sum_Update.mono _ _ _ _)
      | (with_reducible exact LeO.refl _)
      | (with_reducible exact LeO.none _)
      | (with_reducible refine LeO.ite ?_ ?_)
      | (with_reducible refine LeO.bind ?_ (fun _ => ?_))
      | exact ih0 _ _ _ _
      | exact ih1 _ _ _ _ _
      | exact ih2 _ _ _
      | exact castellanlaw2_known.mono _
      | exact castellanref2_Of.mono _ _
      | exact sum_Right.mono _ _
      | exact sum_Update.mono _ _ _ _
      | exact LeO.none _
      | refine LeO.ite ?_ ?_
      | refine LeO.bind ?_ (fun _ => ?_)
def castellanlaw2_SumUpdates.T6 : Bool × List (List Nat × List Nat) := (true, [([], []), ([], []), ([], []), ([2], [2]), ([3], [3]), ([], []), ([5], [5]), ([6], [6]), ([0, 0, 2, 3, 4, 7], [0]), ([8, 4, 0, 2, 3, 4, 7], [4, 8]), ([1, 0, 1, 2, 3, 4, 5, 6, 7, 8, 9], [1]), ([10, 7, 9, 0, 1, 2, 3, 4, 5, 6, 7, 8, 9], [7, 10])])
def castellanlaw2_SumUpdates.B6 : List Nat := [0, 0, 0, 4, 12, 0, 32, 96, 253, 509, 1023, 2047]
theorem castellanlaw2_SumUpdates.tab6 : rtab .any (opsOf Try.f10 6) = castellanlaw2_SumUpdates.T6 := by kernel_rfl
theorem castellanlaw2_SumUpdates.bits6 : waitsOk castellanlaw2_SumUpdates.T6.2 castellanlaw2_SumUpdates.B6 = true := by kernel_rfl
set_option maxHeartbeats 8000000 in
set_option maxRecDepth 100000 in
theorem castellanlaw2_SumUpdates.calls (k : Nat) (A0 : Option Addr) (c0 : Nat) (l0 : List Int) (a1 : Int) (a2 : Int) (r : Bool) (w : World) (hr0 : Kd.C (Kd.int .u8) w A0 l0.length l0) (hc0 : l0.length ≤ c0) (hrt : r = true) (h : castellanlaw2_SumUpdates.f k l0 a1 a2 = some r) :
    Calls Try.prog 10 #[.slice A0 l0.length c0, .int .i64 a1, .int .u16 a2] w fun e w' => e = .returned (.bool r) ∧ Below w.heap.size w w' := by
  have HRT := Aside0.mk hrt
  clear hrt
  have HR0 := Aside0.mk hr0
  have HC0 := Aside0.mk hc0
  clear hr0 hc0
  have HB := Aside0.mk (Below.refl w.heap.size w)
  have H : (if (l0.length : Int) < 6 then (castellanlaw2_SumUpdates.j0 k l0 a1 a2 true) else (castellanlaw2_SumUpdates.j0 k l0 a1 a2 (decide ((l0.length : Int) > 1500)))) = some r := h
  clear h
  have HC4 := Aside0.mk H
  clear H
  go_enter Try.func10, Try.ntmps10
  go_upto_region 1 with (fail)
  go_cut [20] (fun v20 wc => ∃ (kq : Nat) (x20_3 : Bool), v20 = .bool x20_3 ∧ Aside0 (castellanlaw2_SumUpdates.j0 kq l0 a1 a2 x20_3 = some r) ∧ Aside0 (kq ≤ k) ∧ Aside0 (Below w.heap.size w wc))
  case first =>
    have H := HC4.out
    clear HC4
    by_cases c5 : (l0.length : Int) < 6
    · rw [if_pos c5] at H
      have c5b0 : decide ((l0.length : Int) < 6) = true := decide_eq_true c5
      have c5b1 : decide (l0.length < 6) = true := decide_eq_true (by omega)
      clear c5
      (first | rw [c5b0] | (simp only [i64_w, i32_w]; rw [c5b0]) | skip)
      have H' := Aside0.mk H
      clear H
      go_wp2
      go_meet
      case rel => exact ⟨_, (true), (by first | rfl | (simp; done) | (simp [*]; done)), H', ⟨by first | omega | exact Nat.le_refl _⟩, ⟨by repeat (first | (with_reducible first | exact HB.out | apply below_alloc | apply pw_below_drewN | apply below_drew1) | exact HB.out)⟩⟩
    · rw [if_neg c5] at H
      have c5b0 : decide ((l0.length : Int) < 6) = false := decide_eq_false c5
      have c5b1 : decide (l0.length < 6) = false := decide_eq_false (by omega)
      clear c5
      (first | rw [c5b0] | (simp only [i64_w, i32_w]; rw [c5b0]) | skip)
      have H' := Aside0.mk H
      clear H
      go_wp2
      go_meet
      case rel => exact ⟨_, (decide ((l0.length : Int) > 1500)), (by first | rfl | (simp; done) | (simp [*]; done)), H', ⟨by first | omega | exact Nat.le_refl _⟩, ⟨by repeat (first | (with_reducible first | exact HB.out | apply below_alloc | apply pw_below_drewN | apply below_drew1) | exact HB.out)⟩⟩
  case rest =>
    clear HC4
    try clear c1
    try clear p2
    try clear c5
    try clear c5b0
    try clear c5b1
    obtain ⟨kq, x20_3, rfl, HA, HJ3, HB⟩ := hcut
    cases kq with
    | zero => exact absurd HA.out (by simp [castellanlaw2_SumUpdates.j0])
    | succ kj3 =>
      have H := HA.out
      clear HA
      simp only [castellanlaw2_SumUpdates.j0] at H
      by_cases c6 : x20_3 = true
      · subst c6
        have H1 : (some true) = some r := by rw [if_pos rfl] at H; exact H
        clear H
        have H := H1
        clear H1
        obtain rfl := Option.some.inj H
        go_wp2
        go_ret
        exact ⟨by first | rfl | (simp [errW_none, errW_some] <;> rfl) | (simp [*, errW_none, errW_some] <;> rfl), by repeat (first | (with_reducible first | exact HB.out | apply below_alloc | apply pw_below_drewN | apply below_drew1) | exact HB.out)⟩
      · replace c6 := Bool.eq_false_iff.mpr c6
        subst c6
        have H1 : ((some (([] : List Int) : List Int)).bind fun y124 => (if 0 ≤ (wrap64 ((wrap64 ((l0.length : Int) / 2)) * 2)) then (if (wrap64 ((wrap64 ((l0.length : Int) / 2)) * 2)) ≤ (l0.length : Int) then (if y124.length + (l0.take ((wrap64 ((wrap64 ((l0.length : Int) / 2)) * 2)) : Int).toNat).length < 140737488355328 then ((some (y124 ++ (l0.take ((wrap64 ((wrap64 ((l0.length : Int) / 2)) * 2)) : Int).toNat) : List Int)).bind fun y128 => (if 0 < (y128.length : Int) then (if 1 < (y128.length : Int) then ((some ((y128.set (0 : Int).toNat 0).set (1 : Int).toNat 0 : List Int)).bind fun y132 => ((castellanref2_Of.f kj3 y132).bind fun t133 => ((castellanref1_Put16.f t133).bind fun t134 => (if 0 < (t134.length : Int) then (if 1 < (t134.length : Int) then ((some ((y132.set (0 : Int).toNat (rd t134 0)).set (1 : Int).toNat (rd t134 1) : List Int)).bind fun y140 => (if (wrap64 ((wrap64 ((y128.length : Int) / 2)) - 1)) = 0 then (none) else ((castellanref1_Get16.f y140 0).bind fun t141 => ((castellanref1_Get16.f y140 (wrap64 (2 + (wrap64 (2 * (Int.tmod (Go.bits .and .i64 a1 65535) (wrap64 ((wrap64 ((y128.length : Int) / 2)) - 1)))))))).bind fun t142 => ((sum_Update.f kj3 t141 t142 (wrap64 (a2))).bind fun t143 => (if t143 < 0 then (castellanlaw2_SumUpdates.j1 kj3 a2 y140 (wrap64 (2 + (wrap64 (2 * (Int.tmod (Go.bits .and .i64 a1 65535) (wrap64 ((wrap64 ((y128.length : Int) / 2)) - 1))))))) t143 true) else (castellanlaw2_SumUpdates.j1 kj3 a2 y140 (wrap64 (2 + (wrap64 (2 * (Int.tmod (Go.bits .and .i64 a1 65535) (wrap64 ((wrap64 ((y128.length : Int) / 2)) - 1))))))) t143 (decide (t143 > 65535))))))))) else (none)) else (none))))) else (none)) else (none))) else (none)) else (none)) else (none))) = some r := by rw [if_neg (show ¬ (false = true) by decide)] at H; exact H
        clear H
        have H := H1
        clear H1
        obtain ⟨y124, hy124⟩ : ∃ y_ : List Int, y_ = (([] : List Int)) := ⟨_, rfl⟩
        replace H : (if 0 ≤ (wrap64 ((wrap64 ((l0.length : Int) / 2)) * 2)) then (if (wrap64 ((wrap64 ((l0.length : Int) / 2)) * 2)) ≤ (l0.length : Int) then (if y124.length + (l0.take ((wrap64 ((wrap64 ((l0.length : Int) / 2)) * 2)) : Int).toNat).length < 140737488355328 then ((some (y124 ++ (l0.take ((wrap64 ((wrap64 ((l0.length : Int) / 2)) * 2)) : Int).toNat) : List Int)).bind fun y128 => (if 0 < (y128.length : Int) then (if 1 < (y128.length : Int) then ((some ((y128.set (0 : Int).toNat 0).set (1 : Int).toNat 0 : List Int)).bind fun y132 => ((castellanref2_Of.f kj3 y132).bind fun t133 => ((castellanref1_Put16.f t133).bind fun t134 => (if 0 < (t134.length : Int) then (if 1 < (t134.length : Int) then ((some ((y132.set (0 : Int).toNat (rd t134 0)).set (1 : Int).toNat (rd t134 1) : List Int)).bind fun y140 => (if (wrap64 ((wrap64 ((y128.length : Int) / 2)) - 1)) = 0 then (none) else ((castellanref1_Get16.f y140 0).bind fun t141 => ((castellanref1_Get16.f y140 (wrap64 (2 + (wrap64 (2 * (Int.tmod (Go.bits .and .i64 a1 65535) (wrap64 ((wrap64 ((y128.length : Int) / 2)) - 1)))))))).bind fun t142 => ((sum_Update.f kj3 t141 t142 (wrap64 (a2))).bind fun t143 => (if t143 < 0 then (castellanlaw2_SumUpdates.j1 kj3 a2 y140 (wrap64 (2 + (wrap64 (2 * (Int.tmod (Go.bits .and .i64 a1 65535) (wrap64 ((wrap64 ((y128.length : Int) / 2)) - 1))))))) t143 true) else (castellanlaw2_SumUpdates.j1 kj3 a2 y140 (wrap64 (2 + (wrap64 (2 * (Int.tmod (Go.bits .and .i64 a1 65535) (wrap64 ((wrap64 ((y128.length : Int) / 2)) - 1))))))) t143 (decide (t143 > 65535))))))))) else (none)) else (none))))) else (none)) else (none))) else (none)) else (none)) else (none)) = some r := by first | (rw [hy124]; with_reducible exact H) | (have H2_ := (Option.bind_some _ _).symm.trans H; rw [hy124]; with_reducible exact H2_) | (have H2_ := (Option.bind_some _ _).symm.trans H; with_reducible exact H2_) | with_reducible exact H | (rw [hy124]; exact H) | exact H
        have Ny124 := Aside0.mk hy124
        clear hy124
        obtain ⟨ji7, hji7⟩ : ∃ j_ : Int, (wrap64 ((wrap64 ((l0.length : Int) / 2)) * 2)) = j_ := ⟨_, rfl⟩
        replace H : (if 0 ≤ (ji7) then (if (ji7) ≤ (l0.length : Int) then (if y124.length + (l0.take ((ji7) : Int).toNat).length < 140737488355328 then ((some (y124 ++ (l0.take ((ji7) : Int).toNat) : List Int)).bind fun y128 => (if 0 < (y128.length : Int) then (if 1 < (y128.length : Int) then ((some ((y128.set (0 : Int).toNat 0).set (1 : Int).toNat 0 : List Int)).bind fun y132 => ((castellanref2_Of.f kj3 y132).bind fun t133 => ((castellanref1_Put16.f t133).bind fun t134 => (if 0 < (t134.length : Int) then (if 1 < (t134.length : Int) then ((some ((y132.set (0 : Int).toNat (rd t134 0)).set (1 : Int).toNat (rd t134 1) : List Int)).bind fun y140 => (if (wrap64 ((wrap64 ((y128.length : Int) / 2)) - 1)) = 0 then (none) else ((castellanref1_Get16.f y140 0).bind fun t141 => ((castellanref1_Get16.f y140 (wrap64 (2 + (wrap64 (2 * (Int.tmod (Go.bits .and .i64 a1 65535) (wrap64 ((wrap64 ((y128.length : Int) / 2)) - 1)))))))).bind fun t142 => ((sum_Update.f kj3 t141 t142 (wrap64 (a2))).bind fun t143 => (if t143 < 0 then (castellanlaw2_SumUpdates.j1 kj3 a2 y140 (wrap64 (2 + (wrap64 (2 * (Int.tmod (Go.bits .and .i64 a1 65535) (wrap64 ((wrap64 ((y128.length : Int) / 2)) - 1))))))) t143 true) else (castellanlaw2_SumUpdates.j1 kj3 a2 y140 (wrap64 (2 + (wrap64 (2 * (Int.tmod (Go.bits .and .i64 a1 65535) (wrap64 ((wrap64 ((y128.length : Int) / 2)) - 1))))))) t143 (decide (t143 > 65535))))))))) else (none)) else (none))))) else (none)) else (none))) else (none)) else (none)) else (none)) = some r := by first | (rw [hji7] at H; exact H) | (simp only [hji7] at H ⊢; exact H)
        have hji7w : (IntKind.i64.wrap ((wrap64 ((l0.length : Int) / 2)) * 2)) = ji7 := (i64_w _).trans hji7
        by_cases c8 : 0 ≤ (ji7)
        · rw [if_pos c8] at H
          have c8b0 := eq_true c8
          have c8b1 : decide (0 ≤ (ji7)) = true := decide_eq_true c8
          clear c8
          by_cases c9 : (ji7) ≤ (l0.length : Int)
          · rw [if_pos c9] at H
            have c9b0 := eq_true c9
            have c9b1 : decide ((ji7) ≤ (l0.length : Int)) = true := decide_eq_true c9
            clear c9
            by_cases c10 : y124.length + (l0.take ((ji7) : Int).toNat).length < 140737488355328
            · rw [if_pos c10] at H
              have LMc10 := Aside0.mk c10
              clear c10
              obtain ⟨y128, hy128⟩ : ∃ y_ : List Int, y_ = (y124 ++ (l0.take ((ji7) : Int).toNat)) := ⟨_, rfl⟩
              replace H : (if 0 < (y128.length : Int) then (if 1 < (y128.length : Int) then ((some ((y128.set (0 : Int).toNat 0).set (1 : Int).toNat 0 : List Int)).bind fun y132 => ((castellanref2_Of.f kj3 y132).bind fun t133 => ((castellanref1_Put16.f t133).bind fun t134 => (if 0 < (t134.length : Int) then (if 1 < (t134.length : Int) then ((some ((y132.set (0 : Int).toNat (rd t134 0)).set (1 : Int).toNat (rd t134 1) : List Int)).bind fun y140 => (if (wrap64 ((wrap64 ((y128.length : Int) / 2)) - 1)) = 0 then (none) else ((castellanref1_Get16.f y140 0).bind fun t141 => ((castellanref1_Get16.f y140 (wrap64 (2 + (wrap64 (2 * (Int.tmod (Go.bits .and .i64 a1 65535) (wrap64 ((wrap64 ((y128.length : Int) / 2)) - 1)))))))).bind fun t142 => ((sum_Update.f kj3 t141 t142 (wrap64 (a2))).bind fun t143 => (if t143 < 0 then (castellanlaw2_SumUpdates.j1 kj3 a2 y140 (wrap64 (2 + (wrap64 (2 * (Int.tmod (Go.bits .and .i64 a1 65535) (wrap64 ((wrap64 ((y128.length : Int) / 2)) - 1))))))) t143 true) else (castellanlaw2_SumUpdates.j1 kj3 a2 y140 (wrap64 (2 + (wrap64 (2 * (Int.tmod (Go.bits .and .i64 a1 65535) (wrap64 ((wrap64 ((y128.length : Int) / 2)) - 1))))))) t143 (decide (t143 > 65535))))))))) else (none)) else (none))))) else (none)) else (none)) = some r := by first | (rw [hy128]; with_reducible exact H) | (have H2_ := (Option.bind_some _ _).symm.trans H; rw [hy128]; with_reducible exact H2_) | (have H2_ := (Option.bind_some _ _).symm.trans H; with_reducible exact H2_) | with_reducible exact H | (rw [hy128]; exact H) | exact H
              have Ny128 := Aside0.mk hy128
              clear hy128
              by_cases c11 : 0 < (y128.length : Int)
              · rw [if_pos c11] at H
                have c11b0 : decide (0 < (y128.length : Int)) = true := decide_eq_true c11
                have c11b1 : decide (0 < y128.length) = true := decide_eq_true (by omega)
                clear c11
                obtain ⟨y131, hy131⟩ : ∃ y_ : List Int, y_ = (y128.set (0 : Int).toNat 0) := ⟨_, rfl⟩
                replace H : (if 1 < (y128.length : Int) then ((some (y131.set (1 : Int).toNat 0 : List Int)).bind fun y132 => ((castellanref2_Of.f kj3 y132).bind fun t133 => ((castellanref1_Put16.f t133).bind fun t134 => (if 0 < (t134.length : Int) then (if 1 < (t134.length : Int) then ((some ((y132.set (0 : Int).toNat (rd t134 0)).set (1 : Int).toNat (rd t134 1) : List Int)).bind fun y140 => (if (wrap64 ((wrap64 ((y128.length : Int) / 2)) - 1)) = 0 then (none) else ((castellanref1_Get16.f y140 0).bind fun t141 => ((castellanref1_Get16.f y140 (wrap64 (2 + (wrap64 (2 * (Int.tmod (Go.bits .and .i64 a1 65535) (wrap64 ((wrap64 ((y128.length : Int) / 2)) - 1)))))))).bind fun t142 => ((sum_Update.f kj3 t141 t142 (wrap64 (a2))).bind fun t143 => (if t143 < 0 then (castellanlaw2_SumUpdates.j1 kj3 a2 y140 (wrap64 (2 + (wrap64 (2 * (Int.tmod (Go.bits .and .i64 a1 65535) (wrap64 ((wrap64 ((y128.length : Int) / 2)) - 1))))))) t143 true) else (castellanlaw2_SumUpdates.j1 kj3 a2 y140 (wrap64 (2 + (wrap64 (2 * (Int.tmod (Go.bits .and .i64 a1 65535) (wrap64 ((wrap64 ((y128.length : Int) / 2)) - 1))))))) t143 (decide (t143 > 65535))))))))) else (none)) else (none))))) else (none)) = some r := by first | (rw [hy131]; with_reducible exact H) | (have H2_ := (Option.bind_some _ _).symm.trans H; rw [hy131]; with_reducible exact H2_) | (have H2_ := (Option.bind_some _ _).symm.trans H; with_reducible exact H2_) | with_reducible exact H | (rw [hy131]; exact H) | exact H
                have Ny131 := Aside0.mk hy131
                clear hy131
                by_cases c13 : 1 < (y128.length : Int)
                · rw [if_pos c13] at H
                  have c13b0 : decide (1 < (y128.length : Int)) = true := decide_eq_true c13
                  have c13b1 : decide (1 < y128.length) = true := decide_eq_true (by omega)
                  clear c13
                  obtain ⟨y132, hy132⟩ : ∃ y_ : List Int, y_ = (y131.set (1 : Int).toNat 0) := ⟨_, rfl⟩
                  replace H : ((castellanref2_Of.f kj3 y132).bind fun t133 => ((castellanref1_Put16.f t133).bind fun t134 => (if 0 < (t134.length : Int) then (if 1 < (t134.length : Int) then ((some ((y132.set (0 : Int).toNat (rd t134 0)).set (1 : Int).toNat (rd t134 1) : List Int)).bind fun y140 => (if (wrap64 ((wrap64 ((y128.length : Int) / 2)) - 1)) = 0 then (none) else ((castellanref1_Get16.f y140 0).bind fun t141 => ((castellanref1_Get16.f y140 (wrap64 (2 + (wrap64 (2 * (Int.tmod (Go.bits .and .i64 a1 65535) (wrap64 ((wrap64 ((y128.length : Int) / 2)) - 1)))))))).bind fun t142 => ((sum_Update.f kj3 t141 t142 (wrap64 (a2))).bind fun t143 => (if t143 < 0 then (castellanlaw2_SumUpdates.j1 kj3 a2 y140 (wrap64 (2 + (wrap64 (2 * (Int.tmod (Go.bits .and .i64 a1 65535) (wrap64 ((wrap64 ((y128.length : Int) / 2)) - 1))))))) t143 true) else (castellanlaw2_SumUpdates.j1 kj3 a2 y140 (wrap64 (2 + (wrap64 (2 * (Int.tmod (Go.bits .and .i64 a1 65535) (wrap64 ((wrap64 ((y128.length : Int) / 2)) - 1))))))) t143 (decide (t143 > 65535))))))))) else (none)) else (none)))) = some r := by first | (rw [hy132]; with_reducible exact H) | (have H2_ := (Option.bind_some _ _).symm.trans H; rw [hy132]; with_reducible exact H2_) | (have H2_ := (Option.bind_some _ _).symm.trans H; with_reducible exact H2_) | with_reducible exact H | (rw [hy132]; exact H) | exact H
                  have Ny132 := Aside0.mk hy132
                  clear hy132
                  replace H := Option.bind_eq_some_iff.mp H
                  obtain ⟨t133, A150, H⟩ := H
                  replace H : ((castellanref1_Put16.f t133).bind fun t134 => (if 0 < (t134.length : Int) then (if 1 < (t134.length : Int) then ((some ((y132.set (0 : Int).toNat (rd t134 0)).set (1 : Int).toNat (rd t134 1) : List Int)).bind fun y140 => (if (wrap64 ((wrap64 ((y128.length : Int) / 2)) - 1)) = 0 then (none) else ((castellanref1_Get16.f y140 0).bind fun t141 => ((castellanref1_Get16.f y140 (wrap64 (2 + (wrap64 (2 * (Int.tmod (Go.bits .and .i64 a1 65535) (wrap64 ((wrap64 ((y128.length : Int) / 2)) - 1)))))))).bind fun t142 => ((sum_Update.f kj3 t141 t142 (wrap64 (a2))).bind fun t143 => (if t143 < 0 then (castellanlaw2_SumUpdates.j1 kj3 a2 y140 (wrap64 (2 + (wrap64 (2 * (Int.tmod (Go.bits .and .i64 a1 65535) (wrap64 ((wrap64 ((y128.length : Int) / 2)) - 1))))))) t143 true) else (castellanlaw2_SumUpdates.j1 kj3 a2 y140 (wrap64 (2 + (wrap64 (2 * (Int.tmod (Go.bits .and .i64 a1 65535) (wrap64 ((wrap64 ((y128.length : Int) / 2)) - 1))))))) t143 (decide (t143 > 65535))))))))) else (none)) else (none))) = some r := H
                  have A15 := Aside0.mk A150
                  clear A150
                  replace H := Option.bind_eq_some_iff.mp H
                  obtain ⟨t134, A160, H⟩ := H
                  replace H : (if 0 < (t134.length : Int) then (if 1 < (t134.length : Int) then ((some ((y132.set (0 : Int).toNat (rd t134 0)).set (1 : Int).toNat (rd t134 1) : List Int)).bind fun y140 => (if (wrap64 ((wrap64 ((y128.length : Int) / 2)) - 1)) = 0 then (none) else ((castellanref1_Get16.f y140 0).bind fun t141 => ((castellanref1_Get16.f y140 (wrap64 (2 + (wrap64 (2 * (Int.tmod (Go.bits .and .i64 a1 65535) (wrap64 ((wrap64 ((y128.length : Int) / 2)) - 1)))))))).bind fun t142 => ((sum_Update.f kj3 t141 t142 (wrap64 (a2))).bind fun t143 => (if t143 < 0 then (castellanlaw2_SumUpdates.j1 kj3 a2 y140 (wrap64 (2 + (wrap64 (2 * (Int.tmod (Go.bits .and .i64 a1 65535) (wrap64 ((wrap64 ((y128.length : Int) / 2)) - 1))))))) t143 true) else (castellanlaw2_SumUpdates.j1 kj3 a2 y140 (wrap64 (2 + (wrap64 (2 * (Int.tmod (Go.bits .and .i64 a1 65535) (wrap64 ((wrap64 ((y128.length : Int) / 2)) - 1))))))) t143 (decide (t143 > 65535))))))))) else (none)) else (none)) = some r := H
                  have A16 := Aside0.mk A160
                  clear A160
                  by_cases c17 : 0 < (t134.length : Int)
                  · rw [if_pos c17] at H
                    have c17b0 : decide (0 < (t134.length : Int)) = true := decide_eq_true c17
                    have c17b1 : decide (0 < t134.length) = true := decide_eq_true (by omega)
                    clear c17
                    by_cases c18 : 1 < (t134.length : Int)
                    · rw [if_pos c18] at H
                      have c18b0 : decide (1 < (t134.length : Int)) = true := decide_eq_true c18
                      have c18b1 : decide (1 < t134.length) = true := decide_eq_true (by omega)
                      clear c18
                      obtain ⟨y139, hy139⟩ : ∃ y_ : List Int, y_ = (y132.set (0 : Int).toNat (rd t134 0)) := ⟨_, rfl⟩
                      replace H : ((some (y139.set (1 : Int).toNat (rd t134 1) : List Int)).bind fun y140 => (if (wrap64 ((wrap64 ((y128.length : Int) / 2)) - 1)) = 0 then (none) else ((castellanref1_Get16.f y140 0).bind fun t141 => ((castellanref1_Get16.f y140 (wrap64 (2 + (wrap64 (2 * (Int.tmod (Go.bits .and .i64 a1 65535) (wrap64 ((wrap64 ((y128.length : Int) / 2)) - 1)))))))).bind fun t142 => ((sum_Update.f kj3 t141 t142 (wrap64 (a2))).bind fun t143 => (if t143 < 0 then (castellanlaw2_SumUpdates.j1 kj3 a2 y140 (wrap64 (2 + (wrap64 (2 * (Int.tmod (Go.bits .and .i64 a1 65535) (wrap64 ((wrap64 ((y128.length : Int) / 2)) - 1))))))) t143 true) else (castellanlaw2_SumUpdates.j1 kj3 a2 y140 (wrap64 (2 + (wrap64 (2 * (Int.tmod (Go.bits .and .i64 a1 65535) (wrap64 ((wrap64 ((y128.length : Int) / 2)) - 1))))))) t143 (decide (t143 > 65535))))))))) = some r := by first | (rw [hy139]; with_reducible exact H) | (have H2_ := (Option.bind_some _ _).symm.trans H; rw [hy139]; with_reducible exact H2_) | (have H2_ := (Option.bind_some _ _).symm.trans H; with_reducible exact H2_) | with_reducible exact H | (rw [hy139]; exact H) | exact H
                      have Ny139 := Aside0.mk hy139
                      clear hy139
                      obtain ⟨y140, hy140⟩ : ∃ y_ : List Int, y_ = (y139.set (1 : Int).toNat (rd t134 1)) := ⟨_, rfl⟩
                      replace H : (if (wrap64 ((wrap64 ((y128.length : Int) / 2)) - 1)) = 0 then (none) else ((castellanref1_Get16.f y140 0).bind fun t141 => ((castellanref1_Get16.f y140 (wrap64 (2 + (wrap64 (2 * (Int.tmod (Go.bits .and .i64 a1 65535) (wrap64 ((wrap64 ((y128.length : Int) / 2)) - 1)))))))).bind fun t142 => ((sum_Update.f kj3 t141 t142 (wrap64 (a2))).bind fun t143 => (if t143 < 0 then (castellanlaw2_SumUpdates.j1 kj3 a2 y140 (wrap64 (2 + (wrap64 (2 * (Int.tmod (Go.bits .and .i64 a1 65535) (wrap64 ((wrap64 ((y128.length : Int) / 2)) - 1))))))) t143 true) else (castellanlaw2_SumUpdates.j1 kj3 a2 y140 (wrap64 (2 + (wrap64 (2 * (Int.tmod (Go.bits .and .i64 a1 65535) (wrap64 ((wrap64 ((y128.length : Int) / 2)) - 1))))))) t143 (decide (t143 > 65535)))))))) = some r := by first | (rw [hy140]; with_reducible exact H) | (have H2_ := (Option.bind_some _ _).symm.trans H; rw [hy140]; with_reducible exact H2_) | (have H2_ := (Option.bind_some _ _).symm.trans H; with_reducible exact H2_) | with_reducible exact H | (rw [hy140]; exact H) | exact H
                      have Ny140 := Aside0.mk hy140
                      clear hy140
                      by_cases c21 : (wrap64 ((wrap64 ((y128.length : Int) / 2)) - 1)) = 0
                      · rw [if_pos c21] at H
                        exact absurd H (by simp)
                      · rw [if_neg c21] at H
                        have c21b0 : ((wrap64 ((wrap64 ((y128.length : Int) / 2)) - 1)) == 0) = false := beq_eq_false_iff_ne.mpr c21
                        have c21b1 : ((wrap64 ((wrap64 ((y128.length : Int) / 2)) - 1)) != 0) = true := bne_iff_ne.mpr c21
                        replace H := Option.bind_eq_some_iff.mp H
                        obtain ⟨t141, A220, H⟩ := H
                        replace H : ((castellanref1_Get16.f y140 (wrap64 (2 + (wrap64 (2 * (Int.tmod (Go.bits .and .i64 a1 65535) (wrap64 ((wrap64 ((y128.length : Int) / 2)) - 1)))))))).bind fun t142 => ((sum_Update.f kj3 t141 t142 (wrap64 (a2))).bind fun t143 => (if t143 < 0 then (castellanlaw2_SumUpdates.j1 kj3 a2 y140 (wrap64 (2 + (wrap64 (2 * (Int.tmod (Go.bits .and .i64 a1 65535) (wrap64 ((wrap64 ((y128.length : Int) / 2)) - 1))))))) t143 true) else (castellanlaw2_SumUpdates.j1 kj3 a2 y140 (wrap64 (2 + (wrap64 (2 * (Int.tmod (Go.bits .and .i64 a1 65535) (wrap64 ((wrap64 ((y128.length : Int) / 2)) - 1))))))) t143 (decide (t143 > 65535)))))) = some r := H
                        have A22 := Aside0.mk A220
                        clear A220
                        replace H := Option.bind_eq_some_iff.mp H
                        obtain ⟨t142, A230, H⟩ := H
                        replace H : ((sum_Update.f kj3 t141 t142 (wrap64 (a2))).bind fun t143 => (if t143 < 0 then (castellanlaw2_SumUpdates.j1 kj3 a2 y140 (wrap64 (2 + (wrap64 (2 * (Int.tmod (Go.bits .and .i64 a1 65535) (wrap64 ((wrap64 ((y128.length : Int) / 2)) - 1))))))) t143 true) else (castellanlaw2_SumUpdates.j1 kj3 a2 y140 (wrap64 (2 + (wrap64 (2 * (Int.tmod (Go.bits .and .i64 a1 65535) (wrap64 ((wrap64 ((y128.length : Int) / 2)) - 1))))))) t143 (decide (t143 > 65535))))) = some r := H
                        have A23 := Aside0.mk A230
                        clear A230
                        replace H := Option.bind_eq_some_iff.mp H
                        obtain ⟨t143, A240, H⟩ := H
                        replace H : (if t143 < 0 then (castellanlaw2_SumUpdates.j1 kj3 a2 y140 (wrap64 (2 + (wrap64 (2 * (Int.tmod (Go.bits .and .i64 a1 65535) (wrap64 ((wrap64 ((y128.length : Int) / 2)) - 1))))))) t143 true) else (castellanlaw2_SumUpdates.j1 kj3 a2 y140 (wrap64 (2 + (wrap64 (2 * (Int.tmod (Go.bits .and .i64 a1 65535) (wrap64 ((wrap64 ((y128.length : Int) / 2)) - 1))))))) t143 (decide (t143 > 65535)))) = some r := H
                        have A24 := Aside0.mk A240
                        clear A240
                        have HC25 := Aside0.mk H
                        clear H
                        try go_wp2_with (first | ((with_reducible refine gate_dst (N := 21) rfl ?_); (try (refine gate_guard (by rfl) ?_; dsimp only)); refine Kd.R_lit (Kd.int .u8) _ 5 ?hg (N := 21) ?hd (xs := ([] : List Int)) (inner := []) (ok := fun _ => True) (okp := fun _ => True) ?hr ?hp (fun _ hk => hk) trivial (Below.refl _ _) (Nat.le_refl _) (by simp) ?_; (case hd => rfl); (case hg => rfl); (case hr => first | (go_simp; done) | (go_simp; rfl)); (case hp => exact (Reps.none _ _)); intro v125 w26 ho27 hb hg_ hnew_; clear hg_ hnew_; (first | rw [← Ny124.out] at ho27 | (simp only [Int.reduceToNat] at ho27; rw [← Ny124.out] at ho27)); have n0_ := Aside0.mk (Kd.R_lower ho27 (below_size (by repeat (first | (with_reducible first | exact HB.out | apply below_alloc | apply pw_below_drewN | apply below_drew1) | exact HB.out)))); have n1_ := Aside0.mk (below_step (by repeat (first | (with_reducible first | exact HB.out | apply below_alloc | apply pw_below_drewN | apply below_drew1) | exact HB.out)) hb); clear HB; have HO126 := n0_; have HB := n1_; clear n0_ n1_; clear hb ho27; obtain ⟨i028, hi028, _, hsz28, _⟩ := info_parts info5; obtain ⟨hcut28, hA28, hC28⟩ := print_take_of (P := Try.prog) (Value.int .u8) 0 22 5 .i64 Try.underlying22 hi028 hsz28 A0 c0 l0 (ji7) (of_decide_eq_true (by first | (with_reducible assumption) | assumption)) (of_decide_eq_true (by first | (with_reducible assumption) | assumption)) HC0.out; have HR127 := Aside0.mk (Kd.C_of_reads (h1 := fun _ => rfl) (hA28 _ (Kd.reads_of_C HR0.out))); have HC127 := Aside0.mk hC28; clear hA28 hC28 hi028 hsz28) | ((with_reducible refine gate_builtin (b := .append) (xs := #[.tmp 21, .tmp 27]) rfl ?_); (try (refine gate_guard (by rfl) ?_; dsimp only)); at_builtin; refine Kd.R_append_rows (Kd.int .u8) (w0 := w) w.heap.size rfl (.tmp 21) (.tmp 27) 22 5 (.int .u8 0) 1 rfl Try.underlying22 info5 rfl (by decide) (by omega) v125 y124 (l0.take ((ji7) : Int).toNat) _ _ _ (fun _ => True) (fun _ => False) rfl rfl ?aO ?aR (fun _ _ h => h) (fun _ h => h.elim) ?aF ?aB ?aS ?aL ?_; (case aR => first | (refine RR_len (show (l0.take ((ji7) : Int).toNat).length = (ji7).toNat from (by rw [List.length_take]; have h_ : ((ji7) : Int) ≤ (l0.length : Int) := of_decide_eq_true (by first | (with_reducible assumption) | assumption); omega)) ?_; repeat (first | exact (Kd.C_below HR127.out HB.out) | (with_reducible refine Kd.C_alloc ?_ _) | (with_reducible refine Kd.C_drewN ?_ _) | (with_reducible refine Kd.C_drew ?_))) | (repeat (first | exact (Kd.C_below HR127.out HB.out) | (with_reducible refine Kd.C_alloc ?_ _) | (with_reducible refine Kd.C_drewN ?_ _) | (with_reducible refine Kd.C_drew ?_)))); (case aB => exact (by repeat (first | (with_reducible first | exact HB.out | apply below_alloc | apply pw_below_drewN | apply below_drew1) | exact HB.out))); (case aF => exact (fun _ _ => trivial)); (case aO => exact (by (with_reducible repeat (first | apply Kd.R_alloc | apply Kd.R_drewN | apply Kd.R_drew)); exact HO126.out)); (case aS => exact (below_size (by repeat (first | (with_reducible first | exact HB.out | apply below_alloc | apply pw_below_drewN | apply below_drew1) | exact HB.out)))); (case aL => have := LMc10.out; have hlx_ := (show (l0.take ((ji7) : Int).toNat).length = (ji7).toNat from (by rw [List.length_take]; have h_ : ((ji7) : Int) ≤ (l0.length : Int) := of_decide_eq_true (by first | (with_reducible assumption) | assumption); omega)); omega); intro v129 w29 ho hb hg hat; rw [← Ny128.out] at ho; have n0_ := Aside0.mk (hb); have n1_ := Aside0.mk (ho); clear HB; clear HO126; have HB := n0_; have HO130 := n1_; clear n0_ n1_; clear ho hb hg hat; have p12 : 0 ≤ (0 : Int) := (by omega); have q12 : (0 : Int) < ((y128.length : Int) : Int) := of_decide_eq_true (by first | (with_reducible assumption) | assumption); have qi12 : (0 < y128.length) = True := eq_true (by omega); obtain ⟨go12, co12, eo12, gb12, gl12, cl12, HG12⟩ := Kd.R_form HO130.out (by omega); (first | cases eo12 | (injection eo12 with ea_ en_ ec_; (first | subst ea_ | (injection ea_ with ea_; subst ea_)); subst ec_; clear en_)); have GB12 := Aside0.mk gb12; have GG12 := Aside0.mk HG12; clear gb12 gl12 HG12; obtain ⟨hx12_0, hf12_0⟩ := Kd.R_celln 0 HO130.out (0 : Int) p12 q12; (try rw [show ((0 : Int)).toNat = 0 from rfl] at hx12_0); (try simp only [Nat.reduceMul, Nat.zero_mul, Nat.zero_add, Nat.reduceAdd] at hx12_0); (try rw [show ((0 : Int)).toNat = 0 from rfl] at hf12_0); (try simp only [Nat.reduceMul, Nat.zero_mul, Nat.zero_add, Nat.reduceAdd] at hf12_0); replace p12 := eq_true p12; replace q12 := eq_true q12; obtain ⟨hy30_, hz30_⟩ := Kd.R_celln 0 HO130.out (0 : Int) (by omega) (of_decide_eq_true (by first | (with_reducible assumption) | assumption)); (try simp only [Int.reduceToNat, Int.toNat_zero, Int.toNat_ofNat, Nat.reduceMul, Nat.zero_mul, Nat.zero_add] at hy30_ hz30_); (try rw [show ((0 : Int)).toNat = 0 from rfl] at hy30_); (try rw [show ((0 : Int)).toNat = 0 from rfl] at hz30_); have HP30 := Kd.R_putg HO130.out (0 : Int) 0) | ((with_reducible refine gate_store (t := 5) (p := 31) rfl ?_); refine store_event (t := 5) (p := 31) (v := ?vo_w31) (w1 := (w29.setCell ⟨go12, (0 : Int).toNat, none⟩ (.int .u8 0))) ?hg ?ho ?hn ?hr ?_; (case ho => rfl); (case hg => rfl); (case hn => rfl); (case hr => first | (go_simp; done) | (go_simp; rfl)); intro w31 hw; have hg : w29.grownBy w31 (some go12) := (by rw [hw]; exact HP30.2); have hp_ : Kd.R (Kd.int .u8) 5 w31 w.heap.size (fun _ => True) (.slice (some ⟨go12, 0, none⟩) y128.length co12) y131 := (by rw [hw, Ny131.out]; exact HP30.1); clear HP30; have n0_ := Aside0.mk (hp_); have n1_ := Aside0.mk ((by rw [hw]; exact below_set (HB.out) GB12.out : Below w.heap.size w w31)); clear HO130; clear HB; have HO130 := n0_; have HB := n1_; clear n0_ n1_; clear hg hw hp_; have p14 : 0 ≤ (1 : Int) := (by omega); have q14 : (1 : Int) < ((y128.length : Int) : Int) := of_decide_eq_true (by first | (with_reducible assumption) | assumption); have qi14 : (1 < y128.length) = True := eq_true (by omega); obtain ⟨hx14_0, hf14_0⟩ := Kd.R_celln 0 HO130.out (1 : Int) p14 q14; (try rw [show ((1 : Int)).toNat = 1 from rfl] at hx14_0); (try simp only [Nat.reduceMul, Nat.zero_mul, Nat.zero_add, Nat.reduceAdd] at hx14_0); (try rw [show ((1 : Int)).toNat = 1 from rfl] at hf14_0); (try simp only [Nat.reduceMul, Nat.zero_mul, Nat.zero_add, Nat.reduceAdd] at hf14_0); replace p14 := eq_true p14; replace q14 := eq_true q14; obtain ⟨hy32_, hz32_⟩ := Kd.R_celln 0 HO130.out (1 : Int) (by omega) (of_decide_eq_true (by first | (with_reducible assumption) | assumption)); (try simp only [Int.reduceToNat, Int.toNat_zero, Int.toNat_ofNat, Nat.reduceMul, Nat.zero_mul, Nat.zero_add] at hy32_ hz32_); (try rw [show ((1 : Int)).toNat = 1 from rfl] at hy32_); (try rw [show ((1 : Int)).toNat = 1 from rfl] at hz32_); have HP32 := Kd.R_putg HO130.out (1 : Int) 0) | ((with_reducible refine gate_store (t := 5) (p := 32) rfl ?_); refine store_event (t := 5) (p := 32) (v := ?vo_w33) (w1 := (w31.setCell ⟨go12, (1 : Int).toNat, none⟩ (.int .u8 0))) ?hg ?ho ?hn ?hr ?_; (case ho => rfl); (case hg => rfl); (case hn => rfl); (case hr => first | (go_simp; done) | (go_simp; rfl)); intro w33 hw; have hg : w31.grownBy w33 (some go12) := (by rw [hw]; exact HP32.2); have hp_ : Kd.R (Kd.int .u8) 5 w33 w.heap.size (fun _ => True) (.slice (some ⟨go12, 0, none⟩) y128.length co12) y132 := (by rw [hw, Ny132.out]; exact HP32.1); clear HP32; have n0_ := Aside0.mk (hp_); have n1_ := Aside0.mk ((by rw [hw]; exact below_set (HB.out) GB12.out : Below w.heap.size w w33)); clear HO130; clear HB; have HO130 := n0_; have HB := n1_; clear n0_ n1_; clear hg hw hp_) | ((with_reducible refine gate_callee (f := 27) rfl ?_); refine goesL_ (some 34) rfl rfl Try.func27 (by kernel_rfl) rfl #[.slice (some ⟨go12, 0, none⟩) y132.length co12] rfl (by (try simp only [List.map_toArray, List.map_cons, List.map_nil]); first | done | (rw [show y132.length = y128.length from (Kd.R_reads' HO130.out).1.symm] <;> rfl) | rfl | (simp only [List.length_drop, List.length_take]; rfl)) ?_; (with_reducible refine (castellanref2_Of.calls kj3 _ _ y132 t133 _ ?side1 ?side2 A15.out).mono ?_); (case side1 => repeat (first | exact (Kd.R_reads' HO130.out).2.2 | (with_reducible refine Kd.C_alloc ?_ _) | (with_reducible refine Kd.C_drewN ?_ _) | (with_reducible refine Kd.C_drew ?_))); (case side2 => rw [show y132.length = y128.length from (Kd.R_reads' HO130.out).1.symm]; exact (Kd.R_reads' HO130.out).2.1); rintro e w' ⟨rfl, ⟨nd, rfl⟩⟩; refine ⟨_, rfl, ?_⟩; (try (rw [drewN_self w33]; generalize hq_ : World.drewN w33 _ = w33; have n0_ : Aside0 (Kd.R (Kd.int .u8) 5 w33 w.heap.size (fun _ => True) (.slice (some ⟨go12, 0, none⟩) y128.length co12) y132) := ⟨by rw [← hq_]; exact (by (with_reducible repeat (first | apply Kd.R_alloc | apply Kd.R_drewN | apply Kd.R_drew)); exact HO130.out)⟩; have n1_ : Aside0 (Below w.heap.size w w33) := ⟨by rw [← hq_]; exact (by repeat (first | (with_reducible first | exact HB.out | apply below_alloc | apply pw_below_drewN | apply below_drew1) | exact HB.out))⟩; clear HO130 HB hq_; have HO130 := n0_; have HB := n1_; clear n0_ n1_))) | ((with_reducible refine gate_callee (f := 19) rfl ?_); refine goesL_ (some 35) rfl rfl Try.func19 (by kernel_rfl) rfl #[.int .i64 t133] rfl (by (try simp only [List.map_toArray, List.map_cons, List.map_nil]); first | done | rfl | (simp only [List.length_drop, List.length_take]; rfl)) ?_; (with_reducible refine (castellanref1_Put16.calls t133 t134 _ A16.out).mono ?_); rintro e w34 ⟨v135, rfl, ho0, hb⟩; refine ⟨_, rfl, ?_⟩; have n0_ := Aside0.mk (Kd.R_elder' (by (with_reducible repeat (first | apply Kd.R_alloc | apply Kd.R_drewN | apply Kd.R_drew)); exact HO130.out) (Kd.R_base ho0) hb); have n1_ := Aside0.mk (Kd.R_lower (Kd.R_new' ho0 (Kd.R_lt (by (with_reducible repeat (first | apply Kd.R_alloc | apply Kd.R_drewN | apply Kd.R_drew)); exact HO130.out))) (below_size (by repeat (first | (with_reducible first | exact HB.out | apply below_alloc | apply pw_below_drewN | apply below_drew1) | exact HB.out)))); have n2_ := Aside0.mk (below_step (by repeat (first | (with_reducible first | exact HB.out | apply below_alloc | apply pw_below_drewN | apply below_drew1) | exact HB.out)) hb); clear HO130; clear HB; have HO130 := n0_; have HO136 := n1_; have HB := n2_; clear n0_ n1_ n2_; (try clear hb); (try clear hb2); (try clear hk); (try clear hi); (try clear ho0)))
                        have n0_ := Aside0.mk (Kd.R_drew HO130.out)
                        have n1_ := Aside0.mk (Kd.R_drew HO136.out)
                        have n2_ := Aside0.mk (below_drew1 HB.out)
                        clear HO130
                        clear HO136
                        clear HB
                        have HO130 := n0_
                        have HO136 := n1_
                        have HB := n2_
                        clear n0_ n1_ n2_
                        obtain ⟨Ao36, co36, eo36⟩ := Kd.R_slice HO136.out
                        (first | subst eo36 | (injection eo36 with f1_ f2_ f3_; have f4_ := f1_.symm; have f5_ := f3_.symm; clear f1_ f2_ f3_; subst f4_; subst f5_))
                        have p137 : 0 ≤ (0 : Int) := (by omega)
                        have q137 : 0 < (t134.length : Int) := of_decide_eq_true (by first | (with_reducible assumption) | assumption)
                        obtain ⟨ad137, e137, hx137_0⟩ := Kd.at_int (Kd.R_reads' HO136.out).2.2 0 p137 q137
                        cases e137
                        have qi137 : (0 < t134.length) = True := eq_true (by omega)
                        (try rw [show ((0 : Int)).toNat = 0 from rfl] at hx137_0)
                        (try rw [Addr.add_zero'] at hx137_0)
                        replace p137 := eq_true p137
                        replace q137 := eq_true q137
                        have p138 : 0 ≤ (1 : Int) := (by omega)
                        have q138 : 1 < (t134.length : Int) := of_decide_eq_true (by first | (with_reducible assumption) | assumption)
                        obtain ⟨ad138, e138, hx138_0⟩ := Kd.at_int (Kd.R_reads' HO136.out).2.2 1 p138 q138
                        obtain rfl : ad137 = ad138 := (by injection e138)
                        (try simp only [show (1 : Int).toNat = 1 from rfl, Nat.reduceMul, Nat.reduceEqDiff, Go.Addr.add, ↓reduceIte] at hx138_0)
                        have qi138 : (1 < t134.length) = True := eq_true (by omega)
                        (try rw [show ((1 : Int)).toNat = 1 from rfl] at hx138_0)
                        replace p138 := eq_true p138
                        replace q138 := eq_true q138
                        have p19 : 0 ≤ (0 : Int) := (by omega)
                        have q19 : (0 : Int) < ((y128.length : Int) : Int) := of_decide_eq_true (by first | (with_reducible assumption) | assumption)
                        have qi19 : (0 < y128.length) = True := eq_true (by omega)
                        obtain ⟨hx19_0, hf19_0⟩ := Kd.R_celln 0 HO130.out (0 : Int) p19 q19
                        (try rw [show ((0 : Int)).toNat = 0 from rfl] at hx19_0)
                        (try simp only [Nat.reduceMul, Nat.zero_mul, Nat.zero_add, Nat.reduceAdd] at hx19_0)
                        (try rw [show ((0 : Int)).toNat = 0 from rfl] at hf19_0)
                        (try simp only [Nat.reduceMul, Nat.zero_mul, Nat.zero_add, Nat.reduceAdd] at hf19_0)
                        replace p19 := eq_true p19
                        replace q19 := eq_true q19
                        have HP37 := Kd.R_putn HO130.out (0 : Int) (rd t134 0)
                        rw [← Ny139.out] at HP37
                        have HQ37 := Aside0.mk HP37
                        clear HP37
                        have p20 : 0 ≤ (1 : Int) := (by omega)
                        have q20 : (1 : Int) < ((y128.length : Int) : Int) := of_decide_eq_true (by first | (with_reducible assumption) | assumption)
                        have qi20 : (1 < y128.length) = True := eq_true (by omega)
                        obtain ⟨hx20_0, hf20_0⟩ := Kd.R_celln 0 HQ37.out (1 : Int) p20 q20
                        obtain ⟨hx38_0, hf38_0⟩ := Kd.R_celln 0 HO130.out (1 : Int) p20 q20
                        (try rw [show ((1 : Int)).toNat = 1 from rfl] at hx38_0)
                        (try simp only [Nat.reduceMul, Nat.zero_mul, Nat.zero_add, Nat.reduceAdd] at hx38_0)
                        (try rw [show ((1 : Int)).toNat = 1 from rfl] at hf38_0)
                        (try simp only [Nat.reduceMul, Nat.zero_mul, Nat.zero_add, Nat.reduceAdd] at hf38_0)
                        (try rw [show ((1 : Int)).toNat = 1 from rfl] at hx20_0)
                        (try simp only [Nat.reduceMul, Nat.zero_mul, Nat.zero_add, Nat.reduceAdd] at hx20_0)
                        (try rw [show ((1 : Int)).toNat = 1 from rfl] at hf20_0)
                        (try simp only [Nat.reduceMul, Nat.zero_mul, Nat.zero_add, Nat.reduceAdd] at hf20_0)
                        replace p20 := eq_true p20
                        replace q20 := eq_true q20
                        have HP39 := Kd.R_putn HQ37.out (1 : Int) (rd t134 1)
                        rw [← Ny140.out] at HP39
                        have HQ39 := Aside0.mk HP39
                        clear HP39
                        refine start_ (n := 12) (S := fun w' => w'.cell? ad137 = some (.int .u8 (rd t134 0)) ∧ w'.cell? ⟨ad137.block, ad137.off + 1, none⟩ = some (.int .u8 (rd t134 1))) (ds := [9, 11]) #[false, false, false, false, false, false, false, false, false, false, false, false] (by kernel_rfl) rfl rfl ⟨hx137_0, hx138_0⟩ (fun hHeld => ?_); refine with_tabW castellanlaw2_SumUpdates.tab6 castellanlaw2_SumUpdates.bits6 (fun HT_ HW_ => ?_)
                        generalize w34.drew = w35 at HO130 HO136 HB HQ37 HQ39 hf19_0 hf20_0 hf38_0 hx137_0 hx138_0 hx19_0 hx20_0 hx38_0 hHeld ⊢
                        refine pure_ (i := 0) (N := some 36) (v := ?_) (a' := ?_) #[true, false, false, false, false, false, false, false, false, false, false, false] rfl rfl (any_of HT_.out (by kernel_rfl)) (fun _ _ _ h => h) (Or.inl ⟨by rfl, ?_⟩) ?_ ?_
                        rotate_left
                        · intro w'
                          go_simp
                          with_reducible rfl
                        rotate_left
                        · simp only [Act.put, List.setIfInBounds_toArray, List.set_cons_zero, List.set_cons_succ, i64_w, i32_w]
                          rfl
                        refine pure_ (i := 1) (N := some 37) (v := ?_) (a' := ?_) #[true, true, false, false, false, false, false, false, false, false, false, false] rfl rfl (any_of HT_.out (by kernel_rfl)) (fun _ _ _ h => h) (Or.inl ⟨by rfl, ?_⟩) ?_ ?_
                        rotate_left
                        · intro w'
                          go_simp
                          with_reducible rfl
                        rotate_left
                        · simp only [Act.put, List.setIfInBounds_toArray, List.set_cons_zero, List.set_cons_succ, i64_w, i32_w]
                          rfl
                        refine pure_ (i := 2) (N := some 38) (v := ?_) (a' := ?_) #[true, true, true, false, false, false, false, false, false, false, false, false] rfl rfl (any_of HT_.out (by kernel_rfl)) (fun _ _ _ h => h) (Or.inl ⟨by rfl, ?_⟩) ?_ ?_
                        rotate_left
                        · intro w'
                          go_simp
                          with_reducible rfl
                        rotate_left
                        · simp only [Act.put, List.setIfInBounds_toArray, List.set_cons_zero, List.set_cons_succ, i64_w, i32_w]
                          rfl
                        refine pure_ (i := 3) (N := some 39) (v := ?_) (a' := ?_) #[true, true, true, true, false, false, false, false, false, false, false, false] rfl rfl (any_of HT_.out (by kernel_rfl)) (fun _ _ _ h => h) (Or.inl ⟨by rfl, ?_⟩) ?_ ?_
                        rotate_left
                        · intro w'
                          go_simp
                          with_reducible rfl
                        rotate_left
                        · simp only [Act.put, List.setIfInBounds_toArray, List.set_cons_zero, List.set_cons_succ, i64_w, i32_w]
                          rfl
                        refine pure_ (i := 5) (N := some 41) (v := ?_) (a' := ?_) #[true, true, true, true, false, true, false, false, false, false, false, false] rfl rfl (any_of HT_.out (by kernel_rfl)) (fun _ _ _ h => h) (Or.inl ⟨by rfl, ?_⟩) ?_ ?_
                        rotate_left
                        · intro w'
                          go_simp
                          with_reducible rfl
                        rotate_left
                        · simp only [Act.put, List.setIfInBounds_toArray, List.set_cons_zero, List.set_cons_succ, i64_w, i32_w]
                          rfl
                        refine pure_ (i := 6) (N := some 42) (v := ?_) (a' := ?_) #[true, true, true, true, false, true, true, false, false, false, false, false] rfl rfl (any_of HT_.out (by kernel_rfl)) (fun _ _ _ h => h) (Or.inl ⟨by rfl, ?_⟩) ?_ ?_
                        rotate_left
                        · intro w'
                          go_simp
                          with_reducible rfl
                        rotate_left
                        · simp only [Act.put, List.setIfInBounds_toArray, List.set_cons_zero, List.set_cons_succ, i64_w, i32_w]
                          rfl
                        refine take_ (i := 4) (N := some 40) (v := ?_) (a' := ?_) #[true, true, true, true, true, true, true, false, false, false, false, false] rfl rfl (take_ofW HT_.out HW_.out (by kernel_rfl)) (fun _ _ _ h => h) (Or.inl ⟨by rfl, ?_⟩) hHeld ?_ ?_
                        rotate_left
                        · rintro w' ⟨s0, s1⟩
                          go_simp
                          with_reducible rfl
                        rotate_left
                        · simp only [Act.put, List.setIfInBounds_toArray, List.set_cons_zero, List.set_cons_succ, i64_w, i32_w]
                          rfl
                        refine take_ (i := 7) (N := some 43) (v := ?_) (a' := ?_) #[true, true, true, true, true, true, true, true, false, false, false, false] rfl rfl (take_ofW HT_.out HW_.out (by kernel_rfl)) (fun _ _ _ h => h) (Or.inl ⟨by rfl, ?_⟩) hHeld ?_ ?_
                        rotate_left
                        · rintro w' ⟨s0, s1⟩
                          go_simp
                          with_reducible rfl
                        rotate_left
                        · simp only [Act.put, List.setIfInBounds_toArray, List.set_cons_zero, List.set_cons_succ, i64_w, i32_w]
                          rfl
                        refine pure_ (i := 8) (N := some 44) (v := ?_) (a' := ?_) #[true, true, true, true, true, true, true, true, true, false, false, false] rfl rfl (any_of HT_.out (by kernel_rfl)) (fun _ _ _ h => h) (Or.inl ⟨by rfl, ?_⟩) ?_ ?_
                        rotate_left
                        · intro w'
                          go_simp
                          with_reducible rfl
                        rotate_left
                        · simp only [Act.put, List.setIfInBounds_toArray, List.set_cons_zero, List.set_cons_succ, i64_w, i32_w]
                          rfl
                        refine last_ (i := 9) (N := none) #[true, true, true, true, true, true, true, true, true, true, false, false] rfl rfl (one_of HT_.out (by kernel_rfl)) (by decide) (fun K hK => ?_)
                        refine skip_ (w1 := ?_) (by rfl) rfl ?_ ?_
                        rotate_left
                        · go_simp
                          rfl
                        refine hK.out _ _ ?_
                        clear hK K
                        refine pure_ (i := 10) (N := some 45) (v := ?_) (a' := ?_) #[true, true, true, true, true, true, true, true, true, true, true, false] rfl rfl (any_of HT_.out (by kernel_rfl)) (fun _ _ _ h => h) (Or.inl ⟨by rfl, ?_⟩) ?_ ?_
                        rotate_left
                        · intro w'
                          go_simp
                          with_reducible rfl
                        rotate_left
                        · simp only [Act.put, List.setIfInBounds_toArray, List.set_cons_zero, List.set_cons_succ, i64_w, i32_w]
                          rfl
                        refine last_ (i := 11) (N := none) #[true, true, true, true, true, true, true, true, true, true, true, true] rfl rfl (one_of HT_.out (by kernel_rfl)) (by decide) (fun K hK => ?_)
                        refine skip_ (w1 := ?_) (by rfl) rfl ?_ ?_
                        rotate_left
                        · go_simp
                          rfl
                        refine hK.out _ _ ?_
                        clear hK K
                        refine done_ (done_of HT_.out (by kernel_rfl)) ?_
                        go_upto_region 9 with (first | ((with_reducible refine gate_callee (f := 17) rfl ?_); refine goesL_ (some 56) rfl rfl Try.func17 (by kernel_rfl) rfl #[.slice (some ⟨go12, 0, none⟩) y140.length co12, .int .i64 0] rfl (by (try simp only [List.map_toArray, List.map_cons, List.map_nil]); first | done | (rw [show y140.length = y128.length from (Kd.R_reads' HQ39.out).1.symm] <;> rfl) | rfl | (simp only [List.length_drop, List.length_take]; rfl)) ?_; (with_reducible refine (castellanref1_Get16.calls _ _ y140 0 t141 _ ?side1 ?side2 A22.out).mono ?_); (case side1 => refine (Kd.R_reads' (e := 5) (base := w.heap.size) (ok := fun k_ => (True ∧ some k_ ≠ (.slice (some ad137) t134.length co36 : Value).ownBlock)) (n := y128.length) (c := co12) ?_).2.2; exact (by (with_reducible repeat (first | apply Kd.R_alloc | apply Kd.R_drewN | apply Kd.R_drew)); exact HQ39.out)); (case side2 => rw [show y140.length = y128.length from (Kd.R_reads' HQ39.out).1.symm]; exact (Kd.R_reads' HO130.out).2.1); rintro e w' ⟨rfl, ⟨nd, rfl⟩⟩; refine ⟨_, rfl, ?_⟩) | ((with_reducible refine gate_callee (f := 17) rfl ?_); refine goesL_ (some 59) rfl rfl Try.func17 (by kernel_rfl) rfl #[.slice (some ⟨go12, 0, none⟩) y140.length co12, .int .i64 (wrap64 (2 + (wrap64 (2 * (Int.tmod (Go.bits .and .i64 a1 65535) (wrap64 ((wrap64 ((y128.length : Int) / 2)) - 1)))))))] rfl (by (try simp only [List.map_toArray, List.map_cons, List.map_nil]); first | done | (rw [show y140.length = y128.length from (Kd.R_reads' HQ39.out).1.symm] <;> rfl) | rfl | (simp only [List.length_drop, List.length_take]; rfl)) ?_; (with_reducible refine (castellanref1_Get16.calls _ _ y140 (wrap64 (2 + (wrap64 (2 * (Int.tmod (Go.bits .and .i64 a1 65535) (wrap64 ((wrap64 ((y128.length : Int) / 2)) - 1))))))) t142 _ ?side1 ?side2 A23.out).mono ?_); (case side1 => refine (Kd.R_reads' (e := 5) (base := w.heap.size) (ok := fun k_ => (True ∧ some k_ ≠ (.slice (some ad137) t134.length co36 : Value).ownBlock)) (n := y128.length) (c := co12) ?_).2.2; exact (by (with_reducible repeat (first | apply Kd.R_alloc | apply Kd.R_drewN | apply Kd.R_drew)); exact HQ39.out)); (case side2 => rw [show y140.length = y128.length from (Kd.R_reads' HQ39.out).1.symm]; exact (Kd.R_reads' HO130.out).2.1); rintro e w' ⟨rfl, ⟨nd, rfl⟩⟩; refine ⟨_, rfl, ?_⟩) | ((with_reducible refine gate_callee (f := 26) rfl ?_); refine goesL_ (some 62) rfl rfl Try.func26 (by kernel_rfl) rfl #[.int .i64 t141, .int .i64 t142, .int .i64 (wrap64 (a2))] rfl (by (try simp only [List.map_toArray, List.map_cons, List.map_nil]); first | done | rfl | (simp only [List.length_drop, List.length_take]; rfl)) ?_; (with_reducible refine (sum_Update.calls kj3 t141 t142 (wrap64 (a2)) t143 _ A24.out).mono ?_); rintro e w' ⟨rfl, ⟨nd, rfl⟩⟩; refine ⟨_, rfl, ?_⟩))
                        (try simp only [Act.put, List.setIfInBounds_toArray, List.set_cons_zero, List.set_cons_succ])
                        go_cut [68] (fun v68 wc => ∃ (kq : Nat) (x68_24 : Bool), v68 = .bool x68_24 ∧ Aside0 (castellanlaw2_SumUpdates.j1 kq a2 y140 (wrap64 (2 + (wrap64 (2 * (Int.tmod (Go.bits .and .i64 a1 65535) (wrap64 ((wrap64 ((y128.length : Int) / 2)) - 1))))))) t143 x68_24 = some r) ∧ Aside0 (kq ≤ kj3) ∧ Aside0 (Kd.R (Kd.int .u8) 5 wc w.heap.size (fun _ => True) (.slice (some ⟨go12, 0, none⟩) y128.length co12) y140) ∧ Aside0 (Below w.heap.size w wc))
                        case first =>
                          have H := HC25.out
                          clear HC25
                          by_cases c40 : t143 < 0
                          · rw [if_pos c40] at H
                            have c40b0 : decide (t143 < 0) = true := decide_eq_true c40
                            clear c40
                            (first | rw [c40b0] | (simp only [i64_w, i32_w]; rw [c40b0]) | skip)
                            have H' := Aside0.mk H
                            clear H
                            go_wp2
                            go_meet
                            case rel => exact ⟨_, (true), (by first | rfl | (simp; done) | (simp [*]; done)), H', ⟨by have := HJ3.out; first | omega | exact Nat.le_refl _⟩, ⟨by (with_reducible repeat (first | apply Kd.R_alloc | apply Kd.R_drewN | apply Kd.R_drew)); exact Kd.R_mono HQ39.out (fun _ hk => trivial)⟩, ⟨by repeat (first | (with_reducible first | exact HB.out | apply below_alloc | apply pw_below_drewN | apply below_drew1 | refine below_set ?_ GB12.out | refine below_set ?_ GB12.out) | exact HB.out)⟩⟩
                          · rw [if_neg c40] at H
                            have c40b0 : decide (t143 < 0) = false := decide_eq_false c40
                            clear c40
                            (first | rw [c40b0] | (simp only [i64_w, i32_w]; rw [c40b0]) | skip)
                            have H' := Aside0.mk H
                            clear H
                            go_wp2
                            go_meet
                            case rel => exact ⟨_, (decide (t143 > 65535)), (by first | rfl | (simp; done) | (simp [*]; done)), H', ⟨by have := HJ3.out; first | omega | exact Nat.le_refl _⟩, ⟨by (with_reducible repeat (first | apply Kd.R_alloc | apply Kd.R_drewN | apply Kd.R_drew)); exact Kd.R_mono HQ39.out (fun _ hk => trivial)⟩, ⟨by repeat (first | (with_reducible first | exact HB.out | apply below_alloc | apply pw_below_drewN | apply below_drew1 | refine below_set ?_ GB12.out | refine below_set ?_ GB12.out) | exact HB.out)⟩⟩
                        case rest =>
                          clear HC25
                          try clear c1
                          try clear p1
                          try clear q1
                          try clear hx1
                          try clear qi1
                          try clear c2
                          try clear p2
                          try clear q2
                          try clear hx2
                          try clear qi2
                          try clear hx3
                          try clear hf3
                          try clear c4
                          try clear c5
                          try clear c5b0
                          try clear c5b1
                          try clear c6
                          try clear p6
                          try clear c8
                          try clear c8b0
                          try clear c8b1
                          try clear c9
                          try clear c9b0
                          try clear c9b1
                          try clear c10
                          try clear c11
                          try clear c11b0
                          try clear c11b1
                          try clear p12
                          try clear q12
                          try clear hx12
                          try clear qi12
                          try clear hf12
                          try clear c13
                          try clear c13b0
                          try clear c13b1
                          try clear p13
                          try clear q13
                          try clear hx13
                          try clear qi13
                          try clear p14
                          try clear q14
                          try clear hx14
                          try clear qi14
                          try clear hf14
                          try clear c17
                          try clear c17b0
                          try clear c17b1
                          try clear c18
                          try clear c18b0
                          try clear c18b1
                          try clear c19
                          try clear p19
                          try clear q19
                          try clear hx19
                          try clear qi19
                          try clear hf19
                          try clear p20
                          try clear q20
                          try clear hx20
                          try clear qi20
                          try clear hf20
                          try clear c21
                          try clear c21b0
                          try clear c21b1
                          try clear c26
                          try clear c27
                          try clear hx38
                          try clear hf38
                          try clear c40
                          try clear c40b0
                          try clear hx12_0
                          try clear hx137_0
                          try clear hx138_0
                          try clear hx14_0
                          try clear hx19_0
                          try clear hx20_0
                          try clear hx38_0
                          try clear p12
                          try clear p137
                          try clear p138
                          try clear p14
                          try clear p19
                          try clear p2
                          try clear p20
                          try clear q12
                          try clear q137
                          try clear q138
                          try clear q14
                          try clear q19
                          try clear q20
                          obtain ⟨kq, x68_24, rfl, HA, HJ24, HO_7, HB⟩ := hcut
                          have hl7_24 := (Kd.R_reads' HO_7.out).1
                          rw [hl7_24] at HO_7
                          (try simp only [hl7_24])
                          cases kq with
                          | zero => exact absurd HA.out (by simp [castellanlaw2_SumUpdates.j1])
                          | succ kj24 =>
                            have H := HA.out
                            clear HA
                            simp only [castellanlaw2_SumUpdates.j1] at H
                            by_cases c41 : x68_24 = true
                            · subst c41
                              have H1 : (some false) = some r := by rw [if_pos rfl] at H; exact H
                              clear H
                              have H := H1
                              clear H1
                              exact absurd (H.trans (congrArg some HRT.out)) (by simp)
                            · replace c41 := Bool.eq_false_iff.mpr c41
                              subst c41
                              have H1 : (if 0 < (y140.length : Int) then (if 1 < (y140.length : Int) then (if 0 ≤ (wrap64 (2 + (wrap64 (2 * (Int.tmod (Go.bits .and .i64 a1 65535) (wrap64 ((wrap64 ((y128.length : Int) / 2)) - 1))))))) then (if (wrap64 (2 + (wrap64 (2 * (Int.tmod (Go.bits .and .i64 a1 65535) (wrap64 ((wrap64 ((y128.length : Int) / 2)) - 1))))))) < (y140.length : Int) then (if 0 ≤ (wrap64 ((wrap64 (2 + (wrap64 (2 * (Int.tmod (Go.bits .and .i64 a1 65535) (wrap64 ((wrap64 ((y128.length : Int) / 2)) - 1))))))) + 1)) then (if (wrap64 ((wrap64 (2 + (wrap64 (2 * (Int.tmod (Go.bits .and .i64 a1 65535) (wrap64 ((wrap64 ((y128.length : Int) / 2)) - 1))))))) + 1)) < (y140.length : Int) then (castellanlaw2_SumUpdates.l0 kj24 ((((y140.set (0 : Int).toNat ((t143 / 256) % 256)).set (1 : Int).toNat ((t143) % 256)).set ((wrap64 (2 + (wrap64 (2 * (Int.tmod (Go.bits .and .i64 a1 65535) (wrap64 ((wrap64 ((y128.length : Int) / 2)) - 1))))))) : Int).toNat ((a2 / 256) % 256)).set ((wrap64 ((wrap64 (2 + (wrap64 (2 * (Int.tmod (Go.bits .and .i64 a1 65535) (wrap64 ((wrap64 ((y128.length : Int) / 2)) - 1))))))) + 1)) : Int).toNat ((a2) % 256)) 0 0) else (none)) else (none)) else (none)) else (none)) else (none)) else (none)) = some r := by rw [if_neg (show ¬ (false = true) by decide)] at H; exact H
                              clear H
                              have H := H1
                              clear H1
                              by_cases c42 : 0 < (y140.length : Int)
                              · rw [if_pos c42] at H
                                have c42b0 : decide (0 < (y140.length : Int)) = true := decide_eq_true c42
                                have c42b1 : decide (0 < y140.length) = true := decide_eq_true (by omega)
                                clear c42
                                obtain ⟨y144, hy144⟩ : ∃ y_ : List Int, y_ = (y140.set (0 : Int).toNat ((t143 / 256) % 256)) := ⟨_, rfl⟩
                                replace H : (if 1 < (y140.length : Int) then (if 0 ≤ (wrap64 (2 + (wrap64 (2 * (Int.tmod (Go.bits .and .i64 a1 65535) (wrap64 ((wrap64 ((y128.length : Int) / 2)) - 1))))))) then (if (wrap64 (2 + (wrap64 (2 * (Int.tmod (Go.bits .and .i64 a1 65535) (wrap64 ((wrap64 ((y128.length : Int) / 2)) - 1))))))) < (y140.length : Int) then (if 0 ≤ (wrap64 ((wrap64 (2 + (wrap64 (2 * (Int.tmod (Go.bits .and .i64 a1 65535) (wrap64 ((wrap64 ((y128.length : Int) / 2)) - 1))))))) + 1)) then (if (wrap64 ((wrap64 (2 + (wrap64 (2 * (Int.tmod (Go.bits .and .i64 a1 65535) (wrap64 ((wrap64 ((y128.length : Int) / 2)) - 1))))))) + 1)) < (y140.length : Int) then (castellanlaw2_SumUpdates.l0 kj24 (((y144.set (1 : Int).toNat ((t143) % 256)).set ((wrap64 (2 + (wrap64 (2 * (Int.tmod (Go.bits .and .i64 a1 65535) (wrap64 ((wrap64 ((y128.length : Int) / 2)) - 1))))))) : Int).toNat ((a2 / 256) % 256)).set ((wrap64 ((wrap64 (2 + (wrap64 (2 * (Int.tmod (Go.bits .and .i64 a1 65535) (wrap64 ((wrap64 ((y128.length : Int) / 2)) - 1))))))) + 1)) : Int).toNat ((a2) % 256)) 0 0) else (none)) else (none)) else (none)) else (none)) else (none)) = some r := by first | (rw [hy144]; with_reducible exact H) | (have H2_ := (Option.bind_some _ _).symm.trans H; rw [hy144]; with_reducible exact H2_) | (have H2_ := (Option.bind_some _ _).symm.trans H; with_reducible exact H2_) | with_reducible exact H | (rw [hy144]; exact H) | exact H
                                have Ny144 := Aside0.mk hy144
                                clear hy144
                                by_cases c44 : 1 < (y140.length : Int)
                                · rw [if_pos c44] at H
                                  have c44b0 : decide (1 < (y140.length : Int)) = true := decide_eq_true c44
                                  have c44b1 : decide (1 < y140.length) = true := decide_eq_true (by omega)
                                  clear c44
                                  obtain ⟨y145, hy145⟩ : ∃ y_ : List Int, y_ = (y144.set (1 : Int).toNat ((t143) % 256)) := ⟨_, rfl⟩
                                  replace H : (if 0 ≤ (wrap64 (2 + (wrap64 (2 * (Int.tmod (Go.bits .and .i64 a1 65535) (wrap64 ((wrap64 ((y128.length : Int) / 2)) - 1))))))) then (if (wrap64 (2 + (wrap64 (2 * (Int.tmod (Go.bits .and .i64 a1 65535) (wrap64 ((wrap64 ((y128.length : Int) / 2)) - 1))))))) < (y140.length : Int) then (if 0 ≤ (wrap64 ((wrap64 (2 + (wrap64 (2 * (Int.tmod (Go.bits .and .i64 a1 65535) (wrap64 ((wrap64 ((y128.length : Int) / 2)) - 1))))))) + 1)) then (if (wrap64 ((wrap64 (2 + (wrap64 (2 * (Int.tmod (Go.bits .and .i64 a1 65535) (wrap64 ((wrap64 ((y128.length : Int) / 2)) - 1))))))) + 1)) < (y140.length : Int) then (castellanlaw2_SumUpdates.l0 kj24 ((y145.set ((wrap64 (2 + (wrap64 (2 * (Int.tmod (Go.bits .and .i64 a1 65535) (wrap64 ((wrap64 ((y128.length : Int) / 2)) - 1))))))) : Int).toNat ((a2 / 256) % 256)).set ((wrap64 ((wrap64 (2 + (wrap64 (2 * (Int.tmod (Go.bits .and .i64 a1 65535) (wrap64 ((wrap64 ((y128.length : Int) / 2)) - 1))))))) + 1)) : Int).toNat ((a2) % 256)) 0 0) else (none)) else (none)) else (none)) else (none)) = some r := by first | (rw [hy145]; with_reducible exact H) | (have H2_ := (Option.bind_some _ _).symm.trans H; rw [hy145]; with_reducible exact H2_) | (have H2_ := (Option.bind_some _ _).symm.trans H; with_reducible exact H2_) | with_reducible exact H | (rw [hy145]; exact H) | exact H
                                  have Ny145 := Aside0.mk hy145
                                  clear hy145
                                  obtain ⟨ji46, hji46⟩ : ∃ j_ : Int, (wrap64 (2 + (wrap64 (2 * (Int.tmod (Go.bits .and .i64 a1 65535) (wrap64 ((wrap64 ((y128.length : Int) / 2)) - 1))))))) = j_ := ⟨_, rfl⟩
                                  replace H : (if 0 ≤ (ji46) then (if (ji46) < (y140.length : Int) then (if 0 ≤ (wrap64 ((ji46) + 1)) then (if (wrap64 ((ji46) + 1)) < (y140.length : Int) then (castellanlaw2_SumUpdates.l0 kj24 ((y145.set ((ji46) : Int).toNat ((a2 / 256) % 256)).set ((wrap64 ((ji46) + 1)) : Int).toNat ((a2) % 256)) 0 0) else (none)) else (none)) else (none)) else (none)) = some r := by first | (rw [hji46] at H; exact H) | (simp only [hji46] at H ⊢; exact H)
                                  have hji46w : (IntKind.i64.wrap (2 + (wrap64 (2 * (Int.tmod (Go.bits .and .i64 a1 65535) (wrap64 ((wrap64 ((y128.length : Int) / 2)) - 1))))))) = ji46 := (i64_w _).trans hji46
                                  (try simp only [hl7_24] at hji46)
                                  (try simp only [hl7_24] at hji46w)
                                  by_cases c47 : 0 ≤ (ji46)
                                  · rw [if_pos c47] at H
                                    have c47b0 : decide (0 ≤ (ji46)) = true := decide_eq_true c47
                                    clear c47
                                    by_cases c48 : (ji46) < (y140.length : Int)
                                    · rw [if_pos c48] at H
                                      have c48b0 : decide ((ji46) < (y140.length : Int)) = true := decide_eq_true c48
                                      clear c48
                                      obtain ⟨y146, hy146⟩ : ∃ y_ : List Int, y_ = (y145.set ((ji46) : Int).toNat ((a2 / 256) % 256)) := ⟨_, rfl⟩
                                      replace H : (if 0 ≤ (wrap64 ((ji46) + 1)) then (if (wrap64 ((ji46) + 1)) < (y140.length : Int) then (castellanlaw2_SumUpdates.l0 kj24 (y146.set ((wrap64 ((ji46) + 1)) : Int).toNat ((a2) % 256)) 0 0) else (none)) else (none)) = some r := by first | (rw [hy146]; with_reducible exact H) | (have H2_ := (Option.bind_some _ _).symm.trans H; rw [hy146]; with_reducible exact H2_) | (have H2_ := (Option.bind_some _ _).symm.trans H; with_reducible exact H2_) | with_reducible exact H | (rw [hy146]; exact H) | exact H
                                      have Ny146 := Aside0.mk hy146
                                      clear hy146
                                      obtain ⟨ji50, hji50⟩ : ∃ j_ : Int, (wrap64 ((ji46) + 1)) = j_ := ⟨_, rfl⟩
                                      replace H : (if 0 ≤ (ji50) then (if (ji50) < (y140.length : Int) then (castellanlaw2_SumUpdates.l0 kj24 (y146.set ((ji50) : Int).toNat ((a2) % 256)) 0 0) else (none)) else (none)) = some r := by first | (rw [hji50] at H; exact H) | (simp only [hji50] at H ⊢; exact H)
                                      have hji50w : (IntKind.i64.wrap ((ji46) + 1)) = ji50 := (i64_w _).trans hji50
                                      (try simp only [hl7_24] at hji50)
                                      (try simp only [hl7_24] at hji50w)
                                      by_cases c51 : 0 ≤ (ji50)
                                      · rw [if_pos c51] at H
                                        have c51b0 : decide (0 ≤ (ji50)) = true := decide_eq_true c51
                                        clear c51
                                        by_cases c52 : (ji50) < (y140.length : Int)
                                        · rw [if_pos c52] at H
                                          have c52b0 : decide ((ji50) < (y140.length : Int)) = true := decide_eq_true c52
                                          clear c52
                                          obtain ⟨y147, hy147⟩ : ∃ y_ : List Int, y_ = (y146.set ((ji50) : Int).toNat ((a2) % 256)) := ⟨_, rfl⟩
                                          replace H : (castellanlaw2_SumUpdates.l0 kj24 y147 0 0) = some r := by first | (rw [hy147]; with_reducible exact H) | (have H2_ := (Option.bind_some _ _).symm.trans H; rw [hy147]; with_reducible exact H2_) | (have H2_ := (Option.bind_some _ _).symm.trans H; with_reducible exact H2_) | with_reducible exact H | (rw [hy147]; exact H) | exact H
                                          have Ny147 := Aside0.mk hy147
                                          clear hy147
                                          have H' := Aside0.mk H
                                          clear H
                                          have p43 : 0 ≤ (0 : Int) := (by omega)
                                          have q43 : (0 : Int) < ((y140.length : Int) : Int) := of_decide_eq_true (by first | (with_reducible assumption) | assumption)
                                          have qi43 : (0 < y140.length) = True := eq_true (by omega)
                                          obtain ⟨hx43_0, hf43_0⟩ := Kd.R_celln 0 HO_7.out (0 : Int) p43 q43
                                          (try rw [show ((0 : Int)).toNat = 0 from rfl] at hx43_0)
                                          (try simp only [Nat.reduceMul, Nat.zero_mul, Nat.zero_add, Nat.reduceAdd] at hx43_0)
                                          (try rw [show ((0 : Int)).toNat = 0 from rfl] at hf43_0)
                                          (try simp only [Nat.reduceMul, Nat.zero_mul, Nat.zero_add, Nat.reduceAdd] at hf43_0)
                                          replace p43 := eq_true p43
                                          replace q43 := eq_true q43
                                          have HP54 := Kd.R_putg HO_7.out (0 : Int) ((t143 / 256) % 256)
                                          go_wp2_with (first | ((with_reducible refine gate_store (t := 5) (p := 86) rfl ?_); refine store_event (t := 5) (p := 86) (v := ?vo_w55) (w1 := (wc.setCell ⟨go12, (0 : Int).toNat, none⟩ (.int .u8 ((t143 / 256) % 256)))) ?hg ?ho ?hn ?hr ?_; (case ho => rfl); (case hg => rfl); (case hn => rfl); (case hr => first | (go_simp; done) | (go_simp; rfl)); intro w55 hw; have hg : wc.grownBy w55 (some go12) := (by rw [hw]; exact HP54.2); have hp_ : Kd.R (Kd.int .u8) 5 w55 w.heap.size (fun _ => True) (.slice (some ⟨go12, 0, none⟩) y140.length co12) y144 := (by rw [hw, Ny144.out]; exact HP54.1); clear HP54; have n0_ := Aside0.mk (hp_); have n1_ := Aside0.mk ((by rw [hw]; exact below_set (HB.out) GB12.out : Below w.heap.size w w55)); clear HO_7; clear HB; have HO_7 := n0_; have HB := n1_; clear n0_ n1_; clear hg hw hp_; have p45 : 0 ≤ (1 : Int) := (by omega); have q45 : (1 : Int) < ((y140.length : Int) : Int) := of_decide_eq_true (by first | (with_reducible assumption) | assumption); have qi45 : (1 < y140.length) = True := eq_true (by omega); obtain ⟨hx45_0, hf45_0⟩ := Kd.R_celln 0 HO_7.out (1 : Int) p45 q45; (try rw [show ((1 : Int)).toNat = 1 from rfl] at hx45_0); (try simp only [Nat.reduceMul, Nat.zero_mul, Nat.zero_add, Nat.reduceAdd] at hx45_0); (try rw [show ((1 : Int)).toNat = 1 from rfl] at hf45_0); (try simp only [Nat.reduceMul, Nat.zero_mul, Nat.zero_add, Nat.reduceAdd] at hf45_0); replace p45 := eq_true p45; replace q45 := eq_true q45; obtain ⟨hy56_, hz56_⟩ := Kd.R_celln 0 HO_7.out (1 : Int) (by omega) (of_decide_eq_true (by first | (with_reducible assumption) | assumption)); (try simp only [Int.reduceToNat, Int.toNat_zero, Int.toNat_ofNat, Nat.reduceMul, Nat.zero_mul, Nat.zero_add] at hy56_ hz56_); (try rw [show ((1 : Int)).toNat = 1 from rfl] at hy56_); (try rw [show ((1 : Int)).toNat = 1 from rfl] at hz56_); have HP56 := Kd.R_putg HO_7.out (1 : Int) ((t143) % 256)) | ((with_reducible refine gate_store (t := 5) (p := 87) rfl ?_); refine store_event (t := 5) (p := 87) (v := ?vo_w57) (w1 := (w55.setCell ⟨go12, (1 : Int).toNat, none⟩ (.int .u8 ((t143) % 256)))) ?hg ?ho ?hn ?hr ?_; (case ho => rfl); (case hg => rfl); (case hn => rfl); (case hr => first | (go_simp; done) | (go_simp; rfl)); intro w57 hw; have hg : w55.grownBy w57 (some go12) := (by rw [hw]; exact HP56.2); have hp_ : Kd.R (Kd.int .u8) 5 w57 w.heap.size (fun _ => True) (.slice (some ⟨go12, 0, none⟩) y140.length co12) y145 := (by rw [hw, Ny145.out]; exact HP56.1); clear HP56; have n0_ := Aside0.mk (hp_); have n1_ := Aside0.mk ((by rw [hw]; exact below_set (HB.out) GB12.out : Below w.heap.size w w57)); clear HO_7; clear HB; have HO_7 := n0_; have HB := n1_; clear n0_ n1_; clear hg hw hp_; have p49 : 0 ≤ ((ji46) : Int) := of_decide_eq_true (by first | (with_reducible assumption) | assumption); have q49 : ((ji46) : Int) < ((y140.length : Int) : Int) := of_decide_eq_true (by first | (with_reducible assumption) | assumption); obtain ⟨hx49_0, hf49_0⟩ := Kd.R_celln 0 HO_7.out ((ji46) : Int) p49 q49; replace p49 := eq_true p49; replace q49 := eq_true q49; obtain ⟨hy58_, hz58_⟩ := Kd.R_celln 0 HO_7.out ((ji46) : Int) (of_decide_eq_true (by first | (with_reducible assumption) | assumption)) (of_decide_eq_true (by first | (with_reducible assumption) | assumption)); have HP58 := Kd.R_putg HO_7.out ((ji46) : Int) ((a2 / 256) % 256)) | ((with_reducible refine gate_store (t := 5) (p := 88) rfl ?_); refine store_event (t := 5) (p := 88) (v := ?vo_w59) (w1 := (w57.setCell ⟨go12, ((ji46) : Int).toNat, none⟩ (.int .u8 ((a2 / 256) % 256)))) ?hg ?ho ?hn ?hr ?_; (case ho => rfl); (case hg => rfl); (case hn => rfl); (case hr => first | (go_simp; done) | (go_simp; rfl)); intro w59 hw; have hg : w57.grownBy w59 (some go12) := (by rw [hw]; exact HP58.2); have hp_ : Kd.R (Kd.int .u8) 5 w59 w.heap.size (fun _ => True) (.slice (some ⟨go12, 0, none⟩) y140.length co12) y146 := (by rw [hw, Ny146.out]; exact HP58.1); clear HP58; have n0_ := Aside0.mk (hp_); have n1_ := Aside0.mk ((by rw [hw]; exact below_set (HB.out) GB12.out : Below w.heap.size w w59)); clear HO_7; clear HB; have HO_7 := n0_; have HB := n1_; clear n0_ n1_; clear hg hw hp_; have p53 : 0 ≤ ((ji50) : Int) := of_decide_eq_true (by first | (with_reducible assumption) | assumption); have q53 : ((ji50) : Int) < ((y140.length : Int) : Int) := of_decide_eq_true (by first | (with_reducible assumption) | assumption); obtain ⟨hx53_0, hf53_0⟩ := Kd.R_celln 0 HO_7.out ((ji50) : Int) p53 q53; replace p53 := eq_true p53; replace q53 := eq_true q53; obtain ⟨hy60_, hz60_⟩ := Kd.R_celln 0 HO_7.out ((ji50) : Int) (of_decide_eq_true (by first | (with_reducible assumption) | assumption)) (of_decide_eq_true (by first | (with_reducible assumption) | assumption)); have HP60 := Kd.R_putg HO_7.out ((ji50) : Int) ((a2) % 256)) | ((with_reducible refine gate_store (t := 5) (p := 89) rfl ?_); refine store_event (t := 5) (p := 89) (v := ?vo_w61) (w1 := (w59.setCell ⟨go12, ((ji50) : Int).toNat, none⟩ (.int .u8 ((a2) % 256)))) ?hg ?ho ?hn ?hr ?_; (case ho => rfl); (case hg => rfl); (case hn => rfl); (case hr => first | (go_simp; done) | (go_simp; rfl)); intro w61 hw; have hg : w59.grownBy w61 (some go12) := (by rw [hw]; exact HP60.2); have hp_ : Kd.R (Kd.int .u8) 5 w61 w.heap.size (fun _ => True) (.slice (some ⟨go12, 0, none⟩) y140.length co12) y147 := (by rw [hw, Ny147.out]; exact HP60.1); clear HP60; have n0_ := Aside0.mk (hp_); have n1_ := Aside0.mk ((by rw [hw]; exact below_set (HB.out) GB12.out : Below w.heap.size w w61)); clear HO_7; clear HB; have HO_7 := n0_; have HB := n1_; clear n0_ n1_; clear hg hw hp_))
                                          go_loopg [11, 12] kj24 (fun kq v11 v12 w' => ∃ (x11_3 : Int) (x12_3 : Int), v11 = .int .i64 x11_3 ∧ v12 = .int .i64 x12_3 ∧ Aside0 (castellanlaw2_SumUpdates.l0 kq y147 x11_3 x12_3 = some r) ∧ Aside0 (kq ≤ kj24) ∧ Aside0 (Kd.R (Kd.int .u8) 5 w' w.heap.size (fun _ => True) (.slice (some ⟨go12, 0, none⟩) y140.length co12) y147) ∧ Aside0 (Below w.heap.size w w'))
                                          case atStart => exact ⟨(0), (0), (by first | rfl | (simp; done) | (simp [*]; done)), (by first | rfl | (simp; done) | (simp [*]; done)), H', ⟨Nat.le_refl _⟩, ⟨by (try simp only [hl7_24]); (with_reducible repeat (first | apply Kd.R_alloc | apply Kd.R_drewN | apply Kd.R_drew)); exact HO_7.out⟩, ⟨by repeat (first | (with_reducible first | exact HB.out | apply below_alloc | apply pw_below_drewN | apply below_drew1) | exact HB.out)⟩⟩
                                          case round =>
                                            clear H'
                                            try clear c1
                                            try clear p1
                                            try clear q1
                                            try clear hx1
                                            try clear qi1
                                            try clear c2
                                            try clear p2
                                            try clear q2
                                            try clear hx2
                                            try clear qi2
                                            try clear hx3
                                            try clear hf3
                                            try clear c4
                                            try clear p4
                                            try clear q4
                                            try clear hx4
                                            try clear qi4
                                            try clear hf4
                                            try clear c5
                                            try clear c5b0
                                            try clear c5b1
                                            try clear p5
                                            try clear q5
                                            try clear hx5
                                            try clear hf5
                                            try clear c6
                                            try clear p6
                                            try clear c8
                                            try clear c8b0
                                            try clear c8b1
                                            try clear c9
                                            try clear c9b0
                                            try clear c9b1
                                            try clear c10
                                            try clear c11
                                            try clear c11b0
                                            try clear c11b1
                                            try clear p12
                                            try clear q12
                                            try clear hx12
                                            try clear qi12
                                            try clear hf12
                                            try clear c13
                                            try clear c13b0
                                            try clear c13b1
                                            try clear p13
                                            try clear q13
                                            try clear hx13
                                            try clear qi13
                                            try clear p14
                                            try clear q14
                                            try clear hx14
                                            try clear qi14
                                            try clear hf14
                                            try clear c17
                                            try clear c17b0
                                            try clear c17b1
                                            try clear c18
                                            try clear c18b0
                                            try clear c18b1
                                            try clear c19
                                            try clear p19
                                            try clear q19
                                            try clear hx19
                                            try clear qi19
                                            try clear hf19
                                            try clear p20
                                            try clear q20
                                            try clear hx20
                                            try clear qi20
                                            try clear hf20
                                            try clear c21
                                            try clear c21b0
                                            try clear c21b1
                                            try clear c26
                                            try clear c27
                                            try clear hx38
                                            try clear hf38
                                            try clear c40
                                            try clear c40b0
                                            try clear c41
                                            try clear c42
                                            try clear c42b0
                                            try clear c42b1
                                            try clear p43
                                            try clear q43
                                            try clear hx43
                                            try clear qi43
                                            try clear hf43
                                            try clear c44
                                            try clear c44b0
                                            try clear c44b1
                                            try clear p45
                                            try clear q45
                                            try clear hx45
                                            try clear qi45
                                            try clear hf45
                                            try clear c47
                                            try clear c47b0
                                            try clear c48
                                            try clear c48b0
                                            try clear p49
                                            try clear q49
                                            try clear hx49
                                            try clear hf49
                                            try clear c51
                                            try clear c51b0
                                            try clear c52
                                            try clear c52b0
                                            try clear p53
                                            try clear q53
                                            try clear hx53
                                            try clear hf53
                                            try clear hx12_0
                                            try clear hx137_0
                                            try clear hx138_0
                                            try clear hx14_0
                                            try clear hx19_0
                                            try clear hx20_0
                                            try clear hx38_0
                                            try clear hx43_0
                                            try clear hx45_0
                                            try clear hx49_0
                                            try clear hx53_0
                                            try clear p1
                                            try clear p12
                                            try clear p13
                                            try clear p137
                                            try clear p138
                                            try clear p14
                                            try clear p19
                                            try clear p2
                                            try clear p20
                                            try clear p43
                                            try clear p45
                                            try clear p49
                                            try clear p53
                                            try clear p6
                                            try clear q1
                                            try clear q12
                                            try clear q13
                                            try clear q137
                                            try clear q138
                                            try clear q14
                                            try clear q19
                                            try clear q2
                                            try clear q20
                                            try clear q43
                                            try clear q45
                                            try clear q49
                                            try clear q53
                                            obtain ⟨x11_3, x12_3, rfl, rfl, HA, HK3, HO_7, HB⟩ := hrel
                                            have hl7_3 := (Kd.R_reads' HO_7.out).1
                                            rw [hl7_3] at HO_7
                                            (try simp only [hl7_3])
                                            cases gk with
                                            | zero => exact absurd HA.out (by simp [castellanlaw2_SumUpdates.l0])
                                            | succ k3 =>
                                              have H := HA.out
                                              clear HA
                                              simp only [castellanlaw2_SumUpdates.l0] at H
                                              by_cases c62 : x12_3 < (y147.length : Int)
                                              · rw [if_pos c62] at H
                                                have c62b0 : decide (x12_3 < (y147.length : Int)) = true := decide_eq_true c62
                                                clear c62
                                                by_cases c63 : 0 ≤ x12_3
                                                · rw [if_pos c63] at H
                                                  have c63b0 : decide (0 ≤ x12_3) = true := decide_eq_true c63
                                                  clear c63
                                                  have H' := Aside0.mk H
                                                  clear H
                                                  have p148 : 0 ≤ (x12_3 : Int) := of_decide_eq_true (by first | (with_reducible assumption) | assumption)
                                                  have q148 : x12_3 < (y147.length : Int) := of_decide_eq_true (by first | (with_reducible assumption) | assumption)
                                                  obtain ⟨ad148, e148, hx148_0⟩ := Kd.at_int (Kd.R_reads' HO_7.out).2.2 x12_3 p148 q148
                                                  obtain rfl : (⟨go12, 0, none⟩ : Addr) = ad148 := (by injection e148)
                                                  (first | simp only [add_plain] at hx148_0 | simp only [add_at] at hx148_0 | simp only [Addr.add, Nat.zero_add] at hx148_0 | skip)
                                                  replace p148 := eq_true p148
                                                  replace q148 := eq_true q148
                                                  go_wp2
                                                  (try simp only [← hl7_3])
                                                  go_roundg k3
                                                  case measure => have := HJ3.out; have := HJ24.out; have := HK3.out; omega
                                                  case rel => exact ⟨(Go.bits .or .i64 x11_3 (wrap64 (rd y147 x12_3))), (wrap64 (x12_3 + 1)), (by first | rfl | (simp; done) | (simp [*]; done)), (by first | rfl | (simp; done) | (simp [*]; done)), H', ⟨by have := HJ3.out; have := HJ24.out; have := HK3.out; omega⟩, ⟨by (try simp only [hl7_24]); (try simp only [hl7_3]); (with_reducible repeat (first | apply Kd.R_alloc | apply Kd.R_drewN | apply Kd.R_drew)); exact HO_7.out⟩, ⟨by repeat (first | (with_reducible first | exact HB.out | apply below_alloc | apply pw_below_drewN | apply below_drew1) | exact HB.out)⟩⟩
                                                · rw [if_neg c63] at H
                                                  exact absurd H (by simp)
                                              · rw [if_neg c62] at H
                                                have c62b0 : decide (x12_3 < (y147.length : Int)) = false := decide_eq_false c62
                                                clear c62
                                                replace H := Option.bind_eq_some_iff.mp H
                                                obtain ⟨t149, A640, H⟩ := H
                                                replace H : (if t149 = true then ((castellanlaw2_known.f k3).bind fun t150 => (some t150)) else (if x11_3 = 0 then ((castellanlaw2_known.f k3).bind fun t151 => (some t151)) else (some false))) = some r := H
                                                have A64 := Aside0.mk A640
                                                clear A640
                                                by_cases c65 : t149 = true
                                                · subst c65
                                                  have H1 : ((castellanlaw2_known.f k3).bind fun t150 => (some t150)) = some r := by rw [if_pos rfl] at H; exact H
                                                  clear H
                                                  have H := H1
                                                  clear H1
                                                  replace H := Option.bind_eq_some_iff.mp H
                                                  obtain ⟨t150, A660, H⟩ := H
                                                  replace H : (some t150) = some r := H
                                                  have A66 := Aside0.mk A660
                                                  clear A660
                                                  obtain rfl := Option.some.inj H
                                                  go_wp2_with (first | ((with_reducible refine gate_callee (f := 24) rfl ?_); refine goesL_ (some 104) rfl rfl Try.func24 (by kernel_rfl) rfl #[.slice (some ⟨go12, 0, none⟩) y147.length co12] rfl (by (try simp only [List.map_toArray, List.map_cons, List.map_nil]); first | done | rfl | (simp only [List.length_drop, List.length_take]; rfl)) ?_; (with_reducible refine (sum_Right.calls k3 (fun k_ => some k_ = (.slice (some ⟨go12, 0, none⟩) y147.length co12 : Value).ownBlock) _ _ y147 true _ ?side1 A64.out).mono ?_); (case side1 => exact Kd.R_V (Kd.R_tight rfl (HO_7.out))); rintro e w67 ⟨rfl, hb⟩; refine ⟨_, rfl, ?_⟩; have n0_ := Aside0.mk (Kd.R_below (by (with_reducible repeat (first | apply Kd.R_alloc | apply Kd.R_drewN | apply Kd.R_drew)); exact HO_7.out) hb); have n1_ := Aside0.mk (below_step (by repeat (first | (with_reducible first | exact HB.out | apply below_alloc | apply pw_below_drewN | apply below_drew1) | exact HB.out)) hb); clear HO_7; clear HB; have HO_7 := n0_; have HB := n1_; clear n0_ n1_; (try clear hb); (try clear hb2); (try clear hk); (try clear hi)) | (go_at_call 23; (with_reducible refine (castellanlaw2_known.calls k3  t150 _ A66.out).mono ?_); rintro e w68 ⟨rfl, hb⟩; have n0_ := Aside0.mk (Kd.R_below (by (with_reducible repeat (first | apply Kd.R_alloc | apply Kd.R_drewN | apply Kd.R_drew)); exact HO_7.out) hb); have n1_ := Aside0.mk (below_step (by repeat (first | (with_reducible first | exact HB.out | apply below_alloc | apply pw_below_drewN | apply below_drew1) | exact HB.out)) hb); clear HO_7; clear HB; have HO_7 := n0_; have HB := n1_; clear n0_ n1_; (try clear hb); (try clear hb2); (try clear hk); (try clear hi)))
                                                  go_ret
                                                  exact ⟨by first | rfl | (simp [errW_none, errW_some] <;> rfl) | (simp only [← hji7, ← hji46, ← hji50]; first | rfl | (simp [errW_none, errW_some] <;> rfl)) | (simp [*, errW_none, errW_some] <;> rfl), by repeat (first | (with_reducible first | exact HB.out | apply below_alloc | apply pw_below_drewN | apply below_drew1) | exact HB.out)⟩
                                                · replace c65 := Bool.eq_false_iff.mpr c65
                                                  subst c65
                                                  have H1 : (if x11_3 = 0 then ((castellanlaw2_known.f k3).bind fun t151 => (some t151)) else (some false)) = some r := by rw [if_neg (show ¬ (false = true) by decide)] at H; exact H
                                                  clear H
                                                  have H := H1
                                                  clear H1
                                                  by_cases c69 : x11_3 = 0
                                                  · rw [if_pos c69] at H
                                                    have c69b0 : (x11_3 == 0) = true := beq_iff_eq.mpr c69
                                                    have c69b1 : (x11_3 != 0) = false := bne_eq_false_iff_eq.mpr c69
                                                    clear c69
                                                    replace H := Option.bind_eq_some_iff.mp H
                                                    obtain ⟨t151, A700, H⟩ := H
                                                    replace H : (some t151) = some r := H
                                                    have A70 := Aside0.mk A700
                                                    clear A700
                                                    obtain rfl := Option.some.inj H
                                                    go_wp2_with (first | ((with_reducible refine gate_callee (f := 24) rfl ?_); refine goesL_ (some 104) rfl rfl Try.func24 (by kernel_rfl) rfl #[.slice (some ⟨go12, 0, none⟩) y147.length co12] rfl (by (try simp only [List.map_toArray, List.map_cons, List.map_nil]); first | done | rfl | (simp only [List.length_drop, List.length_take]; rfl)) ?_; (with_reducible refine (sum_Right.calls k3 (fun k_ => some k_ = (.slice (some ⟨go12, 0, none⟩) y147.length co12 : Value).ownBlock) _ _ y147 false _ ?side1 A64.out).mono ?_); (case side1 => exact Kd.R_V (Kd.R_tight rfl (HO_7.out))); rintro e w71 ⟨rfl, hb⟩; refine ⟨_, rfl, ?_⟩; have n0_ := Aside0.mk (Kd.R_below (by (with_reducible repeat (first | apply Kd.R_alloc | apply Kd.R_drewN | apply Kd.R_drew)); exact HO_7.out) hb); have n1_ := Aside0.mk (below_step (by repeat (first | (with_reducible first | exact HB.out | apply below_alloc | apply pw_below_drewN | apply below_drew1) | exact HB.out)) hb); clear HO_7; clear HB; have HO_7 := n0_; have HB := n1_; clear n0_ n1_; (try clear hb); (try clear hb2); (try clear hk); (try clear hi)) | (go_at_call 23; (with_reducible refine (castellanlaw2_known.calls k3  t151 _ A70.out).mono ?_); rintro e w72 ⟨rfl, hb⟩; have n0_ := Aside0.mk (Kd.R_below (by (with_reducible repeat (first | apply Kd.R_alloc | apply Kd.R_drewN | apply Kd.R_drew)); exact HO_7.out) hb); have n1_ := Aside0.mk (below_step (by repeat (first | (with_reducible first | exact HB.out | apply below_alloc | apply pw_below_drewN | apply below_drew1) | exact HB.out)) hb); clear HO_7; clear HB; have HO_7 := n0_; have HB := n1_; clear n0_ n1_; (try clear hb); (try clear hb2); (try clear hk); (try clear hi)))
                                                    go_ret
                                                    exact ⟨by first | rfl | (simp [errW_none, errW_some] <;> rfl) | (simp only [← hji7, ← hji46, ← hji50]; first | rfl | (simp [errW_none, errW_some] <;> rfl)) | (simp [*, errW_none, errW_some] <;> rfl), by repeat (first | (with_reducible first | exact HB.out | apply below_alloc | apply pw_below_drewN | apply below_drew1) | exact HB.out)⟩
                                                  · rw [if_neg c69] at H
                                                    have c69b0 : (x11_3 == 0) = false := beq_eq_false_iff_ne.mpr c69
                                                    have c69b1 : (x11_3 != 0) = true := bne_iff_ne.mpr c69
                                                    exact absurd (H.trans (congrArg some HRT.out)) (by simp)
                                        · rw [if_neg c52] at H
                                          exact absurd H (by simp)
                                      · rw [if_neg c51] at H
                                        exact absurd H (by simp)
                                    · rw [if_neg c48] at H
                                      exact absurd H (by simp)
                                  · rw [if_neg c47] at H
                                    exact absurd H (by simp)
                                · rw [if_neg c44] at H
                                  exact absurd H (by simp)
                              · rw [if_neg c42] at H
                                exact absurd H (by simp)
                    · rw [if_neg c18] at H
                      exact absurd H (by simp)
                  · rw [if_neg c17] at H
                    exact absurd H (by simp)
                · rw [if_neg c13] at H
                  exact absurd H (by simp)
              · rw [if_neg c11] at H
                exact absurd H (by simp)
            · rw [if_neg c10] at H
              exact absurd H (by simp)
          · rw [if_neg c9] at H
            exact absurd H (by simp)
        · rw [if_neg c8] at H
          exact absurd H (by simp)

/-- THE ONE PURE STATEMENT of castellanlaw2_SumUpdates: yours. -/
def castellanlaw2_SumUpdates.Pure : Prop := ∀ (l0 : List Int) (a1 : Int) (a2 : Int), l0.length ≤ maxLen → l0.length * 1 ≤ 140737488351232 → (∀ x ∈ l0, (Lit.int .u8 x).wf = true) → (Lit.int .i64 a1).wf = true → (Lit.int .u16 a2).wf = true → ∃ k, castellanlaw2_SumUpdates.f k l0 a1 a2 = some true
theorem castellanlaw2_SumUpdates.walk (P : castellanlaw2_SumUpdates.Pure) (a0 : Option Addr) (len0 cap0 : Nat) (z0 : List Int) (a1 : Int) (a2 : Int) (w : World) (w0 : (a0 = none ∧ len0 = 0 ∧ cap0 = 0 ∧ z0 = []) ∨ ∃ x, a0 = some x ∧ len0 ≤ cap0 ∧ cap0 ≤ maxLen ∧ z0.length = cap0 ∧ (∀ i, i < z0.length → w.cell? (x.add i) = some (.int .u8 (z0.getD i 0))) ∧ ∀ n ∈ z0, (Lit.int .u8 n).wf = true) (y0 : len0 * 1 ≤ 140737488351232) (w1 : (Lit.int .i64 a1).wf = true) (w2 : (Lit.int .u16 a2).wf = true) :
    Calls Try.prog 10 #[.slice a0 len0 cap0, .int .i64 a1, .int .u16 a2] w fun e w' => e = .returned (.bool true) ∧ Below w.heap.size w w' := by
  obtain ⟨l0, rfl, hr0, hm0, hw0, hc0⟩ := ReadsInt.ofRowC w0
  obtain ⟨k, h⟩ := P l0 a1 a2 hm0 y0 hw0 w1 w2
  refine (castellanlaw2_SumUpdates.calls k _ _ l0 a1 a2 true w (Kd.C_of_reads (d := (0 : Int)) (h1 := fun _ => rfl) hr0) hc0 rfl h).mono ?_
  rintro e w' ⟨rfl, hd⟩
  exact ⟨rfl, hd⟩

end Go.Proofs.Ytakdkbdojdjpkaa.QSumUpdates
