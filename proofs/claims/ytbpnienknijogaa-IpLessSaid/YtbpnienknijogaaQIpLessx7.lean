-- written by myprint.py, a program of this session's over the kit's printer
import Derived.Test.YtbpnienknijogaaQIpLessx0
import Derived.Test.YtbpnienknijogaaQIpLessx1
import Derived.Test.YtbpnienknijogaaQIpLessx6
namespace Go.Proofs.Ytbpnienknijogaa.QIpLess
open Go.RowKit Go.Proofs.YtbpnienknijogaaW.PrintWords Go.Proofs.YtbpnienknijogaaW.PrintLast Go.Proofs.YtbpnienknijogaaW.PrintMore
attribute [local go_sem] max2_int min2_int max_two min_two max_three min_three max_four min_four   -- for this text's walks alone
set_option linter.unusedVariables false
set_option linter.unusedSimpArgs false

/-! ### castellanref4_Less: function 36 -/
def castellanref4_Less.j0 : Nat → List Int → Bool → Option (List Int)
  | 0, _, _ => none
  | k + 1, x0, x14 => if x14 = true then (some ([] : List Int)) else ((some (([] : List Int) : List Int)).bind fun y267 => ((castellanref1_Get16.f x0 2).bind fun t270 => (if 0 ≤ t270 then (if t270 ≤ (x0.length : Int) then (if y267.length + (x0.take (t270 : Int).toNat).length < 140737488355328 then ((some (y267 ++ (x0.take (t270 : Int).toNat) : List Int)).bind fun y272 => ((castellanref1_Get16.f y272 8).bind fun t275 => (if 8 < (y272.length : Int) then ((some (y272.set (8 : Int).toNat (((rd y272 8) - 1) % 256) : List Int)).bind fun y277 => ((castellanref1_Get16.f y277 10).bind fun t278 => ((castellanref1_Get16.f y277 8).bind fun t279 => ((castellanref2_Update.f k t278 t275 t279).bind fun t280 => ((castellanref1_Put16.f t280).bind fun t281 => (if 0 < (t281.length : Int) then (if 1 < (t281.length : Int) then (if 10 < (y272.length : Int) then (if 11 < (y272.length : Int) then (some ((y277.set (10 : Int).toNat (rd t281 0)).set (11 : Int).toNat (rd t281 1))) else (none)) else (none)) else (none)) else (none))))))) else (none)))) else (none)) else (none)) else (none))))
def castellanref4_Less.f (k : Nat) (l0 : List Int) : Option (List Int) := (castellanref4_look.f k l0).bind fun t265 => (if t265 = 0 then (if 8 < (l0.length : Int) then (castellanref4_Less.j0 k l0 ((rd l0 8) == 0)) else (none)) else (castellanref4_Less.j0 k l0 true))
theorem castellanref4_Less.mono_l : ∀ k, (∀ y0 y1, LeO (castellanref4_Less.j0 k y0 y1) (castellanref4_Less.j0 (k + 1) y0 y1))
  | 0 => fun _ _ r h => by simp [castellanref4_Less.j0] at h
  | k + 1 => by
    have ih0 := castellanref4_Less.mono_l k
    · intro y0 y1
      unfold castellanref4_Less.j0
      repeat' first
      | (with_reducible exact ih0 _ _)
      | (with_reducible exact castellanref2_Update.mono _ _ _ _)
      | (with_reducible exact castellanref4_look.mono _ _)
      | (with_reducible exact LeO.refl _)
      | (with_reducible exact LeO.none _)
      | (with_reducible refine LeO.ite ?_ ?_)
      | (with_reducible refine LeO.bind ?_ (fun _ => ?_))
      | exact ih0 _ _
      | exact castellanref2_Update.mono _ _ _ _
      | exact castellanref4_look.mono _ _
      | exact LeO.none _
      | refine LeO.ite ?_ ?_
      | refine LeO.bind ?_ (fun _ => ?_)
theorem castellanref4_Less.mono : ∀ a0 k, LeO (castellanref4_Less.f k a0) (castellanref4_Less.f (k + 1) a0) := by
  intro a0 k
  have ih0 := castellanref4_Less.mono_l k
  unfold castellanref4_Less.f
  repeat' first
      | (with_reducible exact ih0 _ _)
      | (with_reducible exact castellanref2_Update.mono _ _ _ _)
      | (with_reducible exact castellanref4_look.mono _ _)
      | (with_reducible exact LeO.refl _)
      | (with_reducible exact LeO.none _)
      | (with_reducible refine LeO.ite ?_ ?_)
      | (with_reducible refine LeO.bind ?_ (fun _ => ?_))
      | exact ih0 _ _
      | exact castellanref2_Update.mono _ _ _ _
      | exact castellanref4_look.mono _ _
      | exact LeO.none _
      | refine LeO.ite ?_ ?_
      | refine LeO.bind ?_ (fun _ => ?_)
def castellanref4_Less.T7 : Bool × List (List Nat × List Nat) := (true, [([], []), ([], []), ([], []), ([2], [2]), ([3], [3]), ([], []), ([5], [5]), ([6], [6]), ([0, 0, 2, 3, 4, 7], [0]), ([8, 4, 0, 2, 3, 4, 7], [4, 8]), ([1, 0, 1, 2, 3, 4, 5, 6, 7, 8, 9], [1]), ([10, 7, 9, 0, 1, 2, 3, 4, 5, 6, 7, 8, 9], [7, 10])])
def castellanref4_Less.B7 : List Nat := [0, 0, 0, 4, 12, 0, 32, 96, 253, 509, 1023, 2047]
theorem castellanref4_Less.tab7 : rtab .any (opsOf Try.f36 7) = castellanref4_Less.T7 := by kernel_rfl
theorem castellanref4_Less.bits7 : waitsOk castellanref4_Less.T7.2 castellanref4_Less.B7 = true := by kernel_rfl
set_option maxHeartbeats 8000000 in
set_option maxRecDepth 100000 in
theorem castellanref4_Less.calls (k : Nat) (A0 : Option Addr) (c0 : Nat) (l0 : List Int) (r : List Int) (w : World) (hr0 : Kd.C (Kd.int .u8) w A0 l0.length l0) (hc0 : l0.length ≤ c0) (h : castellanref4_Less.f k l0 = some r) :
    Calls Try.prog 36 #[.slice A0 l0.length c0] w fun e w' => ∃ v0_ : Value, e = .returned (v0_) ∧ Kd.R (Kd.int .u8) 5 w' w.heap.size (fun _ => True) v0_ r ∧ Below w.heap.size w w' := by
  have HR0 := Aside0.mk hr0
  have HC0 := Aside0.mk hc0
  clear hr0 hc0
  have HB := Aside0.mk (Below.refl w.heap.size w)
  have H : ((castellanref4_look.f k l0).bind fun t265 => (if t265 = 0 then (if 8 < (l0.length : Int) then (castellanref4_Less.j0 k l0 ((rd l0 8) == 0)) else (none)) else (castellanref4_Less.j0 k l0 true))) = some r := h
  clear h
  have HC2 := Aside0.mk H
  clear H
  go_enter Try.func36, Try.ntmps36
  go_upto_region 1 with (fail)
  go_cut [14] (fun v14 wc => ∃ (kq : Nat) (x14_1 : Bool), v14 = .bool x14_1 ∧ Aside0 (castellanref4_Less.j0 kq l0 x14_1 = some r) ∧ Aside0 (kq ≤ k) ∧ Aside0 (Below w.heap.size w wc))
  case first =>
    have H := HC2.out
    clear HC2
    replace H := Option.bind_eq_some_iff.mp H
    obtain ⟨t265, A30, H⟩ := H
    replace H : (if t265 = 0 then (if 8 < (l0.length : Int) then (castellanref4_Less.j0 k l0 ((rd l0 8) == 0)) else (none)) else (castellanref4_Less.j0 k l0 true)) = some r := H
    have A3 := Aside0.mk A30
    clear A30
    by_cases c4 : t265 = 0
    · rw [if_pos c4] at H
      have c4b0 : (t265 == 0) = true := beq_iff_eq.mpr c4
      have c4b1 : (t265 != 0) = false := bne_eq_false_iff_eq.mpr c4
      clear c4
      (first | rw [c4b0] | (simp only [i64_w, i32_w]; rw [c4b0]) | skip)
      by_cases c5 : 8 < (l0.length : Int)
      · rw [if_pos c5] at H
        have c5b0 : decide (8 < (l0.length : Int)) = true := decide_eq_true c5
        have c5b1 : decide (8 < l0.length) = true := decide_eq_true (by omega)
        clear c5
        have H' := Aside0.mk H
        clear H
        go_wp2_with (first | ((with_reducible refine gate_callee (f := 50) rfl ?_); refine goesL_ (some 7) rfl rfl Try.func50 (by kernel_rfl) rfl #[.slice A0 l0.length c0] rfl (by (try simp only [List.map_toArray, List.map_cons, List.map_nil]); first | done | rfl | (simp only [List.length_drop, List.length_take]; rfl)) ?_; (with_reducible refine (castellanref4_look.calls k _ _ l0 t265 _ ?side1 ?side2 A3.out).mono ?_); (case side1 => repeat (first | exact (Kd.C_below HR0.out HB.out) | (with_reducible refine Kd.C_alloc ?_ _) | (with_reducible refine Kd.C_drewN ?_ _) | (with_reducible refine Kd.C_drew ?_))); (case side2 => exact HC0.out); rintro e w' ⟨rfl, ⟨nd, rfl⟩⟩; refine ⟨_, rfl, ?_⟩; have p266 : 0 ≤ (8 : Int) := (by omega); have q266 : 8 < (l0.length : Int) := of_decide_eq_true (by first | (with_reducible assumption) | assumption); obtain ⟨ad266, e266, hx266_0⟩ := Kd.at_int HR0.out 8 p266 q266; cases e266; (try simp only [show (8 : Int).toNat = 8 from rfl, Nat.reduceMul, Nat.reduceEqDiff, Go.Addr.add, ↓reduceIte] at hx266_0); have qi266 : (8 < l0.length) = True := eq_true (by omega); (try rw [show ((8 : Int)).toNat = 8 from rfl] at hx266_0); replace hx266_0 := (HB.out.cell (World.block_lt_of_cell? w _ hx266_0)).trans hx266_0; replace p266 := eq_true p266; replace q266 := eq_true q266))
        go_meet
        case rel => exact ⟨_, (((rd l0 8) == 0)), (by first | rfl | (simp; done) | (simp [*]; done)), H', ⟨by first | omega | exact Nat.le_refl _⟩, ⟨by repeat (first | (with_reducible first | exact HB.out | apply below_alloc | apply pw_below_drewN | apply below_drew1) | exact HB.out)⟩⟩
      · rw [if_neg c5] at H
        exact absurd H (by simp)
    · rw [if_neg c4] at H
      have c4b0 : (t265 == 0) = false := beq_eq_false_iff_ne.mpr c4
      have c4b1 : (t265 != 0) = true := bne_iff_ne.mpr c4
      (first | rw [c4b0] | (simp only [i64_w, i32_w]; rw [c4b0]) | skip)
      have H' := Aside0.mk H
      clear H
      go_wp2_with (first | ((with_reducible refine gate_callee (f := 50) rfl ?_); refine goesL_ (some 7) rfl rfl Try.func50 (by kernel_rfl) rfl #[.slice A0 l0.length c0] rfl (by (try simp only [List.map_toArray, List.map_cons, List.map_nil]); first | done | rfl | (simp only [List.length_drop, List.length_take]; rfl)) ?_; (with_reducible refine (castellanref4_look.calls k _ _ l0 t265 _ ?side1 ?side2 A3.out).mono ?_); (case side1 => repeat (first | exact (Kd.C_below HR0.out HB.out) | (with_reducible refine Kd.C_alloc ?_ _) | (with_reducible refine Kd.C_drewN ?_ _) | (with_reducible refine Kd.C_drew ?_))); (case side2 => exact HC0.out); rintro e w' ⟨rfl, ⟨nd, rfl⟩⟩; refine ⟨_, rfl, ?_⟩))
      go_meet
      case rel => exact ⟨_, (true), (by first | rfl | (simp; done) | (simp [*]; done)), H', ⟨by first | omega | exact Nat.le_refl _⟩, ⟨by repeat (first | (with_reducible first | exact HB.out | apply below_alloc | apply pw_below_drewN | apply below_drew1) | exact HB.out)⟩⟩
  case rest =>
    clear HC2
    try clear p2
    try clear q2
    try clear hx2
    try clear qi2
    try clear c3
    try clear c4
    try clear c4b0
    try clear c4b1
    try clear c5
    try clear c5b0
    try clear c5b1
    try clear hx266_0
    try clear p266
    try clear q266
    obtain ⟨kq, x14_1, rfl, HA, HJ1, HB⟩ := hcut
    cases kq with
    | zero => exact absurd HA.out (by simp [castellanref4_Less.j0])
    | succ kj1 =>
      have H := HA.out
      clear HA
      simp only [castellanref4_Less.j0] at H
      by_cases c6 : x14_1 = true
      · subst c6
        have H1 : (some ([] : List Int)) = some r := by rw [if_pos rfl] at H; exact H
        clear H
        have H := H1
        clear H1
        obtain rfl := Option.some.inj H
        go_wp2
        go_ret
        exact ⟨_, by first | rfl | (simp [errW_none, errW_some] <;> rfl) | (simp [*, errW_none, errW_some] <;> rfl), by first | exact Kd.R_nil _ _ _ _ _ | exact Kd.N_nil _ _ _ _ _ | exact Kd.V_nil _ _ _ _ _ | exact Kd.Q_nil _ _ _ _ _ | exact Kd.S_nil _ _ _ _ _, by repeat (first | (with_reducible first | exact HB.out | apply below_alloc | apply pw_below_drewN | apply below_drew1) | exact HB.out)⟩
      · replace c6 := Bool.eq_false_iff.mpr c6
        subst c6
        have H1 : ((some (([] : List Int) : List Int)).bind fun y267 => ((castellanref1_Get16.f l0 2).bind fun t270 => (if 0 ≤ t270 then (if t270 ≤ (l0.length : Int) then (if y267.length + (l0.take (t270 : Int).toNat).length < 140737488355328 then ((some (y267 ++ (l0.take (t270 : Int).toNat) : List Int)).bind fun y272 => ((castellanref1_Get16.f y272 8).bind fun t275 => (if 8 < (y272.length : Int) then ((some (y272.set (8 : Int).toNat (((rd y272 8) - 1) % 256) : List Int)).bind fun y277 => ((castellanref1_Get16.f y277 10).bind fun t278 => ((castellanref1_Get16.f y277 8).bind fun t279 => ((castellanref2_Update.f kj1 t278 t275 t279).bind fun t280 => ((castellanref1_Put16.f t280).bind fun t281 => (if 0 < (t281.length : Int) then (if 1 < (t281.length : Int) then (if 10 < (y272.length : Int) then (if 11 < (y272.length : Int) then (some ((y277.set (10 : Int).toNat (rd t281 0)).set (11 : Int).toNat (rd t281 1))) else (none)) else (none)) else (none)) else (none))))))) else (none)))) else (none)) else (none)) else (none)))) = some r := by rw [if_neg (show ¬ (false = true) by decide)] at H; exact H
        clear H
        have H := H1
        clear H1
        obtain ⟨y267, hy267⟩ : ∃ y_ : List Int, y_ = (([] : List Int)) := ⟨_, rfl⟩
        replace H : ((castellanref1_Get16.f l0 2).bind fun t270 => (if 0 ≤ t270 then (if t270 ≤ (l0.length : Int) then (if y267.length + (l0.take (t270 : Int).toNat).length < 140737488355328 then ((some (y267 ++ (l0.take (t270 : Int).toNat) : List Int)).bind fun y272 => ((castellanref1_Get16.f y272 8).bind fun t275 => (if 8 < (y272.length : Int) then ((some (y272.set (8 : Int).toNat (((rd y272 8) - 1) % 256) : List Int)).bind fun y277 => ((castellanref1_Get16.f y277 10).bind fun t278 => ((castellanref1_Get16.f y277 8).bind fun t279 => ((castellanref2_Update.f kj1 t278 t275 t279).bind fun t280 => ((castellanref1_Put16.f t280).bind fun t281 => (if 0 < (t281.length : Int) then (if 1 < (t281.length : Int) then (if 10 < (y272.length : Int) then (if 11 < (y272.length : Int) then (some ((y277.set (10 : Int).toNat (rd t281 0)).set (11 : Int).toNat (rd t281 1))) else (none)) else (none)) else (none)) else (none))))))) else (none)))) else (none)) else (none)) else (none))) = some r := by first | (rw [hy267]; with_reducible exact H) | (have H2_ := (Option.bind_some _ _).symm.trans H; rw [hy267]; with_reducible exact H2_) | (have H2_ := (Option.bind_some _ _).symm.trans H; with_reducible exact H2_) | with_reducible exact H | (rw [hy267]; exact H) | exact H
        have Ny267 := Aside0.mk hy267
        clear hy267
        replace H := Option.bind_eq_some_iff.mp H
        obtain ⟨t270, A70, H⟩ := H
        replace H : (if 0 ≤ t270 then (if t270 ≤ (l0.length : Int) then (if y267.length + (l0.take (t270 : Int).toNat).length < 140737488355328 then ((some (y267 ++ (l0.take (t270 : Int).toNat) : List Int)).bind fun y272 => ((castellanref1_Get16.f y272 8).bind fun t275 => (if 8 < (y272.length : Int) then ((some (y272.set (8 : Int).toNat (((rd y272 8) - 1) % 256) : List Int)).bind fun y277 => ((castellanref1_Get16.f y277 10).bind fun t278 => ((castellanref1_Get16.f y277 8).bind fun t279 => ((castellanref2_Update.f kj1 t278 t275 t279).bind fun t280 => ((castellanref1_Put16.f t280).bind fun t281 => (if 0 < (t281.length : Int) then (if 1 < (t281.length : Int) then (if 10 < (y272.length : Int) then (if 11 < (y272.length : Int) then (some ((y277.set (10 : Int).toNat (rd t281 0)).set (11 : Int).toNat (rd t281 1))) else (none)) else (none)) else (none)) else (none))))))) else (none)))) else (none)) else (none)) else (none)) = some r := H
        have A7 := Aside0.mk A70
        clear A70
        by_cases c8 : 0 ≤ t270
        · rw [if_pos c8] at H
          have c8b0 := eq_true c8
          have c8b1 : decide (0 ≤ t270) = true := decide_eq_true c8
          clear c8
          by_cases c9 : t270 ≤ (l0.length : Int)
          · rw [if_pos c9] at H
            have c9b0 := eq_true c9
            have c9b1 : decide (t270 ≤ (l0.length : Int)) = true := decide_eq_true c9
            clear c9
            by_cases c10 : y267.length + (l0.take (t270 : Int).toNat).length < 140737488355328
            · rw [if_pos c10] at H
              have LMc10 := Aside0.mk c10
              clear c10
              obtain ⟨y272, hy272⟩ : ∃ y_ : List Int, y_ = (y267 ++ (l0.take (t270 : Int).toNat)) := ⟨_, rfl⟩
              replace H : ((castellanref1_Get16.f y272 8).bind fun t275 => (if 8 < (y272.length : Int) then ((some (y272.set (8 : Int).toNat (((rd y272 8) - 1) % 256) : List Int)).bind fun y277 => ((castellanref1_Get16.f y277 10).bind fun t278 => ((castellanref1_Get16.f y277 8).bind fun t279 => ((castellanref2_Update.f kj1 t278 t275 t279).bind fun t280 => ((castellanref1_Put16.f t280).bind fun t281 => (if 0 < (t281.length : Int) then (if 1 < (t281.length : Int) then (if 10 < (y272.length : Int) then (if 11 < (y272.length : Int) then (some ((y277.set (10 : Int).toNat (rd t281 0)).set (11 : Int).toNat (rd t281 1))) else (none)) else (none)) else (none)) else (none))))))) else (none))) = some r := by first | (rw [hy272]; with_reducible exact H) | (have H2_ := (Option.bind_some _ _).symm.trans H; rw [hy272]; with_reducible exact H2_) | (have H2_ := (Option.bind_some _ _).symm.trans H; with_reducible exact H2_) | with_reducible exact H | (rw [hy272]; exact H) | exact H
              have Ny272 := Aside0.mk hy272
              clear hy272
              replace H := Option.bind_eq_some_iff.mp H
              obtain ⟨t275, A110, H⟩ := H
              replace H : (if 8 < (y272.length : Int) then ((some (y272.set (8 : Int).toNat (((rd y272 8) - 1) % 256) : List Int)).bind fun y277 => ((castellanref1_Get16.f y277 10).bind fun t278 => ((castellanref1_Get16.f y277 8).bind fun t279 => ((castellanref2_Update.f kj1 t278 t275 t279).bind fun t280 => ((castellanref1_Put16.f t280).bind fun t281 => (if 0 < (t281.length : Int) then (if 1 < (t281.length : Int) then (if 10 < (y272.length : Int) then (if 11 < (y272.length : Int) then (some ((y277.set (10 : Int).toNat (rd t281 0)).set (11 : Int).toNat (rd t281 1))) else (none)) else (none)) else (none)) else (none))))))) else (none)) = some r := H
              have A11 := Aside0.mk A110
              clear A110
              by_cases c12 : 8 < (y272.length : Int)
              · rw [if_pos c12] at H
                have c12b0 : decide (8 < (y272.length : Int)) = true := decide_eq_true c12
                have c12b1 : decide (8 < y272.length) = true := decide_eq_true (by omega)
                clear c12
                obtain ⟨y277, hy277⟩ : ∃ y_ : List Int, y_ = (y272.set (8 : Int).toNat (((rd y272 8) - 1) % 256)) := ⟨_, rfl⟩
                replace H : ((castellanref1_Get16.f y277 10).bind fun t278 => ((castellanref1_Get16.f y277 8).bind fun t279 => ((castellanref2_Update.f kj1 t278 t275 t279).bind fun t280 => ((castellanref1_Put16.f t280).bind fun t281 => (if 0 < (t281.length : Int) then (if 1 < (t281.length : Int) then (if 10 < (y272.length : Int) then (if 11 < (y272.length : Int) then (some ((y277.set (10 : Int).toNat (rd t281 0)).set (11 : Int).toNat (rd t281 1))) else (none)) else (none)) else (none)) else (none)))))) = some r := by first | (rw [hy277]; with_reducible exact H) | (have H2_ := (Option.bind_some _ _).symm.trans H; rw [hy277]; with_reducible exact H2_) | (have H2_ := (Option.bind_some _ _).symm.trans H; with_reducible exact H2_) | with_reducible exact H | (rw [hy277]; exact H) | exact H
                have Ny277 := Aside0.mk hy277
                clear hy277
                replace H := Option.bind_eq_some_iff.mp H
                obtain ⟨t278, A140, H⟩ := H
                replace H : ((castellanref1_Get16.f y277 8).bind fun t279 => ((castellanref2_Update.f kj1 t278 t275 t279).bind fun t280 => ((castellanref1_Put16.f t280).bind fun t281 => (if 0 < (t281.length : Int) then (if 1 < (t281.length : Int) then (if 10 < (y272.length : Int) then (if 11 < (y272.length : Int) then (some ((y277.set (10 : Int).toNat (rd t281 0)).set (11 : Int).toNat (rd t281 1))) else (none)) else (none)) else (none)) else (none))))) = some r := H
                have A14 := Aside0.mk A140
                clear A140
                replace H := Option.bind_eq_some_iff.mp H
                obtain ⟨t279, A150, H⟩ := H
                replace H : ((castellanref2_Update.f kj1 t278 t275 t279).bind fun t280 => ((castellanref1_Put16.f t280).bind fun t281 => (if 0 < (t281.length : Int) then (if 1 < (t281.length : Int) then (if 10 < (y272.length : Int) then (if 11 < (y272.length : Int) then (some ((y277.set (10 : Int).toNat (rd t281 0)).set (11 : Int).toNat (rd t281 1))) else (none)) else (none)) else (none)) else (none)))) = some r := H
                have A15 := Aside0.mk A150
                clear A150
                replace H := Option.bind_eq_some_iff.mp H
                obtain ⟨t280, A160, H⟩ := H
                replace H : ((castellanref1_Put16.f t280).bind fun t281 => (if 0 < (t281.length : Int) then (if 1 < (t281.length : Int) then (if 10 < (y272.length : Int) then (if 11 < (y272.length : Int) then (some ((y277.set (10 : Int).toNat (rd t281 0)).set (11 : Int).toNat (rd t281 1))) else (none)) else (none)) else (none)) else (none))) = some r := H
                have A16 := Aside0.mk A160
                clear A160
                replace H := Option.bind_eq_some_iff.mp H
                obtain ⟨t281, A170, H⟩ := H
                replace H : (if 0 < (t281.length : Int) then (if 1 < (t281.length : Int) then (if 10 < (y272.length : Int) then (if 11 < (y272.length : Int) then (some ((y277.set (10 : Int).toNat (rd t281 0)).set (11 : Int).toNat (rd t281 1))) else (none)) else (none)) else (none)) else (none)) = some r := H
                have A17 := Aside0.mk A170
                clear A170
                by_cases c18 : 0 < (t281.length : Int)
                · rw [if_pos c18] at H
                  have c18b0 : decide (0 < (t281.length : Int)) = true := decide_eq_true c18
                  have c18b1 : decide (0 < t281.length) = true := decide_eq_true (by omega)
                  clear c18
                  by_cases c19 : 1 < (t281.length : Int)
                  · rw [if_pos c19] at H
                    have c19b0 : decide (1 < (t281.length : Int)) = true := decide_eq_true c19
                    have c19b1 : decide (1 < t281.length) = true := decide_eq_true (by omega)
                    clear c19
                    by_cases c20 : 10 < (y272.length : Int)
                    · rw [if_pos c20] at H
                      have c20b0 : decide (10 < (y272.length : Int)) = true := decide_eq_true c20
                      have c20b1 : decide (10 < y272.length) = true := decide_eq_true (by omega)
                      clear c20
                      obtain ⟨y286, hy286⟩ : ∃ y_ : List Int, y_ = (y277.set (10 : Int).toNat (rd t281 0)) := ⟨_, rfl⟩
                      replace H : (if 11 < (y272.length : Int) then (some (y286.set (11 : Int).toNat (rd t281 1))) else (none)) = some r := by first | (rw [hy286]; with_reducible exact H) | (have H2_ := (Option.bind_some _ _).symm.trans H; rw [hy286]; with_reducible exact H2_) | (have H2_ := (Option.bind_some _ _).symm.trans H; with_reducible exact H2_) | with_reducible exact H | (rw [hy286]; exact H) | exact H
                      have Ny286 := Aside0.mk hy286
                      clear hy286
                      by_cases c22 : 11 < (y272.length : Int)
                      · rw [if_pos c22] at H
                        have c22b0 : decide (11 < (y272.length : Int)) = true := decide_eq_true c22
                        have c22b1 : decide (11 < y272.length) = true := decide_eq_true (by omega)
                        clear c22
                        obtain ⟨y287, hy287⟩ : ∃ y_ : List Int, y_ = (y286.set (11 : Int).toNat (rd t281 1)) := ⟨_, rfl⟩
                        replace H : (some y287) = some r := by first | (rw [hy287]; with_reducible exact H) | (have H2_ := (Option.bind_some _ _).symm.trans H; rw [hy287]; with_reducible exact H2_) | (have H2_ := (Option.bind_some _ _).symm.trans H; with_reducible exact H2_) | with_reducible exact H | (rw [hy287]; exact H) | exact H
                        have Ny287 := Aside0.mk hy287
                        clear hy287
                        obtain rfl := Option.some.inj H
                        try go_wp2_with (first | ((with_reducible refine gate_dst (N := 15) rfl ?_); refine Kd.R_lit (Kd.int .u8) _ 5 ?hg (N := 15) ?hd (xs := ([] : List Int)) (inner := []) (ok := fun _ => True) (okp := fun _ => True) ?hr ?hp (fun _ hk => hk) trivial (Below.refl _ _) (Nat.le_refl _) (by simp) ?_; (case hd => rfl); (case hg => rfl); (case hr => first | (go_simp; done) | (go_simp; rfl)); (case hp => exact (Reps.none _ _)); intro v268 w24 ho25 hb hg_ hnew_; clear hg_ hnew_; (first | rw [← Ny267.out] at ho25 | (simp only [Int.reduceToNat] at ho25; rw [← Ny267.out] at ho25)); have n0_ := Aside0.mk (Kd.R_lower ho25 (below_size (by repeat (first | (with_reducible first | exact HB.out | apply below_alloc | apply pw_below_drewN | apply below_drew1) | exact HB.out)))); have n1_ := Aside0.mk (below_step (by repeat (first | (with_reducible first | exact HB.out | apply below_alloc | apply pw_below_drewN | apply below_drew1) | exact HB.out)) hb); clear HB; have HO269 := n0_; have HB := n1_; clear n0_ n1_; clear hb ho25) | ((with_reducible refine gate_callee (f := 46) rfl ?_); refine goesL_ (some 18) rfl rfl Try.func46 (by kernel_rfl) rfl #[.slice A0 l0.length c0, .int .i64 2] rfl (by (try simp only [List.map_toArray, List.map_cons, List.map_nil]); first | done | rfl | (simp only [List.length_drop, List.length_take]; rfl)) ?_; (with_reducible refine (castellanref1_Get16.calls _ _ l0 2 t270 _ ?side1 ?side2 A7.out).mono ?_); (case side1 => repeat (first | exact (Kd.C_below HR0.out HB.out) | (with_reducible refine Kd.C_alloc ?_ _) | (with_reducible refine Kd.C_drewN ?_ _) | (with_reducible refine Kd.C_drew ?_))); (case side2 => exact HC0.out); rintro e w' ⟨rfl, ⟨nd, rfl⟩⟩; refine ⟨_, rfl, ?_⟩; (try (rw [drewN_self w24]; generalize hq_ : World.drewN w24 _ = w24; have n0_ : Aside0 (Kd.R (Kd.int .u8) 5 w24 w.heap.size (fun _ => True) v268 y267) := ⟨by rw [← hq_]; exact (by (with_reducible repeat (first | apply Kd.R_alloc | apply Kd.R_drewN | apply Kd.R_drew)); exact HO269.out)⟩; have n1_ : Aside0 (Below w.heap.size w w24) := ⟨by rw [← hq_]; exact (by repeat (first | (with_reducible first | exact HB.out | apply below_alloc | apply pw_below_drewN | apply below_drew1) | exact HB.out))⟩; clear HO269 HB hq_; have HO269 := n0_; have HB := n1_; clear n0_ n1_)); obtain ⟨i026, hi026, _, hsz26, _⟩ := info_parts info5; obtain ⟨hcut26, hA26, hC26⟩ := print_take_of (P := Try.prog) (Value.int .u8) 0 24 5 .i64 Try.underlying24 hi026 hsz26 A0 c0 l0 t270 (of_decide_eq_true (by first | (with_reducible assumption) | assumption)) (of_decide_eq_true (by first | (with_reducible assumption) | assumption)) HC0.out; have HR271 := Aside0.mk (Kd.C_of_reads (h1 := fun _ => rfl) (hA26 _ (Kd.reads_of_C HR0.out))); have HC271 := Aside0.mk hC26; clear hA26 hC26 hi026 hsz26) | ((with_reducible refine gate_builtin (b := .append) (xs := #[.tmp 15, .tmp 19]) rfl ?_); at_builtin; refine Kd.R_append_rows (Kd.int .u8) (w0 := w) w.heap.size rfl (.tmp 15) (.tmp 19) 24 5 (.int .u8 0) 1 rfl Try.underlying24 info5 rfl (by decide) (by omega) v268 y267 (l0.take (t270 : Int).toNat) _ _ _ (fun _ => True) (fun _ => False) rfl rfl ?aO ?aR (fun _ _ h => h) (fun _ h => h.elim) ?aF ?aB ?aS ?aL ?_; (case aR => first | (refine RR_len (show (l0.take (t270 : Int).toNat).length = t270.toNat from (by rw [List.length_take]; have h_ : (t270 : Int) ≤ (l0.length : Int) := of_decide_eq_true (by first | (with_reducible assumption) | assumption); omega)) ?_; repeat (first | exact (Kd.C_below HR271.out HB.out) | (with_reducible refine Kd.C_alloc ?_ _) | (with_reducible refine Kd.C_drewN ?_ _) | (with_reducible refine Kd.C_drew ?_))) | (repeat (first | exact (Kd.C_below HR271.out HB.out) | (with_reducible refine Kd.C_alloc ?_ _) | (with_reducible refine Kd.C_drewN ?_ _) | (with_reducible refine Kd.C_drew ?_)))); (case aB => exact (by repeat (first | (with_reducible first | exact HB.out | apply below_alloc | apply pw_below_drewN | apply below_drew1) | exact HB.out))); (case aF => exact (fun _ _ => trivial)); (case aO => exact (by (with_reducible repeat (first | apply Kd.R_alloc | apply Kd.R_drewN | apply Kd.R_drew)); exact HO269.out)); (case aS => exact (below_size (by repeat (first | (with_reducible first | exact HB.out | apply below_alloc | apply pw_below_drewN | apply below_drew1) | exact HB.out)))); (case aL => have := LMc10.out; have hlx_ := (show (l0.take (t270 : Int).toNat).length = t270.toNat from (by rw [List.length_take]; have h_ : (t270 : Int) ≤ (l0.length : Int) := of_decide_eq_true (by first | (with_reducible assumption) | assumption); omega)); omega); intro v273 w27 ho hb hg hat; rw [← Ny272.out] at ho; have n0_ := Aside0.mk (hb); have n1_ := Aside0.mk (ho); clear HB; clear HO269; have HB := n0_; have HO274 := n1_; clear n0_ n1_; clear ho hb hg hat; obtain ⟨Ao28, co28, eo28⟩ := Kd.R_slice HO274.out; subst eo28) | ((with_reducible refine gate_callee (f := 46) rfl ?_); refine goesL_ (some 22) rfl rfl Try.func46 (by kernel_rfl) rfl #[.slice Ao28 y272.length co28, .int .i64 8] rfl (by (try simp only [List.map_toArray, List.map_cons, List.map_nil]); first | done | rfl | (simp only [List.length_drop, List.length_take]; rfl)) ?_; (with_reducible refine (castellanref1_Get16.calls _ _ y272 8 t275 _ ?side1 ?side2 A11.out).mono ?_); (case side1 => repeat (first | exact (Kd.R_reads' HO274.out).2.2 | (with_reducible refine Kd.C_alloc ?_ _) | (with_reducible refine Kd.C_drewN ?_ _) | (with_reducible refine Kd.C_drew ?_))); (case side2 => exact (Kd.R_reads' HO274.out).2.1); rintro e w' ⟨rfl, ⟨nd, rfl⟩⟩; refine ⟨_, rfl, ?_⟩; (try (rw [drewN_self w27]; generalize hq_ : World.drewN w27 _ = w27; have n0_ : Aside0 (Kd.R (Kd.int .u8) 5 w27 w.heap.size (fun _ => True) (.slice Ao28 y272.length co28) y272) := ⟨by rw [← hq_]; exact (by (with_reducible repeat (first | apply Kd.R_alloc | apply Kd.R_drewN | apply Kd.R_drew)); exact HO274.out)⟩; have n1_ : Aside0 (Below w.heap.size w w27) := ⟨by rw [← hq_]; exact (by repeat (first | (with_reducible first | exact HB.out | apply below_alloc | apply pw_below_drewN | apply below_drew1) | exact HB.out))⟩; clear HO274 HB hq_; have HO274 := n0_; have HB := n1_; clear n0_ n1_)); have p276 : 0 ≤ (8 : Int) := (by omega); have q276 : 8 < (y272.length : Int) := of_decide_eq_true (by first | (with_reducible assumption) | assumption); obtain ⟨ad276, e276, hx276_0⟩ := Kd.at_int (Kd.R_reads' HO274.out).2.2 8 p276 q276; cases e276; (try simp only [show (8 : Int).toNat = 8 from rfl, Nat.reduceMul, Nat.reduceEqDiff, Go.Addr.add, ↓reduceIte] at hx276_0); have qi276 : (8 < y272.length) = True := eq_true (by omega); (try rw [show ((8 : Int)).toNat = 8 from rfl] at hx276_0); replace p276 := eq_true p276; replace q276 := eq_true q276; have p13 : 0 ≤ (8 : Int) := (by omega); have q13 : (8 : Int) < ((y272.length : Int) : Int) := of_decide_eq_true (by first | (with_reducible assumption) | assumption); have qi13 : (8 < y272.length) = True := eq_true (by omega); obtain ⟨go13, co13, eo13, gb13, gl13, cl13, HG13⟩ := Kd.R_form HO274.out (by omega); (first | cases eo13 | (injection eo13 with ea_ en_ ec_; (first | subst ea_ | (injection ea_ with ea_; subst ea_)); subst ec_; clear en_)); have GB13 := Aside0.mk gb13; have GG13 := Aside0.mk HG13; clear gb13 gl13 HG13; (first | simp only [add_plain] at hx276_0 | skip); obtain ⟨hx13_0, hf13_0⟩ := Kd.R_celln 0 HO274.out (8 : Int) p13 q13; (try rw [show ((8 : Int)).toNat = 8 from rfl] at hx13_0); (try simp only [Nat.reduceMul, Nat.zero_mul, Nat.zero_add, Nat.reduceAdd] at hx13_0); (try rw [show ((8 : Int)).toNat = 8 from rfl] at hf13_0); (try simp only [Nat.reduceMul, Nat.zero_mul, Nat.zero_add, Nat.reduceAdd] at hf13_0); replace p13 := eq_true p13; replace q13 := eq_true q13; obtain ⟨hy29_, hz29_⟩ := Kd.R_celln 0 HO274.out (8 : Int) (by omega) (of_decide_eq_true (by first | (with_reducible assumption) | assumption)); (try simp only [Int.reduceToNat, Int.toNat_zero, Int.toNat_ofNat, Nat.reduceMul, Nat.zero_mul, Nat.zero_add] at hy29_ hz29_); (try rw [show ((8 : Int)).toNat = 8 from rfl] at hy29_); (try rw [show ((8 : Int)).toNat = 8 from rfl] at hz29_); have HP29 := Kd.R_putg HO274.out (8 : Int) (((rd y272 8) - 1) % 256)) | ((with_reducible refine gate_store (t := 5) (p := 27) rfl ?_); refine store_event (t := 5) (p := 27) (v := ?vo_w30) (w1 := (w27.setCell ⟨go13, (8 : Int).toNat, none⟩ (.int .u8 (((rd y272 8) - 1) % 256)))) ?hg ?ho ?hn ?hr ?_; (case ho => rfl); (case hg => rfl); (case hn => rfl); (case hr => first | (go_simp; done) | (go_simp; rfl)); intro w30 hw; have hg : w27.grownBy w30 (some go13) := (by rw [hw]; exact HP29.2); have hp_ : Kd.R (Kd.int .u8) 5 w30 w.heap.size (fun _ => True) (.slice (some ⟨go13, 0, none⟩) y272.length co28) y277 := (by rw [hw, Ny277.out]; exact HP29.1); clear HP29; have n0_ := Aside0.mk (hp_); have n1_ := Aside0.mk ((by rw [hw]; exact below_set (HB.out) GB13.out : Below w.heap.size w w30)); clear HO274; clear HB; have HO274 := n0_; have HB := n1_; clear n0_ n1_; clear hg hw hp_) | ((with_reducible refine gate_callee (f := 46) rfl ?_); refine goesL_ (some 29) rfl rfl Try.func46 (by kernel_rfl) rfl #[.slice (some ⟨go13, 0, none⟩) y277.length co28, .int .i64 10] rfl (by (try simp only [List.map_toArray, List.map_cons, List.map_nil]); first | done | (rw [show y277.length = y272.length from (Kd.R_reads' HO274.out).1.symm] <;> rfl) | rfl | (simp only [List.length_drop, List.length_take]; rfl)) ?_; (with_reducible refine (castellanref1_Get16.calls _ _ y277 10 t278 _ ?side1 ?side2 A14.out).mono ?_); (case side1 => repeat (first | exact (Kd.R_reads' HO274.out).2.2 | (with_reducible refine Kd.C_alloc ?_ _) | (with_reducible refine Kd.C_drewN ?_ _) | (with_reducible refine Kd.C_drew ?_))); (case side2 => rw [show y277.length = y272.length from (Kd.R_reads' HO274.out).1.symm]; exact (Kd.R_reads' HO274.out).2.1); rintro e w' ⟨rfl, ⟨nd, rfl⟩⟩; refine ⟨_, rfl, ?_⟩; (try (rw [drewN_self w30]; generalize hq_ : World.drewN w30 _ = w30; have n0_ : Aside0 (Kd.R (Kd.int .u8) 5 w30 w.heap.size (fun _ => True) (.slice (some ⟨go13, 0, none⟩) y272.length co28) y277) := ⟨by rw [← hq_]; exact (by (with_reducible repeat (first | apply Kd.R_alloc | apply Kd.R_drewN | apply Kd.R_drew)); exact HO274.out)⟩; have n1_ : Aside0 (Below w.heap.size w w30) := ⟨by rw [← hq_]; exact (by repeat (first | (with_reducible first | exact HB.out | apply below_alloc | apply pw_below_drewN | apply below_drew1) | exact HB.out))⟩; clear HO274 HB hq_; have HO274 := n0_; have HB := n1_; clear n0_ n1_))) | ((with_reducible refine gate_callee (f := 46) rfl ?_); refine goesL_ (some 32) rfl rfl Try.func46 (by kernel_rfl) rfl #[.slice (some ⟨go13, 0, none⟩) y277.length co28, .int .i64 8] rfl (by (try simp only [List.map_toArray, List.map_cons, List.map_nil]); first | done | (rw [show y277.length = y272.length from (Kd.R_reads' HO274.out).1.symm] <;> rfl) | rfl | (simp only [List.length_drop, List.length_take]; rfl)) ?_; (with_reducible refine (castellanref1_Get16.calls _ _ y277 8 t279 _ ?side1 ?side2 A15.out).mono ?_); (case side1 => repeat (first | exact (Kd.R_reads' HO274.out).2.2 | (with_reducible refine Kd.C_alloc ?_ _) | (with_reducible refine Kd.C_drewN ?_ _) | (with_reducible refine Kd.C_drew ?_))); (case side2 => rw [show y277.length = y272.length from (Kd.R_reads' HO274.out).1.symm]; exact (Kd.R_reads' HO274.out).2.1); rintro e w' ⟨rfl, ⟨nd, rfl⟩⟩; refine ⟨_, rfl, ?_⟩; (try (rw [drewN_self w30]; generalize hq_ : World.drewN w30 _ = w30; have n0_ : Aside0 (Kd.R (Kd.int .u8) 5 w30 w.heap.size (fun _ => True) (.slice (some ⟨go13, 0, none⟩) y272.length co28) y277) := ⟨by rw [← hq_]; exact (by (with_reducible repeat (first | apply Kd.R_alloc | apply Kd.R_drewN | apply Kd.R_drew)); exact HO274.out)⟩; have n1_ : Aside0 (Below w.heap.size w w30) := ⟨by rw [← hq_]; exact (by repeat (first | (with_reducible first | exact HB.out | apply below_alloc | apply pw_below_drewN | apply below_drew1) | exact HB.out))⟩; clear HO274 HB hq_; have HO274 := n0_; have HB := n1_; clear n0_ n1_))) | ((with_reducible refine gate_callee (f := 55) rfl ?_); refine goesL_ (some 33) rfl rfl Try.func55 (by kernel_rfl) rfl #[.int .i64 t278, .int .i64 t275, .int .i64 t279] rfl (by (try simp only [List.map_toArray, List.map_cons, List.map_nil]); first | done | rfl | (simp only [List.length_drop, List.length_take]; rfl)) ?_; (with_reducible refine (castellanref2_Update.calls kj1 t278 t275 t279 t280 _ A16.out).mono ?_); rintro e w' ⟨rfl, ⟨nd, rfl⟩⟩; refine ⟨_, rfl, ?_⟩; (try (rw [drewN_self w30]; generalize hq_ : World.drewN w30 _ = w30; have n0_ : Aside0 (Kd.R (Kd.int .u8) 5 w30 w.heap.size (fun _ => True) (.slice (some ⟨go13, 0, none⟩) y272.length co28) y277) := ⟨by rw [← hq_]; exact (by (with_reducible repeat (first | apply Kd.R_alloc | apply Kd.R_drewN | apply Kd.R_drew)); exact HO274.out)⟩; have n1_ : Aside0 (Below w.heap.size w w30) := ⟨by rw [← hq_]; exact (by repeat (first | (with_reducible first | exact HB.out | apply below_alloc | apply pw_below_drewN | apply below_drew1) | exact HB.out))⟩; clear HO274 HB hq_; have HO274 := n0_; have HB := n1_; clear n0_ n1_))) | ((with_reducible refine gate_callee (f := 45) rfl ?_); refine goesL_ (some 34) rfl rfl Try.func45 (by kernel_rfl) rfl #[.int .i64 t280] rfl (by (try simp only [List.map_toArray, List.map_cons, List.map_nil]); first | done | rfl | (simp only [List.length_drop, List.length_take]; rfl)) ?_; (with_reducible refine (castellanref1_Put16.calls t280 t281 _ A17.out).mono ?_); rintro e w31 ⟨v282, rfl, ho0, hb⟩; refine ⟨_, rfl, ?_⟩; have n0_ := Aside0.mk (Kd.R_elder' (by (with_reducible repeat (first | apply Kd.R_alloc | apply Kd.R_drewN | apply Kd.R_drew)); exact HO274.out) (Kd.R_base ho0) hb); have n1_ := Aside0.mk (Kd.R_lower (Kd.R_new' ho0 (Kd.R_lt (by (with_reducible repeat (first | apply Kd.R_alloc | apply Kd.R_drewN | apply Kd.R_drew)); exact HO274.out))) (below_size (by repeat (first | (with_reducible first | exact HB.out | apply below_alloc | apply pw_below_drewN | apply below_drew1) | exact HB.out)))); have n2_ := Aside0.mk (below_step (by repeat (first | (with_reducible first | exact HB.out | apply below_alloc | apply pw_below_drewN | apply below_drew1) | exact HB.out)) hb); clear HO274; clear HB; have HO274 := n0_; have HO283 := n1_; have HB := n2_; clear n0_ n1_ n2_; (try clear hb); (try clear hb2); (try clear hk); (try clear hi); (try clear ho0)))
                        have n0_ := Aside0.mk (Kd.R_drew HO274.out)
                        have n1_ := Aside0.mk (Kd.R_drew HO283.out)
                        have n2_ := Aside0.mk (below_drew1 HB.out)
                        clear HO274
                        clear HO283
                        clear HB
                        have HO274 := n0_
                        have HO283 := n1_
                        have HB := n2_
                        clear n0_ n1_ n2_
                        obtain ⟨Ao33, co33, eo33⟩ := Kd.R_slice HO283.out
                        (first | subst eo33 | (injection eo33 with f1_ f2_ f3_; have f4_ := f1_.symm; have f5_ := f3_.symm; clear f1_ f2_ f3_; subst f4_; subst f5_))
                        have p284 : 0 ≤ (0 : Int) := (by omega)
                        have q284 : 0 < (t281.length : Int) := of_decide_eq_true (by first | (with_reducible assumption) | assumption)
                        obtain ⟨ad284, e284, hx284_0⟩ := Kd.at_int (Kd.R_reads' HO283.out).2.2 0 p284 q284
                        cases e284
                        have qi284 : (0 < t281.length) = True := eq_true (by omega)
                        (try rw [show ((0 : Int)).toNat = 0 from rfl] at hx284_0)
                        (try rw [Addr.add_zero'] at hx284_0)
                        replace p284 := eq_true p284
                        replace q284 := eq_true q284
                        have p285 : 0 ≤ (1 : Int) := (by omega)
                        have q285 : 1 < (t281.length : Int) := of_decide_eq_true (by first | (with_reducible assumption) | assumption)
                        obtain ⟨ad285, e285, hx285_0⟩ := Kd.at_int (Kd.R_reads' HO283.out).2.2 1 p285 q285
                        obtain rfl : ad284 = ad285 := (by injection e285)
                        (try simp only [show (1 : Int).toNat = 1 from rfl, Nat.reduceMul, Nat.reduceEqDiff, Go.Addr.add, ↓reduceIte] at hx285_0)
                        have qi285 : (1 < t281.length) = True := eq_true (by omega)
                        (try rw [show ((1 : Int)).toNat = 1 from rfl] at hx285_0)
                        replace p285 := eq_true p285
                        replace q285 := eq_true q285
                        have p21 : 0 ≤ (10 : Int) := (by omega)
                        have q21 : (10 : Int) < ((y272.length : Int) : Int) := of_decide_eq_true (by first | (with_reducible assumption) | assumption)
                        have qi21 : (10 < y272.length) = True := eq_true (by omega)
                        obtain ⟨hx21_0, hf21_0⟩ := Kd.R_celln 0 HO274.out (10 : Int) p21 q21
                        (try rw [show ((10 : Int)).toNat = 10 from rfl] at hx21_0)
                        (try simp only [Nat.reduceMul, Nat.zero_mul, Nat.zero_add, Nat.reduceAdd] at hx21_0)
                        (try rw [show ((10 : Int)).toNat = 10 from rfl] at hf21_0)
                        (try simp only [Nat.reduceMul, Nat.zero_mul, Nat.zero_add, Nat.reduceAdd] at hf21_0)
                        replace p21 := eq_true p21
                        replace q21 := eq_true q21
                        have HP34 := Kd.R_putn HO274.out (10 : Int) (rd t281 0)
                        rw [← Ny286.out] at HP34
                        have HQ34 := Aside0.mk HP34
                        clear HP34
                        have p23 : 0 ≤ (11 : Int) := (by omega)
                        have q23 : (11 : Int) < ((y272.length : Int) : Int) := of_decide_eq_true (by first | (with_reducible assumption) | assumption)
                        have qi23 : (11 < y272.length) = True := eq_true (by omega)
                        obtain ⟨hx23_0, hf23_0⟩ := Kd.R_celln 0 HQ34.out (11 : Int) p23 q23
                        obtain ⟨hx35_0, hf35_0⟩ := Kd.R_celln 0 HO274.out (11 : Int) p23 q23
                        (try rw [show ((11 : Int)).toNat = 11 from rfl] at hx35_0)
                        (try simp only [Nat.reduceMul, Nat.zero_mul, Nat.zero_add, Nat.reduceAdd] at hx35_0)
                        (try rw [show ((11 : Int)).toNat = 11 from rfl] at hf35_0)
                        (try simp only [Nat.reduceMul, Nat.zero_mul, Nat.zero_add, Nat.reduceAdd] at hf35_0)
                        (try rw [show ((11 : Int)).toNat = 11 from rfl] at hx23_0)
                        (try simp only [Nat.reduceMul, Nat.zero_mul, Nat.zero_add, Nat.reduceAdd] at hx23_0)
                        (try rw [show ((11 : Int)).toNat = 11 from rfl] at hf23_0)
                        (try simp only [Nat.reduceMul, Nat.zero_mul, Nat.zero_add, Nat.reduceAdd] at hf23_0)
                        replace p23 := eq_true p23
                        replace q23 := eq_true q23
                        have HP36 := Kd.R_putn HQ34.out (11 : Int) (rd t281 1)
                        rw [← Ny287.out] at HP36
                        have HQ36 := Aside0.mk HP36
                        clear HP36
                        refine start_ (n := 12) (S := fun w' => w'.cell? ad284 = some (.int .u8 (rd t281 0)) ∧ w'.cell? ⟨ad284.block, ad284.off + 1, none⟩ = some (.int .u8 (rd t281 1))) (ds := [9, 11]) #[false, false, false, false, false, false, false, false, false, false, false, false] (by kernel_rfl) rfl rfl ⟨hx284_0, hx285_0⟩ (fun hHeld => ?_); refine with_tabW castellanref4_Less.tab7 castellanref4_Less.bits7 (fun HT_ HW_ => ?_)
                        generalize w31.drew = w32 at HO274 HO283 HB HQ34 HQ36 hf21_0 hf23_0 hf35_0 hx21_0 hx23_0 hx284_0 hx285_0 hx35_0 hHeld ⊢
                        refine pure_ (i := 0) (N := some 35) (v := ?_) (a' := ?_) #[true, false, false, false, false, false, false, false, false, false, false, false] rfl rfl (any_of HT_.out (by kernel_rfl)) (fun _ _ _ h => h) (Or.inl ⟨by rfl, ?_⟩) ?_ ?_
                        rotate_left
                        · intro w'
                          go_simp
                          with_reducible rfl
                        rotate_left
                        · simp only [Act.put, List.setIfInBounds_toArray, List.set_cons_zero, List.set_cons_succ, i64_w, i32_w]
                          rfl
                        refine pure_ (i := 1) (N := some 36) (v := ?_) (a' := ?_) #[true, true, false, false, false, false, false, false, false, false, false, false] rfl rfl (any_of HT_.out (by kernel_rfl)) (fun _ _ _ h => h) (Or.inl ⟨by rfl, ?_⟩) ?_ ?_
                        rotate_left
                        · intro w'
                          go_simp
                          with_reducible rfl
                        rotate_left
                        · simp only [Act.put, List.setIfInBounds_toArray, List.set_cons_zero, List.set_cons_succ, i64_w, i32_w]
                          rfl
                        refine pure_ (i := 2) (N := some 37) (v := ?_) (a' := ?_) #[true, true, true, false, false, false, false, false, false, false, false, false] rfl rfl (any_of HT_.out (by kernel_rfl)) (fun _ _ _ h => h) (Or.inl ⟨by rfl, ?_⟩) ?_ ?_
                        rotate_left
                        · intro w'
                          go_simp
                          with_reducible rfl
                        rotate_left
                        · simp only [Act.put, List.setIfInBounds_toArray, List.set_cons_zero, List.set_cons_succ, i64_w, i32_w]
                          rfl
                        refine pure_ (i := 3) (N := some 38) (v := ?_) (a' := ?_) #[true, true, true, true, false, false, false, false, false, false, false, false] rfl rfl (any_of HT_.out (by kernel_rfl)) (fun _ _ _ h => h) (Or.inl ⟨by rfl, ?_⟩) ?_ ?_
                        rotate_left
                        · intro w'
                          go_simp
                          with_reducible rfl
                        rotate_left
                        · simp only [Act.put, List.setIfInBounds_toArray, List.set_cons_zero, List.set_cons_succ, i64_w, i32_w]
                          rfl
                        refine pure_ (i := 5) (N := some 40) (v := ?_) (a' := ?_) #[true, true, true, true, false, true, false, false, false, false, false, false] rfl rfl (any_of HT_.out (by kernel_rfl)) (fun _ _ _ h => h) (Or.inl ⟨by rfl, ?_⟩) ?_ ?_
                        rotate_left
                        · intro w'
                          go_simp
                          with_reducible rfl
                        rotate_left
                        · simp only [Act.put, List.setIfInBounds_toArray, List.set_cons_zero, List.set_cons_succ, i64_w, i32_w]
                          rfl
                        refine pure_ (i := 6) (N := some 41) (v := ?_) (a' := ?_) #[true, true, true, true, false, true, true, false, false, false, false, false] rfl rfl (any_of HT_.out (by kernel_rfl)) (fun _ _ _ h => h) (Or.inl ⟨by rfl, ?_⟩) ?_ ?_
                        rotate_left
                        · intro w'
                          go_simp
                          with_reducible rfl
                        rotate_left
                        · simp only [Act.put, List.setIfInBounds_toArray, List.set_cons_zero, List.set_cons_succ, i64_w, i32_w]
                          rfl
                        refine take_ (i := 4) (N := some 39) (v := ?_) (a' := ?_) #[true, true, true, true, true, true, true, false, false, false, false, false] rfl rfl (take_ofW HT_.out HW_.out (by kernel_rfl)) (fun _ _ _ h => h) (Or.inl ⟨by rfl, ?_⟩) hHeld ?_ ?_
                        rotate_left
                        · rintro w' ⟨s0, s1⟩
                          go_simp
                          with_reducible rfl
                        rotate_left
                        · simp only [Act.put, List.setIfInBounds_toArray, List.set_cons_zero, List.set_cons_succ, i64_w, i32_w]
                          rfl
                        refine take_ (i := 7) (N := some 42) (v := ?_) (a' := ?_) #[true, true, true, true, true, true, true, true, false, false, false, false] rfl rfl (take_ofW HT_.out HW_.out (by kernel_rfl)) (fun _ _ _ h => h) (Or.inl ⟨by rfl, ?_⟩) hHeld ?_ ?_
                        rotate_left
                        · rintro w' ⟨s0, s1⟩
                          go_simp
                          with_reducible rfl
                        rotate_left
                        · simp only [Act.put, List.setIfInBounds_toArray, List.set_cons_zero, List.set_cons_succ, i64_w, i32_w]
                          rfl
                        refine pure_ (i := 8) (N := some 43) (v := ?_) (a' := ?_) #[true, true, true, true, true, true, true, true, true, false, false, false] rfl rfl (any_of HT_.out (by kernel_rfl)) (fun _ _ _ h => h) (Or.inl ⟨by rfl, ?_⟩) ?_ ?_
                        rotate_left
                        · intro w'
                          go_simp
                          with_reducible rfl
                        rotate_left
                        · simp only [Act.put, List.setIfInBounds_toArray, List.set_cons_zero, List.set_cons_succ, i64_w, i32_w]
                          rfl
                        refine last_ (i := 9) (N := none) #[true, true, true, true, true, true, true, true, true, true, false, false] rfl rfl (one_of HT_.out (by kernel_rfl)) (by decide) (fun K hK => ?_)
                        refine skip_ (w1 := ?_) (by rfl) rfl ?_ ?_
                        rotate_left
                        · go_simp
                          rfl
                        refine hK.out _ _ ?_
                        clear hK K
                        refine pure_ (i := 10) (N := some 44) (v := ?_) (a' := ?_) #[true, true, true, true, true, true, true, true, true, true, true, false] rfl rfl (any_of HT_.out (by kernel_rfl)) (fun _ _ _ h => h) (Or.inl ⟨by rfl, ?_⟩) ?_ ?_
                        rotate_left
                        · intro w'
                          go_simp
                          with_reducible rfl
                        rotate_left
                        · simp only [Act.put, List.setIfInBounds_toArray, List.set_cons_zero, List.set_cons_succ, i64_w, i32_w]
                          rfl
                        refine last_ (i := 11) (N := none) #[true, true, true, true, true, true, true, true, true, true, true, true] rfl rfl (one_of HT_.out (by kernel_rfl)) (by decide) (fun K hK => ?_)
                        refine skip_ (w1 := ?_) (by rfl) rfl ?_ ?_
                        rotate_left
                        · go_simp
                          rfl
                        refine hK.out _ _ ?_
                        clear hK K
                        refine done_ (done_of HT_.out (by kernel_rfl)) ?_
                        try go_wp2
                        go_ret
                        exact ⟨_, by first | rfl | (simp [errW_none, errW_some] <;> rfl) | (simp [*, errW_none, errW_some] <;> rfl), by (with_reducible repeat (first | apply Kd.R_alloc | apply Kd.R_drewN | apply Kd.R_drew)); exact Kd.R_mono HQ36.out (fun _ hk => trivial), by repeat (first | (with_reducible first | exact HB.out | apply below_alloc | apply pw_below_drewN | apply below_drew1 | refine below_set ?_ GB13.out | refine below_set ?_ GB13.out) | exact HB.out)⟩
                      · rw [if_neg c22] at H
                        exact absurd H (by simp)
                    · rw [if_neg c20] at H
                      exact absurd H (by simp)
                  · rw [if_neg c19] at H
                    exact absurd H (by simp)
                · rw [if_neg c18] at H
                  exact absurd H (by simp)
              · rw [if_neg c12] at H
                exact absurd H (by simp)
            · rw [if_neg c10] at H
              exact absurd H (by simp)
          · rw [if_neg c9] at H
            exact absurd H (by simp)
        · rw [if_neg c8] at H
          exact absurd H (by simp)

end Go.Proofs.Ytbpnienknijogaa.QIpLess
