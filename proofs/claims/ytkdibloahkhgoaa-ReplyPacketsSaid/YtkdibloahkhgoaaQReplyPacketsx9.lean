-- written by myprint.py, a program of this session's over the kit's printer
import Derived.Test.YtkdibloahkhgoaaQReplyPacketsx0
import Derived.Test.YtkdibloahkhgoaaQReplyPacketsx1
import Derived.Test.YtkdibloahkhgoaaQReplyPacketsx8
namespace Go.Proofs.Ytkdibloahkhgoaa.QReplyPackets
open Go.RowKit Go.Proofs.YtkdibloahkhgoaaW.PrintWords Go.Proofs.YtkdibloahkhgoaaW.PrintLast Go.Proofs.YtkdibloahkhgoaaW.PrintMore
attribute [local go_sem] max2_int min2_int max_two min_two max_three min_three max_four min_four   -- for this text's walks alone
set_option linter.unusedVariables false
set_option linter.unusedSimpArgs false

/-! ### castellanref4_Read: function 55 -/
def castellanref4_Read.f (l0 : List Int) : Option (Int × Int × Bool × Bool × Int × Int × Int × Int × Int × List Int × List Int) := (castellanref4_Header.f l0).bind fun t352 => ((castellanref1_Get16.f l0 2).bind fun t353 => ((castellanref1_Get16.f l0 6).bind fun t354 => (if 1 < (l0.length : Int) then ((castellanref1_Get16.f l0 4).bind fun t356 => (if 8 < (l0.length : Int) then (if 9 < (l0.length : Int) then ((castellanref1_Get32.f l0 12).bind fun t360 => ((castellanref1_Get32.f l0 16).bind fun t361 => ((some (([] : List Int) : List Int)).bind fun y362 => (if 20 ≤ t352 then (if t352 ≤ (l0.length : Int) then (if y362.length + ((l0.take (t352 : Int).toNat).drop 20).length < 140737488355328 then ((some (([] : List Int) : List Int)).bind fun y369 => (if 0 ≤ t352 then (if t352 ≤ (mn (mx t353 t352) (l0.length : Int)) then (if (mn (mx t353 t352) (l0.length : Int)) ≤ (l0.length : Int) then (if y369.length + ((l0.take ((mn (mx t353 t352) (l0.length : Int)) : Int).toNat).drop (t352 : Int).toNat).length < 140737488355328 then (some (wrap64 (rd l0 1), t356, ((Go.bits .and .i64 (t354 / 16384) 1) == 1), ((Go.bits .and .i64 (t354 / 8192) 1) == 1), Go.bits .and .i64 t354 8191, wrap64 (rd l0 8), wrap64 (rd l0 9), t360, t361, (y362 ++ ((l0.take (t352 : Int).toNat).drop 20)), (y369 ++ ((l0.take ((mn (mx t353 t352) (l0.length : Int)) : Int).toNat).drop (t352 : Int).toNat)))) else (none)) else (none)) else (none)) else (none))) else (none)) else (none)) else (none))))) else (none)) else (none))) else (none))))
def castellanref4_Read.T4 : Bool × List (List Nat × List Nat) := (true, [([], []), ([0], [0]), ([1], [1]), ([2], [2]), ([], []), ([4], [4]), ([], []), ([6], [6]), ([7], [7]), ([8], [8]), ([], []), ([10], [10]), ([11], [11]), ([12], [12]), ([], []), ([14], [14]), ([], []), ([16], [16]), ([17], [17]), ([18], [18]), ([], []), ([20], [20]), ([21], [21]), ([22], [22]), ([3, 5, 9, 13, 15, 19, 23], [3, 5, 9, 13, 15, 19, 23]), ([], []), ([25, 24, 5, 0, 1, 2, 3, 4, 5, 6, 7, 8, 9, 10, 11, 12, 13, 14, 15, 16, 17, 18, 19, 20, 21, 22, 23, 24, 25], [24, 25])])
def castellanref4_Read.B4 : List Nat := [0, 1, 3, 7, 0, 16, 0, 64, 192, 448, 0, 1024, 3072, 7168, 0, 16384, 0, 65536, 196608, 458752, 0, 1048576, 3145728, 7340032, 16777215, 0, 67108863]
theorem castellanref4_Read.tab4 : rtab .any (opsOf Try.f55 4) = castellanref4_Read.T4 := by kernel_rfl
theorem castellanref4_Read.bits4 : waitsOk castellanref4_Read.T4.2 castellanref4_Read.B4 = true := by kernel_rfl
def castellanref4_Read.T6 : Bool × List (List Nat × List Nat) := (true, [([], []), ([], []), ([], []), ([1, 2], [1, 2]), ([0, 3], [0, 3]), ([], []), ([], []), ([], []), ([], []), ([6, 7, 8], [6, 7, 8]), ([5, 9, 4], [5, 9]), ([0, 1, 2, 3, 4], []), ([11, 4, 10, 0, 1, 2, 3, 4], [4, 11]), ([0, 1, 2, 3, 4, 5, 6, 7, 8, 9, 10, 11, 12], []), ([13, 10, 12, 0, 1, 2, 3, 4, 5, 6, 7, 8, 9, 10, 11, 12], [10, 13])])
def castellanref4_Read.B6 : List Nat := [0, 0, 0, 6, 15, 0, 0, 0, 0, 448, 1023, 31, 4095, 8191, 16383]
theorem castellanref4_Read.tab6 : rtab .any (opsOf Try.f55 6) = castellanref4_Read.T6 := by kernel_rfl
theorem castellanref4_Read.bits6 : waitsOk castellanref4_Read.T6.2 castellanref4_Read.B6 = true := by kernel_rfl
set_option maxHeartbeats 8000000 in
set_option maxRecDepth 100000 in
theorem castellanref4_Read.calls (A0 : Option Addr) (c0 : Nat) (l0 : List Int) (r1 : Int) (r2 : Int) (r3 : Bool) (r4 : Bool) (r5 : Int) (r6 : Int) (r7 : Int) (r8 : Int) (r9 : Int) (r10 : List Int) (r11 : List Int) (w : World) (hr0 : Kd.C (Kd.int .u8) w A0 l0.length l0) (hc0 : l0.length ≤ c0) (h : castellanref4_Read.f l0 = some (r1, r2, r3, r4, r5, r6, r7, r8, r9, r10, r11)) :
  Calls Try.prog 55 #[.slice A0 l0.length c0] w fun e w' => ∃ v9_ v10_ : Value, e = .returned (.agg #[.int .i64 r1, .int .i64 r2, .bool r3, .bool r4, .int .i64 r5, .int .i64 r6, .int .i64 r7, .int .u32 r8, .int .u32 r9, v9_, v10_]) ∧ Kd.R (Kd.int .u8) 5 w' w.heap.size (fun k_ => some k_ ≠ (v10_ : Value).ownBlock) v9_ r10 ∧ Kd.R (Kd.int .u8) 5 w' w.heap.size (fun k_ => some k_ ≠ (v9_ : Value).ownBlock) v10_ r11 ∧ Below w.heap.size w w' := by
 have hu26 := Try.underlying26
 have HR0 := Aside0.mk hr0
 have HC0 := Aside0.mk hc0
 clear hr0 hc0
 have HB := Aside0.mk (Below.refl w.heap.size w)
 have H : ((castellanref4_Header.f l0).bind fun t352 => ((castellanref1_Get16.f l0 2).bind fun t353 => ((castellanref1_Get16.f l0 6).bind fun t354 => (if 1 < (l0.length : Int) then ((castellanref1_Get16.f l0 4).bind fun t356 => (if 8 < (l0.length : Int) then (if 9 < (l0.length : Int) then ((castellanref1_Get32.f l0 12).bind fun t360 => ((castellanref1_Get32.f l0 16).bind fun t361 => ((some (([] : List Int) : List Int)).bind fun y362 => (if 20 ≤ t352 then (if t352 ≤ (l0.length : Int) then (if y362.length + ((l0.take (t352 : Int).toNat).drop 20).length < 140737488355328 then ((some (([] : List Int) : List Int)).bind fun y369 => (if 0 ≤ t352 then (if t352 ≤ (mn (mx t353 t352) (l0.length : Int)) then (if (mn (mx t353 t352) (l0.length : Int)) ≤ (l0.length : Int) then (if y369.length + ((l0.take ((mn (mx t353 t352) (l0.length : Int)) : Int).toNat).drop (t352 : Int).toNat).length < 140737488355328 then (some (wrap64 (rd l0 1), t356, ((Go.bits .and .i64 (t354 / 16384) 1) == 1), ((Go.bits .and .i64 (t354 / 8192) 1) == 1), Go.bits .and .i64 t354 8191, wrap64 (rd l0 8), wrap64 (rd l0 9), t360, t361, (y362 ++ ((l0.take (t352 : Int).toNat).drop 20)), (y369 ++ ((l0.take ((mn (mx t353 t352) (l0.length : Int)) : Int).toNat).drop (t352 : Int).toNat)))) else (none)) else (none)) else (none)) else (none))) else (none)) else (none)) else (none))))) else (none)) else (none))) else (none))))) = some (r1, r2, r3, r4, r5, r6, r7, r8, r9, r10, r11) := h
 clear h
 replace H := Option.bind_eq_some_iff.mp H
 obtain ⟨t352, A20, H⟩ := H
 replace H : ((castellanref1_Get16.f l0 2).bind fun t353 => ((castellanref1_Get16.f l0 6).bind fun t354 => (if 1 < (l0.length : Int) then ((castellanref1_Get16.f l0 4).bind fun t356 => (if 8 < (l0.length : Int) then (if 9 < (l0.length : Int) then ((castellanref1_Get32.f l0 12).bind fun t360 => ((castellanref1_Get32.f l0 16).bind fun t361 => ((some (([] : List Int) : List Int)).bind fun y362 => (if 20 ≤ t352 then (if t352 ≤ (l0.length : Int) then (if y362.length + ((l0.take (t352 : Int).toNat).drop 20).length < 140737488355328 then ((some (([] : List Int) : List Int)).bind fun y369 => (if 0 ≤ t352 then (if t352 ≤ (mn (mx t353 t352) (l0.length : Int)) then (if (mn (mx t353 t352) (l0.length : Int)) ≤ (l0.length : Int) then (if y369.length + ((l0.take ((mn (mx t353 t352) (l0.length : Int)) : Int).toNat).drop (t352 : Int).toNat).length < 140737488355328 then (some (wrap64 (rd l0 1), t356, ((Go.bits .and .i64 (t354 / 16384) 1) == 1), ((Go.bits .and .i64 (t354 / 8192) 1) == 1), Go.bits .and .i64 t354 8191, wrap64 (rd l0 8), wrap64 (rd l0 9), t360, t361, (y362 ++ ((l0.take (t352 : Int).toNat).drop 20)), (y369 ++ ((l0.take ((mn (mx t353 t352) (l0.length : Int)) : Int).toNat).drop (t352 : Int).toNat)))) else (none)) else (none)) else (none)) else (none))) else (none)) else (none)) else (none))))) else (none)) else (none))) else (none)))) = some (r1, r2, r3, r4, r5, r6, r7, r8, r9, r10, r11) := H
 have A2 := Aside0.mk A20
 clear A20
 replace H := Option.bind_eq_some_iff.mp H
 obtain ⟨t353, A30, H⟩ := H
 replace H : ((castellanref1_Get16.f l0 6).bind fun t354 => (if 1 < (l0.length : Int) then ((castellanref1_Get16.f l0 4).bind fun t356 => (if 8 < (l0.length : Int) then (if 9 < (l0.length : Int) then ((castellanref1_Get32.f l0 12).bind fun t360 => ((castellanref1_Get32.f l0 16).bind fun t361 => ((some (([] : List Int) : List Int)).bind fun y362 => (if 20 ≤ t352 then (if t352 ≤ (l0.length : Int) then (if y362.length + ((l0.take (t352 : Int).toNat).drop 20).length < 140737488355328 then ((some (([] : List Int) : List Int)).bind fun y369 => (if 0 ≤ t352 then (if t352 ≤ (mn (mx t353 t352) (l0.length : Int)) then (if (mn (mx t353 t352) (l0.length : Int)) ≤ (l0.length : Int) then (if y369.length + ((l0.take ((mn (mx t353 t352) (l0.length : Int)) : Int).toNat).drop (t352 : Int).toNat).length < 140737488355328 then (some (wrap64 (rd l0 1), t356, ((Go.bits .and .i64 (t354 / 16384) 1) == 1), ((Go.bits .and .i64 (t354 / 8192) 1) == 1), Go.bits .and .i64 t354 8191, wrap64 (rd l0 8), wrap64 (rd l0 9), t360, t361, (y362 ++ ((l0.take (t352 : Int).toNat).drop 20)), (y369 ++ ((l0.take ((mn (mx t353 t352) (l0.length : Int)) : Int).toNat).drop (t352 : Int).toNat)))) else (none)) else (none)) else (none)) else (none))) else (none)) else (none)) else (none))))) else (none)) else (none))) else (none))) = some (r1, r2, r3, r4, r5, r6, r7, r8, r9, r10, r11) := H
 have A3 := Aside0.mk A30
 clear A30
 obtain ⟨ji4, hji4⟩ : ∃ j_ : Int, (mx t353 t352) = j_ := ⟨_, rfl⟩
 replace H : ((castellanref1_Get16.f l0 6).bind fun t354 => (if 1 < (l0.length : Int) then ((castellanref1_Get16.f l0 4).bind fun t356 => (if 8 < (l0.length : Int) then (if 9 < (l0.length : Int) then ((castellanref1_Get32.f l0 12).bind fun t360 => ((castellanref1_Get32.f l0 16).bind fun t361 => ((some (([] : List Int) : List Int)).bind fun y362 => (if 20 ≤ t352 then (if t352 ≤ (l0.length : Int) then (if y362.length + ((l0.take (t352 : Int).toNat).drop 20).length < 140737488355328 then ((some (([] : List Int) : List Int)).bind fun y369 => (if 0 ≤ t352 then (if t352 ≤ (mn (ji4) (l0.length : Int)) then (if (mn (ji4) (l0.length : Int)) ≤ (l0.length : Int) then (if y369.length + ((l0.take ((mn (ji4) (l0.length : Int)) : Int).toNat).drop (t352 : Int).toNat).length < 140737488355328 then (some (wrap64 (rd l0 1), t356, ((Go.bits .and .i64 (t354 / 16384) 1) == 1), ((Go.bits .and .i64 (t354 / 8192) 1) == 1), Go.bits .and .i64 t354 8191, wrap64 (rd l0 8), wrap64 (rd l0 9), t360, t361, (y362 ++ ((l0.take (t352 : Int).toNat).drop 20)), (y369 ++ ((l0.take ((mn (ji4) (l0.length : Int)) : Int).toNat).drop (t352 : Int).toNat)))) else (none)) else (none)) else (none)) else (none))) else (none)) else (none)) else (none))))) else (none)) else (none))) else (none))) = some (r1, r2, r3, r4, r5, r6, r7, r8, r9, r10, r11) := by first | (rw [hji4] at H; exact H) | (simp only [hji4] at H ⊢; exact H)
 (try rw [hji4] at A2)
 (try rw [hji4] at A3)
 have hji4_ : (if t353 < t352 then t352 else t353) = ji4 := hji4
 obtain ⟨ji5, hji5⟩ : ∃ j_ : Int, (mn (ji4) (l0.length : Int)) = j_ := ⟨_, rfl⟩
 replace H : ((castellanref1_Get16.f l0 6).bind fun t354 => (if 1 < (l0.length : Int) then ((castellanref1_Get16.f l0 4).bind fun t356 => (if 8 < (l0.length : Int) then (if 9 < (l0.length : Int) then ((castellanref1_Get32.f l0 12).bind fun t360 => ((castellanref1_Get32.f l0 16).bind fun t361 => ((some (([] : List Int) : List Int)).bind fun y362 => (if 20 ≤ t352 then (if t352 ≤ (l0.length : Int) then (if y362.length + ((l0.take (t352 : Int).toNat).drop 20).length < 140737488355328 then ((some (([] : List Int) : List Int)).bind fun y369 => (if 0 ≤ t352 then (if t352 ≤ (ji5) then (if (ji5) ≤ (l0.length : Int) then (if y369.length + ((l0.take ((ji5) : Int).toNat).drop (t352 : Int).toNat).length < 140737488355328 then (some (wrap64 (rd l0 1), t356, ((Go.bits .and .i64 (t354 / 16384) 1) == 1), ((Go.bits .and .i64 (t354 / 8192) 1) == 1), Go.bits .and .i64 t354 8191, wrap64 (rd l0 8), wrap64 (rd l0 9), t360, t361, (y362 ++ ((l0.take (t352 : Int).toNat).drop 20)), (y369 ++ ((l0.take ((ji5) : Int).toNat).drop (t352 : Int).toNat)))) else (none)) else (none)) else (none)) else (none))) else (none)) else (none)) else (none))))) else (none)) else (none))) else (none))) = some (r1, r2, r3, r4, r5, r6, r7, r8, r9, r10, r11) := by first | (rw [hji5] at H; exact H) | (simp only [hji5] at H ⊢; exact H)
 (try rw [hji5] at A2)
 (try rw [hji5] at A3)
 have hji5_ : (if (l0.length : Int) < (ji4) then (l0.length : Int) else (ji4)) = ji5 := hji5
 replace H := Option.bind_eq_some_iff.mp H
 obtain ⟨t354, A60, H⟩ := H
 replace H : (if 1 < (l0.length : Int) then ((castellanref1_Get16.f l0 4).bind fun t356 => (if 8 < (l0.length : Int) then (if 9 < (l0.length : Int) then ((castellanref1_Get32.f l0 12).bind fun t360 => ((castellanref1_Get32.f l0 16).bind fun t361 => ((some (([] : List Int) : List Int)).bind fun y362 => (if 20 ≤ t352 then (if t352 ≤ (l0.length : Int) then (if y362.length + ((l0.take (t352 : Int).toNat).drop 20).length < 140737488355328 then ((some (([] : List Int) : List Int)).bind fun y369 => (if 0 ≤ t352 then (if t352 ≤ (ji5) then (if (ji5) ≤ (l0.length : Int) then (if y369.length + ((l0.take ((ji5) : Int).toNat).drop (t352 : Int).toNat).length < 140737488355328 then (some (wrap64 (rd l0 1), t356, ((Go.bits .and .i64 (t354 / 16384) 1) == 1), ((Go.bits .and .i64 (t354 / 8192) 1) == 1), Go.bits .and .i64 t354 8191, wrap64 (rd l0 8), wrap64 (rd l0 9), t360, t361, (y362 ++ ((l0.take (t352 : Int).toNat).drop 20)), (y369 ++ ((l0.take ((ji5) : Int).toNat).drop (t352 : Int).toNat)))) else (none)) else (none)) else (none)) else (none))) else (none)) else (none)) else (none))))) else (none)) else (none))) else (none)) = some (r1, r2, r3, r4, r5, r6, r7, r8, r9, r10, r11) := H
 have A6 := Aside0.mk A60
 clear A60
 by_cases c7 : 1 < (l0.length : Int)
 ·rw [if_pos c7] at H
  have c7b0 : decide (1 < (l0.length : Int)) = true := decide_eq_true c7
  have c7b1 : decide (1 < l0.length) = true := decide_eq_true (by omega)
  clear c7
  replace H := Option.bind_eq_some_iff.mp H
  obtain ⟨t356, A80, H⟩ := H
  replace H : (if 8 < (l0.length : Int) then (if 9 < (l0.length : Int) then ((castellanref1_Get32.f l0 12).bind fun t360 => ((castellanref1_Get32.f l0 16).bind fun t361 => ((some (([] : List Int) : List Int)).bind fun y362 => (if 20 ≤ t352 then (if t352 ≤ (l0.length : Int) then (if y362.length + ((l0.take (t352 : Int).toNat).drop 20).length < 140737488355328 then ((some (([] : List Int) : List Int)).bind fun y369 => (if 0 ≤ t352 then (if t352 ≤ (ji5) then (if (ji5) ≤ (l0.length : Int) then (if y369.length + ((l0.take ((ji5) : Int).toNat).drop (t352 : Int).toNat).length < 140737488355328 then (some (wrap64 (rd l0 1), t356, ((Go.bits .and .i64 (t354 / 16384) 1) == 1), ((Go.bits .and .i64 (t354 / 8192) 1) == 1), Go.bits .and .i64 t354 8191, wrap64 (rd l0 8), wrap64 (rd l0 9), t360, t361, (y362 ++ ((l0.take (t352 : Int).toNat).drop 20)), (y369 ++ ((l0.take ((ji5) : Int).toNat).drop (t352 : Int).toNat)))) else (none)) else (none)) else (none)) else (none))) else (none)) else (none)) else (none))))) else (none)) else (none)) = some (r1, r2, r3, r4, r5, r6, r7, r8, r9, r10, r11) := H
  have A8 := Aside0.mk A80
  clear A80
  by_cases c9 : 8 < (l0.length : Int)
  ·rw [if_pos c9] at H
   have c9b0 : decide (8 < (l0.length : Int)) = true := decide_eq_true c9
   have c9b1 : decide (8 < l0.length) = true := decide_eq_true (by omega)
   clear c9
   by_cases c10 : 9 < (l0.length : Int)
   ·rw [if_pos c10] at H
    have c10b0 : decide (9 < (l0.length : Int)) = true := decide_eq_true c10
    have c10b1 : decide (9 < l0.length) = true := decide_eq_true (by omega)
    clear c10
    replace H := Option.bind_eq_some_iff.mp H
    obtain ⟨t360, A110, H⟩ := H
    replace H : ((castellanref1_Get32.f l0 16).bind fun t361 => ((some (([] : List Int) : List Int)).bind fun y362 => (if 20 ≤ t352 then (if t352 ≤ (l0.length : Int) then (if y362.length + ((l0.take (t352 : Int).toNat).drop 20).length < 140737488355328 then ((some (([] : List Int) : List Int)).bind fun y369 => (if 0 ≤ t352 then (if t352 ≤ (ji5) then (if (ji5) ≤ (l0.length : Int) then (if y369.length + ((l0.take ((ji5) : Int).toNat).drop (t352 : Int).toNat).length < 140737488355328 then (some (wrap64 (rd l0 1), t356, ((Go.bits .and .i64 (t354 / 16384) 1) == 1), ((Go.bits .and .i64 (t354 / 8192) 1) == 1), Go.bits .and .i64 t354 8191, wrap64 (rd l0 8), wrap64 (rd l0 9), t360, t361, (y362 ++ ((l0.take (t352 : Int).toNat).drop 20)), (y369 ++ ((l0.take ((ji5) : Int).toNat).drop (t352 : Int).toNat)))) else (none)) else (none)) else (none)) else (none))) else (none)) else (none)) else (none)))) = some (r1, r2, r3, r4, r5, r6, r7, r8, r9, r10, r11) := H
    have A11 := Aside0.mk A110
    clear A110
    replace H := Option.bind_eq_some_iff.mp H
    obtain ⟨t361, A120, H⟩ := H
    replace H : ((some (([] : List Int) : List Int)).bind fun y362 => (if 20 ≤ t352 then (if t352 ≤ (l0.length : Int) then (if y362.length + ((l0.take (t352 : Int).toNat).drop 20).length < 140737488355328 then ((some (([] : List Int) : List Int)).bind fun y369 => (if 0 ≤ t352 then (if t352 ≤ (ji5) then (if (ji5) ≤ (l0.length : Int) then (if y369.length + ((l0.take ((ji5) : Int).toNat).drop (t352 : Int).toNat).length < 140737488355328 then (some (wrap64 (rd l0 1), t356, ((Go.bits .and .i64 (t354 / 16384) 1) == 1), ((Go.bits .and .i64 (t354 / 8192) 1) == 1), Go.bits .and .i64 t354 8191, wrap64 (rd l0 8), wrap64 (rd l0 9), t360, t361, (y362 ++ ((l0.take (t352 : Int).toNat).drop 20)), (y369 ++ ((l0.take ((ji5) : Int).toNat).drop (t352 : Int).toNat)))) else (none)) else (none)) else (none)) else (none))) else (none)) else (none)) else (none))) = some (r1, r2, r3, r4, r5, r6, r7, r8, r9, r10, r11) := H
    have A12 := Aside0.mk A120
    clear A120
    obtain ⟨y362, hy362⟩ : ∃ y_ : List Int, y_ = (([] : List Int)) := ⟨_, rfl⟩
    replace H : (if 20 ≤ t352 then (if t352 ≤ (l0.length : Int) then (if y362.length + ((l0.take (t352 : Int).toNat).drop 20).length < 140737488355328 then ((some (([] : List Int) : List Int)).bind fun y369 => (if 0 ≤ t352 then (if t352 ≤ (ji5) then (if (ji5) ≤ (l0.length : Int) then (if y369.length + ((l0.take ((ji5) : Int).toNat).drop (t352 : Int).toNat).length < 140737488355328 then (some (wrap64 (rd l0 1), t356, ((Go.bits .and .i64 (t354 / 16384) 1) == 1), ((Go.bits .and .i64 (t354 / 8192) 1) == 1), Go.bits .and .i64 t354 8191, wrap64 (rd l0 8), wrap64 (rd l0 9), t360, t361, (y362 ++ ((l0.take (t352 : Int).toNat).drop 20)), (y369 ++ ((l0.take ((ji5) : Int).toNat).drop (t352 : Int).toNat)))) else (none)) else (none)) else (none)) else (none))) else (none)) else (none)) else (none)) = some (r1, r2, r3, r4, r5, r6, r7, r8, r9, r10, r11) := by first | (rw [hy362]; with_reducible exact H) | (have H2_ := (Option.bind_some _ _).symm.trans H; rw [hy362]; with_reducible exact H2_) | (have H2_ := (Option.bind_some _ _).symm.trans H; with_reducible exact H2_) | with_reducible exact H | (rw [hy362]; exact H) | exact H
    have Ny362 := Aside0.mk hy362
    clear hy362
    by_cases c13 : 20 ≤ t352
    ·rw [if_pos c13] at H
     have c13b0 := eq_true c13
     have c13b1 : decide (20 ≤ t352) = true := decide_eq_true c13
     clear c13
     by_cases c14 : t352 ≤ (l0.length : Int)
     ·rw [if_pos c14] at H
      have c14b0 := eq_true c14
      have c14b1 : decide (t352 ≤ (l0.length : Int)) = true := decide_eq_true c14
      clear c14
      by_cases c15 : y362.length + ((l0.take (t352 : Int).toNat).drop 20).length < 140737488355328
      ·rw [if_pos c15] at H
       have LMc15 := Aside0.mk c15
       clear c15
       obtain ⟨y366, hy366⟩ : ∃ y_ : List Int, y_ = (y362 ++ ((l0.take (t352 : Int).toNat).drop 20)) := ⟨_, rfl⟩
       replace H : ((some (([] : List Int) : List Int)).bind fun y369 => (if 0 ≤ t352 then (if t352 ≤ (ji5) then (if (ji5) ≤ (l0.length : Int) then (if y369.length + ((l0.take ((ji5) : Int).toNat).drop (t352 : Int).toNat).length < 140737488355328 then (some (wrap64 (rd l0 1), t356, ((Go.bits .and .i64 (t354 / 16384) 1) == 1), ((Go.bits .and .i64 (t354 / 8192) 1) == 1), Go.bits .and .i64 t354 8191, wrap64 (rd l0 8), wrap64 (rd l0 9), t360, t361, y366, (y369 ++ ((l0.take ((ji5) : Int).toNat).drop (t352 : Int).toNat)))) else (none)) else (none)) else (none)) else (none))) = some (r1, r2, r3, r4, r5, r6, r7, r8, r9, r10, r11) := by first | (rw [hy366]; with_reducible exact H) | (have H2_ := (Option.bind_some _ _).symm.trans H; rw [hy366]; with_reducible exact H2_) | (have H2_ := (Option.bind_some _ _).symm.trans H; with_reducible exact H2_) | with_reducible exact H | (rw [hy366]; exact H) | exact H
       have Ny366 := Aside0.mk hy366
       clear hy366
       obtain ⟨y369, hy369⟩ : ∃ y_ : List Int, y_ = (([] : List Int)) := ⟨_, rfl⟩
       replace H : (if 0 ≤ t352 then (if t352 ≤ (ji5) then (if (ji5) ≤ (l0.length : Int) then (if y369.length + ((l0.take ((ji5) : Int).toNat).drop (t352 : Int).toNat).length < 140737488355328 then (some (wrap64 (rd l0 1), t356, ((Go.bits .and .i64 (t354 / 16384) 1) == 1), ((Go.bits .and .i64 (t354 / 8192) 1) == 1), Go.bits .and .i64 t354 8191, wrap64 (rd l0 8), wrap64 (rd l0 9), t360, t361, y366, (y369 ++ ((l0.take ((ji5) : Int).toNat).drop (t352 : Int).toNat)))) else (none)) else (none)) else (none)) else (none)) = some (r1, r2, r3, r4, r5, r6, r7, r8, r9, r10, r11) := by first | (rw [hy369]; with_reducible exact H) | (have H2_ := (Option.bind_some _ _).symm.trans H; rw [hy369]; with_reducible exact H2_) | (have H2_ := (Option.bind_some _ _).symm.trans H; with_reducible exact H2_) | with_reducible exact H | (rw [hy369]; exact H) | exact H
       have Ny369 := Aside0.mk hy369
       clear hy369
       by_cases c16 : 0 ≤ t352
       ·rw [if_pos c16] at H
        have c16b0 := eq_true c16
        have c16b1 : decide (0 ≤ t352) = true := decide_eq_true c16
        clear c16
        by_cases c17 : t352 ≤ (ji5)
        ·rw [if_pos c17] at H
         have c17b0 := eq_true c17
         have c17b1 : decide (t352 ≤ (ji5)) = true := decide_eq_true c17
         clear c17
         by_cases c18 : (ji5) ≤ (l0.length : Int)
         ·rw [if_pos c18] at H
          have c18b0 := eq_true c18
          have c18b1 : decide ((ji5) ≤ (l0.length : Int)) = true := decide_eq_true c18
          clear c18
          by_cases c19 : y369.length + ((l0.take ((ji5) : Int).toNat).drop (t352 : Int).toNat).length < 140737488355328
          ·rw [if_pos c19] at H
           have LMc19 := Aside0.mk c19
           clear c19
           obtain ⟨y373, hy373⟩ : ∃ y_ : List Int, y_ = (y369 ++ ((l0.take ((ji5) : Int).toNat).drop (t352 : Int).toNat)) := ⟨_, rfl⟩
           replace H : (some (wrap64 (rd l0 1), t356, ((Go.bits .and .i64 (t354 / 16384) 1) == 1), ((Go.bits .and .i64 (t354 / 8192) 1) == 1), Go.bits .and .i64 t354 8191, wrap64 (rd l0 8), wrap64 (rd l0 9), t360, t361, y366, y373)) = some (r1, r2, r3, r4, r5, r6, r7, r8, r9, r10, r11) := by first | (rw [hy373]; with_reducible exact H) | (have H2_ := (Option.bind_some _ _).symm.trans H; rw [hy373]; with_reducible exact H2_) | (have H2_ := (Option.bind_some _ _).symm.trans H; with_reducible exact H2_) | with_reducible exact H | (rw [hy373]; exact H) | exact H
           have Ny373 := Aside0.mk hy373
           clear hy373
           simp only [Option.some.injEq, Prod.mk.injEq] at H
           obtain ⟨rfl, rfl, rfl, rfl, rfl, rfl, rfl, rfl, rfl, rfl, rfl⟩ := H
           go_enter Try.func55, Try.ntmps55
           try go_wp2_with (first | ((with_reducible refine gate_dst (N := 2) rfl ?_); refine box_event ?hg (N := 2) ?hd (cs := #[.int .i64 0, .int .i64 0, .bool false, .bool false, .int .i64 0, .int .i64 0, .int .i64 0, .int .u32 0, .int .u32 0, .slice none 0 0, .slice none 0 0]) (t := 26) ?hr ?_; (case hd => rfl); (case hg => rfl); (case hr => first | (go_simp; done) | (go_simp; rfl)); intro gb351 hg w20 hbox hb; have n0_ := Aside0.mk (below_step (by repeat (first | (with_reducible first | exact HB.out | apply below_alloc | apply pw_below_drewN | apply below_drew1) | exact HB.out)) hb); have n1_ := Aside0.mk (hbox); have n2_ := Aside0.mk ((by rw [hg]; exact (below_size (by repeat (first | (with_reducible first | exact HB.out | apply below_alloc | apply pw_below_drewN | apply below_drew1) | exact HB.out))) : w.heap.size ≤ gb351)); have n3_ := Aside0.mk ((by rw [hg]; exact (below_size (by repeat (first | (with_reducible first | exact HB.out | apply below_alloc | apply pw_below_drewN | apply below_drew1) | exact HB.out))) : w.heap.size ≤ gb351)); clear HB; have HB := n0_; have BK351 := n1_; have GW351 := n2_; have GE351 := n3_; clear n0_ n1_ n2_ n3_; clear hb hbox hg) | ((with_reducible refine gate_callee (f := 30) rfl ?_); refine goesL_ (some 8) rfl rfl Try.func30 (by kernel_rfl) rfl #[.slice A0 l0.length c0] rfl (by (try simp only [List.map_toArray, List.map_cons, List.map_nil]); first | done | rfl | (simp only [List.length_drop, List.length_take]; rfl)) ?_; (with_reducible refine (castellanref4_Header.calls _ _ l0 t352 _ ?side1 ?side2 A2.out).mono ?_); (case side1 => repeat (first | exact (Kd.C_below HR0.out HB.out) | (with_reducible refine Kd.C_alloc ?_ _) | (with_reducible refine Kd.C_drewN ?_ _) | (with_reducible refine Kd.C_drew ?_))); (case side2 => exact HC0.out); rintro e w' ⟨rfl, ⟨nd, rfl⟩⟩; refine ⟨_, rfl, ?_⟩; (try (rw [drewN_self w20]; generalize hq_ : World.drewN w20 _ = w20; have n0_ : Aside0 (w20.heap[gb351]? = some (.cells #[.int .i64 0, .int .i64 0, .bool false, .bool false, .int .i64 0, .int .i64 0, .int .i64 0, .int .u32 0, .int .u32 0, .slice none 0 0, .slice none 0 0] 26 (0, 0))) := ⟨by rw [← hq_]; exact (by (with_reducible repeat (first | refine blk_drewN ?_ _ | refine blk_drew ?_ | refine blk_alloc ?_ _)); exact BK351.out)⟩; have n1_ : Aside0 (Below w.heap.size w w20) := ⟨by rw [← hq_]; exact (by repeat (first | (with_reducible first | exact HB.out | apply below_alloc | apply pw_below_drewN | apply below_drew1 | refine below_set ?_ GE351.out) | exact HB.out))⟩; clear BK351 HB hq_; have BK351 := n0_; have HB := n1_; clear n0_ n1_))) | ((with_reducible refine gate_callee (f := 66) rfl ?_); refine goesL_ (some 10) rfl rfl Try.func66 (by kernel_rfl) rfl #[.slice A0 l0.length c0, .int .i64 2] rfl (by (try simp only [List.map_toArray, List.map_cons, List.map_nil]); first | done | rfl | (simp only [List.length_drop, List.length_take]; rfl)) ?_; (with_reducible refine (castellanref1_Get16.calls _ _ l0 2 t353 _ ?side1 ?side2 A3.out).mono ?_); (case side1 => repeat (first | exact (Kd.C_below HR0.out HB.out) | (with_reducible refine Kd.C_alloc ?_ _) | (with_reducible refine Kd.C_drewN ?_ _) | (with_reducible refine Kd.C_drew ?_))); (case side2 => exact HC0.out); rintro e w' ⟨rfl, ⟨nd, rfl⟩⟩; refine ⟨_, rfl, ?_⟩; (try (rw [drewN_self w20]; generalize hq_ : World.drewN w20 _ = w20; have n0_ : Aside0 (w20.heap[gb351]? = some (.cells #[.int .i64 0, .int .i64 0, .bool false, .bool false, .int .i64 0, .int .i64 0, .int .i64 0, .int .u32 0, .int .u32 0, .slice none 0 0, .slice none 0 0] 26 (0, 0))) := ⟨by rw [← hq_]; exact (by (with_reducible repeat (first | refine blk_drewN ?_ _ | refine blk_drew ?_ | refine blk_alloc ?_ _)); exact BK351.out)⟩; have n1_ : Aside0 (Below w.heap.size w w20) := ⟨by rw [← hq_]; exact (by repeat (first | (with_reducible first | exact HB.out | apply below_alloc | apply pw_below_drewN | apply below_drew1 | refine below_set ?_ GE351.out) | exact HB.out))⟩; clear BK351 HB hq_; have BK351 := n0_; have HB := n1_; clear n0_ n1_))) | ((with_reducible refine gate_callee (f := 66) rfl ?_); refine goesL_ (some 17) rfl rfl Try.func66 (by kernel_rfl) rfl #[.slice A0 l0.length c0, .int .i64 6] rfl (by (try simp only [List.map_toArray, List.map_cons, List.map_nil]); first | done | rfl | (simp only [List.length_drop, List.length_take]; rfl)) ?_; (with_reducible refine (castellanref1_Get16.calls _ _ l0 6 t354 _ ?side1 ?side2 A6.out).mono ?_); (case side1 => repeat (first | exact (Kd.C_below HR0.out HB.out) | (with_reducible refine Kd.C_alloc ?_ _) | (with_reducible refine Kd.C_drewN ?_ _) | (with_reducible refine Kd.C_drew ?_))); (case side2 => exact HC0.out); rintro e w' ⟨rfl, ⟨nd, rfl⟩⟩; refine ⟨_, rfl, ?_⟩; (try (rw [drewN_self w20]; generalize hq_ : World.drewN w20 _ = w20; have n0_ : Aside0 (w20.heap[gb351]? = some (.cells #[.int .i64 0, .int .i64 0, .bool false, .bool false, .int .i64 0, .int .i64 0, .int .i64 0, .int .u32 0, .int .u32 0, .slice none 0 0, .slice none 0 0] 26 (0, 0))) := ⟨by rw [← hq_]; exact (by (with_reducible repeat (first | refine blk_drewN ?_ _ | refine blk_drew ?_ | refine blk_alloc ?_ _)); exact BK351.out)⟩; have n1_ : Aside0 (Below w.heap.size w w20) := ⟨by rw [← hq_]; exact (by repeat (first | (with_reducible first | exact HB.out | apply below_alloc | apply pw_below_drewN | apply below_drew1 | refine below_set ?_ GE351.out) | exact HB.out))⟩; clear BK351 HB hq_; have BK351 := n0_; have HB := n1_; clear n0_ n1_))))
           have n0_ := Aside0.mk (blk_drew BK351.out)
           have n1_ := Aside0.mk (below_drew1 HB.out)
           clear BK351
           clear HB
           have BK351 := n0_
           have HB := n1_
           clear n0_ n1_
           have p355 : 0 ≤ (1 : Int) := (by omega)
           have q355 : 1 < (l0.length : Int) := of_decide_eq_true (by first | (with_reducible assumption) | assumption)
           obtain ⟨ad355, e355, hx355_0⟩ := Kd.at_int HR0.out 1 p355 q355
           have hw355_0 := hx355_0
           (try rw [show ((1 : Int)).toNat = 1 from rfl] at hw355_0)
           (try rw [show 1 * 1 = 1 from rfl] at hw355_0)
           (try simp only [Nat.reduceMul, Nat.reduceEqDiff, Go.Addr.add, ↓reduceIte] at hw355_0)
           cases e355
           (try simp only [show (1 : Int).toNat = 1 from rfl, Nat.reduceMul, Nat.reduceEqDiff, Go.Addr.add, ↓reduceIte] at hx355_0)
           have qi355 : (1 < l0.length) = True := eq_true (by omega)
           (try rw [show ((1 : Int)).toNat = 1 from rfl] at hx355_0)
           replace hx355_0 := (HB.out.cell (World.block_lt_of_cell? w _ hx355_0)).trans hx355_0
           replace p355 := eq_true p355
           replace q355 := eq_true q355
           have p357 : 0 ≤ (8 : Int) := (by omega)
           have q357 : 8 < (l0.length : Int) := of_decide_eq_true (by first | (with_reducible assumption) | assumption)
           obtain ⟨ad357, e357, hx357_0⟩ := Kd.at_int HR0.out 8 p357 q357
           have hw357_0 := hx357_0
           (try rw [show ((8 : Int)).toNat = 8 from rfl] at hw357_0)
           (try rw [show 8 * 1 = 8 from rfl] at hw357_0)
           (try simp only [Nat.reduceMul, Nat.reduceEqDiff, Go.Addr.add, ↓reduceIte] at hw357_0)
           obtain rfl : ad355 = ad357 := (by injection e357)
           (try simp only [show (8 : Int).toNat = 8 from rfl, Nat.reduceMul, Nat.reduceEqDiff, Go.Addr.add, ↓reduceIte] at hx357_0)
           have qi357 : (8 < l0.length) = True := eq_true (by omega)
           (try rw [show ((8 : Int)).toNat = 8 from rfl] at hx357_0)
           replace hx357_0 := (HB.out.cell (World.block_lt_of_cell? w _ hx357_0)).trans hx357_0
           replace p357 := eq_true p357
           replace q357 := eq_true q357
           have p358 : 0 ≤ (9 : Int) := (by omega)
           have q358 : 9 < (l0.length : Int) := of_decide_eq_true (by first | (with_reducible assumption) | assumption)
           obtain ⟨ad358, e358, hx358_0⟩ := Kd.at_int HR0.out 9 p358 q358
           have hw358_0 := hx358_0
           (try rw [show ((9 : Int)).toNat = 9 from rfl] at hw358_0)
           (try rw [show 9 * 1 = 9 from rfl] at hw358_0)
           (try simp only [Nat.reduceMul, Nat.reduceEqDiff, Go.Addr.add, ↓reduceIte] at hw358_0)
           obtain rfl : ad355 = ad358 := (by injection e358)
           (try simp only [show (9 : Int).toNat = 9 from rfl, Nat.reduceMul, Nat.reduceEqDiff, Go.Addr.add, ↓reduceIte] at hx358_0)
           have qi358 : (9 < l0.length) = True := eq_true (by omega)
           (try rw [show ((9 : Int)).toNat = 9 from rfl] at hx358_0)
           replace hx358_0 := (HB.out.cell (World.block_lt_of_cell? w _ hx358_0)).trans hx358_0
           replace p358 := eq_true p358
           replace q358 := eq_true q358
           refine start_ (n := 27) (S := fun w' => w'.cell? ⟨ad355.block, ad355.off + 1, none⟩ = some (.int .u8 (rd l0 1)) ∧ w'.cell? ⟨ad355.block, ad355.off + 8, none⟩ = some (.int .u8 (rd l0 8)) ∧ w'.cell? ⟨ad355.block, ad355.off + 9, none⟩ = some (.int .u8 (rd l0 9))) (ds := []) #[false, false, false, false, false, false, false, false, false, false, false, false, false, false, false, false, false, false, false, false, false, false, false, false, false, false, false] (by kernel_rfl) rfl rfl ⟨((HB.out.cell (World.block_lt_of_cell? w _ hw355_0)).trans hw355_0), ((HB.out.cell (World.block_lt_of_cell? w _ hw357_0)).trans hw357_0), ((HB.out.cell (World.block_lt_of_cell? w _ hw358_0)).trans hw358_0)⟩ (fun hHeld => ?_); refine with_tabW castellanref4_Read.tab4 castellanref4_Read.bits4 (fun HT_ HW_ => ?_)
           generalize w20.drew = w21 at BK351 HB hx355_0 hx357_0 hx358_0 hHeld ⊢
           refine pure_ (i := 0) (N := some 18) (v := ?_) (a' := ?_) #[true, false, false, false, false, false, false, false, false, false, false, false, false, false, false, false, false, false, false, false, false, false, false, false, false, false, false] rfl rfl (any_of HT_.out (by kernel_rfl)) (fun _ _ _ h => h) (Or.inl ⟨by rfl, ?_⟩) ?_ ?_
           rotate_left
           ·intro w'
            go_simp
            with_reducible rfl
           rotate_left
           ·simp only [Act.put, List.setIfInBounds_toArray, List.set_cons_zero, List.set_cons_succ, i64_w, i32_w]
            rfl
           refine pure_ (i := 1) (N := some 19) (v := ?_) (a' := ?_) #[true, true, false, false, false, false, false, false, false, false, false, false, false, false, false, false, false, false, false, false, false, false, false, false, false, false, false] rfl rfl (any_of HT_.out (by kernel_rfl)) (fun _ _ _ h => h) (Or.inl ⟨by rfl, ?_⟩) ?_ ?_
           rotate_left
           ·intro w'
            go_simp
            with_reducible rfl
           rotate_left
           ·simp only [Act.put, List.setIfInBounds_toArray, List.set_cons_zero, List.set_cons_succ, i64_w, i32_w]
            rfl
           refine pure_ (i := 4) (N := some 22) (v := ?_) (a' := ?_) #[true, true, false, false, true, false, false, false, false, false, false, false, false, false, false, false, false, false, false, false, false, false, false, false, false, false, false] rfl rfl (any_of HT_.out (by kernel_rfl)) (fun _ _ _ h => h) (Or.inl ⟨by rfl, ?_⟩) ?_ ?_
           rotate_left
           ·intro w'
            go_simp
            with_reducible rfl
           rotate_left
           ·simp only [Act.put, List.setIfInBounds_toArray, List.set_cons_zero, List.set_cons_succ, i64_w, i32_w]
            rfl
           refine pure_ (i := 6) (N := some 24) (v := ?_) (a' := ?_) #[true, true, false, false, true, false, true, false, false, false, false, false, false, false, false, false, false, false, false, false, false, false, false, false, false, false, false] rfl rfl (any_of HT_.out (by kernel_rfl)) (fun _ _ _ h => h) (Or.inl ⟨by rfl, ?_⟩) ?_ ?_
           rotate_left
           ·intro w'
            go_simp
            with_reducible rfl
           rotate_left
           ·simp only [Act.put, List.setIfInBounds_toArray, List.set_cons_zero, List.set_cons_succ, i64_w, i32_w]
            rfl
           refine pure_ (i := 7) (N := some 25) (v := ?_) (a' := ?_) #[true, true, false, false, true, false, true, true, false, false, false, false, false, false, false, false, false, false, false, false, false, false, false, false, false, false, false] rfl rfl (any_of HT_.out (by kernel_rfl)) (fun _ _ _ h => h) (Or.inl ⟨by rfl, ?_⟩) ?_ ?_
           rotate_left
           ·intro w'
            go_simp
            with_reducible rfl
           rotate_left
           ·simp only [Act.put, List.setIfInBounds_toArray, List.set_cons_zero, List.set_cons_succ, i64_w, i32_w]
            rfl
           refine pure_ (i := 8) (N := some 26) (v := ?_) (a' := ?_) #[true, true, false, false, true, false, true, true, true, false, false, false, false, false, false, false, false, false, false, false, false, false, false, false, false, false, false] rfl rfl (any_of HT_.out (by kernel_rfl)) (fun _ _ _ h => h) (Or.inl ⟨by rfl, ?_⟩) ?_ ?_
           rotate_left
           ·intro w'
            go_simp
            with_reducible rfl
           rotate_left
           ·simp only [Act.put, List.setIfInBounds_toArray, List.set_cons_zero, List.set_cons_succ, i64_w, i32_w]
            rfl
           refine pure_ (i := 9) (N := some 27) (v := ?_) (a' := ?_) #[true, true, false, false, true, false, true, true, true, true, false, false, false, false, false, false, false, false, false, false, false, false, false, false, false, false, false] rfl rfl (any_of HT_.out (by kernel_rfl)) (fun _ _ _ h => h) (Or.inl ⟨by rfl, ?_⟩) ?_ ?_
           rotate_left
           ·intro w'
            go_simp
            with_reducible rfl
           rotate_left
           ·simp only [Act.put, List.setIfInBounds_toArray, List.set_cons_zero, List.set_cons_succ, i64_w, i32_w]
            rfl
           refine pure_ (i := 10) (N := some 28) (v := ?_) (a' := ?_) #[true, true, false, false, true, false, true, true, true, true, true, false, false, false, false, false, false, false, false, false, false, false, false, false, false, false, false] rfl rfl (any_of HT_.out (by kernel_rfl)) (fun _ _ _ h => h) (Or.inl ⟨by rfl, ?_⟩) ?_ ?_
           rotate_left
           ·intro w'
            go_simp
            with_reducible rfl
           rotate_left
           ·simp only [Act.put, List.setIfInBounds_toArray, List.set_cons_zero, List.set_cons_succ, i64_w, i32_w]
            rfl
           refine pure_ (i := 11) (N := some 29) (v := ?_) (a' := ?_) #[true, true, false, false, true, false, true, true, true, true, true, true, false, false, false, false, false, false, false, false, false, false, false, false, false, false, false] rfl rfl (any_of HT_.out (by kernel_rfl)) (fun _ _ _ h => h) (Or.inl ⟨by rfl, ?_⟩) ?_ ?_
           rotate_left
           ·intro w'
            go_simp
            with_reducible rfl
           rotate_left
           ·simp only [Act.put, List.setIfInBounds_toArray, List.set_cons_zero, List.set_cons_succ, i64_w, i32_w]
            rfl
           refine pure_ (i := 12) (N := some 30) (v := ?_) (a' := ?_) #[true, true, false, false, true, false, true, true, true, true, true, true, true, false, false, false, false, false, false, false, false, false, false, false, false, false, false] rfl rfl (any_of HT_.out (by kernel_rfl)) (fun _ _ _ h => h) (Or.inl ⟨by rfl, ?_⟩) ?_ ?_
           rotate_left
           ·intro w'
            go_simp
            with_reducible rfl
           rotate_left
           ·simp only [Act.put, List.setIfInBounds_toArray, List.set_cons_zero, List.set_cons_succ, i64_w, i32_w]
            rfl
           refine pure_ (i := 13) (N := some 31) (v := ?_) (a' := ?_) #[true, true, false, false, true, false, true, true, true, true, true, true, true, true, false, false, false, false, false, false, false, false, false, false, false, false, false] rfl rfl (any_of HT_.out (by kernel_rfl)) (fun _ _ _ h => h) (Or.inl ⟨by rfl, ?_⟩) ?_ ?_
           rotate_left
           ·intro w'
            go_simp
            with_reducible rfl
           rotate_left
           ·simp only [Act.put, List.setIfInBounds_toArray, List.set_cons_zero, List.set_cons_succ, i64_w, i32_w]
            rfl
           refine pure_ (i := 14) (N := some 32) (v := ?_) (a' := ?_) #[true, true, false, false, true, false, true, true, true, true, true, true, true, true, true, false, false, false, false, false, false, false, false, false, false, false, false] rfl rfl (any_of HT_.out (by kernel_rfl)) (fun _ _ _ h => h) (Or.inl ⟨by rfl, ?_⟩) ?_ ?_
           rotate_left
           ·intro w'
            go_simp
            with_reducible rfl
           rotate_left
           ·simp only [Act.put, List.setIfInBounds_toArray, List.set_cons_zero, List.set_cons_succ, i64_w, i32_w]
            rfl
           refine pure_ (i := 15) (N := some 33) (v := ?_) (a' := ?_) #[true, true, false, false, true, false, true, true, true, true, true, true, true, true, true, true, false, false, false, false, false, false, false, false, false, false, false] rfl rfl (any_of HT_.out (by kernel_rfl)) (fun _ _ _ h => h) (Or.inl ⟨by rfl, ?_⟩) ?_ ?_
           rotate_left
           ·intro w'
            go_simp
            with_reducible rfl
           rotate_left
           ·simp only [Act.put, List.setIfInBounds_toArray, List.set_cons_zero, List.set_cons_succ, i64_w, i32_w]
            rfl
           refine pure_ (i := 16) (N := some 34) (v := ?_) (a' := ?_) #[true, true, false, false, true, false, true, true, true, true, true, true, true, true, true, true, true, false, false, false, false, false, false, false, false, false, false] rfl rfl (any_of HT_.out (by kernel_rfl)) (fun _ _ _ h => h) (Or.inl ⟨by rfl, ?_⟩) ?_ ?_
           rotate_left
           ·intro w'
            go_simp
            with_reducible rfl
           rotate_left
           ·simp only [Act.put, List.setIfInBounds_toArray, List.set_cons_zero, List.set_cons_succ, i64_w, i32_w]
            rfl
           refine pure_ (i := 17) (N := some 35) (v := ?_) (a' := ?_) #[true, true, false, false, true, false, true, true, true, true, true, true, true, true, true, true, true, true, false, false, false, false, false, false, false, false, false] rfl rfl (any_of HT_.out (by kernel_rfl)) (fun _ _ _ h => h) (Or.inl ⟨by rfl, ?_⟩) ?_ ?_
           rotate_left
           ·intro w'
            go_simp
            with_reducible rfl
           rotate_left
           ·simp only [Act.put, List.setIfInBounds_toArray, List.set_cons_zero, List.set_cons_succ, i64_w, i32_w]
            rfl
           refine pure_ (i := 20) (N := some 38) (v := ?_) (a' := ?_) #[true, true, false, false, true, false, true, true, true, true, true, true, true, true, true, true, true, true, false, false, true, false, false, false, false, false, false] rfl rfl (any_of HT_.out (by kernel_rfl)) (fun _ _ _ h => h) (Or.inl ⟨by rfl, ?_⟩) ?_ ?_
           rotate_left
           ·intro w'
            go_simp
            with_reducible rfl
           rotate_left
           ·simp only [Act.put, List.setIfInBounds_toArray, List.set_cons_zero, List.set_cons_succ, i64_w, i32_w]
            rfl
           refine pure_ (i := 21) (N := some 39) (v := ?_) (a' := ?_) #[true, true, false, false, true, false, true, true, true, true, true, true, true, true, true, true, true, true, false, false, true, true, false, false, false, false, false] rfl rfl (any_of HT_.out (by kernel_rfl)) (fun _ _ _ h => h) (Or.inl ⟨by rfl, ?_⟩) ?_ ?_
           rotate_left
           ·intro w'
            go_simp
            with_reducible rfl
           rotate_left
           ·simp only [Act.put, List.setIfInBounds_toArray, List.set_cons_zero, List.set_cons_succ, i64_w, i32_w]
            rfl
           refine take_ (i := 2) (N := some 20) (v := ?_) (a' := ?_) #[true, true, true, false, true, false, true, true, true, true, true, true, true, true, true, true, true, true, false, false, true, true, false, false, false, false, false] rfl rfl (take_ofW HT_.out HW_.out (by kernel_rfl)) (fun _ _ _ h => h) (Or.inl ⟨by rfl, ?_⟩) hHeld ?_ ?_
           rotate_left
           ·rintro w' ⟨s0, s1, s2⟩
            go_simp
            with_reducible rfl
           rotate_left
           ·simp only [Act.put, List.setIfInBounds_toArray, List.set_cons_zero, List.set_cons_succ, i64_w, i32_w]
            rfl
           refine pure_ (i := 3) (N := some 21) (v := ?_) (a' := ?_) #[true, true, true, true, true, false, true, true, true, true, true, true, true, true, true, true, true, true, false, false, true, true, false, false, false, false, false] rfl rfl (any_of HT_.out (by kernel_rfl)) (fun _ _ _ h => h) (Or.inl ⟨by rfl, ?_⟩) ?_ ?_
           rotate_left
           ·intro w'
            go_simp
            with_reducible rfl
           rotate_left
           ·simp only [Act.put, List.setIfInBounds_toArray, List.set_cons_zero, List.set_cons_succ, i64_w, i32_w]
            rfl
           refine take_ (i := 18) (N := some 36) (v := ?_) (a' := ?_) #[true, true, true, true, true, false, true, true, true, true, true, true, true, true, true, true, true, true, true, false, true, true, false, false, false, false, false] rfl rfl (take_ofW HT_.out HW_.out (by kernel_rfl)) (fun _ _ _ h => h) (Or.inl ⟨by rfl, ?_⟩) hHeld ?_ ?_
           rotate_left
           ·rintro w' ⟨s0, s1, s2⟩
            go_simp
            with_reducible rfl
           rotate_left
           ·simp only [Act.put, List.setIfInBounds_toArray, List.set_cons_zero, List.set_cons_succ, i64_w, i32_w]
            rfl
           refine pure_ (i := 19) (N := some 37) (v := ?_) (a' := ?_) #[true, true, true, true, true, false, true, true, true, true, true, true, true, true, true, true, true, true, true, true, true, true, false, false, false, false, false] rfl rfl (any_of HT_.out (by kernel_rfl)) (fun _ _ _ h => h) (Or.inl ⟨by rfl, ?_⟩) ?_ ?_
           rotate_left
           ·intro w'
            go_simp
            with_reducible rfl
           rotate_left
           ·simp only [Act.put, List.setIfInBounds_toArray, List.set_cons_zero, List.set_cons_succ, i64_w, i32_w]
            rfl
           refine take_ (i := 22) (N := some 40) (v := ?_) (a' := ?_) #[true, true, true, true, true, false, true, true, true, true, true, true, true, true, true, true, true, true, true, true, true, true, true, false, false, false, false] rfl rfl (take_ofW HT_.out HW_.out (by kernel_rfl)) (fun _ _ _ h => h) (Or.inl ⟨by rfl, ?_⟩) hHeld ?_ ?_
           rotate_left
           ·rintro w' ⟨s0, s1, s2⟩
            go_simp
            with_reducible rfl
           rotate_left
           ·simp only [Act.put, List.setIfInBounds_toArray, List.set_cons_zero, List.set_cons_succ, i64_w, i32_w]
            rfl
           refine pure_ (i := 23) (N := some 41) (v := ?_) (a' := ?_) #[true, true, true, true, true, false, true, true, true, true, true, true, true, true, true, true, true, true, true, true, true, true, true, true, false, false, false] rfl rfl (any_of HT_.out (by kernel_rfl)) (fun _ _ _ h => h) (Or.inl ⟨by rfl, ?_⟩) ?_ ?_
           rotate_left
           ·intro w'
            go_simp
            with_reducible rfl
           rotate_left
           ·simp only [Act.put, List.setIfInBounds_toArray, List.set_cons_zero, List.set_cons_succ, i64_w, i32_w]
            rfl
           refine join_ (σ := Nat) 1 #[true, true, true, true, true, true, true, true, true, true, true, true, true, true, true, true, true, true, true, true, true, true, true, true, true, true, false] (fun s_ => [(23, .int .i64 t356), (6, .pointer (some ⟨s_, 0, none⟩)), (42, .agg #[.int .i64 (wrap64 (rd l0 1)), .int .i64 t356, .bool ((Go.bits .and .i64 (t354 / 16384) 1) == 1), .bool ((Go.bits .and .i64 (t354 / 8192) 1) == 1), .int .i64 (Go.bits .and .i64 t354 8191), .int .i64 (wrap64 (rd l0 8)), .int .i64 (wrap64 (rd l0 9)), .int .u32 0, .int .u32 0, .slice none 0 0, .slice none 0 0])]) (fun s_ w' => (w'.cell? ⟨ad355.block, ad355.off + 1, none⟩ = some (.int .u8 (rd l0 1)) ∧ w'.cell? ⟨ad355.block, ad355.off + 8, none⟩ = some (.int .u8 (rd l0 8)) ∧ w'.cell? ⟨ad355.block, ad355.off + 9, none⟩ = some (.int .u8 (rd l0 9))) ∧ (w'.heap[gb351]? = some (.cells #[.int .i64 0, .int .i64 0, .bool false, .bool false, .int .i64 0, .int .i64 0, .int .i64 0, .int .u32 0, .int .u32 0, .slice none 0 0, .slice none 0 0] 26 (0, 0))) ∧ (w'.heap[s_]? = some (.cells #[.int .i64 0, .int .i64 0, .bool false, .bool false, .int .i64 0, .int .i64 0, .int .i64 0, .int .u32 0, .int .u32 0, .slice none 0 0, .slice none 0 0] 26 (0, 0))) ∧ (w.heap.size ≤ s_) ∧ (w.heap.size ≤ s_) ∧ (gb351 ≠ s_) ∧ (s_ ≠ gb351) ∧ (Below w.heap.size w w')) ?_ ?_
           rotate_left
           ·intro hCont
            refine two_ (i := 5) (j := 25) (Ni := some 23) (Nj := some 6) #[true, true, true, true, true, true, true, true, true, true, true, true, true, true, true, true, true, true, true, true, true, true, true, true, false, false, false] #[true, true, true, true, true, false, true, true, true, true, true, true, true, true, true, true, true, true, true, true, true, true, true, true, false, true, false] rfl rfl rfl rfl (two_of HT_.out (by kernel_rfl)) (by decide) (by decide) (fun K hK => ?_) (fun K hK => ?_)
            ·skip
             refine goes_ Try.func66 (by kernel_rfl) rfl #[.slice (some ad355) l0.length c0, .int .i64 4] (by rfl) rfl rfl (by (try simp only [List.map_toArray, List.map_cons, List.map_nil]); first | done | rfl | (simp only [List.length_drop, List.length_take]; rfl)) ?_
             with_reducible refine (castellanref1_Get16.calls _ _ l0 4 t356 _ ?side1 ?side2 A8.out).mono ?_
             (case side1 => repeat (first | exact (Kd.C_below HR0.out HB.out) | (with_reducible refine Kd.C_alloc ?_ _) | (with_reducible refine Kd.C_drewN ?_ _) | (with_reducible refine Kd.C_drew ?_)))
             (case side2 => exact HC0.out)
             rintro e w' ⟨rfl, ⟨nd, rfl⟩⟩
             refine ⟨_, rfl, ?_⟩
             refine hK.out _ _ ⟨((HB.out.cell (World.block_lt_of_cell? w _ hw355_0)).trans hw355_0), ((HB.out.cell (World.block_lt_of_cell? w _ hw357_0)).trans hw357_0), ((HB.out.cell (World.block_lt_of_cell? w _ hw358_0)).trans hw358_0)⟩ (fun hHeld => ?_)
             clear hK K
             refine norm_ (a' := ?_) ?_ ?_
             rotate_left
             ·show Act.put _ (some 23) _ = _
              simp only [Act.put, List.setIfInBounds_toArray, List.set_cons_zero, List.set_cons_succ, i64_w, i32_w]
              rfl
             refine pure_ (i := 24) (N := some 42) (v := ?_) (a' := ?_) #[true, true, true, true, true, true, true, true, true, true, true, true, true, true, true, true, true, true, true, true, true, true, true, true, true, false, false] rfl rfl (any_of HT_.out (by kernel_rfl)) (fun _ _ _ h => h) (Or.inl ⟨by rfl, ?_⟩) ?_ ?_
             rotate_left
             ·intro w'
              go_simp
              with_reducible rfl
             rotate_left
             ·simp only [Act.put, List.setIfInBounds_toArray, List.set_cons_zero, List.set_cons_succ, i64_w, i32_w]
              rfl
             refine one_ (i := 25) (N := some 6) #[true, true, true, true, true, true, true, true, true, true, true, true, true, true, true, true, true, true, true, true, true, true, true, true, true, true, false] rfl rfl (one_of HT_.out (by kernel_rfl)) (by decide) (fun K hK => ?_)
             refine box_step ?hg (N := 6) ?hd (cs := #[.int .i64 0, .int .i64 0, .bool false, .bool false, .int .i64 0, .int .i64 0, .int .i64 0, .int .u32 0, .int .u32 0, .slice none 0 0, .slice none 0 0]) (t := 26) ?hr ?_; (case hd => rfl); (case hg => rfl); (case hr => first | (go_simp; done) | (go_simp; rfl))
             intro gb359 hg w22 hbox hb
             have n0_ := Aside0.mk (blk_below (g := gb351) (o := .cells #[.int .i64 0, .int .i64 0, .bool false, .bool false, .int .i64 0, .int .i64 0, .int .i64 0, .int .u32 0, .int .u32 0, .slice none 0 0, .slice none 0 0] 26 (0, 0)) (by (with_reducible repeat (first | refine blk_drewN ?_ _ | refine blk_drew ?_ | refine blk_alloc ?_ _)); exact BK351.out) hb)
             have n1_ := Aside0.mk (below_step (by repeat (first | (with_reducible first | exact HB.out | apply below_alloc | apply pw_below_drewN | apply below_drew1 | refine below_set ?_ GE351.out) | exact HB.out)) hb)
             have n2_ := Aside0.mk (hbox)
             have n3_ := Aside0.mk ((by rw [hg]; exact (below_size (by repeat (first | (with_reducible first | exact HB.out | apply below_alloc | apply pw_below_drewN | apply below_drew1 | refine below_set ?_ GE351.out) | exact HB.out))) : w.heap.size ≤ gb359))
             have n4_ := Aside0.mk ((by rw [hg]; exact (below_size (by repeat (first | (with_reducible first | exact HB.out | apply below_alloc | apply pw_below_drewN | apply below_drew1 | refine below_set ?_ GE351.out) | exact HB.out))) : w.heap.size ≤ gb359))
             have n5_ := Aside0.mk ((by rw [hg]; exact Nat.ne_of_lt (blk_lt (g := gb351) (o := .cells #[.int .i64 0, .int .i64 0, .bool false, .bool false, .int .i64 0, .int .i64 0, .int .i64 0, .int .u32 0, .int .u32 0, .slice none 0 0, .slice none 0 0] 26 (0, 0)) (by (with_reducible repeat (first | refine blk_drewN ?_ _ | refine blk_drew ?_ | refine blk_alloc ?_ _)); exact BK351.out)) : gb351 ≠ gb359))
             have n6_ := Aside0.mk ((by rw [hg]; exact Nat.ne_of_gt (blk_lt (g := gb351) (o := .cells #[.int .i64 0, .int .i64 0, .bool false, .bool false, .int .i64 0, .int .i64 0, .int .i64 0, .int .u32 0, .int .u32 0, .slice none 0 0, .slice none 0 0] 26 (0, 0)) (by (with_reducible repeat (first | refine blk_drewN ?_ _ | refine blk_drew ?_ | refine blk_alloc ?_ _)); exact BK351.out)) : gb359 ≠ gb351))
             clear BK351
             clear HB
             have BK351 := n0_
             have HB := n1_
             have BK359 := n2_
             have GW359 := n3_
             have GE359 := n4_
             have NB351_359 := n5_
             have NB359_351 := n6_
             clear n0_ n1_ n2_ n3_ n4_ n5_ n6_
             clear hb hbox hg
             refine hK.out _ _ ⟨((HB.out.cell (World.block_lt_of_cell? w _ hw355_0)).trans hw355_0), ((HB.out.cell (World.block_lt_of_cell? w _ hw357_0)).trans hw357_0), ((HB.out.cell (World.block_lt_of_cell? w _ hw358_0)).trans hw358_0)⟩ (fun hHeld => ?_)
             clear hK K
             refine norm_ (a' := ?_) ?_ ?_
             rotate_left
             ·show Act.put _ (some 6) _ = _
              simp only [Act.put, List.setIfInBounds_toArray, List.set_cons_zero, List.set_cons_succ, i64_w, i32_w]
              rfl
             exact norm_ (by simp only [putAll, Act.put, List.setIfInBounds_toArray, List.set_cons_zero, List.set_cons_succ]) (hCont (gb359) _ ⟨hHeld, (by (with_reducible repeat (first | refine blk_drewN ?_ _ | refine blk_drew ?_ | refine blk_alloc ?_ _)); exact BK351.out), (by (with_reducible repeat (first | refine blk_drewN ?_ _ | refine blk_drew ?_ | refine blk_alloc ?_ _)); exact BK359.out), GW359.out, GE359.out, NB351_359.out, NB359_351.out, (by repeat (first | (with_reducible first | exact HB.out | apply below_alloc | apply pw_below_drewN | apply below_drew1 | refine below_set ?_ GE351.out | refine below_set ?_ GE359.out) | exact HB.out))⟩)
            ·skip
             refine box_step ?hg (N := 6) ?hd (cs := #[.int .i64 0, .int .i64 0, .bool false, .bool false, .int .i64 0, .int .i64 0, .int .i64 0, .int .u32 0, .int .u32 0, .slice none 0 0, .slice none 0 0]) (t := 26) ?hr ?_; (case hd => rfl); (case hg => rfl); (case hr => first | (go_simp; done) | (go_simp; rfl))
             intro gb359 hg w22 hbox hb
             have n0_ := Aside0.mk (blk_below (g := gb351) (o := .cells #[.int .i64 0, .int .i64 0, .bool false, .bool false, .int .i64 0, .int .i64 0, .int .i64 0, .int .u32 0, .int .u32 0, .slice none 0 0, .slice none 0 0] 26 (0, 0)) (by (with_reducible repeat (first | refine blk_drewN ?_ _ | refine blk_drew ?_ | refine blk_alloc ?_ _)); exact BK351.out) hb)
             have n1_ := Aside0.mk (below_step (by repeat (first | (with_reducible first | exact HB.out | apply below_alloc | apply pw_below_drewN | apply below_drew1 | refine below_set ?_ GE351.out) | exact HB.out)) hb)
             have n2_ := Aside0.mk (hbox)
             have n3_ := Aside0.mk ((by rw [hg]; exact (below_size (by repeat (first | (with_reducible first | exact HB.out | apply below_alloc | apply pw_below_drewN | apply below_drew1 | refine below_set ?_ GE351.out) | exact HB.out))) : w.heap.size ≤ gb359))
             have n4_ := Aside0.mk ((by rw [hg]; exact (below_size (by repeat (first | (with_reducible first | exact HB.out | apply below_alloc | apply pw_below_drewN | apply below_drew1 | refine below_set ?_ GE351.out) | exact HB.out))) : w.heap.size ≤ gb359))
             have n5_ := Aside0.mk ((by rw [hg]; exact Nat.ne_of_lt (blk_lt (g := gb351) (o := .cells #[.int .i64 0, .int .i64 0, .bool false, .bool false, .int .i64 0, .int .i64 0, .int .i64 0, .int .u32 0, .int .u32 0, .slice none 0 0, .slice none 0 0] 26 (0, 0)) (by (with_reducible repeat (first | refine blk_drewN ?_ _ | refine blk_drew ?_ | refine blk_alloc ?_ _)); exact BK351.out)) : gb351 ≠ gb359))
             have n6_ := Aside0.mk ((by rw [hg]; exact Nat.ne_of_gt (blk_lt (g := gb351) (o := .cells #[.int .i64 0, .int .i64 0, .bool false, .bool false, .int .i64 0, .int .i64 0, .int .i64 0, .int .u32 0, .int .u32 0, .slice none 0 0, .slice none 0 0] 26 (0, 0)) (by (with_reducible repeat (first | refine blk_drewN ?_ _ | refine blk_drew ?_ | refine blk_alloc ?_ _)); exact BK351.out)) : gb359 ≠ gb351))
             clear BK351
             clear HB
             have BK351 := n0_
             have HB := n1_
             have BK359 := n2_
             have GW359 := n3_
             have GE359 := n4_
             have NB351_359 := n5_
             have NB359_351 := n6_
             clear n0_ n1_ n2_ n3_ n4_ n5_ n6_
             clear hb hbox hg
             refine hK.out _ _ ⟨((HB.out.cell (World.block_lt_of_cell? w _ hw355_0)).trans hw355_0), ((HB.out.cell (World.block_lt_of_cell? w _ hw357_0)).trans hw357_0), ((HB.out.cell (World.block_lt_of_cell? w _ hw358_0)).trans hw358_0)⟩ (fun hHeld => ?_)
             clear hK K
             refine norm_ (a' := ?_) ?_ ?_
             rotate_left
             ·show Act.put _ (some 6) _ = _
              simp only [Act.put, List.setIfInBounds_toArray, List.set_cons_zero, List.set_cons_succ, i64_w, i32_w]
              rfl
             refine one_ (i := 5) (N := some 23) #[true, true, true, true, true, true, true, true, true, true, true, true, true, true, true, true, true, true, true, true, true, true, true, true, false, true, false] rfl rfl (one_of HT_.out (by kernel_rfl)) (by decide) (fun K hK => ?_)
             refine goes_ Try.func66 (by kernel_rfl) rfl #[.slice (some ad355) l0.length c0, .int .i64 4] (by rfl) rfl rfl (by (try simp only [List.map_toArray, List.map_cons, List.map_nil]); first | done | rfl | (simp only [List.length_drop, List.length_take]; rfl)) ?_
             with_reducible refine (castellanref1_Get16.calls _ _ l0 4 t356 _ ?side1 ?side2 A8.out).mono ?_
             (case side1 => repeat (first | exact (Kd.C_below HR0.out HB.out) | (with_reducible refine Kd.C_alloc ?_ _) | (with_reducible refine Kd.C_drewN ?_ _) | (with_reducible refine Kd.C_drew ?_)))
             (case side2 => exact HC0.out)
             rintro e w' ⟨rfl, ⟨nd, rfl⟩⟩
             refine ⟨_, rfl, ?_⟩
             refine hK.out _ _ ⟨((HB.out.cell (World.block_lt_of_cell? w _ hw355_0)).trans hw355_0), ((HB.out.cell (World.block_lt_of_cell? w _ hw357_0)).trans hw357_0), ((HB.out.cell (World.block_lt_of_cell? w _ hw358_0)).trans hw358_0)⟩ (fun hHeld => ?_)
             clear hK K
             refine norm_ (a' := ?_) ?_ ?_
             rotate_left
             ·show Act.put _ (some 23) _ = _
              simp only [Act.put, List.setIfInBounds_toArray, List.set_cons_zero, List.set_cons_succ, i64_w, i32_w]
              rfl
             refine pure_ (i := 24) (N := some 42) (v := ?_) (a' := ?_) #[true, true, true, true, true, true, true, true, true, true, true, true, true, true, true, true, true, true, true, true, true, true, true, true, true, true, false] rfl rfl (any_of HT_.out (by kernel_rfl)) (fun _ _ _ h => h) (Or.inl ⟨by rfl, ?_⟩) ?_ ?_
             rotate_left
             ·intro w'
              go_simp
              with_reducible rfl
             rotate_left
             ·simp only [Act.put, List.setIfInBounds_toArray, List.set_cons_zero, List.set_cons_succ, i64_w, i32_w]
              rfl
             exact norm_ (by simp only [putAll, Act.put, List.setIfInBounds_toArray, List.set_cons_zero, List.set_cons_succ]) (hCont (gb359) _ ⟨hHeld, (by (with_reducible repeat (first | refine blk_drewN ?_ _ | refine blk_drew ?_ | refine blk_alloc ?_ _)); exact BK351.out), (by (with_reducible repeat (first | refine blk_drewN ?_ _ | refine blk_drew ?_ | refine blk_alloc ?_ _)); exact BK359.out), GW359.out, GE359.out, NB351_359.out, NB359_351.out, (by repeat (first | (with_reducible first | exact HB.out | apply below_alloc | apply pw_below_drewN | apply below_drew1 | refine below_set ?_ GE351.out | refine below_set ?_ GE359.out) | exact HB.out))⟩)
           rintro gb359 w23 ⟨hS_, h0_, h1_, h2_, h3_, h4_, h5_, h6_⟩
           have n0_ : Aside0 (w23.heap[gb351]? = some (.cells #[.int .i64 0, .int .i64 0, .bool false, .bool false, .int .i64 0, .int .i64 0, .int .i64 0, .int .u32 0, .int .u32 0, .slice none 0 0, .slice none 0 0] 26 (0, 0))) := ⟨h0_⟩
           have n1_ : Aside0 (w23.heap[gb359]? = some (.cells #[.int .i64 0, .int .i64 0, .bool false, .bool false, .int .i64 0, .int .i64 0, .int .i64 0, .int .u32 0, .int .u32 0, .slice none 0 0, .slice none 0 0] 26 (0, 0))) := ⟨h1_⟩
           have n2_ : Aside0 (w.heap.size ≤ gb359) := ⟨h2_⟩
           have n3_ : Aside0 (w.heap.size ≤ gb359) := ⟨h3_⟩
           have n4_ : Aside0 (gb351 ≠ gb359) := ⟨h4_⟩
           have n5_ : Aside0 (gb359 ≠ gb351) := ⟨h5_⟩
           have n6_ : Aside0 (Below w.heap.size w w23) := ⟨h6_⟩
           clear BK351
           clear HB
           clear h0_ h1_ h2_ h3_ h4_ h5_ h6_
           have BK351 := n0_
           have BK359 := n1_
           have GW359 := n2_
           have GE359 := n3_
           have NB351_359 := n4_
           have NB359_351 := n5_
           have HB := n6_
           clear n0_ n1_ n2_ n3_ n4_ n5_ n6_
           have hHeld : w23.cell? ⟨ad355.block, ad355.off + 1, none⟩ = some (.int .u8 (rd l0 1)) ∧ w23.cell? ⟨ad355.block, ad355.off + 8, none⟩ = some (.int .u8 (rd l0 8)) ∧ w23.cell? ⟨ad355.block, ad355.off + 9, none⟩ = some (.int .u8 (rd l0 9)) := hS_
           refine norm_ (a' := ?_) ?_ ?_
           rotate_left
           ·simp only [putAll, Act.put, List.setIfInBounds_toArray, List.set_cons_zero, List.set_cons_succ]
            rfl
           refine one_ (i := 26) (N := none) #[true, true, true, true, true, true, true, true, true, true, true, true, true, true, true, true, true, true, true, true, true, true, true, true, true, true, true] rfl rfl (one_of HT_.out (by kernel_rfl)) (by decide) (fun K hK => ?_)
           have HO := Aside0.mk (Owns.two (t := 26) (t' := 26) HB.out BK359.out BK351.out GE359.out GE351.out NB359_351.out (by decide) (by decide))
           refine ow_put_step HO (by rfl) rfl 0 rfl (ty := 26) rfl _ rfl rfl (by kernel_rfl) rfl rfl (fun w1 HO1_ => ?_)
           clear HO
           have HO := HO1_
           clear HO1_
           simp only [List.set_cons_zero, List.set_cons_succ, List.setIfInBounds_toArray] at HO
           refine hK.out _ _ ⟨((HO.out.below.cell (World.block_lt_of_cell? w _ hw355_0)).trans hw355_0), ((HO.out.below.cell (World.block_lt_of_cell? w _ hw357_0)).trans hw357_0), ((HO.out.below.cell (World.block_lt_of_cell? w _ hw358_0)).trans hw358_0)⟩ (fun hHeld => ?_)
           clear hK K BK359 BK351 HB
           refine done_ (done_of HT_.out (by kernel_rfl)) ?_
           have HF := HO.out.facts; simp only [OwnsM.Facts, and_true] at HF
           go_wp2_with (first | ((with_reducible refine gate_callee (f := 80) rfl ?_); refine goesL_ (some 44) rfl rfl Try.func80 (by kernel_rfl) rfl #[.slice (some ad355) l0.length c0, .int .i64 12] rfl (by (try simp only [List.map_toArray, List.map_cons, List.map_nil]); first | done | rfl | (simp only [List.length_drop, List.length_take]; rfl)) ?_; refine (castellanref1_Get32.calls _ _ l0 12 t360 _ (HO.out.old HR0.out) HC0.out A11.out).mono ?_; rintro e w1 ⟨rfl, hd⟩; refine ⟨_, rfl, ?_⟩; replace HO := Aside0.mk (HO.out.drawn hd); clear HF; have HF := HO.out.facts; simp only [OwnsM.Facts, and_true] at HF) | ((with_reducible refine gate_callee (f := 80) rfl ?_); refine goesL_ (some 46) rfl rfl Try.func80 (by kernel_rfl) rfl #[.slice (some ad355) l0.length c0, .int .i64 16] rfl (by (try simp only [List.map_toArray, List.map_cons, List.map_nil]); first | done | rfl | (simp only [List.length_drop, List.length_take]; rfl)) ?_; refine (castellanref1_Get32.calls _ _ l0 16 t361 _ (HO.out.old HR0.out) HC0.out A12.out).mono ?_; rintro e w1 ⟨rfl, hd⟩; refine ⟨_, rfl, ?_⟩; replace HO := Aside0.mk (HO.out.drawn hd); clear HF; have HF := HO.out.facts; simp only [OwnsM.Facts, and_true] at HF) | ((with_reducible refine gate_store (p := 47) rfl ?_); (first | (refine ow_putc HO rfl rfl 0 rfl 7 ?_ ?hr ?_; (case hr => first | (go_simp; done) | (go_simp; rfl)))); clear HO HF; intro w1 HO; simp only [List.set_cons_zero, List.set_cons_succ, List.setIfInBounds_toArray] at HO; have HF := HO.out.facts; simp only [OwnsM.Facts, and_true] at HF) | ((with_reducible refine gate_store (p := 48) rfl ?_); (first | (refine ow_putc HO rfl rfl 0 rfl 8 ?_ ?hr ?_; (case hr => first | (go_simp; done) | (go_simp; rfl)))); clear HO HF; intro w1 HO; simp only [List.set_cons_zero, List.set_cons_succ, List.setIfInBounds_toArray] at HO; have HF := HO.out.facts; simp only [OwnsM.Facts, and_true] at HF))
           have BK351 := Aside0.mk (HO.out.at_ 1 rfl)
           have BK359 := Aside0.mk (HO.out.at_ 0 rfl)
           have HB := Aside0.mk HO.out.below
           clear HO HF
           have n0_ := Aside0.mk (blk_drew BK351.out)
           have n1_ := Aside0.mk (blk_drew BK359.out)
           have n2_ := Aside0.mk (below_drew1 HB.out)
           clear BK351
           clear BK359
           clear HB
           have BK351 := n0_
           have BK359 := n1_
           have HB := n2_
           clear n0_ n1_ n2_
           obtain ⟨i039, hi039, _, hsz39, _⟩ := info_parts info5
           obtain ⟨A39, hcut39, hA39, hC39⟩ := print_mid_of (P := Try.prog) (Value.int .u8) 0 24 5 .i64 .i64 Try.underlying24 hi039 hsz39 (some ad355) c0 l0 20 t352 (by omega) (by first | omega | exact of_decide_eq_true (by first | (with_reducible assumption) | assumption)) (of_decide_eq_true (by first | (with_reducible assumption) | assumption)) HC0.out
           have HR365 := Aside0.mk (Kd.C_of_reads (h1 := fun _ => rfl) (hA39 _ (Kd.reads_of_C HR0.out)))
           have HC365 := Aside0.mk hC39
           clear hA39 hC39 hi039 hsz39
           obtain ⟨i040, hi040, _, hsz40, _⟩ := info_parts info5
           obtain ⟨A40, hcut40, hA40, hC40⟩ := print_mid_of (P := Try.prog) (Value.int .u8) 0 24 5 .i64 .i64 Try.underlying24 hi040 hsz40 (some ad355) c0 l0 t352 (ji5) (of_decide_eq_true (by first | (with_reducible assumption) | assumption)) (by first | omega | exact of_decide_eq_true (by first | (with_reducible assumption) | assumption)) (of_decide_eq_true (by first | (with_reducible assumption) | assumption)) HC0.out
           have HR372 := Aside0.mk (Kd.C_of_reads (h1 := fun _ => rfl) (hA40 _ (Kd.reads_of_C HR0.out)))
           have HC372 := Aside0.mk hC40
           clear hA40 hC40 hi040 hsz40
           refine start_ (n := 15) (S := fun w' => True) (ds := []) #[false, false, false, false, false, false, false, false, false, false, false, false, false, false, false] (by kernel_rfl) rfl rfl trivial (fun hHeld => ?_); refine with_tabW castellanref4_Read.tab6 castellanref4_Read.bits6 (fun HT_ HW_ => ?_)
           generalize w1.drew = w38 at BK351 BK359 HB HR365 HR372 hHeld ⊢
           refine pure_ (i := 1) (N := some 50) (v := ?_) (a' := ?_) #[false, true, false, false, false, false, false, false, false, false, false, false, false, false, false] rfl rfl (any_of HT_.out (by kernel_rfl)) (fun _ _ _ h => h) (Or.inl ⟨by rfl, ?_⟩) ?_ ?_
           rotate_left
           ·intro w'
            go_simp
            with_reducible rfl
           rotate_left
           ·simp only [Act.put, List.setIfInBounds_toArray, List.set_cons_zero, List.set_cons_succ, i64_w, i32_w]
            rfl
           refine pure_ (i := 2) (N := some 51) (v := ?_) (a' := ?_) #[false, true, true, false, false, false, false, false, false, false, false, false, false, false, false] rfl rfl (any_of HT_.out (by kernel_rfl)) (fun _ _ _ h => h) (Or.inl ⟨by rfl, ?_⟩) ?_ ?_
           rotate_left
           ·intro w'
            go_simp
            with_reducible rfl
           rotate_left
           ·simp only [Act.put, List.setIfInBounds_toArray, List.set_cons_zero, List.set_cons_succ, i64_w, i32_w]
            rfl
           refine pure_ (i := 3) (N := some 52) (v := ?_) (a' := ?_) #[false, true, true, true, false, false, false, false, false, false, false, false, false, false, false] rfl rfl (any_of HT_.out (by kernel_rfl)) (fun _ _ _ h => h) (Or.inl ⟨by rfl, ?_⟩) ?_ ?_
           rotate_left
           ·intro w'
            go_simp
            with_reducible rfl
           rotate_left
           ·simp only [Act.put, List.setIfInBounds_toArray, List.set_cons_zero, List.set_cons_succ, i64_w, i32_w]
            rfl
           refine pure_ (i := 6) (N := some 55) (v := ?_) (a' := ?_) #[false, true, true, true, false, false, true, false, false, false, false, false, false, false, false] rfl rfl (any_of HT_.out (by kernel_rfl)) (fun _ _ _ h => h) (Or.inl ⟨by rfl, ?_⟩) ?_ ?_
           rotate_left
           ·intro w'
            go_simp
            with_reducible rfl
           rotate_left
           ·simp only [Act.put, List.setIfInBounds_toArray, List.set_cons_zero, List.set_cons_succ, i64_w, i32_w]
            rfl
           refine pure_ (i := 7) (N := some 56) (v := ?_) (a' := ?_) #[false, true, true, true, false, false, true, true, false, false, false, false, false, false, false] rfl rfl (any_of HT_.out (by kernel_rfl)) (fun _ _ _ h => h) (Or.inl ⟨by rfl, ?_⟩) ?_ ?_
           rotate_left
           ·intro w'
            go_simp
            with_reducible rfl
           rotate_left
           ·simp only [Act.put, List.setIfInBounds_toArray, List.set_cons_zero, List.set_cons_succ, i64_w, i32_w]
            rfl
           refine pure_ (i := 8) (N := some 57) (v := ?_) (a' := ?_) #[false, true, true, true, false, false, true, true, true, false, false, false, false, false, false] rfl rfl (any_of HT_.out (by kernel_rfl)) (fun _ _ _ h => h) (Or.inl ⟨by rfl, ?_⟩) ?_ ?_
           rotate_left
           ·intro w'
            go_simp
            with_reducible rfl
           rotate_left
           ·simp only [Act.put, List.setIfInBounds_toArray, List.set_cons_zero, List.set_cons_succ, i64_w, i32_w]
            rfl
           refine pure_ (i := 9) (N := some 58) (v := ?_) (a' := ?_) #[false, true, true, true, false, false, true, true, true, true, false, false, false, false, false] rfl rfl (any_of HT_.out (by kernel_rfl)) (fun _ _ _ h => h) (Or.inl ⟨by rfl, ?_⟩) ?_ ?_
           rotate_left
           ·intro w'
            go_simp
            with_reducible rfl
           rotate_left
           ·simp only [Act.put, List.setIfInBounds_toArray, List.set_cons_zero, List.set_cons_succ, i64_w, i32_w]
            rfl
           refine join_ (σ := Value × Value × Value) 4 #[true, true, true, true, true, true, true, true, true, true, false, true, false, false, false] (fun s_ => [(49, s_.1), (53, s_.2.1), (54, s_.2.2), (60, .pointer (some ⟨gb359, 9, none⟩))]) (fun s_ w' => (Kd.R (Kd.int .u8) 5 w' w.heap.size (fun k_ => some k_ ≠ (s_.2.2 : Value).ownBlock) s_.2.1 y366) ∧ (Kd.R (Kd.int .u8) 5 w' w.heap.size (fun k_ => some k_ ≠ (s_.2.1 : Value).ownBlock) s_.2.2 y369) ∧ (w'.heap[gb351]? = some (.cells #[.int .i64 0, .int .i64 0, .bool false, .bool false, .int .i64 0, .int .i64 0, .int .i64 0, .int .u32 0, .int .u32 0, .slice none 0 0, .slice none 0 0] 26 (0, 0))) ∧ (w'.heap[gb359]? = some (.cells #[.int .i64 (wrap64 (rd l0 1)), .int .i64 t356, .bool ((Go.bits .and .i64 (t354 / 16384) 1) == 1), .bool ((Go.bits .and .i64 (t354 / 8192) 1) == 1), .int .i64 (Go.bits .and .i64 t354 8191), .int .i64 (wrap64 (rd l0 8)), .int .i64 (wrap64 (rd l0 9)), .int .u32 t360, .int .u32 t361, .slice none 0 0, .slice none 0 0] 26 (0, 0))) ∧ (Below w.heap.size w w')) ?_ ?_
           rotate_left
           ·intro hCont
            refine two_ (i := 0) (j := 5) (Ni := some 49) (Nj := some 54) #[true, true, true, true, false, false, true, true, true, true, false, false, false, false, false] #[false, true, true, true, false, true, true, true, true, true, false, false, false, false, false] rfl rfl rfl rfl (two_of HT_.out (by kernel_rfl)) (by decide) (by decide) (fun K hK => ?_) (fun K hK => ?_)
            ·skip
             refine Kd.R_lit_step (Kd.int .u8) _ 5 ?hg (N := 49) ?hd (xs := ([] : List Int)) (inner := []) (ok := fun _ => True) (okp := fun _ => True) ?hr ?hp (fun _ hk => hk) trivial (Below.refl _ _) (Nat.le_refl _) (by simp) ?_; (case hd => rfl); (case hg => rfl); (case hr => first | (go_simp; done) | (go_simp; rfl)); (case hp => exact (Reps.none _ _))
             intro v363 w41 ho42 hb hg_ hnew_
             clear hg_ hnew_
             (first | rw [← Ny362.out] at ho42 | (simp only [Int.reduceToNat] at ho42; rw [← Ny362.out] at ho42))
             have n0_ := Aside0.mk (Kd.R_lower ho42 (below_size (by repeat (first | (with_reducible first | exact HB.out | apply below_alloc | apply pw_below_drewN | apply below_drew1 | refine below_set ?_ GE351.out | refine below_set ?_ GE359.out) | exact HB.out))))
             have n1_ := Aside0.mk (blk_below (g := gb351) (o := .cells #[.int .i64 0, .int .i64 0, .bool false, .bool false, .int .i64 0, .int .i64 0, .int .i64 0, .int .u32 0, .int .u32 0, .slice none 0 0, .slice none 0 0] 26 (0, 0)) (by (with_reducible repeat (first | refine blk_drewN ?_ _ | refine blk_drew ?_ | refine blk_alloc ?_ _)); exact BK351.out) hb)
             have n2_ := Aside0.mk (blk_below (g := gb359) (o := .cells #[.int .i64 (wrap64 (rd l0 1)), .int .i64 t356, .bool ((Go.bits .and .i64 (t354 / 16384) 1) == 1), .bool ((Go.bits .and .i64 (t354 / 8192) 1) == 1), .int .i64 (Go.bits .and .i64 t354 8191), .int .i64 (wrap64 (rd l0 8)), .int .i64 (wrap64 (rd l0 9)), .int .u32 t360, .int .u32 t361, .slice none 0 0, .slice none 0 0] 26 (0, 0)) (by (with_reducible repeat (first | refine blk_drewN ?_ _ | refine blk_drew ?_ | refine blk_alloc ?_ _)); exact BK359.out) hb)
             have n3_ := Aside0.mk (below_step (by repeat (first | (with_reducible first | exact HB.out | apply below_alloc | apply pw_below_drewN | apply below_drew1 | refine below_set ?_ GE351.out | refine below_set ?_ GE359.out) | exact HB.out)) hb)
             clear BK351
             clear BK359
             clear HB
             have HO364 := n0_
             have BK351 := n1_
             have BK359 := n2_
             have HB := n3_
             clear n0_ n1_ n2_ n3_
             clear hb ho42
             refine hK.out _ _ trivial (fun hHeld => ?_)
             clear hK K
             refine norm_ (a' := ?_) ?_ ?_
             rotate_left
             ·show Act.put _ (some 49) _ = _
              simp only [Act.put, List.setIfInBounds_toArray, List.set_cons_zero, List.set_cons_succ, i64_w, i32_w]
              rfl
             refine two_ (i := 4) (j := 5) (Ni := some 53) (Nj := some 54) #[true, true, true, true, true, false, true, true, true, true, false, false, false, false, false] #[true, true, true, true, false, true, true, true, true, true, false, false, false, false, false] rfl rfl rfl rfl (two_of HT_.out (by kernel_rfl)) (by decide) (by decide) (fun K hK => ?_) (fun K hK => ?_)
             ·skip
              refine Kd.R_append_rows_step (Kd.int .u8) (w0 := w) w.heap.size (by rfl) (.tmp 49) (.tmp 52) 24 5 (.int .u8 0) 1 rfl Try.underlying24 info5 rfl (by decide) (by omega) v363 y362 ((l0.take (t352 : Int).toNat).drop 20) _ _ _ (fun _ => True) (fun _ => False) rfl rfl ?aO ?aR (fun _ _ h => h) (fun _ h => h.elim) ?aF ?aB ?aS ?aL ?_
              (case aR => first | (refine RR_len (show ((l0.take (t352 : Int).toNat).drop 20).length = (t352.toNat - 20) from (by rw [List.length_drop, List.length_take]; have h_ : (t352 : Int) ≤ (l0.length : Int) := of_decide_eq_true (by first | (with_reducible assumption) | assumption); omega)) ?_; repeat (first | exact (Kd.C_below HR365.out HB.out) | (with_reducible refine Kd.C_alloc ?_ _) | (with_reducible refine Kd.C_drewN ?_ _) | (with_reducible refine Kd.C_drew ?_))) | (repeat (first | exact (Kd.C_below HR365.out HB.out) | (with_reducible refine Kd.C_alloc ?_ _) | (with_reducible refine Kd.C_drewN ?_ _) | (with_reducible refine Kd.C_drew ?_))))
              (case aB => exact (by repeat (first | (with_reducible first | exact HB.out | apply below_alloc | apply pw_below_drewN | apply below_drew1 | refine below_set ?_ GE351.out | refine below_set ?_ GE359.out) | exact HB.out)))
              (case aF => exact (fun _ _ => trivial))
              (case aO => exact (by (with_reducible repeat (first | apply Kd.R_alloc | apply Kd.R_drewN | apply Kd.R_drew)); exact HO364.out))
              (case aS => exact (below_size (by repeat (first | (with_reducible first | exact HB.out | apply below_alloc | apply pw_below_drewN | apply below_drew1 | refine below_set ?_ GE351.out | refine below_set ?_ GE359.out) | exact HB.out))))
              (case aL => have := LMc15.out; have hlx_ := (show ((l0.take (t352 : Int).toNat).drop 20).length = (t352.toNat - 20) from (by rw [List.length_drop, List.length_take]; have h_ : (t352 : Int) ≤ (l0.length : Int) := of_decide_eq_true (by first | (with_reducible assumption) | assumption); omega)); omega)
              intro v367 w43 ho hb hg hat
              rw [← Ny366.out] at ho
              have n0_ := Aside0.mk (blk_grown (g := gb351) (o := .cells #[.int .i64 0, .int .i64 0, .bool false, .bool false, .int .i64 0, .int .i64 0, .int .i64 0, .int .u32 0, .int .u32 0, .slice none 0 0, .slice none 0 0] 26 (0, 0)) (by (with_reducible repeat (first | refine blk_drewN ?_ _ | refine blk_drew ?_ | refine blk_alloc ?_ _)); exact BK351.out) hg (Kd.R_ne HO364.out BK351.out (by decide)))
              have n1_ := Aside0.mk (blk_grown (g := gb359) (o := .cells #[.int .i64 (wrap64 (rd l0 1)), .int .i64 t356, .bool ((Go.bits .and .i64 (t354 / 16384) 1) == 1), .bool ((Go.bits .and .i64 (t354 / 8192) 1) == 1), .int .i64 (Go.bits .and .i64 t354 8191), .int .i64 (wrap64 (rd l0 8)), .int .i64 (wrap64 (rd l0 9)), .int .u32 t360, .int .u32 t361, .slice none 0 0, .slice none 0 0] 26 (0, 0)) (by (with_reducible repeat (first | refine blk_drewN ?_ _ | refine blk_drew ?_ | refine blk_alloc ?_ _)); exact BK359.out) hg (Kd.R_ne HO364.out BK359.out (by decide)))
              have n2_ := Aside0.mk (hb)
              have n3_ := Aside0.mk (ho)
              clear BK351
              clear BK359
              clear HB
              clear HO364
              have BK351 := n0_
              have BK359 := n1_
              have HB := n2_
              have HO368 := n3_
              clear n0_ n1_ n2_ n3_
              clear ho hb hg hat
              refine hK.out _ _ trivial (fun hHeld => ?_)
              clear hK K
              refine norm_ (a' := ?_) ?_ ?_
              rotate_left
              ·show Act.put _ (some 53) _ = _
               simp only [Act.put, List.setIfInBounds_toArray, List.set_cons_zero, List.set_cons_succ, i64_w, i32_w]
               rfl
              refine pure_ (i := 11) (N := some 60) (v := ?_) (a' := ?_) #[true, true, true, true, true, false, true, true, true, true, false, true, false, false, false] rfl rfl (any_of HT_.out (by kernel_rfl)) (fun _ _ _ h => h) (Or.inl ⟨by rfl, ?_⟩) ?_ ?_
              rotate_left
              ·intro w'
               go_simp
               with_reducible rfl
              rotate_left
              ·simp only [Act.put, List.setIfInBounds_toArray, List.set_cons_zero, List.set_cons_succ, i64_w, i32_w]
               rfl
              refine one_ (i := 5) (N := some 54) #[true, true, true, true, true, true, true, true, true, true, false, true, false, false, false] rfl rfl (one_of HT_.out (by kernel_rfl)) (by decide) (fun K hK => ?_)
              refine Kd.R_lit_step (Kd.int .u8) _ 5 ?hg (N := 54) ?hd (xs := ([] : List Int)) (inner := []) (ok := fun _ => True) (okp := fun _ => True) ?hr ?hp (fun _ hk => hk) trivial (Below.refl _ _) (Nat.le_refl _) (by simp) ?_; (case hd => rfl); (case hg => rfl); (case hr => first | (go_simp; done) | (go_simp; rfl)); (case hp => exact (Reps.none _ _))
              intro v370 w44 ho45 hb hg_ hnew_
              clear hg_ hnew_
              (first | rw [← Ny369.out] at ho45 | (simp only [Int.reduceToNat] at ho45; rw [← Ny369.out] at ho45))
              have n0_ := Aside0.mk (Kd.R_elder' (by (with_reducible repeat (first | apply Kd.R_alloc | apply Kd.R_drewN | apply Kd.R_drew)); exact HO368.out) (Kd.R_base ho45) hb)
              have n1_ := Aside0.mk (Kd.R_lower (Kd.R_new' ho45 (Kd.R_lt (by (with_reducible repeat (first | apply Kd.R_alloc | apply Kd.R_drewN | apply Kd.R_drew)); exact HO368.out))) (below_size (by repeat (first | (with_reducible first | exact HB.out | apply below_alloc | apply pw_below_drewN | apply below_drew1 | refine below_set ?_ GE351.out | refine below_set ?_ GE359.out) | exact HB.out))))
              have n2_ := Aside0.mk (blk_below (g := gb351) (o := .cells #[.int .i64 0, .int .i64 0, .bool false, .bool false, .int .i64 0, .int .i64 0, .int .i64 0, .int .u32 0, .int .u32 0, .slice none 0 0, .slice none 0 0] 26 (0, 0)) (by (with_reducible repeat (first | refine blk_drewN ?_ _ | refine blk_drew ?_ | refine blk_alloc ?_ _)); exact BK351.out) hb)
              have n3_ := Aside0.mk (blk_below (g := gb359) (o := .cells #[.int .i64 (wrap64 (rd l0 1)), .int .i64 t356, .bool ((Go.bits .and .i64 (t354 / 16384) 1) == 1), .bool ((Go.bits .and .i64 (t354 / 8192) 1) == 1), .int .i64 (Go.bits .and .i64 t354 8191), .int .i64 (wrap64 (rd l0 8)), .int .i64 (wrap64 (rd l0 9)), .int .u32 t360, .int .u32 t361, .slice none 0 0, .slice none 0 0] 26 (0, 0)) (by (with_reducible repeat (first | refine blk_drewN ?_ _ | refine blk_drew ?_ | refine blk_alloc ?_ _)); exact BK359.out) hb)
              have n4_ := Aside0.mk (below_step (by repeat (first | (with_reducible first | exact HB.out | apply below_alloc | apply pw_below_drewN | apply below_drew1 | refine below_set ?_ GE351.out | refine below_set ?_ GE359.out) | exact HB.out)) hb)
              clear HO368
              clear BK351
              clear BK359
              clear HB
              have HO368 := n0_
              have HO371 := n1_
              have BK351 := n2_
              have BK359 := n3_
              have HB := n4_
              clear n0_ n1_ n2_ n3_ n4_
              clear hb ho45
              refine hK.out _ _ trivial (fun hHeld => ?_)
              clear hK K
              refine norm_ (a' := ?_) ?_ ?_
              rotate_left
              ·show Act.put _ (some 54) _ = _
               simp only [Act.put, List.setIfInBounds_toArray, List.set_cons_zero, List.set_cons_succ, i64_w, i32_w]
               rfl
              exact norm_ (by simp only [putAll, Act.put, List.setIfInBounds_toArray, List.set_cons_zero, List.set_cons_succ]) (hCont (v363, v367, v370) _ ⟨(by (with_reducible repeat (first | apply Kd.R_alloc | apply Kd.R_drewN | apply Kd.R_drew)); exact Kd.R_mono HO368.out (fun _ hk => hk.2)), (by (with_reducible repeat (first | apply Kd.R_alloc | apply Kd.R_drewN | apply Kd.R_drew)); exact Kd.R_mono HO371.out (fun _ hk => hk.2)), (by (with_reducible repeat (first | refine blk_drewN ?_ _ | refine blk_drew ?_ | refine blk_alloc ?_ _)); exact BK351.out), (by (with_reducible repeat (first | refine blk_drewN ?_ _ | refine blk_drew ?_ | refine blk_alloc ?_ _)); exact BK359.out), (by repeat (first | (with_reducible first | exact HB.out | apply below_alloc | apply pw_below_drewN | apply below_drew1 | refine below_set ?_ GE351.out | refine below_set ?_ GE359.out) | exact HB.out))⟩)
             ·skip
              refine Kd.R_lit_step (Kd.int .u8) _ 5 ?hg (N := 54) ?hd (xs := ([] : List Int)) (inner := []) (ok := fun _ => True) (okp := fun _ => True) ?hr ?hp (fun _ hk => hk) trivial (Below.refl _ _) (Nat.le_refl _) (by simp) ?_; (case hd => rfl); (case hg => rfl); (case hr => first | (go_simp; done) | (go_simp; rfl)); (case hp => exact (Reps.none _ _))
              intro v370 w43 ho44 hb hg_ hnew_
              clear hg_ hnew_
              (first | rw [← Ny369.out] at ho44 | (simp only [Int.reduceToNat] at ho44; rw [← Ny369.out] at ho44))
              have n0_ := Aside0.mk (Kd.R_elder' (by (with_reducible repeat (first | apply Kd.R_alloc | apply Kd.R_drewN | apply Kd.R_drew)); exact HO364.out) (Kd.R_base ho44) hb)
              have n1_ := Aside0.mk (Kd.R_lower (Kd.R_new' ho44 (Kd.R_lt (by (with_reducible repeat (first | apply Kd.R_alloc | apply Kd.R_drewN | apply Kd.R_drew)); exact HO364.out))) (below_size (by repeat (first | (with_reducible first | exact HB.out | apply below_alloc | apply pw_below_drewN | apply below_drew1 | refine below_set ?_ GE351.out | refine below_set ?_ GE359.out) | exact HB.out))))
              have n2_ := Aside0.mk (blk_below (g := gb351) (o := .cells #[.int .i64 0, .int .i64 0, .bool false, .bool false, .int .i64 0, .int .i64 0, .int .i64 0, .int .u32 0, .int .u32 0, .slice none 0 0, .slice none 0 0] 26 (0, 0)) (by (with_reducible repeat (first | refine blk_drewN ?_ _ | refine blk_drew ?_ | refine blk_alloc ?_ _)); exact BK351.out) hb)
              have n3_ := Aside0.mk (blk_below (g := gb359) (o := .cells #[.int .i64 (wrap64 (rd l0 1)), .int .i64 t356, .bool ((Go.bits .and .i64 (t354 / 16384) 1) == 1), .bool ((Go.bits .and .i64 (t354 / 8192) 1) == 1), .int .i64 (Go.bits .and .i64 t354 8191), .int .i64 (wrap64 (rd l0 8)), .int .i64 (wrap64 (rd l0 9)), .int .u32 t360, .int .u32 t361, .slice none 0 0, .slice none 0 0] 26 (0, 0)) (by (with_reducible repeat (first | refine blk_drewN ?_ _ | refine blk_drew ?_ | refine blk_alloc ?_ _)); exact BK359.out) hb)
              have n4_ := Aside0.mk (below_step (by repeat (first | (with_reducible first | exact HB.out | apply below_alloc | apply pw_below_drewN | apply below_drew1 | refine below_set ?_ GE351.out | refine below_set ?_ GE359.out) | exact HB.out)) hb)
              clear HO364
              clear BK351
              clear BK359
              clear HB
              have HO364 := n0_
              have HO371 := n1_
              have BK351 := n2_
              have BK359 := n3_
              have HB := n4_
              clear n0_ n1_ n2_ n3_ n4_
              clear hb ho44
              refine hK.out _ _ trivial (fun hHeld => ?_)
              clear hK K
              refine norm_ (a' := ?_) ?_ ?_
              rotate_left
              ·show Act.put _ (some 54) _ = _
               simp only [Act.put, List.setIfInBounds_toArray, List.set_cons_zero, List.set_cons_succ, i64_w, i32_w]
               rfl
              refine one_ (i := 4) (N := some 53) #[true, true, true, true, true, true, true, true, true, true, false, false, false, false, false] rfl rfl (one_of HT_.out (by kernel_rfl)) (by decide) (fun K hK => ?_)
              refine Kd.R_append_rows_step (Kd.int .u8) (w0 := w) w.heap.size (by rfl) (.tmp 49) (.tmp 52) 24 5 (.int .u8 0) 1 rfl Try.underlying24 info5 rfl (by decide) (by omega) v363 y362 ((l0.take (t352 : Int).toNat).drop 20) _ _ _ (fun k_ => some k_ ≠ (v370 : Value).ownBlock) (fun _ => False) rfl rfl ?aO ?aR (fun _ _ h => h) (fun _ h => h.elim) ?aF ?aB ?aS ?aL ?_
              (case aR => first | (refine RR_len (show ((l0.take (t352 : Int).toNat).drop 20).length = (t352.toNat - 20) from (by rw [List.length_drop, List.length_take]; have h_ : (t352 : Int) ≤ (l0.length : Int) := of_decide_eq_true (by first | (with_reducible assumption) | assumption); omega)) ?_; repeat (first | exact (Kd.C_below HR365.out HB.out) | (with_reducible refine Kd.C_alloc ?_ _) | (with_reducible refine Kd.C_drewN ?_ _) | (with_reducible refine Kd.C_drew ?_))) | (repeat (first | exact (Kd.C_below HR365.out HB.out) | (with_reducible refine Kd.C_alloc ?_ _) | (with_reducible refine Kd.C_drewN ?_ _) | (with_reducible refine Kd.C_drew ?_))))
              (case aB => exact (by repeat (first | (with_reducible first | exact HB.out | apply below_alloc | apply pw_below_drewN | apply below_drew1 | refine below_set ?_ GE351.out | refine below_set ?_ GE359.out) | exact HB.out)))
              (case aF => exact (fun k_ hk => Kd.fresh' (Kd.R_lt (by (with_reducible repeat (first | apply Kd.R_alloc | apply Kd.R_drewN | apply Kd.R_drew)); exact HO371.out)) k_ hk))
              (case aO => exact (by (with_reducible repeat (first | apply Kd.R_alloc | apply Kd.R_drewN | apply Kd.R_drew)); exact Kd.R_mono HO364.out (fun _ hk => hk.2)))
              (case aS => exact (below_size (by repeat (first | (with_reducible first | exact HB.out | apply below_alloc | apply pw_below_drewN | apply below_drew1 | refine below_set ?_ GE351.out | refine below_set ?_ GE359.out) | exact HB.out))))
              (case aL => have := LMc15.out; have hlx_ := (show ((l0.take (t352 : Int).toNat).drop 20).length = (t352.toNat - 20) from (by rw [List.length_drop, List.length_take]; have h_ : (t352 : Int) ≤ (l0.length : Int) := of_decide_eq_true (by first | (with_reducible assumption) | assumption); omega)); omega)
              intro v367 w45 ho hb hg hat
              rw [← Ny366.out] at ho
              have n0_ := Aside0.mk (blk_grown (g := gb351) (o := .cells #[.int .i64 0, .int .i64 0, .bool false, .bool false, .int .i64 0, .int .i64 0, .int .i64 0, .int .u32 0, .int .u32 0, .slice none 0 0, .slice none 0 0] 26 (0, 0)) (by (with_reducible repeat (first | refine blk_drewN ?_ _ | refine blk_drew ?_ | refine blk_alloc ?_ _)); exact BK351.out) hg (Kd.R_ne HO364.out BK351.out (by decide)))
              have n1_ := Aside0.mk (blk_grown (g := gb359) (o := .cells #[.int .i64 (wrap64 (rd l0 1)), .int .i64 t356, .bool ((Go.bits .and .i64 (t354 / 16384) 1) == 1), .bool ((Go.bits .and .i64 (t354 / 8192) 1) == 1), .int .i64 (Go.bits .and .i64 t354 8191), .int .i64 (wrap64 (rd l0 8)), .int .i64 (wrap64 (rd l0 9)), .int .u32 t360, .int .u32 t361, .slice none 0 0, .slice none 0 0] 26 (0, 0)) (by (with_reducible repeat (first | refine blk_drewN ?_ _ | refine blk_drew ?_ | refine blk_alloc ?_ _)); exact BK359.out) hg (Kd.R_ne HO364.out BK359.out (by decide)))
              have n2_ := Aside0.mk (Kd.R_after (ok := (fun _ => True)) (by (with_reducible repeat (first | apply Kd.R_alloc | apply Kd.R_drewN | apply Kd.R_drew)); exact HO371.out) hg hat)
              have n3_ := Aside0.mk (hb)
              have n4_ := Aside0.mk (ho)
              clear BK351
              clear BK359
              clear HO371
              clear HB
              clear HO364
              have BK351 := n0_
              have BK359 := n1_
              have HO371 := n2_
              have HB := n3_
              have HO368 := n4_
              clear n0_ n1_ n2_ n3_ n4_
              clear ho hb hg hat
              refine hK.out _ _ trivial (fun hHeld => ?_)
              clear hK K
              refine norm_ (a' := ?_) ?_ ?_
              rotate_left
              ·show Act.put _ (some 53) _ = _
               simp only [Act.put, List.setIfInBounds_toArray, List.set_cons_zero, List.set_cons_succ, i64_w, i32_w]
               rfl
              refine pure_ (i := 11) (N := some 60) (v := ?_) (a' := ?_) #[true, true, true, true, true, true, true, true, true, true, false, true, false, false, false] rfl rfl (any_of HT_.out (by kernel_rfl)) (fun _ _ _ h => h) (Or.inl ⟨by rfl, ?_⟩) ?_ ?_
              rotate_left
              ·intro w'
               go_simp
               with_reducible rfl
              rotate_left
              ·simp only [Act.put, List.setIfInBounds_toArray, List.set_cons_zero, List.set_cons_succ, i64_w, i32_w]
               rfl
              exact norm_ (by simp only [putAll, Act.put, List.setIfInBounds_toArray, List.set_cons_zero, List.set_cons_succ]) (hCont (v363, v367, v370) _ ⟨(by (with_reducible repeat (first | apply Kd.R_alloc | apply Kd.R_drewN | apply Kd.R_drew)); exact HO368.out), (by (with_reducible repeat (first | apply Kd.R_alloc | apply Kd.R_drewN | apply Kd.R_drew)); exact Kd.R_mono HO371.out (fun _ hk => hk.2)), (by (with_reducible repeat (first | refine blk_drewN ?_ _ | refine blk_drew ?_ | refine blk_alloc ?_ _)); exact BK351.out), (by (with_reducible repeat (first | refine blk_drewN ?_ _ | refine blk_drew ?_ | refine blk_alloc ?_ _)); exact BK359.out), (by repeat (first | (with_reducible first | exact HB.out | apply below_alloc | apply pw_below_drewN | apply below_drew1 | refine below_set ?_ GE351.out | refine below_set ?_ GE359.out) | exact HB.out))⟩)
            ·skip
             refine Kd.R_lit_step (Kd.int .u8) _ 5 ?hg (N := 54) ?hd (xs := ([] : List Int)) (inner := []) (ok := fun _ => True) (okp := fun _ => True) ?hr ?hp (fun _ hk => hk) trivial (Below.refl _ _) (Nat.le_refl _) (by simp) ?_; (case hd => rfl); (case hg => rfl); (case hr => first | (go_simp; done) | (go_simp; rfl)); (case hp => exact (Reps.none _ _))
             intro v370 w41 ho42 hb hg_ hnew_
             clear hg_ hnew_
             (first | rw [← Ny369.out] at ho42 | (simp only [Int.reduceToNat] at ho42; rw [← Ny369.out] at ho42))
             have n0_ := Aside0.mk (Kd.R_lower ho42 (below_size (by repeat (first | (with_reducible first | exact HB.out | apply below_alloc | apply pw_below_drewN | apply below_drew1 | refine below_set ?_ GE351.out | refine below_set ?_ GE359.out) | exact HB.out))))
             have n1_ := Aside0.mk (blk_below (g := gb351) (o := .cells #[.int .i64 0, .int .i64 0, .bool false, .bool false, .int .i64 0, .int .i64 0, .int .i64 0, .int .u32 0, .int .u32 0, .slice none 0 0, .slice none 0 0] 26 (0, 0)) (by (with_reducible repeat (first | refine blk_drewN ?_ _ | refine blk_drew ?_ | refine blk_alloc ?_ _)); exact BK351.out) hb)
             have n2_ := Aside0.mk (blk_below (g := gb359) (o := .cells #[.int .i64 (wrap64 (rd l0 1)), .int .i64 t356, .bool ((Go.bits .and .i64 (t354 / 16384) 1) == 1), .bool ((Go.bits .and .i64 (t354 / 8192) 1) == 1), .int .i64 (Go.bits .and .i64 t354 8191), .int .i64 (wrap64 (rd l0 8)), .int .i64 (wrap64 (rd l0 9)), .int .u32 t360, .int .u32 t361, .slice none 0 0, .slice none 0 0] 26 (0, 0)) (by (with_reducible repeat (first | refine blk_drewN ?_ _ | refine blk_drew ?_ | refine blk_alloc ?_ _)); exact BK359.out) hb)
             have n3_ := Aside0.mk (below_step (by repeat (first | (with_reducible first | exact HB.out | apply below_alloc | apply pw_below_drewN | apply below_drew1 | refine below_set ?_ GE351.out | refine below_set ?_ GE359.out) | exact HB.out)) hb)
             clear BK351
             clear BK359
             clear HB
             have HO371 := n0_
             have BK351 := n1_
             have BK359 := n2_
             have HB := n3_
             clear n0_ n1_ n2_ n3_
             clear hb ho42
             refine hK.out _ _ trivial (fun hHeld => ?_)
             clear hK K
             refine norm_ (a' := ?_) ?_ ?_
             rotate_left
             ·show Act.put _ (some 54) _ = _
              simp only [Act.put, List.setIfInBounds_toArray, List.set_cons_zero, List.set_cons_succ, i64_w, i32_w]
              rfl
             refine one_ (i := 0) (N := some 49) #[true, true, true, true, false, true, true, true, true, true, false, false, false, false, false] rfl rfl (one_of HT_.out (by kernel_rfl)) (by decide) (fun K hK => ?_)
             refine Kd.R_lit_step (Kd.int .u8) _ 5 ?hg (N := 49) ?hd (xs := ([] : List Int)) (inner := []) (ok := fun _ => True) (okp := fun _ => True) ?hr ?hp (fun _ hk => hk) trivial (Below.refl _ _) (Nat.le_refl _) (by simp) ?_; (case hd => rfl); (case hg => rfl); (case hr => first | (go_simp; done) | (go_simp; rfl)); (case hp => exact (Reps.none _ _))
             intro v363 w43 ho44 hb hg_ hnew_
             clear hg_ hnew_
             (first | rw [← Ny362.out] at ho44 | (simp only [Int.reduceToNat] at ho44; rw [← Ny362.out] at ho44))
             have n0_ := Aside0.mk (Kd.R_elder' (by (with_reducible repeat (first | apply Kd.R_alloc | apply Kd.R_drewN | apply Kd.R_drew)); exact HO371.out) (Kd.R_base ho44) hb)
             have n1_ := Aside0.mk (Kd.R_lower (Kd.R_new' ho44 (Kd.R_lt (by (with_reducible repeat (first | apply Kd.R_alloc | apply Kd.R_drewN | apply Kd.R_drew)); exact HO371.out))) (below_size (by repeat (first | (with_reducible first | exact HB.out | apply below_alloc | apply pw_below_drewN | apply below_drew1 | refine below_set ?_ GE351.out | refine below_set ?_ GE359.out) | exact HB.out))))
             have n2_ := Aside0.mk (blk_below (g := gb351) (o := .cells #[.int .i64 0, .int .i64 0, .bool false, .bool false, .int .i64 0, .int .i64 0, .int .i64 0, .int .u32 0, .int .u32 0, .slice none 0 0, .slice none 0 0] 26 (0, 0)) (by (with_reducible repeat (first | refine blk_drewN ?_ _ | refine blk_drew ?_ | refine blk_alloc ?_ _)); exact BK351.out) hb)
             have n3_ := Aside0.mk (blk_below (g := gb359) (o := .cells #[.int .i64 (wrap64 (rd l0 1)), .int .i64 t356, .bool ((Go.bits .and .i64 (t354 / 16384) 1) == 1), .bool ((Go.bits .and .i64 (t354 / 8192) 1) == 1), .int .i64 (Go.bits .and .i64 t354 8191), .int .i64 (wrap64 (rd l0 8)), .int .i64 (wrap64 (rd l0 9)), .int .u32 t360, .int .u32 t361, .slice none 0 0, .slice none 0 0] 26 (0, 0)) (by (with_reducible repeat (first | refine blk_drewN ?_ _ | refine blk_drew ?_ | refine blk_alloc ?_ _)); exact BK359.out) hb)
             have n4_ := Aside0.mk (below_step (by repeat (first | (with_reducible first | exact HB.out | apply below_alloc | apply pw_below_drewN | apply below_drew1 | refine below_set ?_ GE351.out | refine below_set ?_ GE359.out) | exact HB.out)) hb)
             clear HO371
             clear BK351
             clear BK359
             clear HB
             have HO371 := n0_
             have HO364 := n1_
             have BK351 := n2_
             have BK359 := n3_
             have HB := n4_
             clear n0_ n1_ n2_ n3_ n4_
             clear hb ho44
             refine hK.out _ _ trivial (fun hHeld => ?_)
             clear hK K
             refine norm_ (a' := ?_) ?_ ?_
             rotate_left
             ·show Act.put _ (some 49) _ = _
              simp only [Act.put, List.setIfInBounds_toArray, List.set_cons_zero, List.set_cons_succ, i64_w, i32_w]
              rfl
             refine one_ (i := 4) (N := some 53) #[true, true, true, true, true, true, true, true, true, true, false, false, false, false, false] rfl rfl (one_of HT_.out (by kernel_rfl)) (by decide) (fun K hK => ?_)
             refine Kd.R_append_rows_step (Kd.int .u8) (w0 := w) w.heap.size (by rfl) (.tmp 49) (.tmp 52) 24 5 (.int .u8 0) 1 rfl Try.underlying24 info5 rfl (by decide) (by omega) v363 y362 ((l0.take (t352 : Int).toNat).drop 20) _ _ _ (fun k_ => some k_ ≠ (v370 : Value).ownBlock) (fun _ => False) rfl rfl ?aO ?aR (fun _ _ h => h) (fun _ h => h.elim) ?aF ?aB ?aS ?aL ?_
             (case aR => first | (refine RR_len (show ((l0.take (t352 : Int).toNat).drop 20).length = (t352.toNat - 20) from (by rw [List.length_drop, List.length_take]; have h_ : (t352 : Int) ≤ (l0.length : Int) := of_decide_eq_true (by first | (with_reducible assumption) | assumption); omega)) ?_; repeat (first | exact (Kd.C_below HR365.out HB.out) | (with_reducible refine Kd.C_alloc ?_ _) | (with_reducible refine Kd.C_drewN ?_ _) | (with_reducible refine Kd.C_drew ?_))) | (repeat (first | exact (Kd.C_below HR365.out HB.out) | (with_reducible refine Kd.C_alloc ?_ _) | (with_reducible refine Kd.C_drewN ?_ _) | (with_reducible refine Kd.C_drew ?_))))
             (case aB => exact (by repeat (first | (with_reducible first | exact HB.out | apply below_alloc | apply pw_below_drewN | apply below_drew1 | refine below_set ?_ GE351.out | refine below_set ?_ GE359.out) | exact HB.out)))
             (case aF => exact (fun k_ hk => Kd.fresh' (Kd.R_lt (by (with_reducible repeat (first | apply Kd.R_alloc | apply Kd.R_drewN | apply Kd.R_drew)); exact HO371.out)) k_ hk))
             (case aO => exact (by (with_reducible repeat (first | apply Kd.R_alloc | apply Kd.R_drewN | apply Kd.R_drew)); exact Kd.R_mono HO364.out (fun _ hk => hk.2)))
             (case aS => exact (below_size (by repeat (first | (with_reducible first | exact HB.out | apply below_alloc | apply pw_below_drewN | apply below_drew1 | refine below_set ?_ GE351.out | refine below_set ?_ GE359.out) | exact HB.out))))
             (case aL => have := LMc15.out; have hlx_ := (show ((l0.take (t352 : Int).toNat).drop 20).length = (t352.toNat - 20) from (by rw [List.length_drop, List.length_take]; have h_ : (t352 : Int) ≤ (l0.length : Int) := of_decide_eq_true (by first | (with_reducible assumption) | assumption); omega)); omega)
             intro v367 w45 ho hb hg hat
             rw [← Ny366.out] at ho
             have n0_ := Aside0.mk (blk_grown (g := gb351) (o := .cells #[.int .i64 0, .int .i64 0, .bool false, .bool false, .int .i64 0, .int .i64 0, .int .i64 0, .int .u32 0, .int .u32 0, .slice none 0 0, .slice none 0 0] 26 (0, 0)) (by (with_reducible repeat (first | refine blk_drewN ?_ _ | refine blk_drew ?_ | refine blk_alloc ?_ _)); exact BK351.out) hg (Kd.R_ne HO364.out BK351.out (by decide)))
             have n1_ := Aside0.mk (blk_grown (g := gb359) (o := .cells #[.int .i64 (wrap64 (rd l0 1)), .int .i64 t356, .bool ((Go.bits .and .i64 (t354 / 16384) 1) == 1), .bool ((Go.bits .and .i64 (t354 / 8192) 1) == 1), .int .i64 (Go.bits .and .i64 t354 8191), .int .i64 (wrap64 (rd l0 8)), .int .i64 (wrap64 (rd l0 9)), .int .u32 t360, .int .u32 t361, .slice none 0 0, .slice none 0 0] 26 (0, 0)) (by (with_reducible repeat (first | refine blk_drewN ?_ _ | refine blk_drew ?_ | refine blk_alloc ?_ _)); exact BK359.out) hg (Kd.R_ne HO364.out BK359.out (by decide)))
             have n2_ := Aside0.mk (Kd.R_after (ok := (fun _ => True)) (by (with_reducible repeat (first | apply Kd.R_alloc | apply Kd.R_drewN | apply Kd.R_drew)); exact HO371.out) hg hat)
             have n3_ := Aside0.mk (hb)
             have n4_ := Aside0.mk (ho)
             clear BK351
             clear BK359
             clear HO371
             clear HB
             clear HO364
             have BK351 := n0_
             have BK359 := n1_
             have HO371 := n2_
             have HB := n3_
             have HO368 := n4_
             clear n0_ n1_ n2_ n3_ n4_
             clear ho hb hg hat
             refine hK.out _ _ trivial (fun hHeld => ?_)
             clear hK K
             refine norm_ (a' := ?_) ?_ ?_
             rotate_left
             ·show Act.put _ (some 53) _ = _
              simp only [Act.put, List.setIfInBounds_toArray, List.set_cons_zero, List.set_cons_succ, i64_w, i32_w]
              rfl
             refine pure_ (i := 11) (N := some 60) (v := ?_) (a' := ?_) #[true, true, true, true, true, true, true, true, true, true, false, true, false, false, false] rfl rfl (any_of HT_.out (by kernel_rfl)) (fun _ _ _ h => h) (Or.inl ⟨by rfl, ?_⟩) ?_ ?_
             rotate_left
             ·intro w'
              go_simp
              with_reducible rfl
             rotate_left
             ·simp only [Act.put, List.setIfInBounds_toArray, List.set_cons_zero, List.set_cons_succ, i64_w, i32_w]
              rfl
             exact norm_ (by simp only [putAll, Act.put, List.setIfInBounds_toArray, List.set_cons_zero, List.set_cons_succ]) (hCont (v363, v367, v370) _ ⟨(by (with_reducible repeat (first | apply Kd.R_alloc | apply Kd.R_drewN | apply Kd.R_drew)); exact HO368.out), (by (with_reducible repeat (first | apply Kd.R_alloc | apply Kd.R_drewN | apply Kd.R_drew)); exact Kd.R_mono HO371.out (fun _ hk => hk.2)), (by (with_reducible repeat (first | refine blk_drewN ?_ _ | refine blk_drew ?_ | refine blk_alloc ?_ _)); exact BK351.out), (by (with_reducible repeat (first | refine blk_drewN ?_ _ | refine blk_drew ?_ | refine blk_alloc ?_ _)); exact BK359.out), (by repeat (first | (with_reducible first | exact HB.out | apply below_alloc | apply pw_below_drewN | apply below_drew1 | refine below_set ?_ GE351.out | refine below_set ?_ GE359.out) | exact HB.out))⟩)
           rintro ⟨v363, v367, v370⟩ w46 ⟨h0_, h1_, h2_, h3_, h4_⟩
           have n0_ : Aside0 (Kd.R (Kd.int .u8) 5 w46 w.heap.size (fun k_ => some k_ ≠ (v370 : Value).ownBlock) v367 y366) := ⟨h0_⟩
           have n1_ : Aside0 (Kd.R (Kd.int .u8) 5 w46 w.heap.size (fun k_ => some k_ ≠ (v367 : Value).ownBlock) v370 y369) := ⟨h1_⟩
           have n2_ : Aside0 (w46.heap[gb351]? = some (.cells #[.int .i64 0, .int .i64 0, .bool false, .bool false, .int .i64 0, .int .i64 0, .int .i64 0, .int .u32 0, .int .u32 0, .slice none 0 0, .slice none 0 0] 26 (0, 0))) := ⟨h2_⟩
           have n3_ : Aside0 (w46.heap[gb359]? = some (.cells #[.int .i64 (wrap64 (rd l0 1)), .int .i64 t356, .bool ((Go.bits .and .i64 (t354 / 16384) 1) == 1), .bool ((Go.bits .and .i64 (t354 / 8192) 1) == 1), .int .i64 (Go.bits .and .i64 t354 8191), .int .i64 (wrap64 (rd l0 8)), .int .i64 (wrap64 (rd l0 9)), .int .u32 t360, .int .u32 t361, .slice none 0 0, .slice none 0 0] 26 (0, 0))) := ⟨h3_⟩
           have n4_ : Aside0 (Below w.heap.size w w46) := ⟨h4_⟩
           clear BK351
           clear BK359
           clear HB
           clear h0_ h1_ h2_ h3_ h4_
           have HO368 := n0_
           have HO371 := n1_
           have BK351 := n2_
           have BK359 := n3_
           have HB := n4_
           clear n0_ n1_ n2_ n3_ n4_
           have hHeld := trivial
           refine norm_ (a' := ?_) ?_ ?_
           rotate_left
           ·simp only [putAll, Act.put, List.setIfInBounds_toArray, List.set_cons_zero, List.set_cons_succ]
            rfl
           refine one_ (i := 10) (N := some 59) #[true, true, true, true, true, true, true, true, true, true, true, true, false, false, false] rfl rfl (one_of HT_.out (by kernel_rfl)) (by decide) (fun K hK => ?_)
           refine Kd.R_append_rows_step (Kd.int .u8) (w0 := w) w.heap.size (by rfl) (.tmp 54) (.tmp 58) 24 5 (.int .u8 0) 1 rfl Try.underlying24 info5 rfl (by decide) (by omega) v370 y369 ((l0.take ((ji5) : Int).toNat).drop (t352 : Int).toNat) _ _ _ (fun k_ => some k_ ≠ (v367 : Value).ownBlock) (fun _ => False) rfl rfl ?aO ?aR (fun _ _ h => h) (fun _ h => h.elim) ?aF ?aB ?aS ?aL ?_
           (case aR => first | (refine RR_len (show ((l0.take ((ji5) : Int).toNat).drop (t352 : Int).toNat).length = ((ji5).toNat - t352.toNat) from (by rw [List.length_drop, List.length_take]; have h_ : ((ji5) : Int) ≤ (l0.length : Int) := of_decide_eq_true (by first | (with_reducible assumption) | assumption); omega)) ?_; repeat (first | exact (Kd.C_below HR372.out HB.out) | (with_reducible refine Kd.C_alloc ?_ _) | (with_reducible refine Kd.C_drewN ?_ _) | (with_reducible refine Kd.C_drew ?_))) | (repeat (first | exact (Kd.C_below HR372.out HB.out) | (with_reducible refine Kd.C_alloc ?_ _) | (with_reducible refine Kd.C_drewN ?_ _) | (with_reducible refine Kd.C_drew ?_))))
           (case aB => exact (by repeat (first | (with_reducible first | exact HB.out | apply below_alloc | apply pw_below_drewN | apply below_drew1 | refine below_set ?_ GE351.out | refine below_set ?_ GE359.out) | exact HB.out)))
           (case aF => exact (fun k_ hk => Kd.fresh' (Kd.R_lt (by (with_reducible repeat (first | apply Kd.R_alloc | apply Kd.R_drewN | apply Kd.R_drew)); exact HO368.out)) k_ hk))
           (case aO => exact (by (with_reducible repeat (first | apply Kd.R_alloc | apply Kd.R_drewN | apply Kd.R_drew)); exact HO371.out))
           (case aS => exact (below_size (by repeat (first | (with_reducible first | exact HB.out | apply below_alloc | apply pw_below_drewN | apply below_drew1 | refine below_set ?_ GE351.out | refine below_set ?_ GE359.out) | exact HB.out))))
           (case aL => have := LMc19.out; (try rw [hji5] at this); have hlx_ := (show ((l0.take ((ji5) : Int).toNat).drop (t352 : Int).toNat).length = ((ji5).toNat - t352.toNat) from (by rw [List.length_drop, List.length_take]; have h_ : ((ji5) : Int) ≤ (l0.length : Int) := of_decide_eq_true (by first | (with_reducible assumption) | assumption); omega)); omega)
           intro v374 w47 ho hb hg hat
           rw [← Ny373.out] at ho
           have n0_ := Aside0.mk (blk_grown (g := gb351) (o := .cells #[.int .i64 0, .int .i64 0, .bool false, .bool false, .int .i64 0, .int .i64 0, .int .i64 0, .int .u32 0, .int .u32 0, .slice none 0 0, .slice none 0 0] 26 (0, 0)) (by (with_reducible repeat (first | refine blk_drewN ?_ _ | refine blk_drew ?_ | refine blk_alloc ?_ _)); exact BK351.out) hg (Kd.R_ne HO371.out BK351.out (by decide)))
           have n1_ := Aside0.mk (blk_grown (g := gb359) (o := .cells #[.int .i64 (wrap64 (rd l0 1)), .int .i64 t356, .bool ((Go.bits .and .i64 (t354 / 16384) 1) == 1), .bool ((Go.bits .and .i64 (t354 / 8192) 1) == 1), .int .i64 (Go.bits .and .i64 t354 8191), .int .i64 (wrap64 (rd l0 8)), .int .i64 (wrap64 (rd l0 9)), .int .u32 t360, .int .u32 t361, .slice none 0 0, .slice none 0 0] 26 (0, 0)) (by (with_reducible repeat (first | refine blk_drewN ?_ _ | refine blk_drew ?_ | refine blk_alloc ?_ _)); exact BK359.out) hg (Kd.R_ne HO371.out BK359.out (by decide)))
           have n2_ := Aside0.mk (Kd.R_after (ok := (fun _ => True)) (by (with_reducible repeat (first | apply Kd.R_alloc | apply Kd.R_drewN | apply Kd.R_drew)); exact Kd.R_mono HO368.out (fun _ hk => ⟨trivial, hk⟩)) hg hat)
           have n3_ := Aside0.mk (hb)
           have n4_ := Aside0.mk (ho)
           clear BK351
           clear BK359
           clear HO368
           clear HB
           clear HO371
           have BK351 := n0_
           have BK359 := n1_
           have HO368 := n2_
           have HB := n3_
           have HO375 := n4_
           clear n0_ n1_ n2_ n3_ n4_
           clear ho hb hg hat
           obtain ⟨Ao48, co48, eo48⟩ := Kd.R_slice HO368.out
           (first | subst eo48 | (injection eo48 with f1_ f2_ f3_; have f4_ := f1_.symm; have f5_ := f3_.symm; clear f1_ f2_ f3_; subst f4_; subst f5_))
           obtain ⟨Ao50, co50, eo50⟩ := Kd.R_slice HO375.out
           (first | subst eo50 | (injection eo50 with f1_ f2_ f3_; have f4_ := f1_.symm; have f5_ := f3_.symm; clear f1_ f2_ f3_; subst f4_; subst f5_))
           refine hK.out _ _ trivial (fun hHeld => ?_)
           clear hK K
           refine norm_ (a' := ?_) ?_ ?_
           rotate_left
           ·show Act.put _ (some 59) _ = _
            simp only [Act.put, List.setIfInBounds_toArray, List.set_cons_zero, List.set_cons_succ, i64_w, i32_w]
            rfl
           refine one_ (i := 12) (N := none) #[true, true, true, true, true, true, true, true, true, true, true, true, true, false, false] rfl rfl (one_of HT_.out (by kernel_rfl)) (by decide) (fun K hK => ?_)
           have hs49 : w47.cell? ⟨gb359, 9, none⟩ = some (.slice none 0 0) := (blk_cell BK359.out 9).trans rfl
           have hfs49 := blk_frozen BK359.out 9
           have hns49_0 := NB351_359.out
           have hms49_0 := NB359_351.out
           refine skip_ (w1 := ?_) (by rfl) rfl ?_ ?_
           rotate_left
           ·go_simp
            rfl
           refine hK.out _ _ trivial (fun hHeld => ?_)
           clear hK K
           refine pure_ (i := 13) (N := some 61) (v := ?_) (a' := ?_) #[true, true, true, true, true, true, true, true, true, true, true, true, true, true, false] rfl rfl (any_of HT_.out (by kernel_rfl)) (fun _ _ _ h => h) (Or.inl ⟨by rfl, ?_⟩) ?_ ?_
           rotate_left
           ·intro w'
            go_simp
            with_reducible rfl
           rotate_left
           ·simp only [Act.put, List.setIfInBounds_toArray, List.set_cons_zero, List.set_cons_succ, i64_w, i32_w]
            rfl
           refine one_ (i := 14) (N := none) #[true, true, true, true, true, true, true, true, true, true, true, true, true, true, true] rfl rfl (one_of HT_.out (by kernel_rfl)) (by decide) (fun K hK => ?_)
           have hs51 : w47.cell? ⟨gb359, 10, none⟩ = some (.slice none 0 0) := (blk_cell BK359.out 10).trans rfl
           have hfs51 := blk_frozen BK359.out 10
           have hns51_0 := NB351_359.out
           have hms51_0 := NB359_351.out
           refine skip_ (w1 := ?_) (by rfl) rfl ?_ ?_
           rotate_left
           ·go_simp
            rfl
           refine hK.out _ _ trivial (fun hHeld => ?_)
           clear hK K
           refine done_ (done_of HT_.out (by kernel_rfl)) ?_
           have hcz52 := fun j => blk_cell BK359.out j
           have hfz52 := fun j => blk_frozen BK359.out j
           have hcz53 := fun j => blk_cell BK351.out j
           have hfz53 := fun j => blk_frozen BK351.out j
           try go_wp2
           refine bodyPost_ret (results_cell_row rfl _ _ gb351 26 #[.int .i64 (wrap64 (rd l0 1)), .int .i64 t356, .bool ((Go.bits .and .i64 (t354 / 16384) 1) == 1), .bool ((Go.bits .and .i64 (t354 / 8192) 1) == 1), .int .i64 (Go.bits .and .i64 t354 8191), .int .i64 (wrap64 (rd l0 8)), .int .i64 (wrap64 (rd l0 9)), .int .u32 t360, .int .u32 t361, .slice Ao48 y366.length co48, .slice Ao50 y373.length co50] (0, 0) _ rfl (by (with_reducible repeat (first | refine blk_drewN ?_ _ | refine blk_drew ?_ | refine blk_alloc ?_ _)); refine blk_put (cs := #[.int .i64 (wrap64 (rd l0 1)), .int .i64 t356, .bool ((Go.bits .and .i64 (t354 / 16384) 1) == 1), .bool ((Go.bits .and .i64 (t354 / 8192) 1) == 1), .int .i64 (Go.bits .and .i64 t354 8191), .int .i64 (wrap64 (rd l0 8)), .int .i64 (wrap64 (rd l0 9)), .int .u32 t360, .int .u32 t361, .slice Ao48 y366.length co48, .slice none 0 0]) ?_ 10 _ rfl; (with_reducible repeat (first | refine blk_drewN ?_ _ | refine blk_drew ?_ | refine blk_alloc ?_ _)); refine blk_put (cs := #[.int .i64 (wrap64 (rd l0 1)), .int .i64 t356, .bool ((Go.bits .and .i64 (t354 / 16384) 1) == 1), .bool ((Go.bits .and .i64 (t354 / 8192) 1) == 1), .int .i64 (Go.bits .and .i64 t354 8191), .int .i64 (wrap64 (rd l0 8)), .int .i64 (wrap64 (rd l0 9)), .int .u32 t360, .int .u32 t361, .slice none 0 0, .slice none 0 0]) ?_ 9 _ rfl; (with_reducible repeat (first | refine blk_drewN ?_ _ | refine blk_drew ?_ | refine blk_alloc ?_ _)); refine blk_put (cs := #[.int .i64 (wrap64 (rd l0 1)), .int .i64 t356, .bool ((Go.bits .and .i64 (t354 / 16384) 1) == 1), .bool ((Go.bits .and .i64 (t354 / 8192) 1) == 1), .int .i64 (Go.bits .and .i64 t354 8191), .int .i64 (wrap64 (rd l0 8)), .int .i64 (wrap64 (rd l0 9)), .int .u32 t360, .int .u32 0, .slice none 0 0, .slice none 0 0]) ?_ 8 _ rfl; (with_reducible repeat (first | refine blk_drewN ?_ _ | refine blk_drew ?_ | refine blk_alloc ?_ _)); refine blk_put (cs := #[.int .i64 (wrap64 (rd l0 1)), .int .i64 t356, .bool ((Go.bits .and .i64 (t354 / 16384) 1) == 1), .bool ((Go.bits .and .i64 (t354 / 8192) 1) == 1), .int .i64 (Go.bits .and .i64 t354 8191), .int .i64 (wrap64 (rd l0 8)), .int .i64 (wrap64 (rd l0 9)), .int .u32 0, .int .u32 0, .slice none 0 0, .slice none 0 0]) ?_ 7 _ rfl; (with_reducible repeat (first | refine blk_drewN ?_ _ | refine blk_drew ?_ | refine blk_alloc ?_ _)); refine blk_put (cs := #[.int .i64 (wrap64 (rd l0 1)), .int .i64 t356, .bool ((Go.bits .and .i64 (t354 / 16384) 1) == 1), .bool ((Go.bits .and .i64 (t354 / 8192) 1) == 1), .int .i64 (Go.bits .and .i64 t354 8191), .int .i64 (wrap64 (rd l0 8)), .int .i64 0, .int .u32 0, .int .u32 0, .slice none 0 0, .slice none 0 0]) ?_ 6 _ rfl; (with_reducible repeat (first | refine blk_drewN ?_ _ | refine blk_drew ?_ | refine blk_alloc ?_ _)); refine blk_put (cs := #[.int .i64 (wrap64 (rd l0 1)), .int .i64 t356, .bool ((Go.bits .and .i64 (t354 / 16384) 1) == 1), .bool ((Go.bits .and .i64 (t354 / 8192) 1) == 1), .int .i64 (Go.bits .and .i64 t354 8191), .int .i64 0, .int .i64 0, .int .u32 0, .int .u32 0, .slice none 0 0, .slice none 0 0]) ?_ 5 _ rfl; (with_reducible repeat (first | refine blk_drewN ?_ _ | refine blk_drew ?_ | refine blk_alloc ?_ _)); refine blk_put (cs := #[.int .i64 (wrap64 (rd l0 1)), .int .i64 t356, .bool ((Go.bits .and .i64 (t354 / 16384) 1) == 1), .bool ((Go.bits .and .i64 (t354 / 8192) 1) == 1), .int .i64 0, .int .i64 0, .int .i64 0, .int .u32 0, .int .u32 0, .slice none 0 0, .slice none 0 0]) ?_ 4 _ rfl; (with_reducible repeat (first | refine blk_drewN ?_ _ | refine blk_drew ?_ | refine blk_alloc ?_ _)); refine blk_put (cs := #[.int .i64 (wrap64 (rd l0 1)), .int .i64 t356, .bool ((Go.bits .and .i64 (t354 / 16384) 1) == 1), .bool false, .int .i64 0, .int .i64 0, .int .i64 0, .int .u32 0, .int .u32 0, .slice none 0 0, .slice none 0 0]) ?_ 3 _ rfl; (with_reducible repeat (first | refine blk_drewN ?_ _ | refine blk_drew ?_ | refine blk_alloc ?_ _)); refine blk_put (cs := #[.int .i64 (wrap64 (rd l0 1)), .int .i64 t356, .bool false, .bool false, .int .i64 0, .int .i64 0, .int .i64 0, .int .u32 0, .int .u32 0, .slice none 0 0, .slice none 0 0]) ?_ 2 _ rfl; (with_reducible repeat (first | refine blk_drewN ?_ _ | refine blk_drew ?_ | refine blk_alloc ?_ _)); refine blk_put (cs := #[.int .i64 (wrap64 (rd l0 1)), .int .i64 0, .bool false, .bool false, .int .i64 0, .int .i64 0, .int .i64 0, .int .u32 0, .int .u32 0, .slice none 0 0, .slice none 0 0]) ?_ 1 _ rfl; (with_reducible repeat (first | refine blk_drewN ?_ _ | refine blk_drew ?_ | refine blk_alloc ?_ _)); refine blk_put (cs := #[.int .i64 0, .int .i64 0, .bool false, .bool false, .int .i64 0, .int .i64 0, .int .i64 0, .int .u32 0, .int .u32 0, .slice none 0 0, .slice none 0 0]) ?_ 0 _ rfl; (with_reducible repeat (first | refine blk_drewN ?_ _ | refine blk_drew ?_ | refine blk_alloc ?_ _)); refine blk_far ?_ NB351_359.out _; (with_reducible repeat (first | refine blk_drewN ?_ _ | refine blk_drew ?_ | refine blk_alloc ?_ _)); refine blk_far ?_ NB351_359.out _; (with_reducible repeat (first | refine blk_drewN ?_ _ | refine blk_drew ?_ | refine blk_alloc ?_ _)); exact BK351.out) Try.underlying26 rfl (by kernel_rfl)) rfl ?_
           exact ⟨_, _, by first | rfl | (simp [errW_none, errW_some] <;> rfl) | (simp only [← hji4, ← hji5]; first | rfl | (simp [errW_none, errW_some] <;> rfl)) | (simp [*, errW_none, errW_some] <;> rfl), by (with_reducible repeat (first | apply Kd.R_alloc | apply Kd.R_drewN | apply Kd.R_drew)); exact Kd.R_mono (Kd.R_far (p := ⟨gb351, 10, none⟩) (Kd.R_far (p := ⟨gb351, 9, none⟩) (Kd.R_far (p := ⟨gb351, 8, none⟩) (Kd.R_far (p := ⟨gb351, 7, none⟩) (Kd.R_far (p := ⟨gb351, 6, none⟩) (Kd.R_far (p := ⟨gb351, 5, none⟩) (Kd.R_far (p := ⟨gb351, 4, none⟩) (Kd.R_far (p := ⟨gb351, 3, none⟩) (Kd.R_far (p := ⟨gb351, 2, none⟩) (Kd.R_far (p := ⟨gb351, 1, none⟩) (Kd.R_far (p := ⟨gb351, 0, none⟩) (Kd.R_far (p := ⟨gb359, 10, none⟩) (Kd.R_far (p := ⟨gb359, 9, none⟩) (Kd.R_types (Kd.R_types HO368.out BK359.out (by decide)) BK351.out (by decide)) (fun _ hk => hk.1.2) (.slice Ao48 y366.length co48)) (fun _ hk => hk.1.2) (.slice Ao50 y373.length co50)) (fun _ hk => hk.2) (.int .i64 (wrap64 (rd l0 1)))) (fun _ hk => hk.2) (.int .i64 t356)) (fun _ hk => hk.2) (.bool ((Go.bits .and .i64 (t354 / 16384) 1) == 1))) (fun _ hk => hk.2) (.bool ((Go.bits .and .i64 (t354 / 8192) 1) == 1))) (fun _ hk => hk.2) (.int .i64 (Go.bits .and .i64 t354 8191))) (fun _ hk => hk.2) (.int .i64 (wrap64 (rd l0 8)))) (fun _ hk => hk.2) (.int .i64 (wrap64 (rd l0 9)))) (fun _ hk => hk.2) (.int .u32 t360)) (fun _ hk => hk.2) (.int .u32 t361)) (fun _ hk => hk.2) (.slice Ao48 y366.length co48)) (fun _ hk => hk.2) (.slice Ao50 y373.length co50)) (fun _ hk => hk.1.1.2), by (with_reducible repeat (first | apply Kd.R_alloc | apply Kd.R_drewN | apply Kd.R_drew)); exact Kd.R_mono (Kd.R_far (p := ⟨gb351, 10, none⟩) (Kd.R_far (p := ⟨gb351, 9, none⟩) (Kd.R_far (p := ⟨gb351, 8, none⟩) (Kd.R_far (p := ⟨gb351, 7, none⟩) (Kd.R_far (p := ⟨gb351, 6, none⟩) (Kd.R_far (p := ⟨gb351, 5, none⟩) (Kd.R_far (p := ⟨gb351, 4, none⟩) (Kd.R_far (p := ⟨gb351, 3, none⟩) (Kd.R_far (p := ⟨gb351, 2, none⟩) (Kd.R_far (p := ⟨gb351, 1, none⟩) (Kd.R_far (p := ⟨gb351, 0, none⟩) (Kd.R_far (p := ⟨gb359, 10, none⟩) (Kd.R_far (p := ⟨gb359, 9, none⟩) (Kd.R_types (Kd.R_types HO375.out BK359.out (by decide)) BK351.out (by decide)) (fun _ hk => hk.1.2) (.slice Ao48 y366.length co48)) (fun _ hk => hk.1.2) (.slice Ao50 y373.length co50)) (fun _ hk => hk.2) (.int .i64 (wrap64 (rd l0 1)))) (fun _ hk => hk.2) (.int .i64 t356)) (fun _ hk => hk.2) (.bool ((Go.bits .and .i64 (t354 / 16384) 1) == 1))) (fun _ hk => hk.2) (.bool ((Go.bits .and .i64 (t354 / 8192) 1) == 1))) (fun _ hk => hk.2) (.int .i64 (Go.bits .and .i64 t354 8191))) (fun _ hk => hk.2) (.int .i64 (wrap64 (rd l0 8)))) (fun _ hk => hk.2) (.int .i64 (wrap64 (rd l0 9)))) (fun _ hk => hk.2) (.int .u32 t360)) (fun _ hk => hk.2) (.int .u32 t361)) (fun _ hk => hk.2) (.slice Ao48 y366.length co48)) (fun _ hk => hk.2) (.slice Ao50 y373.length co50)) (fun _ hk => hk.1.1), by repeat (first | (with_reducible first | exact HB.out | apply below_alloc | apply pw_below_drewN | apply below_drew1 | refine below_set ?_ GE351.out | refine below_set ?_ GE359.out) | exact HB.out)⟩
          ·rw [if_neg c19] at H
           exact absurd H (by simp)
         ·rw [if_neg c18] at H
          exact absurd H (by simp)
        ·rw [if_neg c17] at H
         exact absurd H (by simp)
       ·rw [if_neg c16] at H
        exact absurd H (by simp)
      ·rw [if_neg c15] at H
       exact absurd H (by simp)
     ·rw [if_neg c14] at H
      exact absurd H (by simp)
    ·rw [if_neg c13] at H
     exact absurd H (by simp)
   ·rw [if_neg c10] at H
    exact absurd H (by simp)
  ·rw [if_neg c9] at H
   exact absurd H (by simp)
 ·rw [if_neg c7] at H
  exact absurd H (by simp)

end Go.Proofs.Ytkdibloahkhgoaa.QReplyPackets
