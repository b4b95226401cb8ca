-- written by myprint.py, a program of this session's over the kit's printer
import Derived.Test.YtbpnienknijogaaQIpParsesx0
import Derived.Test.YtbpnienknijogaaQIpParsesx2
import Derived.Test.YtbpnienknijogaaQIpParsesx3
namespace Go.Proofs.Ytbpnienknijogaa.QIpParses
open Go.RowKit Go.Proofs.YtbpnienknijogaaW.PrintWords Go.Proofs.YtbpnienknijogaaW.PrintLast Go.Proofs.YtbpnienknijogaaW.PrintMore
attribute [local go_sem] max2_int min2_int max_two min_two max_three min_three max_four min_four   -- for this text's walks alone
set_option linter.unusedVariables false
set_option linter.unusedSimpArgs false

/-! ### castellanref4_Read: function 51 -/
def castellanref4_Read.f (l0 : List Int) : Option (Int × Int × Bool × Bool × Int × Int × Int × Int × Int × List Int × List Int) := (castellanref4_Header.f l0).bind fun t164 => ((castellanref1_Get16.f l0 2).bind fun t165 => ((castellanref1_Get16.f l0 6).bind fun t166 => (if 1 < (l0.length : Int) then ((castellanref1_Get16.f l0 4).bind fun t168 => (if 8 < (l0.length : Int) then (if 9 < (l0.length : Int) then ((castellanref1_Get32.f l0 12).bind fun t172 => ((castellanref1_Get32.f l0 16).bind fun t173 => ((some (([] : List Int) : List Int)).bind fun y174 => (if 20 ≤ t164 then (if t164 ≤ (l0.length : Int) then (if y174.length + ((l0.take (t164 : Int).toNat).drop 20).length < 140737488355328 then ((some (([] : List Int) : List Int)).bind fun y181 => (if 0 ≤ t164 then (if t164 ≤ (mn (mx t165 t164) (l0.length : Int)) then (if (mn (mx t165 t164) (l0.length : Int)) ≤ (l0.length : Int) then (if y181.length + ((l0.take ((mn (mx t165 t164) (l0.length : Int)) : Int).toNat).drop (t164 : Int).toNat).length < 140737488355328 then (some (wrap64 (rd l0 1), t168, ((Go.bits .and .i64 (t166 / 16384) 1) == 1), ((Go.bits .and .i64 (t166 / 8192) 1) == 1), Go.bits .and .i64 t166 8191, wrap64 (rd l0 8), wrap64 (rd l0 9), t172, t173, (y174 ++ ((l0.take (t164 : Int).toNat).drop 20)), (y181 ++ ((l0.take ((mn (mx t165 t164) (l0.length : Int)) : Int).toNat).drop (t164 : Int).toNat)))) else (none)) else (none)) else (none)) else (none))) else (none)) else (none)) else (none))))) else (none)) else (none))) else (none))))
def castellanref4_Read.T4 : Bool × List (List Nat × List Nat) := (true, [([], []), ([0], [0]), ([1], [1]), ([2], [2]), ([], []), ([4], [4]), ([], []), ([6], [6]), ([7], [7]), ([8], [8]), ([], []), ([10], [10]), ([11], [11]), ([12], [12]), ([], []), ([14], [14]), ([], []), ([16], [16]), ([17], [17]), ([18], [18]), ([], []), ([20], [20]), ([21], [21]), ([22], [22]), ([3, 5, 9, 13, 15, 19, 23], [3, 5, 9, 13, 15, 19, 23]), ([], []), ([25, 24, 5, 0, 1, 2, 3, 4, 5, 6, 7, 8, 9, 10, 11, 12, 13, 14, 15, 16, 17, 18, 19, 20, 21, 22, 23, 24, 25], [24, 25])])
def castellanref4_Read.B4 : List Nat := [0, 1, 3, 7, 0, 16, 0, 64, 192, 448, 0, 1024, 3072, 7168, 0, 16384, 0, 65536, 196608, 458752, 0, 1048576, 3145728, 7340032, 16777215, 0, 67108863]
theorem castellanref4_Read.tab4 : rtab .any (opsOf Try.f51 4) = castellanref4_Read.T4 := by kernel_rfl
theorem castellanref4_Read.bits4 : waitsOk castellanref4_Read.T4.2 castellanref4_Read.B4 = true := by kernel_rfl
def castellanref4_Read.T6 : Bool × List (List Nat × List Nat) := (true, [([], []), ([], []), ([], []), ([1, 2], [1, 2]), ([0, 3], [0, 3]), ([], []), ([], []), ([], []), ([], []), ([6, 7, 8], [6, 7, 8]), ([5, 9, 4], [5, 9]), ([0, 1, 2, 3, 4], []), ([11, 4, 10, 0, 1, 2, 3, 4], [4, 11]), ([0, 1, 2, 3, 4, 5, 6, 7, 8, 9, 10, 11, 12], []), ([13, 10, 12, 0, 1, 2, 3, 4, 5, 6, 7, 8, 9, 10, 11, 12], [10, 13])])
def castellanref4_Read.B6 : List Nat := [0, 0, 0, 6, 15, 0, 0, 0, 0, 448, 1023, 31, 4095, 8191, 16383]
theorem castellanref4_Read.tab6 : rtab .any (opsOf Try.f51 6) = castellanref4_Read.T6 := by kernel_rfl
theorem castellanref4_Read.bits6 : waitsOk castellanref4_Read.T6.2 castellanref4_Read.B6 = true := by kernel_rfl
set_option maxHeartbeats 8000000 in
set_option maxRecDepth 100000 in
theorem castellanref4_Read.calls (A0 : Option Addr) (c0 : Nat) (l0 : List Int) (r1 : Int) (r2 : Int) (r3 : Bool) (r4 : Bool) (r5 : Int) (r6 : Int) (r7 : Int) (r8 : Int) (r9 : Int) (r10 : List Int) (r11 : List Int) (w : World) (hr0 : Kd.C (Kd.int .u8) w A0 l0.length l0) (hc0 : l0.length ≤ c0) (h : castellanref4_Read.f l0 = some (r1, r2, r3, r4, r5, r6, r7, r8, r9, r10, r11)) :
    Calls Try.prog 51 #[.slice A0 l0.length c0] w fun e w' => ∃ v9_ v10_ : Value, e = .returned (.agg #[.int .i64 r1, .int .i64 r2, .bool r3, .bool r4, .int .i64 r5, .int .i64 r6, .int .i64 r7, .int .u32 r8, .int .u32 r9, v9_, v10_]) ∧ Kd.R (Kd.int .u8) 5 w' w.heap.size (fun k_ => some k_ ≠ (v10_ : Value).ownBlock) v9_ r10 ∧ Kd.R (Kd.int .u8) 5 w' w.heap.size (fun k_ => some k_ ≠ (v9_ : Value).ownBlock) v10_ r11 ∧ Below w.heap.size w w' := by
  have hu45 := Try.underlying45
  have HR0 := Aside0.mk hr0
  have HC0 := Aside0.mk hc0
  clear hr0 hc0
  have HB := Aside0.mk (Below.refl w.heap.size w)
  have H : ((castellanref4_Header.f l0).bind fun t164 => ((castellanref1_Get16.f l0 2).bind fun t165 => ((castellanref1_Get16.f l0 6).bind fun t166 => (if 1 < (l0.length : Int) then ((castellanref1_Get16.f l0 4).bind fun t168 => (if 8 < (l0.length : Int) then (if 9 < (l0.length : Int) then ((castellanref1_Get32.f l0 12).bind fun t172 => ((castellanref1_Get32.f l0 16).bind fun t173 => ((some (([] : List Int) : List Int)).bind fun y174 => (if 20 ≤ t164 then (if t164 ≤ (l0.length : Int) then (if y174.length + ((l0.take (t164 : Int).toNat).drop 20).length < 140737488355328 then ((some (([] : List Int) : List Int)).bind fun y181 => (if 0 ≤ t164 then (if t164 ≤ (mn (mx t165 t164) (l0.length : Int)) then (if (mn (mx t165 t164) (l0.length : Int)) ≤ (l0.length : Int) then (if y181.length + ((l0.take ((mn (mx t165 t164) (l0.length : Int)) : Int).toNat).drop (t164 : Int).toNat).length < 140737488355328 then (some (wrap64 (rd l0 1), t168, ((Go.bits .and .i64 (t166 / 16384) 1) == 1), ((Go.bits .and .i64 (t166 / 8192) 1) == 1), Go.bits .and .i64 t166 8191, wrap64 (rd l0 8), wrap64 (rd l0 9), t172, t173, (y174 ++ ((l0.take (t164 : Int).toNat).drop 20)), (y181 ++ ((l0.take ((mn (mx t165 t164) (l0.length : Int)) : Int).toNat).drop (t164 : Int).toNat)))) else (none)) else (none)) else (none)) else (none))) else (none)) else (none)) else (none))))) else (none)) else (none))) else (none))))) = some (r1, r2, r3, r4, r5, r6, r7, r8, r9, r10, r11) := h
  clear h
  replace H := Option.bind_eq_some_iff.mp H
  obtain ⟨t164, A20, H⟩ := H
  replace H : ((castellanref1_Get16.f l0 2).bind fun t165 => ((castellanref1_Get16.f l0 6).bind fun t166 => (if 1 < (l0.length : Int) then ((castellanref1_Get16.f l0 4).bind fun t168 => (if 8 < (l0.length : Int) then (if 9 < (l0.length : Int) then ((castellanref1_Get32.f l0 12).bind fun t172 => ((castellanref1_Get32.f l0 16).bind fun t173 => ((some (([] : List Int) : List Int)).bind fun y174 => (if 20 ≤ t164 then (if t164 ≤ (l0.length : Int) then (if y174.length + ((l0.take (t164 : Int).toNat).drop 20).length < 140737488355328 then ((some (([] : List Int) : List Int)).bind fun y181 => (if 0 ≤ t164 then (if t164 ≤ (mn (mx t165 t164) (l0.length : Int)) then (if (mn (mx t165 t164) (l0.length : Int)) ≤ (l0.length : Int) then (if y181.length + ((l0.take ((mn (mx t165 t164) (l0.length : Int)) : Int).toNat).drop (t164 : Int).toNat).length < 140737488355328 then (some (wrap64 (rd l0 1), t168, ((Go.bits .and .i64 (t166 / 16384) 1) == 1), ((Go.bits .and .i64 (t166 / 8192) 1) == 1), Go.bits .and .i64 t166 8191, wrap64 (rd l0 8), wrap64 (rd l0 9), t172, t173, (y174 ++ ((l0.take (t164 : Int).toNat).drop 20)), (y181 ++ ((l0.take ((mn (mx t165 t164) (l0.length : Int)) : Int).toNat).drop (t164 : Int).toNat)))) else (none)) else (none)) else (none)) else (none))) else (none)) else (none)) else (none))))) else (none)) else (none))) else (none)))) = some (r1, r2, r3, r4, r5, r6, r7, r8, r9, r10, r11) := H
  have A2 := Aside0.mk A20
  clear A20
  replace H := Option.bind_eq_some_iff.mp H
  obtain ⟨t165, A30, H⟩ := H
  replace H : ((castellanref1_Get16.f l0 6).bind fun t166 => (if 1 < (l0.length : Int) then ((castellanref1_Get16.f l0 4).bind fun t168 => (if 8 < (l0.length : Int) then (if 9 < (l0.length : Int) then ((castellanref1_Get32.f l0 12).bind fun t172 => ((castellanref1_Get32.f l0 16).bind fun t173 => ((some (([] : List Int) : List Int)).bind fun y174 => (if 20 ≤ t164 then (if t164 ≤ (l0.length : Int) then (if y174.length + ((l0.take (t164 : Int).toNat).drop 20).length < 140737488355328 then ((some (([] : List Int) : List Int)).bind fun y181 => (if 0 ≤ t164 then (if t164 ≤ (mn (mx t165 t164) (l0.length : Int)) then (if (mn (mx t165 t164) (l0.length : Int)) ≤ (l0.length : Int) then (if y181.length + ((l0.take ((mn (mx t165 t164) (l0.length : Int)) : Int).toNat).drop (t164 : Int).toNat).length < 140737488355328 then (some (wrap64 (rd l0 1), t168, ((Go.bits .and .i64 (t166 / 16384) 1) == 1), ((Go.bits .and .i64 (t166 / 8192) 1) == 1), Go.bits .and .i64 t166 8191, wrap64 (rd l0 8), wrap64 (rd l0 9), t172, t173, (y174 ++ ((l0.take (t164 : Int).toNat).drop 20)), (y181 ++ ((l0.take ((mn (mx t165 t164) (l0.length : Int)) : Int).toNat).drop (t164 : Int).toNat)))) else (none)) else (none)) else (none)) else (none))) else (none)) else (none)) else (none))))) else (none)) else (none))) else (none))) = some (r1, r2, r3, r4, r5, r6, r7, r8, r9, r10, r11) := H
  have A3 := Aside0.mk A30
  clear A30
  obtain ⟨ji4, hji4⟩ : ∃ j_ : Int, (mx t165 t164) = j_ := ⟨_, rfl⟩
  replace H : ((castellanref1_Get16.f l0 6).bind fun t166 => (if 1 < (l0.length : Int) then ((castellanref1_Get16.f l0 4).bind fun t168 => (if 8 < (l0.length : Int) then (if 9 < (l0.length : Int) then ((castellanref1_Get32.f l0 12).bind fun t172 => ((castellanref1_Get32.f l0 16).bind fun t173 => ((some (([] : List Int) : List Int)).bind fun y174 => (if 20 ≤ t164 then (if t164 ≤ (l0.length : Int) then (if y174.length + ((l0.take (t164 : Int).toNat).drop 20).length < 140737488355328 then ((some (([] : List Int) : List Int)).bind fun y181 => (if 0 ≤ t164 then (if t164 ≤ (mn (ji4) (l0.length : Int)) then (if (mn (ji4) (l0.length : Int)) ≤ (l0.length : Int) then (if y181.length + ((l0.take ((mn (ji4) (l0.length : Int)) : Int).toNat).drop (t164 : Int).toNat).length < 140737488355328 then (some (wrap64 (rd l0 1), t168, ((Go.bits .and .i64 (t166 / 16384) 1) == 1), ((Go.bits .and .i64 (t166 / 8192) 1) == 1), Go.bits .and .i64 t166 8191, wrap64 (rd l0 8), wrap64 (rd l0 9), t172, t173, (y174 ++ ((l0.take (t164 : Int).toNat).drop 20)), (y181 ++ ((l0.take ((mn (ji4) (l0.length : Int)) : Int).toNat).drop (t164 : Int).toNat)))) else (none)) else (none)) else (none)) else (none))) else (none)) else (none)) else (none))))) else (none)) else (none))) else (none))) = some (r1, r2, r3, r4, r5, r6, r7, r8, r9, r10, r11) := by first | (rw [hji4] at H; exact H) | (simp only [hji4] at H ⊢; exact H)
  (try rw [hji4] at A2)
  (try rw [hji4] at A3)
  have hji4_ : (if t165 < t164 then t164 else t165) = ji4 := hji4
  obtain ⟨ji5, hji5⟩ : ∃ j_ : Int, (mn (ji4) (l0.length : Int)) = j_ := ⟨_, rfl⟩
  replace H : ((castellanref1_Get16.f l0 6).bind fun t166 => (if 1 < (l0.length : Int) then ((castellanref1_Get16.f l0 4).bind fun t168 => (if 8 < (l0.length : Int) then (if 9 < (l0.length : Int) then ((castellanref1_Get32.f l0 12).bind fun t172 => ((castellanref1_Get32.f l0 16).bind fun t173 => ((some (([] : List Int) : List Int)).bind fun y174 => (if 20 ≤ t164 then (if t164 ≤ (l0.length : Int) then (if y174.length + ((l0.take (t164 : Int).toNat).drop 20).length < 140737488355328 then ((some (([] : List Int) : List Int)).bind fun y181 => (if 0 ≤ t164 then (if t164 ≤ (ji5) then (if (ji5) ≤ (l0.length : Int) then (if y181.length + ((l0.take ((ji5) : Int).toNat).drop (t164 : Int).toNat).length < 140737488355328 then (some (wrap64 (rd l0 1), t168, ((Go.bits .and .i64 (t166 / 16384) 1) == 1), ((Go.bits .and .i64 (t166 / 8192) 1) == 1), Go.bits .and .i64 t166 8191, wrap64 (rd l0 8), wrap64 (rd l0 9), t172, t173, (y174 ++ ((l0.take (t164 : Int).toNat).drop 20)), (y181 ++ ((l0.take ((ji5) : Int).toNat).drop (t164 : Int).toNat)))) else (none)) else (none)) else (none)) else (none))) else (none)) else (none)) else (none))))) else (none)) else (none))) else (none))) = some (r1, r2, r3, r4, r5, r6, r7, r8, r9, r10, r11) := by first | (rw [hji5] at H; exact H) | (simp only [hji5] at H ⊢; exact H)
  (try rw [hji5] at A2)
  (try rw [hji5] at A3)
  have hji5_ : (if (l0.length : Int) < (ji4) then (l0.length : Int) else (ji4)) = ji5 := hji5
  replace H := Option.bind_eq_some_iff.mp H
  obtain ⟨t166, A60, H⟩ := H
  replace H : (if 1 < (l0.length : Int) then ((castellanref1_Get16.f l0 4).bind fun t168 => (if 8 < (l0.length : Int) then (if 9 < (l0.length : Int) then ((castellanref1_Get32.f l0 12).bind fun t172 => ((castellanref1_Get32.f l0 16).bind fun t173 => ((some (([] : List Int) : List Int)).bind fun y174 => (if 20 ≤ t164 then (if t164 ≤ (l0.length : Int) then (if y174.length + ((l0.take (t164 : Int).toNat).drop 20).length < 140737488355328 then ((some (([] : List Int) : List Int)).bind fun y181 => (if 0 ≤ t164 then (if t164 ≤ (ji5) then (if (ji5) ≤ (l0.length : Int) then (if y181.length + ((l0.take ((ji5) : Int).toNat).drop (t164 : Int).toNat).length < 140737488355328 then (some (wrap64 (rd l0 1), t168, ((Go.bits .and .i64 (t166 / 16384) 1) == 1), ((Go.bits .and .i64 (t166 / 8192) 1) == 1), Go.bits .and .i64 t166 8191, wrap64 (rd l0 8), wrap64 (rd l0 9), t172, t173, (y174 ++ ((l0.take (t164 : Int).toNat).drop 20)), (y181 ++ ((l0.take ((ji5) : Int).toNat).drop (t164 : Int).toNat)))) else (none)) else (none)) else (none)) else (none))) else (none)) else (none)) else (none))))) else (none)) else (none))) else (none)) = some (r1, r2, r3, r4, r5, r6, r7, r8, r9, r10, r11) := H
  have A6 := Aside0.mk A60
  clear A60
  by_cases c7 : 1 < (l0.length : Int)
  · rw [if_pos c7] at H
    have c7b0 : decide (1 < (l0.length : Int)) = true := decide_eq_true c7
    have c7b1 : decide (1 < l0.length) = true := decide_eq_true (by omega)
    clear c7
    replace H := Option.bind_eq_some_iff.mp H
    obtain ⟨t168, A80, H⟩ := H
    replace H : (if 8 < (l0.length : Int) then (if 9 < (l0.length : Int) then ((castellanref1_Get32.f l0 12).bind fun t172 => ((castellanref1_Get32.f l0 16).bind fun t173 => ((some (([] : List Int) : List Int)).bind fun y174 => (if 20 ≤ t164 then (if t164 ≤ (l0.length : Int) then (if y174.length + ((l0.take (t164 : Int).toNat).drop 20).length < 140737488355328 then ((some (([] : List Int) : List Int)).bind fun y181 => (if 0 ≤ t164 then (if t164 ≤ (ji5) then (if (ji5) ≤ (l0.length : Int) then (if y181.length + ((l0.take ((ji5) : Int).toNat).drop (t164 : Int).toNat).length < 140737488355328 then (some (wrap64 (rd l0 1), t168, ((Go.bits .and .i64 (t166 / 16384) 1) == 1), ((Go.bits .and .i64 (t166 / 8192) 1) == 1), Go.bits .and .i64 t166 8191, wrap64 (rd l0 8), wrap64 (rd l0 9), t172, t173, (y174 ++ ((l0.take (t164 : Int).toNat).drop 20)), (y181 ++ ((l0.take ((ji5) : Int).toNat).drop (t164 : Int).toNat)))) else (none)) else (none)) else (none)) else (none))) else (none)) else (none)) else (none))))) else (none)) else (none)) = some (r1, r2, r3, r4, r5, r6, r7, r8, r9, r10, r11) := H
    have A8 := Aside0.mk A80
    clear A80
    by_cases c9 : 8 < (l0.length : Int)
    · rw [if_pos c9] at H
      have c9b0 : decide (8 < (l0.length : Int)) = true := decide_eq_true c9
      have c9b1 : decide (8 < l0.length) = true := decide_eq_true (by omega)
      clear c9
      by_cases c10 : 9 < (l0.length : Int)
      · rw [if_pos c10] at H
        have c10b0 : decide (9 < (l0.length : Int)) = true := decide_eq_true c10
        have c10b1 : decide (9 < l0.length) = true := decide_eq_true (by omega)
        clear c10
        replace H := Option.bind_eq_some_iff.mp H
        obtain ⟨t172, A110, H⟩ := H
        replace H : ((castellanref1_Get32.f l0 16).bind fun t173 => ((some (([] : List Int) : List Int)).bind fun y174 => (if 20 ≤ t164 then (if t164 ≤ (l0.length : Int) then (if y174.length + ((l0.take (t164 : Int).toNat).drop 20).length < 140737488355328 then ((some (([] : List Int) : List Int)).bind fun y181 => (if 0 ≤ t164 then (if t164 ≤ (ji5) then (if (ji5) ≤ (l0.length : Int) then (if y181.length + ((l0.take ((ji5) : Int).toNat).drop (t164 : Int).toNat).length < 140737488355328 then (some (wrap64 (rd l0 1), t168, ((Go.bits .and .i64 (t166 / 16384) 1) == 1), ((Go.bits .and .i64 (t166 / 8192) 1) == 1), Go.bits .and .i64 t166 8191, wrap64 (rd l0 8), wrap64 (rd l0 9), t172, t173, (y174 ++ ((l0.take (t164 : Int).toNat).drop 20)), (y181 ++ ((l0.take ((ji5) : Int).toNat).drop (t164 : Int).toNat)))) else (none)) else (none)) else (none)) else (none))) else (none)) else (none)) else (none)))) = some (r1, r2, r3, r4, r5, r6, r7, r8, r9, r10, r11) := H
        have A11 := Aside0.mk A110
        clear A110
        replace H := Option.bind_eq_some_iff.mp H
        obtain ⟨t173, A120, H⟩ := H
        replace H : ((some (([] : List Int) : List Int)).bind fun y174 => (if 20 ≤ t164 then (if t164 ≤ (l0.length : Int) then (if y174.length + ((l0.take (t164 : Int).toNat).drop 20).length < 140737488355328 then ((some (([] : List Int) : List Int)).bind fun y181 => (if 0 ≤ t164 then (if t164 ≤ (ji5) then (if (ji5) ≤ (l0.length : Int) then (if y181.length + ((l0.take ((ji5) : Int).toNat).drop (t164 : Int).toNat).length < 140737488355328 then (some (wrap64 (rd l0 1), t168, ((Go.bits .and .i64 (t166 / 16384) 1) == 1), ((Go.bits .and .i64 (t166 / 8192) 1) == 1), Go.bits .and .i64 t166 8191, wrap64 (rd l0 8), wrap64 (rd l0 9), t172, t173, (y174 ++ ((l0.take (t164 : Int).toNat).drop 20)), (y181 ++ ((l0.take ((ji5) : Int).toNat).drop (t164 : Int).toNat)))) else (none)) else (none)) else (none)) else (none))) else (none)) else (none)) else (none))) = some (r1, r2, r3, r4, r5, r6, r7, r8, r9, r10, r11) := H
        have A12 := Aside0.mk A120
        clear A120
        obtain ⟨y174, hy174⟩ : ∃ y_ : List Int, y_ = (([] : List Int)) := ⟨_, rfl⟩
        replace H : (if 20 ≤ t164 then (if t164 ≤ (l0.length : Int) then (if y174.length + ((l0.take (t164 : Int).toNat).drop 20).length < 140737488355328 then ((some (([] : List Int) : List Int)).bind fun y181 => (if 0 ≤ t164 then (if t164 ≤ (ji5) then (if (ji5) ≤ (l0.length : Int) then (if y181.length + ((l0.take ((ji5) : Int).toNat).drop (t164 : Int).toNat).length < 140737488355328 then (some (wrap64 (rd l0 1), t168, ((Go.bits .and .i64 (t166 / 16384) 1) == 1), ((Go.bits .and .i64 (t166 / 8192) 1) == 1), Go.bits .and .i64 t166 8191, wrap64 (rd l0 8), wrap64 (rd l0 9), t172, t173, (y174 ++ ((l0.take (t164 : Int).toNat).drop 20)), (y181 ++ ((l0.take ((ji5) : Int).toNat).drop (t164 : Int).toNat)))) else (none)) else (none)) else (none)) else (none))) else (none)) else (none)) else (none)) = some (r1, r2, r3, r4, r5, r6, r7, r8, r9, r10, r11) := by first | (rw [hy174]; with_reducible exact H) | (have H2_ := (Option.bind_some _ _).symm.trans H; rw [hy174]; with_reducible exact H2_) | (have H2_ := (Option.bind_some _ _).symm.trans H; with_reducible exact H2_) | with_reducible exact H | (rw [hy174]; exact H) | exact H
        have Ny174 := Aside0.mk hy174
        clear hy174
        by_cases c13 : 20 ≤ t164
        · rw [if_pos c13] at H
          have c13b0 := eq_true c13
          have c13b1 : decide (20 ≤ t164) = true := decide_eq_true c13
          clear c13
          by_cases c14 : t164 ≤ (l0.length : Int)
          · rw [if_pos c14] at H
            have c14b0 := eq_true c14
            have c14b1 : decide (t164 ≤ (l0.length : Int)) = true := decide_eq_true c14
            clear c14
            by_cases c15 : y174.length + ((l0.take (t164 : Int).toNat).drop 20).length < 140737488355328
            · rw [if_pos c15] at H
              have LMc15 := Aside0.mk c15
              clear c15
              obtain ⟨y178, hy178⟩ : ∃ y_ : List Int, y_ = (y174 ++ ((l0.take (t164 : Int).toNat).drop 20)) := ⟨_, rfl⟩
              replace H : ((some (([] : List Int) : List Int)).bind fun y181 => (if 0 ≤ t164 then (if t164 ≤ (ji5) then (if (ji5) ≤ (l0.length : Int) then (if y181.length + ((l0.take ((ji5) : Int).toNat).drop (t164 : Int).toNat).length < 140737488355328 then (some (wrap64 (rd l0 1), t168, ((Go.bits .and .i64 (t166 / 16384) 1) == 1), ((Go.bits .and .i64 (t166 / 8192) 1) == 1), Go.bits .and .i64 t166 8191, wrap64 (rd l0 8), wrap64 (rd l0 9), t172, t173, y178, (y181 ++ ((l0.take ((ji5) : Int).toNat).drop (t164 : Int).toNat)))) else (none)) else (none)) else (none)) else (none))) = some (r1, r2, r3, r4, r5, r6, r7, r8, r9, r10, r11) := by first | (rw [hy178]; with_reducible exact H) | (have H2_ := (Option.bind_some _ _).symm.trans H; rw [hy178]; with_reducible exact H2_) | (have H2_ := (Option.bind_some _ _).symm.trans H; with_reducible exact H2_) | with_reducible exact H | (rw [hy178]; exact H) | exact H
              have Ny178 := Aside0.mk hy178
              clear hy178
              obtain ⟨y181, hy181⟩ : ∃ y_ : List Int, y_ = (([] : List Int)) := ⟨_, rfl⟩
              replace H : (if 0 ≤ t164 then (if t164 ≤ (ji5) then (if (ji5) ≤ (l0.length : Int) then (if y181.length + ((l0.take ((ji5) : Int).toNat).drop (t164 : Int).toNat).length < 140737488355328 then (some (wrap64 (rd l0 1), t168, ((Go.bits .and .i64 (t166 / 16384) 1) == 1), ((Go.bits .and .i64 (t166 / 8192) 1) == 1), Go.bits .and .i64 t166 8191, wrap64 (rd l0 8), wrap64 (rd l0 9), t172, t173, y178, (y181 ++ ((l0.take ((ji5) : Int).toNat).drop (t164 : Int).toNat)))) else (none)) else (none)) else (none)) else (none)) = some (r1, r2, r3, r4, r5, r6, r7, r8, r9, r10, r11) := by first | (rw [hy181]; with_reducible exact H) | (have H2_ := (Option.bind_some _ _).symm.trans H; rw [hy181]; with_reducible exact H2_) | (have H2_ := (Option.bind_some _ _).symm.trans H; with_reducible exact H2_) | with_reducible exact H | (rw [hy181]; exact H) | exact H
              have Ny181 := Aside0.mk hy181
              clear hy181
              by_cases c16 : 0 ≤ t164
              · rw [if_pos c16] at H
                have c16b0 := eq_true c16
                have c16b1 : decide (0 ≤ t164) = true := decide_eq_true c16
                clear c16
                by_cases c17 : t164 ≤ (ji5)
                · rw [if_pos c17] at H
                  have c17b0 := eq_true c17
                  have c17b1 : decide (t164 ≤ (ji5)) = true := decide_eq_true c17
                  clear c17
                  by_cases c18 : (ji5) ≤ (l0.length : Int)
                  · rw [if_pos c18] at H
                    have c18b0 := eq_true c18
                    have c18b1 : decide ((ji5) ≤ (l0.length : Int)) = true := decide_eq_true c18
                    clear c18
                    by_cases c19 : y181.length + ((l0.take ((ji5) : Int).toNat).drop (t164 : Int).toNat).length < 140737488355328
                    · rw [if_pos c19] at H
                      have LMc19 := Aside0.mk c19
                      clear c19
                      obtain ⟨y185, hy185⟩ : ∃ y_ : List Int, y_ = (y181 ++ ((l0.take ((ji5) : Int).toNat).drop (t164 : Int).toNat)) := ⟨_, rfl⟩
                      replace H : (some (wrap64 (rd l0 1), t168, ((Go.bits .and .i64 (t166 / 16384) 1) == 1), ((Go.bits .and .i64 (t166 / 8192) 1) == 1), Go.bits .and .i64 t166 8191, wrap64 (rd l0 8), wrap64 (rd l0 9), t172, t173, y178, y185)) = some (r1, r2, r3, r4, r5, r6, r7, r8, r9, r10, r11) := by first | (rw [hy185]; with_reducible exact H) | (have H2_ := (Option.bind_some _ _).symm.trans H; rw [hy185]; with_reducible exact H2_) | (have H2_ := (Option.bind_some _ _).symm.trans H; with_reducible exact H2_) | with_reducible exact H | (rw [hy185]; exact H) | exact H
                      have Ny185 := Aside0.mk hy185
                      clear hy185
                      simp only [Option.some.injEq, Prod.mk.injEq] at H
                      obtain ⟨rfl, rfl, rfl, rfl, rfl, rfl, rfl, rfl, rfl, rfl, rfl⟩ := H
                      go_enter Try.func51, Try.ntmps51
                      try go_wp2_with (first | ((with_reducible refine gate_dst (N := 2) rfl ?_); refine box_event ?hg (N := 2) ?hd (cs := #[.int .i64 0, .int .i64 0, .bool false, .bool false, .int .i64 0, .int .i64 0, .int .i64 0, .int .u32 0, .int .u32 0, .slice none 0 0, .slice none 0 0]) (t := 45) ?hr ?_; (case hd => rfl); (case hg => rfl); (case hr => first | (go_simp; done) | (go_simp; rfl)); intro gb163 hg w20 hbox hb; have n0_ := Aside0.mk (below_step (by repeat (first | (with_reducible first | exact HB.out | apply below_alloc | apply pw_below_drewN | apply below_drew1) | exact HB.out)) hb); have n1_ := Aside0.mk (hbox); have n2_ := Aside0.mk ((by rw [hg]; exact (below_size (by repeat (first | (with_reducible first | exact HB.out | apply below_alloc | apply pw_below_drewN | apply below_drew1) | exact HB.out))) : w.heap.size ≤ gb163)); have n3_ := Aside0.mk ((by rw [hg]; exact (below_size (by repeat (first | (with_reducible first | exact HB.out | apply below_alloc | apply pw_below_drewN | apply below_drew1) | exact HB.out))) : w.heap.size ≤ gb163)); clear HB; have HB := n0_; have BK163 := n1_; have GW163 := n2_; have GE163 := n3_; clear n0_ n1_ n2_ n3_; clear hb hbox hg) | ((with_reducible refine gate_callee (f := 28) rfl ?_); refine goesL_ (some 8) rfl rfl Try.func28 (by kernel_rfl) rfl #[.slice A0 l0.length c0] rfl (by (try simp only [List.map_toArray, List.map_cons, List.map_nil]); first | done | rfl | (simp only [List.length_drop, List.length_take]; rfl)) ?_; (with_reducible refine (castellanref4_Header.calls _ _ l0 t164 _ ?side1 ?side2 A2.out).mono ?_); (case side1 => repeat (first | exact (Kd.C_below HR0.out HB.out) | (with_reducible refine Kd.C_alloc ?_ _) | (with_reducible refine Kd.C_drewN ?_ _) | (with_reducible refine Kd.C_drew ?_))); (case side2 => exact HC0.out); rintro e w' ⟨rfl, ⟨nd, rfl⟩⟩; refine ⟨_, rfl, ?_⟩; (try (rw [drewN_self w20]; generalize hq_ : World.drewN w20 _ = w20; have n0_ : Aside0 (w20.heap[gb163]? = some (.cells #[.int .i64 0, .int .i64 0, .bool false, .bool false, .int .i64 0, .int .i64 0, .int .i64 0, .int .u32 0, .int .u32 0, .slice none 0 0, .slice none 0 0] 45 (0, 0))) := ⟨by rw [← hq_]; exact (by (with_reducible repeat (first | refine blk_drewN ?_ _ | refine blk_drew ?_ | refine blk_alloc ?_ _)); exact BK163.out)⟩; have n1_ : Aside0 (Below w.heap.size w w20) := ⟨by rw [← hq_]; exact (by repeat (first | (with_reducible first | exact HB.out | apply below_alloc | apply pw_below_drewN | apply below_drew1 | refine below_set ?_ GE163.out) | exact HB.out))⟩; clear BK163 HB hq_; have BK163 := n0_; have HB := n1_; clear n0_ n1_))) | ((with_reducible refine gate_callee (f := 46) rfl ?_); refine goesL_ (some 10) rfl rfl Try.func46 (by kernel_rfl) rfl #[.slice A0 l0.length c0, .int .i64 2] rfl (by (try simp only [List.map_toArray, List.map_cons, List.map_nil]); first | done | rfl | (simp only [List.length_drop, List.length_take]; rfl)) ?_; (with_reducible refine (castellanref1_Get16.calls _ _ l0 2 t165 _ ?side1 ?side2 A3.out).mono ?_); (case side1 => repeat (first | exact (Kd.C_below HR0.out HB.out) | (with_reducible refine Kd.C_alloc ?_ _) | (with_reducible refine Kd.C_drewN ?_ _) | (with_reducible refine Kd.C_drew ?_))); (case side2 => exact HC0.out); rintro e w' ⟨rfl, ⟨nd, rfl⟩⟩; refine ⟨_, rfl, ?_⟩; (try (rw [drewN_self w20]; generalize hq_ : World.drewN w20 _ = w20; have n0_ : Aside0 (w20.heap[gb163]? = some (.cells #[.int .i64 0, .int .i64 0, .bool false, .bool false, .int .i64 0, .int .i64 0, .int .i64 0, .int .u32 0, .int .u32 0, .slice none 0 0, .slice none 0 0] 45 (0, 0))) := ⟨by rw [← hq_]; exact (by (with_reducible repeat (first | refine blk_drewN ?_ _ | refine blk_drew ?_ | refine blk_alloc ?_ _)); exact BK163.out)⟩; have n1_ : Aside0 (Below w.heap.size w w20) := ⟨by rw [← hq_]; exact (by repeat (first | (with_reducible first | exact HB.out | apply below_alloc | apply pw_below_drewN | apply below_drew1 | refine below_set ?_ GE163.out) | exact HB.out))⟩; clear BK163 HB hq_; have BK163 := n0_; have HB := n1_; clear n0_ n1_))) | ((with_reducible refine gate_callee (f := 46) rfl ?_); refine goesL_ (some 17) rfl rfl Try.func46 (by kernel_rfl) rfl #[.slice A0 l0.length c0, .int .i64 6] rfl (by (try simp only [List.map_toArray, List.map_cons, List.map_nil]); first | done | rfl | (simp only [List.length_drop, List.length_take]; rfl)) ?_; (with_reducible refine (castellanref1_Get16.calls _ _ l0 6 t166 _ ?side1 ?side2 A6.out).mono ?_); (case side1 => repeat (first | exact (Kd.C_below HR0.out HB.out) | (with_reducible refine Kd.C_alloc ?_ _) | (with_reducible refine Kd.C_drewN ?_ _) | (with_reducible refine Kd.C_drew ?_))); (case side2 => exact HC0.out); rintro e w' ⟨rfl, ⟨nd, rfl⟩⟩; refine ⟨_, rfl, ?_⟩; (try (rw [drewN_self w20]; generalize hq_ : World.drewN w20 _ = w20; have n0_ : Aside0 (w20.heap[gb163]? = some (.cells #[.int .i64 0, .int .i64 0, .bool false, .bool false, .int .i64 0, .int .i64 0, .int .i64 0, .int .u32 0, .int .u32 0, .slice none 0 0, .slice none 0 0] 45 (0, 0))) := ⟨by rw [← hq_]; exact (by (with_reducible repeat (first | refine blk_drewN ?_ _ | refine blk_drew ?_ | refine blk_alloc ?_ _)); exact BK163.out)⟩; have n1_ : Aside0 (Below w.heap.size w w20) := ⟨by rw [← hq_]; exact (by repeat (first | (with_reducible first | exact HB.out | apply below_alloc | apply pw_below_drewN | apply below_drew1 | refine below_set ?_ GE163.out) | exact HB.out))⟩; clear BK163 HB hq_; have BK163 := n0_; have HB := n1_; clear n0_ n1_))))
                      have n0_ := Aside0.mk (blk_drew BK163.out)
                      have n1_ := Aside0.mk (below_drew1 HB.out)
                      clear BK163
                      clear HB
                      have BK163 := n0_
                      have HB := n1_
                      clear n0_ n1_
                      have p167 : 0 ≤ (1 : Int) := (by omega)
                      have q167 : 1 < (l0.length : Int) := of_decide_eq_true (by first | (with_reducible assumption) | assumption)
                      obtain ⟨ad167, e167, hx167_0⟩ := Kd.at_int HR0.out 1 p167 q167
                      have hw167_0 := hx167_0
                      (try rw [show ((1 : Int)).toNat = 1 from rfl] at hw167_0)
                      (try rw [show 1 * 1 = 1 from rfl] at hw167_0)
                      (try simp only [Nat.reduceMul, Nat.reduceEqDiff, Go.Addr.add, ↓reduceIte] at hw167_0)
                      cases e167
                      (try simp only [show (1 : Int).toNat = 1 from rfl, Nat.reduceMul, Nat.reduceEqDiff, Go.Addr.add, ↓reduceIte] at hx167_0)
                      have qi167 : (1 < l0.length) = True := eq_true (by omega)
                      (try rw [show ((1 : Int)).toNat = 1 from rfl] at hx167_0)
                      replace hx167_0 := (HB.out.cell (World.block_lt_of_cell? w _ hx167_0)).trans hx167_0
                      replace p167 := eq_true p167
                      replace q167 := eq_true q167
                      have p169 : 0 ≤ (8 : Int) := (by omega)
                      have q169 : 8 < (l0.length : Int) := of_decide_eq_true (by first | (with_reducible assumption) | assumption)
                      obtain ⟨ad169, e169, hx169_0⟩ := Kd.at_int HR0.out 8 p169 q169
                      have hw169_0 := hx169_0
                      (try rw [show ((8 : Int)).toNat = 8 from rfl] at hw169_0)
                      (try rw [show 8 * 1 = 8 from rfl] at hw169_0)
                      (try simp only [Nat.reduceMul, Nat.reduceEqDiff, Go.Addr.add, ↓reduceIte] at hw169_0)
                      obtain rfl : ad167 = ad169 := (by injection e169)
                      (try simp only [show (8 : Int).toNat = 8 from rfl, Nat.reduceMul, Nat.reduceEqDiff, Go.Addr.add, ↓reduceIte] at hx169_0)
                      have qi169 : (8 < l0.length) = True := eq_true (by omega)
                      (try rw [show ((8 : Int)).toNat = 8 from rfl] at hx169_0)
                      replace hx169_0 := (HB.out.cell (World.block_lt_of_cell? w _ hx169_0)).trans hx169_0
                      replace p169 := eq_true p169
                      replace q169 := eq_true q169
                      have p170 : 0 ≤ (9 : Int) := (by omega)
                      have q170 : 9 < (l0.length : Int) := of_decide_eq_true (by first | (with_reducible assumption) | assumption)
                      obtain ⟨ad170, e170, hx170_0⟩ := Kd.at_int HR0.out 9 p170 q170
                      have hw170_0 := hx170_0
                      (try rw [show ((9 : Int)).toNat = 9 from rfl] at hw170_0)
                      (try rw [show 9 * 1 = 9 from rfl] at hw170_0)
                      (try simp only [Nat.reduceMul, Nat.reduceEqDiff, Go.Addr.add, ↓reduceIte] at hw170_0)
                      obtain rfl : ad167 = ad170 := (by injection e170)
                      (try simp only [show (9 : Int).toNat = 9 from rfl, Nat.reduceMul, Nat.reduceEqDiff, Go.Addr.add, ↓reduceIte] at hx170_0)
                      have qi170 : (9 < l0.length) = True := eq_true (by omega)
                      (try rw [show ((9 : Int)).toNat = 9 from rfl] at hx170_0)
                      replace hx170_0 := (HB.out.cell (World.block_lt_of_cell? w _ hx170_0)).trans hx170_0
                      replace p170 := eq_true p170
                      replace q170 := eq_true q170
                      refine start_ (n := 27) (S := fun w' => w'.cell? ⟨ad167.block, ad167.off + 1, none⟩ = some (.int .u8 (rd l0 1)) ∧ w'.cell? ⟨ad167.block, ad167.off + 8, none⟩ = some (.int .u8 (rd l0 8)) ∧ w'.cell? ⟨ad167.block, ad167.off + 9, none⟩ = some (.int .u8 (rd l0 9))) (ds := []) #[false, false, false, false, false, false, false, false, false, false, false, false, false, false, false, false, false, false, false, false, false, false, false, false, false, false, false] (by kernel_rfl) rfl rfl ⟨((HB.out.cell (World.block_lt_of_cell? w _ hw167_0)).trans hw167_0), ((HB.out.cell (World.block_lt_of_cell? w _ hw169_0)).trans hw169_0), ((HB.out.cell (World.block_lt_of_cell? w _ hw170_0)).trans hw170_0)⟩ (fun hHeld => ?_); refine with_tabW castellanref4_Read.tab4 castellanref4_Read.bits4 (fun HT_ HW_ => ?_)
                      generalize w20.drew = w21 at BK163 HB hx167_0 hx169_0 hx170_0 hHeld ⊢
                      refine pure_ (i := 0) (N := some 18) (v := ?_) (a' := ?_) #[true, false, false, false, false, false, false, false, false, false, false, false, false, false, false, false, false, false, false, false, false, false, false, false, false, false, false] rfl rfl (any_of HT_.out (by kernel_rfl)) (fun _ _ _ h => h) (Or.inl ⟨by rfl, ?_⟩) ?_ ?_
                      rotate_left
                      · intro w'
                        go_simp
                        with_reducible rfl
                      rotate_left
                      · simp only [Act.put, List.setIfInBounds_toArray, List.set_cons_zero, List.set_cons_succ, i64_w, i32_w]
                        rfl
                      refine pure_ (i := 1) (N := some 19) (v := ?_) (a' := ?_) #[true, true, false, false, false, false, false, false, false, false, false, false, false, false, false, false, false, false, false, false, false, false, false, false, false, false, false] rfl rfl (any_of HT_.out (by kernel_rfl)) (fun _ _ _ h => h) (Or.inl ⟨by rfl, ?_⟩) ?_ ?_
                      rotate_left
                      · intro w'
                        go_simp
                        with_reducible rfl
                      rotate_left
                      · simp only [Act.put, List.setIfInBounds_toArray, List.set_cons_zero, List.set_cons_succ, i64_w, i32_w]
                        rfl
                      refine pure_ (i := 4) (N := some 22) (v := ?_) (a' := ?_) #[true, true, false, false, true, false, false, false, false, false, false, false, false, false, false, false, false, false, false, false, false, false, false, false, false, false, false] rfl rfl (any_of HT_.out (by kernel_rfl)) (fun _ _ _ h => h) (Or.inl ⟨by rfl, ?_⟩) ?_ ?_
                      rotate_left
                      · intro w'
                        go_simp
                        with_reducible rfl
                      rotate_left
                      · simp only [Act.put, List.setIfInBounds_toArray, List.set_cons_zero, List.set_cons_succ, i64_w, i32_w]
                        rfl
                      refine pure_ (i := 6) (N := some 24) (v := ?_) (a' := ?_) #[true, true, false, false, true, false, true, false, false, false, false, false, false, false, false, false, false, false, false, false, false, false, false, false, false, false, false] rfl rfl (any_of HT_.out (by kernel_rfl)) (fun _ _ _ h => h) (Or.inl ⟨by rfl, ?_⟩) ?_ ?_
                      rotate_left
                      · intro w'
                        go_simp
                        with_reducible rfl
                      rotate_left
                      · simp only [Act.put, List.setIfInBounds_toArray, List.set_cons_zero, List.set_cons_succ, i64_w, i32_w]
                        rfl
                      refine pure_ (i := 7) (N := some 25) (v := ?_) (a' := ?_) #[true, true, false, false, true, false, true, true, false, false, false, false, false, false, false, false, false, false, false, false, false, false, false, false, false, false, false] rfl rfl (any_of HT_.out (by kernel_rfl)) (fun _ _ _ h => h) (Or.inl ⟨by rfl, ?_⟩) ?_ ?_
                      rotate_left
                      · intro w'
                        go_simp
                        with_reducible rfl
                      rotate_left
                      · simp only [Act.put, List.setIfInBounds_toArray, List.set_cons_zero, List.set_cons_succ, i64_w, i32_w]
                        rfl
                      refine pure_ (i := 8) (N := some 26) (v := ?_) (a' := ?_) #[true, true, false, false, true, false, true, true, true, false, false, false, false, false, false, false, false, false, false, false, false, false, false, false, false, false, false] rfl rfl (any_of HT_.out (by kernel_rfl)) (fun _ _ _ h => h) (Or.inl ⟨by rfl, ?_⟩) ?_ ?_
                      rotate_left
                      · intro w'
                        go_simp
                        with_reducible rfl
                      rotate_left
                      · simp only [Act.put, List.setIfInBounds_toArray, List.set_cons_zero, List.set_cons_succ, i64_w, i32_w]
                        rfl
                      refine pure_ (i := 9) (N := some 27) (v := ?_) (a' := ?_) #[true, true, false, false, true, false, true, true, true, true, false, false, false, false, false, false, false, false, false, false, false, false, false, false, false, false, false] rfl rfl (any_of HT_.out (by kernel_rfl)) (fun _ _ _ h => h) (Or.inl ⟨by rfl, ?_⟩) ?_ ?_
                      rotate_left
                      · intro w'
                        go_simp
                        with_reducible rfl
                      rotate_left
                      · simp only [Act.put, List.setIfInBounds_toArray, List.set_cons_zero, List.set_cons_succ, i64_w, i32_w]
                        rfl
                      refine pure_ (i := 10) (N := some 28) (v := ?_) (a' := ?_) #[true, true, false, false, true, false, true, true, true, true, true, false, false, false, false, false, false, false, false, false, false, false, false, false, false, false, false] rfl rfl (any_of HT_.out (by kernel_rfl)) (fun _ _ _ h => h) (Or.inl ⟨by rfl, ?_⟩) ?_ ?_
                      rotate_left
                      · intro w'
                        go_simp
                        with_reducible rfl
                      rotate_left
                      · simp only [Act.put, List.setIfInBounds_toArray, List.set_cons_zero, List.set_cons_succ, i64_w, i32_w]
                        rfl
                      refine pure_ (i := 11) (N := some 29) (v := ?_) (a' := ?_) #[true, true, false, false, true, false, true, true, true, true, true, true, false, false, false, false, false, false, false, false, false, false, false, false, false, false, false] rfl rfl (any_of HT_.out (by kernel_rfl)) (fun _ _ _ h => h) (Or.inl ⟨by rfl, ?_⟩) ?_ ?_
                      rotate_left
                      · intro w'
                        go_simp
                        with_reducible rfl
                      rotate_left
                      · simp only [Act.put, List.setIfInBounds_toArray, List.set_cons_zero, List.set_cons_succ, i64_w, i32_w]
                        rfl
                      refine pure_ (i := 12) (N := some 30) (v := ?_) (a' := ?_) #[true, true, false, false, true, false, true, true, true, true, true, true, true, false, false, false, false, false, false, false, false, false, false, false, false, false, false] rfl rfl (any_of HT_.out (by kernel_rfl)) (fun _ _ _ h => h) (Or.inl ⟨by rfl, ?_⟩) ?_ ?_
                      rotate_left
                      · intro w'
                        go_simp
                        with_reducible rfl
                      rotate_left
                      · simp only [Act.put, List.setIfInBounds_toArray, List.set_cons_zero, List.set_cons_succ, i64_w, i32_w]
                        rfl
                      refine pure_ (i := 13) (N := some 31) (v := ?_) (a' := ?_) #[true, true, false, false, true, false, true, true, true, true, true, true, true, true, false, false, false, false, false, false, false, false, false, false, false, false, false] rfl rfl (any_of HT_.out (by kernel_rfl)) (fun _ _ _ h => h) (Or.inl ⟨by rfl, ?_⟩) ?_ ?_
                      rotate_left
                      · intro w'
                        go_simp
                        with_reducible rfl
                      rotate_left
                      · simp only [Act.put, List.setIfInBounds_toArray, List.set_cons_zero, List.set_cons_succ, i64_w, i32_w]
                        rfl
                      refine pure_ (i := 14) (N := some 32) (v := ?_) (a' := ?_) #[true, true, false, false, true, false, true, true, true, true, true, true, true, true, true, false, false, false, false, false, false, false, false, false, false, false, false] rfl rfl (any_of HT_.out (by kernel_rfl)) (fun _ _ _ h => h) (Or.inl ⟨by rfl, ?_⟩) ?_ ?_
                      rotate_left
                      · intro w'
                        go_simp
                        with_reducible rfl
                      rotate_left
                      · simp only [Act.put, List.setIfInBounds_toArray, List.set_cons_zero, List.set_cons_succ, i64_w, i32_w]
                        rfl
                      refine pure_ (i := 15) (N := some 33) (v := ?_) (a' := ?_) #[true, true, false, false, true, false, true, true, true, true, true, true, true, true, true, true, false, false, false, false, false, false, false, false, false, false, false] rfl rfl (any_of HT_.out (by kernel_rfl)) (fun _ _ _ h => h) (Or.inl ⟨by rfl, ?_⟩) ?_ ?_
                      rotate_left
                      · intro w'
                        go_simp
                        with_reducible rfl
                      rotate_left
                      · simp only [Act.put, List.setIfInBounds_toArray, List.set_cons_zero, List.set_cons_succ, i64_w, i32_w]
                        rfl
                      refine pure_ (i := 16) (N := some 34) (v := ?_) (a' := ?_) #[true, true, false, false, true, false, true, true, true, true, true, true, true, true, true, true, true, false, false, false, false, false, false, false, false, false, false] rfl rfl (any_of HT_.out (by kernel_rfl)) (fun _ _ _ h => h) (Or.inl ⟨by rfl, ?_⟩) ?_ ?_
                      rotate_left
                      · intro w'
                        go_simp
                        with_reducible rfl
                      rotate_left
                      · simp only [Act.put, List.setIfInBounds_toArray, List.set_cons_zero, List.set_cons_succ, i64_w, i32_w]
                        rfl
                      refine pure_ (i := 17) (N := some 35) (v := ?_) (a' := ?_) #[true, true, false, false, true, false, true, true, true, true, true, true, true, true, true, true, true, true, false, false, false, false, false, false, false, false, false] rfl rfl (any_of HT_.out (by kernel_rfl)) (fun _ _ _ h => h) (Or.inl ⟨by rfl, ?_⟩) ?_ ?_
                      rotate_left
                      · intro w'
                        go_simp
                        with_reducible rfl
                      rotate_left
                      · simp only [Act.put, List.setIfInBounds_toArray, List.set_cons_zero, List.set_cons_succ, i64_w, i32_w]
                        rfl
                      refine pure_ (i := 20) (N := some 38) (v := ?_) (a' := ?_) #[true, true, false, false, true, false, true, true, true, true, true, true, true, true, true, true, true, true, false, false, true, false, false, false, false, false, false] rfl rfl (any_of HT_.out (by kernel_rfl)) (fun _ _ _ h => h) (Or.inl ⟨by rfl, ?_⟩) ?_ ?_
                      rotate_left
                      · intro w'
                        go_simp
                        with_reducible rfl
                      rotate_left
                      · simp only [Act.put, List.setIfInBounds_toArray, List.set_cons_zero, List.set_cons_succ, i64_w, i32_w]
                        rfl
                      refine pure_ (i := 21) (N := some 39) (v := ?_) (a' := ?_) #[true, true, false, false, true, false, true, true, true, true, true, true, true, true, true, true, true, true, false, false, true, true, false, false, false, false, false] rfl rfl (any_of HT_.out (by kernel_rfl)) (fun _ _ _ h => h) (Or.inl ⟨by rfl, ?_⟩) ?_ ?_
                      rotate_left
                      · intro w'
                        go_simp
                        with_reducible rfl
                      rotate_left
                      · simp only [Act.put, List.setIfInBounds_toArray, List.set_cons_zero, List.set_cons_succ, i64_w, i32_w]
                        rfl
                      refine take_ (i := 2) (N := some 20) (v := ?_) (a' := ?_) #[true, true, true, false, true, false, true, true, true, true, true, true, true, true, true, true, true, true, false, false, true, true, false, false, false, false, false] rfl rfl (take_ofW HT_.out HW_.out (by kernel_rfl)) (fun _ _ _ h => h) (Or.inl ⟨by rfl, ?_⟩) hHeld ?_ ?_
                      rotate_left
                      · rintro w' ⟨s0, s1, s2⟩
                        go_simp
                        with_reducible rfl
                      rotate_left
                      · simp only [Act.put, List.setIfInBounds_toArray, List.set_cons_zero, List.set_cons_succ, i64_w, i32_w]
                        rfl
                      refine pure_ (i := 3) (N := some 21) (v := ?_) (a' := ?_) #[true, true, true, true, true, false, true, true, true, true, true, true, true, true, true, true, true, true, false, false, true, true, false, false, false, false, false] rfl rfl (any_of HT_.out (by kernel_rfl)) (fun _ _ _ h => h) (Or.inl ⟨by rfl, ?_⟩) ?_ ?_
                      rotate_left
                      · intro w'
                        go_simp
                        with_reducible rfl
                      rotate_left
                      · simp only [Act.put, List.setIfInBounds_toArray, List.set_cons_zero, List.set_cons_succ, i64_w, i32_w]
                        rfl
                      refine take_ (i := 18) (N := some 36) (v := ?_) (a' := ?_) #[true, true, true, true, true, false, true, true, true, true, true, true, true, true, true, true, true, true, true, false, true, true, false, false, false, false, false] rfl rfl (take_ofW HT_.out HW_.out (by kernel_rfl)) (fun _ _ _ h => h) (Or.inl ⟨by rfl, ?_⟩) hHeld ?_ ?_
                      rotate_left
                      · rintro w' ⟨s0, s1, s2⟩
                        go_simp
                        with_reducible rfl
                      rotate_left
                      · simp only [Act.put, List.setIfInBounds_toArray, List.set_cons_zero, List.set_cons_succ, i64_w, i32_w]
                        rfl
                      refine pure_ (i := 19) (N := some 37) (v := ?_) (a' := ?_) #[true, true, true, true, true, false, true, true, true, true, true, true, true, true, true, true, true, true, true, true, true, true, false, false, false, false, false] rfl rfl (any_of HT_.out (by kernel_rfl)) (fun _ _ _ h => h) (Or.inl ⟨by rfl, ?_⟩) ?_ ?_
                      rotate_left
                      · intro w'
                        go_simp
                        with_reducible rfl
                      rotate_left
                      · simp only [Act.put, List.setIfInBounds_toArray, List.set_cons_zero, List.set_cons_succ, i64_w, i32_w]
                        rfl
                      refine take_ (i := 22) (N := some 40) (v := ?_) (a' := ?_) #[true, true, true, true, true, false, true, true, true, true, true, true, true, true, true, true, true, true, true, true, true, true, true, false, false, false, false] rfl rfl (take_ofW HT_.out HW_.out (by kernel_rfl)) (fun _ _ _ h => h) (Or.inl ⟨by rfl, ?_⟩) hHeld ?_ ?_
                      rotate_left
                      · rintro w' ⟨s0, s1, s2⟩
                        go_simp
                        with_reducible rfl
                      rotate_left
                      · simp only [Act.put, List.setIfInBounds_toArray, List.set_cons_zero, List.set_cons_succ, i64_w, i32_w]
                        rfl
                      refine pure_ (i := 23) (N := some 41) (v := ?_) (a' := ?_) #[true, true, true, true, true, false, true, true, true, true, true, true, true, true, true, true, true, true, true, true, true, true, true, true, false, false, false] rfl rfl (any_of HT_.out (by kernel_rfl)) (fun _ _ _ h => h) (Or.inl ⟨by rfl, ?_⟩) ?_ ?_
                      rotate_left
                      · intro w'
                        go_simp
                        with_reducible rfl
                      rotate_left
                      · simp only [Act.put, List.setIfInBounds_toArray, List.set_cons_zero, List.set_cons_succ, i64_w, i32_w]
                        rfl
                      refine join_ (σ := Nat) 1 #[true, true, true, true, true, true, true, true, true, true, true, true, true, true, true, true, true, true, true, true, true, true, true, true, true, true, false] (fun s_ => [(23, .int .i64 t168), (6, .pointer (some ⟨s_, 0, none⟩)), (42, .agg #[.int .i64 (wrap64 (rd l0 1)), .int .i64 t168, .bool ((Go.bits .and .i64 (t166 / 16384) 1) == 1), .bool ((Go.bits .and .i64 (t166 / 8192) 1) == 1), .int .i64 (Go.bits .and .i64 t166 8191), .int .i64 (wrap64 (rd l0 8)), .int .i64 (wrap64 (rd l0 9)), .int .u32 0, .int .u32 0, .slice none 0 0, .slice none 0 0])]) (fun s_ w' => (w'.cell? ⟨ad167.block, ad167.off + 1, none⟩ = some (.int .u8 (rd l0 1)) ∧ w'.cell? ⟨ad167.block, ad167.off + 8, none⟩ = some (.int .u8 (rd l0 8)) ∧ w'.cell? ⟨ad167.block, ad167.off + 9, none⟩ = some (.int .u8 (rd l0 9))) ∧ (w'.heap[gb163]? = some (.cells #[.int .i64 0, .int .i64 0, .bool false, .bool false, .int .i64 0, .int .i64 0, .int .i64 0, .int .u32 0, .int .u32 0, .slice none 0 0, .slice none 0 0] 45 (0, 0))) ∧ (w'.heap[s_]? = some (.cells #[.int .i64 0, .int .i64 0, .bool false, .bool false, .int .i64 0, .int .i64 0, .int .i64 0, .int .u32 0, .int .u32 0, .slice none 0 0, .slice none 0 0] 45 (0, 0))) ∧ (w.heap.size ≤ s_) ∧ (w.heap.size ≤ s_) ∧ (gb163 ≠ s_) ∧ (s_ ≠ gb163) ∧ (Below w.heap.size w w')) ?_ ?_
                      rotate_left
                      · intro hCont
                        refine two_ (i := 5) (j := 25) (Ni := some 23) (Nj := some 6) #[true, true, true, true, true, true, true, true, true, true, true, true, true, true, true, true, true, true, true, true, true, true, true, true, false, false, false] #[true, true, true, true, true, false, true, true, true, true, true, true, true, true, true, true, true, true, true, true, true, true, true, true, false, true, false] rfl rfl rfl rfl (two_of HT_.out (by kernel_rfl)) (by decide) (by decide) (fun K hK => ?_) (fun K hK => ?_)
                        · skip
                          refine goes_ Try.func46 (by kernel_rfl) rfl #[.slice (some ad167) l0.length c0, .int .i64 4] (by rfl) rfl rfl (by (try simp only [List.map_toArray, List.map_cons, List.map_nil]); first | done | rfl | (simp only [List.length_drop, List.length_take]; rfl)) ?_
                          with_reducible refine (castellanref1_Get16.calls _ _ l0 4 t168 _ ?side1 ?side2 A8.out).mono ?_
                          (case side1 => repeat (first | exact (Kd.C_below HR0.out HB.out) | (with_reducible refine Kd.C_alloc ?_ _) | (with_reducible refine Kd.C_drewN ?_ _) | (with_reducible refine Kd.C_drew ?_)))
                          (case side2 => exact HC0.out)
                          rintro e w' ⟨rfl, ⟨nd, rfl⟩⟩
                          refine ⟨_, rfl, ?_⟩
                          refine hK.out _ _ ⟨((HB.out.cell (World.block_lt_of_cell? w _ hw167_0)).trans hw167_0), ((HB.out.cell (World.block_lt_of_cell? w _ hw169_0)).trans hw169_0), ((HB.out.cell (World.block_lt_of_cell? w _ hw170_0)).trans hw170_0)⟩ (fun hHeld => ?_)
                          clear hK K
                          refine norm_ (a' := ?_) ?_ ?_
                          rotate_left
                          · show Act.put _ (some 23) _ = _
                            simp only [Act.put, List.setIfInBounds_toArray, List.set_cons_zero, List.set_cons_succ, i64_w, i32_w]
                            rfl
                          refine pure_ (i := 24) (N := some 42) (v := ?_) (a' := ?_) #[true, true, true, true, true, true, true, true, true, true, true, true, true, true, true, true, true, true, true, true, true, true, true, true, true, false, false] rfl rfl (any_of HT_.out (by kernel_rfl)) (fun _ _ _ h => h) (Or.inl ⟨by rfl, ?_⟩) ?_ ?_
                          rotate_left
                          · intro w'
                            go_simp
                            with_reducible rfl
                          rotate_left
                          · simp only [Act.put, List.setIfInBounds_toArray, List.set_cons_zero, List.set_cons_succ, i64_w, i32_w]
                            rfl
                          refine one_ (i := 25) (N := some 6) #[true, true, true, true, true, true, true, true, true, true, true, true, true, true, true, true, true, true, true, true, true, true, true, true, true, true, false] rfl rfl (one_of HT_.out (by kernel_rfl)) (by decide) (fun K hK => ?_)
                          refine box_step ?hg (N := 6) ?hd (cs := #[.int .i64 0, .int .i64 0, .bool false, .bool false, .int .i64 0, .int .i64 0, .int .i64 0, .int .u32 0, .int .u32 0, .slice none 0 0, .slice none 0 0]) (t := 45) ?hr ?_; (case hd => rfl); (case hg => rfl); (case hr => first | (go_simp; done) | (go_simp; rfl))
                          intro gb171 hg w22 hbox hb
                          have n0_ := Aside0.mk (blk_below (g := gb163) (o := .cells #[.int .i64 0, .int .i64 0, .bool false, .bool false, .int .i64 0, .int .i64 0, .int .i64 0, .int .u32 0, .int .u32 0, .slice none 0 0, .slice none 0 0] 45 (0, 0)) (by (with_reducible repeat (first | refine blk_drewN ?_ _ | refine blk_drew ?_ | refine blk_alloc ?_ _)); exact BK163.out) hb)
                          have n1_ := Aside0.mk (below_step (by repeat (first | (with_reducible first | exact HB.out | apply below_alloc | apply pw_below_drewN | apply below_drew1 | refine below_set ?_ GE163.out) | exact HB.out)) hb)
                          have n2_ := Aside0.mk (hbox)
                          have n3_ := Aside0.mk ((by rw [hg]; exact (below_size (by repeat (first | (with_reducible first | exact HB.out | apply below_alloc | apply pw_below_drewN | apply below_drew1 | refine below_set ?_ GE163.out) | exact HB.out))) : w.heap.size ≤ gb171))
                          have n4_ := Aside0.mk ((by rw [hg]; exact (below_size (by repeat (first | (with_reducible first | exact HB.out | apply below_alloc | apply pw_below_drewN | apply below_drew1 | refine below_set ?_ GE163.out) | exact HB.out))) : w.heap.size ≤ gb171))
                          have n5_ := Aside0.mk ((by rw [hg]; exact Nat.ne_of_lt (blk_lt (g := gb163) (o := .cells #[.int .i64 0, .int .i64 0, .bool false, .bool false, .int .i64 0, .int .i64 0, .int .i64 0, .int .u32 0, .int .u32 0, .slice none 0 0, .slice none 0 0] 45 (0, 0)) (by (with_reducible repeat (first | refine blk_drewN ?_ _ | refine blk_drew ?_ | refine blk_alloc ?_ _)); exact BK163.out)) : gb163 ≠ gb171))
                          have n6_ := Aside0.mk ((by rw [hg]; exact Nat.ne_of_gt (blk_lt (g := gb163) (o := .cells #[.int .i64 0, .int .i64 0, .bool false, .bool false, .int .i64 0, .int .i64 0, .int .i64 0, .int .u32 0, .int .u32 0, .slice none 0 0, .slice none 0 0] 45 (0, 0)) (by (with_reducible repeat (first | refine blk_drewN ?_ _ | refine blk_drew ?_ | refine blk_alloc ?_ _)); exact BK163.out)) : gb171 ≠ gb163))
                          clear BK163
                          clear HB
                          have BK163 := n0_
                          have HB := n1_
                          have BK171 := n2_
                          have GW171 := n3_
                          have GE171 := n4_
                          have NB163_171 := n5_
                          have NB171_163 := n6_
                          clear n0_ n1_ n2_ n3_ n4_ n5_ n6_
                          clear hb hbox hg
                          refine hK.out _ _ ⟨((HB.out.cell (World.block_lt_of_cell? w _ hw167_0)).trans hw167_0), ((HB.out.cell (World.block_lt_of_cell? w _ hw169_0)).trans hw169_0), ((HB.out.cell (World.block_lt_of_cell? w _ hw170_0)).trans hw170_0)⟩ (fun hHeld => ?_)
                          clear hK K
                          refine norm_ (a' := ?_) ?_ ?_
                          rotate_left
                          · show Act.put _ (some 6) _ = _
                            simp only [Act.put, List.setIfInBounds_toArray, List.set_cons_zero, List.set_cons_succ, i64_w, i32_w]
                            rfl
                          exact norm_ (by simp only [putAll, Act.put, List.setIfInBounds_toArray, List.set_cons_zero, List.set_cons_succ]) (hCont (gb171) _ ⟨hHeld, (by (with_reducible repeat (first | refine blk_drewN ?_ _ | refine blk_drew ?_ | refine blk_alloc ?_ _)); exact BK163.out), (by (with_reducible repeat (first | refine blk_drewN ?_ _ | refine blk_drew ?_ | refine blk_alloc ?_ _)); exact BK171.out), GW171.out, GE171.out, NB163_171.out, NB171_163.out, (by repeat (first | (with_reducible first | exact HB.out | apply below_alloc | apply pw_below_drewN | apply below_drew1 | refine below_set ?_ GE163.out | refine below_set ?_ GE171.out) | exact HB.out))⟩)
                        · skip
                          refine box_step ?hg (N := 6) ?hd (cs := #[.int .i64 0, .int .i64 0, .bool false, .bool false, .int .i64 0, .int .i64 0, .int .i64 0, .int .u32 0, .int .u32 0, .slice none 0 0, .slice none 0 0]) (t := 45) ?hr ?_; (case hd => rfl); (case hg => rfl); (case hr => first | (go_simp; done) | (go_simp; rfl))
                          intro gb171 hg w22 hbox hb
                          have n0_ := Aside0.mk (blk_below (g := gb163) (o := .cells #[.int .i64 0, .int .i64 0, .bool false, .bool false, .int .i64 0, .int .i64 0, .int .i64 0, .int .u32 0, .int .u32 0, .slice none 0 0, .slice none 0 0] 45 (0, 0)) (by (with_reducible repeat (first | refine blk_drewN ?_ _ | refine blk_drew ?_ | refine blk_alloc ?_ _)); exact BK163.out) hb)
                          have n1_ := Aside0.mk (below_step (by repeat (first | (with_reducible first | exact HB.out | apply below_alloc | apply pw_below_drewN | apply below_drew1 | refine below_set ?_ GE163.out) | exact HB.out)) hb)
                          have n2_ := Aside0.mk (hbox)
                          have n3_ := Aside0.mk ((by rw [hg]; exact (below_size (by repeat (first | (with_reducible first | exact HB.out | apply below_alloc | apply pw_below_drewN | apply below_drew1 | refine below_set ?_ GE163.out) | exact HB.out))) : w.heap.size ≤ gb171))
                          have n4_ := Aside0.mk ((by rw [hg]; exact (below_size (by repeat (first | (with_reducible first | exact HB.out | apply below_alloc | apply pw_below_drewN | apply below_drew1 | refine below_set ?_ GE163.out) | exact HB.out))) : w.heap.size ≤ gb171))
                          have n5_ := Aside0.mk ((by rw [hg]; exact Nat.ne_of_lt (blk_lt (g := gb163) (o := .cells #[.int .i64 0, .int .i64 0, .bool false, .bool false, .int .i64 0, .int .i64 0, .int .i64 0, .int .u32 0, .int .u32 0, .slice none 0 0, .slice none 0 0] 45 (0, 0)) (by (with_reducible repeat (first | refine blk_drewN ?_ _ | refine blk_drew ?_ | refine blk_alloc ?_ _)); exact BK163.out)) : gb163 ≠ gb171))
                          have n6_ := Aside0.mk ((by rw [hg]; exact Nat.ne_of_gt (blk_lt (g := gb163) (o := .cells #[.int .i64 0, .int .i64 0, .bool false, .bool false, .int .i64 0, .int .i64 0, .int .i64 0, .int .u32 0, .int .u32 0, .slice none 0 0, .slice none 0 0] 45 (0, 0)) (by (with_reducible repeat (first | refine blk_drewN ?_ _ | refine blk_drew ?_ | refine blk_alloc ?_ _)); exact BK163.out)) : gb171 ≠ gb163))
                          clear BK163
                          clear HB
                          have BK163 := n0_
                          have HB := n1_
                          have BK171 := n2_
                          have GW171 := n3_
                          have GE171 := n4_
                          have NB163_171 := n5_
                          have NB171_163 := n6_
                          clear n0_ n1_ n2_ n3_ n4_ n5_ n6_
                          clear hb hbox hg
                          refine hK.out _ _ ⟨((HB.out.cell (World.block_lt_of_cell? w _ hw167_0)).trans hw167_0), ((HB.out.cell (World.block_lt_of_cell? w _ hw169_0)).trans hw169_0), ((HB.out.cell (World.block_lt_of_cell? w _ hw170_0)).trans hw170_0)⟩ (fun hHeld => ?_)
                          clear hK K
                          refine norm_ (a' := ?_) ?_ ?_
                          rotate_left
                          · show Act.put _ (some 6) _ = _
                            simp only [Act.put, List.setIfInBounds_toArray, List.set_cons_zero, List.set_cons_succ, i64_w, i32_w]
                            rfl
                          refine one_ (i := 5) (N := some 23) #[true, true, true, true, true, true, true, true, true, true, true, true, true, true, true, true, true, true, true, true, true, true, true, true, false, true, false] rfl rfl (one_of HT_.out (by kernel_rfl)) (by decide) (fun K hK => ?_)
                          refine goes_ Try.func46 (by kernel_rfl) rfl #[.slice (some ad167) l0.length c0, .int .i64 4] (by rfl) rfl rfl (by (try simp only [List.map_toArray, List.map_cons, List.map_nil]); first | done | rfl | (simp only [List.length_drop, List.length_take]; rfl)) ?_
                          with_reducible refine (castellanref1_Get16.calls _ _ l0 4 t168 _ ?side1 ?side2 A8.out).mono ?_
                          (case side1 => repeat (first | exact (Kd.C_below HR0.out HB.out) | (with_reducible refine Kd.C_alloc ?_ _) | (with_reducible refine Kd.C_drewN ?_ _) | (with_reducible refine Kd.C_drew ?_)))
                          (case side2 => exact HC0.out)
                          rintro e w' ⟨rfl, ⟨nd, rfl⟩⟩
                          refine ⟨_, rfl, ?_⟩
                          refine hK.out _ _ ⟨((HB.out.cell (World.block_lt_of_cell? w _ hw167_0)).trans hw167_0), ((HB.out.cell (World.block_lt_of_cell? w _ hw169_0)).trans hw169_0), ((HB.out.cell (World.block_lt_of_cell? w _ hw170_0)).trans hw170_0)⟩ (fun hHeld => ?_)
                          clear hK K
                          refine norm_ (a' := ?_) ?_ ?_
                          rotate_left
                          · show Act.put _ (some 23) _ = _
                            simp only [Act.put, List.setIfInBounds_toArray, List.set_cons_zero, List.set_cons_succ, i64_w, i32_w]
                            rfl
                          refine pure_ (i := 24) (N := some 42) (v := ?_) (a' := ?_) #[true, true, true, true, true, true, true, true, true, true, true, true, true, true, true, true, true, true, true, true, true, true, true, true, true, true, false] rfl rfl (any_of HT_.out (by kernel_rfl)) (fun _ _ _ h => h) (Or.inl ⟨by rfl, ?_⟩) ?_ ?_
                          rotate_left
                          · intro w'
                            go_simp
                            with_reducible rfl
                          rotate_left
                          · simp only [Act.put, List.setIfInBounds_toArray, List.set_cons_zero, List.set_cons_succ, i64_w, i32_w]
                            rfl
                          exact norm_ (by simp only [putAll, Act.put, List.setIfInBounds_toArray, List.set_cons_zero, List.set_cons_succ]) (hCont (gb171) _ ⟨hHeld, (by (with_reducible repeat (first | refine blk_drewN ?_ _ | refine blk_drew ?_ | refine blk_alloc ?_ _)); exact BK163.out), (by (with_reducible repeat (first | refine blk_drewN ?_ _ | refine blk_drew ?_ | refine blk_alloc ?_ _)); exact BK171.out), GW171.out, GE171.out, NB163_171.out, NB171_163.out, (by repeat (first | (with_reducible first | exact HB.out | apply below_alloc | apply pw_below_drewN | apply below_drew1 | refine below_set ?_ GE163.out | refine below_set ?_ GE171.out) | exact HB.out))⟩)
                      rintro gb171 w23 ⟨hS_, h0_, h1_, h2_, h3_, h4_, h5_, h6_⟩
                      have n0_ : Aside0 (w23.heap[gb163]? = some (.cells #[.int .i64 0, .int .i64 0, .bool false, .bool false, .int .i64 0, .int .i64 0, .int .i64 0, .int .u32 0, .int .u32 0, .slice none 0 0, .slice none 0 0] 45 (0, 0))) := ⟨h0_⟩
                      have n1_ : Aside0 (w23.heap[gb171]? = some (.cells #[.int .i64 0, .int .i64 0, .bool false, .bool false, .int .i64 0, .int .i64 0, .int .i64 0, .int .u32 0, .int .u32 0, .slice none 0 0, .slice none 0 0] 45 (0, 0))) := ⟨h1_⟩
                      have n2_ : Aside0 (w.heap.size ≤ gb171) := ⟨h2_⟩
                      have n3_ : Aside0 (w.heap.size ≤ gb171) := ⟨h3_⟩
                      have n4_ : Aside0 (gb163 ≠ gb171) := ⟨h4_⟩
                      have n5_ : Aside0 (gb171 ≠ gb163) := ⟨h5_⟩
                      have n6_ : Aside0 (Below w.heap.size w w23) := ⟨h6_⟩
                      clear BK163
                      clear HB
                      clear h0_ h1_ h2_ h3_ h4_ h5_ h6_
                      have BK163 := n0_
                      have BK171 := n1_
                      have GW171 := n2_
                      have GE171 := n3_
                      have NB163_171 := n4_
                      have NB171_163 := n5_
                      have HB := n6_
                      clear n0_ n1_ n2_ n3_ n4_ n5_ n6_
                      have hHeld : w23.cell? ⟨ad167.block, ad167.off + 1, none⟩ = some (.int .u8 (rd l0 1)) ∧ w23.cell? ⟨ad167.block, ad167.off + 8, none⟩ = some (.int .u8 (rd l0 8)) ∧ w23.cell? ⟨ad167.block, ad167.off + 9, none⟩ = some (.int .u8 (rd l0 9)) := hS_
                      refine norm_ (a' := ?_) ?_ ?_
                      rotate_left
                      · simp only [putAll, Act.put, List.setIfInBounds_toArray, List.set_cons_zero, List.set_cons_succ]
                        rfl
                      refine one_ (i := 26) (N := none) #[true, true, true, true, true, true, true, true, true, true, true, true, true, true, true, true, true, true, true, true, true, true, true, true, true, true, true] rfl rfl (one_of HT_.out (by kernel_rfl)) (by decide) (fun K hK => ?_)
                      have HO := Aside0.mk (Owns.two (t := 45) (t' := 45) HB.out BK171.out BK163.out GE171.out GE163.out NB171_163.out (by decide) (by decide))
                      refine ow_put_step HO (by rfl) rfl 0 rfl (ty := 45) rfl _ rfl rfl (by kernel_rfl) rfl rfl (fun w1 HO1_ => ?_)
                      clear HO
                      have HO := HO1_
                      clear HO1_
                      simp only [List.set_cons_zero, List.set_cons_succ, List.setIfInBounds_toArray] at HO
                      refine hK.out _ _ ⟨((HO.out.below.cell (World.block_lt_of_cell? w _ hw167_0)).trans hw167_0), ((HO.out.below.cell (World.block_lt_of_cell? w _ hw169_0)).trans hw169_0), ((HO.out.below.cell (World.block_lt_of_cell? w _ hw170_0)).trans hw170_0)⟩ (fun hHeld => ?_)
                      clear hK K BK171 BK163 HB
                      refine done_ (done_of HT_.out (by kernel_rfl)) ?_
                      have HF := HO.out.facts; simp only [OwnsM.Facts, and_true] at HF
                      go_wp2_with (first | ((with_reducible refine gate_callee (f := 62) rfl ?_); refine goesL_ (some 44) rfl rfl Try.func62 (by kernel_rfl) rfl #[.slice (some ad167) l0.length c0, .int .i64 12] rfl (by (try simp only [List.map_toArray, List.map_cons, List.map_nil]); first | done | rfl | (simp only [List.length_drop, List.length_take]; rfl)) ?_; refine (castellanref1_Get32.calls _ _ l0 12 t172 _ (HO.out.old HR0.out) HC0.out A11.out).mono ?_; rintro e w1 ⟨rfl, hd⟩; refine ⟨_, rfl, ?_⟩; replace HO := Aside0.mk (HO.out.drawn hd); clear HF; have HF := HO.out.facts; simp only [OwnsM.Facts, and_true] at HF) | ((with_reducible refine gate_callee (f := 62) rfl ?_); refine goesL_ (some 46) rfl rfl Try.func62 (by kernel_rfl) rfl #[.slice (some ad167) l0.length c0, .int .i64 16] rfl (by (try simp only [List.map_toArray, List.map_cons, List.map_nil]); first | done | rfl | (simp only [List.length_drop, List.length_take]; rfl)) ?_; refine (castellanref1_Get32.calls _ _ l0 16 t173 _ (HO.out.old HR0.out) HC0.out A12.out).mono ?_; rintro e w1 ⟨rfl, hd⟩; refine ⟨_, rfl, ?_⟩; replace HO := Aside0.mk (HO.out.drawn hd); clear HF; have HF := HO.out.facts; simp only [OwnsM.Facts, and_true] at HF) | ((with_reducible refine gate_store (p := 47) rfl ?_); (first | (refine ow_putc HO rfl rfl 0 rfl 7 ?_ ?hr ?_; (case hr => first | (go_simp; done) | (go_simp; rfl)))); clear HO HF; intro w1 HO; simp only [List.set_cons_zero, List.set_cons_succ, List.setIfInBounds_toArray] at HO; have HF := HO.out.facts; simp only [OwnsM.Facts, and_true] at HF) | ((with_reducible refine gate_store (p := 48) rfl ?_); (first | (refine ow_putc HO rfl rfl 0 rfl 8 ?_ ?hr ?_; (case hr => first | (go_simp; done) | (go_simp; rfl)))); clear HO HF; intro w1 HO; simp only [List.set_cons_zero, List.set_cons_succ, List.setIfInBounds_toArray] at HO; have HF := HO.out.facts; simp only [OwnsM.Facts, and_true] at HF))
                      have BK163 := Aside0.mk (HO.out.at_ 1 rfl)
                      have BK171 := Aside0.mk (HO.out.at_ 0 rfl)
                      have HB := Aside0.mk HO.out.below
                      clear HO HF
                      have n0_ := Aside0.mk (blk_drew BK163.out)
                      have n1_ := Aside0.mk (blk_drew BK171.out)
                      have n2_ := Aside0.mk (below_drew1 HB.out)
                      clear BK163
                      clear BK171
                      clear HB
                      have BK163 := n0_
                      have BK171 := n1_
                      have HB := n2_
                      clear n0_ n1_ n2_
                      obtain ⟨i039, hi039, _, hsz39, _⟩ := info_parts info5
                      obtain ⟨A39, hcut39, hA39, hC39⟩ := print_mid_of (P := Try.prog) (Value.int .u8) 0 24 5 .i64 .i64 Try.underlying24 hi039 hsz39 (some ad167) c0 l0 20 t164 (by omega) (by first | omega | exact of_decide_eq_true (by first | (with_reducible assumption) | assumption)) (of_decide_eq_true (by first | (with_reducible assumption) | assumption)) HC0.out
                      have HR177 := Aside0.mk (Kd.C_of_reads (h1 := fun _ => rfl) (hA39 _ (Kd.reads_of_C HR0.out)))
                      have HC177 := Aside0.mk hC39
                      clear hA39 hC39 hi039 hsz39
                      obtain ⟨i040, hi040, _, hsz40, _⟩ := info_parts info5
                      obtain ⟨A40, hcut40, hA40, hC40⟩ := print_mid_of (P := Try.prog) (Value.int .u8) 0 24 5 .i64 .i64 Try.underlying24 hi040 hsz40 (some ad167) c0 l0 t164 (ji5) (of_decide_eq_true (by first | (with_reducible assumption) | assumption)) (by first | omega | exact of_decide_eq_true (by first | (with_reducible assumption) | assumption)) (of_decide_eq_true (by first | (with_reducible assumption) | assumption)) HC0.out
                      have HR184 := Aside0.mk (Kd.C_of_reads (h1 := fun _ => rfl) (hA40 _ (Kd.reads_of_C HR0.out)))
                      have HC184 := Aside0.mk hC40
                      clear hA40 hC40 hi040 hsz40
                      refine start_ (n := 15) (S := fun w' => True) (ds := []) #[false, false, false, false, false, false, false, false, false, false, false, false, false, false, false] (by kernel_rfl) rfl rfl trivial (fun hHeld => ?_); refine with_tabW castellanref4_Read.tab6 castellanref4_Read.bits6 (fun HT_ HW_ => ?_)
                      generalize w1.drew = w38 at BK163 BK171 HB HR177 HR184 hHeld ⊢
                      refine pure_ (i := 1) (N := some 50) (v := ?_) (a' := ?_) #[false, true, false, false, false, false, false, false, false, false, false, false, false, false, false] rfl rfl (any_of HT_.out (by kernel_rfl)) (fun _ _ _ h => h) (Or.inl ⟨by rfl, ?_⟩) ?_ ?_
                      rotate_left
                      · intro w'
                        go_simp
                        with_reducible rfl
                      rotate_left
                      · simp only [Act.put, List.setIfInBounds_toArray, List.set_cons_zero, List.set_cons_succ, i64_w, i32_w]
                        rfl
                      refine pure_ (i := 2) (N := some 51) (v := ?_) (a' := ?_) #[false, true, true, false, false, false, false, false, false, false, false, false, false, false, false] rfl rfl (any_of HT_.out (by kernel_rfl)) (fun _ _ _ h => h) (Or.inl ⟨by rfl, ?_⟩) ?_ ?_
                      rotate_left
                      · intro w'
                        go_simp
                        with_reducible rfl
                      rotate_left
                      · simp only [Act.put, List.setIfInBounds_toArray, List.set_cons_zero, List.set_cons_succ, i64_w, i32_w]
                        rfl
                      refine pure_ (i := 3) (N := some 52) (v := ?_) (a' := ?_) #[false, true, true, true, false, false, false, false, false, false, false, false, false, false, false] rfl rfl (any_of HT_.out (by kernel_rfl)) (fun _ _ _ h => h) (Or.inl ⟨by rfl, ?_⟩) ?_ ?_
                      rotate_left
                      · intro w'
                        go_simp
                        with_reducible rfl
                      rotate_left
                      · simp only [Act.put, List.setIfInBounds_toArray, List.set_cons_zero, List.set_cons_succ, i64_w, i32_w]
                        rfl
                      refine pure_ (i := 6) (N := some 55) (v := ?_) (a' := ?_) #[false, true, true, true, false, false, true, false, false, false, false, false, false, false, false] rfl rfl (any_of HT_.out (by kernel_rfl)) (fun _ _ _ h => h) (Or.inl ⟨by rfl, ?_⟩) ?_ ?_
                      rotate_left
                      · intro w'
                        go_simp
                        with_reducible rfl
                      rotate_left
                      · simp only [Act.put, List.setIfInBounds_toArray, List.set_cons_zero, List.set_cons_succ, i64_w, i32_w]
                        rfl
                      refine pure_ (i := 7) (N := some 56) (v := ?_) (a' := ?_) #[false, true, true, true, false, false, true, true, false, false, false, false, false, false, false] rfl rfl (any_of HT_.out (by kernel_rfl)) (fun _ _ _ h => h) (Or.inl ⟨by rfl, ?_⟩) ?_ ?_
                      rotate_left
                      · intro w'
                        go_simp
                        with_reducible rfl
                      rotate_left
                      · simp only [Act.put, List.setIfInBounds_toArray, List.set_cons_zero, List.set_cons_succ, i64_w, i32_w]
                        rfl
                      refine pure_ (i := 8) (N := some 57) (v := ?_) (a' := ?_) #[false, true, true, true, false, false, true, true, true, false, false, false, false, false, false] rfl rfl (any_of HT_.out (by kernel_rfl)) (fun _ _ _ h => h) (Or.inl ⟨by rfl, ?_⟩) ?_ ?_
                      rotate_left
                      · intro w'
                        go_simp
                        with_reducible rfl
                      rotate_left
                      · simp only [Act.put, List.setIfInBounds_toArray, List.set_cons_zero, List.set_cons_succ, i64_w, i32_w]
                        rfl
                      refine pure_ (i := 9) (N := some 58) (v := ?_) (a' := ?_) #[false, true, true, true, false, false, true, true, true, true, false, false, false, false, false] rfl rfl (any_of HT_.out (by kernel_rfl)) (fun _ _ _ h => h) (Or.inl ⟨by rfl, ?_⟩) ?_ ?_
                      rotate_left
                      · intro w'
                        go_simp
                        with_reducible rfl
                      rotate_left
                      · simp only [Act.put, List.setIfInBounds_toArray, List.set_cons_zero, List.set_cons_succ, i64_w, i32_w]
                        rfl
                      refine join_ (σ := Value × Value × Value) 4 #[true, true, true, true, true, true, true, true, true, true, false, true, false, false, false] (fun s_ => [(49, s_.1), (53, s_.2.1), (54, s_.2.2), (60, .pointer (some ⟨gb171, 9, none⟩))]) (fun s_ w' => (Kd.R (Kd.int .u8) 5 w' w.heap.size (fun k_ => some k_ ≠ (s_.2.2 : Value).ownBlock) s_.2.1 y178) ∧ (Kd.R (Kd.int .u8) 5 w' w.heap.size (fun k_ => some k_ ≠ (s_.2.1 : Value).ownBlock) s_.2.2 y181) ∧ (w'.heap[gb163]? = some (.cells #[.int .i64 0, .int .i64 0, .bool false, .bool false, .int .i64 0, .int .i64 0, .int .i64 0, .int .u32 0, .int .u32 0, .slice none 0 0, .slice none 0 0] 45 (0, 0))) ∧ (w'.heap[gb171]? = some (.cells #[.int .i64 (wrap64 (rd l0 1)), .int .i64 t168, .bool ((Go.bits .and .i64 (t166 / 16384) 1) == 1), .bool ((Go.bits .and .i64 (t166 / 8192) 1) == 1), .int .i64 (Go.bits .and .i64 t166 8191), .int .i64 (wrap64 (rd l0 8)), .int .i64 (wrap64 (rd l0 9)), .int .u32 t172, .int .u32 t173, .slice none 0 0, .slice none 0 0] 45 (0, 0))) ∧ (Below w.heap.size w w')) ?_ ?_
                      rotate_left
                      · intro hCont
                        refine two_ (i := 0) (j := 5) (Ni := some 49) (Nj := some 54) #[true, true, true, true, false, false, true, true, true, true, false, false, false, false, false] #[false, true, true, true, false, true, true, true, true, true, false, false, false, false, false] rfl rfl rfl rfl (two_of HT_.out (by kernel_rfl)) (by decide) (by decide) (fun K hK => ?_) (fun K hK => ?_)
                        · skip
                          refine Kd.R_lit_step (Kd.int .u8) _ 5 ?hg (N := 49) ?hd (xs := ([] : List Int)) (inner := []) (ok := fun _ => True) (okp := fun _ => True) ?hr ?hp (fun _ hk => hk) trivial (Below.refl _ _) (Nat.le_refl _) (by simp) ?_; (case hd => rfl); (case hg => rfl); (case hr => first | (go_simp; done) | (go_simp; rfl)); (case hp => exact (Reps.none _ _))
                          intro v175 w41 ho42 hb hg_ hnew_
                          clear hg_ hnew_
                          (first | rw [← Ny174.out] at ho42 | (simp only [Int.reduceToNat] at ho42; rw [← Ny174.out] at ho42))
                          have n0_ := Aside0.mk (Kd.R_lower ho42 (below_size (by repeat (first | (with_reducible first | exact HB.out | apply below_alloc | apply pw_below_drewN | apply below_drew1 | refine below_set ?_ GE163.out | refine below_set ?_ GE171.out) | exact HB.out))))
                          have n1_ := Aside0.mk (blk_below (g := gb163) (o := .cells #[.int .i64 0, .int .i64 0, .bool false, .bool false, .int .i64 0, .int .i64 0, .int .i64 0, .int .u32 0, .int .u32 0, .slice none 0 0, .slice none 0 0] 45 (0, 0)) (by (with_reducible repeat (first | refine blk_drewN ?_ _ | refine blk_drew ?_ | refine blk_alloc ?_ _)); exact BK163.out) hb)
                          have n2_ := Aside0.mk (blk_below (g := gb171) (o := .cells #[.int .i64 (wrap64 (rd l0 1)), .int .i64 t168, .bool ((Go.bits .and .i64 (t166 / 16384) 1) == 1), .bool ((Go.bits .and .i64 (t166 / 8192) 1) == 1), .int .i64 (Go.bits .and .i64 t166 8191), .int .i64 (wrap64 (rd l0 8)), .int .i64 (wrap64 (rd l0 9)), .int .u32 t172, .int .u32 t173, .slice none 0 0, .slice none 0 0] 45 (0, 0)) (by (with_reducible repeat (first | refine blk_drewN ?_ _ | refine blk_drew ?_ | refine blk_alloc ?_ _)); exact BK171.out) hb)
                          have n3_ := Aside0.mk (below_step (by repeat (first | (with_reducible first | exact HB.out | apply below_alloc | apply pw_below_drewN | apply below_drew1 | refine below_set ?_ GE163.out | refine below_set ?_ GE171.out) | exact HB.out)) hb)
                          clear BK163
                          clear BK171
                          clear HB
                          have HO176 := n0_
                          have BK163 := n1_
                          have BK171 := n2_
                          have HB := n3_
                          clear n0_ n1_ n2_ n3_
                          clear hb ho42
                          refine hK.out _ _ trivial (fun hHeld => ?_)
                          clear hK K
                          refine norm_ (a' := ?_) ?_ ?_
                          rotate_left
                          · show Act.put _ (some 49) _ = _
                            simp only [Act.put, List.setIfInBounds_toArray, List.set_cons_zero, List.set_cons_succ, i64_w, i32_w]
                            rfl
                          refine two_ (i := 4) (j := 5) (Ni := some 53) (Nj := some 54) #[true, true, true, true, true, false, true, true, true, true, false, false, false, false, false] #[true, true, true, true, false, true, true, true, true, true, false, false, false, false, false] rfl rfl rfl rfl (two_of HT_.out (by kernel_rfl)) (by decide) (by decide) (fun K hK => ?_) (fun K hK => ?_)
                          · skip
                            refine Kd.R_append_rows_step (Kd.int .u8) (w0 := w) w.heap.size (by rfl) (.tmp 49) (.tmp 52) 24 5 (.int .u8 0) 1 rfl Try.underlying24 info5 rfl (by decide) (by omega) v175 y174 ((l0.take (t164 : Int).toNat).drop 20) _ _ _ (fun _ => True) (fun _ => False) rfl rfl ?aO ?aR (fun _ _ h => h) (fun _ h => h.elim) ?aF ?aB ?aS ?aL ?_
                            (case aR => first | (refine RR_len (show ((l0.take (t164 : Int).toNat).drop 20).length = (t164.toNat - 20) from (by rw [List.length_drop, List.length_take]; have h_ : (t164 : Int) ≤ (l0.length : Int) := of_decide_eq_true (by first | (with_reducible assumption) | assumption); omega)) ?_; repeat (first | exact (Kd.C_below HR177.out HB.out) | (with_reducible refine Kd.C_alloc ?_ _) | (with_reducible refine Kd.C_drewN ?_ _) | (with_reducible refine Kd.C_drew ?_))) | (repeat (first | exact (Kd.C_below HR177.out HB.out) | (with_reducible refine Kd.C_alloc ?_ _) | (with_reducible refine Kd.C_drewN ?_ _) | (with_reducible refine Kd.C_drew ?_))))
                            (case aB => exact (by repeat (first | (with_reducible first | exact HB.out | apply below_alloc | apply pw_below_drewN | apply below_drew1 | refine below_set ?_ GE163.out | refine below_set ?_ GE171.out) | exact HB.out)))
                            (case aF => exact (fun _ _ => trivial))
                            (case aO => exact (by (with_reducible repeat (first | apply Kd.R_alloc | apply Kd.R_drewN | apply Kd.R_drew)); exact HO176.out))
                            (case aS => exact (below_size (by repeat (first | (with_reducible first | exact HB.out | apply below_alloc | apply pw_below_drewN | apply below_drew1 | refine below_set ?_ GE163.out | refine below_set ?_ GE171.out) | exact HB.out))))
                            (case aL => have := LMc15.out; have hlx_ := (show ((l0.take (t164 : Int).toNat).drop 20).length = (t164.toNat - 20) from (by rw [List.length_drop, List.length_take]; have h_ : (t164 : Int) ≤ (l0.length : Int) := of_decide_eq_true (by first | (with_reducible assumption) | assumption); omega)); omega)
                            intro v179 w43 ho hb hg hat
                            rw [← Ny178.out] at ho
                            have n0_ := Aside0.mk (blk_grown (g := gb163) (o := .cells #[.int .i64 0, .int .i64 0, .bool false, .bool false, .int .i64 0, .int .i64 0, .int .i64 0, .int .u32 0, .int .u32 0, .slice none 0 0, .slice none 0 0] 45 (0, 0)) (by (with_reducible repeat (first | refine blk_drewN ?_ _ | refine blk_drew ?_ | refine blk_alloc ?_ _)); exact BK163.out) hg (Kd.R_ne HO176.out BK163.out (by decide)))
                            have n1_ := Aside0.mk (blk_grown (g := gb171) (o := .cells #[.int .i64 (wrap64 (rd l0 1)), .int .i64 t168, .bool ((Go.bits .and .i64 (t166 / 16384) 1) == 1), .bool ((Go.bits .and .i64 (t166 / 8192) 1) == 1), .int .i64 (Go.bits .and .i64 t166 8191), .int .i64 (wrap64 (rd l0 8)), .int .i64 (wrap64 (rd l0 9)), .int .u32 t172, .int .u32 t173, .slice none 0 0, .slice none 0 0] 45 (0, 0)) (by (with_reducible repeat (first | refine blk_drewN ?_ _ | refine blk_drew ?_ | refine blk_alloc ?_ _)); exact BK171.out) hg (Kd.R_ne HO176.out BK171.out (by decide)))
                            have n2_ := Aside0.mk (hb)
                            have n3_ := Aside0.mk (ho)
                            clear BK163
                            clear BK171
                            clear HB
                            clear HO176
                            have BK163 := n0_
                            have BK171 := n1_
                            have HB := n2_
                            have HO180 := n3_
                            clear n0_ n1_ n2_ n3_
                            clear ho hb hg hat
                            refine hK.out _ _ trivial (fun hHeld => ?_)
                            clear hK K
                            refine norm_ (a' := ?_) ?_ ?_
                            rotate_left
                            · show Act.put _ (some 53) _ = _
                              simp only [Act.put, List.setIfInBounds_toArray, List.set_cons_zero, List.set_cons_succ, i64_w, i32_w]
                              rfl
                            refine pure_ (i := 11) (N := some 60) (v := ?_) (a' := ?_) #[true, true, true, true, true, false, true, true, true, true, false, true, false, false, false] rfl rfl (any_of HT_.out (by kernel_rfl)) (fun _ _ _ h => h) (Or.inl ⟨by rfl, ?_⟩) ?_ ?_
                            rotate_left
                            · intro w'
                              go_simp
                              with_reducible rfl
                            rotate_left
                            · simp only [Act.put, List.setIfInBounds_toArray, List.set_cons_zero, List.set_cons_succ, i64_w, i32_w]
                              rfl
                            refine one_ (i := 5) (N := some 54) #[true, true, true, true, true, true, true, true, true, true, false, true, false, false, false] rfl rfl (one_of HT_.out (by kernel_rfl)) (by decide) (fun K hK => ?_)
                            refine Kd.R_lit_step (Kd.int .u8) _ 5 ?hg (N := 54) ?hd (xs := ([] : List Int)) (inner := []) (ok := fun _ => True) (okp := fun _ => True) ?hr ?hp (fun _ hk => hk) trivial (Below.refl _ _) (Nat.le_refl _) (by simp) ?_; (case hd => rfl); (case hg => rfl); (case hr => first | (go_simp; done) | (go_simp; rfl)); (case hp => exact (Reps.none _ _))
                            intro v182 w44 ho45 hb hg_ hnew_
                            clear hg_ hnew_
                            (first | rw [← Ny181.out] at ho45 | (simp only [Int.reduceToNat] at ho45; rw [← Ny181.out] at ho45))
                            have n0_ := Aside0.mk (Kd.R_elder' (by (with_reducible repeat (first | apply Kd.R_alloc | apply Kd.R_drewN | apply Kd.R_drew)); exact HO180.out) (Kd.R_base ho45) hb)
                            have n1_ := Aside0.mk (Kd.R_lower (Kd.R_new' ho45 (Kd.R_lt (by (with_reducible repeat (first | apply Kd.R_alloc | apply Kd.R_drewN | apply Kd.R_drew)); exact HO180.out))) (below_size (by repeat (first | (with_reducible first | exact HB.out | apply below_alloc | apply pw_below_drewN | apply below_drew1 | refine below_set ?_ GE163.out | refine below_set ?_ GE171.out) | exact HB.out))))
                            have n2_ := Aside0.mk (blk_below (g := gb163) (o := .cells #[.int .i64 0, .int .i64 0, .bool false, .bool false, .int .i64 0, .int .i64 0, .int .i64 0, .int .u32 0, .int .u32 0, .slice none 0 0, .slice none 0 0] 45 (0, 0)) (by (with_reducible repeat (first | refine blk_drewN ?_ _ | refine blk_drew ?_ | refine blk_alloc ?_ _)); exact BK163.out) hb)
                            have n3_ := Aside0.mk (blk_below (g := gb171) (o := .cells #[.int .i64 (wrap64 (rd l0 1)), .int .i64 t168, .bool ((Go.bits .and .i64 (t166 / 16384) 1) == 1), .bool ((Go.bits .and .i64 (t166 / 8192) 1) == 1), .int .i64 (Go.bits .and .i64 t166 8191), .int .i64 (wrap64 (rd l0 8)), .int .i64 (wrap64 (rd l0 9)), .int .u32 t172, .int .u32 t173, .slice none 0 0, .slice none 0 0] 45 (0, 0)) (by (with_reducible repeat (first | refine blk_drewN ?_ _ | refine blk_drew ?_ | refine blk_alloc ?_ _)); exact BK171.out) hb)
                            have n4_ := Aside0.mk (below_step (by repeat (first | (with_reducible first | exact HB.out | apply below_alloc | apply pw_below_drewN | apply below_drew1 | refine below_set ?_ GE163.out | refine below_set ?_ GE171.out) | exact HB.out)) hb)
                            clear HO180
                            clear BK163
                            clear BK171
                            clear HB
                            have HO180 := n0_
                            have HO183 := n1_
                            have BK163 := n2_
                            have BK171 := n3_
                            have HB := n4_
                            clear n0_ n1_ n2_ n3_ n4_
                            clear hb ho45
                            refine hK.out _ _ trivial (fun hHeld => ?_)
                            clear hK K
                            refine norm_ (a' := ?_) ?_ ?_
                            rotate_left
                            · show Act.put _ (some 54) _ = _
                              simp only [Act.put, List.setIfInBounds_toArray, List.set_cons_zero, List.set_cons_succ, i64_w, i32_w]
                              rfl
                            exact norm_ (by simp only [putAll, Act.put, List.setIfInBounds_toArray, List.set_cons_zero, List.set_cons_succ]) (hCont (v175, v179, v182) _ ⟨(by (with_reducible repeat (first | apply Kd.R_alloc | apply Kd.R_drewN | apply Kd.R_drew)); exact Kd.R_mono HO180.out (fun _ hk => hk.2)), (by (with_reducible repeat (first | apply Kd.R_alloc | apply Kd.R_drewN | apply Kd.R_drew)); exact Kd.R_mono HO183.out (fun _ hk => hk.2)), (by (with_reducible repeat (first | refine blk_drewN ?_ _ | refine blk_drew ?_ | refine blk_alloc ?_ _)); exact BK163.out), (by (with_reducible repeat (first | refine blk_drewN ?_ _ | refine blk_drew ?_ | refine blk_alloc ?_ _)); exact BK171.out), (by repeat (first | (with_reducible first | exact HB.out | apply below_alloc | apply pw_below_drewN | apply below_drew1 | refine below_set ?_ GE163.out | refine below_set ?_ GE171.out) | exact HB.out))⟩)
                          · skip
                            refine Kd.R_lit_step (Kd.int .u8) _ 5 ?hg (N := 54) ?hd (xs := ([] : List Int)) (inner := []) (ok := fun _ => True) (okp := fun _ => True) ?hr ?hp (fun _ hk => hk) trivial (Below.refl _ _) (Nat.le_refl _) (by simp) ?_; (case hd => rfl); (case hg => rfl); (case hr => first | (go_simp; done) | (go_simp; rfl)); (case hp => exact (Reps.none _ _))
                            intro v182 w43 ho44 hb hg_ hnew_
                            clear hg_ hnew_
                            (first | rw [← Ny181.out] at ho44 | (simp only [Int.reduceToNat] at ho44; rw [← Ny181.out] at ho44))
                            have n0_ := Aside0.mk (Kd.R_elder' (by (with_reducible repeat (first | apply Kd.R_alloc | apply Kd.R_drewN | apply Kd.R_drew)); exact HO176.out) (Kd.R_base ho44) hb)
                            have n1_ := Aside0.mk (Kd.R_lower (Kd.R_new' ho44 (Kd.R_lt (by (with_reducible repeat (first | apply Kd.R_alloc | apply Kd.R_drewN | apply Kd.R_drew)); exact HO176.out))) (below_size (by repeat (first | (with_reducible first | exact HB.out | apply below_alloc | apply pw_below_drewN | apply below_drew1 | refine below_set ?_ GE163.out | refine below_set ?_ GE171.out) | exact HB.out))))
                            have n2_ := Aside0.mk (blk_below (g := gb163) (o := .cells #[.int .i64 0, .int .i64 0, .bool false, .bool false, .int .i64 0, .int .i64 0, .int .i64 0, .int .u32 0, .int .u32 0, .slice none 0 0, .slice none 0 0] 45 (0, 0)) (by (with_reducible repeat (first | refine blk_drewN ?_ _ | refine blk_drew ?_ | refine blk_alloc ?_ _)); exact BK163.out) hb)
                            have n3_ := Aside0.mk (blk_below (g := gb171) (o := .cells #[.int .i64 (wrap64 (rd l0 1)), .int .i64 t168, .bool ((Go.bits .and .i64 (t166 / 16384) 1) == 1), .bool ((Go.bits .and .i64 (t166 / 8192) 1) == 1), .int .i64 (Go.bits .and .i64 t166 8191), .int .i64 (wrap64 (rd l0 8)), .int .i64 (wrap64 (rd l0 9)), .int .u32 t172, .int .u32 t173, .slice none 0 0, .slice none 0 0] 45 (0, 0)) (by (with_reducible repeat (first | refine blk_drewN ?_ _ | refine blk_drew ?_ | refine blk_alloc ?_ _)); exact BK171.out) hb)
                            have n4_ := Aside0.mk (below_step (by repeat (first | (with_reducible first | exact HB.out | apply below_alloc | apply pw_below_drewN | apply below_drew1 | refine below_set ?_ GE163.out | refine below_set ?_ GE171.out) | exact HB.out)) hb)
                            clear HO176
                            clear BK163
                            clear BK171
                            clear HB
                            have HO176 := n0_
                            have HO183 := n1_
                            have BK163 := n2_
                            have BK171 := n3_
                            have HB := n4_
                            clear n0_ n1_ n2_ n3_ n4_
                            clear hb ho44
                            refine hK.out _ _ trivial (fun hHeld => ?_)
                            clear hK K
                            refine norm_ (a' := ?_) ?_ ?_
                            rotate_left
                            · show Act.put _ (some 54) _ = _
                              simp only [Act.put, List.setIfInBounds_toArray, List.set_cons_zero, List.set_cons_succ, i64_w, i32_w]
                              rfl
                            refine one_ (i := 4) (N := some 53) #[true, true, true, true, true, true, true, true, true, true, false, false, false, false, false] rfl rfl (one_of HT_.out (by kernel_rfl)) (by decide) (fun K hK => ?_)
                            refine Kd.R_append_rows_step (Kd.int .u8) (w0 := w) w.heap.size (by rfl) (.tmp 49) (.tmp 52) 24 5 (.int .u8 0) 1 rfl Try.underlying24 info5 rfl (by decide) (by omega) v175 y174 ((l0.take (t164 : Int).toNat).drop 20) _ _ _ (fun k_ => some k_ ≠ (v182 : Value).ownBlock) (fun _ => False) rfl rfl ?aO ?aR (fun _ _ h => h) (fun _ h => h.elim) ?aF ?aB ?aS ?aL ?_
                            (case aR => first | (refine RR_len (show ((l0.take (t164 : Int).toNat).drop 20).length = (t164.toNat - 20) from (by rw [List.length_drop, List.length_take]; have h_ : (t164 : Int) ≤ (l0.length : Int) := of_decide_eq_true (by first | (with_reducible assumption) | assumption); omega)) ?_; repeat (first | exact (Kd.C_below HR177.out HB.out) | (with_reducible refine Kd.C_alloc ?_ _) | (with_reducible refine Kd.C_drewN ?_ _) | (with_reducible refine Kd.C_drew ?_))) | (repeat (first | exact (Kd.C_below HR177.out HB.out) | (with_reducible refine Kd.C_alloc ?_ _) | (with_reducible refine Kd.C_drewN ?_ _) | (with_reducible refine Kd.C_drew ?_))))
                            (case aB => exact (by repeat (first | (with_reducible first | exact HB.out | apply below_alloc | apply pw_below_drewN | apply below_drew1 | refine below_set ?_ GE163.out | refine below_set ?_ GE171.out) | exact HB.out)))
                            (case aF => exact (fun k_ hk => Kd.fresh' (Kd.R_lt (by (with_reducible repeat (first | apply Kd.R_alloc | apply Kd.R_drewN | apply Kd.R_drew)); exact HO183.out)) k_ hk))
                            (case aO => exact (by (with_reducible repeat (first | apply Kd.R_alloc | apply Kd.R_drewN | apply Kd.R_drew)); exact Kd.R_mono HO176.out (fun _ hk => hk.2)))
                            (case aS => exact (below_size (by repeat (first | (with_reducible first | exact HB.out | apply below_alloc | apply pw_below_drewN | apply below_drew1 | refine below_set ?_ GE163.out | refine below_set ?_ GE171.out) | exact HB.out))))
                            (case aL => have := LMc15.out; have hlx_ := (show ((l0.take (t164 : Int).toNat).drop 20).length = (t164.toNat - 20) from (by rw [List.length_drop, List.length_take]; have h_ : (t164 : Int) ≤ (l0.length : Int) := of_decide_eq_true (by first | (with_reducible assumption) | assumption); omega)); omega)
                            intro v179 w45 ho hb hg hat
                            rw [← Ny178.out] at ho
                            have n0_ := Aside0.mk (blk_grown (g := gb163) (o := .cells #[.int .i64 0, .int .i64 0, .bool false, .bool false, .int .i64 0, .int .i64 0, .int .i64 0, .int .u32 0, .int .u32 0, .slice none 0 0, .slice none 0 0] 45 (0, 0)) (by (with_reducible repeat (first | refine blk_drewN ?_ _ | refine blk_drew ?_ | refine blk_alloc ?_ _)); exact BK163.out) hg (Kd.R_ne HO176.out BK163.out (by decide)))
                            have n1_ := Aside0.mk (blk_grown (g := gb171) (o := .cells #[.int .i64 (wrap64 (rd l0 1)), .int .i64 t168, .bool ((Go.bits .and .i64 (t166 / 16384) 1) == 1), .bool ((Go.bits .and .i64 (t166 / 8192) 1) == 1), .int .i64 (Go.bits .and .i64 t166 8191), .int .i64 (wrap64 (rd l0 8)), .int .i64 (wrap64 (rd l0 9)), .int .u32 t172, .int .u32 t173, .slice none 0 0, .slice none 0 0] 45 (0, 0)) (by (with_reducible repeat (first | refine blk_drewN ?_ _ | refine blk_drew ?_ | refine blk_alloc ?_ _)); exact BK171.out) hg (Kd.R_ne HO176.out BK171.out (by decide)))
                            have n2_ := Aside0.mk (Kd.R_after (ok := (fun _ => True)) (by (with_reducible repeat (first | apply Kd.R_alloc | apply Kd.R_drewN | apply Kd.R_drew)); exact HO183.out) hg hat)
                            have n3_ := Aside0.mk (hb)
                            have n4_ := Aside0.mk (ho)
                            clear BK163
                            clear BK171
                            clear HO183
                            clear HB
                            clear HO176
                            have BK163 := n0_
                            have BK171 := n1_
                            have HO183 := n2_
                            have HB := n3_
                            have HO180 := n4_
                            clear n0_ n1_ n2_ n3_ n4_
                            clear ho hb hg hat
                            refine hK.out _ _ trivial (fun hHeld => ?_)
                            clear hK K
                            refine norm_ (a' := ?_) ?_ ?_
                            rotate_left
                            · show Act.put _ (some 53) _ = _
                              simp only [Act.put, List.setIfInBounds_toArray, List.set_cons_zero, List.set_cons_succ, i64_w, i32_w]
                              rfl
                            refine pure_ (i := 11) (N := some 60) (v := ?_) (a' := ?_) #[true, true, true, true, true, true, true, true, true, true, false, true, false, false, false] rfl rfl (any_of HT_.out (by kernel_rfl)) (fun _ _ _ h => h) (Or.inl ⟨by rfl, ?_⟩) ?_ ?_
                            rotate_left
                            · intro w'
                              go_simp
                              with_reducible rfl
                            rotate_left
                            · simp only [Act.put, List.setIfInBounds_toArray, List.set_cons_zero, List.set_cons_succ, i64_w, i32_w]
                              rfl
                            exact norm_ (by simp only [putAll, Act.put, List.setIfInBounds_toArray, List.set_cons_zero, List.set_cons_succ]) (hCont (v175, v179, v182) _ ⟨(by (with_reducible repeat (first | apply Kd.R_alloc | apply Kd.R_drewN | apply Kd.R_drew)); exact HO180.out), (by (with_reducible repeat (first | apply Kd.R_alloc | apply Kd.R_drewN | apply Kd.R_drew)); exact Kd.R_mono HO183.out (fun _ hk => hk.2)), (by (with_reducible repeat (first | refine blk_drewN ?_ _ | refine blk_drew ?_ | refine blk_alloc ?_ _)); exact BK163.out), (by (with_reducible repeat (first | refine blk_drewN ?_ _ | refine blk_drew ?_ | refine blk_alloc ?_ _)); exact BK171.out), (by repeat (first | (with_reducible first | exact HB.out | apply below_alloc | apply pw_below_drewN | apply below_drew1 | refine below_set ?_ GE163.out | refine below_set ?_ GE171.out) | exact HB.out))⟩)
                        · skip
                          refine Kd.R_lit_step (Kd.int .u8) _ 5 ?hg (N := 54) ?hd (xs := ([] : List Int)) (inner := []) (ok := fun _ => True) (okp := fun _ => True) ?hr ?hp (fun _ hk => hk) trivial (Below.refl _ _) (Nat.le_refl _) (by simp) ?_; (case hd => rfl); (case hg => rfl); (case hr => first | (go_simp; done) | (go_simp; rfl)); (case hp => exact (Reps.none _ _))
                          intro v182 w41 ho42 hb hg_ hnew_
                          clear hg_ hnew_
                          (first | rw [← Ny181.out] at ho42 | (simp only [Int.reduceToNat] at ho42; rw [← Ny181.out] at ho42))
                          have n0_ := Aside0.mk (Kd.R_lower ho42 (below_size (by repeat (first | (with_reducible first | exact HB.out | apply below_alloc | apply pw_below_drewN | apply below_drew1 | refine below_set ?_ GE163.out | refine below_set ?_ GE171.out) | exact HB.out))))
                          have n1_ := Aside0.mk (blk_below (g := gb163) (o := .cells #[.int .i64 0, .int .i64 0, .bool false, .bool false, .int .i64 0, .int .i64 0, .int .i64 0, .int .u32 0, .int .u32 0, .slice none 0 0, .slice none 0 0] 45 (0, 0)) (by (with_reducible repeat (first | refine blk_drewN ?_ _ | refine blk_drew ?_ | refine blk_alloc ?_ _)); exact BK163.out) hb)
                          have n2_ := Aside0.mk (blk_below (g := gb171) (o := .cells #[.int .i64 (wrap64 (rd l0 1)), .int .i64 t168, .bool ((Go.bits .and .i64 (t166 / 16384) 1) == 1), .bool ((Go.bits .and .i64 (t166 / 8192) 1) == 1), .int .i64 (Go.bits .and .i64 t166 8191), .int .i64 (wrap64 (rd l0 8)), .int .i64 (wrap64 (rd l0 9)), .int .u32 t172, .int .u32 t173, .slice none 0 0, .slice none 0 0] 45 (0, 0)) (by (with_reducible repeat (first | refine blk_drewN ?_ _ | refine blk_drew ?_ | refine blk_alloc ?_ _)); exact BK171.out) hb)
                          have n3_ := Aside0.mk (below_step (by repeat (first | (with_reducible first | exact HB.out | apply below_alloc | apply pw_below_drewN | apply below_drew1 | refine below_set ?_ GE163.out | refine below_set ?_ GE171.out) | exact HB.out)) hb)
                          clear BK163
                          clear BK171
                          clear HB
                          have HO183 := n0_
                          have BK163 := n1_
                          have BK171 := n2_
                          have HB := n3_
                          clear n0_ n1_ n2_ n3_
                          clear hb ho42
                          refine hK.out _ _ trivial (fun hHeld => ?_)
                          clear hK K
                          refine norm_ (a' := ?_) ?_ ?_
                          rotate_left
                          · show Act.put _ (some 54) _ = _
                            simp only [Act.put, List.setIfInBounds_toArray, List.set_cons_zero, List.set_cons_succ, i64_w, i32_w]
                            rfl
                          refine one_ (i := 0) (N := some 49) #[true, true, true, true, false, true, true, true, true, true, false, false, false, false, false] rfl rfl (one_of HT_.out (by kernel_rfl)) (by decide) (fun K hK => ?_)
                          refine Kd.R_lit_step (Kd.int .u8) _ 5 ?hg (N := 49) ?hd (xs := ([] : List Int)) (inner := []) (ok := fun _ => True) (okp := fun _ => True) ?hr ?hp (fun _ hk => hk) trivial (Below.refl _ _) (Nat.le_refl _) (by simp) ?_; (case hd => rfl); (case hg => rfl); (case hr => first | (go_simp; done) | (go_simp; rfl)); (case hp => exact (Reps.none _ _))
                          intro v175 w43 ho44 hb hg_ hnew_
                          clear hg_ hnew_
                          (first | rw [← Ny174.out] at ho44 | (simp only [Int.reduceToNat] at ho44; rw [← Ny174.out] at ho44))
                          have n0_ := Aside0.mk (Kd.R_elder' (by (with_reducible repeat (first | apply Kd.R_alloc | apply Kd.R_drewN | apply Kd.R_drew)); exact HO183.out) (Kd.R_base ho44) hb)
                          have n1_ := Aside0.mk (Kd.R_lower (Kd.R_new' ho44 (Kd.R_lt (by (with_reducible repeat (first | apply Kd.R_alloc | apply Kd.R_drewN | apply Kd.R_drew)); exact HO183.out))) (below_size (by repeat (first | (with_reducible first | exact HB.out | apply below_alloc | apply pw_below_drewN | apply below_drew1 | refine below_set ?_ GE163.out | refine below_set ?_ GE171.out) | exact HB.out))))
                          have n2_ := Aside0.mk (blk_below (g := gb163) (o := .cells #[.int .i64 0, .int .i64 0, .bool false, .bool false, .int .i64 0, .int .i64 0, .int .i64 0, .int .u32 0, .int .u32 0, .slice none 0 0, .slice none 0 0] 45 (0, 0)) (by (with_reducible repeat (first | refine blk_drewN ?_ _ | refine blk_drew ?_ | refine blk_alloc ?_ _)); exact BK163.out) hb)
                          have n3_ := Aside0.mk (blk_below (g := gb171) (o := .cells #[.int .i64 (wrap64 (rd l0 1)), .int .i64 t168, .bool ((Go.bits .and .i64 (t166 / 16384) 1) == 1), .bool ((Go.bits .and .i64 (t166 / 8192) 1) == 1), .int .i64 (Go.bits .and .i64 t166 8191), .int .i64 (wrap64 (rd l0 8)), .int .i64 (wrap64 (rd l0 9)), .int .u32 t172, .int .u32 t173, .slice none 0 0, .slice none 0 0] 45 (0, 0)) (by (with_reducible repeat (first | refine blk_drewN ?_ _ | refine blk_drew ?_ | refine blk_alloc ?_ _)); exact BK171.out) hb)
                          have n4_ := Aside0.mk (below_step (by repeat (first | (with_reducible first | exact HB.out | apply below_alloc | apply pw_below_drewN | apply below_drew1 | refine below_set ?_ GE163.out | refine below_set ?_ GE171.out) | exact HB.out)) hb)
                          clear HO183
                          clear BK163
                          clear BK171
                          clear HB
                          have HO183 := n0_
                          have HO176 := n1_
                          have BK163 := n2_
                          have BK171 := n3_
                          have HB := n4_
                          clear n0_ n1_ n2_ n3_ n4_
                          clear hb ho44
                          refine hK.out _ _ trivial (fun hHeld => ?_)
                          clear hK K
                          refine norm_ (a' := ?_) ?_ ?_
                          rotate_left
                          · show Act.put _ (some 49) _ = _
                            simp only [Act.put, List.setIfInBounds_toArray, List.set_cons_zero, List.set_cons_succ, i64_w, i32_w]
                            rfl
                          refine one_ (i := 4) (N := some 53) #[true, true, true, true, true, true, true, true, true, true, false, false, false, false, false] rfl rfl (one_of HT_.out (by kernel_rfl)) (by decide) (fun K hK => ?_)
                          refine Kd.R_append_rows_step (Kd.int .u8) (w0 := w) w.heap.size (by rfl) (.tmp 49) (.tmp 52) 24 5 (.int .u8 0) 1 rfl Try.underlying24 info5 rfl (by decide) (by omega) v175 y174 ((l0.take (t164 : Int).toNat).drop 20) _ _ _ (fun k_ => some k_ ≠ (v182 : Value).ownBlock) (fun _ => False) rfl rfl ?aO ?aR (fun _ _ h => h) (fun _ h => h.elim) ?aF ?aB ?aS ?aL ?_
                          (case aR => first | (refine RR_len (show ((l0.take (t164 : Int).toNat).drop 20).length = (t164.toNat - 20) from (by rw [List.length_drop, List.length_take]; have h_ : (t164 : Int) ≤ (l0.length : Int) := of_decide_eq_true (by first | (with_reducible assumption) | assumption); omega)) ?_; repeat (first | exact (Kd.C_below HR177.out HB.out) | (with_reducible refine Kd.C_alloc ?_ _) | (with_reducible refine Kd.C_drewN ?_ _) | (with_reducible refine Kd.C_drew ?_))) | (repeat (first | exact (Kd.C_below HR177.out HB.out) | (with_reducible refine Kd.C_alloc ?_ _) | (with_reducible refine Kd.C_drewN ?_ _) | (with_reducible refine Kd.C_drew ?_))))
                          (case aB => exact (by repeat (first | (with_reducible first | exact HB.out | apply below_alloc | apply pw_below_drewN | apply below_drew1 | refine below_set ?_ GE163.out | refine below_set ?_ GE171.out) | exact HB.out)))
                          (case aF => exact (fun k_ hk => Kd.fresh' (Kd.R_lt (by (with_reducible repeat (first | apply Kd.R_alloc | apply Kd.R_drewN | apply Kd.R_drew)); exact HO183.out)) k_ hk))
                          (case aO => exact (by (with_reducible repeat (first | apply Kd.R_alloc | apply Kd.R_drewN | apply Kd.R_drew)); exact Kd.R_mono HO176.out (fun _ hk => hk.2)))
                          (case aS => exact (below_size (by repeat (first | (with_reducible first | exact HB.out | apply below_alloc | apply pw_below_drewN | apply below_drew1 | refine below_set ?_ GE163.out | refine below_set ?_ GE171.out) | exact HB.out))))
                          (case aL => have := LMc15.out; have hlx_ := (show ((l0.take (t164 : Int).toNat).drop 20).length = (t164.toNat - 20) from (by rw [List.length_drop, List.length_take]; have h_ : (t164 : Int) ≤ (l0.length : Int) := of_decide_eq_true (by first | (with_reducible assumption) | assumption); omega)); omega)
                          intro v179 w45 ho hb hg hat
                          rw [← Ny178.out] at ho
                          have n0_ := Aside0.mk (blk_grown (g := gb163) (o := .cells #[.int .i64 0, .int .i64 0, .bool false, .bool false, .int .i64 0, .int .i64 0, .int .i64 0, .int .u32 0, .int .u32 0, .slice none 0 0, .slice none 0 0] 45 (0, 0)) (by (with_reducible repeat (first | refine blk_drewN ?_ _ | refine blk_drew ?_ | refine blk_alloc ?_ _)); exact BK163.out) hg (Kd.R_ne HO176.out BK163.out (by decide)))
                          have n1_ := Aside0.mk (blk_grown (g := gb171) (o := .cells #[.int .i64 (wrap64 (rd l0 1)), .int .i64 t168, .bool ((Go.bits .and .i64 (t166 / 16384) 1) == 1), .bool ((Go.bits .and .i64 (t166 / 8192) 1) == 1), .int .i64 (Go.bits .and .i64 t166 8191), .int .i64 (wrap64 (rd l0 8)), .int .i64 (wrap64 (rd l0 9)), .int .u32 t172, .int .u32 t173, .slice none 0 0, .slice none 0 0] 45 (0, 0)) (by (with_reducible repeat (first | refine blk_drewN ?_ _ | refine blk_drew ?_ | refine blk_alloc ?_ _)); exact BK171.out) hg (Kd.R_ne HO176.out BK171.out (by decide)))
                          have n2_ := Aside0.mk (Kd.R_after (ok := (fun _ => True)) (by (with_reducible repeat (first | apply Kd.R_alloc | apply Kd.R_drewN | apply Kd.R_drew)); exact HO183.out) hg hat)
                          have n3_ := Aside0.mk (hb)
                          have n4_ := Aside0.mk (ho)
                          clear BK163
                          clear BK171
                          clear HO183
                          clear HB
                          clear HO176
                          have BK163 := n0_
                          have BK171 := n1_
                          have HO183 := n2_
                          have HB := n3_
                          have HO180 := n4_
                          clear n0_ n1_ n2_ n3_ n4_
                          clear ho hb hg hat
                          refine hK.out _ _ trivial (fun hHeld => ?_)
                          clear hK K
                          refine norm_ (a' := ?_) ?_ ?_
                          rotate_left
                          · show Act.put _ (some 53) _ = _
                            simp only [Act.put, List.setIfInBounds_toArray, List.set_cons_zero, List.set_cons_succ, i64_w, i32_w]
                            rfl
                          refine pure_ (i := 11) (N := some 60) (v := ?_) (a' := ?_) #[true, true, true, true, true, true, true, true, true, true, false, true, false, false, false] rfl rfl (any_of HT_.out (by kernel_rfl)) (fun _ _ _ h => h) (Or.inl ⟨by rfl, ?_⟩) ?_ ?_
                          rotate_left
                          · intro w'
                            go_simp
                            with_reducible rfl
                          rotate_left
                          · simp only [Act.put, List.setIfInBounds_toArray, List.set_cons_zero, List.set_cons_succ, i64_w, i32_w]
                            rfl
                          exact norm_ (by simp only [putAll, Act.put, List.setIfInBounds_toArray, List.set_cons_zero, List.set_cons_succ]) (hCont (v175, v179, v182) _ ⟨(by (with_reducible repeat (first | apply Kd.R_alloc | apply Kd.R_drewN | apply Kd.R_drew)); exact HO180.out), (by (with_reducible repeat (first | apply Kd.R_alloc | apply Kd.R_drewN | apply Kd.R_drew)); exact Kd.R_mono HO183.out (fun _ hk => hk.2)), (by (with_reducible repeat (first | refine blk_drewN ?_ _ | refine blk_drew ?_ | refine blk_alloc ?_ _)); exact BK163.out), (by (with_reducible repeat (first | refine blk_drewN ?_ _ | refine blk_drew ?_ | refine blk_alloc ?_ _)); exact BK171.out), (by repeat (first | (with_reducible first | exact HB.out | apply below_alloc | apply pw_below_drewN | apply below_drew1 | refine below_set ?_ GE163.out | refine below_set ?_ GE171.out) | exact HB.out))⟩)
                      rintro ⟨v175, v179, v182⟩ w46 ⟨h0_, h1_, h2_, h3_, h4_⟩
                      have n0_ : Aside0 (Kd.R (Kd.int .u8) 5 w46 w.heap.size (fun k_ => some k_ ≠ (v182 : Value).ownBlock) v179 y178) := ⟨h0_⟩
                      have n1_ : Aside0 (Kd.R (Kd.int .u8) 5 w46 w.heap.size (fun k_ => some k_ ≠ (v179 : Value).ownBlock) v182 y181) := ⟨h1_⟩
                      have n2_ : Aside0 (w46.heap[gb163]? = some (.cells #[.int .i64 0, .int .i64 0, .bool false, .bool false, .int .i64 0, .int .i64 0, .int .i64 0, .int .u32 0, .int .u32 0, .slice none 0 0, .slice none 0 0] 45 (0, 0))) := ⟨h2_⟩
                      have n3_ : Aside0 (w46.heap[gb171]? = some (.cells #[.int .i64 (wrap64 (rd l0 1)), .int .i64 t168, .bool ((Go.bits .and .i64 (t166 / 16384) 1) == 1), .bool ((Go.bits .and .i64 (t166 / 8192) 1) == 1), .int .i64 (Go.bits .and .i64 t166 8191), .int .i64 (wrap64 (rd l0 8)), .int .i64 (wrap64 (rd l0 9)), .int .u32 t172, .int .u32 t173, .slice none 0 0, .slice none 0 0] 45 (0, 0))) := ⟨h3_⟩
                      have n4_ : Aside0 (Below w.heap.size w w46) := ⟨h4_⟩
                      clear BK163
                      clear BK171
                      clear HB
                      clear h0_ h1_ h2_ h3_ h4_
                      have HO180 := n0_
                      have HO183 := n1_
                      have BK163 := n2_
                      have BK171 := n3_
                      have HB := n4_
                      clear n0_ n1_ n2_ n3_ n4_
                      have hHeld := trivial
                      refine norm_ (a' := ?_) ?_ ?_
                      rotate_left
                      · simp only [putAll, Act.put, List.setIfInBounds_toArray, List.set_cons_zero, List.set_cons_succ]
                        rfl
                      refine one_ (i := 10) (N := some 59) #[true, true, true, true, true, true, true, true, true, true, true, true, false, false, false] rfl rfl (one_of HT_.out (by kernel_rfl)) (by decide) (fun K hK => ?_)
                      refine Kd.R_append_rows_step (Kd.int .u8) (w0 := w) w.heap.size (by rfl) (.tmp 54) (.tmp 58) 24 5 (.int .u8 0) 1 rfl Try.underlying24 info5 rfl (by decide) (by omega) v182 y181 ((l0.take ((ji5) : Int).toNat).drop (t164 : Int).toNat) _ _ _ (fun k_ => some k_ ≠ (v179 : Value).ownBlock) (fun _ => False) rfl rfl ?aO ?aR (fun _ _ h => h) (fun _ h => h.elim) ?aF ?aB ?aS ?aL ?_
                      (case aR => first | (refine RR_len (show ((l0.take ((ji5) : Int).toNat).drop (t164 : Int).toNat).length = ((ji5).toNat - t164.toNat) from (by rw [List.length_drop, List.length_take]; have h_ : ((ji5) : Int) ≤ (l0.length : Int) := of_decide_eq_true (by first | (with_reducible assumption) | assumption); omega)) ?_; repeat (first | exact (Kd.C_below HR184.out HB.out) | (with_reducible refine Kd.C_alloc ?_ _) | (with_reducible refine Kd.C_drewN ?_ _) | (with_reducible refine Kd.C_drew ?_))) | (repeat (first | exact (Kd.C_below HR184.out HB.out) | (with_reducible refine Kd.C_alloc ?_ _) | (with_reducible refine Kd.C_drewN ?_ _) | (with_reducible refine Kd.C_drew ?_))))
                      (case aB => exact (by repeat (first | (with_reducible first | exact HB.out | apply below_alloc | apply pw_below_drewN | apply below_drew1 | refine below_set ?_ GE163.out | refine below_set ?_ GE171.out) | exact HB.out)))
                      (case aF => exact (fun k_ hk => Kd.fresh' (Kd.R_lt (by (with_reducible repeat (first | apply Kd.R_alloc | apply Kd.R_drewN | apply Kd.R_drew)); exact HO180.out)) k_ hk))
                      (case aO => exact (by (with_reducible repeat (first | apply Kd.R_alloc | apply Kd.R_drewN | apply Kd.R_drew)); exact HO183.out))
                      (case aS => exact (below_size (by repeat (first | (with_reducible first | exact HB.out | apply below_alloc | apply pw_below_drewN | apply below_drew1 | refine below_set ?_ GE163.out | refine below_set ?_ GE171.out) | exact HB.out))))
                      (case aL => have := LMc19.out; (try rw [hji5] at this); have hlx_ := (show ((l0.take ((ji5) : Int).toNat).drop (t164 : Int).toNat).length = ((ji5).toNat - t164.toNat) from (by rw [List.length_drop, List.length_take]; have h_ : ((ji5) : Int) ≤ (l0.length : Int) := of_decide_eq_true (by first | (with_reducible assumption) | assumption); omega)); omega)
                      intro v186 w47 ho hb hg hat
                      rw [← Ny185.out] at ho
                      have n0_ := Aside0.mk (blk_grown (g := gb163) (o := .cells #[.int .i64 0, .int .i64 0, .bool false, .bool false, .int .i64 0, .int .i64 0, .int .i64 0, .int .u32 0, .int .u32 0, .slice none 0 0, .slice none 0 0] 45 (0, 0)) (by (with_reducible repeat (first | refine blk_drewN ?_ _ | refine blk_drew ?_ | refine blk_alloc ?_ _)); exact BK163.out) hg (Kd.R_ne HO183.out BK163.out (by decide)))
                      have n1_ := Aside0.mk (blk_grown (g := gb171) (o := .cells #[.int .i64 (wrap64 (rd l0 1)), .int .i64 t168, .bool ((Go.bits .and .i64 (t166 / 16384) 1) == 1), .bool ((Go.bits .and .i64 (t166 / 8192) 1) == 1), .int .i64 (Go.bits .and .i64 t166 8191), .int .i64 (wrap64 (rd l0 8)), .int .i64 (wrap64 (rd l0 9)), .int .u32 t172, .int .u32 t173, .slice none 0 0, .slice none 0 0] 45 (0, 0)) (by (with_reducible repeat (first | refine blk_drewN ?_ _ | refine blk_drew ?_ | refine blk_alloc ?_ _)); exact BK171.out) hg (Kd.R_ne HO183.out BK171.out (by decide)))
                      have n2_ := Aside0.mk (Kd.R_after (ok := (fun _ => True)) (by (with_reducible repeat (first | apply Kd.R_alloc | apply Kd.R_drewN | apply Kd.R_drew)); exact Kd.R_mono HO180.out (fun _ hk => ⟨trivial, hk⟩)) hg hat)
                      have n3_ := Aside0.mk (hb)
                      have n4_ := Aside0.mk (ho)
                      clear BK163
                      clear BK171
                      clear HO180
                      clear HB
                      clear HO183
                      have BK163 := n0_
                      have BK171 := n1_
                      have HO180 := n2_
                      have HB := n3_
                      have HO187 := n4_
                      clear n0_ n1_ n2_ n3_ n4_
                      clear ho hb hg hat
                      obtain ⟨Ao48, co48, eo48⟩ := Kd.R_slice HO180.out
                      (first | subst eo48 | (injection eo48 with f1_ f2_ f3_; have f4_ := f1_.symm; have f5_ := f3_.symm; clear f1_ f2_ f3_; subst f4_; subst f5_))
                      obtain ⟨Ao50, co50, eo50⟩ := Kd.R_slice HO187.out
                      (first | subst eo50 | (injection eo50 with f1_ f2_ f3_; have f4_ := f1_.symm; have f5_ := f3_.symm; clear f1_ f2_ f3_; subst f4_; subst f5_))
                      refine hK.out _ _ trivial (fun hHeld => ?_)
                      clear hK K
                      refine norm_ (a' := ?_) ?_ ?_
                      rotate_left
                      · show Act.put _ (some 59) _ = _
                        simp only [Act.put, List.setIfInBounds_toArray, List.set_cons_zero, List.set_cons_succ, i64_w, i32_w]
                        rfl
                      refine one_ (i := 12) (N := none) #[true, true, true, true, true, true, true, true, true, true, true, true, true, false, false] rfl rfl (one_of HT_.out (by kernel_rfl)) (by decide) (fun K hK => ?_)
                      have hs49 : w47.cell? ⟨gb171, 9, none⟩ = some (.slice none 0 0) := (blk_cell BK171.out 9).trans rfl
                      have hfs49 := blk_frozen BK171.out 9
                      have hns49_0 := NB163_171.out
                      have hms49_0 := NB171_163.out
                      refine skip_ (w1 := ?_) (by rfl) rfl ?_ ?_
                      rotate_left
                      · go_simp
                        rfl
                      refine hK.out _ _ trivial (fun hHeld => ?_)
                      clear hK K
                      refine pure_ (i := 13) (N := some 61) (v := ?_) (a' := ?_) #[true, true, true, true, true, true, true, true, true, true, true, true, true, true, false] rfl rfl (any_of HT_.out (by kernel_rfl)) (fun _ _ _ h => h) (Or.inl ⟨by rfl, ?_⟩) ?_ ?_
                      rotate_left
                      · intro w'
                        go_simp
                        with_reducible rfl
                      rotate_left
                      · simp only [Act.put, List.setIfInBounds_toArray, List.set_cons_zero, List.set_cons_succ, i64_w, i32_w]
                        rfl
                      refine one_ (i := 14) (N := none) #[true, true, true, true, true, true, true, true, true, true, true, true, true, true, true] rfl rfl (one_of HT_.out (by kernel_rfl)) (by decide) (fun K hK => ?_)
                      have hs51 : w47.cell? ⟨gb171, 10, none⟩ = some (.slice none 0 0) := (blk_cell BK171.out 10).trans rfl
                      have hfs51 := blk_frozen BK171.out 10
                      have hns51_0 := NB163_171.out
                      have hms51_0 := NB171_163.out
                      refine skip_ (w1 := ?_) (by rfl) rfl ?_ ?_
                      rotate_left
                      · go_simp
                        rfl
                      refine hK.out _ _ trivial (fun hHeld => ?_)
                      clear hK K
                      refine done_ (done_of HT_.out (by kernel_rfl)) ?_
                      have hcz52_0 : w47.cell? ⟨gb171, 0, none⟩ = some (.int .i64 (wrap64 (rd l0 1))) := (blk_cell BK171.out 0).trans rfl
                      have hcz52_1 : w47.cell? ⟨gb171, 1, none⟩ = some (.int .i64 t168) := (blk_cell BK171.out 1).trans rfl
                      have hcz52_2 : w47.cell? ⟨gb171, 2, none⟩ = some (.bool ((Go.bits .and .i64 (t166 / 16384) 1) == 1)) := (blk_cell BK171.out 2).trans rfl
                      have hcz52_3 : w47.cell? ⟨gb171, 3, none⟩ = some (.bool ((Go.bits .and .i64 (t166 / 8192) 1) == 1)) := (blk_cell BK171.out 3).trans rfl
                      have hcz52_4 : w47.cell? ⟨gb171, 4, none⟩ = some (.int .i64 (Go.bits .and .i64 t166 8191)) := (blk_cell BK171.out 4).trans rfl
                      have hcz52_5 : w47.cell? ⟨gb171, 5, none⟩ = some (.int .i64 (wrap64 (rd l0 8))) := (blk_cell BK171.out 5).trans rfl
                      have hcz52_6 : w47.cell? ⟨gb171, 6, none⟩ = some (.int .i64 (wrap64 (rd l0 9))) := (blk_cell BK171.out 6).trans rfl
                      have hcz52_7 : w47.cell? ⟨gb171, 7, none⟩ = some (.int .u32 t172) := (blk_cell BK171.out 7).trans rfl
                      have hcz52_8 : w47.cell? ⟨gb171, 8, none⟩ = some (.int .u32 t173) := (blk_cell BK171.out 8).trans rfl
                      have hcz52_9 : w47.cell? ⟨gb171, 9, none⟩ = some (.slice none 0 0) := (blk_cell BK171.out 9).trans rfl
                      have hcz52_10 : w47.cell? ⟨gb171, 10, none⟩ = some (.slice none 0 0) := (blk_cell BK171.out 10).trans rfl
                      have hfz52_0 := blk_frozen BK171.out 0
                      have hfz52_1 := blk_frozen BK171.out 1
                      have hfz52_2 := blk_frozen BK171.out 2
                      have hfz52_3 := blk_frozen BK171.out 3
                      have hfz52_4 := blk_frozen BK171.out 4
                      have hfz52_5 := blk_frozen BK171.out 5
                      have hfz52_6 := blk_frozen BK171.out 6
                      have hfz52_7 := blk_frozen BK171.out 7
                      have hfz52_8 := blk_frozen BK171.out 8
                      have hfz52_9 := blk_frozen BK171.out 9
                      have hfz52_10 := blk_frozen BK171.out 10
                      have hcz53_0 : w47.cell? ⟨gb163, 0, none⟩ = some (.int .i64 0) := (blk_cell BK163.out 0).trans rfl
                      have hcz53_1 : w47.cell? ⟨gb163, 1, none⟩ = some (.int .i64 0) := (blk_cell BK163.out 1).trans rfl
                      have hcz53_2 : w47.cell? ⟨gb163, 2, none⟩ = some (.bool false) := (blk_cell BK163.out 2).trans rfl
                      have hcz53_3 : w47.cell? ⟨gb163, 3, none⟩ = some (.bool false) := (blk_cell BK163.out 3).trans rfl
                      have hcz53_4 : w47.cell? ⟨gb163, 4, none⟩ = some (.int .i64 0) := (blk_cell BK163.out 4).trans rfl
                      have hcz53_5 : w47.cell? ⟨gb163, 5, none⟩ = some (.int .i64 0) := (blk_cell BK163.out 5).trans rfl
                      have hcz53_6 : w47.cell? ⟨gb163, 6, none⟩ = some (.int .i64 0) := (blk_cell BK163.out 6).trans rfl
                      have hcz53_7 : w47.cell? ⟨gb163, 7, none⟩ = some (.int .u32 0) := (blk_cell BK163.out 7).trans rfl
                      have hcz53_8 : w47.cell? ⟨gb163, 8, none⟩ = some (.int .u32 0) := (blk_cell BK163.out 8).trans rfl
                      have hcz53_9 : w47.cell? ⟨gb163, 9, none⟩ = some (.slice none 0 0) := (blk_cell BK163.out 9).trans rfl
                      have hcz53_10 : w47.cell? ⟨gb163, 10, none⟩ = some (.slice none 0 0) := (blk_cell BK163.out 10).trans rfl
                      have hfz53_0 := blk_frozen BK163.out 0
                      have hfz53_1 := blk_frozen BK163.out 1
                      have hfz53_2 := blk_frozen BK163.out 2
                      have hfz53_3 := blk_frozen BK163.out 3
                      have hfz53_4 := blk_frozen BK163.out 4
                      have hfz53_5 := blk_frozen BK163.out 5
                      have hfz53_6 := blk_frozen BK163.out 6
                      have hfz53_7 := blk_frozen BK163.out 7
                      have hfz53_8 := blk_frozen BK163.out 8
                      have hfz53_9 := blk_frozen BK163.out 9
                      have hfz53_10 := blk_frozen BK163.out 10
                      try go_wp2
                      refine bodyPost_ret (results_cell_row rfl _ _ gb163 45 #[.int .i64 (wrap64 (rd l0 1)), .int .i64 t168, .bool ((Go.bits .and .i64 (t166 / 16384) 1) == 1), .bool ((Go.bits .and .i64 (t166 / 8192) 1) == 1), .int .i64 (Go.bits .and .i64 t166 8191), .int .i64 (wrap64 (rd l0 8)), .int .i64 (wrap64 (rd l0 9)), .int .u32 t172, .int .u32 t173, .slice Ao48 y178.length co48, .slice Ao50 y185.length co50] (0, 0) _ rfl (by (with_reducible repeat (first | refine blk_drewN ?_ _ | refine blk_drew ?_ | refine blk_alloc ?_ _)); refine blk_put (cs := #[.int .i64 (wrap64 (rd l0 1)), .int .i64 t168, .bool ((Go.bits .and .i64 (t166 / 16384) 1) == 1), .bool ((Go.bits .and .i64 (t166 / 8192) 1) == 1), .int .i64 (Go.bits .and .i64 t166 8191), .int .i64 (wrap64 (rd l0 8)), .int .i64 (wrap64 (rd l0 9)), .int .u32 t172, .int .u32 t173, .slice Ao48 y178.length co48, .slice none 0 0]) ?_ 10 _ rfl; (with_reducible repeat (first | refine blk_drewN ?_ _ | refine blk_drew ?_ | refine blk_alloc ?_ _)); refine blk_put (cs := #[.int .i64 (wrap64 (rd l0 1)), .int .i64 t168, .bool ((Go.bits .and .i64 (t166 / 16384) 1) == 1), .bool ((Go.bits .and .i64 (t166 / 8192) 1) == 1), .int .i64 (Go.bits .and .i64 t166 8191), .int .i64 (wrap64 (rd l0 8)), .int .i64 (wrap64 (rd l0 9)), .int .u32 t172, .int .u32 t173, .slice none 0 0, .slice none 0 0]) ?_ 9 _ rfl; (with_reducible repeat (first | refine blk_drewN ?_ _ | refine blk_drew ?_ | refine blk_alloc ?_ _)); refine blk_put (cs := #[.int .i64 (wrap64 (rd l0 1)), .int .i64 t168, .bool ((Go.bits .and .i64 (t166 / 16384) 1) == 1), .bool ((Go.bits .and .i64 (t166 / 8192) 1) == 1), .int .i64 (Go.bits .and .i64 t166 8191), .int .i64 (wrap64 (rd l0 8)), .int .i64 (wrap64 (rd l0 9)), .int .u32 t172, .int .u32 0, .slice none 0 0, .slice none 0 0]) ?_ 8 _ rfl; (with_reducible repeat (first | refine blk_drewN ?_ _ | refine blk_drew ?_ | refine blk_alloc ?_ _)); refine blk_put (cs := #[.int .i64 (wrap64 (rd l0 1)), .int .i64 t168, .bool ((Go.bits .and .i64 (t166 / 16384) 1) == 1), .bool ((Go.bits .and .i64 (t166 / 8192) 1) == 1), .int .i64 (Go.bits .and .i64 t166 8191), .int .i64 (wrap64 (rd l0 8)), .int .i64 (wrap64 (rd l0 9)), .int .u32 0, .int .u32 0, .slice none 0 0, .slice none 0 0]) ?_ 7 _ rfl; (with_reducible repeat (first | refine blk_drewN ?_ _ | refine blk_drew ?_ | refine blk_alloc ?_ _)); refine blk_put (cs := #[.int .i64 (wrap64 (rd l0 1)), .int .i64 t168, .bool ((Go.bits .and .i64 (t166 / 16384) 1) == 1), .bool ((Go.bits .and .i64 (t166 / 8192) 1) == 1), .int .i64 (Go.bits .and .i64 t166 8191), .int .i64 (wrap64 (rd l0 8)), .int .i64 0, .int .u32 0, .int .u32 0, .slice none 0 0, .slice none 0 0]) ?_ 6 _ rfl; (with_reducible repeat (first | refine blk_drewN ?_ _ | refine blk_drew ?_ | refine blk_alloc ?_ _)); refine blk_put (cs := #[.int .i64 (wrap64 (rd l0 1)), .int .i64 t168, .bool ((Go.bits .and .i64 (t166 / 16384) 1) == 1), .bool ((Go.bits .and .i64 (t166 / 8192) 1) == 1), .int .i64 (Go.bits .and .i64 t166 8191), .int .i64 0, .int .i64 0, .int .u32 0, .int .u32 0, .slice none 0 0, .slice none 0 0]) ?_ 5 _ rfl; (with_reducible repeat (first | refine blk_drewN ?_ _ | refine blk_drew ?_ | refine blk_alloc ?_ _)); refine blk_put (cs := #[.int .i64 (wrap64 (rd l0 1)), .int .i64 t168, .bool ((Go.bits .and .i64 (t166 / 16384) 1) == 1), .bool ((Go.bits .and .i64 (t166 / 8192) 1) == 1), .int .i64 0, .int .i64 0, .int .i64 0, .int .u32 0, .int .u32 0, .slice none 0 0, .slice none 0 0]) ?_ 4 _ rfl; (with_reducible repeat (first | refine blk_drewN ?_ _ | refine blk_drew ?_ | refine blk_alloc ?_ _)); refine blk_put (cs := #[.int .i64 (wrap64 (rd l0 1)), .int .i64 t168, .bool ((Go.bits .and .i64 (t166 / 16384) 1) == 1), .bool false, .int .i64 0, .int .i64 0, .int .i64 0, .int .u32 0, .int .u32 0, .slice none 0 0, .slice none 0 0]) ?_ 3 _ rfl; (with_reducible repeat (first | refine blk_drewN ?_ _ | refine blk_drew ?_ | refine blk_alloc ?_ _)); refine blk_put (cs := #[.int .i64 (wrap64 (rd l0 1)), .int .i64 t168, .bool false, .bool false, .int .i64 0, .int .i64 0, .int .i64 0, .int .u32 0, .int .u32 0, .slice none 0 0, .slice none 0 0]) ?_ 2 _ rfl; (with_reducible repeat (first | refine blk_drewN ?_ _ | refine blk_drew ?_ | refine blk_alloc ?_ _)); refine blk_put (cs := #[.int .i64 (wrap64 (rd l0 1)), .int .i64 0, .bool false, .bool false, .int .i64 0, .int .i64 0, .int .i64 0, .int .u32 0, .int .u32 0, .slice none 0 0, .slice none 0 0]) ?_ 1 _ rfl; (with_reducible repeat (first | refine blk_drewN ?_ _ | refine blk_drew ?_ | refine blk_alloc ?_ _)); refine blk_put (cs := #[.int .i64 0, .int .i64 0, .bool false, .bool false, .int .i64 0, .int .i64 0, .int .i64 0, .int .u32 0, .int .u32 0, .slice none 0 0, .slice none 0 0]) ?_ 0 _ rfl; (with_reducible repeat (first | refine blk_drewN ?_ _ | refine blk_drew ?_ | refine blk_alloc ?_ _)); refine blk_far ?_ NB163_171.out _; (with_reducible repeat (first | refine blk_drewN ?_ _ | refine blk_drew ?_ | refine blk_alloc ?_ _)); refine blk_far ?_ NB163_171.out _; (with_reducible repeat (first | refine blk_drewN ?_ _ | refine blk_drew ?_ | refine blk_alloc ?_ _)); exact BK163.out) Try.underlying45 rfl (by kernel_rfl)) rfl ?_
                      exact ⟨_, _, by first | rfl | (simp [errW_none, errW_some] <;> rfl) | (simp only [← hji4, ← hji5]; first | rfl | (simp [errW_none, errW_some] <;> rfl)) | (simp [*, errW_none, errW_some] <;> rfl), by (with_reducible repeat (first | apply Kd.R_alloc | apply Kd.R_drewN | apply Kd.R_drew)); exact Kd.R_mono (Kd.R_far (p := ⟨gb163, 10, none⟩) (Kd.R_far (p := ⟨gb163, 9, none⟩) (Kd.R_far (p := ⟨gb163, 8, none⟩) (Kd.R_far (p := ⟨gb163, 7, none⟩) (Kd.R_far (p := ⟨gb163, 6, none⟩) (Kd.R_far (p := ⟨gb163, 5, none⟩) (Kd.R_far (p := ⟨gb163, 4, none⟩) (Kd.R_far (p := ⟨gb163, 3, none⟩) (Kd.R_far (p := ⟨gb163, 2, none⟩) (Kd.R_far (p := ⟨gb163, 1, none⟩) (Kd.R_far (p := ⟨gb163, 0, none⟩) (Kd.R_far (p := ⟨gb171, 10, none⟩) (Kd.R_far (p := ⟨gb171, 9, none⟩) (Kd.R_types (Kd.R_types HO180.out BK171.out (by decide)) BK163.out (by decide)) (fun _ hk => hk.1.2) (.slice Ao48 y178.length co48)) (fun _ hk => hk.1.2) (.slice Ao50 y185.length co50)) (fun _ hk => hk.2) (.int .i64 (wrap64 (rd l0 1)))) (fun _ hk => hk.2) (.int .i64 t168)) (fun _ hk => hk.2) (.bool ((Go.bits .and .i64 (t166 / 16384) 1) == 1))) (fun _ hk => hk.2) (.bool ((Go.bits .and .i64 (t166 / 8192) 1) == 1))) (fun _ hk => hk.2) (.int .i64 (Go.bits .and .i64 t166 8191))) (fun _ hk => hk.2) (.int .i64 (wrap64 (rd l0 8)))) (fun _ hk => hk.2) (.int .i64 (wrap64 (rd l0 9)))) (fun _ hk => hk.2) (.int .u32 t172)) (fun _ hk => hk.2) (.int .u32 t173)) (fun _ hk => hk.2) (.slice Ao48 y178.length co48)) (fun _ hk => hk.2) (.slice Ao50 y185.length co50)) (fun _ hk => hk.1.1.2), by (with_reducible repeat (first | apply Kd.R_alloc | apply Kd.R_drewN | apply Kd.R_drew)); exact Kd.R_mono (Kd.R_far (p := ⟨gb163, 10, none⟩) (Kd.R_far (p := ⟨gb163, 9, none⟩) (Kd.R_far (p := ⟨gb163, 8, none⟩) (Kd.R_far (p := ⟨gb163, 7, none⟩) (Kd.R_far (p := ⟨gb163, 6, none⟩) (Kd.R_far (p := ⟨gb163, 5, none⟩) (Kd.R_far (p := ⟨gb163, 4, none⟩) (Kd.R_far (p := ⟨gb163, 3, none⟩) (Kd.R_far (p := ⟨gb163, 2, none⟩) (Kd.R_far (p := ⟨gb163, 1, none⟩) (Kd.R_far (p := ⟨gb163, 0, none⟩) (Kd.R_far (p := ⟨gb171, 10, none⟩) (Kd.R_far (p := ⟨gb171, 9, none⟩) (Kd.R_types (Kd.R_types HO187.out BK171.out (by decide)) BK163.out (by decide)) (fun _ hk => hk.1.2) (.slice Ao48 y178.length co48)) (fun _ hk => hk.1.2) (.slice Ao50 y185.length co50)) (fun _ hk => hk.2) (.int .i64 (wrap64 (rd l0 1)))) (fun _ hk => hk.2) (.int .i64 t168)) (fun _ hk => hk.2) (.bool ((Go.bits .and .i64 (t166 / 16384) 1) == 1))) (fun _ hk => hk.2) (.bool ((Go.bits .and .i64 (t166 / 8192) 1) == 1))) (fun _ hk => hk.2) (.int .i64 (Go.bits .and .i64 t166 8191))) (fun _ hk => hk.2) (.int .i64 (wrap64 (rd l0 8)))) (fun _ hk => hk.2) (.int .i64 (wrap64 (rd l0 9)))) (fun _ hk => hk.2) (.int .u32 t172)) (fun _ hk => hk.2) (.int .u32 t173)) (fun _ hk => hk.2) (.slice Ao48 y178.length co48)) (fun _ hk => hk.2) (.slice Ao50 y185.length co50)) (fun _ hk => hk.1.1), by repeat (first | (with_reducible first | exact HB.out | apply below_alloc | apply pw_below_drewN | apply below_drew1 | refine below_set ?_ GE163.out | refine below_set ?_ GE171.out) | exact HB.out)⟩
                    · rw [if_neg c19] at H
                      exact absurd H (by simp)
                  · rw [if_neg c18] at H
                    exact absurd H (by simp)
                · rw [if_neg c17] at H
                  exact absurd H (by simp)
              · rw [if_neg c16] at H
                exact absurd H (by simp)
            · rw [if_neg c15] at H
              exact absurd H (by simp)
          · rw [if_neg c14] at H
            exact absurd H (by simp)
        · rw [if_neg c13] at H
          exact absurd H (by simp)
      · rw [if_neg c10] at H
        exact absurd H (by simp)
    · rw [if_neg c9] at H
      exact absurd H (by simp)
  · rw [if_neg c7] at H
    exact absurd H (by simp)

end Go.Proofs.Ytbpnienknijogaa.QIpParses
