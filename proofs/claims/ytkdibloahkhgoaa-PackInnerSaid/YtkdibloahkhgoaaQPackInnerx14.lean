-- written by myprint.py, a program of this session's over the kit's printer
import Derived.Test.YtkdibloahkhgoaaQPackInnerx0
import Derived.Test.YtkdibloahkhgoaaQPackInnerx1
import Derived.Test.YtkdibloahkhgoaaQPackInnerx3
namespace Go.Proofs.Ytkdibloahkhgoaa.QPackInner
open Go.RowKit Go.Proofs.YtkdibloahkhgoaaW.PrintWords Go.Proofs.YtkdibloahkhgoaaW.PrintLast Go.Proofs.YtkdibloahkhgoaaW.PrintMore
attribute [local go_sem] max2_int min2_int max_two min_two max_three min_three max_four min_four   -- for this text's walks alone
set_option linter.unusedVariables false
set_option linter.unusedSimpArgs false

/-! ### castellanref7_Build: function 36 -/
def castellanref7_Build.j0 : Nat → Bool → Int → Int → Int → List Int → Option (List Int × Int)
 | 0, _, _, _, _, _ => none
 | k + 1, x29, x521000, x521001, x521002, x521003 => if x29 = true then (some (([] : List Int), 1)) else ((some (([(x521000) % 256, (x521001) % 256, 0, 0] : List Int) : List Int)).bind fun y521 => ((castellanref1_Put32.f x521002).bind fun t524 => (if y521.length + t524.length < 140737488355328 then ((some (y521 ++ t524 : List Int)).bind fun y527 => (if y527.length + x521003.length < 140737488355328 then ((some (y527 ++ x521003 : List Int)).bind fun y530 => ((castellanref2_Of.f k y530).bind fun t533 => ((castellanref1_Put16.f t533).bind fun t534 => (if 0 < (t534.length : Int) then (if 1 < (t534.length : Int) then (if 2 < (y530.length : Int) then (if 3 < (y530.length : Int) then (some (((y530.set (2 : Int).toNat (rd t534 0)).set (3 : Int).toNat (rd t534 1)), 0)) else (none)) else (none)) else (none)) else (none))))) else (none))) else (none))))
def castellanref7_Build.f (k : Nat) (a0_0 : Int) (a0_1 : Int) (a0_2 : Int) (l0_3 : List Int) : Option (List Int × Int) := if a0_0 < 0 then (castellanref7_Build.j0 k true a0_0 a0_1 a0_2 l0_3) else (if a0_0 > 255 then (castellanref7_Build.j0 k true a0_0 a0_1 a0_2 l0_3) else (if a0_1 < 0 then (castellanref7_Build.j0 k true a0_0 a0_1 a0_2 l0_3) else (if a0_1 > 255 then (castellanref7_Build.j0 k true a0_0 a0_1 a0_2 l0_3) else (castellanref7_Build.j0 k (decide ((l0_3.length : Int) > 65000)) a0_0 a0_1 a0_2 l0_3))))
theorem castellanref7_Build.mono_l : ∀ k, (∀ y0 y1 y2 y3 y4, LeO (castellanref7_Build.j0 k y0 y1 y2 y3 y4) (castellanref7_Build.j0 (k + 1) y0 y1 y2 y3 y4))
 | 0 => fun _ _ _ _ _ r h => by simp [castellanref7_Build.j0] at h
 | k + 1 => by
  have ih0 := castellanref7_Build.mono_l k
  ·intro y0 y1 y2 y3 y4; unfold castellanref7_Build.j0
   repeat' first
   | (with_reducible exact ih0 _ _ _ _ _)
   | (with_reducible exact castellanref2_Of.mono _ _)
   | (with_reducible exact LeO.refl _)
   | (with_reducible exact LeO.none _)
   | (with_reducible refine LeO.ite ?_ ?_)
   | (with_reducible refine LeO.bind ?_ (fun _ => ?_))
   | exact ih0 _ _ _ _ _
   | exact castellanref2_Of.mono _ _
   | exact LeO.none _
   | refine LeO.ite ?_ ?_
   | refine LeO.bind ?_ (fun _ => ?_)
theorem castellanref7_Build.mono : ∀ a0 a1 a2 a3 k, LeO (castellanref7_Build.f k a0 a1 a2 a3) (castellanref7_Build.f (k + 1) a0 a1 a2 a3) := by
 intro a0 a1 a2 a3 k; have ih0 := castellanref7_Build.mono_l k; unfold castellanref7_Build.f
 repeat' first
   | (with_reducible exact ih0 _ _ _ _ _)
   | (with_reducible exact castellanref2_Of.mono _ _)
   | (with_reducible exact LeO.refl _)
   | (with_reducible exact LeO.none _)
   | (with_reducible refine LeO.ite ?_ ?_)
   | (with_reducible refine LeO.bind ?_ (fun _ => ?_))
   | exact ih0 _ _ _ _ _
   | exact castellanref2_Of.mono _ _
   | exact LeO.none _
   | refine LeO.ite ?_ ?_
   | refine LeO.bind ?_ (fun _ => ?_)
def castellanref7_Build.T3 : Bool × List (List Nat × List Nat) := (true, [([], []), ([0], [0]), ([1], [1]), ([], []), ([3], [3]), ([4], [4]), ([2, 5], [2, 5]), ([], []), ([7], [7]), ([8], [8]), ([6, 9, 9], [6, 9]), ([10, 10, 0, 1, 2, 3, 4, 5, 6, 7, 8, 9, 10], [10])])
def castellanref7_Build.B3 : List Nat := [0, 1, 3, 0, 8, 24, 63, 0, 128, 384, 1023, 2047]
theorem castellanref7_Build.tab3 : rtab .any (opsOf Try.f36 3) = castellanref7_Build.T3 := by kernel_rfl
theorem castellanref7_Build.bits3 : waitsOk castellanref7_Build.T3.2 castellanref7_Build.B3 = true := by kernel_rfl
def castellanref7_Build.T6 : Bool × List (List Nat × List Nat) := (true, [([], []), ([], []), ([], []), ([2], [2]), ([3], [3]), ([], []), ([5], [5]), ([6], [6]), ([0, 0, 2, 3, 4, 7], [0]), ([8, 4, 0, 2, 3, 4, 7], [4, 8]), ([1, 0, 1, 2, 3, 4, 5, 6, 7, 8, 9], [1]), ([10, 7, 9, 0, 1, 2, 3, 4, 5, 6, 7, 8, 9], [7, 10])])
def castellanref7_Build.B6 : List Nat := [0, 0, 0, 4, 12, 0, 32, 96, 253, 509, 1023, 2047]
theorem castellanref7_Build.tab6 : rtab .any (opsOf Try.f36 6) = castellanref7_Build.T6 := by kernel_rfl
theorem castellanref7_Build.bits6 : waitsOk castellanref7_Build.T6.2 castellanref7_Build.B6 = true := by kernel_rfl
set_option maxHeartbeats 8000000 in
set_option maxRecDepth 100000 in
theorem castellanref7_Build.calls (k : Nat) (a0_0 : Int) (a0_1 : Int) (a0_2 : Int) (A0_3 : Option Addr) (c0_3 : Nat) (l0_3 : List Int) (r1 : List Int) (r2 : Int) (w : World) (hr0_3 : Kd.C (Kd.int .u8) w A0_3 l0_3.length l0_3) (hc0_3 : l0_3.length ≤ c0_3) (h : castellanref7_Build.f k a0_0 a0_1 a0_2 l0_3 = some (r1, r2)) :
  Calls Try.prog 36 #[.agg #[.int .i64 a0_0, .int .i64 a0_1, .int .u32 a0_2, .slice A0_3 l0_3.length c0_3]] w fun e w' => ∃ v0_ : Value, e = .returned (.tuple #[v0_, .int .i64 r2]) ∧ Kd.R (Kd.int .u8) 5 w' w.heap.size (fun _ => True) v0_ r1 ∧ Below w.heap.size w w' := by
 have hu50 := Try.underlying50; have HR0_3 := Aside0.mk hr0_3; have HC0_3 := Aside0.mk hc0_3; clear hr0_3 hc0_3; have HB := Aside0.mk (Below.refl w.heap.size w); have H : (if a0_0 < 0 then (castellanref7_Build.j0 k true a0_0 a0_1 a0_2 l0_3) else (if a0_0 > 255 then (castellanref7_Build.j0 k true a0_0 a0_1 a0_2 l0_3) else (if a0_1 < 0 then (castellanref7_Build.j0 k true a0_0 a0_1 a0_2 l0_3) else (if a0_1 > 255 then (castellanref7_Build.j0 k true a0_0 a0_1 a0_2 l0_3) else (castellanref7_Build.j0 k (decide ((l0_3.length : Int) > 65000)) a0_0 a0_1 a0_2 l0_3))))) = some (r1, r2) := h; clear h; have HC2 := Aside0.mk H; clear H; go_enter Try.func36, Try.ntmps36
 go_upto_region 1 with (first | ((with_reducible refine gate_dst (N := 1) rfl ?_); (try (refine gate_guard (by rfl) ?_; dsimp only)); refine box_event ?hg (N := 1) ?hd (cs := #[.int .i64 a0_0, .int .i64 a0_1, .int .u32 a0_2, .slice A0_3 l0_3.length c0_3]) (t := 50) ?hr ?_; (case hd => rfl); (case hg => rfl); (case hr => first | (go_simp; done) | (go_simp; rfl)); intro gb520 hg w3 hbox hb; have n0_ := Aside0.mk (below_step (by repeat (first | (with_reducible first | exact HB.out | apply below_alloc | apply pw_below_drewN | apply below_drew1) | exact HB.out)) hb); have n1_ := Aside0.mk (hbox); have n2_ := Aside0.mk ((by rw [hg]; exact (below_size (by repeat (first | (with_reducible first | exact HB.out | apply below_alloc | apply pw_below_drewN | apply below_drew1) | exact HB.out))) : w.heap.size ≤ gb520)); have n3_ := Aside0.mk ((by rw [hg]; exact (below_size (by repeat (first | (with_reducible first | exact HB.out | apply below_alloc | apply pw_below_drewN | apply below_drew1) | exact HB.out))) : w.heap.size ≤ gb520)); clear HB; have HB := n0_; have BK520 := n1_; have GW520 := n2_; have GE520 := n3_; clear n0_ n1_ n2_ n3_; clear hb hbox hg))
 (try simp only [Act.put, LsA, LsB, LsC])
 go_cut [29] (fun v29 wc => ∃ (kq : Nat) (x29_1 : Bool), v29 = .bool x29_1 ∧ Aside0 (castellanref7_Build.j0 kq x29_1 a0_0 a0_1 a0_2 l0_3 = some (r1, r2)) ∧ Aside0 (kq ≤ k) ∧ Aside0 (wc.heap[gb520]? = some (.cells #[.int .i64 a0_0, .int .i64 a0_1, .int .u32 a0_2, (.slice A0_3 l0_3.length c0_3)] 50 (0, 0))) ∧ Aside0 (Below w.heap.size w wc))
 case first =>
  have H := HC2.out; clear HC2
  by_cases c4 : a0_0 < 0
  ·rw [if_pos c4] at H; have c4b0 : decide (a0_0 < 0) = true := decide_eq_true c4; clear c4
   (first | rw [c4b0] | (simp only [i64_w, i32_w]; rw [c4b0]) | skip)
   have H' := Aside0.mk H; clear H; have hcz5 := fun j => blk_cell BK520.out j
   have hfz5 := fun j => blk_frozen BK520.out j
   go_wp2; go_meet
   case rel => exact ⟨_, (true), (by first | rfl | (simp; done) | (simp [*]; done)), H', ⟨by first | omega | exact Nat.le_refl _⟩, ⟨by (with_reducible repeat (first | refine blk_drewN ?_ _ | refine blk_drew ?_ | refine blk_alloc ?_ _)); exact BK520.out⟩, ⟨by repeat (first | (with_reducible first | exact HB.out | apply below_alloc | apply pw_below_drewN | apply below_drew1 | refine below_set ?_ GE520.out) | exact HB.out)⟩⟩
  ·rw [if_neg c4] at H; have c4b0 : decide (a0_0 < 0) = false := decide_eq_false c4; clear c4
   (first | rw [c4b0] | (simp only [i64_w, i32_w]; rw [c4b0]) | skip)
   by_cases c6 : a0_0 > 255
   ·rw [if_pos c6] at H; have c6b0 : decide (255 < a0_0) = true := decide_eq_true c6; clear c6; have H' := Aside0.mk H; clear H; have hcz7 := fun j => blk_cell BK520.out j
    have hfz7 := fun j => blk_frozen BK520.out j
    go_wp2; go_meet
    case rel => exact ⟨_, (true), (by first | rfl | (simp; done) | (simp [*]; done)), H', ⟨by first | omega | exact Nat.le_refl _⟩, ⟨by (with_reducible repeat (first | refine blk_drewN ?_ _ | refine blk_drew ?_ | refine blk_alloc ?_ _)); exact BK520.out⟩, ⟨by repeat (first | (with_reducible first | exact HB.out | apply below_alloc | apply pw_below_drewN | apply below_drew1 | refine below_set ?_ GE520.out) | exact HB.out)⟩⟩
   ·rw [if_neg c6] at H; have c6b0 : decide (255 < a0_0) = false := decide_eq_false c6; clear c6
    by_cases c8 : a0_1 < 0
    ·rw [if_pos c8] at H; have c8b0 : decide (a0_1 < 0) = true := decide_eq_true c8; clear c8; have H' := Aside0.mk H; clear H; have hcz9 := fun j => blk_cell BK520.out j
     have hfz9 := fun j => blk_frozen BK520.out j
     go_wp2; go_meet
     case rel => exact ⟨_, (true), (by first | rfl | (simp; done) | (simp [*]; done)), H', ⟨by first | omega | exact Nat.le_refl _⟩, ⟨by (with_reducible repeat (first | refine blk_drewN ?_ _ | refine blk_drew ?_ | refine blk_alloc ?_ _)); exact BK520.out⟩, ⟨by repeat (first | (with_reducible first | exact HB.out | apply below_alloc | apply pw_below_drewN | apply below_drew1 | refine below_set ?_ GE520.out) | exact HB.out)⟩⟩
    ·rw [if_neg c8] at H; have c8b0 : decide (a0_1 < 0) = false := decide_eq_false c8; clear c8
     by_cases c10 : a0_1 > 255
     ·rw [if_pos c10] at H; have c10b0 : decide (255 < a0_1) = true := decide_eq_true c10; clear c10; have H' := Aside0.mk H; clear H; have hcz11 := fun j => blk_cell BK520.out j
      have hfz11 := fun j => blk_frozen BK520.out j
      go_wp2; go_meet
      case rel => exact ⟨_, (true), (by first | rfl | (simp; done) | (simp [*]; done)), H', ⟨by first | omega | exact Nat.le_refl _⟩, ⟨by (with_reducible repeat (first | refine blk_drewN ?_ _ | refine blk_drew ?_ | refine blk_alloc ?_ _)); exact BK520.out⟩, ⟨by repeat (first | (with_reducible first | exact HB.out | apply below_alloc | apply pw_below_drewN | apply below_drew1 | refine below_set ?_ GE520.out) | exact HB.out)⟩⟩
     ·rw [if_neg c10] at H; have c10b0 : decide (255 < a0_1) = false := decide_eq_false c10; clear c10; have H' := Aside0.mk H; clear H; have hcz12 := fun j => blk_cell BK520.out j
      have hfz12 := fun j => blk_frozen BK520.out j
      go_wp2; go_meet
      case rel => exact ⟨_, (decide ((l0_3.length : Int) > 65000)), (by first | rfl | (simp; done) | (simp [*]; done)), H', ⟨by first | omega | exact Nat.le_refl _⟩, ⟨by (with_reducible repeat (first | refine blk_drewN ?_ _ | refine blk_drew ?_ | refine blk_alloc ?_ _)); exact BK520.out⟩, ⟨by repeat (first | (with_reducible first | exact HB.out | apply below_alloc | apply pw_below_drewN | apply below_drew1 | refine below_set ?_ GE520.out) | exact HB.out)⟩⟩
 case rest =>
  clear HC2
  try clear c1
  try clear p2
  try clear c3
  try clear c4
  try clear c4b0
  try clear c6
  try clear c6b0
  try clear c8
  try clear c8b0
  try clear c10
  try clear c10b0
  try clear hcz11
  try clear hcz12
  try clear hcz5
  try clear hcz7
  try clear hcz9
  try clear hfz11
  try clear hfz12
  try clear hfz5
  try clear hfz7
  try clear hfz9
  obtain ⟨kq, x29_1, rfl, HA, HJ1, BK520, HB⟩ := hcut
  cases kq with
  | zero => exact absurd HA.out (by simp [castellanref7_Build.j0])
  | succ kj1 =>
   have H := HA.out; clear HA; simp only [castellanref7_Build.j0] at H
   by_cases c13 : x29_1 = true
   ·subst c13; have H1 : (some (([] : List Int), 1)) = some (r1, r2) := by rw [if_pos rfl] at H; exact H
    clear H; have H := H1; clear H1; simp only [Option.some.injEq, Prod.mk.injEq] at H; obtain ⟨rfl, rfl⟩ := H; go_wp2
    go_ret2
    exact ⟨_, by first | rfl | (simp [errW_none, errW_some] <;> rfl) | (simp [*, errW_none, errW_some] <;> rfl), by first | exact Kd.R_nil _ _ _ _ _ | exact Kd.N_nil _ _ _ _ _ | exact Kd.V_nil _ _ _ _ _ | exact Kd.Q_nil _ _ _ _ _ | exact Kd.S_nil _ _ _ _ _, by repeat (first | (with_reducible first | exact HB.out | apply below_alloc | apply pw_below_drewN | apply below_drew1 | refine below_set ?_ GE520.out) | exact HB.out)⟩
   ·replace c13 := Bool.eq_false_iff.mpr c13; subst c13; have H1 : ((some (([(a0_0) % 256, (a0_1) % 256, 0, 0] : List Int) : List Int)).bind fun y521 => ((castellanref1_Put32.f a0_2).bind fun t524 => (if y521.length + t524.length < 140737488355328 then ((some (y521 ++ t524 : List Int)).bind fun y527 => (if y527.length + l0_3.length < 140737488355328 then ((some (y527 ++ l0_3 : List Int)).bind fun y530 => ((castellanref2_Of.f kj1 y530).bind fun t533 => ((castellanref1_Put16.f t533).bind fun t534 => (if 0 < (t534.length : Int) then (if 1 < (t534.length : Int) then (if 2 < (y530.length : Int) then (if 3 < (y530.length : Int) then (some (((y530.set (2 : Int).toNat (rd t534 0)).set (3 : Int).toNat (rd t534 1)), 0)) else (none)) else (none)) else (none)) else (none))))) else (none))) else (none)))) = some (r1, r2) := by rw [if_neg (show ¬ (false = true) by decide)] at H; exact H
    clear H; have H := H1; clear H1
    obtain ⟨y521, hy521⟩ : ∃ y_ : List Int, y_ = (([(a0_0) % 256, (a0_1) % 256, 0, 0] : List Int)) := ⟨_, rfl⟩
    replace H : ((castellanref1_Put32.f a0_2).bind fun t524 => (if y521.length + t524.length < 140737488355328 then ((some (y521 ++ t524 : List Int)).bind fun y527 => (if y527.length + l0_3.length < 140737488355328 then ((some (y527 ++ l0_3 : List Int)).bind fun y530 => ((castellanref2_Of.f kj1 y530).bind fun t533 => ((castellanref1_Put16.f t533).bind fun t534 => (if 0 < (t534.length : Int) then (if 1 < (t534.length : Int) then (if 2 < (y530.length : Int) then (if 3 < (y530.length : Int) then (some (((y530.set (2 : Int).toNat (rd t534 0)).set (3 : Int).toNat (rd t534 1)), 0)) else (none)) else (none)) else (none)) else (none))))) else (none))) else (none))) = some (r1, r2) := by first | (rw [hy521]; with_reducible exact H) | (have H2_ := (Option.bind_some _ _).symm.trans H; rw [hy521]; with_reducible exact H2_) | (have H2_ := (Option.bind_some _ _).symm.trans H; with_reducible exact H2_) | with_reducible exact H | (rw [hy521]; exact H) | exact H
    have Ny521 := Aside0.mk hy521; clear hy521; replace H := Option.bind_eq_some_iff.mp H; obtain ⟨t524, A140, H⟩ := H; replace H : (if y521.length + t524.length < 140737488355328 then ((some (y521 ++ t524 : List Int)).bind fun y527 => (if y527.length + l0_3.length < 140737488355328 then ((some (y527 ++ l0_3 : List Int)).bind fun y530 => ((castellanref2_Of.f kj1 y530).bind fun t533 => ((castellanref1_Put16.f t533).bind fun t534 => (if 0 < (t534.length : Int) then (if 1 < (t534.length : Int) then (if 2 < (y530.length : Int) then (if 3 < (y530.length : Int) then (some (((y530.set (2 : Int).toNat (rd t534 0)).set (3 : Int).toNat (rd t534 1)), 0)) else (none)) else (none)) else (none)) else (none))))) else (none))) else (none)) = some (r1, r2) := H; have A14 := Aside0.mk A140; clear A140
    by_cases c15 : y521.length + t524.length < 140737488355328
    ·rw [if_pos c15] at H; have LMc15 := Aside0.mk c15; clear c15
     obtain ⟨y527, hy527⟩ : ∃ y_ : List Int, y_ = (y521 ++ t524) := ⟨_, rfl⟩
     replace H : (if y527.length + l0_3.length < 140737488355328 then ((some (y527 ++ l0_3 : List Int)).bind fun y530 => ((castellanref2_Of.f kj1 y530).bind fun t533 => ((castellanref1_Put16.f t533).bind fun t534 => (if 0 < (t534.length : Int) then (if 1 < (t534.length : Int) then (if 2 < (y530.length : Int) then (if 3 < (y530.length : Int) then (some (((y530.set (2 : Int).toNat (rd t534 0)).set (3 : Int).toNat (rd t534 1)), 0)) else (none)) else (none)) else (none)) else (none))))) else (none)) = some (r1, r2) := by first | (rw [hy527]; with_reducible exact H) | (have H2_ := (Option.bind_some _ _).symm.trans H; rw [hy527]; with_reducible exact H2_) | (have H2_ := (Option.bind_some _ _).symm.trans H; with_reducible exact H2_) | with_reducible exact H | (rw [hy527]; exact H) | exact H
     have Ny527 := Aside0.mk hy527; clear hy527
     by_cases c16 : y527.length + l0_3.length < 140737488355328
     ·rw [if_pos c16] at H; have LMc16 := Aside0.mk c16; clear c16
      obtain ⟨y530, hy530⟩ : ∃ y_ : List Int, y_ = (y527 ++ l0_3) := ⟨_, rfl⟩
      replace H : ((castellanref2_Of.f kj1 y530).bind fun t533 => ((castellanref1_Put16.f t533).bind fun t534 => (if 0 < (t534.length : Int) then (if 1 < (t534.length : Int) then (if 2 < (y530.length : Int) then (if 3 < (y530.length : Int) then (some (((y530.set (2 : Int).toNat (rd t534 0)).set (3 : Int).toNat (rd t534 1)), 0)) else (none)) else (none)) else (none)) else (none)))) = some (r1, r2) := by first | (rw [hy530]; with_reducible exact H) | (have H2_ := (Option.bind_some _ _).symm.trans H; rw [hy530]; with_reducible exact H2_) | (have H2_ := (Option.bind_some _ _).symm.trans H; with_reducible exact H2_) | with_reducible exact H | (rw [hy530]; exact H) | exact H
      have Ny530 := Aside0.mk hy530; clear hy530; replace H := Option.bind_eq_some_iff.mp H; obtain ⟨t533, A170, H⟩ := H; replace H : ((castellanref1_Put16.f t533).bind fun t534 => (if 0 < (t534.length : Int) then (if 1 < (t534.length : Int) then (if 2 < (y530.length : Int) then (if 3 < (y530.length : Int) then (some (((y530.set (2 : Int).toNat (rd t534 0)).set (3 : Int).toNat (rd t534 1)), 0)) else (none)) else (none)) else (none)) else (none))) = some (r1, r2) := H; have A17 := Aside0.mk A170; clear A170; replace H := Option.bind_eq_some_iff.mp H; obtain ⟨t534, A180, H⟩ := H; replace H : (if 0 < (t534.length : Int) then (if 1 < (t534.length : Int) then (if 2 < (y530.length : Int) then (if 3 < (y530.length : Int) then (some (((y530.set (2 : Int).toNat (rd t534 0)).set (3 : Int).toNat (rd t534 1)), 0)) else (none)) else (none)) else (none)) else (none)) = some (r1, r2) := H; have A18 := Aside0.mk A180; clear A180
      by_cases c19 : 0 < (t534.length : Int)
      ·rw [if_pos c19] at H; have c19b0 : decide (0 < (t534.length : Int)) = true := decide_eq_true c19; have c19b1 : decide (0 < t534.length) = true := decide_eq_true (by omega); clear c19
       by_cases c20 : 1 < (t534.length : Int)
       ·rw [if_pos c20] at H; have c20b0 : decide (1 < (t534.length : Int)) = true := decide_eq_true c20; have c20b1 : decide (1 < t534.length) = true := decide_eq_true (by omega); clear c20
        by_cases c21 : 2 < (y530.length : Int)
        ·rw [if_pos c21] at H; have c21b0 : decide (2 < (y530.length : Int)) = true := decide_eq_true c21; have c21b1 : decide (2 < y530.length) = true := decide_eq_true (by omega); clear c21
         obtain ⟨y539, hy539⟩ : ∃ y_ : List Int, y_ = (y530.set (2 : Int).toNat (rd t534 0)) := ⟨_, rfl⟩
         replace H : (if 3 < (y530.length : Int) then (some ((y539.set (3 : Int).toNat (rd t534 1)), 0)) else (none)) = some (r1, r2) := by first | (rw [hy539]; with_reducible exact H) | (have H2_ := (Option.bind_some _ _).symm.trans H; rw [hy539]; with_reducible exact H2_) | (have H2_ := (Option.bind_some _ _).symm.trans H; with_reducible exact H2_) | with_reducible exact H | (rw [hy539]; exact H) | exact H
         have Ny539 := Aside0.mk hy539; clear hy539
         by_cases c23 : 3 < (y530.length : Int)
         ·rw [if_pos c23] at H; have c23b0 : decide (3 < (y530.length : Int)) = true := decide_eq_true c23; have c23b1 : decide (3 < y530.length) = true := decide_eq_true (by omega); clear c23
          obtain ⟨y540, hy540⟩ : ∃ y_ : List Int, y_ = (y539.set (3 : Int).toNat (rd t534 1)) := ⟨_, rfl⟩
          replace H : (some (y540, 0)) = some (r1, r2) := by first | (rw [hy540]; with_reducible exact H) | (have H2_ := (Option.bind_some _ _).symm.trans H; rw [hy540]; with_reducible exact H2_) | (have H2_ := (Option.bind_some _ _).symm.trans H; with_reducible exact H2_) | with_reducible exact H | (rw [hy540]; exact H) | exact H
          have Ny540 := Aside0.mk hy540; clear hy540; simp only [Option.some.injEq, Prod.mk.injEq] at H; obtain ⟨rfl, rfl⟩ := H
          try go_wp2
          have n0_ := Aside0.mk (blk_drew BK520.out); have n1_ := Aside0.mk (below_drew1 HB.out); clear BK520; clear HB; have BK520 := n0_; have HB := n1_; clear n0_ n1_; refine start_ (n := 12) (S := fun w' => w'.cell? ⟨gb520, 0, none⟩ = some (.int .i64 a0_0) ∧ w'.cell? ⟨gb520, 1, none⟩ = some (.int .i64 a0_1) ∧ w'.cell? ⟨gb520, 2, none⟩ = some (.int .u32 a0_2) ∧ w'.cell? ⟨gb520, 3, none⟩ = some (.slice A0_3 l0_3.length c0_3)) (ds := []) (bm 12 0) (by kernel_rfl) rfl rfl ⟨(blk_cell BK520.out 0).trans rfl, (blk_cell BK520.out 1).trans rfl, (blk_cell BK520.out 2).trans rfl, (blk_cell BK520.out 3).trans rfl⟩ (fun hHeld => ?_); refine with_tabW castellanref7_Build.tab3 castellanref7_Build.bits3 (fun HT_ HW_ => ?_)
          generalize wc.drew = w25 at BK520 HB hHeld ⊢; refine pure_ (i := 0) (N := some 30) (v := ?_) (a' := ?_) (bm 12 1) rfl rfl (any_of HT_.out (by kernel_rfl)) (fun _ _ _ h => h) (Or.inl ⟨by rfl, ?_⟩) ?_ ?_; rotate_left
          ·intro w'; go_simp; with_reducible rfl
          rotate_left
          ·simp only [Act.put, LsA, LsB, LsC, i64_w, i32_w]; rfl
          refine pure_ (i := 3) (N := some 33) (v := ?_) (a' := ?_) (bm 12 9) rfl rfl (any_of HT_.out (by kernel_rfl)) (fun _ _ _ h => h) (Or.inl ⟨by rfl, ?_⟩) ?_ ?_; rotate_left
          ·intro w'; go_simp; with_reducible rfl
          rotate_left
          ·simp only [Act.put, LsA, LsB, LsC, i64_w, i32_w]; rfl
          refine pure_ (i := 7) (N := some 37) (v := ?_) (a' := ?_) (bm 12 137) rfl rfl (any_of HT_.out (by kernel_rfl)) (fun _ _ _ h => h) (Or.inl ⟨by rfl, ?_⟩) ?_ ?_; rotate_left
          ·intro w'; go_simp; with_reducible rfl
          rotate_left
          ·simp only [Act.put, LsA, LsB, LsC, i64_w, i32_w]; rfl
          refine take_ (i := 1) (N := some 31) (v := ?_) (a' := ?_) (bm 12 139) rfl rfl (take_ofW HT_.out HW_.out (by kernel_rfl)) (fun _ _ _ h => h) (Or.inl ⟨by rfl, ?_⟩) hHeld ?_ ?_; rotate_left
          ·rintro w' ⟨s0, s1, s2, s3⟩; go_simp; with_reducible rfl
          rotate_left
          ·simp only [Act.put, LsA, LsB, LsC, i64_w, i32_w]; rfl
          refine pure_ (i := 2) (N := some 32) (v := ?_) (a' := ?_) (bm 12 143) rfl rfl (any_of HT_.out (by kernel_rfl)) (fun _ _ _ h => h) (Or.inl ⟨by rfl, ?_⟩) ?_ ?_; rotate_left
          ·intro w'; go_simp; with_reducible rfl
          rotate_left
          ·simp only [Act.put, LsA, LsB, LsC, i64_w, i32_w]; rfl
          refine take_ (i := 4) (N := some 34) (v := ?_) (a' := ?_) (bm 12 159) rfl rfl (take_ofW HT_.out HW_.out (by kernel_rfl)) (fun _ _ _ h => h) (Or.inl ⟨by rfl, ?_⟩) hHeld ?_ ?_; rotate_left
          ·rintro w' ⟨s0, s1, s2, s3⟩; go_simp; with_reducible rfl
          rotate_left
          ·simp only [Act.put, LsA, LsB, LsC, i64_w, i32_w]; rfl
          refine pure_ (i := 5) (N := some 35) (v := ?_) (a' := ?_) (bm 12 191) rfl rfl (any_of HT_.out (by kernel_rfl)) (fun _ _ _ h => h) (Or.inl ⟨by rfl, ?_⟩) ?_ ?_; rotate_left
          ·intro w'; go_simp; with_reducible rfl
          rotate_left
          ·simp only [Act.put, LsA, LsB, LsC, i64_w, i32_w]; rfl
          refine take_ (i := 8) (N := some 38) (v := ?_) (a' := ?_) (bm 12 447) rfl rfl (take_ofW HT_.out HW_.out (by kernel_rfl)) (fun _ _ _ h => h) (Or.inl ⟨by rfl, ?_⟩) hHeld ?_ ?_; rotate_left
          ·rintro w' ⟨s0, s1, s2, s3⟩; go_simp; with_reducible rfl
          rotate_left
          ·simp only [Act.put, LsA, LsB, LsC, i64_w, i32_w]; rfl
          refine join_ (σ := Value × Value) 2 (bm 12 1023) (fun s_ => [(36, s_.1), (39, s_.2)]) (fun s_ w' => (w'.cell? ⟨gb520, 0, none⟩ = some (.int .i64 a0_0) ∧ w'.cell? ⟨gb520, 1, none⟩ = some (.int .i64 a0_1) ∧ w'.cell? ⟨gb520, 2, none⟩ = some (.int .u32 a0_2) ∧ w'.cell? ⟨gb520, 3, none⟩ = some (.slice A0_3 l0_3.length c0_3)) ∧ (Kd.R (Kd.int .u8) 5 w' w.heap.size (fun k_ => some k_ ≠ (s_.2 : Value).ownBlock) s_.1 y521) ∧ (Kd.R (Kd.int .u8) 5 w' w.heap.size (fun k_ => some k_ ≠ (s_.1 : Value).ownBlock) s_.2 t524) ∧ (w'.heap[gb520]? = some (.cells #[.int .i64 a0_0, .int .i64 a0_1, .int .u32 a0_2, .slice A0_3 l0_3.length c0_3] 50 (0, 0))) ∧ (Below w.heap.size w w')) ?_ ?_; rotate_left
          ·intro hCont; refine two_ (i := 6) (j := 9) (Ni := some 36) (Nj := some 39) (bm 12 511) (bm 12 959) rfl rfl rfl rfl (two_of HT_.out (by kernel_rfl)) (by decide) (by decide) (fun K hK => ?_) (fun K hK => ?_)
           ·skip
            refine Kd.R_lit_step (Kd.int .u8) _ 5 ?hg (N := 36) ?hd (xs := ([(a0_0) % 256, (a0_1) % 256, 0, 0] : List Int)) (inner := [.int .u8 ((a0_0) % 256), .int .u8 ((a0_1) % 256), .int .u8 0, .int .u8 0]) (ok := fun _ => True) (okp := fun _ => True) ?hr ?hp (fun _ hk => hk) trivial (Below.refl _ _) (Nat.le_refl _) (by simp) ?_; (case hd => rfl); (case hg => rfl); (case hr => first | (go_simp; done) | (go_simp; rfl)); (case hp => exact (Reps.one (show Kd.M (Kd.int .u8) _ _ _ ((a0_0) % 256) [.int .u8 ((a0_0) % 256)] from rfl) (Reps.one (show Kd.M (Kd.int .u8) _ _ _ ((a0_1) % 256) [.int .u8 ((a0_1) % 256)] from rfl) (Reps.one (show Kd.M (Kd.int .u8) _ _ _ 0 [.int .u8 0] from rfl) (Reps.one (show Kd.M (Kd.int .u8) _ _ _ 0 [.int .u8 0] from rfl) (Reps.none _ _))))))
            intro v522 w26 ho27 hb hg_ hnew_; clear hg_ hnew_
            (first | rw [← Ny521.out] at ho27 | (simp only [Int.reduceToNat] at ho27; rw [← Ny521.out] at ho27))
            have n0_ := Aside0.mk (Kd.R_lower ho27 (below_size (by repeat (first | (with_reducible first | exact HB.out | apply below_alloc | apply pw_below_drewN | apply below_drew1 | refine below_set ?_ GE520.out) | exact HB.out)))); have n1_ := Aside0.mk (blk_below (g := gb520) (o := .cells #[.int .i64 a0_0, .int .i64 a0_1, .int .u32 a0_2, .slice A0_3 l0_3.length c0_3] 50 (0, 0)) (by (with_reducible repeat (first | refine blk_drewN ?_ _ | refine blk_drew ?_ | refine blk_alloc ?_ _)); exact BK520.out) hb); have n2_ := Aside0.mk (below_step (by repeat (first | (with_reducible first | exact HB.out | apply below_alloc | apply pw_below_drewN | apply below_drew1 | refine below_set ?_ GE520.out) | exact HB.out)) hb); clear BK520; clear HB; have HO523 := n0_; have BK520 := n1_; have HB := n2_; clear n0_ n1_ n2_; clear hb ho27; refine hK.out _ _ ⟨(blk_cell BK520.out 0).trans rfl, (blk_cell BK520.out 1).trans rfl, (blk_cell BK520.out 2).trans rfl, (blk_cell BK520.out 3).trans rfl⟩ (fun hHeld => ?_); clear hK K; refine norm_ (a' := ?_) ?_ ?_; rotate_left
            ·show Act.put _ (some 36) _ = _; simp only [Act.put, LsA, LsB, LsC, i64_w, i32_w]; rfl
            refine one_ (i := 9) (N := some 39) (bm 12 1023) rfl rfl (one_of HT_.out (by kernel_rfl)) (by decide) (fun K hK => ?_); refine goes_ Try.func44 (by kernel_rfl) rfl #[.int .u32 a0_2] (by rfl) rfl rfl (by (try simp only [LmA, LmB, LmC]); first | done | rfl | (simp only [LdA, LtA]; rfl)) ?_
            with_reducible refine (castellanref1_Put32.calls a0_2 t524 _ A14.out).mono ?_
            rintro e w28 ⟨v525, rfl, ho0, hb⟩; refine ⟨_, rfl, ?_⟩; have n0_ := Aside0.mk (Kd.R_elder' (by (with_reducible repeat (first | apply Kd.R_alloc | apply Kd.R_drewN | apply Kd.R_drew)); exact HO523.out) (Kd.R_base ho0) hb); have n1_ := Aside0.mk (Kd.R_lower (Kd.R_new' ho0 (Kd.R_lt (by (with_reducible repeat (first | apply Kd.R_alloc | apply Kd.R_drewN | apply Kd.R_drew)); exact HO523.out))) (below_size (by repeat (first | (with_reducible first | exact HB.out | apply below_alloc | apply pw_below_drewN | apply below_drew1 | refine below_set ?_ GE520.out) | exact HB.out)))); have n2_ := Aside0.mk (blk_below (g := gb520) (o := .cells #[.int .i64 a0_0, .int .i64 a0_1, .int .u32 a0_2, .slice A0_3 l0_3.length c0_3] 50 (0, 0)) (by (with_reducible repeat (first | refine blk_drewN ?_ _ | refine blk_drew ?_ | refine blk_alloc ?_ _)); exact BK520.out) hb); have n3_ := Aside0.mk (below_step (by repeat (first | (with_reducible first | exact HB.out | apply below_alloc | apply pw_below_drewN | apply below_drew1 | refine below_set ?_ GE520.out) | exact HB.out)) hb); clear HO523; clear BK520; clear HB; have HO523 := n0_; have HO526 := n1_; have BK520 := n2_; have HB := n3_; clear n0_ n1_ n2_ n3_; (try clear hb); (try clear hb2); (try clear hk); (try clear hi); (try clear ho0); refine hK.out _ _ ⟨(blk_cell BK520.out 0).trans rfl, (blk_cell BK520.out 1).trans rfl, (blk_cell BK520.out 2).trans rfl, (blk_cell BK520.out 3).trans rfl⟩ (fun hHeld => ?_); clear hK K; refine norm_ (a' := ?_) ?_ ?_; rotate_left
            ·show Act.put _ (some 39) _ = _; simp only [Act.put, LsA, LsB, LsC, i64_w, i32_w]; rfl
            exact norm_ (by simp only [putAll, Act.put, LsA, LsB, LsC]) (hCont (v522, v525) _ ⟨hHeld, (by (with_reducible repeat (first | apply Kd.R_alloc | apply Kd.R_drewN | apply Kd.R_drew)); exact Kd.R_mono HO523.out (fun _ hk => hk.2)), (by (with_reducible repeat (first | apply Kd.R_alloc | apply Kd.R_drewN | apply Kd.R_drew)); exact Kd.R_mono HO526.out (fun _ hk => hk.2)), (by (with_reducible repeat (first | refine blk_drewN ?_ _ | refine blk_drew ?_ | refine blk_alloc ?_ _)); exact BK520.out), (by repeat (first | (with_reducible first | exact HB.out | apply below_alloc | apply pw_below_drewN | apply below_drew1 | refine below_set ?_ GE520.out) | exact HB.out))⟩)
           ·skip
            refine goes_ Try.func44 (by kernel_rfl) rfl #[.int .u32 a0_2] (by rfl) rfl rfl (by (try simp only [LmA, LmB, LmC]); first | done | rfl | (simp only [LdA, LtA]; rfl)) ?_
            with_reducible refine (castellanref1_Put32.calls a0_2 t524 _ A14.out).mono ?_
            rintro e w26 ⟨v525, rfl, ho0, hb⟩; refine ⟨_, rfl, ?_⟩; have n0_ := Aside0.mk (Kd.R_lower ho0 (below_size (by repeat (first | (with_reducible first | exact HB.out | apply below_alloc | apply pw_below_drewN | apply below_drew1 | refine below_set ?_ GE520.out) | exact HB.out)))); have n1_ := Aside0.mk (blk_below (g := gb520) (o := .cells #[.int .i64 a0_0, .int .i64 a0_1, .int .u32 a0_2, .slice A0_3 l0_3.length c0_3] 50 (0, 0)) (by (with_reducible repeat (first | refine blk_drewN ?_ _ | refine blk_drew ?_ | refine blk_alloc ?_ _)); exact BK520.out) hb); have n2_ := Aside0.mk (below_step (by repeat (first | (with_reducible first | exact HB.out | apply below_alloc | apply pw_below_drewN | apply below_drew1 | refine below_set ?_ GE520.out) | exact HB.out)) hb); clear BK520; clear HB; have HO526 := n0_; have BK520 := n1_; have HB := n2_; clear n0_ n1_ n2_; (try clear hb); (try clear hb2); (try clear hk); (try clear hi); (try clear ho0); refine hK.out _ _ ⟨(blk_cell BK520.out 0).trans rfl, (blk_cell BK520.out 1).trans rfl, (blk_cell BK520.out 2).trans rfl, (blk_cell BK520.out 3).trans rfl⟩ (fun hHeld => ?_); clear hK K; refine norm_ (a' := ?_) ?_ ?_; rotate_left
            ·show Act.put _ (some 39) _ = _; simp only [Act.put, LsA, LsB, LsC, i64_w, i32_w]; rfl
            refine one_ (i := 6) (N := some 36) (bm 12 1023) rfl rfl (one_of HT_.out (by kernel_rfl)) (by decide) (fun K hK => ?_); refine Kd.R_lit_step (Kd.int .u8) _ 5 ?hg (N := 36) ?hd (xs := ([(a0_0) % 256, (a0_1) % 256, 0, 0] : List Int)) (inner := [.int .u8 ((a0_0) % 256), .int .u8 ((a0_1) % 256), .int .u8 0, .int .u8 0]) (ok := fun _ => True) (okp := fun _ => True) ?hr ?hp (fun _ hk => hk) trivial (Below.refl _ _) (Nat.le_refl _) (by simp) ?_; (case hd => rfl); (case hg => rfl); (case hr => first | (go_simp; done) | (go_simp; rfl)); (case hp => exact (Reps.one (show Kd.M (Kd.int .u8) _ _ _ ((a0_0) % 256) [.int .u8 ((a0_0) % 256)] from rfl) (Reps.one (show Kd.M (Kd.int .u8) _ _ _ ((a0_1) % 256) [.int .u8 ((a0_1) % 256)] from rfl) (Reps.one (show Kd.M (Kd.int .u8) _ _ _ 0 [.int .u8 0] from rfl) (Reps.one (show Kd.M (Kd.int .u8) _ _ _ 0 [.int .u8 0] from rfl) (Reps.none _ _))))))
            intro v522 w27 ho28 hb hg_ hnew_; clear hg_ hnew_
            (first | rw [← Ny521.out] at ho28 | (simp only [Int.reduceToNat] at ho28; rw [← Ny521.out] at ho28))
            have n0_ := Aside0.mk (Kd.R_elder' (by (with_reducible repeat (first | apply Kd.R_alloc | apply Kd.R_drewN | apply Kd.R_drew)); exact HO526.out) (Kd.R_base ho28) hb); have n1_ := Aside0.mk (Kd.R_lower (Kd.R_new' ho28 (Kd.R_lt (by (with_reducible repeat (first | apply Kd.R_alloc | apply Kd.R_drewN | apply Kd.R_drew)); exact HO526.out))) (below_size (by repeat (first | (with_reducible first | exact HB.out | apply below_alloc | apply pw_below_drewN | apply below_drew1 | refine below_set ?_ GE520.out) | exact HB.out)))); have n2_ := Aside0.mk (blk_below (g := gb520) (o := .cells #[.int .i64 a0_0, .int .i64 a0_1, .int .u32 a0_2, .slice A0_3 l0_3.length c0_3] 50 (0, 0)) (by (with_reducible repeat (first | refine blk_drewN ?_ _ | refine blk_drew ?_ | refine blk_alloc ?_ _)); exact BK520.out) hb); have n3_ := Aside0.mk (below_step (by repeat (first | (with_reducible first | exact HB.out | apply below_alloc | apply pw_below_drewN | apply below_drew1 | refine below_set ?_ GE520.out) | exact HB.out)) hb); clear HO526; clear BK520; clear HB; have HO526 := n0_; have HO523 := n1_; have BK520 := n2_; have HB := n3_; clear n0_ n1_ n2_ n3_; clear hb ho28; refine hK.out _ _ ⟨(blk_cell BK520.out 0).trans rfl, (blk_cell BK520.out 1).trans rfl, (blk_cell BK520.out 2).trans rfl, (blk_cell BK520.out 3).trans rfl⟩ (fun hHeld => ?_); clear hK K; refine norm_ (a' := ?_) ?_ ?_; rotate_left
            ·show Act.put _ (some 36) _ = _; simp only [Act.put, LsA, LsB, LsC, i64_w, i32_w]; rfl
            exact norm_ (by simp only [putAll, Act.put, LsA, LsB, LsC]) (hCont (v522, v525) _ ⟨hHeld, (by (with_reducible repeat (first | apply Kd.R_alloc | apply Kd.R_drewN | apply Kd.R_drew)); exact Kd.R_mono HO523.out (fun _ hk => hk.2)), (by (with_reducible repeat (first | apply Kd.R_alloc | apply Kd.R_drewN | apply Kd.R_drew)); exact Kd.R_mono HO526.out (fun _ hk => hk.2)), (by (with_reducible repeat (first | refine blk_drewN ?_ _ | refine blk_drew ?_ | refine blk_alloc ?_ _)); exact BK520.out), (by repeat (first | (with_reducible first | exact HB.out | apply below_alloc | apply pw_below_drewN | apply below_drew1 | refine below_set ?_ GE520.out) | exact HB.out))⟩)
          rintro ⟨v522, v525⟩ w29 ⟨hS_, h0_, h1_, h2_, h3_⟩
          have n0_ : Aside0 (Kd.R (Kd.int .u8) 5 w29 w.heap.size (fun k_ => some k_ ≠ (v525 : Value).ownBlock) v522 y521) := ⟨h0_⟩
          have n1_ : Aside0 (Kd.R (Kd.int .u8) 5 w29 w.heap.size (fun k_ => some k_ ≠ (v522 : Value).ownBlock) v525 t524) := ⟨h1_⟩
          have n2_ : Aside0 (w29.heap[gb520]? = some (.cells #[.int .i64 a0_0, .int .i64 a0_1, .int .u32 a0_2, .slice A0_3 l0_3.length c0_3] 50 (0, 0))) := ⟨h2_⟩
          have n3_ : Aside0 (Below w.heap.size w w29) := ⟨h3_⟩
          clear BK520; clear HB; clear h0_ h1_ h2_ h3_; have HO523 := n0_; have HO526 := n1_; have BK520 := n2_; have HB := n3_; clear n0_ n1_ n2_ n3_; have hHeld : w29.cell? ⟨gb520, 0, none⟩ = some (.int .i64 a0_0) ∧ w29.cell? ⟨gb520, 1, none⟩ = some (.int .i64 a0_1) ∧ w29.cell? ⟨gb520, 2, none⟩ = some (.int .u32 a0_2) ∧ w29.cell? ⟨gb520, 3, none⟩ = some (.slice A0_3 l0_3.length c0_3) := hS_; obtain ⟨Ao31, co31, eo31⟩ := Kd.R_slice HO526.out
          (first | subst eo31 | (injection eo31 with f1_ f2_ f3_; have f4_ := f1_.symm; have f5_ := f3_.symm; clear f1_ f2_ f3_; subst f4_; subst f5_))
          refine norm_ (a' := ?_) ?_ ?_; rotate_left
          ·simp only [putAll, Act.put, LsA, LsB, LsC]; rfl
          refine one_ (i := 10) (N := some 40) (bm 12 2047) rfl rfl (one_of HT_.out (by kernel_rfl)) (by decide) (fun K hK => ?_); refine Kd.R_append_rows_step (Kd.int .u8) (w0 := w) w.heap.size (by rfl) (.tmp 36) (.tmp 39) 24 5 (.int .u8 0) 1 rfl Try.underlying24 info5 rfl (by decide) (by omega) v522 y521 t524 _ _ _ (fun k_ => some k_ ≠ (.slice Ao31 t524.length co31 : Value).ownBlock) (fun _ => False) rfl rfl ?aO ?aR (fun _ _ h => h) (fun _ h => h.elim) ?aF ?aB ?aS ?aL ?_; (case aR => repeat (first | exact (Kd.R_reads' HO526.out).2.2 | (with_reducible refine Kd.C_alloc ?_ _) | (with_reducible refine Kd.C_drewN ?_ _) | (with_reducible refine Kd.C_drew ?_))); (case aB => exact (by repeat (first | (with_reducible first | exact HB.out | apply below_alloc | apply pw_below_drewN | apply below_drew1 | refine below_set ?_ GE520.out) | exact HB.out))); (case aF => exact (fun k_ hk => Kd.fresh' (Kd.R_lt (by (with_reducible repeat (first | apply Kd.R_alloc | apply Kd.R_drewN | apply Kd.R_drew)); exact HO526.out)) k_ hk)); (case aO => exact (by (with_reducible repeat (first | apply Kd.R_alloc | apply Kd.R_drewN | apply Kd.R_drew)); exact HO523.out)); (case aS => exact (below_size (by repeat (first | (with_reducible first | exact HB.out | apply below_alloc | apply pw_below_drewN | apply below_drew1 | refine below_set ?_ GE520.out) | exact HB.out)))); (case aL => have := LMc15.out; omega); intro v528 w30 ho hb hg hat; rw [← Ny527.out] at ho; have n0_ := Aside0.mk (blk_grown (g := gb520) (o := .cells #[.int .i64 a0_0, .int .i64 a0_1, .int .u32 a0_2, .slice A0_3 l0_3.length c0_3] 50 (0, 0)) (by (with_reducible repeat (first | refine blk_drewN ?_ _ | refine blk_drew ?_ | refine blk_alloc ?_ _)); exact BK520.out) hg (Kd.R_ne HO523.out BK520.out (by decide))); have n1_ := Aside0.mk (Kd.R_after (ok := (fun _ => True)) (by (with_reducible repeat (first | apply Kd.R_alloc | apply Kd.R_drewN | apply Kd.R_drew)); exact Kd.R_mono HO526.out (fun _ hk => ⟨trivial, hk⟩)) hg hat); have n2_ := Aside0.mk (hb); have n3_ := Aside0.mk (ho); clear BK520; clear HO526; clear HB; clear HO523; have BK520 := n0_; have HO526 := n1_; have HB := n2_; have HO529 := n3_; clear n0_ n1_ n2_ n3_; clear ho hb hg hat; refine hK.out _ _ ⟨(blk_cell BK520.out 0).trans rfl, (blk_cell BK520.out 1).trans rfl, (blk_cell BK520.out 2).trans rfl, (blk_cell BK520.out 3).trans rfl⟩ (fun hHeld => ?_); clear hK K; refine norm_ (a' := ?_) ?_ ?_; rotate_left
          ·show Act.put _ (some 40) _ = _; simp only [Act.put, LsA, LsB, LsC, i64_w, i32_w]; rfl
          refine pure_ (i := 11) (N := some 4) (v := ?_) (a' := ?_) (bm 12 4095) rfl rfl (any_of HT_.out (by kernel_rfl)) (fun _ _ _ h => h) (Or.inl ⟨by rfl, ?_⟩) ?_ ?_; rotate_left
          ·intro w'; go_simp; with_reducible rfl
          rotate_left
          ·simp only [Act.put, LsA, LsB, LsC, i64_w, i32_w]; rfl
          refine done_ (done_of HT_.out (by kernel_rfl)) ?_; have hcz32 := fun j => blk_cell BK520.out j
          have hfz32 := fun j => blk_frozen BK520.out j
          try go_wp2_with (first | ((with_reducible refine gate_builtin (b := .append) (xs := #[.tmp 41, .tmp 43]) rfl ?_); (try (refine gate_guard (by rfl) ?_; dsimp only)); at_builtin; refine Kd.R_append_rows (Kd.int .u8) (w0 := w) w.heap.size rfl (.tmp 41) (.tmp 43) 24 5 (.int .u8 0) 1 rfl Try.underlying24 info5 rfl (by decide) (by omega) v528 y527 l0_3 _ _ _ (fun k_ => some k_ ≠ (.slice Ao31 t524.length co31 : Value).ownBlock) (fun _ => False) rfl rfl ?aO ?aR (fun _ _ h => h) (fun _ h => h.elim) ?aF ?aB ?aS ?aL ?_; (case aR => repeat (first | exact (Kd.C_below HR0_3.out HB.out) | (with_reducible refine Kd.C_alloc ?_ _) | (with_reducible refine Kd.C_drewN ?_ _) | (with_reducible refine Kd.C_drew ?_))); (case aB => exact (by repeat (first | (with_reducible first | exact HB.out | apply below_alloc | apply pw_below_drewN | apply below_drew1 | refine below_set ?_ GE520.out) | exact HB.out))); (case aF => exact (fun k_ hk => Kd.fresh' (Kd.R_lt (by (with_reducible repeat (first | apply Kd.R_alloc | apply Kd.R_drewN | apply Kd.R_drew)); exact HO526.out)) k_ hk)); (case aO => exact (by (with_reducible repeat (first | apply Kd.R_alloc | apply Kd.R_drewN | apply Kd.R_drew)); exact HO529.out)); (case aS => exact (below_size (by repeat (first | (with_reducible first | exact HB.out | apply below_alloc | apply pw_below_drewN | apply below_drew1 | refine below_set ?_ GE520.out) | exact HB.out)))); (case aL => have := LMc16.out; omega); intro v531 w33 ho hb hg hat; rw [← Ny530.out] at ho; have n0_ := Aside0.mk (blk_grown (g := gb520) (o := .cells #[.int .i64 a0_0, .int .i64 a0_1, .int .u32 a0_2, .slice A0_3 l0_3.length c0_3] 50 (0, 0)) (by (with_reducible repeat (first | refine blk_drewN ?_ _ | refine blk_drew ?_ | refine blk_alloc ?_ _)); exact BK520.out) hg (Kd.R_ne HO529.out BK520.out (by decide))); have n1_ := Aside0.mk (Kd.R_after (ok := (fun _ => True)) (by (with_reducible repeat (first | apply Kd.R_alloc | apply Kd.R_drewN | apply Kd.R_drew)); exact HO526.out) hg hat); have n2_ := Aside0.mk (hb); have n3_ := Aside0.mk (ho); clear BK520; clear HO526; clear HB; clear HO529; have BK520 := n0_; have HO526 := n1_; have HB := n2_; have HO532 := n3_; clear n0_ n1_ n2_ n3_; clear ho hb hg hat; obtain ⟨Ao34, co34, eo34⟩ := Kd.R_slice HO532.out; subst eo34) | ((with_reducible refine gate_callee (f := 45) rfl ?_); refine goesL_ (some 46) rfl rfl Try.func45 (by kernel_rfl) rfl #[.slice Ao34 y530.length co34] rfl (by (try simp only [LmA, LmB, LmC]); first | done | rfl | (simp only [LdA, LtA]; rfl)) ?_; (with_reducible refine (castellanref2_Of.calls kj1 _ _ y530 t533 _ ?side1 ?side2 A17.out).mono ?_); (case side1 => repeat (first | exact (Kd.R_reads' HO532.out).2.2 | (with_reducible refine Kd.C_alloc ?_ _) | (with_reducible refine Kd.C_drewN ?_ _) | (with_reducible refine Kd.C_drew ?_))); (case side2 => exact (Kd.R_reads' HO532.out).2.1); rintro e w' ⟨rfl, ⟨nd, rfl⟩⟩; refine ⟨_, rfl, ?_⟩; (try (rw [drewN_self w33]; generalize hq_ : World.drewN w33 _ = w33; have n0_ : Aside0 (Kd.R (Kd.int .u8) 5 w33 w.heap.size (fun k_ => some k_ ≠ (.slice Ao34 y530.length co34 : Value).ownBlock) (.slice Ao31 t524.length co31) t524) := ⟨by rw [← hq_]; exact (by (with_reducible repeat (first | apply Kd.R_alloc | apply Kd.R_drewN | apply Kd.R_drew)); exact Kd.R_mono HO526.out (fun _ hk => hk.2))⟩; have n1_ : Aside0 (Kd.R (Kd.int .u8) 5 w33 w.heap.size (fun k_ => some k_ ≠ (.slice Ao31 t524.length co31 : Value).ownBlock) (.slice Ao34 y530.length co34) y530) := ⟨by rw [← hq_]; exact (by (with_reducible repeat (first | apply Kd.R_alloc | apply Kd.R_drewN | apply Kd.R_drew)); exact HO532.out)⟩; have n2_ : Aside0 (w33.heap[gb520]? = some (.cells #[.int .i64 a0_0, .int .i64 a0_1, .int .u32 a0_2, .slice A0_3 l0_3.length c0_3] 50 (0, 0))) := ⟨by rw [← hq_]; exact (by (with_reducible repeat (first | refine blk_drewN ?_ _ | refine blk_drew ?_ | refine blk_alloc ?_ _)); exact BK520.out)⟩; have n3_ : Aside0 (Below w.heap.size w w33) := ⟨by rw [← hq_]; exact (by repeat (first | (with_reducible first | exact HB.out | apply below_alloc | apply pw_below_drewN | apply below_drew1 | refine below_set ?_ GE520.out) | exact HB.out))⟩; clear HO526 HO532 BK520 HB hq_; have HO526 := n0_; have HO532 := n1_; have BK520 := n2_; have HB := n3_; clear n0_ n1_ n2_ n3_))) | ((with_reducible refine gate_callee (f := 43) rfl ?_); refine goesL_ (some 47) rfl rfl Try.func43 (by kernel_rfl) rfl #[.int .i64 t533] rfl (by (try simp only [LmA, LmB, LmC]); first | done | rfl | (simp only [LdA, LtA]; rfl)) ?_; (with_reducible refine (castellanref1_Put16.calls t533 t534 _ A18.out).mono ?_); rintro e w35 ⟨v535, rfl, ho0, hb⟩; refine ⟨_, rfl, ?_⟩; have n0_ := Aside0.mk (Kd.R_elder' (by (with_reducible repeat (first | apply Kd.R_alloc | apply Kd.R_drewN | apply Kd.R_drew)); exact HO526.out) (Kd.R_base ho0) hb); have n1_ := Aside0.mk (Kd.R_elder' (by (with_reducible repeat (first | apply Kd.R_alloc | apply Kd.R_drewN | apply Kd.R_drew)); exact HO532.out) (Kd.R_base ho0) hb); have n2_ := Aside0.mk (Kd.R_lower (Kd.R_new' (Kd.R_new' ho0 (Kd.R_lt (by (with_reducible repeat (first | apply Kd.R_alloc | apply Kd.R_drewN | apply Kd.R_drew)); exact HO526.out))) (Kd.R_lt (by (with_reducible repeat (first | apply Kd.R_alloc | apply Kd.R_drewN | apply Kd.R_drew)); exact HO532.out))) (below_size (by repeat (first | (with_reducible first | exact HB.out | apply below_alloc | apply pw_below_drewN | apply below_drew1 | refine below_set ?_ GE520.out) | exact HB.out)))); have n3_ := Aside0.mk (blk_below (g := gb520) (o := .cells #[.int .i64 a0_0, .int .i64 a0_1, .int .u32 a0_2, .slice A0_3 l0_3.length c0_3] 50 (0, 0)) (by (with_reducible repeat (first | refine blk_drewN ?_ _ | refine blk_drew ?_ | refine blk_alloc ?_ _)); exact BK520.out) hb); have n4_ := Aside0.mk (below_step (by repeat (first | (with_reducible first | exact HB.out | apply below_alloc | apply pw_below_drewN | apply below_drew1 | refine below_set ?_ GE520.out) | exact HB.out)) hb); clear HO526; clear HO532; clear BK520; clear HB; have HO526 := n0_; have HO532 := n1_; have HO536 := n2_; have BK520 := n3_; have HB := n4_; clear n0_ n1_ n2_ n3_ n4_; (try clear hb); (try clear hb2); (try clear hk); (try clear hi); (try clear ho0)))
          have n0_ := Aside0.mk (Kd.R_drew HO526.out); have n1_ := Aside0.mk (Kd.R_drew HO532.out); have n2_ := Aside0.mk (Kd.R_drew HO536.out); have n3_ := Aside0.mk (blk_drew BK520.out); have n4_ := Aside0.mk (below_drew1 HB.out); clear HO526; clear HO532; clear HO536; clear BK520; clear HB; have HO526 := n0_; have HO532 := n1_; have HO536 := n2_; have BK520 := n3_; have HB := n4_; clear n0_ n1_ n2_ n3_ n4_; obtain ⟨Ao37, co37, eo37⟩ := Kd.R_slice HO536.out
          (first | subst eo37 | (injection eo37 with f1_ f2_ f3_; have f4_ := f1_.symm; have f5_ := f3_.symm; clear f1_ f2_ f3_; subst f4_; subst f5_))
          have p537 : 0 ≤ (0 : Int) := (by omega)
          have q537 : 0 < (t534.length : Int) := of_decide_eq_true (by first | (with_reducible assumption) | assumption); obtain ⟨ad537, e537, hx537_0⟩ := Kd.at_int (Kd.R_reads' HO536.out).2.2 0 p537 q537; cases e537; have qi537 : (0 < t534.length) = True := eq_true (by omega); (try rw [show ((0 : Int)).toNat = 0 from rfl] at hx537_0); (try rw [Addr.add_zero'] at hx537_0); replace p537 := eq_true p537; replace q537 := eq_true q537
          have p538 : 0 ≤ (1 : Int) := (by omega)
          have q538 : 1 < (t534.length : Int) := of_decide_eq_true (by first | (with_reducible assumption) | assumption); obtain ⟨ad538, e538, hx538_0⟩ := Kd.at_int (Kd.R_reads' HO536.out).2.2 1 p538 q538
          obtain rfl : ad537 = ad538 := (by injection e538)
          (try simp only [show (1 : Int).toNat = 1 from rfl, Nat.reduceMul, Nat.reduceEqDiff, Go.Addr.add, ↓reduceIte] at hx538_0); have qi538 : (1 < t534.length) = True := eq_true (by omega); (try rw [show ((1 : Int)).toNat = 1 from rfl] at hx538_0); replace p538 := eq_true p538; replace q538 := eq_true q538
          have p22 : 0 ≤ (2 : Int) := (by omega)
          have q22 : (2 : Int) < ((y530.length : Int) : Int) := of_decide_eq_true (by first | (with_reducible assumption) | assumption); have qi22 : (2 < y530.length) = True := eq_true (by omega); obtain ⟨go22, co22, eo22, gb22, gl22, cl22, HG22⟩ := Kd.R_form HO532.out (by omega)
          (first | cases eo22 | (injection eo22 with ea_ en_ ec_; (first | subst ea_ | (injection ea_ with ea_; subst ea_)); subst ec_; clear en_))
          have GB22 := Aside0.mk gb22; have GG22 := Aside0.mk HG22; clear gb22 gl22 HG22; obtain ⟨hx22_0, hf22_0⟩ := Kd.R_celln 0 HO532.out (2 : Int) p22 q22; (try rw [show ((2 : Int)).toNat = 2 from rfl] at hx22_0); (try simp only [Nat.reduceMul, Nat.zero_mul, Nat.zero_add, Nat.reduceAdd] at hx22_0); (try rw [show ((2 : Int)).toNat = 2 from rfl] at hf22_0); (try simp only [Nat.reduceMul, Nat.zero_mul, Nat.zero_add, Nat.reduceAdd] at hf22_0); replace p22 := eq_true p22; replace q22 := eq_true q22; have HP38 := Kd.R_putn HO532.out (2 : Int) (rd t534 0); rw [← Ny539.out] at HP38; have HQ38 := Aside0.mk HP38; clear HP38
          have p24 : 0 ≤ (3 : Int) := (by omega)
          have q24 : (3 : Int) < ((y530.length : Int) : Int) := of_decide_eq_true (by first | (with_reducible assumption) | assumption); have qi24 : (3 < y530.length) = True := eq_true (by omega); obtain ⟨hx24_0, hf24_0⟩ := Kd.R_celln 0 HQ38.out (3 : Int) p24 q24; obtain ⟨hx39_0, hf39_0⟩ := Kd.R_celln 0 HO532.out (3 : Int) p24 q24; (try rw [show ((3 : Int)).toNat = 3 from rfl] at hx39_0); (try simp only [Nat.reduceMul, Nat.zero_mul, Nat.zero_add, Nat.reduceAdd] at hx39_0); (try rw [show ((3 : Int)).toNat = 3 from rfl] at hf39_0); (try simp only [Nat.reduceMul, Nat.zero_mul, Nat.zero_add, Nat.reduceAdd] at hf39_0); (try rw [show ((3 : Int)).toNat = 3 from rfl] at hx24_0); (try simp only [Nat.reduceMul, Nat.zero_mul, Nat.zero_add, Nat.reduceAdd] at hx24_0); (try rw [show ((3 : Int)).toNat = 3 from rfl] at hf24_0); (try simp only [Nat.reduceMul, Nat.zero_mul, Nat.zero_add, Nat.reduceAdd] at hf24_0); replace p24 := eq_true p24; replace q24 := eq_true q24; have HP40 := Kd.R_putn HQ38.out (3 : Int) (rd t534 1); rw [← Ny540.out] at HP40; have HQ40 := Aside0.mk HP40; clear HP40; refine start_ (n := 12) (S := fun w' => w'.cell? ad537 = some (.int .u8 (rd t534 0)) ∧ w'.cell? ⟨ad537.block, ad537.off + 1, none⟩ = some (.int .u8 (rd t534 1))) (ds := [9, 11]) (bm 12 0) (by kernel_rfl) rfl rfl ⟨hx537_0, hx538_0⟩ (fun hHeld => ?_); refine with_tabW castellanref7_Build.tab6 castellanref7_Build.bits6 (fun HT_ HW_ => ?_)
          generalize w35.drew = w36 at HO526 HO532 HO536 BK520 HB GG22 HQ38 HQ40 hf22_0 hf24_0 hf39_0 hx22_0 hx24_0 hx39_0 hx537_0 hx538_0 hHeld ⊢; refine pure_ (i := 0) (N := some 48) (v := ?_) (a' := ?_) (bm 12 1) rfl rfl (any_of HT_.out (by kernel_rfl)) (fun _ _ _ h => h) (Or.inl ⟨by rfl, ?_⟩) ?_ ?_; rotate_left
          ·intro w'; go_simp; with_reducible rfl
          rotate_left
          ·simp only [Act.put, LsA, LsB, LsC, i64_w, i32_w]; rfl
          refine pure_ (i := 1) (N := some 49) (v := ?_) (a' := ?_) (bm 12 3) rfl rfl (any_of HT_.out (by kernel_rfl)) (fun _ _ _ h => h) (Or.inl ⟨by rfl, ?_⟩) ?_ ?_; rotate_left
          ·intro w'; go_simp; with_reducible rfl
          rotate_left
          ·simp only [Act.put, LsA, LsB, LsC, i64_w, i32_w]; rfl
          refine pure_ (i := 2) (N := some 50) (v := ?_) (a' := ?_) (bm 12 7) rfl rfl (any_of HT_.out (by kernel_rfl)) (fun _ _ _ h => h) (Or.inl ⟨by rfl, ?_⟩) ?_ ?_; rotate_left
          ·intro w'; go_simp; with_reducible rfl
          rotate_left
          ·simp only [Act.put, LsA, LsB, LsC, i64_w, i32_w]; rfl
          refine pure_ (i := 3) (N := some 51) (v := ?_) (a' := ?_) (bm 12 15) rfl rfl (any_of HT_.out (by kernel_rfl)) (fun _ _ _ h => h) (Or.inl ⟨by rfl, ?_⟩) ?_ ?_; rotate_left
          ·intro w'; go_simp; with_reducible rfl
          rotate_left
          ·simp only [Act.put, LsA, LsB, LsC, i64_w, i32_w]; rfl
          refine pure_ (i := 5) (N := some 53) (v := ?_) (a' := ?_) (bm 12 47) rfl rfl (any_of HT_.out (by kernel_rfl)) (fun _ _ _ h => h) (Or.inl ⟨by rfl, ?_⟩) ?_ ?_; rotate_left
          ·intro w'; go_simp; with_reducible rfl
          rotate_left
          ·simp only [Act.put, LsA, LsB, LsC, i64_w, i32_w]; rfl
          refine pure_ (i := 6) (N := some 54) (v := ?_) (a' := ?_) (bm 12 111) rfl rfl (any_of HT_.out (by kernel_rfl)) (fun _ _ _ h => h) (Or.inl ⟨by rfl, ?_⟩) ?_ ?_; rotate_left
          ·intro w'; go_simp; with_reducible rfl
          rotate_left
          ·simp only [Act.put, LsA, LsB, LsC, i64_w, i32_w]; rfl
          refine take_ (i := 4) (N := some 52) (v := ?_) (a' := ?_) (bm 12 127) rfl rfl (take_ofW HT_.out HW_.out (by kernel_rfl)) (fun _ _ _ h => h) (Or.inl ⟨by rfl, ?_⟩) hHeld ?_ ?_; rotate_left
          ·rintro w' ⟨s0, s1⟩; go_simp; with_reducible rfl
          rotate_left
          ·simp only [Act.put, LsA, LsB, LsC, i64_w, i32_w]; rfl
          refine take_ (i := 7) (N := some 55) (v := ?_) (a' := ?_) (bm 12 255) rfl rfl (take_ofW HT_.out HW_.out (by kernel_rfl)) (fun _ _ _ h => h) (Or.inl ⟨by rfl, ?_⟩) hHeld ?_ ?_; rotate_left
          ·rintro w' ⟨s0, s1⟩; go_simp; with_reducible rfl
          rotate_left
          ·simp only [Act.put, LsA, LsB, LsC, i64_w, i32_w]; rfl
          refine pure_ (i := 8) (N := some 56) (v := ?_) (a' := ?_) (bm 12 511) rfl rfl (any_of HT_.out (by kernel_rfl)) (fun _ _ _ h => h) (Or.inl ⟨by rfl, ?_⟩) ?_ ?_; rotate_left
          ·intro w'; go_simp; with_reducible rfl
          rotate_left
          ·simp only [Act.put, LsA, LsB, LsC, i64_w, i32_w]; rfl
          refine last_ (i := 9) (N := none) (bm 12 1023) rfl rfl (one_of HT_.out (by kernel_rfl)) (by decide) (fun K hK => ?_); refine skip_ (w1 := ?_) (by rfl) rfl ?_ ?_; rotate_left
          ·go_simp; rfl
          refine hK.out _ _ ?_; clear hK K; refine pure_ (i := 10) (N := some 57) (v := ?_) (a' := ?_) (bm 12 2047) rfl rfl (any_of HT_.out (by kernel_rfl)) (fun _ _ _ h => h) (Or.inl ⟨by rfl, ?_⟩) ?_ ?_; rotate_left
          ·intro w'; go_simp; with_reducible rfl
          rotate_left
          ·simp only [Act.put, LsA, LsB, LsC, i64_w, i32_w]; rfl
          refine last_ (i := 11) (N := none) (bm 12 4095) rfl rfl (one_of HT_.out (by kernel_rfl)) (by decide) (fun K hK => ?_); refine skip_ (w1 := ?_) (by rfl) rfl ?_ ?_; rotate_left
          ·go_simp; rfl
          refine hK.out _ _ ?_; clear hK K; refine done_ (done_of HT_.out (by kernel_rfl)) ?_
          try go_wp2
          go_ret2
          exact ⟨_, by first | rfl | (simp [errW_none, errW_some] <;> rfl) | (simp [*, errW_none, errW_some] <;> rfl), by (with_reducible repeat (first | apply Kd.R_alloc | apply Kd.R_drewN | apply Kd.R_drew)); exact Kd.R_mono HQ40.out (fun _ hk => trivial), by repeat (first | (with_reducible first | exact HB.out | apply below_alloc | apply pw_below_drewN | apply below_drew1 | refine below_set ?_ GB22.out | refine below_set ?_ GB22.out | refine below_set ?_ GE520.out) | exact HB.out)⟩
         ·rw [if_neg c23] at H; exact absurd H (by simp)
        ·rw [if_neg c21] at H; exact absurd H (by simp)
       ·rw [if_neg c20] at H; exact absurd H (by simp)
      ·rw [if_neg c19] at H; exact absurd H (by simp)
     ·rw [if_neg c16] at H; exact absurd H (by simp)
    ·rw [if_neg c15] at H; exact absurd H (by simp)

/-! ### castellanref7_Quote: function 37 -/
def castellanref7_Quote.f (l0 : List Int) : Option (List Int) := (some (([] : List Int) : List Int)).bind fun y541 => ((castellanref4_Header.f l0).bind fun t544 => (if 0 ≤ (mn (l0.length : Int) (wrap64 (t544 + 8))) then (if (mn (l0.length : Int) (wrap64 (t544 + 8))) ≤ (l0.length : Int) then (if y541.length + (l0.take ((mn (l0.length : Int) (wrap64 (t544 + 8))) : Int).toNat).length < 140737488355328 then (some (y541 ++ (l0.take ((mn (l0.length : Int) (wrap64 (t544 + 8))) : Int).toNat))) else (none)) else (none)) else (none)))
set_option maxHeartbeats 8000000 in
set_option maxRecDepth 100000 in
theorem castellanref7_Quote.calls (A0 : Option Addr) (c0 : Nat) (l0 : List Int) (r : List Int) (w : World) (hr0 : Kd.C (Kd.int .u8) w A0 l0.length l0) (hc0 : l0.length ≤ c0) (h : castellanref7_Quote.f l0 = some r) :
  Calls Try.prog 37 #[.slice A0 l0.length c0] w fun e w' => ∃ v0_ : Value, e = .returned (v0_) ∧ Kd.R (Kd.int .u8) 5 w' w.heap.size (fun _ => True) v0_ r ∧ Below w.heap.size w w' := by
 have HR0 := Aside0.mk hr0; have HC0 := Aside0.mk hc0; clear hr0 hc0; have HB := Aside0.mk (Below.refl w.heap.size w); have H : ((some (([] : List Int) : List Int)).bind fun y541 => ((castellanref4_Header.f l0).bind fun t544 => (if 0 ≤ (mn (l0.length : Int) (wrap64 (t544 + 8))) then (if (mn (l0.length : Int) (wrap64 (t544 + 8))) ≤ (l0.length : Int) then (if y541.length + (l0.take ((mn (l0.length : Int) (wrap64 (t544 + 8))) : Int).toNat).length < 140737488355328 then (some (y541 ++ (l0.take ((mn (l0.length : Int) (wrap64 (t544 + 8))) : Int).toNat))) else (none)) else (none)) else (none)))) = some r := h; clear h
 obtain ⟨y541, hy541⟩ : ∃ y_ : List Int, y_ = (([] : List Int)) := ⟨_, rfl⟩
 replace H : ((castellanref4_Header.f l0).bind fun t544 => (if 0 ≤ (mn (l0.length : Int) (wrap64 (t544 + 8))) then (if (mn (l0.length : Int) (wrap64 (t544 + 8))) ≤ (l0.length : Int) then (if y541.length + (l0.take ((mn (l0.length : Int) (wrap64 (t544 + 8))) : Int).toNat).length < 140737488355328 then (some (y541 ++ (l0.take ((mn (l0.length : Int) (wrap64 (t544 + 8))) : Int).toNat))) else (none)) else (none)) else (none))) = some r := by first | (rw [hy541]; with_reducible exact H) | (have H2_ := (Option.bind_some _ _).symm.trans H; rw [hy541]; with_reducible exact H2_) | (have H2_ := (Option.bind_some _ _).symm.trans H; with_reducible exact H2_) | with_reducible exact H | (rw [hy541]; exact H) | exact H
 have Ny541 := Aside0.mk hy541; clear hy541; replace H := Option.bind_eq_some_iff.mp H; obtain ⟨t544, A20, H⟩ := H; replace H : (if 0 ≤ (mn (l0.length : Int) (wrap64 (t544 + 8))) then (if (mn (l0.length : Int) (wrap64 (t544 + 8))) ≤ (l0.length : Int) then (if y541.length + (l0.take ((mn (l0.length : Int) (wrap64 (t544 + 8))) : Int).toNat).length < 140737488355328 then (some (y541 ++ (l0.take ((mn (l0.length : Int) (wrap64 (t544 + 8))) : Int).toNat))) else (none)) else (none)) else (none)) = some r := H; have A2 := Aside0.mk A20; clear A20
 obtain ⟨ji3, hji3⟩ : ∃ j_ : Int, (mn (l0.length : Int) (wrap64 (t544 + 8))) = j_ := ⟨_, rfl⟩
 replace H : (if 0 ≤ (ji3) then (if (ji3) ≤ (l0.length : Int) then (if y541.length + (l0.take ((ji3) : Int).toNat).length < 140737488355328 then (some (y541 ++ (l0.take ((ji3) : Int).toNat))) else (none)) else (none)) else (none)) = some r := by first | (rw [hji3] at H; exact H) | (simp only [hji3] at H ⊢; exact H)
 (try rw [hji3] at A2); have hji3_ : (if (wrap64 (t544 + 8)) < (l0.length : Int) then (wrap64 (t544 + 8)) else (l0.length : Int)) = ji3 := hji3
 by_cases c4 : 0 ≤ (ji3)
 ·rw [if_pos c4] at H; have c4b0 := eq_true c4; have c4b1 : decide (0 ≤ (ji3)) = true := decide_eq_true c4; clear c4
  by_cases c5 : (ji3) ≤ (l0.length : Int)
  ·rw [if_pos c5] at H; have c5b0 := eq_true c5; have c5b1 : decide ((ji3) ≤ (l0.length : Int)) = true := decide_eq_true c5; clear c5
   by_cases c6 : y541.length + (l0.take ((ji3) : Int).toNat).length < 140737488355328
   ·rw [if_pos c6] at H; have LMc6 := Aside0.mk c6; clear c6
    obtain ⟨y546, hy546⟩ : ∃ y_ : List Int, y_ = (y541 ++ (l0.take ((ji3) : Int).toNat)) := ⟨_, rfl⟩
    replace H : (some y546) = some r := by first | (rw [hy546]; with_reducible exact H) | (have H2_ := (Option.bind_some _ _).symm.trans H; rw [hy546]; with_reducible exact H2_) | (have H2_ := (Option.bind_some _ _).symm.trans H; with_reducible exact H2_) | with_reducible exact H | (rw [hy546]; exact H) | exact H
    have Ny546 := Aside0.mk hy546; clear hy546; obtain rfl := Option.some.inj H; go_enter Try.func37, Try.ntmps37
    go_wp2_with (first | ((with_reducible refine gate_dst (N := 3) rfl ?_); refine Kd.R_lit (Kd.int .u8) _ 5 ?hg (N := 3) ?hd (xs := ([] : List Int)) (inner := []) (ok := fun _ => True) (okp := fun _ => True) ?hr ?hp (fun _ hk => hk) trivial (Below.refl _ _) (Nat.le_refl _) (by simp) ?_; (case hd => rfl); (case hg => rfl); (case hr => first | (go_simp; done) | (go_simp; rfl)); (case hp => exact (Reps.none _ _)); intro v542 w7 ho8 hb hg_ hnew_; clear hg_ hnew_; (first | rw [← Ny541.out] at ho8 | (simp only [Int.reduceToNat] at ho8; rw [← Ny541.out] at ho8)); have n0_ := Aside0.mk (Kd.R_lower ho8 (below_size (by repeat (first | (with_reducible first | exact HB.out | apply below_alloc | apply pw_below_drewN | apply below_drew1) | exact HB.out)))); have n1_ := Aside0.mk (below_step (by repeat (first | (with_reducible first | exact HB.out | apply below_alloc | apply pw_below_drewN | apply below_drew1) | exact HB.out)) hb); clear HB; have HO543 := n0_; have HB := n1_; clear n0_ n1_; clear hb ho8) | ((with_reducible refine gate_callee (f := 30) rfl ?_); refine goesL_ (some 8) rfl rfl Try.func30 (by kernel_rfl) rfl #[.slice A0 l0.length c0] rfl (by (try simp only [LmA, LmB, LmC]); first | done | rfl | (simp only [LdA, LtA]; rfl)) ?_; (with_reducible refine (castellanref4_Header.calls _ _ l0 t544 _ ?side1 ?side2 A2.out).mono ?_); (case side1 => repeat (first | exact (Kd.C_below HR0.out HB.out) | (with_reducible refine Kd.C_alloc ?_ _) | (with_reducible refine Kd.C_drewN ?_ _) | (with_reducible refine Kd.C_drew ?_))); (case side2 => exact HC0.out); rintro e w' ⟨rfl, ⟨nd, rfl⟩⟩; refine ⟨_, rfl, ?_⟩; obtain ⟨i09, hi09, _, hsz9, _⟩ := info_parts info5; obtain ⟨hcut9, hA9, hC9⟩ := print_take_of (P := Try.prog) (Value.int .u8) 0 24 5 .i64 Try.underlying24 hi09 hsz9 A0 c0 l0 (ji3) (of_decide_eq_true (by first | (with_reducible assumption) | assumption)) (of_decide_eq_true (by first | (with_reducible assumption) | assumption)) HC0.out; have HR545 := Aside0.mk (Kd.C_of_reads (h1 := fun _ => rfl) (hA9 _ (Kd.reads_of_C HR0.out))); have HC545 := Aside0.mk hC9; clear hA9 hC9 hi09 hsz9) | ((with_reducible refine gate_builtin (b := .append) (xs := #[.tmp 3, .tmp 11]) rfl ?_); at_builtin; refine Kd.R_append_rows (Kd.int .u8) (w0 := w) w.heap.size rfl (.tmp 3) (.tmp 11) 24 5 (.int .u8 0) 1 rfl Try.underlying24 info5 rfl (by decide) (by omega) v542 y541 (l0.take ((ji3) : Int).toNat) _ _ _ (fun _ => True) (fun _ => False) rfl rfl ?aO ?aR (fun _ _ h => h) (fun _ h => h.elim) ?aF ?aB ?aS ?aL ?_; (case aR => first | (refine RR_len (show (l0.take ((ji3) : Int).toNat).length = (ji3).toNat from (by rw [LtA]; have h_ : ((ji3) : Int) ≤ (l0.length : Int) := of_decide_eq_true (by first | (with_reducible assumption) | assumption); omega)) ?_; repeat (first | exact (Kd.C_below HR545.out (by repeat (first | (with_reducible first | exact HB.out | apply below_alloc | apply pw_below_drewN | apply below_drew1) | exact HB.out))) | (with_reducible refine Kd.C_alloc ?_ _) | (with_reducible refine Kd.C_drewN ?_ _) | (with_reducible refine Kd.C_drew ?_))) | (repeat (first | exact (Kd.C_below HR545.out (by repeat (first | (with_reducible first | exact HB.out | apply below_alloc | apply pw_below_drewN | apply below_drew1) | exact HB.out))) | (with_reducible refine Kd.C_alloc ?_ _) | (with_reducible refine Kd.C_drewN ?_ _) | (with_reducible refine Kd.C_drew ?_)))); (case aB => exact (by repeat (first | (with_reducible first | exact HB.out | apply below_alloc | apply pw_below_drewN | apply below_drew1) | exact HB.out))); (case aF => exact (fun _ _ => trivial)); (case aO => exact (by (with_reducible repeat (first | apply Kd.R_alloc | apply Kd.R_drewN | apply Kd.R_drew)); exact HO543.out)); (case aS => exact (below_size (by repeat (first | (with_reducible first | exact HB.out | apply below_alloc | apply pw_below_drewN | apply below_drew1) | exact HB.out)))); (case aL => have := LMc6.out; have hlx_ := (show (l0.take ((ji3) : Int).toNat).length = (ji3).toNat from (by rw [LtA]; have h_ : ((ji3) : Int) ≤ (l0.length : Int) := of_decide_eq_true (by first | (with_reducible assumption) | assumption); omega)); omega); intro v547 w10 ho hb hg hat; rw [← Ny546.out] at ho; have n0_ := Aside0.mk (hb); have n1_ := Aside0.mk (ho); clear HB; clear HO543; have HB := n0_; have HO548 := n1_; clear n0_ n1_; clear ho hb hg hat))
    go_ret; exact ⟨_, by first | rfl | (simp [errW_none, errW_some] <;> rfl) | (simp only [← hji3]; first | rfl | (simp [errW_none, errW_some] <;> rfl)) | (simp [*, errW_none, errW_some] <;> rfl), by (with_reducible repeat (first | apply Kd.R_alloc | apply Kd.R_drewN | apply Kd.R_drew)); exact HO548.out, by repeat (first | (with_reducible first | exact HB.out | apply below_alloc | apply pw_below_drewN | apply below_drew1) | exact HB.out)⟩
   ·rw [if_neg c6] at H; exact absurd H (by simp)
  ·rw [if_neg c5] at H; exact absurd H (by simp)
 ·rw [if_neg c4] at H; exact absurd H (by simp)

-- NOT PRINTED: function 9 (castellanlaw8_PackInner)

end Go.Proofs.Ytkdibloahkhgoaa.QPackInner
