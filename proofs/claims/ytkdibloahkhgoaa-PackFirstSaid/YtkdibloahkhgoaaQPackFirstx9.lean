-- written by myprint.py, a program of this session's over the kit's printer
import Derived.Test.YtkdibloahkhgoaaQPackFirstx0
import Derived.Test.YtkdibloahkhgoaaQPackFirstx1
import Derived.Test.YtkdibloahkhgoaaQPackFirstx8
namespace Go.Proofs.Ytkdibloahkhgoaa.QPackFirst
open Go.RowKit Go.Proofs.YtkdibloahkhgoaaW.PrintWords Go.Proofs.YtkdibloahkhgoaaW.PrintLast Go.Proofs.YtkdibloahkhgoaaW.PrintMore
attribute [local go_sem] max2_int min2_int max_two min_two max_three min_three max_four min_four   -- for this text's walks alone
set_option linter.unusedVariables false
set_option linter.unusedSimpArgs false

/-! ### castellanref6_Build: function 38 -/
def castellanref6_Build.j0 : Nat → Int → Int → Bool → Int → Int → List Int → Option (List Int × Int)
  | 0, _, _, _, _, _, _ => none
  | k + 1, x0, x1, x34, x367000, x367001, x367002 => if x34 = true then (some (([] : List Int), 1)) else ((castellanref1_Put16.f x367000).bind fun t367 => ((castellanref1_Put16.f x367001).bind fun t370 => (if t367.length + t370.length < 140737488355328 then ((some (t367 ++ t370 : List Int)).bind fun y373 => ((castellanref1_Put16.f (wrap64 (8 + (x367002.length : Int)))).bind fun t376 => (if y373.length + t376.length < 140737488355328 then ((some (y373 ++ t376 : List Int)).bind fun y379 => ((some (([0, 0] : List Int) : List Int)).bind fun y382 => (if y379.length + y382.length < 140737488355328 then ((some (y379 ++ y382 : List Int)).bind fun y385 => (if y385.length + x367002.length < 140737488355328 then ((some (y385 ++ x367002 : List Int)).bind fun y388 => ((castellanref2_Pseudo.f x0 x1 17 (y388.length : Int)).bind fun t391 => (if t391.length + y388.length < 140737488355328 then ((castellanref2_Of.f k (t391 ++ y388)).bind fun t397 => (if t397 = 0 then ((castellanref1_Put16.f 65535).bind fun t398 => (if 0 < (t398.length : Int) then (if 1 < (t398.length : Int) then (if 6 < (y388.length : Int) then (if 7 < (y388.length : Int) then (some (((y388.set (6 : Int).toNat (rd t398 0)).set (7 : Int).toNat (rd t398 1)), 0)) else (none)) else (none)) else (none)) else (none))) else ((castellanref1_Put16.f t397).bind fun t405 => (if 0 < (t405.length : Int) then (if 1 < (t405.length : Int) then (if 6 < (y388.length : Int) then (if 7 < (y388.length : Int) then (some (((y388.set (6 : Int).toNat (rd t405 0)).set (7 : Int).toNat (rd t405 1)), 0)) else (none)) else (none)) else (none)) else (none))))) else (none)))) else (none))) else (none)))) else (none)))) else (none))))
def castellanref6_Build.f (k : Nat) (a0 : Int) (a1 : Int) (a2_0 : Int) (a2_1 : Int) (l2_2 : List Int) : Option (List Int × Int) := if a2_0 < 0 then (castellanref6_Build.j0 k a0 a1 true a2_0 a2_1 l2_2) else (if a2_0 > 65535 then (castellanref6_Build.j0 k a0 a1 true a2_0 a2_1 l2_2) else (if a2_1 < 0 then (castellanref6_Build.j0 k a0 a1 true a2_0 a2_1 l2_2) else (if a2_1 > 65535 then (castellanref6_Build.j0 k a0 a1 true a2_0 a2_1 l2_2) else (castellanref6_Build.j0 k a0 a1 (decide ((l2_2.length : Int) > 65000)) a2_0 a2_1 l2_2))))
theorem castellanref6_Build.mono_l : ∀ k, (∀ y0 y1 y2 y3 y4 y5, LeO (castellanref6_Build.j0 k y0 y1 y2 y3 y4 y5) (castellanref6_Build.j0 (k + 1) y0 y1 y2 y3 y4 y5))
  | 0 => fun _ _ _ _ _ _ r h => by simp [castellanref6_Build.j0] at h
  | k + 1 => by
    have ih0 := castellanref6_Build.mono_l k
    · intro y0 y1 y2 y3 y4 y5
      unfold castellanref6_Build.j0
      repeat' first
      | (with_reducible exact ih0 _ _ _ _ _ _)
      | (with_reducible exact castellanref2_Of.mono _ _)
      | (with_reducible exact LeO.refl _)
      | (with_reducible exact LeO.none _)
      | (with_reducible refine LeO.ite ?_ ?_)
      | (with_reducible refine LeO.bind ?_ (fun _ => ?_))
      | exact ih0 _ _ _ _ _ _
      | exact castellanref2_Of.mono _ _
      | exact LeO.none _
      | refine LeO.ite ?_ ?_
      | refine LeO.bind ?_ (fun _ => ?_)
theorem castellanref6_Build.mono : ∀ a0 a1 a2 a3 a4 k, LeO (castellanref6_Build.f k a0 a1 a2 a3 a4) (castellanref6_Build.f (k + 1) a0 a1 a2 a3 a4) := by
  intro a0 a1 a2 a3 a4 k
  have ih0 := castellanref6_Build.mono_l k
  unfold castellanref6_Build.f
  repeat' first
      | (with_reducible exact ih0 _ _ _ _ _ _)
      | (with_reducible exact castellanref2_Of.mono _ _)
      | (with_reducible exact LeO.refl _)
      | (with_reducible exact LeO.none _)
      | (with_reducible refine LeO.ite ?_ ?_)
      | (with_reducible refine LeO.bind ?_ (fun _ => ?_))
      | exact ih0 _ _ _ _ _ _
      | exact castellanref2_Of.mono _ _
      | exact LeO.none _
      | refine LeO.ite ?_ ?_
      | refine LeO.bind ?_ (fun _ => ?_)
def castellanref6_Build.T3 : Bool × List (List Nat × List Nat) := (true, [([], []), ([0], [0]), ([1], [1]), ([], []), ([3], [3]), ([4, 2], [4]), ([2, 5, 5], [2, 5]), ([6, 6, 0, 1, 2, 3, 4, 5, 6], [6])])
def castellanref6_Build.B3 : List Nat := [0, 1, 3, 0, 8, 31, 63, 127]
theorem castellanref6_Build.tab3 : rtab .any (opsOf Try.f38 3) = castellanref6_Build.T3 := by kernel_rfl
theorem castellanref6_Build.bits3 : waitsOk castellanref6_Build.T3.2 castellanref6_Build.B3 = true := by kernel_rfl
def castellanref6_Build.T10 : Bool × List (List Nat × List Nat) := (true, [([], []), ([], []), ([], []), ([2], [2]), ([3], [3]), ([], []), ([5], [5]), ([6], [6]), ([0, 0, 2, 3, 4, 7], [0]), ([8, 4, 0, 2, 3, 4, 7], [4, 8]), ([1, 0, 1, 2, 3, 4, 5, 6, 7, 8, 9], [1]), ([10, 7, 9, 0, 1, 2, 3, 4, 5, 6, 7, 8, 9], [7, 10])])
def castellanref6_Build.B10 : List Nat := [0, 0, 0, 4, 12, 0, 32, 96, 253, 509, 1023, 2047]
theorem castellanref6_Build.tab10 : rtab .any (opsOf Try.f38 10) = castellanref6_Build.T10 := by kernel_rfl
theorem castellanref6_Build.bits10 : waitsOk castellanref6_Build.T10.2 castellanref6_Build.B10 = true := by kernel_rfl
set_option maxHeartbeats 8000000 in
set_option maxRecDepth 100000 in
theorem castellanref6_Build.calls (k : Nat) (a0 : Int) (a1 : Int) (a2_0 : Int) (a2_1 : Int) (A2_2 : Option Addr) (c2_2 : Nat) (l2_2 : List Int) (r1 : List Int) (r2 : Int) (w : World) (hr2_2 : Kd.C (Kd.int .u8) w A2_2 l2_2.length l2_2) (hc2_2 : l2_2.length ≤ c2_2) (h : castellanref6_Build.f k a0 a1 a2_0 a2_1 l2_2 = some (r1, r2)) :
    Calls Try.prog 38 #[.int .u32 a0, .int .u32 a1, .agg #[.int .i64 a2_0, .int .i64 a2_1, .slice A2_2 l2_2.length c2_2]] w fun e w' => ∃ v0_ : Value, e = .returned (.tuple #[v0_, .int .i64 r2]) ∧ Kd.R (Kd.int .u8) 5 w' w.heap.size (fun _ => True) v0_ r1 ∧ Below w.heap.size w w' := by
  have hu74 := Try.underlying74
  have HR2_2 := Aside0.mk hr2_2
  have HC2_2 := Aside0.mk hc2_2
  clear hr2_2 hc2_2
  have HB := Aside0.mk (Below.refl w.heap.size w)
  have H : (if a2_0 < 0 then (castellanref6_Build.j0 k a0 a1 true a2_0 a2_1 l2_2) else (if a2_0 > 65535 then (castellanref6_Build.j0 k a0 a1 true a2_0 a2_1 l2_2) else (if a2_1 < 0 then (castellanref6_Build.j0 k a0 a1 true a2_0 a2_1 l2_2) else (if a2_1 > 65535 then (castellanref6_Build.j0 k a0 a1 true a2_0 a2_1 l2_2) else (castellanref6_Build.j0 k a0 a1 (decide ((l2_2.length : Int) > 65000)) a2_0 a2_1 l2_2))))) = some (r1, r2) := h
  clear h
  have HC4 := Aside0.mk H
  clear H
  go_enter Try.func38, Try.ntmps38
  go_upto_region 1 with (first | ((with_reducible refine gate_dst (N := 5) rfl ?_); (try (refine gate_guard (by rfl) ?_; dsimp only)); refine box_event ?hg (N := 5) ?hd (cs := #[.int .i64 a2_0, .int .i64 a2_1, .slice A2_2 l2_2.length c2_2]) (t := 74) ?hr ?_; (case hd => rfl); (case hg => rfl); (case hr => first | (go_simp; done) | (go_simp; rfl)); intro gb366 hg w5 hbox hb; have n0_ := Aside0.mk (below_step (by repeat (first | (with_reducible first | exact HB.out | apply below_alloc | apply pw_below_drewN | apply below_drew1) | exact HB.out)) hb); have n1_ := Aside0.mk (hbox); have n2_ := Aside0.mk ((by rw [hg]; exact (below_size (by repeat (first | (with_reducible first | exact HB.out | apply below_alloc | apply pw_below_drewN | apply below_drew1) | exact HB.out))) : w.heap.size ≤ gb366)); have n3_ := Aside0.mk ((by rw [hg]; exact (below_size (by repeat (first | (with_reducible first | exact HB.out | apply below_alloc | apply pw_below_drewN | apply below_drew1) | exact HB.out))) : w.heap.size ≤ gb366)); clear HB; have HB := n0_; have BK366 := n1_; have GW366 := n2_; have GE366 := n3_; clear n0_ n1_ n2_ n3_; clear hb hbox hg))
  (try simp only [Act.put, List.setIfInBounds_toArray, List.set_cons_zero, List.set_cons_succ])
  go_cut [34] (fun v34 wc => ∃ (kq : Nat) (x34_3 : Bool), v34 = .bool x34_3 ∧ Aside0 (castellanref6_Build.j0 kq a0 a1 x34_3 a2_0 a2_1 l2_2 = some (r1, r2)) ∧ Aside0 (kq ≤ k) ∧ Aside0 (wc.heap[gb366]? = some (.cells #[.int .i64 a2_0, .int .i64 a2_1, (.slice A2_2 l2_2.length c2_2)] 74 (0, 0))) ∧ Aside0 (Below w.heap.size w wc))
  case first =>
    have H := HC4.out
    clear HC4
    by_cases c6 : a2_0 < 0
    · rw [if_pos c6] at H
      have c6b0 : decide (a2_0 < 0) = true := decide_eq_true c6
      clear c6
      (first | rw [c6b0] | (simp only [i64_w, i32_w]; rw [c6b0]) | skip)
      have H' := Aside0.mk H
      clear H
      have hcz7_0 : w5.cell? ⟨gb366, 0, none⟩ = some (.int .i64 a2_0) := (blk_cell BK366.out 0).trans rfl
      have hcz7_1 : w5.cell? ⟨gb366, 1, none⟩ = some (.int .i64 a2_1) := (blk_cell BK366.out 1).trans rfl
      have hcz7_2 : w5.cell? ⟨gb366, 2, none⟩ = some (.slice A2_2 l2_2.length c2_2) := (blk_cell BK366.out 2).trans rfl
      have hfz7_0 := blk_frozen BK366.out 0
      have hfz7_1 := blk_frozen BK366.out 1
      have hfz7_2 := blk_frozen BK366.out 2
      go_wp2
      go_meet
      case rel => exact ⟨_, (true), (by first | rfl | (simp; done) | (simp [*]; done)), H', ⟨by first | omega | exact Nat.le_refl _⟩, ⟨by (with_reducible repeat (first | refine blk_drewN ?_ _ | refine blk_drew ?_ | refine blk_alloc ?_ _)); exact BK366.out⟩, ⟨by repeat (first | (with_reducible first | exact HB.out | apply below_alloc | apply pw_below_drewN | apply below_drew1 | refine below_set ?_ GE366.out) | exact HB.out)⟩⟩
    · rw [if_neg c6] at H
      have c6b0 : decide (a2_0 < 0) = false := decide_eq_false c6
      clear c6
      (first | rw [c6b0] | (simp only [i64_w, i32_w]; rw [c6b0]) | skip)
      by_cases c8 : a2_0 > 65535
      · rw [if_pos c8] at H
        have c8b0 : decide (65535 < a2_0) = true := decide_eq_true c8
        clear c8
        have H' := Aside0.mk H
        clear H
        have hcz9_0 : w5.cell? ⟨gb366, 0, none⟩ = some (.int .i64 a2_0) := (blk_cell BK366.out 0).trans rfl
        have hcz9_1 : w5.cell? ⟨gb366, 1, none⟩ = some (.int .i64 a2_1) := (blk_cell BK366.out 1).trans rfl
        have hcz9_2 : w5.cell? ⟨gb366, 2, none⟩ = some (.slice A2_2 l2_2.length c2_2) := (blk_cell BK366.out 2).trans rfl
        have hfz9_0 := blk_frozen BK366.out 0
        have hfz9_1 := blk_frozen BK366.out 1
        have hfz9_2 := blk_frozen BK366.out 2
        go_wp2
        go_meet
        case rel => exact ⟨_, (true), (by first | rfl | (simp; done) | (simp [*]; done)), H', ⟨by first | omega | exact Nat.le_refl _⟩, ⟨by (with_reducible repeat (first | refine blk_drewN ?_ _ | refine blk_drew ?_ | refine blk_alloc ?_ _)); exact BK366.out⟩, ⟨by repeat (first | (with_reducible first | exact HB.out | apply below_alloc | apply pw_below_drewN | apply below_drew1 | refine below_set ?_ GE366.out) | exact HB.out)⟩⟩
      · rw [if_neg c8] at H
        have c8b0 : decide (65535 < a2_0) = false := decide_eq_false c8
        clear c8
        by_cases c10 : a2_1 < 0
        · rw [if_pos c10] at H
          have c10b0 : decide (a2_1 < 0) = true := decide_eq_true c10
          clear c10
          have H' := Aside0.mk H
          clear H
          have hcz11_0 : w5.cell? ⟨gb366, 0, none⟩ = some (.int .i64 a2_0) := (blk_cell BK366.out 0).trans rfl
          have hcz11_1 : w5.cell? ⟨gb366, 1, none⟩ = some (.int .i64 a2_1) := (blk_cell BK366.out 1).trans rfl
          have hcz11_2 : w5.cell? ⟨gb366, 2, none⟩ = some (.slice A2_2 l2_2.length c2_2) := (blk_cell BK366.out 2).trans rfl
          have hfz11_0 := blk_frozen BK366.out 0
          have hfz11_1 := blk_frozen BK366.out 1
          have hfz11_2 := blk_frozen BK366.out 2
          go_wp2
          go_meet
          case rel => exact ⟨_, (true), (by first | rfl | (simp; done) | (simp [*]; done)), H', ⟨by first | omega | exact Nat.le_refl _⟩, ⟨by (with_reducible repeat (first | refine blk_drewN ?_ _ | refine blk_drew ?_ | refine blk_alloc ?_ _)); exact BK366.out⟩, ⟨by repeat (first | (with_reducible first | exact HB.out | apply below_alloc | apply pw_below_drewN | apply below_drew1 | refine below_set ?_ GE366.out) | exact HB.out)⟩⟩
        · rw [if_neg c10] at H
          have c10b0 : decide (a2_1 < 0) = false := decide_eq_false c10
          clear c10
          by_cases c12 : a2_1 > 65535
          · rw [if_pos c12] at H
            have c12b0 : decide (65535 < a2_1) = true := decide_eq_true c12
            clear c12
            have H' := Aside0.mk H
            clear H
            have hcz13_0 : w5.cell? ⟨gb366, 0, none⟩ = some (.int .i64 a2_0) := (blk_cell BK366.out 0).trans rfl
            have hcz13_1 : w5.cell? ⟨gb366, 1, none⟩ = some (.int .i64 a2_1) := (blk_cell BK366.out 1).trans rfl
            have hcz13_2 : w5.cell? ⟨gb366, 2, none⟩ = some (.slice A2_2 l2_2.length c2_2) := (blk_cell BK366.out 2).trans rfl
            have hfz13_0 := blk_frozen BK366.out 0
            have hfz13_1 := blk_frozen BK366.out 1
            have hfz13_2 := blk_frozen BK366.out 2
            go_wp2
            go_meet
            case rel => exact ⟨_, (true), (by first | rfl | (simp; done) | (simp [*]; done)), H', ⟨by first | omega | exact Nat.le_refl _⟩, ⟨by (with_reducible repeat (first | refine blk_drewN ?_ _ | refine blk_drew ?_ | refine blk_alloc ?_ _)); exact BK366.out⟩, ⟨by repeat (first | (with_reducible first | exact HB.out | apply below_alloc | apply pw_below_drewN | apply below_drew1 | refine below_set ?_ GE366.out) | exact HB.out)⟩⟩
          · rw [if_neg c12] at H
            have c12b0 : decide (65535 < a2_1) = false := decide_eq_false c12
            clear c12
            have H' := Aside0.mk H
            clear H
            have hcz14_0 : w5.cell? ⟨gb366, 0, none⟩ = some (.int .i64 a2_0) := (blk_cell BK366.out 0).trans rfl
            have hcz14_1 : w5.cell? ⟨gb366, 1, none⟩ = some (.int .i64 a2_1) := (blk_cell BK366.out 1).trans rfl
            have hcz14_2 : w5.cell? ⟨gb366, 2, none⟩ = some (.slice A2_2 l2_2.length c2_2) := (blk_cell BK366.out 2).trans rfl
            have hfz14_0 := blk_frozen BK366.out 0
            have hfz14_1 := blk_frozen BK366.out 1
            have hfz14_2 := blk_frozen BK366.out 2
            go_wp2
            go_meet
            case rel => exact ⟨_, (decide ((l2_2.length : Int) > 65000)), (by first | rfl | (simp; done) | (simp [*]; done)), H', ⟨by first | omega | exact Nat.le_refl _⟩, ⟨by (with_reducible repeat (first | refine blk_drewN ?_ _ | refine blk_drew ?_ | refine blk_alloc ?_ _)); exact BK366.out⟩, ⟨by repeat (first | (with_reducible first | exact HB.out | apply below_alloc | apply pw_below_drewN | apply below_drew1 | refine below_set ?_ GE366.out) | exact HB.out)⟩⟩
  case rest =>
    clear HC4
    try clear c1
    try clear c2
    try clear p2
    try clear c3
    try clear c6
    try clear c6b0
    try clear c8
    try clear c8b0
    try clear c10
    try clear c10b0
    try clear c12
    try clear c12b0
    try clear hcz11_0
    try clear hcz11_1
    try clear hcz11_2
    try clear hcz13_0
    try clear hcz13_1
    try clear hcz13_2
    try clear hcz14_0
    try clear hcz14_1
    try clear hcz14_2
    try clear hcz7_0
    try clear hcz7_1
    try clear hcz7_2
    try clear hcz9_0
    try clear hcz9_1
    try clear hcz9_2
    try clear hfz11_0
    try clear hfz11_1
    try clear hfz11_2
    try clear hfz13_0
    try clear hfz13_1
    try clear hfz13_2
    try clear hfz14_0
    try clear hfz14_1
    try clear hfz14_2
    try clear hfz7_0
    try clear hfz7_1
    try clear hfz7_2
    try clear hfz9_0
    try clear hfz9_1
    try clear hfz9_2
    obtain ⟨kq, x34_3, rfl, HA, HJ3, BK366, HB⟩ := hcut
    cases kq with
    | zero => exact absurd HA.out (by simp [castellanref6_Build.j0])
    | succ kj3 =>
      have H := HA.out
      clear HA
      simp only [castellanref6_Build.j0] at H
      by_cases c15 : x34_3 = true
      · subst c15
        have H1 : (some (([] : List Int), 1)) = some (r1, r2) := by rw [if_pos rfl] at H; exact H
        clear H
        have H := H1
        clear H1
        simp only [Option.some.injEq, Prod.mk.injEq] at H
        obtain ⟨rfl, rfl⟩ := H
        go_wp2
        go_ret2
        exact ⟨_, by first | rfl | (simp [errW_none, errW_some] <;> rfl) | (simp [*, errW_none, errW_some] <;> rfl), by first | exact Kd.R_nil _ _ _ _ _ | exact Kd.N_nil _ _ _ _ _ | exact Kd.V_nil _ _ _ _ _ | exact Kd.Q_nil _ _ _ _ _ | exact Kd.S_nil _ _ _ _ _, by repeat (first | (with_reducible first | exact HB.out | apply below_alloc | apply pw_below_drewN | apply below_drew1 | refine below_set ?_ GE366.out) | exact HB.out)⟩
      · replace c15 := Bool.eq_false_iff.mpr c15
        subst c15
        have H1 : ((castellanref1_Put16.f a2_0).bind fun t367 => ((castellanref1_Put16.f a2_1).bind fun t370 => (if t367.length + t370.length < 140737488355328 then ((some (t367 ++ t370 : List Int)).bind fun y373 => ((castellanref1_Put16.f (wrap64 (8 + (l2_2.length : Int)))).bind fun t376 => (if y373.length + t376.length < 140737488355328 then ((some (y373 ++ t376 : List Int)).bind fun y379 => ((some (([0, 0] : List Int) : List Int)).bind fun y382 => (if y379.length + y382.length < 140737488355328 then ((some (y379 ++ y382 : List Int)).bind fun y385 => (if y385.length + l2_2.length < 140737488355328 then ((some (y385 ++ l2_2 : List Int)).bind fun y388 => ((castellanref2_Pseudo.f a0 a1 17 (y388.length : Int)).bind fun t391 => (if t391.length + y388.length < 140737488355328 then ((castellanref2_Of.f kj3 (t391 ++ y388)).bind fun t397 => (if t397 = 0 then ((castellanref1_Put16.f 65535).bind fun t398 => (if 0 < (t398.length : Int) then (if 1 < (t398.length : Int) then (if 6 < (y388.length : Int) then (if 7 < (y388.length : Int) then (some (((y388.set (6 : Int).toNat (rd t398 0)).set (7 : Int).toNat (rd t398 1)), 0)) else (none)) else (none)) else (none)) else (none))) else ((castellanref1_Put16.f t397).bind fun t405 => (if 0 < (t405.length : Int) then (if 1 < (t405.length : Int) then (if 6 < (y388.length : Int) then (if 7 < (y388.length : Int) then (some (((y388.set (6 : Int).toNat (rd t405 0)).set (7 : Int).toNat (rd t405 1)), 0)) else (none)) else (none)) else (none)) else (none))))) else (none)))) else (none))) else (none)))) else (none)))) else (none)))) = some (r1, r2) := by rw [if_neg (show ¬ (false = true) by decide)] at H; exact H
        clear H
        have H := H1
        clear H1
        replace H := Option.bind_eq_some_iff.mp H
        obtain ⟨t367, A160, H⟩ := H
        replace H : ((castellanref1_Put16.f a2_1).bind fun t370 => (if t367.length + t370.length < 140737488355328 then ((some (t367 ++ t370 : List Int)).bind fun y373 => ((castellanref1_Put16.f (wrap64 (8 + (l2_2.length : Int)))).bind fun t376 => (if y373.length + t376.length < 140737488355328 then ((some (y373 ++ t376 : List Int)).bind fun y379 => ((some (([0, 0] : List Int) : List Int)).bind fun y382 => (if y379.length + y382.length < 140737488355328 then ((some (y379 ++ y382 : List Int)).bind fun y385 => (if y385.length + l2_2.length < 140737488355328 then ((some (y385 ++ l2_2 : List Int)).bind fun y388 => ((castellanref2_Pseudo.f a0 a1 17 (y388.length : Int)).bind fun t391 => (if t391.length + y388.length < 140737488355328 then ((castellanref2_Of.f kj3 (t391 ++ y388)).bind fun t397 => (if t397 = 0 then ((castellanref1_Put16.f 65535).bind fun t398 => (if 0 < (t398.length : Int) then (if 1 < (t398.length : Int) then (if 6 < (y388.length : Int) then (if 7 < (y388.length : Int) then (some (((y388.set (6 : Int).toNat (rd t398 0)).set (7 : Int).toNat (rd t398 1)), 0)) else (none)) else (none)) else (none)) else (none))) else ((castellanref1_Put16.f t397).bind fun t405 => (if 0 < (t405.length : Int) then (if 1 < (t405.length : Int) then (if 6 < (y388.length : Int) then (if 7 < (y388.length : Int) then (some (((y388.set (6 : Int).toNat (rd t405 0)).set (7 : Int).toNat (rd t405 1)), 0)) else (none)) else (none)) else (none)) else (none))))) else (none)))) else (none))) else (none)))) else (none)))) else (none))) = some (r1, r2) := H
        have A16 := Aside0.mk A160
        clear A160
        replace H := Option.bind_eq_some_iff.mp H
        obtain ⟨t370, A170, H⟩ := H
        replace H : (if t367.length + t370.length < 140737488355328 then ((some (t367 ++ t370 : List Int)).bind fun y373 => ((castellanref1_Put16.f (wrap64 (8 + (l2_2.length : Int)))).bind fun t376 => (if y373.length + t376.length < 140737488355328 then ((some (y373 ++ t376 : List Int)).bind fun y379 => ((some (([0, 0] : List Int) : List Int)).bind fun y382 => (if y379.length + y382.length < 140737488355328 then ((some (y379 ++ y382 : List Int)).bind fun y385 => (if y385.length + l2_2.length < 140737488355328 then ((some (y385 ++ l2_2 : List Int)).bind fun y388 => ((castellanref2_Pseudo.f a0 a1 17 (y388.length : Int)).bind fun t391 => (if t391.length + y388.length < 140737488355328 then ((castellanref2_Of.f kj3 (t391 ++ y388)).bind fun t397 => (if t397 = 0 then ((castellanref1_Put16.f 65535).bind fun t398 => (if 0 < (t398.length : Int) then (if 1 < (t398.length : Int) then (if 6 < (y388.length : Int) then (if 7 < (y388.length : Int) then (some (((y388.set (6 : Int).toNat (rd t398 0)).set (7 : Int).toNat (rd t398 1)), 0)) else (none)) else (none)) else (none)) else (none))) else ((castellanref1_Put16.f t397).bind fun t405 => (if 0 < (t405.length : Int) then (if 1 < (t405.length : Int) then (if 6 < (y388.length : Int) then (if 7 < (y388.length : Int) then (some (((y388.set (6 : Int).toNat (rd t405 0)).set (7 : Int).toNat (rd t405 1)), 0)) else (none)) else (none)) else (none)) else (none))))) else (none)))) else (none))) else (none)))) else (none)))) else (none)) = some (r1, r2) := H
        have A17 := Aside0.mk A170
        clear A170
        by_cases c18 : t367.length + t370.length < 140737488355328
        · rw [if_pos c18] at H
          have LMc18 := Aside0.mk c18
          clear c18
          obtain ⟨y373, hy373⟩ : ∃ y_ : List Int, y_ = (t367 ++ t370) := ⟨_, rfl⟩
          replace H : ((castellanref1_Put16.f (wrap64 (8 + (l2_2.length : Int)))).bind fun t376 => (if y373.length + t376.length < 140737488355328 then ((some (y373 ++ t376 : List Int)).bind fun y379 => ((some (([0, 0] : List Int) : List Int)).bind fun y382 => (if y379.length + y382.length < 140737488355328 then ((some (y379 ++ y382 : List Int)).bind fun y385 => (if y385.length + l2_2.length < 140737488355328 then ((some (y385 ++ l2_2 : List Int)).bind fun y388 => ((castellanref2_Pseudo.f a0 a1 17 (y388.length : Int)).bind fun t391 => (if t391.length + y388.length < 140737488355328 then ((castellanref2_Of.f kj3 (t391 ++ y388)).bind fun t397 => (if t397 = 0 then ((castellanref1_Put16.f 65535).bind fun t398 => (if 0 < (t398.length : Int) then (if 1 < (t398.length : Int) then (if 6 < (y388.length : Int) then (if 7 < (y388.length : Int) then (some (((y388.set (6 : Int).toNat (rd t398 0)).set (7 : Int).toNat (rd t398 1)), 0)) else (none)) else (none)) else (none)) else (none))) else ((castellanref1_Put16.f t397).bind fun t405 => (if 0 < (t405.length : Int) then (if 1 < (t405.length : Int) then (if 6 < (y388.length : Int) then (if 7 < (y388.length : Int) then (some (((y388.set (6 : Int).toNat (rd t405 0)).set (7 : Int).toNat (rd t405 1)), 0)) else (none)) else (none)) else (none)) else (none))))) else (none)))) else (none))) else (none)))) else (none))) = some (r1, r2) := by first | (rw [hy373]; with_reducible exact H) | (have H2_ := (Option.bind_some _ _).symm.trans H; rw [hy373]; with_reducible exact H2_) | (have H2_ := (Option.bind_some _ _).symm.trans H; with_reducible exact H2_) | with_reducible exact H | (rw [hy373]; exact H) | exact H
          have Ny373 := Aside0.mk hy373
          clear hy373
          replace H := Option.bind_eq_some_iff.mp H
          obtain ⟨t376, A190, H⟩ := H
          replace H : (if y373.length + t376.length < 140737488355328 then ((some (y373 ++ t376 : List Int)).bind fun y379 => ((some (([0, 0] : List Int) : List Int)).bind fun y382 => (if y379.length + y382.length < 140737488355328 then ((some (y379 ++ y382 : List Int)).bind fun y385 => (if y385.length + l2_2.length < 140737488355328 then ((some (y385 ++ l2_2 : List Int)).bind fun y388 => ((castellanref2_Pseudo.f a0 a1 17 (y388.length : Int)).bind fun t391 => (if t391.length + y388.length < 140737488355328 then ((castellanref2_Of.f kj3 (t391 ++ y388)).bind fun t397 => (if t397 = 0 then ((castellanref1_Put16.f 65535).bind fun t398 => (if 0 < (t398.length : Int) then (if 1 < (t398.length : Int) then (if 6 < (y388.length : Int) then (if 7 < (y388.length : Int) then (some (((y388.set (6 : Int).toNat (rd t398 0)).set (7 : Int).toNat (rd t398 1)), 0)) else (none)) else (none)) else (none)) else (none))) else ((castellanref1_Put16.f t397).bind fun t405 => (if 0 < (t405.length : Int) then (if 1 < (t405.length : Int) then (if 6 < (y388.length : Int) then (if 7 < (y388.length : Int) then (some (((y388.set (6 : Int).toNat (rd t405 0)).set (7 : Int).toNat (rd t405 1)), 0)) else (none)) else (none)) else (none)) else (none))))) else (none)))) else (none))) else (none)))) else (none)) = some (r1, r2) := H
          have A19 := Aside0.mk A190
          clear A190
          by_cases c20 : y373.length + t376.length < 140737488355328
          · rw [if_pos c20] at H
            have LMc20 := Aside0.mk c20
            clear c20
            obtain ⟨y379, hy379⟩ : ∃ y_ : List Int, y_ = (y373 ++ t376) := ⟨_, rfl⟩
            replace H : ((some (([0, 0] : List Int) : List Int)).bind fun y382 => (if y379.length + y382.length < 140737488355328 then ((some (y379 ++ y382 : List Int)).bind fun y385 => (if y385.length + l2_2.length < 140737488355328 then ((some (y385 ++ l2_2 : List Int)).bind fun y388 => ((castellanref2_Pseudo.f a0 a1 17 (y388.length : Int)).bind fun t391 => (if t391.length + y388.length < 140737488355328 then ((castellanref2_Of.f kj3 (t391 ++ y388)).bind fun t397 => (if t397 = 0 then ((castellanref1_Put16.f 65535).bind fun t398 => (if 0 < (t398.length : Int) then (if 1 < (t398.length : Int) then (if 6 < (y388.length : Int) then (if 7 < (y388.length : Int) then (some (((y388.set (6 : Int).toNat (rd t398 0)).set (7 : Int).toNat (rd t398 1)), 0)) else (none)) else (none)) else (none)) else (none))) else ((castellanref1_Put16.f t397).bind fun t405 => (if 0 < (t405.length : Int) then (if 1 < (t405.length : Int) then (if 6 < (y388.length : Int) then (if 7 < (y388.length : Int) then (some (((y388.set (6 : Int).toNat (rd t405 0)).set (7 : Int).toNat (rd t405 1)), 0)) else (none)) else (none)) else (none)) else (none))))) else (none)))) else (none))) else (none))) = some (r1, r2) := by first | (rw [hy379]; with_reducible exact H) | (have H2_ := (Option.bind_some _ _).symm.trans H; rw [hy379]; with_reducible exact H2_) | (have H2_ := (Option.bind_some _ _).symm.trans H; with_reducible exact H2_) | with_reducible exact H | (rw [hy379]; exact H) | exact H
            have Ny379 := Aside0.mk hy379
            clear hy379
            obtain ⟨y382, hy382⟩ : ∃ y_ : List Int, y_ = (([0, 0] : List Int)) := ⟨_, rfl⟩
            replace H : (if y379.length + y382.length < 140737488355328 then ((some (y379 ++ y382 : List Int)).bind fun y385 => (if y385.length + l2_2.length < 140737488355328 then ((some (y385 ++ l2_2 : List Int)).bind fun y388 => ((castellanref2_Pseudo.f a0 a1 17 (y388.length : Int)).bind fun t391 => (if t391.length + y388.length < 140737488355328 then ((castellanref2_Of.f kj3 (t391 ++ y388)).bind fun t397 => (if t397 = 0 then ((castellanref1_Put16.f 65535).bind fun t398 => (if 0 < (t398.length : Int) then (if 1 < (t398.length : Int) then (if 6 < (y388.length : Int) then (if 7 < (y388.length : Int) then (some (((y388.set (6 : Int).toNat (rd t398 0)).set (7 : Int).toNat (rd t398 1)), 0)) else (none)) else (none)) else (none)) else (none))) else ((castellanref1_Put16.f t397).bind fun t405 => (if 0 < (t405.length : Int) then (if 1 < (t405.length : Int) then (if 6 < (y388.length : Int) then (if 7 < (y388.length : Int) then (some (((y388.set (6 : Int).toNat (rd t405 0)).set (7 : Int).toNat (rd t405 1)), 0)) else (none)) else (none)) else (none)) else (none))))) else (none)))) else (none))) else (none)) = some (r1, r2) := by first | (rw [hy382]; with_reducible exact H) | (have H2_ := (Option.bind_some _ _).symm.trans H; rw [hy382]; with_reducible exact H2_) | (have H2_ := (Option.bind_some _ _).symm.trans H; with_reducible exact H2_) | with_reducible exact H | (rw [hy382]; exact H) | exact H
            have Ny382 := Aside0.mk hy382
            clear hy382
            by_cases c21 : y379.length + y382.length < 140737488355328
            · rw [if_pos c21] at H
              have LMc21 := Aside0.mk c21
              clear c21
              obtain ⟨y385, hy385⟩ : ∃ y_ : List Int, y_ = (y379 ++ y382) := ⟨_, rfl⟩
              replace H : (if y385.length + l2_2.length < 140737488355328 then ((some (y385 ++ l2_2 : List Int)).bind fun y388 => ((castellanref2_Pseudo.f a0 a1 17 (y388.length : Int)).bind fun t391 => (if t391.length + y388.length < 140737488355328 then ((castellanref2_Of.f kj3 (t391 ++ y388)).bind fun t397 => (if t397 = 0 then ((castellanref1_Put16.f 65535).bind fun t398 => (if 0 < (t398.length : Int) then (if 1 < (t398.length : Int) then (if 6 < (y388.length : Int) then (if 7 < (y388.length : Int) then (some (((y388.set (6 : Int).toNat (rd t398 0)).set (7 : Int).toNat (rd t398 1)), 0)) else (none)) else (none)) else (none)) else (none))) else ((castellanref1_Put16.f t397).bind fun t405 => (if 0 < (t405.length : Int) then (if 1 < (t405.length : Int) then (if 6 < (y388.length : Int) then (if 7 < (y388.length : Int) then (some (((y388.set (6 : Int).toNat (rd t405 0)).set (7 : Int).toNat (rd t405 1)), 0)) else (none)) else (none)) else (none)) else (none))))) else (none)))) else (none)) = some (r1, r2) := by first | (rw [hy385]; with_reducible exact H) | (have H2_ := (Option.bind_some _ _).symm.trans H; rw [hy385]; with_reducible exact H2_) | (have H2_ := (Option.bind_some _ _).symm.trans H; with_reducible exact H2_) | with_reducible exact H | (rw [hy385]; exact H) | exact H
              have Ny385 := Aside0.mk hy385
              clear hy385
              by_cases c22 : y385.length + l2_2.length < 140737488355328
              · rw [if_pos c22] at H
                have LMc22 := Aside0.mk c22
                clear c22
                obtain ⟨y388, hy388⟩ : ∃ y_ : List Int, y_ = (y385 ++ l2_2) := ⟨_, rfl⟩
                replace H : ((castellanref2_Pseudo.f a0 a1 17 (y388.length : Int)).bind fun t391 => (if t391.length + y388.length < 140737488355328 then ((castellanref2_Of.f kj3 (t391 ++ y388)).bind fun t397 => (if t397 = 0 then ((castellanref1_Put16.f 65535).bind fun t398 => (if 0 < (t398.length : Int) then (if 1 < (t398.length : Int) then (if 6 < (y388.length : Int) then (if 7 < (y388.length : Int) then (some (((y388.set (6 : Int).toNat (rd t398 0)).set (7 : Int).toNat (rd t398 1)), 0)) else (none)) else (none)) else (none)) else (none))) else ((castellanref1_Put16.f t397).bind fun t405 => (if 0 < (t405.length : Int) then (if 1 < (t405.length : Int) then (if 6 < (y388.length : Int) then (if 7 < (y388.length : Int) then (some (((y388.set (6 : Int).toNat (rd t405 0)).set (7 : Int).toNat (rd t405 1)), 0)) else (none)) else (none)) else (none)) else (none))))) else (none))) = some (r1, r2) := by first | (rw [hy388]; with_reducible exact H) | (have H2_ := (Option.bind_some _ _).symm.trans H; rw [hy388]; with_reducible exact H2_) | (have H2_ := (Option.bind_some _ _).symm.trans H; with_reducible exact H2_) | with_reducible exact H | (rw [hy388]; exact H) | exact H
                have Ny388 := Aside0.mk hy388
                clear hy388
                replace H := Option.bind_eq_some_iff.mp H
                obtain ⟨t391, A230, H⟩ := H
                replace H : (if t391.length + y388.length < 140737488355328 then ((castellanref2_Of.f kj3 (t391 ++ y388)).bind fun t397 => (if t397 = 0 then ((castellanref1_Put16.f 65535).bind fun t398 => (if 0 < (t398.length : Int) then (if 1 < (t398.length : Int) then (if 6 < (y388.length : Int) then (if 7 < (y388.length : Int) then (some (((y388.set (6 : Int).toNat (rd t398 0)).set (7 : Int).toNat (rd t398 1)), 0)) else (none)) else (none)) else (none)) else (none))) else ((castellanref1_Put16.f t397).bind fun t405 => (if 0 < (t405.length : Int) then (if 1 < (t405.length : Int) then (if 6 < (y388.length : Int) then (if 7 < (y388.length : Int) then (some (((y388.set (6 : Int).toNat (rd t405 0)).set (7 : Int).toNat (rd t405 1)), 0)) else (none)) else (none)) else (none)) else (none))))) else (none)) = some (r1, r2) := H
                have A23 := Aside0.mk A230
                clear A230
                by_cases c24 : t391.length + y388.length < 140737488355328
                · rw [if_pos c24] at H
                  have LMc24 := Aside0.mk c24
                  clear c24
                  obtain ⟨y394, hy394⟩ : ∃ y_ : List Int, y_ = (t391 ++ y388) := ⟨_, rfl⟩
                  replace H : ((castellanref2_Of.f kj3 y394).bind fun t397 => (if t397 = 0 then ((castellanref1_Put16.f 65535).bind fun t398 => (if 0 < (t398.length : Int) then (if 1 < (t398.length : Int) then (if 6 < (y388.length : Int) then (if 7 < (y388.length : Int) then (some (((y388.set (6 : Int).toNat (rd t398 0)).set (7 : Int).toNat (rd t398 1)), 0)) else (none)) else (none)) else (none)) else (none))) else ((castellanref1_Put16.f t397).bind fun t405 => (if 0 < (t405.length : Int) then (if 1 < (t405.length : Int) then (if 6 < (y388.length : Int) then (if 7 < (y388.length : Int) then (some (((y388.set (6 : Int).toNat (rd t405 0)).set (7 : Int).toNat (rd t405 1)), 0)) else (none)) else (none)) else (none)) else (none))))) = some (r1, r2) := by first | (rw [hy394]; with_reducible exact H) | (have H2_ := (Option.bind_some _ _).symm.trans H; rw [hy394]; with_reducible exact H2_) | (have H2_ := (Option.bind_some _ _).symm.trans H; with_reducible exact H2_) | with_reducible exact H | (rw [hy394]; exact H) | exact H
                  have Ny394 := Aside0.mk hy394
                  clear hy394
                  replace H := Option.bind_eq_some_iff.mp H
                  obtain ⟨t397, A250, H⟩ := H
                  replace H : (if t397 = 0 then ((castellanref1_Put16.f 65535).bind fun t398 => (if 0 < (t398.length : Int) then (if 1 < (t398.length : Int) then (if 6 < (y388.length : Int) then (if 7 < (y388.length : Int) then (some (((y388.set (6 : Int).toNat (rd t398 0)).set (7 : Int).toNat (rd t398 1)), 0)) else (none)) else (none)) else (none)) else (none))) else ((castellanref1_Put16.f t397).bind fun t405 => (if 0 < (t405.length : Int) then (if 1 < (t405.length : Int) then (if 6 < (y388.length : Int) then (if 7 < (y388.length : Int) then (some (((y388.set (6 : Int).toNat (rd t405 0)).set (7 : Int).toNat (rd t405 1)), 0)) else (none)) else (none)) else (none)) else (none)))) = some (r1, r2) := H
                  have A25 := Aside0.mk A250
                  clear A250
                  by_cases c26 : t397 = 0
                  · rw [if_pos c26] at H
                    have c26b0 : (t397 == 0) = true := beq_iff_eq.mpr c26
                    have c26b1 : (t397 != 0) = false := bne_eq_false_iff_eq.mpr c26
                    clear c26
                    replace H := Option.bind_eq_some_iff.mp H
                    obtain ⟨t398, A270, H⟩ := H
                    replace H : (if 0 < (t398.length : Int) then (if 1 < (t398.length : Int) then (if 6 < (y388.length : Int) then (if 7 < (y388.length : Int) then (some (((y388.set (6 : Int).toNat (rd t398 0)).set (7 : Int).toNat (rd t398 1)), 0)) else (none)) else (none)) else (none)) else (none)) = some (r1, r2) := H
                    have A27 := Aside0.mk A270
                    clear A270
                    by_cases c28 : 0 < (t398.length : Int)
                    · rw [if_pos c28] at H
                      have c28b0 : decide (0 < (t398.length : Int)) = true := decide_eq_true c28
                      have c28b1 : decide (0 < t398.length) = true := decide_eq_true (by omega)
                      clear c28
                      by_cases c29 : 1 < (t398.length : Int)
                      · rw [if_pos c29] at H
                        have c29b0 : decide (1 < (t398.length : Int)) = true := decide_eq_true c29
                        have c29b1 : decide (1 < t398.length) = true := decide_eq_true (by omega)
                        clear c29
                        by_cases c30 : 6 < (y388.length : Int)
                        · rw [if_pos c30] at H
                          have c30b0 : decide (6 < (y388.length : Int)) = true := decide_eq_true c30
                          have c30b1 : decide (6 < y388.length) = true := decide_eq_true (by omega)
                          clear c30
                          obtain ⟨y403, hy403⟩ : ∃ y_ : List Int, y_ = (y388.set (6 : Int).toNat (rd t398 0)) := ⟨_, rfl⟩
                          replace H : (if 7 < (y388.length : Int) then (some ((y403.set (7 : Int).toNat (rd t398 1)), 0)) else (none)) = some (r1, r2) := by first | (rw [hy403]; with_reducible exact H) | (have H2_ := (Option.bind_some _ _).symm.trans H; rw [hy403]; with_reducible exact H2_) | (have H2_ := (Option.bind_some _ _).symm.trans H; with_reducible exact H2_) | with_reducible exact H | (rw [hy403]; exact H) | exact H
                          have Ny403 := Aside0.mk hy403
                          clear hy403
                          by_cases c32 : 7 < (y388.length : Int)
                          · rw [if_pos c32] at H
                            have c32b0 : decide (7 < (y388.length : Int)) = true := decide_eq_true c32
                            have c32b1 : decide (7 < y388.length) = true := decide_eq_true (by omega)
                            clear c32
                            obtain ⟨y404, hy404⟩ : ∃ y_ : List Int, y_ = (y403.set (7 : Int).toNat (rd t398 1)) := ⟨_, rfl⟩
                            replace H : (some (y404, 0)) = some (r1, r2) := by first | (rw [hy404]; with_reducible exact H) | (have H2_ := (Option.bind_some _ _).symm.trans H; rw [hy404]; with_reducible exact H2_) | (have H2_ := (Option.bind_some _ _).symm.trans H; with_reducible exact H2_) | with_reducible exact H | (rw [hy404]; exact H) | exact H
                            have Ny404 := Aside0.mk hy404
                            clear hy404
                            simp only [Option.some.injEq, Prod.mk.injEq] at H
                            obtain ⟨rfl, rfl⟩ := H
                            try go_wp2
                            have n0_ := Aside0.mk (blk_drew BK366.out)
                            have n1_ := Aside0.mk (below_drew1 HB.out)
                            clear BK366
                            clear HB
                            have BK366 := n0_
                            have HB := n1_
                            clear n0_ n1_
                            refine start_ (n := 8) (S := fun w' => w'.cell? ⟨gb366, 0, none⟩ = some (.int .i64 a2_0) ∧ w'.cell? ⟨gb366, 1, none⟩ = some (.int .i64 a2_1) ∧ w'.cell? ⟨gb366, 2, none⟩ = some (.slice A2_2 l2_2.length c2_2)) (ds := []) #[false, false, false, false, false, false, false, false] (by kernel_rfl) rfl rfl ⟨(blk_cell BK366.out 0).trans rfl, (blk_cell BK366.out 1).trans rfl, (blk_cell BK366.out 2).trans rfl⟩ (fun hHeld => ?_); refine with_tabW castellanref6_Build.tab3 castellanref6_Build.bits3 (fun HT_ HW_ => ?_)
                            generalize wc.drew = w34 at BK366 HB hHeld ⊢
                            refine pure_ (i := 0) (N := some 35) (v := ?_) (a' := ?_) #[true, false, false, false, false, false, false, false] rfl rfl (any_of HT_.out (by kernel_rfl)) (fun _ _ _ h => h) (Or.inl ⟨by rfl, ?_⟩) ?_ ?_
                            rotate_left
                            · intro w'
                              go_simp
                              with_reducible rfl
                            rotate_left
                            · simp only [Act.put, List.setIfInBounds_toArray, List.set_cons_zero, List.set_cons_succ, i64_w, i32_w]
                              rfl
                            refine pure_ (i := 3) (N := some 38) (v := ?_) (a' := ?_) #[true, false, false, true, false, false, false, false] rfl rfl (any_of HT_.out (by kernel_rfl)) (fun _ _ _ h => h) (Or.inl ⟨by rfl, ?_⟩) ?_ ?_
                            rotate_left
                            · intro w'
                              go_simp
                              with_reducible rfl
                            rotate_left
                            · simp only [Act.put, List.setIfInBounds_toArray, List.set_cons_zero, List.set_cons_succ, i64_w, i32_w]
                              rfl
                            refine take_ (i := 1) (N := some 36) (v := ?_) (a' := ?_) #[true, true, false, true, false, false, false, false] rfl rfl (take_ofW HT_.out HW_.out (by kernel_rfl)) (fun _ _ _ h => h) (Or.inl ⟨by rfl, ?_⟩) hHeld ?_ ?_
                            rotate_left
                            · rintro w' ⟨s0, s1, s2⟩
                              go_simp
                              with_reducible rfl
                            rotate_left
                            · simp only [Act.put, List.setIfInBounds_toArray, List.set_cons_zero, List.set_cons_succ, i64_w, i32_w]
                              rfl
                            refine take_ (i := 4) (N := some 39) (v := ?_) (a' := ?_) #[true, true, false, true, true, false, false, false] rfl rfl (take_ofW HT_.out HW_.out (by kernel_rfl)) (fun _ _ _ h => h) (Or.inl ⟨by rfl, ?_⟩) hHeld ?_ ?_
                            rotate_left
                            · rintro w' ⟨s0, s1, s2⟩
                              go_simp
                              with_reducible rfl
                            rotate_left
                            · simp only [Act.put, List.setIfInBounds_toArray, List.set_cons_zero, List.set_cons_succ, i64_w, i32_w]
                              rfl
                            refine one_ (i := 2) (N := some 37) #[true, true, true, true, true, false, false, false] rfl rfl (one_of HT_.out (by kernel_rfl)) (by decide) (fun K hK => ?_)
                            refine goes_ Try.func43 (by kernel_rfl) rfl #[.int .i64 a2_0] (by rfl) rfl rfl (by (try simp only [List.map_toArray, List.map_cons, List.map_nil]); first | done | rfl | (simp only [List.length_drop, List.length_take]; rfl)) ?_
                            with_reducible refine (castellanref1_Put16.calls a2_0 t367 _ A16.out).mono ?_
                            rintro e w35 ⟨v368, rfl, ho0, hb⟩
                            refine ⟨_, rfl, ?_⟩
                            have n0_ := Aside0.mk (Kd.R_lower ho0 (below_size (by repeat (first | (with_reducible first | exact HB.out | apply below_alloc | apply pw_below_drewN | apply below_drew1 | refine below_set ?_ GE366.out) | exact HB.out))))
                            have n1_ := Aside0.mk (blk_below (g := gb366) (o := .cells #[.int .i64 a2_0, .int .i64 a2_1, .slice A2_2 l2_2.length c2_2] 74 (0, 0)) (by (with_reducible repeat (first | refine blk_drewN ?_ _ | refine blk_drew ?_ | refine blk_alloc ?_ _)); exact BK366.out) hb)
                            have n2_ := Aside0.mk (below_step (by repeat (first | (with_reducible first | exact HB.out | apply below_alloc | apply pw_below_drewN | apply below_drew1 | refine below_set ?_ GE366.out) | exact HB.out)) hb)
                            clear BK366
                            clear HB
                            have HO369 := n0_
                            have BK366 := n1_
                            have HB := n2_
                            clear n0_ n1_ n2_
                            (try clear hb)
                            (try clear hb2)
                            (try clear hk)
                            (try clear hi)
                            (try clear ho0)
                            refine hK.out _ _ ⟨(blk_cell BK366.out 0).trans rfl, (blk_cell BK366.out 1).trans rfl, (blk_cell BK366.out 2).trans rfl⟩ (fun hHeld => ?_)
                            clear hK K
                            refine norm_ (a' := ?_) ?_ ?_
                            rotate_left
                            · show Act.put _ (some 37) _ = _
                              simp only [Act.put, List.setIfInBounds_toArray, List.set_cons_zero, List.set_cons_succ, i64_w, i32_w]
                              rfl
                            refine one_ (i := 5) (N := some 40) #[true, true, true, true, true, true, false, false] rfl rfl (one_of HT_.out (by kernel_rfl)) (by decide) (fun K hK => ?_)
                            refine goes_ Try.func43 (by kernel_rfl) rfl #[.int .i64 a2_1] (by rfl) rfl rfl (by (try simp only [List.map_toArray, List.map_cons, List.map_nil]); first | done | rfl | (simp only [List.length_drop, List.length_take]; rfl)) ?_
                            with_reducible refine (castellanref1_Put16.calls a2_1 t370 _ A17.out).mono ?_
                            rintro e w36 ⟨v371, rfl, ho0, hb⟩
                            refine ⟨_, rfl, ?_⟩
                            have n0_ := Aside0.mk (Kd.R_elder' (by (with_reducible repeat (first | apply Kd.R_alloc | apply Kd.R_drewN | apply Kd.R_drew)); exact HO369.out) (Kd.R_base ho0) hb)
                            have n1_ := Aside0.mk (Kd.R_lower (Kd.R_new' ho0 (Kd.R_lt (by (with_reducible repeat (first | apply Kd.R_alloc | apply Kd.R_drewN | apply Kd.R_drew)); exact HO369.out))) (below_size (by repeat (first | (with_reducible first | exact HB.out | apply below_alloc | apply pw_below_drewN | apply below_drew1 | refine below_set ?_ GE366.out) | exact HB.out))))
                            have n2_ := Aside0.mk (blk_below (g := gb366) (o := .cells #[.int .i64 a2_0, .int .i64 a2_1, .slice A2_2 l2_2.length c2_2] 74 (0, 0)) (by (with_reducible repeat (first | refine blk_drewN ?_ _ | refine blk_drew ?_ | refine blk_alloc ?_ _)); exact BK366.out) hb)
                            have n3_ := Aside0.mk (below_step (by repeat (first | (with_reducible first | exact HB.out | apply below_alloc | apply pw_below_drewN | apply below_drew1 | refine below_set ?_ GE366.out) | exact HB.out)) hb)
                            clear HO369
                            clear BK366
                            clear HB
                            have HO369 := n0_
                            have HO372 := n1_
                            have BK366 := n2_
                            have HB := n3_
                            clear n0_ n1_ n2_ n3_
                            (try clear hb)
                            (try clear hb2)
                            (try clear hk)
                            (try clear hi)
                            (try clear ho0)
                            obtain ⟨Ao38, co38, eo38⟩ := Kd.R_slice HO372.out
                            (first | subst eo38 | (injection eo38 with f1_ f2_ f3_; have f4_ := f1_.symm; have f5_ := f3_.symm; clear f1_ f2_ f3_; subst f4_; subst f5_))
                            refine hK.out _ _ ⟨(blk_cell BK366.out 0).trans rfl, (blk_cell BK366.out 1).trans rfl, (blk_cell BK366.out 2).trans rfl⟩ (fun hHeld => ?_)
                            clear hK K
                            refine norm_ (a' := ?_) ?_ ?_
                            rotate_left
                            · show Act.put _ (some 40) _ = _
                              simp only [Act.put, List.setIfInBounds_toArray, List.set_cons_zero, List.set_cons_succ, i64_w, i32_w]
                              rfl
                            refine one_ (i := 6) (N := some 41) #[true, true, true, true, true, true, true, false] rfl rfl (one_of HT_.out (by kernel_rfl)) (by decide) (fun K hK => ?_)
                            refine Kd.R_append_rows_step (Kd.int .u8) (w0 := w) w.heap.size (by rfl) (.tmp 37) (.tmp 40) 24 5 (.int .u8 0) 1 rfl Try.underlying24 info5 rfl (by decide) (by omega) v368 t367 t370 _ _ _ (fun k_ => some k_ ≠ (.slice Ao38 t370.length co38 : Value).ownBlock) (fun _ => False) rfl rfl ?aO ?aR (fun _ _ h => h) (fun _ h => h.elim) ?aF ?aB ?aS ?aL ?_
                            (case aR => repeat (first | exact (Kd.R_reads' HO372.out).2.2 | (with_reducible refine Kd.C_alloc ?_ _) | (with_reducible refine Kd.C_drewN ?_ _) | (with_reducible refine Kd.C_drew ?_)))
                            (case aB => exact (by repeat (first | (with_reducible first | exact HB.out | apply below_alloc | apply pw_below_drewN | apply below_drew1 | refine below_set ?_ GE366.out) | exact HB.out)))
                            (case aF => exact (fun k_ hk => Kd.fresh' (Kd.R_lt (by (with_reducible repeat (first | apply Kd.R_alloc | apply Kd.R_drewN | apply Kd.R_drew)); exact HO372.out)) k_ hk))
                            (case aO => exact (by (with_reducible repeat (first | apply Kd.R_alloc | apply Kd.R_drewN | apply Kd.R_drew)); exact Kd.R_mono HO369.out (fun _ hk => hk.2)))
                            (case aS => exact (below_size (by repeat (first | (with_reducible first | exact HB.out | apply below_alloc | apply pw_below_drewN | apply below_drew1 | refine below_set ?_ GE366.out) | exact HB.out))))
                            (case aL => have := LMc18.out; omega)
                            intro v374 w37 ho hb hg hat
                            rw [← Ny373.out] at ho
                            have n0_ := Aside0.mk (blk_grown (g := gb366) (o := .cells #[.int .i64 a2_0, .int .i64 a2_1, .slice A2_2 l2_2.length c2_2] 74 (0, 0)) (by (with_reducible repeat (first | refine blk_drewN ?_ _ | refine blk_drew ?_ | refine blk_alloc ?_ _)); exact BK366.out) hg (Kd.R_ne HO369.out BK366.out (by decide)))
                            have n1_ := Aside0.mk (Kd.R_after (ok := (fun _ => True)) (by (with_reducible repeat (first | apply Kd.R_alloc | apply Kd.R_drewN | apply Kd.R_drew)); exact HO372.out) hg hat)
                            have n2_ := Aside0.mk (hb)
                            have n3_ := Aside0.mk (ho)
                            clear BK366
                            clear HO372
                            clear HB
                            clear HO369
                            have BK366 := n0_
                            have HO372 := n1_
                            have HB := n2_
                            have HO375 := n3_
                            clear n0_ n1_ n2_ n3_
                            clear ho hb hg hat
                            refine hK.out _ _ ⟨(blk_cell BK366.out 0).trans rfl, (blk_cell BK366.out 1).trans rfl, (blk_cell BK366.out 2).trans rfl⟩ (fun hHeld => ?_)
                            clear hK K
                            refine norm_ (a' := ?_) ?_ ?_
                            rotate_left
                            · show Act.put _ (some 41) _ = _
                              simp only [Act.put, List.setIfInBounds_toArray, List.set_cons_zero, List.set_cons_succ, i64_w, i32_w]
                              rfl
                            refine pure_ (i := 7) (N := some 8) (v := ?_) (a' := ?_) #[true, true, true, true, true, true, true, true] rfl rfl (any_of HT_.out (by kernel_rfl)) (fun _ _ _ h => h) (Or.inl ⟨by rfl, ?_⟩) ?_ ?_
                            rotate_left
                            · intro w'
                              go_simp
                              with_reducible rfl
                            rotate_left
                            · simp only [Act.put, List.setIfInBounds_toArray, List.set_cons_zero, List.set_cons_succ, i64_w, i32_w]
                              rfl
                            refine done_ (done_of HT_.out (by kernel_rfl)) ?_
                            have hcz39_0 : w37.cell? ⟨gb366, 0, none⟩ = some (.int .i64 a2_0) := (blk_cell BK366.out 0).trans rfl
                            have hcz39_1 : w37.cell? ⟨gb366, 1, none⟩ = some (.int .i64 a2_1) := (blk_cell BK366.out 1).trans rfl
                            have hcz39_2 : w37.cell? ⟨gb366, 2, none⟩ = some (.slice A2_2 l2_2.length c2_2) := (blk_cell BK366.out 2).trans rfl
                            have hfz39_0 := blk_frozen BK366.out 0
                            have hfz39_1 := blk_frozen BK366.out 1
                            have hfz39_2 := blk_frozen BK366.out 2
                            try go_wp2_with (first | ((with_reducible refine gate_callee (f := 43) rfl ?_); refine goesL_ (some 47) rfl rfl Try.func43 (by kernel_rfl) rfl #[.int .i64 (wrap64 (8 + (l2_2.length : Int)))] rfl (by (try simp only [List.map_toArray, List.map_cons, List.map_nil]); first | done | rfl | (simp only [List.length_drop, List.length_take]; rfl)) ?_; (with_reducible refine (castellanref1_Put16.calls (wrap64 (8 + (l2_2.length : Int))) t376 _ A19.out).mono ?_); rintro e w40 ⟨v377, rfl, ho0, hb⟩; refine ⟨_, rfl, ?_⟩; have n0_ := Aside0.mk (Kd.R_elder' (by (with_reducible repeat (first | apply Kd.R_alloc | apply Kd.R_drewN | apply Kd.R_drew)); exact HO372.out) (Kd.R_base ho0) hb); have n1_ := Aside0.mk (Kd.R_elder' (by (with_reducible repeat (first | apply Kd.R_alloc | apply Kd.R_drewN | apply Kd.R_drew)); exact HO375.out) (Kd.R_base ho0) hb); have n2_ := Aside0.mk (Kd.R_lower (Kd.R_new' (Kd.R_new' ho0 (Kd.R_lt (by (with_reducible repeat (first | apply Kd.R_alloc | apply Kd.R_drewN | apply Kd.R_drew)); exact HO372.out))) (Kd.R_lt (by (with_reducible repeat (first | apply Kd.R_alloc | apply Kd.R_drewN | apply Kd.R_drew)); exact HO375.out))) (below_size (by repeat (first | (with_reducible first | exact HB.out | apply below_alloc | apply pw_below_drewN | apply below_drew1 | refine below_set ?_ GE366.out) | exact HB.out)))); have n3_ := Aside0.mk (blk_below (g := gb366) (o := .cells #[.int .i64 a2_0, .int .i64 a2_1, .slice A2_2 l2_2.length c2_2] 74 (0, 0)) (by (with_reducible repeat (first | refine blk_drewN ?_ _ | refine blk_drew ?_ | refine blk_alloc ?_ _)); exact BK366.out) hb); have n4_ := Aside0.mk (below_step (by repeat (first | (with_reducible first | exact HB.out | apply below_alloc | apply pw_below_drewN | apply below_drew1 | refine below_set ?_ GE366.out) | exact HB.out)) hb); clear HO372; clear HO375; clear BK366; clear HB; have HO372 := n0_; have HO375 := n1_; have HO378 := n2_; have BK366 := n3_; have HB := n4_; clear n0_ n1_ n2_ n3_ n4_; (try clear hb); (try clear hb2); (try clear hk); (try clear hi); (try clear ho0); obtain ⟨Ao42, co42, eo42⟩ := Kd.R_slice HO378.out; subst eo42) | ((with_reducible refine gate_builtin (b := .append) (xs := #[.tmp 42, .tmp 47]) rfl ?_); (try (refine gate_guard (by rfl) ?_; dsimp only)); at_builtin; refine Kd.R_append_rows (Kd.int .u8) (w0 := w) w.heap.size rfl (.tmp 42) (.tmp 47) 24 5 (.int .u8 0) 1 rfl Try.underlying24 info5 rfl (by decide) (by omega) v374 y373 t376 _ _ _ (fun k_ => some k_ ≠ (.slice Ao38 t370.length co38 : Value).ownBlock ∧ some k_ ≠ (.slice Ao42 t376.length co42 : Value).ownBlock) (fun _ => False) rfl rfl ?aO ?aR (fun _ _ h => h) (fun _ h => h.elim) ?aF ?aB ?aS ?aL ?_; (case aR => repeat (first | exact (Kd.R_reads' HO378.out).2.2 | (with_reducible refine Kd.C_alloc ?_ _) | (with_reducible refine Kd.C_drewN ?_ _) | (with_reducible refine Kd.C_drew ?_))); (case aB => exact (by repeat (first | (with_reducible first | exact HB.out | apply below_alloc | apply pw_below_drewN | apply below_drew1 | refine below_set ?_ GE366.out) | exact HB.out))); (case aF => exact (fun k_ hk => ⟨Kd.fresh' (Kd.R_lt (by (with_reducible repeat (first | apply Kd.R_alloc | apply Kd.R_drewN | apply Kd.R_drew)); exact HO372.out)) k_ hk, Kd.fresh' (Kd.R_lt (by (with_reducible repeat (first | apply Kd.R_alloc | apply Kd.R_drewN | apply Kd.R_drew)); exact HO378.out)) k_ hk⟩)); (case aO => exact (by (with_reducible repeat (first | apply Kd.R_alloc | apply Kd.R_drewN | apply Kd.R_drew)); exact HO375.out)); (case aS => exact (below_size (by repeat (first | (with_reducible first | exact HB.out | apply below_alloc | apply pw_below_drewN | apply below_drew1 | refine below_set ?_ GE366.out) | exact HB.out)))); (case aL => have := LMc20.out; omega); intro v380 w41 ho hb hg hat; rw [← Ny379.out] at ho; have n0_ := Aside0.mk (blk_grown (g := gb366) (o := .cells #[.int .i64 a2_0, .int .i64 a2_1, .slice A2_2 l2_2.length c2_2] 74 (0, 0)) (by (with_reducible repeat (first | refine blk_drewN ?_ _ | refine blk_drew ?_ | refine blk_alloc ?_ _)); exact BK366.out) hg (Kd.R_ne HO375.out BK366.out (by decide))); have n1_ := Aside0.mk (Kd.R_after (ok := (fun k_ => some k_ ≠ (.slice Ao42 t376.length co42 : Value).ownBlock)) (by (with_reducible repeat (first | apply Kd.R_alloc | apply Kd.R_drewN | apply Kd.R_drew)); exact Kd.R_mono HO372.out (fun _ hk => ⟨hk.2, hk.1.2⟩)) hg hat); have n2_ := Aside0.mk (Kd.R_after (ok := (fun k_ => some k_ ≠ (.slice Ao38 t370.length co38 : Value).ownBlock)) (by (with_reducible repeat (first | apply Kd.R_alloc | apply Kd.R_drewN | apply Kd.R_drew)); exact Kd.R_mono HO378.out (fun _ hk => ⟨hk.1.2, hk.2⟩)) hg hat); have n3_ := Aside0.mk (hb); have n4_ := Aside0.mk (ho); clear BK366; clear HO372; clear HO378; clear HB; clear HO375; have BK366 := n0_; have HO372 := n1_; have HO378 := n2_; have HB := n3_; have HO381 := n4_; clear n0_ n1_ n2_ n3_ n4_; clear ho hb hg hat) | ((with_reducible refine gate_dst (N := 49) rfl ?_); (try (refine gate_guard (by rfl) ?_; dsimp only)); refine Kd.R_lit (Kd.int .u8) _ 5 ?hg (N := 49) ?hd (xs := ([0, 0] : List Int)) (inner := [.int .u8 0, .int .u8 0]) (ok := fun _ => True) (okp := fun _ => True) ?hr ?hp (fun _ hk => hk) trivial (Below.refl _ _) (Nat.le_refl _) (by simp) ?_; (case hd => rfl); (case hg => rfl); (case hr => first | (go_simp; done) | (go_simp; rfl)); (case hp => exact (Reps.one (show Kd.M (Kd.int .u8) _ _ _ 0 [.int .u8 0] from rfl) (Reps.one (show Kd.M (Kd.int .u8) _ _ _ 0 [.int .u8 0] from rfl) (Reps.none _ _)))); intro v383 w43 ho44 hb hg_ hnew_; clear hg_ hnew_; (first | rw [← Ny382.out] at ho44 | (simp only [Int.reduceToNat] at ho44; rw [← Ny382.out] at ho44)); have n0_ := Aside0.mk (Kd.R_elder' (by (with_reducible repeat (first | apply Kd.R_alloc | apply Kd.R_drewN | apply Kd.R_drew)); exact HO372.out) (Kd.R_base ho44) hb); have n1_ := Aside0.mk (Kd.R_elder' (by (with_reducible repeat (first | apply Kd.R_alloc | apply Kd.R_drewN | apply Kd.R_drew)); exact HO378.out) (Kd.R_base ho44) hb); have n2_ := Aside0.mk (Kd.R_elder' (by (with_reducible repeat (first | apply Kd.R_alloc | apply Kd.R_drewN | apply Kd.R_drew)); exact HO381.out) (Kd.R_base ho44) hb); have n3_ := Aside0.mk (Kd.R_lower (Kd.R_new' (Kd.R_new' (Kd.R_new' ho44 (Kd.R_lt (by (with_reducible repeat (first | apply Kd.R_alloc | apply Kd.R_drewN | apply Kd.R_drew)); exact HO372.out))) (Kd.R_lt (by (with_reducible repeat (first | apply Kd.R_alloc | apply Kd.R_drewN | apply Kd.R_drew)); exact HO378.out))) (Kd.R_lt (by (with_reducible repeat (first | apply Kd.R_alloc | apply Kd.R_drewN | apply Kd.R_drew)); exact HO381.out))) (below_size (by repeat (first | (with_reducible first | exact HB.out | apply below_alloc | apply pw_below_drewN | apply below_drew1 | refine below_set ?_ GE366.out) | exact HB.out)))); have n4_ := Aside0.mk (blk_below (g := gb366) (o := .cells #[.int .i64 a2_0, .int .i64 a2_1, .slice A2_2 l2_2.length c2_2] 74 (0, 0)) (by (with_reducible repeat (first | refine blk_drewN ?_ _ | refine blk_drew ?_ | refine blk_alloc ?_ _)); exact BK366.out) hb); have n5_ := Aside0.mk (below_step (by repeat (first | (with_reducible first | exact HB.out | apply below_alloc | apply pw_below_drewN | apply below_drew1 | refine below_set ?_ GE366.out) | exact HB.out)) hb); clear HO372; clear HO378; clear HO381; clear BK366; clear HB; have HO372 := n0_; have HO378 := n1_; have HO381 := n2_; have HO384 := n3_; have BK366 := n4_; have HB := n5_; clear n0_ n1_ n2_ n3_ n4_ n5_; clear hb ho44; obtain ⟨Ao46, co46, eo46⟩ := Kd.R_slice HO384.out; subst eo46) | ((with_reducible refine gate_builtin (b := .append) (xs := #[.tmp 48, .tmp 49]) rfl ?_); (try (refine gate_guard (by rfl) ?_; dsimp only)); at_builtin; refine Kd.R_append_rows (Kd.int .u8) (w0 := w) w.heap.size rfl (.tmp 48) (.tmp 49) 24 5 (.int .u8 0) 1 rfl Try.underlying24 info5 rfl (by decide) (by omega) v380 y379 y382 _ _ _ (fun k_ => some k_ ≠ (.slice Ao38 t370.length co38 : Value).ownBlock ∧ some k_ ≠ (.slice Ao42 t376.length co42 : Value).ownBlock ∧ some k_ ≠ (.slice Ao46 y382.length co46 : Value).ownBlock) (fun _ => False) rfl rfl ?aO ?aR (fun _ _ h => h) (fun _ h => h.elim) ?aF ?aB ?aS ?aL ?_; (case aR => repeat (first | exact (Kd.R_reads' HO384.out).2.2 | (with_reducible refine Kd.C_alloc ?_ _) | (with_reducible refine Kd.C_drewN ?_ _) | (with_reducible refine Kd.C_drew ?_))); (case aB => exact (by repeat (first | (with_reducible first | exact HB.out | apply below_alloc | apply pw_below_drewN | apply below_drew1 | refine below_set ?_ GE366.out) | exact HB.out))); (case aF => exact (fun k_ hk => ⟨Kd.fresh' (Kd.R_lt (by (with_reducible repeat (first | apply Kd.R_alloc | apply Kd.R_drewN | apply Kd.R_drew)); exact HO372.out)) k_ hk, Kd.fresh' (Kd.R_lt (by (with_reducible repeat (first | apply Kd.R_alloc | apply Kd.R_drewN | apply Kd.R_drew)); exact HO378.out)) k_ hk, Kd.fresh' (Kd.R_lt (by (with_reducible repeat (first | apply Kd.R_alloc | apply Kd.R_drewN | apply Kd.R_drew)); exact HO384.out)) k_ hk⟩)); (case aO => exact (by (with_reducible repeat (first | apply Kd.R_alloc | apply Kd.R_drewN | apply Kd.R_drew)); exact Kd.R_mono HO381.out (fun _ hk => ⟨hk.1.1, ⟨hk.1.2, hk.2⟩⟩))); (case aS => exact (below_size (by repeat (first | (with_reducible first | exact HB.out | apply below_alloc | apply pw_below_drewN | apply below_drew1 | refine below_set ?_ GE366.out) | exact HB.out)))); (case aL => have := LMc21.out; omega); intro v386 w45 ho hb hg hat; rw [← Ny385.out] at ho; have n0_ := Aside0.mk (blk_grown (g := gb366) (o := .cells #[.int .i64 a2_0, .int .i64 a2_1, .slice A2_2 l2_2.length c2_2] 74 (0, 0)) (by (with_reducible repeat (first | refine blk_drewN ?_ _ | refine blk_drew ?_ | refine blk_alloc ?_ _)); exact BK366.out) hg (Kd.R_ne HO381.out BK366.out (by decide))); have n1_ := Aside0.mk (Kd.R_after (ok := (fun k_ => some k_ ≠ (.slice Ao42 t376.length co42 : Value).ownBlock ∧ some k_ ≠ (.slice Ao46 y382.length co46 : Value).ownBlock)) (by (with_reducible repeat (first | apply Kd.R_alloc | apply Kd.R_drewN | apply Kd.R_drew)); exact Kd.R_mono HO372.out (fun _ hk => ⟨⟨hk.1.1, hk.2⟩, hk.1.2⟩)) hg hat); have n2_ := Aside0.mk (Kd.R_after (ok := (fun k_ => some k_ ≠ (.slice Ao38 t370.length co38 : Value).ownBlock ∧ some k_ ≠ (.slice Ao46 y382.length co46 : Value).ownBlock)) (by (with_reducible repeat (first | apply Kd.R_alloc | apply Kd.R_drewN | apply Kd.R_drew)); exact Kd.R_mono HO378.out (fun _ hk => ⟨⟨hk.1.1, hk.2⟩, hk.1.2⟩)) hg hat); have n3_ := Aside0.mk (Kd.R_after (ok := (fun k_ => some k_ ≠ (.slice Ao38 t370.length co38 : Value).ownBlock ∧ some k_ ≠ (.slice Ao42 t376.length co42 : Value).ownBlock)) (by (with_reducible repeat (first | apply Kd.R_alloc | apply Kd.R_drewN | apply Kd.R_drew)); exact Kd.R_mono HO384.out (fun _ hk => ⟨⟨hk.1.1.2, hk.1.2⟩, hk.2⟩)) hg hat); have n4_ := Aside0.mk (hb); have n5_ := Aside0.mk (ho); clear BK366; clear HO372; clear HO378; clear HO384; clear HB; clear HO381; have BK366 := n0_; have HO372 := n1_; have HO378 := n2_; have HO384 := n3_; have HB := n4_; have HO387 := n5_; clear n0_ n1_ n2_ n3_ n4_ n5_; clear ho hb hg hat; have hcz47_0 : w45.cell? ⟨gb366, 0, none⟩ = some (.int .i64 a2_0) := (blk_cell BK366.out 0).trans rfl; have hcz47_1 : w45.cell? ⟨gb366, 1, none⟩ = some (.int .i64 a2_1) := (blk_cell BK366.out 1).trans rfl; have hcz47_2 : w45.cell? ⟨gb366, 2, none⟩ = some (.slice A2_2 l2_2.length c2_2) := (blk_cell BK366.out 2).trans rfl; have hfz47_0 := blk_frozen BK366.out 0; have hfz47_1 := blk_frozen BK366.out 1; have hfz47_2 := blk_frozen BK366.out 2) | ((with_reducible refine gate_builtin (b := .append) (xs := #[.tmp 51, .tmp 53]) rfl ?_); (try (refine gate_guard (by rfl) ?_; dsimp only)); at_builtin; refine Kd.R_append_rows (Kd.int .u8) (w0 := w) w.heap.size rfl (.tmp 51) (.tmp 53) 24 5 (.int .u8 0) 1 rfl Try.underlying24 info5 rfl (by decide) (by omega) v386 y385 l2_2 _ _ _ (fun k_ => some k_ ≠ (.slice Ao38 t370.length co38 : Value).ownBlock ∧ some k_ ≠ (.slice Ao42 t376.length co42 : Value).ownBlock ∧ some k_ ≠ (.slice Ao46 y382.length co46 : Value).ownBlock) (fun _ => False) rfl rfl ?aO ?aR (fun _ _ h => h) (fun _ h => h.elim) ?aF ?aB ?aS ?aL ?_; (case aR => repeat (first | exact (Kd.C_below HR2_2.out HB.out) | (with_reducible refine Kd.C_alloc ?_ _) | (with_reducible refine Kd.C_drewN ?_ _) | (with_reducible refine Kd.C_drew ?_))); (case aB => exact (by repeat (first | (with_reducible first | exact HB.out | apply below_alloc | apply pw_below_drewN | apply below_drew1 | refine below_set ?_ GE366.out) | exact HB.out))); (case aF => exact (fun k_ hk => ⟨Kd.fresh' (Kd.R_lt (by (with_reducible repeat (first | apply Kd.R_alloc | apply Kd.R_drewN | apply Kd.R_drew)); exact HO372.out)) k_ hk, Kd.fresh' (Kd.R_lt (by (with_reducible repeat (first | apply Kd.R_alloc | apply Kd.R_drewN | apply Kd.R_drew)); exact HO378.out)) k_ hk, Kd.fresh' (Kd.R_lt (by (with_reducible repeat (first | apply Kd.R_alloc | apply Kd.R_drewN | apply Kd.R_drew)); exact HO384.out)) k_ hk⟩)); (case aO => exact (by (with_reducible repeat (first | apply Kd.R_alloc | apply Kd.R_drewN | apply Kd.R_drew)); exact HO387.out)); (case aS => exact (below_size (by repeat (first | (with_reducible first | exact HB.out | apply below_alloc | apply pw_below_drewN | apply below_drew1 | refine below_set ?_ GE366.out) | exact HB.out)))); (case aL => have := LMc22.out; omega); intro v389 w48 ho hb hg hat; rw [← Ny388.out] at ho; have n0_ := Aside0.mk (blk_grown (g := gb366) (o := .cells #[.int .i64 a2_0, .int .i64 a2_1, .slice A2_2 l2_2.length c2_2] 74 (0, 0)) (by (with_reducible repeat (first | refine blk_drewN ?_ _ | refine blk_drew ?_ | refine blk_alloc ?_ _)); exact BK366.out) hg (Kd.R_ne HO387.out BK366.out (by decide))); have n1_ := Aside0.mk (Kd.R_after (ok := (fun k_ => some k_ ≠ (.slice Ao42 t376.length co42 : Value).ownBlock ∧ some k_ ≠ (.slice Ao46 y382.length co46 : Value).ownBlock)) (by (with_reducible repeat (first | apply Kd.R_alloc | apply Kd.R_drewN | apply Kd.R_drew)); exact HO372.out) hg hat); have n2_ := Aside0.mk (Kd.R_after (ok := (fun k_ => some k_ ≠ (.slice Ao38 t370.length co38 : Value).ownBlock ∧ some k_ ≠ (.slice Ao46 y382.length co46 : Value).ownBlock)) (by (with_reducible repeat (first | apply Kd.R_alloc | apply Kd.R_drewN | apply Kd.R_drew)); exact HO378.out) hg hat); have n3_ := Aside0.mk (Kd.R_after (ok := (fun k_ => some k_ ≠ (.slice Ao38 t370.length co38 : Value).ownBlock ∧ some k_ ≠ (.slice Ao42 t376.length co42 : Value).ownBlock)) (by (with_reducible repeat (first | apply Kd.R_alloc | apply Kd.R_drewN | apply Kd.R_drew)); exact HO384.out) hg hat); have n4_ := Aside0.mk (hb); have n5_ := Aside0.mk (ho); clear BK366; clear HO372; clear HO378; clear HO384; clear HB; clear HO387; have BK366 := n0_; have HO372 := n1_; have HO378 := n2_; have HO384 := n3_; have HB := n4_; have HO390 := n5_; clear n0_ n1_ n2_ n3_ n4_ n5_; clear ho hb hg hat; obtain ⟨Ao49, co49, eo49⟩ := Kd.R_slice HO390.out; subst eo49) | ((with_reducible refine gate_callee (f := 57) rfl ?_); refine goesL_ (some 59) rfl rfl Try.func57 (by kernel_rfl) rfl #[.int .u32 a0, .int .u32 a1, .int .i64 17, .int .i64 (y388.length : Int)] rfl (by (try simp only [List.map_toArray, List.map_cons, List.map_nil]); first | done | rfl | (simp only [List.length_drop, List.length_take]; rfl)) ?_; (with_reducible refine (castellanref2_Pseudo.calls a0 a1 17 (y388.length : Int) t391 _ A23.out).mono ?_); rintro e w50 ⟨v392, rfl, ho0, hb⟩; refine ⟨_, rfl, ?_⟩; have n0_ := Aside0.mk (Kd.R_elder' (by (with_reducible repeat (first | apply Kd.R_alloc | apply Kd.R_drewN | apply Kd.R_drew)); exact HO372.out) (Kd.R_base ho0) hb); have n1_ := Aside0.mk (Kd.R_elder' (by (with_reducible repeat (first | apply Kd.R_alloc | apply Kd.R_drewN | apply Kd.R_drew)); exact HO378.out) (Kd.R_base ho0) hb); have n2_ := Aside0.mk (Kd.R_elder' (by (with_reducible repeat (first | apply Kd.R_alloc | apply Kd.R_drewN | apply Kd.R_drew)); exact HO384.out) (Kd.R_base ho0) hb); have n3_ := Aside0.mk (Kd.R_elder' (by (with_reducible repeat (first | apply Kd.R_alloc | apply Kd.R_drewN | apply Kd.R_drew)); exact HO390.out) (Kd.R_base ho0) hb); have n4_ := Aside0.mk (Kd.R_lower (Kd.R_new' (Kd.R_new' (Kd.R_new' (Kd.R_new' ho0 (Kd.R_lt (by (with_reducible repeat (first | apply Kd.R_alloc | apply Kd.R_drewN | apply Kd.R_drew)); exact HO372.out))) (Kd.R_lt (by (with_reducible repeat (first | apply Kd.R_alloc | apply Kd.R_drewN | apply Kd.R_drew)); exact HO378.out))) (Kd.R_lt (by (with_reducible repeat (first | apply Kd.R_alloc | apply Kd.R_drewN | apply Kd.R_drew)); exact HO384.out))) (Kd.R_lt (by (with_reducible repeat (first | apply Kd.R_alloc | apply Kd.R_drewN | apply Kd.R_drew)); exact HO390.out))) (below_size (by repeat (first | (with_reducible first | exact HB.out | apply below_alloc | apply pw_below_drewN | apply below_drew1 | refine below_set ?_ GE366.out) | exact HB.out)))); have n5_ := Aside0.mk (blk_below (g := gb366) (o := .cells #[.int .i64 a2_0, .int .i64 a2_1, .slice A2_2 l2_2.length c2_2] 74 (0, 0)) (by (with_reducible repeat (first | refine blk_drewN ?_ _ | refine blk_drew ?_ | refine blk_alloc ?_ _)); exact BK366.out) hb); have n6_ := Aside0.mk (below_step (by repeat (first | (with_reducible first | exact HB.out | apply below_alloc | apply pw_below_drewN | apply below_drew1 | refine below_set ?_ GE366.out) | exact HB.out)) hb); clear HO372; clear HO378; clear HO384; clear HO390; clear BK366; clear HB; have HO372 := n0_; have HO378 := n1_; have HO384 := n2_; have HO390 := n3_; have HO393 := n4_; have BK366 := n5_; have HB := n6_; clear n0_ n1_ n2_ n3_ n4_ n5_ n6_; (try clear hb); (try clear hb2); (try clear hk); (try clear hi); (try clear ho0)) | ((with_reducible refine gate_builtin (b := .append) (xs := #[.tmp 59, .tmp 60]) rfl ?_); (try (refine gate_guard (by rfl) ?_; dsimp only)); at_builtin; refine Kd.R_append_rows (Kd.int .u8) (w0 := w) w.heap.size rfl (.tmp 59) (.tmp 60) 24 5 (.int .u8 0) 1 rfl Try.underlying24 info5 rfl (by decide) (by omega) v392 t391 y388 _ _ _ (fun k_ => some k_ ≠ (.slice Ao38 t370.length co38 : Value).ownBlock ∧ some k_ ≠ (.slice Ao42 t376.length co42 : Value).ownBlock ∧ some k_ ≠ (.slice Ao46 y382.length co46 : Value).ownBlock ∧ some k_ ≠ (.slice Ao49 y388.length co49 : Value).ownBlock) (fun _ => False) rfl rfl ?aO ?aR (fun _ _ h => h) (fun _ h => h.elim) ?aF ?aB ?aS ?aL ?_; (case aR => repeat (first | exact (Kd.R_reads' HO390.out).2.2 | (with_reducible refine Kd.C_alloc ?_ _) | (with_reducible refine Kd.C_drewN ?_ _) | (with_reducible refine Kd.C_drew ?_))); (case aB => exact (by repeat (first | (with_reducible first | exact HB.out | apply below_alloc | apply pw_below_drewN | apply below_drew1 | refine below_set ?_ GE366.out) | exact HB.out))); (case aF => exact (fun k_ hk => ⟨Kd.fresh' (Kd.R_lt (by (with_reducible repeat (first | apply Kd.R_alloc | apply Kd.R_drewN | apply Kd.R_drew)); exact HO372.out)) k_ hk, Kd.fresh' (Kd.R_lt (by (with_reducible repeat (first | apply Kd.R_alloc | apply Kd.R_drewN | apply Kd.R_drew)); exact HO378.out)) k_ hk, Kd.fresh' (Kd.R_lt (by (with_reducible repeat (first | apply Kd.R_alloc | apply Kd.R_drewN | apply Kd.R_drew)); exact HO384.out)) k_ hk, Kd.fresh' (Kd.R_lt (by (with_reducible repeat (first | apply Kd.R_alloc | apply Kd.R_drewN | apply Kd.R_drew)); exact HO390.out)) k_ hk⟩)); (case aO => exact (by (with_reducible repeat (first | apply Kd.R_alloc | apply Kd.R_drewN | apply Kd.R_drew)); exact Kd.R_mono HO393.out (fun _ hk => ⟨hk.1.1.1.2, ⟨hk.1.1.2, ⟨hk.1.2, hk.2⟩⟩⟩))); (case aS => exact (below_size (by repeat (first | (with_reducible first | exact HB.out | apply below_alloc | apply pw_below_drewN | apply below_drew1 | refine below_set ?_ GE366.out) | exact HB.out)))); (case aL => have := LMc24.out; omega); intro v395 w51 ho hb hg hat; rw [← Ny394.out] at ho; have n0_ := Aside0.mk (blk_grown (g := gb366) (o := .cells #[.int .i64 a2_0, .int .i64 a2_1, .slice A2_2 l2_2.length c2_2] 74 (0, 0)) (by (with_reducible repeat (first | refine blk_drewN ?_ _ | refine blk_drew ?_ | refine blk_alloc ?_ _)); exact BK366.out) hg (Kd.R_ne HO393.out BK366.out (by decide))); have n1_ := Aside0.mk (Kd.R_after (ok := (fun k_ => some k_ ≠ (.slice Ao42 t376.length co42 : Value).ownBlock ∧ some k_ ≠ (.slice Ao46 y382.length co46 : Value).ownBlock ∧ some k_ ≠ (.slice Ao49 y388.length co49 : Value).ownBlock)) (by (with_reducible repeat (first | apply Kd.R_alloc | apply Kd.R_drewN | apply Kd.R_drew)); exact Kd.R_mono HO372.out (fun _ hk => ⟨⟨hk.1.1.1, ⟨hk.1.1.2, hk.1.2⟩⟩, hk.2⟩)) hg hat); have n2_ := Aside0.mk (Kd.R_after (ok := (fun k_ => some k_ ≠ (.slice Ao38 t370.length co38 : Value).ownBlock ∧ some k_ ≠ (.slice Ao46 y382.length co46 : Value).ownBlock ∧ some k_ ≠ (.slice Ao49 y388.length co49 : Value).ownBlock)) (by (with_reducible repeat (first | apply Kd.R_alloc | apply Kd.R_drewN | apply Kd.R_drew)); exact Kd.R_mono HO378.out (fun _ hk => ⟨⟨hk.1.1.1, ⟨hk.1.1.2, hk.1.2⟩⟩, hk.2⟩)) hg hat); have n3_ := Aside0.mk (Kd.R_after (ok := (fun k_ => some k_ ≠ (.slice Ao38 t370.length co38 : Value).ownBlock ∧ some k_ ≠ (.slice Ao42 t376.length co42 : Value).ownBlock ∧ some k_ ≠ (.slice Ao49 y388.length co49 : Value).ownBlock)) (by (with_reducible repeat (first | apply Kd.R_alloc | apply Kd.R_drewN | apply Kd.R_drew)); exact Kd.R_mono HO384.out (fun _ hk => ⟨⟨hk.1.1.1, ⟨hk.1.1.2, hk.1.2⟩⟩, hk.2⟩)) hg hat); have n4_ := Aside0.mk (Kd.R_after (ok := (fun k_ => some k_ ≠ (.slice Ao38 t370.length co38 : Value).ownBlock ∧ some k_ ≠ (.slice Ao42 t376.length co42 : Value).ownBlock ∧ some k_ ≠ (.slice Ao46 y382.length co46 : Value).ownBlock)) (by (with_reducible repeat (first | apply Kd.R_alloc | apply Kd.R_drewN | apply Kd.R_drew)); exact HO390.out) hg hat); have n5_ := Aside0.mk (hb); have n6_ := Aside0.mk (ho); clear BK366; clear HO372; clear HO378; clear HO384; clear HO390; clear HB; clear HO393; have BK366 := n0_; have HO372 := n1_; have HO378 := n2_; have HO384 := n3_; have HO390 := n4_; have HB := n5_; have HO396 := n6_; clear n0_ n1_ n2_ n3_ n4_ n5_ n6_; clear ho hb hg hat; obtain ⟨Ao52, co52, eo52⟩ := Kd.R_slice HO396.out; subst eo52) | ((with_reducible refine gate_callee (f := 45) rfl ?_); refine goesL_ (some 62) rfl rfl Try.func45 (by kernel_rfl) rfl #[.slice Ao52 y394.length co52] rfl (by (try simp only [List.map_toArray, List.map_cons, List.map_nil]); first | done | rfl | (simp only [List.length_drop, List.length_take]; rfl)) ?_; (with_reducible refine (castellanref2_Of.calls kj3 _ _ y394 t397 _ ?side1 ?side2 A25.out).mono ?_); (case side1 => repeat (first | exact (Kd.R_reads' HO396.out).2.2 | (with_reducible refine Kd.C_alloc ?_ _) | (with_reducible refine Kd.C_drewN ?_ _) | (with_reducible refine Kd.C_drew ?_))); (case side2 => exact (Kd.R_reads' HO396.out).2.1); rintro e w' ⟨rfl, ⟨nd, rfl⟩⟩; refine ⟨_, rfl, ?_⟩; (try (rw [drewN_self w51]; generalize hq_ : World.drewN w51 _ = w51; have n0_ : Aside0 (Kd.R (Kd.int .u8) 5 w51 w.heap.size (fun k_ => some k_ ≠ (.slice Ao42 t376.length co42 : Value).ownBlock ∧ some k_ ≠ (.slice Ao46 y382.length co46 : Value).ownBlock ∧ some k_ ≠ (.slice Ao49 y388.length co49 : Value).ownBlock ∧ some k_ ≠ (.slice Ao52 y394.length co52 : Value).ownBlock) (.slice Ao38 t370.length co38) t370) := ⟨by rw [← hq_]; exact (by (with_reducible repeat (first | apply Kd.R_alloc | apply Kd.R_drewN | apply Kd.R_drew)); exact Kd.R_mono HO372.out (fun _ hk => ⟨hk.1.1, ⟨hk.1.2.1, ⟨hk.1.2.2, hk.2⟩⟩⟩))⟩; have n1_ : Aside0 (Kd.R (Kd.int .u8) 5 w51 w.heap.size (fun k_ => some k_ ≠ (.slice Ao38 t370.length co38 : Value).ownBlock ∧ some k_ ≠ (.slice Ao46 y382.length co46 : Value).ownBlock ∧ some k_ ≠ (.slice Ao49 y388.length co49 : Value).ownBlock ∧ some k_ ≠ (.slice Ao52 y394.length co52 : Value).ownBlock) (.slice Ao42 t376.length co42) t376) := ⟨by rw [← hq_]; exact (by (with_reducible repeat (first | apply Kd.R_alloc | apply Kd.R_drewN | apply Kd.R_drew)); exact Kd.R_mono HO378.out (fun _ hk => ⟨hk.1.1, ⟨hk.1.2.1, ⟨hk.1.2.2, hk.2⟩⟩⟩))⟩; have n2_ : Aside0 (Kd.R (Kd.int .u8) 5 w51 w.heap.size (fun k_ => some k_ ≠ (.slice Ao38 t370.length co38 : Value).ownBlock ∧ some k_ ≠ (.slice Ao42 t376.length co42 : Value).ownBlock ∧ some k_ ≠ (.slice Ao49 y388.length co49 : Value).ownBlock ∧ some k_ ≠ (.slice Ao52 y394.length co52 : Value).ownBlock) (.slice Ao46 y382.length co46) y382) := ⟨by rw [← hq_]; exact (by (with_reducible repeat (first | apply Kd.R_alloc | apply Kd.R_drewN | apply Kd.R_drew)); exact Kd.R_mono HO384.out (fun _ hk => ⟨hk.1.1, ⟨hk.1.2.1, ⟨hk.1.2.2, hk.2⟩⟩⟩))⟩; have n3_ : Aside0 (Kd.R (Kd.int .u8) 5 w51 w.heap.size (fun k_ => some k_ ≠ (.slice Ao38 t370.length co38 : Value).ownBlock ∧ some k_ ≠ (.slice Ao42 t376.length co42 : Value).ownBlock ∧ some k_ ≠ (.slice Ao46 y382.length co46 : Value).ownBlock ∧ some k_ ≠ (.slice Ao52 y394.length co52 : Value).ownBlock) (.slice Ao49 y388.length co49) y388) := ⟨by rw [← hq_]; exact (by (with_reducible repeat (first | apply Kd.R_alloc | apply Kd.R_drewN | apply Kd.R_drew)); exact Kd.R_mono HO390.out (fun _ hk => ⟨hk.1.1, ⟨hk.1.2.1, ⟨hk.1.2.2, hk.2⟩⟩⟩))⟩; have n4_ : Aside0 (Kd.R (Kd.int .u8) 5 w51 w.heap.size (fun k_ => some k_ ≠ (.slice Ao38 t370.length co38 : Value).ownBlock ∧ some k_ ≠ (.slice Ao42 t376.length co42 : Value).ownBlock ∧ some k_ ≠ (.slice Ao46 y382.length co46 : Value).ownBlock ∧ some k_ ≠ (.slice Ao49 y388.length co49 : Value).ownBlock) (.slice Ao52 y394.length co52) y394) := ⟨by rw [← hq_]; exact (by (with_reducible repeat (first | apply Kd.R_alloc | apply Kd.R_drewN | apply Kd.R_drew)); exact HO396.out)⟩; have n5_ : Aside0 (w51.heap[gb366]? = some (.cells #[.int .i64 a2_0, .int .i64 a2_1, .slice A2_2 l2_2.length c2_2] 74 (0, 0))) := ⟨by rw [← hq_]; exact (by (with_reducible repeat (first | refine blk_drewN ?_ _ | refine blk_drew ?_ | refine blk_alloc ?_ _)); exact BK366.out)⟩; have n6_ : Aside0 (Below w.heap.size w w51) := ⟨by rw [← hq_]; exact (by repeat (first | (with_reducible first | exact HB.out | apply below_alloc | apply pw_below_drewN | apply below_drew1 | refine below_set ?_ GE366.out) | exact HB.out))⟩; clear HO372 HO378 HO384 HO390 HO396 BK366 HB hq_; have HO372 := n0_; have HO378 := n1_; have HO384 := n2_; have HO390 := n3_; have HO396 := n4_; have BK366 := n5_; have HB := n6_; clear n0_ n1_ n2_ n3_ n4_ n5_ n6_))) | ((with_reducible refine gate_callee (f := 43) rfl ?_); refine goesL_ (some 66) rfl rfl Try.func43 (by kernel_rfl) rfl #[.int .i64 65535] rfl (by (try simp only [List.map_toArray, List.map_cons, List.map_nil]); first | done | rfl | (simp only [List.length_drop, List.length_take]; rfl)) ?_; (with_reducible refine (castellanref1_Put16.calls 65535 t398 _ A27.out).mono ?_); rintro e w53 ⟨v399, rfl, ho0, hb⟩; refine ⟨_, rfl, ?_⟩; have n0_ := Aside0.mk (Kd.R_elder' (by (with_reducible repeat (first | apply Kd.R_alloc | apply Kd.R_drewN | apply Kd.R_drew)); exact HO372.out) (Kd.R_base ho0) hb); have n1_ := Aside0.mk (Kd.R_elder' (by (with_reducible repeat (first | apply Kd.R_alloc | apply Kd.R_drewN | apply Kd.R_drew)); exact HO378.out) (Kd.R_base ho0) hb); have n2_ := Aside0.mk (Kd.R_elder' (by (with_reducible repeat (first | apply Kd.R_alloc | apply Kd.R_drewN | apply Kd.R_drew)); exact HO384.out) (Kd.R_base ho0) hb); have n3_ := Aside0.mk (Kd.R_elder' (by (with_reducible repeat (first | apply Kd.R_alloc | apply Kd.R_drewN | apply Kd.R_drew)); exact HO390.out) (Kd.R_base ho0) hb); have n4_ := Aside0.mk (Kd.R_elder' (by (with_reducible repeat (first | apply Kd.R_alloc | apply Kd.R_drewN | apply Kd.R_drew)); exact HO396.out) (Kd.R_base ho0) hb); have n5_ := Aside0.mk (Kd.R_lower (Kd.R_new' (Kd.R_new' (Kd.R_new' (Kd.R_new' (Kd.R_new' ho0 (Kd.R_lt (by (with_reducible repeat (first | apply Kd.R_alloc | apply Kd.R_drewN | apply Kd.R_drew)); exact HO372.out))) (Kd.R_lt (by (with_reducible repeat (first | apply Kd.R_alloc | apply Kd.R_drewN | apply Kd.R_drew)); exact HO378.out))) (Kd.R_lt (by (with_reducible repeat (first | apply Kd.R_alloc | apply Kd.R_drewN | apply Kd.R_drew)); exact HO384.out))) (Kd.R_lt (by (with_reducible repeat (first | apply Kd.R_alloc | apply Kd.R_drewN | apply Kd.R_drew)); exact HO390.out))) (Kd.R_lt (by (with_reducible repeat (first | apply Kd.R_alloc | apply Kd.R_drewN | apply Kd.R_drew)); exact HO396.out))) (below_size (by repeat (first | (with_reducible first | exact HB.out | apply below_alloc | apply pw_below_drewN | apply below_drew1 | refine below_set ?_ GE366.out) | exact HB.out)))); have n6_ := Aside0.mk (blk_below (g := gb366) (o := .cells #[.int .i64 a2_0, .int .i64 a2_1, .slice A2_2 l2_2.length c2_2] 74 (0, 0)) (by (with_reducible repeat (first | refine blk_drewN ?_ _ | refine blk_drew ?_ | refine blk_alloc ?_ _)); exact BK366.out) hb); have n7_ := Aside0.mk (below_step (by repeat (first | (with_reducible first | exact HB.out | apply below_alloc | apply pw_below_drewN | apply below_drew1 | refine below_set ?_ GE366.out) | exact HB.out)) hb); clear HO372; clear HO378; clear HO384; clear HO390; clear HO396; clear BK366; clear HB; have HO372 := n0_; have HO378 := n1_; have HO384 := n2_; have HO390 := n3_; have HO396 := n4_; have HO400 := n5_; have BK366 := n6_; have HB := n7_; clear n0_ n1_ n2_ n3_ n4_ n5_ n6_ n7_; (try clear hb); (try clear hb2); (try clear hk); (try clear hi); (try clear ho0)))
                            have n0_ := Aside0.mk (Kd.R_drew HO372.out)
                            have n1_ := Aside0.mk (Kd.R_drew HO378.out)
                            have n2_ := Aside0.mk (Kd.R_drew HO384.out)
                            have n3_ := Aside0.mk (Kd.R_drew HO390.out)
                            have n4_ := Aside0.mk (Kd.R_drew HO396.out)
                            have n5_ := Aside0.mk (Kd.R_drew HO400.out)
                            have n6_ := Aside0.mk (blk_drew BK366.out)
                            have n7_ := Aside0.mk (below_drew1 HB.out)
                            clear HO372
                            clear HO378
                            clear HO384
                            clear HO390
                            clear HO396
                            clear HO400
                            clear BK366
                            clear HB
                            have HO372 := n0_
                            have HO378 := n1_
                            have HO384 := n2_
                            have HO390 := n3_
                            have HO396 := n4_
                            have HO400 := n5_
                            have BK366 := n6_
                            have HB := n7_
                            clear n0_ n1_ n2_ n3_ n4_ n5_ n6_ n7_
                            obtain ⟨Ao55, co55, eo55⟩ := Kd.R_slice HO400.out
                            (first | subst eo55 | (injection eo55 with f1_ f2_ f3_; have f4_ := f1_.symm; have f5_ := f3_.symm; clear f1_ f2_ f3_; subst f4_; subst f5_))
                            have p401 : 0 ≤ (0 : Int) := (by omega)
                            have q401 : 0 < (t398.length : Int) := of_decide_eq_true (by first | (with_reducible assumption) | assumption)
                            obtain ⟨ad401, e401, hx401_0⟩ := Kd.at_int (Kd.R_reads' HO400.out).2.2 0 p401 q401
                            cases e401
                            have qi401 : (0 < t398.length) = True := eq_true (by omega)
                            (try rw [show ((0 : Int)).toNat = 0 from rfl] at hx401_0)
                            (try rw [Addr.add_zero'] at hx401_0)
                            replace p401 := eq_true p401
                            replace q401 := eq_true q401
                            have p402 : 0 ≤ (1 : Int) := (by omega)
                            have q402 : 1 < (t398.length : Int) := of_decide_eq_true (by first | (with_reducible assumption) | assumption)
                            obtain ⟨ad402, e402, hx402_0⟩ := Kd.at_int (Kd.R_reads' HO400.out).2.2 1 p402 q402
                            obtain rfl : ad401 = ad402 := (by injection e402)
                            (try simp only [show (1 : Int).toNat = 1 from rfl, Nat.reduceMul, Nat.reduceEqDiff, Go.Addr.add, ↓reduceIte] at hx402_0)
                            have qi402 : (1 < t398.length) = True := eq_true (by omega)
                            (try rw [show ((1 : Int)).toNat = 1 from rfl] at hx402_0)
                            replace p402 := eq_true p402
                            replace q402 := eq_true q402
                            have p31 : 0 ≤ (6 : Int) := (by omega)
                            have q31 : (6 : Int) < ((y388.length : Int) : Int) := of_decide_eq_true (by first | (with_reducible assumption) | assumption)
                            have qi31 : (6 < y388.length) = True := eq_true (by omega)
                            obtain ⟨go31, co31, eo31, gb31, gl31, cl31, HG31⟩ := Kd.R_form HO390.out (by omega)
                            (first | cases eo31 | (injection eo31 with ea_ en_ ec_; (first | subst ea_ | (injection ea_ with ea_; subst ea_)); subst ec_; clear en_))
                            have GB31 := Aside0.mk gb31
                            have GG31 := Aside0.mk HG31
                            clear gb31 gl31 HG31
                            obtain ⟨hx31_0, hf31_0⟩ := Kd.R_celln 0 HO390.out (6 : Int) p31 q31
                            (try rw [show ((6 : Int)).toNat = 6 from rfl] at hx31_0)
                            (try simp only [Nat.reduceMul, Nat.zero_mul, Nat.zero_add, Nat.reduceAdd] at hx31_0)
                            (try rw [show ((6 : Int)).toNat = 6 from rfl] at hf31_0)
                            (try simp only [Nat.reduceMul, Nat.zero_mul, Nat.zero_add, Nat.reduceAdd] at hf31_0)
                            replace p31 := eq_true p31
                            replace q31 := eq_true q31
                            have HP56 := Kd.R_putn HO390.out (6 : Int) (rd t398 0)
                            rw [← Ny403.out] at HP56
                            have HQ56 := Aside0.mk HP56
                            clear HP56
                            have p33 : 0 ≤ (7 : Int) := (by omega)
                            have q33 : (7 : Int) < ((y388.length : Int) : Int) := of_decide_eq_true (by first | (with_reducible assumption) | assumption)
                            have qi33 : (7 < y388.length) = True := eq_true (by omega)
                            obtain ⟨hx33_0, hf33_0⟩ := Kd.R_celln 0 HQ56.out (7 : Int) p33 q33
                            obtain ⟨hx57_0, hf57_0⟩ := Kd.R_celln 0 HO390.out (7 : Int) p33 q33
                            (try rw [show ((7 : Int)).toNat = 7 from rfl] at hx57_0)
                            (try simp only [Nat.reduceMul, Nat.zero_mul, Nat.zero_add, Nat.reduceAdd] at hx57_0)
                            (try rw [show ((7 : Int)).toNat = 7 from rfl] at hf57_0)
                            (try simp only [Nat.reduceMul, Nat.zero_mul, Nat.zero_add, Nat.reduceAdd] at hf57_0)
                            (try rw [show ((7 : Int)).toNat = 7 from rfl] at hx33_0)
                            (try simp only [Nat.reduceMul, Nat.zero_mul, Nat.zero_add, Nat.reduceAdd] at hx33_0)
                            (try rw [show ((7 : Int)).toNat = 7 from rfl] at hf33_0)
                            (try simp only [Nat.reduceMul, Nat.zero_mul, Nat.zero_add, Nat.reduceAdd] at hf33_0)
                            replace p33 := eq_true p33
                            replace q33 := eq_true q33
                            have HP58 := Kd.R_putn HQ56.out (7 : Int) (rd t398 1)
                            rw [← Ny404.out] at HP58
                            have HQ58 := Aside0.mk HP58
                            clear HP58
                            refine start_ (n := 12) (S := fun w' => w'.cell? ad401 = some (.int .u8 (rd t398 0)) ∧ w'.cell? ⟨ad401.block, ad401.off + 1, none⟩ = some (.int .u8 (rd t398 1))) (ds := [9, 11]) #[false, false, false, false, false, false, false, false, false, false, false, false] (by kernel_rfl) rfl rfl ⟨hx401_0, hx402_0⟩ (fun hHeld => ?_); refine with_tabW castellanref6_Build.tab10 castellanref6_Build.bits10 (fun HT_ HW_ => ?_)
                            generalize w53.drew = w54 at HO372 HO378 HO384 HO390 HO396 HO400 BK366 HB GG31 HQ56 HQ58 hf31_0 hf33_0 hf57_0 hx31_0 hx33_0 hx401_0 hx402_0 hx57_0 hHeld ⊢
                            refine pure_ (i := 0) (N := some 67) (v := ?_) (a' := ?_) #[true, false, false, false, false, false, false, false, false, false, false, false] rfl rfl (any_of HT_.out (by kernel_rfl)) (fun _ _ _ h => h) (Or.inl ⟨by rfl, ?_⟩) ?_ ?_
                            rotate_left
                            · intro w'
                              go_simp
                              with_reducible rfl
                            rotate_left
                            · simp only [Act.put, List.setIfInBounds_toArray, List.set_cons_zero, List.set_cons_succ, i64_w, i32_w]
                              rfl
                            refine pure_ (i := 1) (N := some 68) (v := ?_) (a' := ?_) #[true, true, false, false, false, false, false, false, false, false, false, false] rfl rfl (any_of HT_.out (by kernel_rfl)) (fun _ _ _ h => h) (Or.inl ⟨by rfl, ?_⟩) ?_ ?_
                            rotate_left
                            · intro w'
                              go_simp
                              with_reducible rfl
                            rotate_left
                            · simp only [Act.put, List.setIfInBounds_toArray, List.set_cons_zero, List.set_cons_succ, i64_w, i32_w]
                              rfl
                            refine pure_ (i := 2) (N := some 69) (v := ?_) (a' := ?_) #[true, true, true, false, false, false, false, false, false, false, false, false] rfl rfl (any_of HT_.out (by kernel_rfl)) (fun _ _ _ h => h) (Or.inl ⟨by rfl, ?_⟩) ?_ ?_
                            rotate_left
                            · intro w'
                              go_simp
                              with_reducible rfl
                            rotate_left
                            · simp only [Act.put, List.setIfInBounds_toArray, List.set_cons_zero, List.set_cons_succ, i64_w, i32_w]
                              rfl
                            refine pure_ (i := 3) (N := some 70) (v := ?_) (a' := ?_) #[true, true, true, true, false, false, false, false, false, false, false, false] rfl rfl (any_of HT_.out (by kernel_rfl)) (fun _ _ _ h => h) (Or.inl ⟨by rfl, ?_⟩) ?_ ?_
                            rotate_left
                            · intro w'
                              go_simp
                              with_reducible rfl
                            rotate_left
                            · simp only [Act.put, List.setIfInBounds_toArray, List.set_cons_zero, List.set_cons_succ, i64_w, i32_w]
                              rfl
                            refine pure_ (i := 5) (N := some 72) (v := ?_) (a' := ?_) #[true, true, true, true, false, true, false, false, false, false, false, false] rfl rfl (any_of HT_.out (by kernel_rfl)) (fun _ _ _ h => h) (Or.inl ⟨by rfl, ?_⟩) ?_ ?_
                            rotate_left
                            · intro w'
                              go_simp
                              with_reducible rfl
                            rotate_left
                            · simp only [Act.put, List.setIfInBounds_toArray, List.set_cons_zero, List.set_cons_succ, i64_w, i32_w]
                              rfl
                            refine pure_ (i := 6) (N := some 73) (v := ?_) (a' := ?_) #[true, true, true, true, false, true, true, false, false, false, false, false] rfl rfl (any_of HT_.out (by kernel_rfl)) (fun _ _ _ h => h) (Or.inl ⟨by rfl, ?_⟩) ?_ ?_
                            rotate_left
                            · intro w'
                              go_simp
                              with_reducible rfl
                            rotate_left
                            · simp only [Act.put, List.setIfInBounds_toArray, List.set_cons_zero, List.set_cons_succ, i64_w, i32_w]
                              rfl
                            refine take_ (i := 4) (N := some 71) (v := ?_) (a' := ?_) #[true, true, true, true, true, true, true, false, false, false, false, false] rfl rfl (take_ofW HT_.out HW_.out (by kernel_rfl)) (fun _ _ _ h => h) (Or.inl ⟨by rfl, ?_⟩) hHeld ?_ ?_
                            rotate_left
                            · rintro w' ⟨s0, s1⟩
                              go_simp
                              with_reducible rfl
                            rotate_left
                            · simp only [Act.put, List.setIfInBounds_toArray, List.set_cons_zero, List.set_cons_succ, i64_w, i32_w]
                              rfl
                            refine take_ (i := 7) (N := some 74) (v := ?_) (a' := ?_) #[true, true, true, true, true, true, true, true, false, false, false, false] rfl rfl (take_ofW HT_.out HW_.out (by kernel_rfl)) (fun _ _ _ h => h) (Or.inl ⟨by rfl, ?_⟩) hHeld ?_ ?_
                            rotate_left
                            · rintro w' ⟨s0, s1⟩
                              go_simp
                              with_reducible rfl
                            rotate_left
                            · simp only [Act.put, List.setIfInBounds_toArray, List.set_cons_zero, List.set_cons_succ, i64_w, i32_w]
                              rfl
                            refine pure_ (i := 8) (N := some 75) (v := ?_) (a' := ?_) #[true, true, true, true, true, true, true, true, true, false, false, false] rfl rfl (any_of HT_.out (by kernel_rfl)) (fun _ _ _ h => h) (Or.inl ⟨by rfl, ?_⟩) ?_ ?_
                            rotate_left
                            · intro w'
                              go_simp
                              with_reducible rfl
                            rotate_left
                            · simp only [Act.put, List.setIfInBounds_toArray, List.set_cons_zero, List.set_cons_succ, i64_w, i32_w]
                              rfl
                            refine last_ (i := 9) (N := none) #[true, true, true, true, true, true, true, true, true, true, false, false] rfl rfl (one_of HT_.out (by kernel_rfl)) (by decide) (fun K hK => ?_)
                            refine skip_ (w1 := ?_) (by rfl) rfl ?_ ?_
                            rotate_left
                            · go_simp
                              rfl
                            refine hK.out _ _ ?_
                            clear hK K
                            refine pure_ (i := 10) (N := some 76) (v := ?_) (a' := ?_) #[true, true, true, true, true, true, true, true, true, true, true, false] rfl rfl (any_of HT_.out (by kernel_rfl)) (fun _ _ _ h => h) (Or.inl ⟨by rfl, ?_⟩) ?_ ?_
                            rotate_left
                            · intro w'
                              go_simp
                              with_reducible rfl
                            rotate_left
                            · simp only [Act.put, List.setIfInBounds_toArray, List.set_cons_zero, List.set_cons_succ, i64_w, i32_w]
                              rfl
                            refine last_ (i := 11) (N := none) #[true, true, true, true, true, true, true, true, true, true, true, true] rfl rfl (one_of HT_.out (by kernel_rfl)) (by decide) (fun K hK => ?_)
                            refine skip_ (w1 := ?_) (by rfl) rfl ?_ ?_
                            rotate_left
                            · go_simp
                              rfl
                            refine hK.out _ _ ?_
                            clear hK K
                            refine done_ (done_of HT_.out (by kernel_rfl)) ?_
                            try go_wp2
                            go_ret2
                            exact ⟨_, by first | rfl | (simp [errW_none, errW_some] <;> rfl) | (simp [*, errW_none, errW_some] <;> rfl), by (with_reducible repeat (first | apply Kd.R_alloc | apply Kd.R_drewN | apply Kd.R_drew)); exact Kd.R_mono HQ58.out (fun _ hk => trivial), by repeat (first | (with_reducible first | exact HB.out | apply below_alloc | apply pw_below_drewN | apply below_drew1 | refine below_set ?_ GB31.out | refine below_set ?_ GB31.out | refine below_set ?_ GE366.out) | exact HB.out)⟩
                          · rw [if_neg c32] at H
                            exact absurd H (by simp)
                        · rw [if_neg c30] at H
                          exact absurd H (by simp)
                      · rw [if_neg c29] at H
                        exact absurd H (by simp)
                    · rw [if_neg c28] at H
                      exact absurd H (by simp)
                  · rw [if_neg c26] at H
                    have c26b0 : (t397 == 0) = false := beq_eq_false_iff_ne.mpr c26
                    have c26b1 : (t397 != 0) = true := bne_iff_ne.mpr c26
                    replace H := Option.bind_eq_some_iff.mp H
                    obtain ⟨t405, A590, H⟩ := H
                    replace H : (if 0 < (t405.length : Int) then (if 1 < (t405.length : Int) then (if 6 < (y388.length : Int) then (if 7 < (y388.length : Int) then (some (((y388.set (6 : Int).toNat (rd t405 0)).set (7 : Int).toNat (rd t405 1)), 0)) else (none)) else (none)) else (none)) else (none)) = some (r1, r2) := H
                    have A59 := Aside0.mk A590
                    clear A590
                    by_cases c60 : 0 < (t405.length : Int)
                    · rw [if_pos c60] at H
                      have c60b0 : decide (0 < (t405.length : Int)) = true := decide_eq_true c60
                      have c60b1 : decide (0 < t405.length) = true := decide_eq_true (by omega)
                      clear c60
                      by_cases c61 : 1 < (t405.length : Int)
                      · rw [if_pos c61] at H
                        have c61b0 : decide (1 < (t405.length : Int)) = true := decide_eq_true c61
                        have c61b1 : decide (1 < t405.length) = true := decide_eq_true (by omega)
                        clear c61
                        by_cases c62 : 6 < (y388.length : Int)
                        · rw [if_pos c62] at H
                          have c62b0 : decide (6 < (y388.length : Int)) = true := decide_eq_true c62
                          have c62b1 : decide (6 < y388.length) = true := decide_eq_true (by omega)
                          clear c62
                          obtain ⟨y410, hy410⟩ : ∃ y_ : List Int, y_ = (y388.set (6 : Int).toNat (rd t405 0)) := ⟨_, rfl⟩
                          replace H : (if 7 < (y388.length : Int) then (some ((y410.set (7 : Int).toNat (rd t405 1)), 0)) else (none)) = some (r1, r2) := by first | (rw [hy410]; with_reducible exact H) | (have H2_ := (Option.bind_some _ _).symm.trans H; rw [hy410]; with_reducible exact H2_) | (have H2_ := (Option.bind_some _ _).symm.trans H; with_reducible exact H2_) | with_reducible exact H | (rw [hy410]; exact H) | exact H
                          have Ny410 := Aside0.mk hy410
                          clear hy410
                          by_cases c64 : 7 < (y388.length : Int)
                          · rw [if_pos c64] at H
                            have c64b0 : decide (7 < (y388.length : Int)) = true := decide_eq_true c64
                            have c64b1 : decide (7 < y388.length) = true := decide_eq_true (by omega)
                            clear c64
                            obtain ⟨y411, hy411⟩ : ∃ y_ : List Int, y_ = (y410.set (7 : Int).toNat (rd t405 1)) := ⟨_, rfl⟩
                            replace H : (some (y411, 0)) = some (r1, r2) := by first | (rw [hy411]; with_reducible exact H) | (have H2_ := (Option.bind_some _ _).symm.trans H; rw [hy411]; with_reducible exact H2_) | (have H2_ := (Option.bind_some _ _).symm.trans H; with_reducible exact H2_) | with_reducible exact H | (rw [hy411]; exact H) | exact H
                            have Ny411 := Aside0.mk hy411
                            clear hy411
                            simp only [Option.some.injEq, Prod.mk.injEq] at H
                            obtain ⟨rfl, rfl⟩ := H
                            try go_wp2
                            have n0_ := Aside0.mk (blk_drew BK366.out)
                            have n1_ := Aside0.mk (below_drew1 HB.out)
                            clear BK366
                            clear HB
                            have BK366 := n0_
                            have HB := n1_
                            clear n0_ n1_
                            refine start_ (n := 8) (S := fun w' => w'.cell? ⟨gb366, 0, none⟩ = some (.int .i64 a2_0) ∧ w'.cell? ⟨gb366, 1, none⟩ = some (.int .i64 a2_1) ∧ w'.cell? ⟨gb366, 2, none⟩ = some (.slice A2_2 l2_2.length c2_2)) (ds := []) #[false, false, false, false, false, false, false, false] (by kernel_rfl) rfl rfl ⟨(blk_cell BK366.out 0).trans rfl, (blk_cell BK366.out 1).trans rfl, (blk_cell BK366.out 2).trans rfl⟩ (fun hHeld => ?_); refine with_tabW castellanref6_Build.tab3 castellanref6_Build.bits3 (fun HT_ HW_ => ?_)
                            generalize wc.drew = w66 at BK366 HB hHeld ⊢
                            refine pure_ (i := 0) (N := some 35) (v := ?_) (a' := ?_) #[true, false, false, false, false, false, false, false] rfl rfl (any_of HT_.out (by kernel_rfl)) (fun _ _ _ h => h) (Or.inl ⟨by rfl, ?_⟩) ?_ ?_
                            rotate_left
                            · intro w'
                              go_simp
                              with_reducible rfl
                            rotate_left
                            · simp only [Act.put, List.setIfInBounds_toArray, List.set_cons_zero, List.set_cons_succ, i64_w, i32_w]
                              rfl
                            refine pure_ (i := 3) (N := some 38) (v := ?_) (a' := ?_) #[true, false, false, true, false, false, false, false] rfl rfl (any_of HT_.out (by kernel_rfl)) (fun _ _ _ h => h) (Or.inl ⟨by rfl, ?_⟩) ?_ ?_
                            rotate_left
                            · intro w'
                              go_simp
                              with_reducible rfl
                            rotate_left
                            · simp only [Act.put, List.setIfInBounds_toArray, List.set_cons_zero, List.set_cons_succ, i64_w, i32_w]
                              rfl
                            refine take_ (i := 1) (N := some 36) (v := ?_) (a' := ?_) #[true, true, false, true, false, false, false, false] rfl rfl (take_ofW HT_.out HW_.out (by kernel_rfl)) (fun _ _ _ h => h) (Or.inl ⟨by rfl, ?_⟩) hHeld ?_ ?_
                            rotate_left
                            · rintro w' ⟨s0, s1, s2⟩
                              go_simp
                              with_reducible rfl
                            rotate_left
                            · simp only [Act.put, List.setIfInBounds_toArray, List.set_cons_zero, List.set_cons_succ, i64_w, i32_w]
                              rfl
                            refine take_ (i := 4) (N := some 39) (v := ?_) (a' := ?_) #[true, true, false, true, true, false, false, false] rfl rfl (take_ofW HT_.out HW_.out (by kernel_rfl)) (fun _ _ _ h => h) (Or.inl ⟨by rfl, ?_⟩) hHeld ?_ ?_
                            rotate_left
                            · rintro w' ⟨s0, s1, s2⟩
                              go_simp
                              with_reducible rfl
                            rotate_left
                            · simp only [Act.put, List.setIfInBounds_toArray, List.set_cons_zero, List.set_cons_succ, i64_w, i32_w]
                              rfl
                            refine one_ (i := 2) (N := some 37) #[true, true, true, true, true, false, false, false] rfl rfl (one_of HT_.out (by kernel_rfl)) (by decide) (fun K hK => ?_)
                            refine goes_ Try.func43 (by kernel_rfl) rfl #[.int .i64 a2_0] (by rfl) rfl rfl (by (try simp only [List.map_toArray, List.map_cons, List.map_nil]); first | done | rfl | (simp only [List.length_drop, List.length_take]; rfl)) ?_
                            with_reducible refine (castellanref1_Put16.calls a2_0 t367 _ A16.out).mono ?_
                            rintro e w67 ⟨v368, rfl, ho0, hb⟩
                            refine ⟨_, rfl, ?_⟩
                            have n0_ := Aside0.mk (Kd.R_lower ho0 (below_size (by repeat (first | (with_reducible first | exact HB.out | apply below_alloc | apply pw_below_drewN | apply below_drew1 | refine below_set ?_ GE366.out) | exact HB.out))))
                            have n1_ := Aside0.mk (blk_below (g := gb366) (o := .cells #[.int .i64 a2_0, .int .i64 a2_1, .slice A2_2 l2_2.length c2_2] 74 (0, 0)) (by (with_reducible repeat (first | refine blk_drewN ?_ _ | refine blk_drew ?_ | refine blk_alloc ?_ _)); exact BK366.out) hb)
                            have n2_ := Aside0.mk (below_step (by repeat (first | (with_reducible first | exact HB.out | apply below_alloc | apply pw_below_drewN | apply below_drew1 | refine below_set ?_ GE366.out) | exact HB.out)) hb)
                            clear BK366
                            clear HB
                            have HO369 := n0_
                            have BK366 := n1_
                            have HB := n2_
                            clear n0_ n1_ n2_
                            (try clear hb)
                            (try clear hb2)
                            (try clear hk)
                            (try clear hi)
                            (try clear ho0)
                            refine hK.out _ _ ⟨(blk_cell BK366.out 0).trans rfl, (blk_cell BK366.out 1).trans rfl, (blk_cell BK366.out 2).trans rfl⟩ (fun hHeld => ?_)
                            clear hK K
                            refine norm_ (a' := ?_) ?_ ?_
                            rotate_left
                            · show Act.put _ (some 37) _ = _
                              simp only [Act.put, List.setIfInBounds_toArray, List.set_cons_zero, List.set_cons_succ, i64_w, i32_w]
                              rfl
                            refine one_ (i := 5) (N := some 40) #[true, true, true, true, true, true, false, false] rfl rfl (one_of HT_.out (by kernel_rfl)) (by decide) (fun K hK => ?_)
                            refine goes_ Try.func43 (by kernel_rfl) rfl #[.int .i64 a2_1] (by rfl) rfl rfl (by (try simp only [List.map_toArray, List.map_cons, List.map_nil]); first | done | rfl | (simp only [List.length_drop, List.length_take]; rfl)) ?_
                            with_reducible refine (castellanref1_Put16.calls a2_1 t370 _ A17.out).mono ?_
                            rintro e w68 ⟨v371, rfl, ho0, hb⟩
                            refine ⟨_, rfl, ?_⟩
                            have n0_ := Aside0.mk (Kd.R_elder' (by (with_reducible repeat (first | apply Kd.R_alloc | apply Kd.R_drewN | apply Kd.R_drew)); exact HO369.out) (Kd.R_base ho0) hb)
                            have n1_ := Aside0.mk (Kd.R_lower (Kd.R_new' ho0 (Kd.R_lt (by (with_reducible repeat (first | apply Kd.R_alloc | apply Kd.R_drewN | apply Kd.R_drew)); exact HO369.out))) (below_size (by repeat (first | (with_reducible first | exact HB.out | apply below_alloc | apply pw_below_drewN | apply below_drew1 | refine below_set ?_ GE366.out) | exact HB.out))))
                            have n2_ := Aside0.mk (blk_below (g := gb366) (o := .cells #[.int .i64 a2_0, .int .i64 a2_1, .slice A2_2 l2_2.length c2_2] 74 (0, 0)) (by (with_reducible repeat (first | refine blk_drewN ?_ _ | refine blk_drew ?_ | refine blk_alloc ?_ _)); exact BK366.out) hb)
                            have n3_ := Aside0.mk (below_step (by repeat (first | (with_reducible first | exact HB.out | apply below_alloc | apply pw_below_drewN | apply below_drew1 | refine below_set ?_ GE366.out) | exact HB.out)) hb)
                            clear HO369
                            clear BK366
                            clear HB
                            have HO369 := n0_
                            have HO372 := n1_
                            have BK366 := n2_
                            have HB := n3_
                            clear n0_ n1_ n2_ n3_
                            (try clear hb)
                            (try clear hb2)
                            (try clear hk)
                            (try clear hi)
                            (try clear ho0)
                            obtain ⟨Ao70, co70, eo70⟩ := Kd.R_slice HO372.out
                            (first | subst eo70 | (injection eo70 with f1_ f2_ f3_; have f4_ := f1_.symm; have f5_ := f3_.symm; clear f1_ f2_ f3_; subst f4_; subst f5_))
                            refine hK.out _ _ ⟨(blk_cell BK366.out 0).trans rfl, (blk_cell BK366.out 1).trans rfl, (blk_cell BK366.out 2).trans rfl⟩ (fun hHeld => ?_)
                            clear hK K
                            refine norm_ (a' := ?_) ?_ ?_
                            rotate_left
                            · show Act.put _ (some 40) _ = _
                              simp only [Act.put, List.setIfInBounds_toArray, List.set_cons_zero, List.set_cons_succ, i64_w, i32_w]
                              rfl
                            refine one_ (i := 6) (N := some 41) #[true, true, true, true, true, true, true, false] rfl rfl (one_of HT_.out (by kernel_rfl)) (by decide) (fun K hK => ?_)
                            refine Kd.R_append_rows_step (Kd.int .u8) (w0 := w) w.heap.size (by rfl) (.tmp 37) (.tmp 40) 24 5 (.int .u8 0) 1 rfl Try.underlying24 info5 rfl (by decide) (by omega) v368 t367 t370 _ _ _ (fun k_ => some k_ ≠ (.slice Ao70 t370.length co70 : Value).ownBlock) (fun _ => False) rfl rfl ?aO ?aR (fun _ _ h => h) (fun _ h => h.elim) ?aF ?aB ?aS ?aL ?_
                            (case aR => repeat (first | exact (Kd.R_reads' HO372.out).2.2 | (with_reducible refine Kd.C_alloc ?_ _) | (with_reducible refine Kd.C_drewN ?_ _) | (with_reducible refine Kd.C_drew ?_)))
                            (case aB => exact (by repeat (first | (with_reducible first | exact HB.out | apply below_alloc | apply pw_below_drewN | apply below_drew1 | refine below_set ?_ GE366.out) | exact HB.out)))
                            (case aF => exact (fun k_ hk => Kd.fresh' (Kd.R_lt (by (with_reducible repeat (first | apply Kd.R_alloc | apply Kd.R_drewN | apply Kd.R_drew)); exact HO372.out)) k_ hk))
                            (case aO => exact (by (with_reducible repeat (first | apply Kd.R_alloc | apply Kd.R_drewN | apply Kd.R_drew)); exact Kd.R_mono HO369.out (fun _ hk => hk.2)))
                            (case aS => exact (below_size (by repeat (first | (with_reducible first | exact HB.out | apply below_alloc | apply pw_below_drewN | apply below_drew1 | refine below_set ?_ GE366.out) | exact HB.out))))
                            (case aL => have := LMc18.out; omega)
                            intro v374 w69 ho hb hg hat
                            rw [← Ny373.out] at ho
                            have n0_ := Aside0.mk (blk_grown (g := gb366) (o := .cells #[.int .i64 a2_0, .int .i64 a2_1, .slice A2_2 l2_2.length c2_2] 74 (0, 0)) (by (with_reducible repeat (first | refine blk_drewN ?_ _ | refine blk_drew ?_ | refine blk_alloc ?_ _)); exact BK366.out) hg (Kd.R_ne HO369.out BK366.out (by decide)))
                            have n1_ := Aside0.mk (Kd.R_after (ok := (fun _ => True)) (by (with_reducible repeat (first | apply Kd.R_alloc | apply Kd.R_drewN | apply Kd.R_drew)); exact HO372.out) hg hat)
                            have n2_ := Aside0.mk (hb)
                            have n3_ := Aside0.mk (ho)
                            clear BK366
                            clear HO372
                            clear HB
                            clear HO369
                            have BK366 := n0_
                            have HO372 := n1_
                            have HB := n2_
                            have HO375 := n3_
                            clear n0_ n1_ n2_ n3_
                            clear ho hb hg hat
                            refine hK.out _ _ ⟨(blk_cell BK366.out 0).trans rfl, (blk_cell BK366.out 1).trans rfl, (blk_cell BK366.out 2).trans rfl⟩ (fun hHeld => ?_)
                            clear hK K
                            refine norm_ (a' := ?_) ?_ ?_
                            rotate_left
                            · show Act.put _ (some 41) _ = _
                              simp only [Act.put, List.setIfInBounds_toArray, List.set_cons_zero, List.set_cons_succ, i64_w, i32_w]
                              rfl
                            refine pure_ (i := 7) (N := some 8) (v := ?_) (a' := ?_) #[true, true, true, true, true, true, true, true] rfl rfl (any_of HT_.out (by kernel_rfl)) (fun _ _ _ h => h) (Or.inl ⟨by rfl, ?_⟩) ?_ ?_
                            rotate_left
                            · intro w'
                              go_simp
                              with_reducible rfl
                            rotate_left
                            · simp only [Act.put, List.setIfInBounds_toArray, List.set_cons_zero, List.set_cons_succ, i64_w, i32_w]
                              rfl
                            refine done_ (done_of HT_.out (by kernel_rfl)) ?_
                            have hcz71_0 : w69.cell? ⟨gb366, 0, none⟩ = some (.int .i64 a2_0) := (blk_cell BK366.out 0).trans rfl
                            have hcz71_1 : w69.cell? ⟨gb366, 1, none⟩ = some (.int .i64 a2_1) := (blk_cell BK366.out 1).trans rfl
                            have hcz71_2 : w69.cell? ⟨gb366, 2, none⟩ = some (.slice A2_2 l2_2.length c2_2) := (blk_cell BK366.out 2).trans rfl
                            have hfz71_0 := blk_frozen BK366.out 0
                            have hfz71_1 := blk_frozen BK366.out 1
                            have hfz71_2 := blk_frozen BK366.out 2
                            try go_wp2_with (first | ((with_reducible refine gate_callee (f := 43) rfl ?_); refine goesL_ (some 47) rfl rfl Try.func43 (by kernel_rfl) rfl #[.int .i64 (wrap64 (8 + (l2_2.length : Int)))] rfl (by (try simp only [List.map_toArray, List.map_cons, List.map_nil]); first | done | rfl | (simp only [List.length_drop, List.length_take]; rfl)) ?_; (with_reducible refine (castellanref1_Put16.calls (wrap64 (8 + (l2_2.length : Int))) t376 _ A19.out).mono ?_); rintro e w72 ⟨v377, rfl, ho0, hb⟩; refine ⟨_, rfl, ?_⟩; have n0_ := Aside0.mk (Kd.R_elder' (by (with_reducible repeat (first | apply Kd.R_alloc | apply Kd.R_drewN | apply Kd.R_drew)); exact HO372.out) (Kd.R_base ho0) hb); have n1_ := Aside0.mk (Kd.R_elder' (by (with_reducible repeat (first | apply Kd.R_alloc | apply Kd.R_drewN | apply Kd.R_drew)); exact HO375.out) (Kd.R_base ho0) hb); have n2_ := Aside0.mk (Kd.R_lower (Kd.R_new' (Kd.R_new' ho0 (Kd.R_lt (by (with_reducible repeat (first | apply Kd.R_alloc | apply Kd.R_drewN | apply Kd.R_drew)); exact HO372.out))) (Kd.R_lt (by (with_reducible repeat (first | apply Kd.R_alloc | apply Kd.R_drewN | apply Kd.R_drew)); exact HO375.out))) (below_size (by repeat (first | (with_reducible first | exact HB.out | apply below_alloc | apply pw_below_drewN | apply below_drew1 | refine below_set ?_ GE366.out) | exact HB.out)))); have n3_ := Aside0.mk (blk_below (g := gb366) (o := .cells #[.int .i64 a2_0, .int .i64 a2_1, .slice A2_2 l2_2.length c2_2] 74 (0, 0)) (by (with_reducible repeat (first | refine blk_drewN ?_ _ | refine blk_drew ?_ | refine blk_alloc ?_ _)); exact BK366.out) hb); have n4_ := Aside0.mk (below_step (by repeat (first | (with_reducible first | exact HB.out | apply below_alloc | apply pw_below_drewN | apply below_drew1 | refine below_set ?_ GE366.out) | exact HB.out)) hb); clear HO372; clear HO375; clear BK366; clear HB; have HO372 := n0_; have HO375 := n1_; have HO378 := n2_; have BK366 := n3_; have HB := n4_; clear n0_ n1_ n2_ n3_ n4_; (try clear hb); (try clear hb2); (try clear hk); (try clear hi); (try clear ho0); obtain ⟨Ao74, co74, eo74⟩ := Kd.R_slice HO378.out; subst eo74) | ((with_reducible refine gate_builtin (b := .append) (xs := #[.tmp 42, .tmp 47]) rfl ?_); (try (refine gate_guard (by rfl) ?_; dsimp only)); at_builtin; refine Kd.R_append_rows (Kd.int .u8) (w0 := w) w.heap.size rfl (.tmp 42) (.tmp 47) 24 5 (.int .u8 0) 1 rfl Try.underlying24 info5 rfl (by decide) (by omega) v374 y373 t376 _ _ _ (fun k_ => some k_ ≠ (.slice Ao70 t370.length co70 : Value).ownBlock ∧ some k_ ≠ (.slice Ao74 t376.length co74 : Value).ownBlock) (fun _ => False) rfl rfl ?aO ?aR (fun _ _ h => h) (fun _ h => h.elim) ?aF ?aB ?aS ?aL ?_; (case aR => repeat (first | exact (Kd.R_reads' HO378.out).2.2 | (with_reducible refine Kd.C_alloc ?_ _) | (with_reducible refine Kd.C_drewN ?_ _) | (with_reducible refine Kd.C_drew ?_))); (case aB => exact (by repeat (first | (with_reducible first | exact HB.out | apply below_alloc | apply pw_below_drewN | apply below_drew1 | refine below_set ?_ GE366.out) | exact HB.out))); (case aF => exact (fun k_ hk => ⟨Kd.fresh' (Kd.R_lt (by (with_reducible repeat (first | apply Kd.R_alloc | apply Kd.R_drewN | apply Kd.R_drew)); exact HO372.out)) k_ hk, Kd.fresh' (Kd.R_lt (by (with_reducible repeat (first | apply Kd.R_alloc | apply Kd.R_drewN | apply Kd.R_drew)); exact HO378.out)) k_ hk⟩)); (case aO => exact (by (with_reducible repeat (first | apply Kd.R_alloc | apply Kd.R_drewN | apply Kd.R_drew)); exact HO375.out)); (case aS => exact (below_size (by repeat (first | (with_reducible first | exact HB.out | apply below_alloc | apply pw_below_drewN | apply below_drew1 | refine below_set ?_ GE366.out) | exact HB.out)))); (case aL => have := LMc20.out; omega); intro v380 w73 ho hb hg hat; rw [← Ny379.out] at ho; have n0_ := Aside0.mk (blk_grown (g := gb366) (o := .cells #[.int .i64 a2_0, .int .i64 a2_1, .slice A2_2 l2_2.length c2_2] 74 (0, 0)) (by (with_reducible repeat (first | refine blk_drewN ?_ _ | refine blk_drew ?_ | refine blk_alloc ?_ _)); exact BK366.out) hg (Kd.R_ne HO375.out BK366.out (by decide))); have n1_ := Aside0.mk (Kd.R_after (ok := (fun k_ => some k_ ≠ (.slice Ao74 t376.length co74 : Value).ownBlock)) (by (with_reducible repeat (first | apply Kd.R_alloc | apply Kd.R_drewN | apply Kd.R_drew)); exact Kd.R_mono HO372.out (fun _ hk => ⟨hk.2, hk.1.2⟩)) hg hat); have n2_ := Aside0.mk (Kd.R_after (ok := (fun k_ => some k_ ≠ (.slice Ao70 t370.length co70 : Value).ownBlock)) (by (with_reducible repeat (first | apply Kd.R_alloc | apply Kd.R_drewN | apply Kd.R_drew)); exact Kd.R_mono HO378.out (fun _ hk => ⟨hk.1.2, hk.2⟩)) hg hat); have n3_ := Aside0.mk (hb); have n4_ := Aside0.mk (ho); clear BK366; clear HO372; clear HO378; clear HB; clear HO375; have BK366 := n0_; have HO372 := n1_; have HO378 := n2_; have HB := n3_; have HO381 := n4_; clear n0_ n1_ n2_ n3_ n4_; clear ho hb hg hat) | ((with_reducible refine gate_dst (N := 49) rfl ?_); (try (refine gate_guard (by rfl) ?_; dsimp only)); refine Kd.R_lit (Kd.int .u8) _ 5 ?hg (N := 49) ?hd (xs := ([0, 0] : List Int)) (inner := [.int .u8 0, .int .u8 0]) (ok := fun _ => True) (okp := fun _ => True) ?hr ?hp (fun _ hk => hk) trivial (Below.refl _ _) (Nat.le_refl _) (by simp) ?_; (case hd => rfl); (case hg => rfl); (case hr => first | (go_simp; done) | (go_simp; rfl)); (case hp => exact (Reps.one (show Kd.M (Kd.int .u8) _ _ _ 0 [.int .u8 0] from rfl) (Reps.one (show Kd.M (Kd.int .u8) _ _ _ 0 [.int .u8 0] from rfl) (Reps.none _ _)))); intro v383 w75 ho76 hb hg_ hnew_; clear hg_ hnew_; (first | rw [← Ny382.out] at ho76 | (simp only [Int.reduceToNat] at ho76; rw [← Ny382.out] at ho76)); have n0_ := Aside0.mk (Kd.R_elder' (by (with_reducible repeat (first | apply Kd.R_alloc | apply Kd.R_drewN | apply Kd.R_drew)); exact HO372.out) (Kd.R_base ho76) hb); have n1_ := Aside0.mk (Kd.R_elder' (by (with_reducible repeat (first | apply Kd.R_alloc | apply Kd.R_drewN | apply Kd.R_drew)); exact HO378.out) (Kd.R_base ho76) hb); have n2_ := Aside0.mk (Kd.R_elder' (by (with_reducible repeat (first | apply Kd.R_alloc | apply Kd.R_drewN | apply Kd.R_drew)); exact HO381.out) (Kd.R_base ho76) hb); have n3_ := Aside0.mk (Kd.R_lower (Kd.R_new' (Kd.R_new' (Kd.R_new' ho76 (Kd.R_lt (by (with_reducible repeat (first | apply Kd.R_alloc | apply Kd.R_drewN | apply Kd.R_drew)); exact HO372.out))) (Kd.R_lt (by (with_reducible repeat (first | apply Kd.R_alloc | apply Kd.R_drewN | apply Kd.R_drew)); exact HO378.out))) (Kd.R_lt (by (with_reducible repeat (first | apply Kd.R_alloc | apply Kd.R_drewN | apply Kd.R_drew)); exact HO381.out))) (below_size (by repeat (first | (with_reducible first | exact HB.out | apply below_alloc | apply pw_below_drewN | apply below_drew1 | refine below_set ?_ GE366.out) | exact HB.out)))); have n4_ := Aside0.mk (blk_below (g := gb366) (o := .cells #[.int .i64 a2_0, .int .i64 a2_1, .slice A2_2 l2_2.length c2_2] 74 (0, 0)) (by (with_reducible repeat (first | refine blk_drewN ?_ _ | refine blk_drew ?_ | refine blk_alloc ?_ _)); exact BK366.out) hb); have n5_ := Aside0.mk (below_step (by repeat (first | (with_reducible first | exact HB.out | apply below_alloc | apply pw_below_drewN | apply below_drew1 | refine below_set ?_ GE366.out) | exact HB.out)) hb); clear HO372; clear HO378; clear HO381; clear BK366; clear HB; have HO372 := n0_; have HO378 := n1_; have HO381 := n2_; have HO384 := n3_; have BK366 := n4_; have HB := n5_; clear n0_ n1_ n2_ n3_ n4_ n5_; clear hb ho76; obtain ⟨Ao78, co78, eo78⟩ := Kd.R_slice HO384.out; subst eo78) | ((with_reducible refine gate_builtin (b := .append) (xs := #[.tmp 48, .tmp 49]) rfl ?_); (try (refine gate_guard (by rfl) ?_; dsimp only)); at_builtin; refine Kd.R_append_rows (Kd.int .u8) (w0 := w) w.heap.size rfl (.tmp 48) (.tmp 49) 24 5 (.int .u8 0) 1 rfl Try.underlying24 info5 rfl (by decide) (by omega) v380 y379 y382 _ _ _ (fun k_ => some k_ ≠ (.slice Ao70 t370.length co70 : Value).ownBlock ∧ some k_ ≠ (.slice Ao74 t376.length co74 : Value).ownBlock ∧ some k_ ≠ (.slice Ao78 y382.length co78 : Value).ownBlock) (fun _ => False) rfl rfl ?aO ?aR (fun _ _ h => h) (fun _ h => h.elim) ?aF ?aB ?aS ?aL ?_; (case aR => repeat (first | exact (Kd.R_reads' HO384.out).2.2 | (with_reducible refine Kd.C_alloc ?_ _) | (with_reducible refine Kd.C_drewN ?_ _) | (with_reducible refine Kd.C_drew ?_))); (case aB => exact (by repeat (first | (with_reducible first | exact HB.out | apply below_alloc | apply pw_below_drewN | apply below_drew1 | refine below_set ?_ GE366.out) | exact HB.out))); (case aF => exact (fun k_ hk => ⟨Kd.fresh' (Kd.R_lt (by (with_reducible repeat (first | apply Kd.R_alloc | apply Kd.R_drewN | apply Kd.R_drew)); exact HO372.out)) k_ hk, Kd.fresh' (Kd.R_lt (by (with_reducible repeat (first | apply Kd.R_alloc | apply Kd.R_drewN | apply Kd.R_drew)); exact HO378.out)) k_ hk, Kd.fresh' (Kd.R_lt (by (with_reducible repeat (first | apply Kd.R_alloc | apply Kd.R_drewN | apply Kd.R_drew)); exact HO384.out)) k_ hk⟩)); (case aO => exact (by (with_reducible repeat (first | apply Kd.R_alloc | apply Kd.R_drewN | apply Kd.R_drew)); exact Kd.R_mono HO381.out (fun _ hk => ⟨hk.1.1, ⟨hk.1.2, hk.2⟩⟩))); (case aS => exact (below_size (by repeat (first | (with_reducible first | exact HB.out | apply below_alloc | apply pw_below_drewN | apply below_drew1 | refine below_set ?_ GE366.out) | exact HB.out)))); (case aL => have := LMc21.out; omega); intro v386 w77 ho hb hg hat; rw [← Ny385.out] at ho; have n0_ := Aside0.mk (blk_grown (g := gb366) (o := .cells #[.int .i64 a2_0, .int .i64 a2_1, .slice A2_2 l2_2.length c2_2] 74 (0, 0)) (by (with_reducible repeat (first | refine blk_drewN ?_ _ | refine blk_drew ?_ | refine blk_alloc ?_ _)); exact BK366.out) hg (Kd.R_ne HO381.out BK366.out (by decide))); have n1_ := Aside0.mk (Kd.R_after (ok := (fun k_ => some k_ ≠ (.slice Ao74 t376.length co74 : Value).ownBlock ∧ some k_ ≠ (.slice Ao78 y382.length co78 : Value).ownBlock)) (by (with_reducible repeat (first | apply Kd.R_alloc | apply Kd.R_drewN | apply Kd.R_drew)); exact Kd.R_mono HO372.out (fun _ hk => ⟨⟨hk.1.1, hk.2⟩, hk.1.2⟩)) hg hat); have n2_ := Aside0.mk (Kd.R_after (ok := (fun k_ => some k_ ≠ (.slice Ao70 t370.length co70 : Value).ownBlock ∧ some k_ ≠ (.slice Ao78 y382.length co78 : Value).ownBlock)) (by (with_reducible repeat (first | apply Kd.R_alloc | apply Kd.R_drewN | apply Kd.R_drew)); exact Kd.R_mono HO378.out (fun _ hk => ⟨⟨hk.1.1, hk.2⟩, hk.1.2⟩)) hg hat); have n3_ := Aside0.mk (Kd.R_after (ok := (fun k_ => some k_ ≠ (.slice Ao70 t370.length co70 : Value).ownBlock ∧ some k_ ≠ (.slice Ao74 t376.length co74 : Value).ownBlock)) (by (with_reducible repeat (first | apply Kd.R_alloc | apply Kd.R_drewN | apply Kd.R_drew)); exact Kd.R_mono HO384.out (fun _ hk => ⟨⟨hk.1.1.2, hk.1.2⟩, hk.2⟩)) hg hat); have n4_ := Aside0.mk (hb); have n5_ := Aside0.mk (ho); clear BK366; clear HO372; clear HO378; clear HO384; clear HB; clear HO381; have BK366 := n0_; have HO372 := n1_; have HO378 := n2_; have HO384 := n3_; have HB := n4_; have HO387 := n5_; clear n0_ n1_ n2_ n3_ n4_ n5_; clear ho hb hg hat; have hcz79_0 : w77.cell? ⟨gb366, 0, none⟩ = some (.int .i64 a2_0) := (blk_cell BK366.out 0).trans rfl; have hcz79_1 : w77.cell? ⟨gb366, 1, none⟩ = some (.int .i64 a2_1) := (blk_cell BK366.out 1).trans rfl; have hcz79_2 : w77.cell? ⟨gb366, 2, none⟩ = some (.slice A2_2 l2_2.length c2_2) := (blk_cell BK366.out 2).trans rfl; have hfz79_0 := blk_frozen BK366.out 0; have hfz79_1 := blk_frozen BK366.out 1; have hfz79_2 := blk_frozen BK366.out 2) | ((with_reducible refine gate_builtin (b := .append) (xs := #[.tmp 51, .tmp 53]) rfl ?_); (try (refine gate_guard (by rfl) ?_; dsimp only)); at_builtin; refine Kd.R_append_rows (Kd.int .u8) (w0 := w) w.heap.size rfl (.tmp 51) (.tmp 53) 24 5 (.int .u8 0) 1 rfl Try.underlying24 info5 rfl (by decide) (by omega) v386 y385 l2_2 _ _ _ (fun k_ => some k_ ≠ (.slice Ao70 t370.length co70 : Value).ownBlock ∧ some k_ ≠ (.slice Ao74 t376.length co74 : Value).ownBlock ∧ some k_ ≠ (.slice Ao78 y382.length co78 : Value).ownBlock) (fun _ => False) rfl rfl ?aO ?aR (fun _ _ h => h) (fun _ h => h.elim) ?aF ?aB ?aS ?aL ?_; (case aR => repeat (first | exact (Kd.C_below HR2_2.out HB.out) | (with_reducible refine Kd.C_alloc ?_ _) | (with_reducible refine Kd.C_drewN ?_ _) | (with_reducible refine Kd.C_drew ?_))); (case aB => exact (by repeat (first | (with_reducible first | exact HB.out | apply below_alloc | apply pw_below_drewN | apply below_drew1 | refine below_set ?_ GE366.out) | exact HB.out))); (case aF => exact (fun k_ hk => ⟨Kd.fresh' (Kd.R_lt (by (with_reducible repeat (first | apply Kd.R_alloc | apply Kd.R_drewN | apply Kd.R_drew)); exact HO372.out)) k_ hk, Kd.fresh' (Kd.R_lt (by (with_reducible repeat (first | apply Kd.R_alloc | apply Kd.R_drewN | apply Kd.R_drew)); exact HO378.out)) k_ hk, Kd.fresh' (Kd.R_lt (by (with_reducible repeat (first | apply Kd.R_alloc | apply Kd.R_drewN | apply Kd.R_drew)); exact HO384.out)) k_ hk⟩)); (case aO => exact (by (with_reducible repeat (first | apply Kd.R_alloc | apply Kd.R_drewN | apply Kd.R_drew)); exact HO387.out)); (case aS => exact (below_size (by repeat (first | (with_reducible first | exact HB.out | apply below_alloc | apply pw_below_drewN | apply below_drew1 | refine below_set ?_ GE366.out) | exact HB.out)))); (case aL => have := LMc22.out; omega); intro v389 w80 ho hb hg hat; rw [← Ny388.out] at ho; have n0_ := Aside0.mk (blk_grown (g := gb366) (o := .cells #[.int .i64 a2_0, .int .i64 a2_1, .slice A2_2 l2_2.length c2_2] 74 (0, 0)) (by (with_reducible repeat (first | refine blk_drewN ?_ _ | refine blk_drew ?_ | refine blk_alloc ?_ _)); exact BK366.out) hg (Kd.R_ne HO387.out BK366.out (by decide))); have n1_ := Aside0.mk (Kd.R_after (ok := (fun k_ => some k_ ≠ (.slice Ao74 t376.length co74 : Value).ownBlock ∧ some k_ ≠ (.slice Ao78 y382.length co78 : Value).ownBlock)) (by (with_reducible repeat (first | apply Kd.R_alloc | apply Kd.R_drewN | apply Kd.R_drew)); exact HO372.out) hg hat); have n2_ := Aside0.mk (Kd.R_after (ok := (fun k_ => some k_ ≠ (.slice Ao70 t370.length co70 : Value).ownBlock ∧ some k_ ≠ (.slice Ao78 y382.length co78 : Value).ownBlock)) (by (with_reducible repeat (first | apply Kd.R_alloc | apply Kd.R_drewN | apply Kd.R_drew)); exact HO378.out) hg hat); have n3_ := Aside0.mk (Kd.R_after (ok := (fun k_ => some k_ ≠ (.slice Ao70 t370.length co70 : Value).ownBlock ∧ some k_ ≠ (.slice Ao74 t376.length co74 : Value).ownBlock)) (by (with_reducible repeat (first | apply Kd.R_alloc | apply Kd.R_drewN | apply Kd.R_drew)); exact HO384.out) hg hat); have n4_ := Aside0.mk (hb); have n5_ := Aside0.mk (ho); clear BK366; clear HO372; clear HO378; clear HO384; clear HB; clear HO387; have BK366 := n0_; have HO372 := n1_; have HO378 := n2_; have HO384 := n3_; have HB := n4_; have HO390 := n5_; clear n0_ n1_ n2_ n3_ n4_ n5_; clear ho hb hg hat; obtain ⟨Ao81, co81, eo81⟩ := Kd.R_slice HO390.out; subst eo81) | ((with_reducible refine gate_callee (f := 57) rfl ?_); refine goesL_ (some 59) rfl rfl Try.func57 (by kernel_rfl) rfl #[.int .u32 a0, .int .u32 a1, .int .i64 17, .int .i64 (y388.length : Int)] rfl (by (try simp only [List.map_toArray, List.map_cons, List.map_nil]); first | done | rfl | (simp only [List.length_drop, List.length_take]; rfl)) ?_; (with_reducible refine (castellanref2_Pseudo.calls a0 a1 17 (y388.length : Int) t391 _ A23.out).mono ?_); rintro e w82 ⟨v392, rfl, ho0, hb⟩; refine ⟨_, rfl, ?_⟩; have n0_ := Aside0.mk (Kd.R_elder' (by (with_reducible repeat (first | apply Kd.R_alloc | apply Kd.R_drewN | apply Kd.R_drew)); exact HO372.out) (Kd.R_base ho0) hb); have n1_ := Aside0.mk (Kd.R_elder' (by (with_reducible repeat (first | apply Kd.R_alloc | apply Kd.R_drewN | apply Kd.R_drew)); exact HO378.out) (Kd.R_base ho0) hb); have n2_ := Aside0.mk (Kd.R_elder' (by (with_reducible repeat (first | apply Kd.R_alloc | apply Kd.R_drewN | apply Kd.R_drew)); exact HO384.out) (Kd.R_base ho0) hb); have n3_ := Aside0.mk (Kd.R_elder' (by (with_reducible repeat (first | apply Kd.R_alloc | apply Kd.R_drewN | apply Kd.R_drew)); exact HO390.out) (Kd.R_base ho0) hb); have n4_ := Aside0.mk (Kd.R_lower (Kd.R_new' (Kd.R_new' (Kd.R_new' (Kd.R_new' ho0 (Kd.R_lt (by (with_reducible repeat (first | apply Kd.R_alloc | apply Kd.R_drewN | apply Kd.R_drew)); exact HO372.out))) (Kd.R_lt (by (with_reducible repeat (first | apply Kd.R_alloc | apply Kd.R_drewN | apply Kd.R_drew)); exact HO378.out))) (Kd.R_lt (by (with_reducible repeat (first | apply Kd.R_alloc | apply Kd.R_drewN | apply Kd.R_drew)); exact HO384.out))) (Kd.R_lt (by (with_reducible repeat (first | apply Kd.R_alloc | apply Kd.R_drewN | apply Kd.R_drew)); exact HO390.out))) (below_size (by repeat (first | (with_reducible first | exact HB.out | apply below_alloc | apply pw_below_drewN | apply below_drew1 | refine below_set ?_ GE366.out) | exact HB.out)))); have n5_ := Aside0.mk (blk_below (g := gb366) (o := .cells #[.int .i64 a2_0, .int .i64 a2_1, .slice A2_2 l2_2.length c2_2] 74 (0, 0)) (by (with_reducible repeat (first | refine blk_drewN ?_ _ | refine blk_drew ?_ | refine blk_alloc ?_ _)); exact BK366.out) hb); have n6_ := Aside0.mk (below_step (by repeat (first | (with_reducible first | exact HB.out | apply below_alloc | apply pw_below_drewN | apply below_drew1 | refine below_set ?_ GE366.out) | exact HB.out)) hb); clear HO372; clear HO378; clear HO384; clear HO390; clear BK366; clear HB; have HO372 := n0_; have HO378 := n1_; have HO384 := n2_; have HO390 := n3_; have HO393 := n4_; have BK366 := n5_; have HB := n6_; clear n0_ n1_ n2_ n3_ n4_ n5_ n6_; (try clear hb); (try clear hb2); (try clear hk); (try clear hi); (try clear ho0)) | ((with_reducible refine gate_builtin (b := .append) (xs := #[.tmp 59, .tmp 60]) rfl ?_); (try (refine gate_guard (by rfl) ?_; dsimp only)); at_builtin; refine Kd.R_append_rows (Kd.int .u8) (w0 := w) w.heap.size rfl (.tmp 59) (.tmp 60) 24 5 (.int .u8 0) 1 rfl Try.underlying24 info5 rfl (by decide) (by omega) v392 t391 y388 _ _ _ (fun k_ => some k_ ≠ (.slice Ao70 t370.length co70 : Value).ownBlock ∧ some k_ ≠ (.slice Ao74 t376.length co74 : Value).ownBlock ∧ some k_ ≠ (.slice Ao78 y382.length co78 : Value).ownBlock ∧ some k_ ≠ (.slice Ao81 y388.length co81 : Value).ownBlock) (fun _ => False) rfl rfl ?aO ?aR (fun _ _ h => h) (fun _ h => h.elim) ?aF ?aB ?aS ?aL ?_; (case aR => repeat (first | exact (Kd.R_reads' HO390.out).2.2 | (with_reducible refine Kd.C_alloc ?_ _) | (with_reducible refine Kd.C_drewN ?_ _) | (with_reducible refine Kd.C_drew ?_))); (case aB => exact (by repeat (first | (with_reducible first | exact HB.out | apply below_alloc | apply pw_below_drewN | apply below_drew1 | refine below_set ?_ GE366.out) | exact HB.out))); (case aF => exact (fun k_ hk => ⟨Kd.fresh' (Kd.R_lt (by (with_reducible repeat (first | apply Kd.R_alloc | apply Kd.R_drewN | apply Kd.R_drew)); exact HO372.out)) k_ hk, Kd.fresh' (Kd.R_lt (by (with_reducible repeat (first | apply Kd.R_alloc | apply Kd.R_drewN | apply Kd.R_drew)); exact HO378.out)) k_ hk, Kd.fresh' (Kd.R_lt (by (with_reducible repeat (first | apply Kd.R_alloc | apply Kd.R_drewN | apply Kd.R_drew)); exact HO384.out)) k_ hk, Kd.fresh' (Kd.R_lt (by (with_reducible repeat (first | apply Kd.R_alloc | apply Kd.R_drewN | apply Kd.R_drew)); exact HO390.out)) k_ hk⟩)); (case aO => exact (by (with_reducible repeat (first | apply Kd.R_alloc | apply Kd.R_drewN | apply Kd.R_drew)); exact Kd.R_mono HO393.out (fun _ hk => ⟨hk.1.1.1.2, ⟨hk.1.1.2, ⟨hk.1.2, hk.2⟩⟩⟩))); (case aS => exact (below_size (by repeat (first | (with_reducible first | exact HB.out | apply below_alloc | apply pw_below_drewN | apply below_drew1 | refine below_set ?_ GE366.out) | exact HB.out)))); (case aL => have := LMc24.out; omega); intro v395 w83 ho hb hg hat; rw [← Ny394.out] at ho; have n0_ := Aside0.mk (blk_grown (g := gb366) (o := .cells #[.int .i64 a2_0, .int .i64 a2_1, .slice A2_2 l2_2.length c2_2] 74 (0, 0)) (by (with_reducible repeat (first | refine blk_drewN ?_ _ | refine blk_drew ?_ | refine blk_alloc ?_ _)); exact BK366.out) hg (Kd.R_ne HO393.out BK366.out (by decide))); have n1_ := Aside0.mk (Kd.R_after (ok := (fun k_ => some k_ ≠ (.slice Ao74 t376.length co74 : Value).ownBlock ∧ some k_ ≠ (.slice Ao78 y382.length co78 : Value).ownBlock ∧ some k_ ≠ (.slice Ao81 y388.length co81 : Value).ownBlock)) (by (with_reducible repeat (first | apply Kd.R_alloc | apply Kd.R_drewN | apply Kd.R_drew)); exact Kd.R_mono HO372.out (fun _ hk => ⟨⟨hk.1.1.1, ⟨hk.1.1.2, hk.1.2⟩⟩, hk.2⟩)) hg hat); have n2_ := Aside0.mk (Kd.R_after (ok := (fun k_ => some k_ ≠ (.slice Ao70 t370.length co70 : Value).ownBlock ∧ some k_ ≠ (.slice Ao78 y382.length co78 : Value).ownBlock ∧ some k_ ≠ (.slice Ao81 y388.length co81 : Value).ownBlock)) (by (with_reducible repeat (first | apply Kd.R_alloc | apply Kd.R_drewN | apply Kd.R_drew)); exact Kd.R_mono HO378.out (fun _ hk => ⟨⟨hk.1.1.1, ⟨hk.1.1.2, hk.1.2⟩⟩, hk.2⟩)) hg hat); have n3_ := Aside0.mk (Kd.R_after (ok := (fun k_ => some k_ ≠ (.slice Ao70 t370.length co70 : Value).ownBlock ∧ some k_ ≠ (.slice Ao74 t376.length co74 : Value).ownBlock ∧ some k_ ≠ (.slice Ao81 y388.length co81 : Value).ownBlock)) (by (with_reducible repeat (first | apply Kd.R_alloc | apply Kd.R_drewN | apply Kd.R_drew)); exact Kd.R_mono HO384.out (fun _ hk => ⟨⟨hk.1.1.1, ⟨hk.1.1.2, hk.1.2⟩⟩, hk.2⟩)) hg hat); have n4_ := Aside0.mk (Kd.R_after (ok := (fun k_ => some k_ ≠ (.slice Ao70 t370.length co70 : Value).ownBlock ∧ some k_ ≠ (.slice Ao74 t376.length co74 : Value).ownBlock ∧ some k_ ≠ (.slice Ao78 y382.length co78 : Value).ownBlock)) (by (with_reducible repeat (first | apply Kd.R_alloc | apply Kd.R_drewN | apply Kd.R_drew)); exact HO390.out) hg hat); have n5_ := Aside0.mk (hb); have n6_ := Aside0.mk (ho); clear BK366; clear HO372; clear HO378; clear HO384; clear HO390; clear HB; clear HO393; have BK366 := n0_; have HO372 := n1_; have HO378 := n2_; have HO384 := n3_; have HO390 := n4_; have HB := n5_; have HO396 := n6_; clear n0_ n1_ n2_ n3_ n4_ n5_ n6_; clear ho hb hg hat; obtain ⟨Ao84, co84, eo84⟩ := Kd.R_slice HO396.out; subst eo84) | ((with_reducible refine gate_callee (f := 45) rfl ?_); refine goesL_ (some 62) rfl rfl Try.func45 (by kernel_rfl) rfl #[.slice Ao84 y394.length co84] rfl (by (try simp only [List.map_toArray, List.map_cons, List.map_nil]); first | done | rfl | (simp only [List.length_drop, List.length_take]; rfl)) ?_; (with_reducible refine (castellanref2_Of.calls kj3 _ _ y394 t397 _ ?side1 ?side2 A25.out).mono ?_); (case side1 => repeat (first | exact (Kd.R_reads' HO396.out).2.2 | (with_reducible refine Kd.C_alloc ?_ _) | (with_reducible refine Kd.C_drewN ?_ _) | (with_reducible refine Kd.C_drew ?_))); (case side2 => exact (Kd.R_reads' HO396.out).2.1); rintro e w' ⟨rfl, ⟨nd, rfl⟩⟩; refine ⟨_, rfl, ?_⟩; (try (rw [drewN_self w83]; generalize hq_ : World.drewN w83 _ = w83; have n0_ : Aside0 (Kd.R (Kd.int .u8) 5 w83 w.heap.size (fun k_ => some k_ ≠ (.slice Ao74 t376.length co74 : Value).ownBlock ∧ some k_ ≠ (.slice Ao78 y382.length co78 : Value).ownBlock ∧ some k_ ≠ (.slice Ao81 y388.length co81 : Value).ownBlock ∧ some k_ ≠ (.slice Ao84 y394.length co84 : Value).ownBlock) (.slice Ao70 t370.length co70) t370) := ⟨by rw [← hq_]; exact (by (with_reducible repeat (first | apply Kd.R_alloc | apply Kd.R_drewN | apply Kd.R_drew)); exact Kd.R_mono HO372.out (fun _ hk => ⟨hk.1.1, ⟨hk.1.2.1, ⟨hk.1.2.2, hk.2⟩⟩⟩))⟩; have n1_ : Aside0 (Kd.R (Kd.int .u8) 5 w83 w.heap.size (fun k_ => some k_ ≠ (.slice Ao70 t370.length co70 : Value).ownBlock ∧ some k_ ≠ (.slice Ao78 y382.length co78 : Value).ownBlock ∧ some k_ ≠ (.slice Ao81 y388.length co81 : Value).ownBlock ∧ some k_ ≠ (.slice Ao84 y394.length co84 : Value).ownBlock) (.slice Ao74 t376.length co74) t376) := ⟨by rw [← hq_]; exact (by (with_reducible repeat (first | apply Kd.R_alloc | apply Kd.R_drewN | apply Kd.R_drew)); exact Kd.R_mono HO378.out (fun _ hk => ⟨hk.1.1, ⟨hk.1.2.1, ⟨hk.1.2.2, hk.2⟩⟩⟩))⟩; have n2_ : Aside0 (Kd.R (Kd.int .u8) 5 w83 w.heap.size (fun k_ => some k_ ≠ (.slice Ao70 t370.length co70 : Value).ownBlock ∧ some k_ ≠ (.slice Ao74 t376.length co74 : Value).ownBlock ∧ some k_ ≠ (.slice Ao81 y388.length co81 : Value).ownBlock ∧ some k_ ≠ (.slice Ao84 y394.length co84 : Value).ownBlock) (.slice Ao78 y382.length co78) y382) := ⟨by rw [← hq_]; exact (by (with_reducible repeat (first | apply Kd.R_alloc | apply Kd.R_drewN | apply Kd.R_drew)); exact Kd.R_mono HO384.out (fun _ hk => ⟨hk.1.1, ⟨hk.1.2.1, ⟨hk.1.2.2, hk.2⟩⟩⟩))⟩; have n3_ : Aside0 (Kd.R (Kd.int .u8) 5 w83 w.heap.size (fun k_ => some k_ ≠ (.slice Ao70 t370.length co70 : Value).ownBlock ∧ some k_ ≠ (.slice Ao74 t376.length co74 : Value).ownBlock ∧ some k_ ≠ (.slice Ao78 y382.length co78 : Value).ownBlock ∧ some k_ ≠ (.slice Ao84 y394.length co84 : Value).ownBlock) (.slice Ao81 y388.length co81) y388) := ⟨by rw [← hq_]; exact (by (with_reducible repeat (first | apply Kd.R_alloc | apply Kd.R_drewN | apply Kd.R_drew)); exact Kd.R_mono HO390.out (fun _ hk => ⟨hk.1.1, ⟨hk.1.2.1, ⟨hk.1.2.2, hk.2⟩⟩⟩))⟩; have n4_ : Aside0 (Kd.R (Kd.int .u8) 5 w83 w.heap.size (fun k_ => some k_ ≠ (.slice Ao70 t370.length co70 : Value).ownBlock ∧ some k_ ≠ (.slice Ao74 t376.length co74 : Value).ownBlock ∧ some k_ ≠ (.slice Ao78 y382.length co78 : Value).ownBlock ∧ some k_ ≠ (.slice Ao81 y388.length co81 : Value).ownBlock) (.slice Ao84 y394.length co84) y394) := ⟨by rw [← hq_]; exact (by (with_reducible repeat (first | apply Kd.R_alloc | apply Kd.R_drewN | apply Kd.R_drew)); exact HO396.out)⟩; have n5_ : Aside0 (w83.heap[gb366]? = some (.cells #[.int .i64 a2_0, .int .i64 a2_1, .slice A2_2 l2_2.length c2_2] 74 (0, 0))) := ⟨by rw [← hq_]; exact (by (with_reducible repeat (first | refine blk_drewN ?_ _ | refine blk_drew ?_ | refine blk_alloc ?_ _)); exact BK366.out)⟩; have n6_ : Aside0 (Below w.heap.size w w83) := ⟨by rw [← hq_]; exact (by repeat (first | (with_reducible first | exact HB.out | apply below_alloc | apply pw_below_drewN | apply below_drew1 | refine below_set ?_ GE366.out) | exact HB.out))⟩; clear HO372 HO378 HO384 HO390 HO396 BK366 HB hq_; have HO372 := n0_; have HO378 := n1_; have HO384 := n2_; have HO390 := n3_; have HO396 := n4_; have BK366 := n5_; have HB := n6_; clear n0_ n1_ n2_ n3_ n4_ n5_ n6_))) | ((with_reducible refine gate_callee (f := 43) rfl ?_); refine goesL_ (some 66) rfl rfl Try.func43 (by kernel_rfl) rfl #[.int .i64 t397] rfl (by (try simp only [List.map_toArray, List.map_cons, List.map_nil]); first | done | rfl | (simp only [List.length_drop, List.length_take]; rfl)) ?_; (with_reducible refine (castellanref1_Put16.calls t397 t405 _ A59.out).mono ?_); rintro e w85 ⟨v406, rfl, ho0, hb⟩; refine ⟨_, rfl, ?_⟩; have n0_ := Aside0.mk (Kd.R_elder' (by (with_reducible repeat (first | apply Kd.R_alloc | apply Kd.R_drewN | apply Kd.R_drew)); exact HO372.out) (Kd.R_base ho0) hb); have n1_ := Aside0.mk (Kd.R_elder' (by (with_reducible repeat (first | apply Kd.R_alloc | apply Kd.R_drewN | apply Kd.R_drew)); exact HO378.out) (Kd.R_base ho0) hb); have n2_ := Aside0.mk (Kd.R_elder' (by (with_reducible repeat (first | apply Kd.R_alloc | apply Kd.R_drewN | apply Kd.R_drew)); exact HO384.out) (Kd.R_base ho0) hb); have n3_ := Aside0.mk (Kd.R_elder' (by (with_reducible repeat (first | apply Kd.R_alloc | apply Kd.R_drewN | apply Kd.R_drew)); exact HO390.out) (Kd.R_base ho0) hb); have n4_ := Aside0.mk (Kd.R_elder' (by (with_reducible repeat (first | apply Kd.R_alloc | apply Kd.R_drewN | apply Kd.R_drew)); exact HO396.out) (Kd.R_base ho0) hb); have n5_ := Aside0.mk (Kd.R_lower (Kd.R_new' (Kd.R_new' (Kd.R_new' (Kd.R_new' (Kd.R_new' ho0 (Kd.R_lt (by (with_reducible repeat (first | apply Kd.R_alloc | apply Kd.R_drewN | apply Kd.R_drew)); exact HO372.out))) (Kd.R_lt (by (with_reducible repeat (first | apply Kd.R_alloc | apply Kd.R_drewN | apply Kd.R_drew)); exact HO378.out))) (Kd.R_lt (by (with_reducible repeat (first | apply Kd.R_alloc | apply Kd.R_drewN | apply Kd.R_drew)); exact HO384.out))) (Kd.R_lt (by (with_reducible repeat (first | apply Kd.R_alloc | apply Kd.R_drewN | apply Kd.R_drew)); exact HO390.out))) (Kd.R_lt (by (with_reducible repeat (first | apply Kd.R_alloc | apply Kd.R_drewN | apply Kd.R_drew)); exact HO396.out))) (below_size (by repeat (first | (with_reducible first | exact HB.out | apply below_alloc | apply pw_below_drewN | apply below_drew1 | refine below_set ?_ GE366.out) | exact HB.out)))); have n6_ := Aside0.mk (blk_below (g := gb366) (o := .cells #[.int .i64 a2_0, .int .i64 a2_1, .slice A2_2 l2_2.length c2_2] 74 (0, 0)) (by (with_reducible repeat (first | refine blk_drewN ?_ _ | refine blk_drew ?_ | refine blk_alloc ?_ _)); exact BK366.out) hb); have n7_ := Aside0.mk (below_step (by repeat (first | (with_reducible first | exact HB.out | apply below_alloc | apply pw_below_drewN | apply below_drew1 | refine below_set ?_ GE366.out) | exact HB.out)) hb); clear HO372; clear HO378; clear HO384; clear HO390; clear HO396; clear BK366; clear HB; have HO372 := n0_; have HO378 := n1_; have HO384 := n2_; have HO390 := n3_; have HO396 := n4_; have HO407 := n5_; have BK366 := n6_; have HB := n7_; clear n0_ n1_ n2_ n3_ n4_ n5_ n6_ n7_; (try clear hb); (try clear hb2); (try clear hk); (try clear hi); (try clear ho0)))
                            have n0_ := Aside0.mk (Kd.R_drew HO372.out)
                            have n1_ := Aside0.mk (Kd.R_drew HO378.out)
                            have n2_ := Aside0.mk (Kd.R_drew HO384.out)
                            have n3_ := Aside0.mk (Kd.R_drew HO390.out)
                            have n4_ := Aside0.mk (Kd.R_drew HO396.out)
                            have n5_ := Aside0.mk (Kd.R_drew HO407.out)
                            have n6_ := Aside0.mk (blk_drew BK366.out)
                            have n7_ := Aside0.mk (below_drew1 HB.out)
                            clear HO372
                            clear HO378
                            clear HO384
                            clear HO390
                            clear HO396
                            clear HO407
                            clear BK366
                            clear HB
                            have HO372 := n0_
                            have HO378 := n1_
                            have HO384 := n2_
                            have HO390 := n3_
                            have HO396 := n4_
                            have HO407 := n5_
                            have BK366 := n6_
                            have HB := n7_
                            clear n0_ n1_ n2_ n3_ n4_ n5_ n6_ n7_
                            obtain ⟨Ao87, co87, eo87⟩ := Kd.R_slice HO407.out
                            (first | subst eo87 | (injection eo87 with f1_ f2_ f3_; have f4_ := f1_.symm; have f5_ := f3_.symm; clear f1_ f2_ f3_; subst f4_; subst f5_))
                            have p408 : 0 ≤ (0 : Int) := (by omega)
                            have q408 : 0 < (t405.length : Int) := of_decide_eq_true (by first | (with_reducible assumption) | assumption)
                            obtain ⟨ad408, e408, hx408_0⟩ := Kd.at_int (Kd.R_reads' HO407.out).2.2 0 p408 q408
                            cases e408
                            have qi408 : (0 < t405.length) = True := eq_true (by omega)
                            (try rw [show ((0 : Int)).toNat = 0 from rfl] at hx408_0)
                            (try rw [Addr.add_zero'] at hx408_0)
                            replace p408 := eq_true p408
                            replace q408 := eq_true q408
                            have p409 : 0 ≤ (1 : Int) := (by omega)
                            have q409 : 1 < (t405.length : Int) := of_decide_eq_true (by first | (with_reducible assumption) | assumption)
                            obtain ⟨ad409, e409, hx409_0⟩ := Kd.at_int (Kd.R_reads' HO407.out).2.2 1 p409 q409
                            obtain rfl : ad408 = ad409 := (by injection e409)
                            (try simp only [show (1 : Int).toNat = 1 from rfl, Nat.reduceMul, Nat.reduceEqDiff, Go.Addr.add, ↓reduceIte] at hx409_0)
                            have qi409 : (1 < t405.length) = True := eq_true (by omega)
                            (try rw [show ((1 : Int)).toNat = 1 from rfl] at hx409_0)
                            replace p409 := eq_true p409
                            replace q409 := eq_true q409
                            have p63 : 0 ≤ (6 : Int) := (by omega)
                            have q63 : (6 : Int) < ((y388.length : Int) : Int) := of_decide_eq_true (by first | (with_reducible assumption) | assumption)
                            have qi63 : (6 < y388.length) = True := eq_true (by omega)
                            obtain ⟨go63, co63, eo63, gb63, gl63, cl63, HG63⟩ := Kd.R_form HO390.out (by omega)
                            (first | cases eo63 | (injection eo63 with ea_ en_ ec_; (first | subst ea_ | (injection ea_ with ea_; subst ea_)); subst ec_; clear en_))
                            have GB63 := Aside0.mk gb63
                            have GG63 := Aside0.mk HG63
                            clear gb63 gl63 HG63
                            obtain ⟨hx63_0, hf63_0⟩ := Kd.R_celln 0 HO390.out (6 : Int) p63 q63
                            (try rw [show ((6 : Int)).toNat = 6 from rfl] at hx63_0)
                            (try simp only [Nat.reduceMul, Nat.zero_mul, Nat.zero_add, Nat.reduceAdd] at hx63_0)
                            (try rw [show ((6 : Int)).toNat = 6 from rfl] at hf63_0)
                            (try simp only [Nat.reduceMul, Nat.zero_mul, Nat.zero_add, Nat.reduceAdd] at hf63_0)
                            replace p63 := eq_true p63
                            replace q63 := eq_true q63
                            have HP88 := Kd.R_putn HO390.out (6 : Int) (rd t405 0)
                            rw [← Ny410.out] at HP88
                            have HQ88 := Aside0.mk HP88
                            clear HP88
                            have p65 : 0 ≤ (7 : Int) := (by omega)
                            have q65 : (7 : Int) < ((y388.length : Int) : Int) := of_decide_eq_true (by first | (with_reducible assumption) | assumption)
                            have qi65 : (7 < y388.length) = True := eq_true (by omega)
                            obtain ⟨hx65_0, hf65_0⟩ := Kd.R_celln 0 HQ88.out (7 : Int) p65 q65
                            obtain ⟨hx89_0, hf89_0⟩ := Kd.R_celln 0 HO390.out (7 : Int) p65 q65
                            (try rw [show ((7 : Int)).toNat = 7 from rfl] at hx89_0)
                            (try simp only [Nat.reduceMul, Nat.zero_mul, Nat.zero_add, Nat.reduceAdd] at hx89_0)
                            (try rw [show ((7 : Int)).toNat = 7 from rfl] at hf89_0)
                            (try simp only [Nat.reduceMul, Nat.zero_mul, Nat.zero_add, Nat.reduceAdd] at hf89_0)
                            (try rw [show ((7 : Int)).toNat = 7 from rfl] at hx65_0)
                            (try simp only [Nat.reduceMul, Nat.zero_mul, Nat.zero_add, Nat.reduceAdd] at hx65_0)
                            (try rw [show ((7 : Int)).toNat = 7 from rfl] at hf65_0)
                            (try simp only [Nat.reduceMul, Nat.zero_mul, Nat.zero_add, Nat.reduceAdd] at hf65_0)
                            replace p65 := eq_true p65
                            replace q65 := eq_true q65
                            have HP90 := Kd.R_putn HQ88.out (7 : Int) (rd t405 1)
                            rw [← Ny411.out] at HP90
                            have HQ90 := Aside0.mk HP90
                            clear HP90
                            refine start_ (n := 12) (S := fun w' => w'.cell? ad408 = some (.int .u8 (rd t405 0)) ∧ w'.cell? ⟨ad408.block, ad408.off + 1, none⟩ = some (.int .u8 (rd t405 1))) (ds := [9, 11]) #[false, false, false, false, false, false, false, false, false, false, false, false] (by kernel_rfl) rfl rfl ⟨hx408_0, hx409_0⟩ (fun hHeld => ?_); refine with_tabW castellanref6_Build.tab10 castellanref6_Build.bits10 (fun HT_ HW_ => ?_)
                            generalize w85.drew = w86 at HO372 HO378 HO384 HO390 HO396 HO407 BK366 HB GG63 HQ88 HQ90 hf63_0 hf65_0 hf89_0 hx408_0 hx409_0 hx63_0 hx65_0 hx89_0 hHeld ⊢
                            refine pure_ (i := 0) (N := some 67) (v := ?_) (a' := ?_) #[true, false, false, false, false, false, false, false, false, false, false, false] rfl rfl (any_of HT_.out (by kernel_rfl)) (fun _ _ _ h => h) (Or.inl ⟨by rfl, ?_⟩) ?_ ?_
                            rotate_left
                            · intro w'
                              go_simp
                              with_reducible rfl
                            rotate_left
                            · simp only [Act.put, List.setIfInBounds_toArray, List.set_cons_zero, List.set_cons_succ, i64_w, i32_w]
                              rfl
                            refine pure_ (i := 1) (N := some 68) (v := ?_) (a' := ?_) #[true, true, false, false, false, false, false, false, false, false, false, false] rfl rfl (any_of HT_.out (by kernel_rfl)) (fun _ _ _ h => h) (Or.inl ⟨by rfl, ?_⟩) ?_ ?_
                            rotate_left
                            · intro w'
                              go_simp
                              with_reducible rfl
                            rotate_left
                            · simp only [Act.put, List.setIfInBounds_toArray, List.set_cons_zero, List.set_cons_succ, i64_w, i32_w]
                              rfl
                            refine pure_ (i := 2) (N := some 69) (v := ?_) (a' := ?_) #[true, true, true, false, false, false, false, false, false, false, false, false] rfl rfl (any_of HT_.out (by kernel_rfl)) (fun _ _ _ h => h) (Or.inl ⟨by rfl, ?_⟩) ?_ ?_
                            rotate_left
                            · intro w'
                              go_simp
                              with_reducible rfl
                            rotate_left
                            · simp only [Act.put, List.setIfInBounds_toArray, List.set_cons_zero, List.set_cons_succ, i64_w, i32_w]
                              rfl
                            refine pure_ (i := 3) (N := some 70) (v := ?_) (a' := ?_) #[true, true, true, true, false, false, false, false, false, false, false, false] rfl rfl (any_of HT_.out (by kernel_rfl)) (fun _ _ _ h => h) (Or.inl ⟨by rfl, ?_⟩) ?_ ?_
                            rotate_left
                            · intro w'
                              go_simp
                              with_reducible rfl
                            rotate_left
                            · simp only [Act.put, List.setIfInBounds_toArray, List.set_cons_zero, List.set_cons_succ, i64_w, i32_w]
                              rfl
                            refine pure_ (i := 5) (N := some 72) (v := ?_) (a' := ?_) #[true, true, true, true, false, true, false, false, false, false, false, false] rfl rfl (any_of HT_.out (by kernel_rfl)) (fun _ _ _ h => h) (Or.inl ⟨by rfl, ?_⟩) ?_ ?_
                            rotate_left
                            · intro w'
                              go_simp
                              with_reducible rfl
                            rotate_left
                            · simp only [Act.put, List.setIfInBounds_toArray, List.set_cons_zero, List.set_cons_succ, i64_w, i32_w]
                              rfl
                            refine pure_ (i := 6) (N := some 73) (v := ?_) (a' := ?_) #[true, true, true, true, false, true, true, false, false, false, false, false] rfl rfl (any_of HT_.out (by kernel_rfl)) (fun _ _ _ h => h) (Or.inl ⟨by rfl, ?_⟩) ?_ ?_
                            rotate_left
                            · intro w'
                              go_simp
                              with_reducible rfl
                            rotate_left
                            · simp only [Act.put, List.setIfInBounds_toArray, List.set_cons_zero, List.set_cons_succ, i64_w, i32_w]
                              rfl
                            refine take_ (i := 4) (N := some 71) (v := ?_) (a' := ?_) #[true, true, true, true, true, true, true, false, false, false, false, false] rfl rfl (take_ofW HT_.out HW_.out (by kernel_rfl)) (fun _ _ _ h => h) (Or.inl ⟨by rfl, ?_⟩) hHeld ?_ ?_
                            rotate_left
                            · rintro w' ⟨s0, s1⟩
                              go_simp
                              with_reducible rfl
                            rotate_left
                            · simp only [Act.put, List.setIfInBounds_toArray, List.set_cons_zero, List.set_cons_succ, i64_w, i32_w]
                              rfl
                            refine take_ (i := 7) (N := some 74) (v := ?_) (a' := ?_) #[true, true, true, true, true, true, true, true, false, false, false, false] rfl rfl (take_ofW HT_.out HW_.out (by kernel_rfl)) (fun _ _ _ h => h) (Or.inl ⟨by rfl, ?_⟩) hHeld ?_ ?_
                            rotate_left
                            · rintro w' ⟨s0, s1⟩
                              go_simp
                              with_reducible rfl
                            rotate_left
                            · simp only [Act.put, List.setIfInBounds_toArray, List.set_cons_zero, List.set_cons_succ, i64_w, i32_w]
                              rfl
                            refine pure_ (i := 8) (N := some 75) (v := ?_) (a' := ?_) #[true, true, true, true, true, true, true, true, true, false, false, false] rfl rfl (any_of HT_.out (by kernel_rfl)) (fun _ _ _ h => h) (Or.inl ⟨by rfl, ?_⟩) ?_ ?_
                            rotate_left
                            · intro w'
                              go_simp
                              with_reducible rfl
                            rotate_left
                            · simp only [Act.put, List.setIfInBounds_toArray, List.set_cons_zero, List.set_cons_succ, i64_w, i32_w]
                              rfl
                            refine last_ (i := 9) (N := none) #[true, true, true, true, true, true, true, true, true, true, false, false] rfl rfl (one_of HT_.out (by kernel_rfl)) (by decide) (fun K hK => ?_)
                            refine skip_ (w1 := ?_) (by rfl) rfl ?_ ?_
                            rotate_left
                            · go_simp
                              rfl
                            refine hK.out _ _ ?_
                            clear hK K
                            refine pure_ (i := 10) (N := some 76) (v := ?_) (a' := ?_) #[true, true, true, true, true, true, true, true, true, true, true, false] rfl rfl (any_of HT_.out (by kernel_rfl)) (fun _ _ _ h => h) (Or.inl ⟨by rfl, ?_⟩) ?_ ?_
                            rotate_left
                            · intro w'
                              go_simp
                              with_reducible rfl
                            rotate_left
                            · simp only [Act.put, List.setIfInBounds_toArray, List.set_cons_zero, List.set_cons_succ, i64_w, i32_w]
                              rfl
                            refine last_ (i := 11) (N := none) #[true, true, true, true, true, true, true, true, true, true, true, true] rfl rfl (one_of HT_.out (by kernel_rfl)) (by decide) (fun K hK => ?_)
                            refine skip_ (w1 := ?_) (by rfl) rfl ?_ ?_
                            rotate_left
                            · go_simp
                              rfl
                            refine hK.out _ _ ?_
                            clear hK K
                            refine done_ (done_of HT_.out (by kernel_rfl)) ?_
                            try go_wp2
                            go_ret2
                            exact ⟨_, by first | rfl | (simp [errW_none, errW_some] <;> rfl) | (simp [*, errW_none, errW_some] <;> rfl), by (with_reducible repeat (first | apply Kd.R_alloc | apply Kd.R_drewN | apply Kd.R_drew)); exact Kd.R_mono HQ90.out (fun _ hk => trivial), by repeat (first | (with_reducible first | exact HB.out | apply below_alloc | apply pw_below_drewN | apply below_drew1 | refine below_set ?_ GB63.out | refine below_set ?_ GB63.out | refine below_set ?_ GE366.out) | exact HB.out)⟩
                          · rw [if_neg c64] at H
                            exact absurd H (by simp)
                        · rw [if_neg c62] at H
                          exact absurd H (by simp)
                      · rw [if_neg c61] at H
                        exact absurd H (by simp)
                    · rw [if_neg c60] at H
                      exact absurd H (by simp)
                · rw [if_neg c24] at H
                  exact absurd H (by simp)
              · rw [if_neg c22] at H
                exact absurd H (by simp)
            · rw [if_neg c21] at H
              exact absurd H (by simp)
          · rw [if_neg c20] at H
            exact absurd H (by simp)
        · rw [if_neg c18] at H
          exact absurd H (by simp)

end Go.Proofs.Ytkdibloahkhgoaa.QPackFirst
