-- written by myprint.py, a program of this session's over the kit's printer
import Derived.Test.YtkdibloahkhgoaaQReplyPacketsx0
import Derived.Test.YtkdibloahkhgoaaQReplyPacketsx3
import Derived.Test.YtkdibloahkhgoaaQReplyPacketsx4
import Derived.Test.YtkdibloahkhgoaaQReplyPacketsx5
namespace Go.Proofs.Ytkdibloahkhgoaa.QReplyPackets
open Go.RowKit Go.Proofs.YtkdibloahkhgoaaW.PrintWords Go.Proofs.YtkdibloahkhgoaaW.PrintLast Go.Proofs.YtkdibloahkhgoaaW.PrintMore
attribute [local go_sem] max2_int min2_int max_two min_two max_three min_three max_four min_four   -- for this text's walks alone
set_option linter.unusedVariables false
set_option linter.unusedSimpArgs false

/-! ### icmp_Build: function 47 -/
def icmp_Build.j0 : Nat → Bool → Int → Int → Int → List Int → Option (List Int × Int)
 | 0, _, _, _, _, _ => none
 | k + 1, x28, x234000, x234001, x234002, x234003 => if x28 = true then (some (([] : List Int), 1)) else ((word_Put32.f x234002).bind fun t237 => ((word_Join.f k (([(([(x234000) % 256, (x234001) % 256, 0, 0] : List Int)), t237, x234003] : List (List Int)))).bind fun t243 => ((sum_Of.f k (([t243] : List (List Int)))).bind fun t249 => ((word_Put16.f t249).bind fun t250 => (if 0 < (t250.length : Int) then (if 2 < (t243.length : Int) then (if 1 < (t250.length : Int) then (if 3 < (t243.length : Int) then (some (((t243.set (2 : Int).toNat (rd t250 0)).set (3 : Int).toNat (rd t250 1)), 0)) else (none)) else (none)) else (none)) else (none))))))
def icmp_Build.f (k : Nat) (a0_0 : Int) (a0_1 : Int) (a0_2 : Int) (l0_3 : List Int) : Option (List Int × Int) := if a0_0 < 0 then (icmp_Build.j0 k true a0_0 a0_1 a0_2 l0_3) else (if a0_0 > 255 then (icmp_Build.j0 k true a0_0 a0_1 a0_2 l0_3) else (if a0_1 < 0 then (icmp_Build.j0 k true a0_0 a0_1 a0_2 l0_3) else (if a0_1 > 255 then (icmp_Build.j0 k true a0_0 a0_1 a0_2 l0_3) else (icmp_Build.j0 k (decide ((l0_3.length : Int) > 65000)) a0_0 a0_1 a0_2 l0_3))))
theorem icmp_Build.mono_l : ∀ k, (∀ y0 y1 y2 y3 y4, LeO (icmp_Build.j0 k y0 y1 y2 y3 y4) (icmp_Build.j0 (k + 1) y0 y1 y2 y3 y4))
 | 0 => fun _ _ _ _ _ r h => by simp [icmp_Build.j0] at h
 | k + 1 => by
  have ih0 := icmp_Build.mono_l k
  ·intro y0 y1 y2 y3 y4
   unfold icmp_Build.j0
   repeat' first
   | (with_reducible exact ih0 _ _ _ _ _)
   | (with_reducible exact sum_Of.mono _ _)
   | (with_reducible exact word_Join.mono _ _)
   | (with_reducible exact LeO.refl _)
   | (with_reducible exact LeO.none _)
   | (with_reducible refine LeO.ite ?_ ?_)
   | (with_reducible refine LeO.bind ?_ (fun _ => ?_))
   | exact ih0 _ _ _ _ _
   | exact sum_Of.mono _ _
   | exact word_Join.mono _ _
   | exact LeO.none _
   | refine LeO.ite ?_ ?_
   | refine LeO.bind ?_ (fun _ => ?_)
theorem icmp_Build.mono : ∀ a0 a1 a2 a3 k, LeO (icmp_Build.f k a0 a1 a2 a3) (icmp_Build.f (k + 1) a0 a1 a2 a3) := by
 intro a0 a1 a2 a3 k
 have ih0 := icmp_Build.mono_l k
 unfold icmp_Build.f
 repeat' first
   | (with_reducible exact ih0 _ _ _ _ _)
   | (with_reducible exact sum_Of.mono _ _)
   | (with_reducible exact word_Join.mono _ _)
   | (with_reducible exact LeO.refl _)
   | (with_reducible exact LeO.none _)
   | (with_reducible refine LeO.ite ?_ ?_)
   | (with_reducible refine LeO.bind ?_ (fun _ => ?_))
   | exact ih0 _ _ _ _ _
   | exact sum_Of.mono _ _
   | exact word_Join.mono _ _
   | exact LeO.none _
   | refine LeO.ite ?_ ?_
   | refine LeO.bind ?_ (fun _ => ?_)
def icmp_Build.T3 : Bool × List (List Nat × List Nat) := (true, [([], []), ([0], [0]), ([1], [1]), ([], []), ([3], [3]), ([4], [4]), ([2, 5], [2, 5]), ([], []), ([7], [7]), ([8], [8]), ([], []), ([10], [10]), ([6, 9, 11], [6, 9, 11]), ([12, 9], [12]), ([13, 13, 0, 1, 2, 3, 4, 5, 6, 7, 8, 9, 10, 11, 12, 13], [13])])
def icmp_Build.B3 : List Nat := [0, 1, 3, 0, 8, 24, 63, 0, 128, 384, 0, 1024, 4095, 8191, 16383]
theorem icmp_Build.tab3 : rtab .any (opsOf Try.f47 3) = icmp_Build.T3 := by kernel_rfl
theorem icmp_Build.bits3 : waitsOk icmp_Build.T3.2 icmp_Build.B3 = true := by kernel_rfl
set_option maxHeartbeats 8000000 in
set_option maxRecDepth 100000 in
theorem icmp_Build.calls (k : Nat) (a0_0 : Int) (a0_1 : Int) (a0_2 : Int) (P0_3_ : Nat → Prop) (A0_3 : Option Addr) (c0_3 : Nat) (l0_3 : List Int) (r1 : List Int) (r2 : Int) (w : World) (hs0_3 : Kd.V (Kd.int .u8) 5 w w.heap.size (fun k_ => P0_3_ k_) (.slice A0_3 l0_3.length c0_3) l0_3) (h : icmp_Build.f k a0_0 a0_1 a0_2 l0_3 = some (r1, r2)) :
  Calls Try.prog 47 #[.agg #[.int .i64 a0_0, .int .i64 a0_1, .int .u32 a0_2, .slice A0_3 l0_3.length c0_3]] w fun e w' => ∃ v0_ : Value, e = .returned (.tuple #[v0_, .int .i64 r2]) ∧ Kd.R (Kd.int .u8) 5 w' w.heap.size (fun k_ => (w.heap.size ≤ k_)) v0_ r1 ∧ Below w.heap.size w w' := by
 have hu50 := Try.underlying50
 have HO0_3 := Aside0.mk (show Kd.V (Kd.int .u8) 5 w w.heap.size (fun k_ => (P0_3_ k_ ∨ w.heap.size ≤ k_)) (.slice A0_3 l0_3.length c0_3) l0_3 from Kd.V_mono hs0_3 (fun k_ hk => by first | exact .inl hk | exact okw hk))
 have HB := Aside0.mk (Below.refl w.heap.size w)
 have H : (if a0_0 < 0 then (icmp_Build.j0 k true a0_0 a0_1 a0_2 l0_3) else (if a0_0 > 255 then (icmp_Build.j0 k true a0_0 a0_1 a0_2 l0_3) else (if a0_1 < 0 then (icmp_Build.j0 k true a0_0 a0_1 a0_2 l0_3) else (if a0_1 > 255 then (icmp_Build.j0 k true a0_0 a0_1 a0_2 l0_3) else (icmp_Build.j0 k (decide ((l0_3.length : Int) > 65000)) a0_0 a0_1 a0_2 l0_3))))) = some (r1, r2) := h
 clear h
 have HC2 := Aside0.mk H
 clear H
 go_enter Try.func47, Try.ntmps47
 go_upto_region 1 with (first | ((with_reducible refine gate_dst (N := 1) rfl ?_); (try (refine gate_guard (by rfl) ?_; dsimp only)); refine box_event ?hg (N := 1) ?hd (cs := #[.int .i64 a0_0, .int .i64 a0_1, .int .u32 a0_2, .slice A0_3 l0_3.length c0_3]) (t := 50) ?hr ?_; (case hd => rfl); (case hg => rfl); (case hr => first | (go_simp; done) | (go_simp; rfl)); intro gb233 hg w3 hbox hb; have n0_ := Aside0.mk (Kd.V_below (Kd.V_elderB (by (with_reducible repeat (first | apply Kd.V_alloc | apply Kd.V_drewN | apply Kd.V_drew)); exact HO0_3.out) gb233 (Nat.le_of_eq hg.symm)) hb); have n1_ := Aside0.mk (below_step (by repeat (first | (with_reducible first | exact HB.out | apply below_alloc | apply pw_below_drewN | apply below_drew1) | exact HB.out)) hb); have n2_ := Aside0.mk (hbox); have n3_ := Aside0.mk ((by rw [hg]; exact (below_size (by repeat (first | (with_reducible first | exact HB.out | apply below_alloc | apply pw_below_drewN | apply below_drew1) | exact HB.out))) : w.heap.size ≤ gb233)); have n4_ := Aside0.mk ((by rw [hg]; exact (below_size (by repeat (first | (with_reducible first | exact HB.out | apply below_alloc | apply pw_below_drewN | apply below_drew1) | exact HB.out))) : w.heap.size ≤ gb233)); clear HO0_3; clear HB; have HO0_3 := n0_; have HB := n1_; have BK233 := n2_; have GW233 := n3_; have GE233 := n4_; clear n0_ n1_ n2_ n3_ n4_; clear hb hbox hg))
 (try simp only [Act.put, List.setIfInBounds_toArray, List.set_cons_zero, List.set_cons_succ])
 go_cut [28] (fun v28 wc => ∃ (kq : Nat) (x28_1 : Bool), v28 = .bool x28_1 ∧ Aside0 (icmp_Build.j0 kq x28_1 a0_0 a0_1 a0_2 l0_3 = some (r1, r2)) ∧ Aside0 (kq ≤ k) ∧ Aside0 (Kd.V (Kd.int .u8) 5 wc w.heap.size (fun k_ => (P0_3_ k_ ∨ w.heap.size ≤ k_) ∧ k_ ≠ gb233) (.slice A0_3 l0_3.length c0_3) l0_3) ∧ Aside0 (wc.heap[gb233]? = some (.cells #[.int .i64 a0_0, .int .i64 a0_1, .int .u32 a0_2, (.slice A0_3 l0_3.length c0_3)] 50 (0, 0))) ∧ Aside0 (Below w.heap.size w wc))
 case first =>
  have H := HC2.out
  clear HC2
  by_cases c4 : a0_0 < 0
  ·rw [if_pos c4] at H
   have c4b0 : decide (a0_0 < 0) = true := decide_eq_true c4
   clear c4
   (first | rw [c4b0] | (simp only [i64_w, i32_w]; rw [c4b0]) | skip)
   have H' := Aside0.mk H
   clear H
   have hcz5 := fun j => blk_cell BK233.out j
   have hfz5 := fun j => blk_frozen BK233.out j
   go_wp2
   go_meet
   case rel => exact ⟨_, (true), (by first | rfl | (simp; done) | (simp [*]; done)), H', ⟨by first | omega | exact Nat.le_refl _⟩, ⟨by (with_reducible repeat (first | apply Kd.V_alloc | apply Kd.V_drewN | apply Kd.V_drew)); exact HO0_3.out⟩, ⟨by (with_reducible repeat (first | refine blk_drewN ?_ _ | refine blk_drew ?_ | refine blk_alloc ?_ _)); exact BK233.out⟩, ⟨by repeat (first | (with_reducible first | exact HB.out | apply below_alloc | apply pw_below_drewN | apply below_drew1 | refine below_set ?_ GE233.out) | exact HB.out)⟩⟩
  ·rw [if_neg c4] at H
   have c4b0 : decide (a0_0 < 0) = false := decide_eq_false c4
   clear c4
   (first | rw [c4b0] | (simp only [i64_w, i32_w]; rw [c4b0]) | skip)
   by_cases c6 : a0_0 > 255
   ·rw [if_pos c6] at H
    have c6b0 : decide (255 < a0_0) = true := decide_eq_true c6
    clear c6
    have H' := Aside0.mk H
    clear H
    have hcz7 := fun j => blk_cell BK233.out j
    have hfz7 := fun j => blk_frozen BK233.out j
    go_wp2
    go_meet
    case rel => exact ⟨_, (true), (by first | rfl | (simp; done) | (simp [*]; done)), H', ⟨by first | omega | exact Nat.le_refl _⟩, ⟨by (with_reducible repeat (first | apply Kd.V_alloc | apply Kd.V_drewN | apply Kd.V_drew)); exact HO0_3.out⟩, ⟨by (with_reducible repeat (first | refine blk_drewN ?_ _ | refine blk_drew ?_ | refine blk_alloc ?_ _)); exact BK233.out⟩, ⟨by repeat (first | (with_reducible first | exact HB.out | apply below_alloc | apply pw_below_drewN | apply below_drew1 | refine below_set ?_ GE233.out) | exact HB.out)⟩⟩
   ·rw [if_neg c6] at H
    have c6b0 : decide (255 < a0_0) = false := decide_eq_false c6
    clear c6
    by_cases c8 : a0_1 < 0
    ·rw [if_pos c8] at H
     have c8b0 : decide (a0_1 < 0) = true := decide_eq_true c8
     clear c8
     have H' := Aside0.mk H
     clear H
     have hcz9 := fun j => blk_cell BK233.out j
     have hfz9 := fun j => blk_frozen BK233.out j
     go_wp2
     go_meet
     case rel => exact ⟨_, (true), (by first | rfl | (simp; done) | (simp [*]; done)), H', ⟨by first | omega | exact Nat.le_refl _⟩, ⟨by (with_reducible repeat (first | apply Kd.V_alloc | apply Kd.V_drewN | apply Kd.V_drew)); exact HO0_3.out⟩, ⟨by (with_reducible repeat (first | refine blk_drewN ?_ _ | refine blk_drew ?_ | refine blk_alloc ?_ _)); exact BK233.out⟩, ⟨by repeat (first | (with_reducible first | exact HB.out | apply below_alloc | apply pw_below_drewN | apply below_drew1 | refine below_set ?_ GE233.out) | exact HB.out)⟩⟩
    ·rw [if_neg c8] at H
     have c8b0 : decide (a0_1 < 0) = false := decide_eq_false c8
     clear c8
     by_cases c10 : a0_1 > 255
     ·rw [if_pos c10] at H
      have c10b0 : decide (255 < a0_1) = true := decide_eq_true c10
      clear c10
      have H' := Aside0.mk H
      clear H
      have hcz11 := fun j => blk_cell BK233.out j
      have hfz11 := fun j => blk_frozen BK233.out j
      go_wp2
      go_meet
      case rel => exact ⟨_, (true), (by first | rfl | (simp; done) | (simp [*]; done)), H', ⟨by first | omega | exact Nat.le_refl _⟩, ⟨by (with_reducible repeat (first | apply Kd.V_alloc | apply Kd.V_drewN | apply Kd.V_drew)); exact HO0_3.out⟩, ⟨by (with_reducible repeat (first | refine blk_drewN ?_ _ | refine blk_drew ?_ | refine blk_alloc ?_ _)); exact BK233.out⟩, ⟨by repeat (first | (with_reducible first | exact HB.out | apply below_alloc | apply pw_below_drewN | apply below_drew1 | refine below_set ?_ GE233.out) | exact HB.out)⟩⟩
     ·rw [if_neg c10] at H
      have c10b0 : decide (255 < a0_1) = false := decide_eq_false c10
      clear c10
      have H' := Aside0.mk H
      clear H
      have hcz12 := fun j => blk_cell BK233.out j
      have hfz12 := fun j => blk_frozen BK233.out j
      go_wp2
      go_meet
      case rel => exact ⟨_, (decide ((l0_3.length : Int) > 65000)), (by first | rfl | (simp; done) | (simp [*]; done)), H', ⟨by first | omega | exact Nat.le_refl _⟩, ⟨by (with_reducible repeat (first | apply Kd.V_alloc | apply Kd.V_drewN | apply Kd.V_drew)); exact HO0_3.out⟩, ⟨by (with_reducible repeat (first | refine blk_drewN ?_ _ | refine blk_drew ?_ | refine blk_alloc ?_ _)); exact BK233.out⟩, ⟨by repeat (first | (with_reducible first | exact HB.out | apply below_alloc | apply pw_below_drewN | apply below_drew1 | refine below_set ?_ GE233.out) | exact HB.out)⟩⟩
 case rest =>
  clear HC2
  try clear c1
  try clear p2
  try clear c4
  try clear c4b0
  try clear c6
  try clear c6b0
  try clear c8
  try clear c8b0
  try clear c10
  try clear c10b0
  try clear hcz11
  try clear hcz12
  try clear hcz5
  try clear hcz7
  try clear hcz9
  try clear hfz11
  try clear hfz12
  try clear hfz5
  try clear hfz7
  try clear hfz9
  obtain ⟨kq, x28_1, rfl, HA, HJ1, HO_234003, BK233, HB⟩ := hcut
  cases kq with
  | zero => exact absurd HA.out (by simp [icmp_Build.j0])
  | succ kj1 =>
   have H := HA.out
   clear HA
   simp only [icmp_Build.j0] at H
   by_cases c13 : x28_1 = true
   ·subst c13
    have H1 : (some (([] : List Int), 1)) = some (r1, r2) := by rw [if_pos rfl] at H; exact H
    clear H
    have H := H1
    clear H1
    simp only [Option.some.injEq, Prod.mk.injEq] at H
    obtain ⟨rfl, rfl⟩ := H
    go_wp2
    go_ret2
    exact ⟨_, by first | rfl | (simp [errW_none, errW_some] <;> rfl) | (simp [*, errW_none, errW_some] <;> rfl), by first | exact Kd.R_nil _ _ _ _ _ | exact Kd.N_nil _ _ _ _ _ | exact Kd.V_nil _ _ _ _ _ | exact Kd.Q_nil _ _ _ _ _ | exact Kd.S_nil _ _ _ _ _, by repeat (first | (with_reducible first | exact HB.out | apply below_alloc | apply pw_below_drewN | apply below_drew1 | refine below_set ?_ GE233.out) | exact HB.out)⟩
   ·replace c13 := Bool.eq_false_iff.mpr c13
    subst c13
    have H1 : ((word_Put32.f a0_2).bind fun t237 => ((word_Join.f kj1 (([(([(a0_0) % 256, (a0_1) % 256, 0, 0] : List Int)), t237, l0_3] : List (List Int)))).bind fun t243 => ((sum_Of.f kj1 (([t243] : List (List Int)))).bind fun t249 => ((word_Put16.f t249).bind fun t250 => (if 0 < (t250.length : Int) then (if 2 < (t243.length : Int) then (if 1 < (t250.length : Int) then (if 3 < (t243.length : Int) then (some (((t243.set (2 : Int).toNat (rd t250 0)).set (3 : Int).toNat (rd t250 1)), 0)) else (none)) else (none)) else (none)) else (none)))))) = some (r1, r2) := by rw [if_neg (show ¬ (false = true) by decide)] at H; exact H
    clear H
    have H := H1
    clear H1
    obtain ⟨y234, hy234⟩ : ∃ y_ : List Int, y_ = (([(a0_0) % 256, (a0_1) % 256, 0, 0] : List Int)) := ⟨_, rfl⟩
    replace H : ((word_Put32.f a0_2).bind fun t237 => ((word_Join.f kj1 (([y234, t237, l0_3] : List (List Int)))).bind fun t243 => ((sum_Of.f kj1 (([t243] : List (List Int)))).bind fun t249 => ((word_Put16.f t249).bind fun t250 => (if 0 < (t250.length : Int) then (if 2 < (t243.length : Int) then (if 1 < (t250.length : Int) then (if 3 < (t243.length : Int) then (some (((t243.set (2 : Int).toNat (rd t250 0)).set (3 : Int).toNat (rd t250 1)), 0)) else (none)) else (none)) else (none)) else (none)))))) = some (r1, r2) := by first | (rw [hy234]; with_reducible exact H) | (have H2_ := (Option.bind_some _ _).symm.trans H; rw [hy234]; with_reducible exact H2_) | (have H2_ := (Option.bind_some _ _).symm.trans H; with_reducible exact H2_) | with_reducible exact H | (rw [hy234]; exact H) | exact H
    have Ny234 := Aside0.mk hy234
    clear hy234
    replace H := Option.bind_eq_some_iff.mp H
    obtain ⟨t237, A140, H⟩ := H
    replace H : ((word_Join.f kj1 (([y234, t237, l0_3] : List (List Int)))).bind fun t243 => ((sum_Of.f kj1 (([t243] : List (List Int)))).bind fun t249 => ((word_Put16.f t249).bind fun t250 => (if 0 < (t250.length : Int) then (if 2 < (t243.length : Int) then (if 1 < (t250.length : Int) then (if 3 < (t243.length : Int) then (some (((t243.set (2 : Int).toNat (rd t250 0)).set (3 : Int).toNat (rd t250 1)), 0)) else (none)) else (none)) else (none)) else (none))))) = some (r1, r2) := H
    have A14 := Aside0.mk A140
    clear A140
    obtain ⟨y240, hy240⟩ : ∃ y_ : List (List Int), y_ = (([y234, t237, l0_3] : List (List Int))) := ⟨_, rfl⟩
    replace H : ((word_Join.f kj1 y240).bind fun t243 => ((sum_Of.f kj1 (([t243] : List (List Int)))).bind fun t249 => ((word_Put16.f t249).bind fun t250 => (if 0 < (t250.length : Int) then (if 2 < (t243.length : Int) then (if 1 < (t250.length : Int) then (if 3 < (t243.length : Int) then (some (((t243.set (2 : Int).toNat (rd t250 0)).set (3 : Int).toNat (rd t250 1)), 0)) else (none)) else (none)) else (none)) else (none))))) = some (r1, r2) := by first | (rw [hy240]; with_reducible exact H) | (have H2_ := (Option.bind_some _ _).symm.trans H; rw [hy240]; with_reducible exact H2_) | (have H2_ := (Option.bind_some _ _).symm.trans H; with_reducible exact H2_) | with_reducible exact H | (rw [hy240]; exact H) | exact H
    have Ny240 := Aside0.mk hy240
    clear hy240
    replace H := Option.bind_eq_some_iff.mp H
    obtain ⟨t243, A150, H⟩ := H
    replace H : ((sum_Of.f kj1 (([t243] : List (List Int)))).bind fun t249 => ((word_Put16.f t249).bind fun t250 => (if 0 < (t250.length : Int) then (if 2 < (t243.length : Int) then (if 1 < (t250.length : Int) then (if 3 < (t243.length : Int) then (some (((t243.set (2 : Int).toNat (rd t250 0)).set (3 : Int).toNat (rd t250 1)), 0)) else (none)) else (none)) else (none)) else (none)))) = some (r1, r2) := H
    have A15 := Aside0.mk A150
    clear A150
    obtain ⟨y246, hy246⟩ : ∃ y_ : List (List Int), y_ = (([t243] : List (List Int))) := ⟨_, rfl⟩
    replace H : ((sum_Of.f kj1 y246).bind fun t249 => ((word_Put16.f t249).bind fun t250 => (if 0 < (t250.length : Int) then (if 2 < (t243.length : Int) then (if 1 < (t250.length : Int) then (if 3 < (t243.length : Int) then (some (((t243.set (2 : Int).toNat (rd t250 0)).set (3 : Int).toNat (rd t250 1)), 0)) else (none)) else (none)) else (none)) else (none)))) = some (r1, r2) := by first | (rw [hy246]; with_reducible exact H) | (have H2_ := (Option.bind_some _ _).symm.trans H; rw [hy246]; with_reducible exact H2_) | (have H2_ := (Option.bind_some _ _).symm.trans H; with_reducible exact H2_) | with_reducible exact H | (rw [hy246]; exact H) | exact H
    have Ny246 := Aside0.mk hy246
    clear hy246
    replace H := Option.bind_eq_some_iff.mp H
    obtain ⟨t249, A160, H⟩ := H
    replace H : ((word_Put16.f t249).bind fun t250 => (if 0 < (t250.length : Int) then (if 2 < (t243.length : Int) then (if 1 < (t250.length : Int) then (if 3 < (t243.length : Int) then (some (((t243.set (2 : Int).toNat (rd t250 0)).set (3 : Int).toNat (rd t250 1)), 0)) else (none)) else (none)) else (none)) else (none))) = some (r1, r2) := H
    have A16 := Aside0.mk A160
    clear A160
    replace H := Option.bind_eq_some_iff.mp H
    obtain ⟨t250, A170, H⟩ := H
    replace H : (if 0 < (t250.length : Int) then (if 2 < (t243.length : Int) then (if 1 < (t250.length : Int) then (if 3 < (t243.length : Int) then (some (((t243.set (2 : Int).toNat (rd t250 0)).set (3 : Int).toNat (rd t250 1)), 0)) else (none)) else (none)) else (none)) else (none)) = some (r1, r2) := H
    have A17 := Aside0.mk A170
    clear A170
    by_cases c18 : 0 < (t250.length : Int)
    ·rw [if_pos c18] at H
     have c18b0 : decide (0 < (t250.length : Int)) = true := decide_eq_true c18
     have c18b1 : decide (0 < t250.length) = true := decide_eq_true (by omega)
     clear c18
     by_cases c19 : 2 < (t243.length : Int)
     ·rw [if_pos c19] at H
      have c19b0 : decide (2 < (t243.length : Int)) = true := decide_eq_true c19
      have c19b1 : decide (2 < t243.length) = true := decide_eq_true (by omega)
      clear c19
      obtain ⟨y254, hy254⟩ : ∃ y_ : List Int, y_ = (t243.set (2 : Int).toNat (rd t250 0)) := ⟨_, rfl⟩
      replace H : (if 1 < (t250.length : Int) then (if 3 < (t243.length : Int) then (some ((y254.set (3 : Int).toNat (rd t250 1)), 0)) else (none)) else (none)) = some (r1, r2) := by first | (rw [hy254]; with_reducible exact H) | (have H2_ := (Option.bind_some _ _).symm.trans H; rw [hy254]; with_reducible exact H2_) | (have H2_ := (Option.bind_some _ _).symm.trans H; with_reducible exact H2_) | with_reducible exact H | (rw [hy254]; exact H) | exact H
      have Ny254 := Aside0.mk hy254
      clear hy254
      by_cases c21 : 1 < (t250.length : Int)
      ·rw [if_pos c21] at H
       have c21b0 : decide (1 < (t250.length : Int)) = true := decide_eq_true c21
       have c21b1 : decide (1 < t250.length) = true := decide_eq_true (by omega)
       clear c21
       by_cases c22 : 3 < (t243.length : Int)
       ·rw [if_pos c22] at H
        have c22b0 : decide (3 < (t243.length : Int)) = true := decide_eq_true c22
        have c22b1 : decide (3 < t243.length) = true := decide_eq_true (by omega)
        clear c22
        obtain ⟨y256, hy256⟩ : ∃ y_ : List Int, y_ = (y254.set (3 : Int).toNat (rd t250 1)) := ⟨_, rfl⟩
        replace H : (some (y256, 0)) = some (r1, r2) := by first | (rw [hy256]; with_reducible exact H) | (have H2_ := (Option.bind_some _ _).symm.trans H; rw [hy256]; with_reducible exact H2_) | (have H2_ := (Option.bind_some _ _).symm.trans H; with_reducible exact H2_) | with_reducible exact H | (rw [hy256]; exact H) | exact H
        have Ny256 := Aside0.mk hy256
        clear hy256
        simp only [Option.some.injEq, Prod.mk.injEq] at H
        obtain ⟨rfl, rfl⟩ := H
        try go_wp2
        have n0_ := Aside0.mk (Kd.V_drew HO_234003.out)
        have n1_ := Aside0.mk (blk_drew BK233.out)
        have n2_ := Aside0.mk (below_drew1 HB.out)
        clear HO_234003
        clear BK233
        clear HB
        have HO_234003 := n0_
        have BK233 := n1_
        have HB := n2_
        clear n0_ n1_ n2_
        refine start_ (n := 15) (S := fun w' => True) (ds := []) #[false, false, false, false, false, false, false, false, false, false, false, false, false, false, false] (by kernel_rfl) rfl rfl trivial (fun hHeld => ?_); refine with_tabW icmp_Build.tab3 icmp_Build.bits3 (fun HT_ HW_ => ?_)
        generalize wc.drew = w24 at HO_234003 BK233 HB hHeld ⊢
        refine pure_ (i := 0) (N := some 29) (v := ?_) (a' := ?_) #[true, false, false, false, false, false, false, false, false, false, false, false, false, false, false] rfl rfl (any_of HT_.out (by kernel_rfl)) (fun _ _ _ h => h) (Or.inl ⟨by rfl, ?_⟩) ?_ ?_
        rotate_left
        ·intro w'
         go_simp
         with_reducible rfl
        rotate_left
        ·simp only [Act.put, List.setIfInBounds_toArray, List.set_cons_zero, List.set_cons_succ, i64_w, i32_w]
         rfl
        refine pure_ (i := 3) (N := some 32) (v := ?_) (a' := ?_) #[true, false, false, true, false, false, false, false, false, false, false, false, false, false, false] rfl rfl (any_of HT_.out (by kernel_rfl)) (fun _ _ _ h => h) (Or.inl ⟨by rfl, ?_⟩) ?_ ?_
        rotate_left
        ·intro w'
         go_simp
         with_reducible rfl
        rotate_left
        ·simp only [Act.put, List.setIfInBounds_toArray, List.set_cons_zero, List.set_cons_succ, i64_w, i32_w]
         rfl
        refine pure_ (i := 7) (N := some 36) (v := ?_) (a' := ?_) #[true, false, false, true, false, false, false, true, false, false, false, false, false, false, false] rfl rfl (any_of HT_.out (by kernel_rfl)) (fun _ _ _ h => h) (Or.inl ⟨by rfl, ?_⟩) ?_ ?_
        rotate_left
        ·intro w'
         go_simp
         with_reducible rfl
        rotate_left
        ·simp only [Act.put, List.setIfInBounds_toArray, List.set_cons_zero, List.set_cons_succ, i64_w, i32_w]
         rfl
        refine pure_ (i := 10) (N := some 39) (v := ?_) (a' := ?_) #[true, false, false, true, false, false, false, true, false, false, true, false, false, false, false] rfl rfl (any_of HT_.out (by kernel_rfl)) (fun _ _ _ h => h) (Or.inl ⟨by rfl, ?_⟩) ?_ ?_
        rotate_left
        ·intro w'
         go_simp
         with_reducible rfl
        rotate_left
        ·simp only [Act.put, List.setIfInBounds_toArray, List.set_cons_zero, List.set_cons_succ, i64_w, i32_w]
         rfl
        refine inv_at [1, 2, 4, 5, 6, 8, 9, 11, 12, 13, 14] (fun a0_ b a w' => ∃ (v235 : Value) (v238 : Value) (v241 : Value) (v244 : Value) (m14_ : Value), a = putSel a0_ b [(1, 30, .int .i64 a0_0), (2, 31, .int .u8 ((a0_0) % 256)), (4, 33, .int .i64 a0_1), (5, 34, .int .u8 ((a0_1) % 256)), (6, 35, v235), (8, 37, .int .u32 a0_2), (9, 38, v238), (11, 40, .slice A0_3 l0_3.length c0_3), (12, 41, v241), (13, 42, v244), (14, 4, m14_)] ∧ (Kd.V (Kd.int .u8) 5 w' w.heap.size (fun k_ => (P0_3_ k_ ∨ w.heap.size ≤ k_) ∧ k_ ≠ gb233) (.slice A0_3 l0_3.length c0_3) l0_3) ∧ (w'.heap[gb233]? = some (.cells #[.int .i64 a0_0, .int .i64 a0_1, .int .u32 a0_2, .slice A0_3 l0_3.length c0_3] 50 (0, 0))) ∧ (Below w.heap.size w w') ∧ (b 6 = true → Kd.R (Kd.int .u8) 5 w' w.heap.size (fun k_ => (w.heap.size ≤ k_)) v235 y234) ∧ (b 9 = true → Kd.R (Kd.int .u8) 5 w' w.heap.size (fun k_ => (w.heap.size ≤ k_)) v238 t237) ∧ (b 12 = true → b 13 = false → Kd.N (Kd.slice 5 (Kd.int .u8)) 24 w' w.heap.size (fun k_ => (P0_3_ k_ ∨ w.heap.size ≤ k_) ∧ k_ ≠ gb233) v241 y240) ∧ (b 13 = true → Kd.R (Kd.int .u8) 5 w' w.heap.size (fun k_ => (w.heap.size ≤ k_)) v244 t243) ∧ (b 14 = true → (m14_ : Value) = v244)) HT_.out HW_.out (by kernel_rfl) (by kernel_rfl) ?_ ?_ ?_
        ·exact ⟨.bool false, .bool false, .bool false, .bool false, .bool false, by simp only [putSel, Bool.false_eq_true, if_false], (by first | exact HO_234003.out | exact Kd.V_mono HO_234003.out (fun _ hk => by exact okw hk)), BK233.out, HB.out, fun h_ => absurd h_ (by decide), fun h_ => absurd h_ (by decide), fun h_ => absurd h_ (by decide), fun h_ => absurd h_ (by decide), fun h_ => absurd h_ (by decide)⟩
        ·skip
         clear BK233 HB HO_234003
         refine steps_cons ?_ ?_
         ·rintro b a w' ⟨v235, v238, v241, v244, m14_, ha, Q_HO_234003, Q_BK233, Q_HB, Q_HO236, Q_HO239, Q_HO242, Q_HO245, Q_X14_⟩ hb_ hon hoff
          refine ⟨_, rfl, fun K hK => ?_⟩
          have e29 : a.tmps[29]? = some (.pointer (some ⟨gb233, 0, none⟩)) := by rw [ha]; exact (putSel_off rfl).trans rfl
          replace ha := Aside0.mk ha
          have HO_234003 := Aside0.mk Q_HO_234003
          have BK233 := Aside0.mk Q_BK233
          have HB := Aside0.mk Q_HB
          have hc0_ : w'.cell? ⟨gb233, 0, none⟩ = some (.int .i64 a0_0) := (blk_cell BK233.out 0).trans rfl
          have hc1_ : w'.cell? ⟨gb233, 1, none⟩ = some (.int .i64 a0_1) := (blk_cell BK233.out 1).trans rfl
          have hc2_ : w'.cell? ⟨gb233, 2, none⟩ = some (.int .u32 a0_2) := (blk_cell BK233.out 2).trans rfl
          have hc3_ : w'.cell? ⟨gb233, 3, none⟩ = some (.slice A0_3 l0_3.length c0_3) := (blk_cell BK233.out 3).trans rfl
          refine value_ (w1 := w') (v := .int .i64 a0_0) (by rfl) rfl ?_ ?_
          ·go_simp
           (try simp only [i64_w])
           try rfl
          refine hK.out _ _ ⟨v235, v238, v241, v244, m14_, (by rw [ha.out]; exact putSel_upk 0 hb_ rfl rfl rfl), Q_HO_234003, Q_BK233, Q_HB, fun h0_ => absurd ((hoff 6 (by kernel_rfl)).symm.trans h0_) (by decide), Q_HO239, fun h0_ _ => absurd ((hoff 12 (by kernel_rfl)).symm.trans h0_) (by decide), fun h0_ => absurd ((hoff 13 (by kernel_rfl)).symm.trans h0_) (by decide), fun h0_ => absurd ((hoff 14 (by kernel_rfl)).symm.trans h0_) (by decide)⟩
         refine steps_cons ?_ ?_
         ·rintro b a w' ⟨v235, v238, v241, v244, m14_, ha, Q_HO_234003, Q_BK233, Q_HB, Q_HO236, Q_HO239, Q_HO242, Q_HO245, Q_X14_⟩ hb_ hon hoff
          refine ⟨_, rfl, fun K hK => ?_⟩
          have e30 : a.tmps[30]? = some (.int .i64 a0_0) := by rw [ha]; exact putSel_on (e := (1, 30, .int .i64 a0_0)) 0 rfl rfl (hon 1 (by kernel_rfl)) rfl
          replace ha := Aside0.mk ha
          have HO_234003 := Aside0.mk Q_HO_234003
          have BK233 := Aside0.mk Q_BK233
          have HB := Aside0.mk Q_HB
          refine value_ (w1 := w') (v := .int .u8 ((a0_0) % 256)) (by rfl) rfl ?_ ?_
          ·go_simp
           (try simp only [i64_w])
           try (first | exact IntKind.wrap_u8 _ | rfl)
          refine hK.out _ _ ⟨v235, v238, v241, v244, m14_, (by rw [ha.out]; exact putSel_upk 1 hb_ rfl rfl rfl), Q_HO_234003, Q_BK233, Q_HB, fun h0_ => absurd ((hoff 6 (by kernel_rfl)).symm.trans h0_) (by decide), Q_HO239, fun h0_ _ => absurd ((hoff 12 (by kernel_rfl)).symm.trans h0_) (by decide), fun h0_ => absurd ((hoff 13 (by kernel_rfl)).symm.trans h0_) (by decide), fun h0_ => absurd ((hoff 14 (by kernel_rfl)).symm.trans h0_) (by decide)⟩
         refine steps_cons ?_ ?_
         ·rintro b a w' ⟨v235, v238, v241, v244, m14_, ha, Q_HO_234003, Q_BK233, Q_HB, Q_HO236, Q_HO239, Q_HO242, Q_HO245, Q_X14_⟩ hb_ hon hoff
          refine ⟨_, rfl, fun K hK => ?_⟩
          have e32 : a.tmps[32]? = some (.pointer (some ⟨gb233, 1, none⟩)) := by rw [ha]; exact (putSel_off rfl).trans rfl
          replace ha := Aside0.mk ha
          have HO_234003 := Aside0.mk Q_HO_234003
          have BK233 := Aside0.mk Q_BK233
          have HB := Aside0.mk Q_HB
          have hc0_ : w'.cell? ⟨gb233, 0, none⟩ = some (.int .i64 a0_0) := (blk_cell BK233.out 0).trans rfl
          have hc1_ : w'.cell? ⟨gb233, 1, none⟩ = some (.int .i64 a0_1) := (blk_cell BK233.out 1).trans rfl
          have hc2_ : w'.cell? ⟨gb233, 2, none⟩ = some (.int .u32 a0_2) := (blk_cell BK233.out 2).trans rfl
          have hc3_ : w'.cell? ⟨gb233, 3, none⟩ = some (.slice A0_3 l0_3.length c0_3) := (blk_cell BK233.out 3).trans rfl
          refine value_ (w1 := w') (v := .int .i64 a0_1) (by rfl) rfl ?_ ?_
          ·go_simp
           (try simp only [i64_w])
           try rfl
          refine hK.out _ _ ⟨v235, v238, v241, v244, m14_, (by rw [ha.out]; exact putSel_upk 2 hb_ rfl rfl rfl), Q_HO_234003, Q_BK233, Q_HB, fun h0_ => absurd ((hoff 6 (by kernel_rfl)).symm.trans h0_) (by decide), Q_HO239, fun h0_ _ => absurd ((hoff 12 (by kernel_rfl)).symm.trans h0_) (by decide), fun h0_ => absurd ((hoff 13 (by kernel_rfl)).symm.trans h0_) (by decide), fun h0_ => absurd ((hoff 14 (by kernel_rfl)).symm.trans h0_) (by decide)⟩
         refine steps_cons ?_ ?_
         ·rintro b a w' ⟨v235, v238, v241, v244, m14_, ha, Q_HO_234003, Q_BK233, Q_HB, Q_HO236, Q_HO239, Q_HO242, Q_HO245, Q_X14_⟩ hb_ hon hoff
          refine ⟨_, rfl, fun K hK => ?_⟩
          have e33 : a.tmps[33]? = some (.int .i64 a0_1) := by rw [ha]; exact putSel_on (e := (4, 33, .int .i64 a0_1)) 2 rfl rfl (hon 4 (by kernel_rfl)) rfl
          replace ha := Aside0.mk ha
          have HO_234003 := Aside0.mk Q_HO_234003
          have BK233 := Aside0.mk Q_BK233
          have HB := Aside0.mk Q_HB
          refine value_ (w1 := w') (v := .int .u8 ((a0_1) % 256)) (by rfl) rfl ?_ ?_
          ·go_simp
           (try simp only [i64_w])
           try (first | exact IntKind.wrap_u8 _ | rfl)
          refine hK.out _ _ ⟨v235, v238, v241, v244, m14_, (by rw [ha.out]; exact putSel_upk 3 hb_ rfl rfl rfl), Q_HO_234003, Q_BK233, Q_HB, fun h0_ => absurd ((hoff 6 (by kernel_rfl)).symm.trans h0_) (by decide), Q_HO239, fun h0_ _ => absurd ((hoff 12 (by kernel_rfl)).symm.trans h0_) (by decide), fun h0_ => absurd ((hoff 13 (by kernel_rfl)).symm.trans h0_) (by decide), fun h0_ => absurd ((hoff 14 (by kernel_rfl)).symm.trans h0_) (by decide)⟩
         refine steps_cons ?_ ?_
         ·rintro b a w' ⟨v235, v238, v241, v244, m14_, ha, Q_HO_234003, Q_BK233, Q_HB, Q_HO236, Q_HO239, Q_HO242, Q_HO245, Q_X14_⟩ hb_ hon hoff
          refine ⟨_, rfl, fun K hK => ?_⟩
          have e31 : a.tmps[31]? = some (.int .u8 ((a0_0) % 256)) := by rw [ha]; exact putSel_on (e := (2, 31, .int .u8 ((a0_0) % 256))) 1 rfl rfl (hon 2 (by kernel_rfl)) rfl
          have e34 : a.tmps[34]? = some (.int .u8 ((a0_1) % 256)) := by rw [ha]; exact putSel_on (e := (5, 34, .int .u8 ((a0_1) % 256))) 3 rfl rfl (hon 5 (by kernel_rfl)) rfl
          replace ha := Aside0.mk ha
          have HO_234003 := Aside0.mk Q_HO_234003
          have BK233 := Aside0.mk Q_BK233
          have HB := Aside0.mk Q_HB
          refine Kd.R_lit_step (Kd.int .u8) _ 5 ?hg (N := 35) ?hd (xs := ([(a0_0) % 256, (a0_1) % 256, 0, 0] : List Int)) (inner := [.int .u8 ((a0_0) % 256), .int .u8 ((a0_1) % 256), .int .u8 0, .int .u8 0]) (ok := fun _ => True) (okp := fun _ => True) ?hr ?hp (fun _ hk => hk) trivial (Below.refl _ _) (Nat.le_refl _) (by simp) ?_; (case hd => rfl); (case hg => rfl); (case hr => first | (go_simp; done) | (go_simp; rfl)); (case hp => exact (Reps.one (show Kd.M (Kd.int .u8) _ _ _ ((a0_0) % 256) [.int .u8 ((a0_0) % 256)] from rfl) (Reps.one (show Kd.M (Kd.int .u8) _ _ _ ((a0_1) % 256) [.int .u8 ((a0_1) % 256)] from rfl) (Reps.one (show Kd.M (Kd.int .u8) _ _ _ 0 [.int .u8 0] from rfl) (Reps.one (show Kd.M (Kd.int .u8) _ _ _ 0 [.int .u8 0] from rfl) (Reps.none _ _))))))
          intro v235 w25 ho26 hb hg_ hnew_
          clear hg_ hnew_
          (first | rw [← Ny234.out] at ho26 | (simp only [Int.reduceToNat] at ho26; rw [← Ny234.out] at ho26))
          have n0_ := Aside0.mk (Kd.V_elder' (by (with_reducible repeat (first | apply Kd.V_alloc | apply Kd.V_drewN | apply Kd.V_drew)); exact HO_234003.out) (Kd.R_base ho26) hb)
          have n1_ := Aside0.mk (Kd.R_lower (Kd.R_newM (M := fun k_ => (w.heap.size ≤ k_)) ho26 (below_size (by repeat (first | (with_reducible first | exact HB.out | apply below_alloc | apply pw_below_drewN | apply below_drew1 | refine below_set ?_ GE233.out) | exact HB.out))) (fun k_ h_ => h_)) (below_size (by repeat (first | (with_reducible first | exact HB.out | apply below_alloc | apply pw_below_drewN | apply below_drew1 | refine below_set ?_ GE233.out) | exact HB.out))))
          have n2_ := Aside0.mk (blk_below (g := gb233) (o := .cells #[.int .i64 a0_0, .int .i64 a0_1, .int .u32 a0_2, .slice A0_3 l0_3.length c0_3] 50 (0, 0)) (by (with_reducible repeat (first | refine blk_drewN ?_ _ | refine blk_drew ?_ | refine blk_alloc ?_ _)); exact BK233.out) hb)
          have n3_ := Aside0.mk (below_step (by repeat (first | (with_reducible first | exact HB.out | apply below_alloc | apply pw_below_drewN | apply below_drew1 | refine below_set ?_ GE233.out) | exact HB.out)) hb)
          have z_HO239 := fun (h0_ : b 9 = true) => (show Kd.R (Kd.int .u8) 5 w25 w.heap.size (fun k_ => (w.heap.size ≤ k_)) v238 t237 from by first | exact (Kd.R_elder' (by (with_reducible repeat (first | apply Kd.R_alloc | apply Kd.R_drewN | apply Kd.R_drew)); exact (Q_HO239 h0_)) (Kd.R_base ho26) hb) | exact Kd.R_mono (Kd.R_elder' (by (with_reducible repeat (first | apply Kd.R_alloc | apply Kd.R_drewN | apply Kd.R_drew)); exact (Q_HO239 h0_)) (Kd.R_base ho26) hb) (fun _ h_ => by first | trivial | exact h_ | exact h_.1))
          clear HO_234003
          clear BK233
          clear HB
          have HO_234003 := n0_
          have HO236 := n1_
          have BK233 := n2_
          have HB := n3_
          clear n0_ n1_ n2_ n3_
          clear hb ho26
          refine hK.out _ _ ⟨v235, v238, v241, v244, m14_, (by rw [ha.out]; exact putSel_upk 4 hb_ rfl rfl rfl), (by first | ((with_reducible repeat (first | apply Kd.V_alloc | apply Kd.V_drewN | apply Kd.V_drew)); exact Kd.V_mono HO_234003.out (fun _ hk => by first | exact ⟨hk.1.1, ⟨hk.2, hk.1.2⟩⟩ | exact okw hk)) | ((with_reducible repeat (first | apply Kd.V_alloc | apply Kd.V_drewN | apply Kd.V_drew)); exact Kd.V_mono HO_234003.out (fun _ hk => by first | trivial | exact hk | exact hk.1 | exact hk.2 | exact hk.1.1 | exact okw hk))), (by (with_reducible repeat (first | refine blk_drewN ?_ _ | refine blk_drew ?_ | refine blk_alloc ?_ _)); exact BK233.out), (by repeat (first | (with_reducible first | exact HB.out | apply below_alloc | apply pw_below_drewN | apply below_drew1 | refine below_set ?_ GE233.out) | exact HB.out)), fun _ => (by first | ((with_reducible repeat (first | apply Kd.R_alloc | apply Kd.R_drewN | apply Kd.R_drew)); exact Kd.R_mono HO236.out (fun _ hk => hk.1)) | ((with_reducible repeat (first | apply Kd.R_alloc | apply Kd.R_drewN | apply Kd.R_drew)); exact Kd.R_mono HO236.out (fun _ hk => by first | trivial | exact hk | exact hk.1 | exact hk.2 | exact hk.1.1 | exact okw hk))), z_HO239, fun h0_ _ => absurd ((hoff 12 (by kernel_rfl)).symm.trans h0_) (by decide), fun h0_ => absurd ((hoff 13 (by kernel_rfl)).symm.trans h0_) (by decide), fun h0_ => absurd ((hoff 14 (by kernel_rfl)).symm.trans h0_) (by decide)⟩
         refine steps_cons ?_ ?_
         ·rintro b a w' ⟨v235, v238, v241, v244, m14_, ha, Q_HO_234003, Q_BK233, Q_HB, Q_HO236, Q_HO239, Q_HO242, Q_HO245, Q_X14_⟩ hb_ hon hoff
          refine ⟨_, rfl, fun K hK => ?_⟩
          have e36 : a.tmps[36]? = some (.pointer (some ⟨gb233, 2, none⟩)) := by rw [ha]; exact (putSel_off rfl).trans rfl
          replace ha := Aside0.mk ha
          have HO_234003 := Aside0.mk Q_HO_234003
          have BK233 := Aside0.mk Q_BK233
          have HB := Aside0.mk Q_HB
          have hc0_ : w'.cell? ⟨gb233, 0, none⟩ = some (.int .i64 a0_0) := (blk_cell BK233.out 0).trans rfl
          have hc1_ : w'.cell? ⟨gb233, 1, none⟩ = some (.int .i64 a0_1) := (blk_cell BK233.out 1).trans rfl
          have hc2_ : w'.cell? ⟨gb233, 2, none⟩ = some (.int .u32 a0_2) := (blk_cell BK233.out 2).trans rfl
          have hc3_ : w'.cell? ⟨gb233, 3, none⟩ = some (.slice A0_3 l0_3.length c0_3) := (blk_cell BK233.out 3).trans rfl
          refine value_ (w1 := w') (v := .int .u32 a0_2) (by rfl) rfl ?_ ?_
          ·go_simp
           (try simp only [i64_w])
           try rfl
          refine hK.out _ _ ⟨v235, v238, v241, v244, m14_, (by rw [ha.out]; exact putSel_upk 5 hb_ rfl rfl rfl), Q_HO_234003, Q_BK233, Q_HB, Q_HO236, fun h0_ => absurd ((hoff 9 (by kernel_rfl)).symm.trans h0_) (by decide), fun h0_ _ => absurd ((hoff 12 (by kernel_rfl)).symm.trans h0_) (by decide), fun h0_ => absurd ((hoff 13 (by kernel_rfl)).symm.trans h0_) (by decide), fun h0_ => absurd ((hoff 14 (by kernel_rfl)).symm.trans h0_) (by decide)⟩
         refine steps_cons ?_ ?_
         ·rintro b a w' ⟨v235, v238, v241, v244, m14_, ha, Q_HO_234003, Q_BK233, Q_HB, Q_HO236, Q_HO239, Q_HO242, Q_HO245, Q_X14_⟩ hb_ hon hoff
          refine ⟨_, rfl, fun K hK => ?_⟩
          have e37 : a.tmps[37]? = some (.int .u32 a0_2) := by rw [ha]; exact putSel_on (e := (8, 37, .int .u32 a0_2)) 5 rfl rfl (hon 8 (by kernel_rfl)) rfl
          replace ha := Aside0.mk ha
          have HO_234003 := Aside0.mk Q_HO_234003
          have BK233 := Aside0.mk Q_BK233
          have HB := Aside0.mk Q_HB
          refine goes_ Try.func72 (by kernel_rfl) rfl #[.int .u32 a0_2] (by rfl) rfl rfl (by first | (simp only [List.map_toArray, List.map_cons, List.map_nil, Act.eval, Array.getD_eq_getD_getElem?, Option.getD_some, e37]; done) | (simp only [List.map_toArray, List.map_cons, List.map_nil, Act.eval, Array.getD_eq_getD_getElem?, Option.getD_some, e37]; rfl)) ?_
          with_reducible refine (word_Put32.calls a0_2 t237 _ A14.out).mono ?_
          rintro e w25 ⟨v238, rfl, ho0, hb⟩
          refine ⟨_, rfl, ?_⟩
          have n0_ := Aside0.mk (Kd.V_elder' (by (with_reducible repeat (first | apply Kd.V_alloc | apply Kd.V_drewN | apply Kd.V_drew)); exact HO_234003.out) (Kd.R_base ho0) hb)
          have n1_ := Aside0.mk (Kd.R_lower (Kd.R_newM (M := fun k_ => (w.heap.size ≤ k_)) ho0 (below_size (by repeat (first | (with_reducible first | exact HB.out | apply below_alloc | apply pw_below_drewN | apply below_drew1 | refine below_set ?_ GE233.out) | exact HB.out))) (fun k_ h_ => h_)) (below_size (by repeat (first | (with_reducible first | exact HB.out | apply below_alloc | apply pw_below_drewN | apply below_drew1 | refine below_set ?_ GE233.out) | exact HB.out))))
          have n2_ := Aside0.mk (blk_below (g := gb233) (o := .cells #[.int .i64 a0_0, .int .i64 a0_1, .int .u32 a0_2, .slice A0_3 l0_3.length c0_3] 50 (0, 0)) (by (with_reducible repeat (first | refine blk_drewN ?_ _ | refine blk_drew ?_ | refine blk_alloc ?_ _)); exact BK233.out) hb)
          have n3_ := Aside0.mk (below_step (by repeat (first | (with_reducible first | exact HB.out | apply below_alloc | apply pw_below_drewN | apply below_drew1 | refine below_set ?_ GE233.out) | exact HB.out)) hb)
          have z_HO236 := fun (h0_ : b 6 = true) => (show Kd.R (Kd.int .u8) 5 w25 w.heap.size (fun k_ => (w.heap.size ≤ k_)) v235 y234 from by first | exact (Kd.R_elder' (by (with_reducible repeat (first | apply Kd.R_alloc | apply Kd.R_drewN | apply Kd.R_drew)); exact (Q_HO236 h0_)) (Kd.R_base ho0) hb) | exact Kd.R_mono (Kd.R_elder' (by (with_reducible repeat (first | apply Kd.R_alloc | apply Kd.R_drewN | apply Kd.R_drew)); exact (Q_HO236 h0_)) (Kd.R_base ho0) hb) (fun _ h_ => by first | trivial | exact h_ | exact h_.1))
          clear HO_234003
          clear BK233
          clear HB
          have HO_234003 := n0_
          have HO239 := n1_
          have BK233 := n2_
          have HB := n3_
          clear n0_ n1_ n2_ n3_
          (try clear hb)
          (try clear hb2)
          (try clear hk)
          (try clear hi)
          (try clear ho0)
          refine hK.out _ _ ⟨v235, v238, v241, v244, m14_, (by rw [ha.out]; exact putSel_upk 6 hb_ rfl rfl rfl), (by first | ((with_reducible repeat (first | apply Kd.V_alloc | apply Kd.V_drewN | apply Kd.V_drew)); exact Kd.V_mono HO_234003.out (fun _ hk => by first | exact ⟨hk.1.1, ⟨hk.2, hk.1.2⟩⟩ | exact okw hk)) | ((with_reducible repeat (first | apply Kd.V_alloc | apply Kd.V_drewN | apply Kd.V_drew)); exact Kd.V_mono HO_234003.out (fun _ hk => by first | trivial | exact hk | exact hk.1 | exact hk.2 | exact hk.1.1 | exact okw hk))), (by (with_reducible repeat (first | refine blk_drewN ?_ _ | refine blk_drew ?_ | refine blk_alloc ?_ _)); exact BK233.out), (by repeat (first | (with_reducible first | exact HB.out | apply below_alloc | apply pw_below_drewN | apply below_drew1 | refine below_set ?_ GE233.out) | exact HB.out)), z_HO236, fun _ => (by first | ((with_reducible repeat (first | apply Kd.R_alloc | apply Kd.R_drewN | apply Kd.R_drew)); exact Kd.R_mono HO239.out (fun _ hk => hk.1)) | ((with_reducible repeat (first | apply Kd.R_alloc | apply Kd.R_drewN | apply Kd.R_drew)); exact Kd.R_mono HO239.out (fun _ hk => by first | trivial | exact hk | exact hk.1 | exact hk.2 | exact hk.1.1 | exact okw hk))), fun h0_ _ => absurd ((hoff 12 (by kernel_rfl)).symm.trans h0_) (by decide), fun h0_ => absurd ((hoff 13 (by kernel_rfl)).symm.trans h0_) (by decide), fun h0_ => absurd ((hoff 14 (by kernel_rfl)).symm.trans h0_) (by decide)⟩
         refine steps_cons ?_ ?_
         ·rintro b a w' ⟨v235, v238, v241, v244, m14_, ha, Q_HO_234003, Q_BK233, Q_HB, Q_HO236, Q_HO239, Q_HO242, Q_HO245, Q_X14_⟩ hb_ hon hoff
          refine ⟨_, rfl, fun K hK => ?_⟩
          have e39 : a.tmps[39]? = some (.pointer (some ⟨gb233, 3, none⟩)) := by rw [ha]; exact (putSel_off rfl).trans rfl
          replace ha := Aside0.mk ha
          have HO_234003 := Aside0.mk Q_HO_234003
          have BK233 := Aside0.mk Q_BK233
          have HB := Aside0.mk Q_HB
          have hc0_ : w'.cell? ⟨gb233, 0, none⟩ = some (.int .i64 a0_0) := (blk_cell BK233.out 0).trans rfl
          have hc1_ : w'.cell? ⟨gb233, 1, none⟩ = some (.int .i64 a0_1) := (blk_cell BK233.out 1).trans rfl
          have hc2_ : w'.cell? ⟨gb233, 2, none⟩ = some (.int .u32 a0_2) := (blk_cell BK233.out 2).trans rfl
          have hc3_ : w'.cell? ⟨gb233, 3, none⟩ = some (.slice A0_3 l0_3.length c0_3) := (blk_cell BK233.out 3).trans rfl
          refine value_ (w1 := w') (v := .slice A0_3 l0_3.length c0_3) (by rfl) rfl ?_ ?_
          ·go_simp
           (try simp only [i64_w])
           try rfl
          refine hK.out _ _ ⟨v235, v238, v241, v244, m14_, (by rw [ha.out]; exact putSel_upk 7 hb_ rfl rfl rfl), Q_HO_234003, Q_BK233, Q_HB, Q_HO236, Q_HO239, fun h0_ _ => absurd ((hoff 12 (by kernel_rfl)).symm.trans h0_) (by decide), fun h0_ => absurd ((hoff 13 (by kernel_rfl)).symm.trans h0_) (by decide), fun h0_ => absurd ((hoff 14 (by kernel_rfl)).symm.trans h0_) (by decide)⟩
         refine steps_cons ?_ ?_
         ·rintro b a w' ⟨v235, v238, v241, v244, m14_, ha, Q_HO_234003, Q_BK233, Q_HB, Q_HO236, Q_HO239, Q_HO242, Q_HO245, Q_X14_⟩ hb_ hon hoff
          refine ⟨_, rfl, fun K hK => ?_⟩
          have e35 : a.tmps[35]? = some (v235) := by rw [ha]; exact putSel_on (e := (6, 35, v235)) 4 rfl rfl (hon 6 (by kernel_rfl)) rfl
          have e38 : a.tmps[38]? = some (v238) := by rw [ha]; exact putSel_on (e := (9, 38, v238)) 6 rfl rfl (hon 9 (by kernel_rfl)) rfl
          have e40 : a.tmps[40]? = some (.slice A0_3 l0_3.length c0_3) := by rw [ha]; exact putSel_on (e := (11, 40, .slice A0_3 l0_3.length c0_3)) 7 rfl rfl (hon 11 (by kernel_rfl)) rfl
          replace ha := Aside0.mk ha
          have HO_234003 := Aside0.mk Q_HO_234003
          have BK233 := Aside0.mk Q_BK233
          have HB := Aside0.mk Q_HB
          have HO236 := Aside0.mk (Q_HO236 (hon 6 (by kernel_rfl)))
          have HO239 := Aside0.mk (Q_HO239 (hon 9 (by kernel_rfl)))
          obtain ⟨Ao29, co29, eo29⟩ := Kd.R_slice HO236.out
          (first | subst eo29 | (injection eo29 with f1_ f2_ f3_; have f4_ := f1_.symm; have f5_ := f3_.symm; clear f1_ f2_ f3_; subst f4_; subst f5_))
          obtain ⟨Ao30, co30, eo30⟩ := Kd.R_slice HO239.out
          (first | subst eo30 | (injection eo30 with f1_ f2_ f3_; have f4_ := f1_.symm; have f5_ := f3_.symm; clear f1_ f2_ f3_; subst f4_; subst f5_))
          refine Kd.N_lit_step (Kd.slice 5 (Kd.int .u8)) _ 24 ?hg (N' := 41) ?hd (xs := ([y234, t237, l0_3] : List (List Int))) (inner := [.slice Ao29 y234.length co29, .slice Ao30 t237.length co30, .slice A0_3 l0_3.length c0_3]) (ok := (fun k_ => (P0_3_ k_ ∨ w.heap.size ≤ k_) ∧ k_ ≠ gb233)) (okp := (fun k_ => (P0_3_ k_ ∨ w.heap.size ≤ k_) ∧ k_ ≠ gb233)) ?hr ?hp (fun _ hk => hk) ((show ∀ k_, w'.heap.size ≤ k_ → (fun k_ => (P0_3_ k_ ∨ w.heap.size ≤ k_) ∧ k_ ≠ gb233) k_ from fun k_ hk => ⟨(.inr (Nat.le_trans (below_size (by repeat (first | (with_reducible first | exact HB.out | apply below_alloc | apply pw_below_drewN | apply below_drew1 | refine below_set ?_ GE233.out) | exact HB.out))) hk)), Kd.freshB (g := gb233) (o := .cells #[.int .i64 a0_0, .int .i64 a0_1, .int .u32 a0_2, .slice A0_3 l0_3.length c0_3] 50 (0, 0)) (by (with_reducible repeat (first | refine blk_drewN ?_ _ | refine blk_drew ?_ | refine blk_alloc ?_ _)); exact BK233.out) k_ hk⟩) _ (Nat.le_refl _)) (Below.refl _ _) (Nat.le_refl _) (by simp) ?_; (case hd => rfl); (case hg => rfl); (case hr => first | (go_simp; done) | (go_simp; rfl)); (case hp => exact (Reps.one (show Kd.FK (Kd.slice 5 (Kd.int .u8)) _ _ y234 [.slice Ao29 y234.length co29] from (by first | exact Kd.FK_slice_mk (Kd.R_reads' (Kd.R_mono (ok' := (fun k_ => (P0_3_ k_ ∨ w.heap.size ≤ k_) ∧ k_ ≠ gb233)) (Kd.R_types (HO236.out) BK233.out (by decide)) (fun k_ hk => by first | exact ⟨(.inr (hk.1.1)), hk.2⟩ | exact okw hk))).2.1 (Kd.R_F (Kd.R_mono (ok' := (fun k_ => (P0_3_ k_ ∨ w.heap.size ≤ k_) ∧ k_ ≠ gb233)) (Kd.R_types (HO236.out) BK233.out (by decide)) (fun k_ hk => by first | exact ⟨(.inr (hk.1.1)), hk.2⟩ | exact okw hk))) | exact FK_slice_of (Kd.R_reads' (Kd.R_mono (ok' := (fun k_ => (P0_3_ k_ ∨ w.heap.size ≤ k_) ∧ k_ ≠ gb233)) (Kd.R_types (HO236.out) BK233.out (by decide)) (fun k_ hk => by first | exact ⟨(.inr (hk.1.1)), hk.2⟩ | exact okw hk))).1 (Kd.R_reads' (Kd.R_mono (ok' := (fun k_ => (P0_3_ k_ ∨ w.heap.size ≤ k_) ∧ k_ ≠ gb233)) (Kd.R_types (HO236.out) BK233.out (by decide)) (fun k_ hk => by first | exact ⟨(.inr (hk.1.1)), hk.2⟩ | exact okw hk))).2.1 (Kd.R_F (Kd.R_mono (ok' := (fun k_ => (P0_3_ k_ ∨ w.heap.size ≤ k_) ∧ k_ ≠ gb233)) (Kd.R_types (HO236.out) BK233.out (by decide)) (fun k_ hk => by first | exact ⟨(.inr (hk.1.1)), hk.2⟩ | exact okw hk))))) (Reps.one (show Kd.FK (Kd.slice 5 (Kd.int .u8)) _ _ t237 [.slice Ao30 t237.length co30] from (by first | exact Kd.FK_slice_mk (Kd.R_reads' (Kd.R_mono (ok' := (fun k_ => (P0_3_ k_ ∨ w.heap.size ≤ k_) ∧ k_ ≠ gb233)) (Kd.R_types (HO239.out) BK233.out (by decide)) (fun k_ hk => by first | exact ⟨(.inr (hk.1.1)), hk.2⟩ | exact okw hk))).2.1 (Kd.R_F (Kd.R_mono (ok' := (fun k_ => (P0_3_ k_ ∨ w.heap.size ≤ k_) ∧ k_ ≠ gb233)) (Kd.R_types (HO239.out) BK233.out (by decide)) (fun k_ hk => by first | exact ⟨(.inr (hk.1.1)), hk.2⟩ | exact okw hk))) | exact FK_slice_of (Kd.R_reads' (Kd.R_mono (ok' := (fun k_ => (P0_3_ k_ ∨ w.heap.size ≤ k_) ∧ k_ ≠ gb233)) (Kd.R_types (HO239.out) BK233.out (by decide)) (fun k_ hk => by first | exact ⟨(.inr (hk.1.1)), hk.2⟩ | exact okw hk))).1 (Kd.R_reads' (Kd.R_mono (ok' := (fun k_ => (P0_3_ k_ ∨ w.heap.size ≤ k_) ∧ k_ ≠ gb233)) (Kd.R_types (HO239.out) BK233.out (by decide)) (fun k_ hk => by first | exact ⟨(.inr (hk.1.1)), hk.2⟩ | exact okw hk))).2.1 (Kd.R_F (Kd.R_mono (ok' := (fun k_ => (P0_3_ k_ ∨ w.heap.size ≤ k_) ∧ k_ ≠ gb233)) (Kd.R_types (HO239.out) BK233.out (by decide)) (fun k_ hk => by first | exact ⟨(.inr (hk.1.1)), hk.2⟩ | exact okw hk))))) (Reps.one (show Kd.FK (Kd.slice 5 (Kd.int .u8)) _ _ l0_3 [.slice A0_3 l0_3.length c0_3] from (by first | exact Kd.FK_slice_mk (Kd.V_reads' (e := 0) (base := 0) (Kd.V_mono (ok' := (fun k_ => (P0_3_ k_ ∨ w.heap.size ≤ k_) ∧ k_ ≠ gb233)) (HO_234003.out) (fun k_ hk => by first | exact ⟨hk.1, hk.2.2.2⟩ | exact okw hk))).2.1 (Kd.V_F (e := 0) (base := 0) (Kd.V_mono (ok' := (fun k_ => (P0_3_ k_ ∨ w.heap.size ≤ k_) ∧ k_ ≠ gb233)) (HO_234003.out) (fun k_ hk => by first | exact ⟨hk.1, hk.2.2.2⟩ | exact okw hk))) | exact FK_slice_of (Kd.V_reads' (e := 0) (base := 0) (Kd.V_mono (ok' := (fun k_ => (P0_3_ k_ ∨ w.heap.size ≤ k_) ∧ k_ ≠ gb233)) (HO_234003.out) (fun k_ hk => by first | exact ⟨hk.1, hk.2.2.2⟩ | exact okw hk))).1 (Kd.V_reads' (e := 0) (base := 0) (Kd.V_mono (ok' := (fun k_ => (P0_3_ k_ ∨ w.heap.size ≤ k_) ∧ k_ ≠ gb233)) (HO_234003.out) (fun k_ hk => by first | exact ⟨hk.1, hk.2.2.2⟩ | exact okw hk))).2.1 (Kd.V_F (e := 0) (base := 0) (Kd.V_mono (ok' := (fun k_ => (P0_3_ k_ ∨ w.heap.size ≤ k_) ∧ k_ ≠ gb233)) (HO_234003.out) (fun k_ hk => by first | exact ⟨hk.1, hk.2.2.2⟩ | exact okw hk))))) (Reps.none _ _)))))
          intro v241 w31 ho32 hb hg_ hnew_
          clear hg_ hnew_
          (first | rw [← Ny240.out] at ho32 | (simp only [Int.reduceToNat] at ho32; rw [← Ny240.out] at ho32))
          have n0_ := Aside0.mk (Kd.V_elder' (by (with_reducible repeat (first | apply Kd.V_alloc | apply Kd.V_drewN | apply Kd.V_drew)); exact HO_234003.out) (Kd.N_base ho32) hb)
          have n1_ := Aside0.mk (Kd.R_below (by (with_reducible repeat (first | apply Kd.R_alloc | apply Kd.R_drewN | apply Kd.R_drew)); exact HO236.out) hb)
          have n2_ := Aside0.mk (Kd.R_below (by (with_reducible repeat (first | apply Kd.R_alloc | apply Kd.R_drewN | apply Kd.R_drew)); exact HO239.out) hb)
          have n3_ := Aside0.mk (Kd.N_lower ho32 (below_size (by repeat (first | (with_reducible first | exact HB.out | apply below_alloc | apply pw_below_drewN | apply below_drew1 | refine below_set ?_ GE233.out) | exact HB.out))))
          have n4_ := Aside0.mk (blk_below (g := gb233) (o := .cells #[.int .i64 a0_0, .int .i64 a0_1, .int .u32 a0_2, .slice A0_3 l0_3.length c0_3] 50 (0, 0)) (by (with_reducible repeat (first | refine blk_drewN ?_ _ | refine blk_drew ?_ | refine blk_alloc ?_ _)); exact BK233.out) hb)
          have n5_ := Aside0.mk (below_step (by repeat (first | (with_reducible first | exact HB.out | apply below_alloc | apply pw_below_drewN | apply below_drew1 | refine below_set ?_ GE233.out) | exact HB.out)) hb)
          clear HO_234003
          clear HO236
          clear HO239
          clear BK233
          clear HB
          have HO_234003 := n0_
          have HO236 := n1_
          have HO239 := n2_
          have HO242 := n3_
          have BK233 := n4_
          have HB := n5_
          clear n0_ n1_ n2_ n3_ n4_ n5_
          clear hb ho32
          refine hK.out _ _ ⟨.slice Ao29 y234.length co29, .slice Ao30 t237.length co30, v241, v244, m14_, (by rw [ha.out]; exact putSel_upk 8 hb_ rfl rfl rfl), (by first | ((with_reducible repeat (first | apply Kd.V_alloc | apply Kd.V_drewN | apply Kd.V_drew)); exact Kd.V_mono HO_234003.out (fun _ hk => by first | exact ⟨hk.1.1, ⟨hk.1.2.1, ⟨hk.1.2.2.1, ⟨hk.2, hk.1.2.2.2⟩⟩⟩⟩ | exact okw hk)) | ((with_reducible repeat (first | apply Kd.V_alloc | apply Kd.V_drewN | apply Kd.V_drew)); exact Kd.V_mono HO_234003.out (fun _ hk => by first | trivial | exact hk | exact hk.1 | exact hk.2 | exact hk.1.1 | exact okw hk))), (by (with_reducible repeat (first | refine blk_drewN ?_ _ | refine blk_drew ?_ | refine blk_alloc ?_ _)); exact BK233.out), (by repeat (first | (with_reducible first | exact HB.out | apply below_alloc | apply pw_below_drewN | apply below_drew1 | refine below_set ?_ GE233.out) | exact HB.out)), fun _ => (by first | ((with_reducible repeat (first | apply Kd.R_alloc | apply Kd.R_drewN | apply Kd.R_drew)); exact HO236.out) | ((with_reducible repeat (first | apply Kd.R_alloc | apply Kd.R_drewN | apply Kd.R_drew)); exact Kd.R_mono HO236.out (fun _ hk => by first | trivial | exact hk | exact hk.1 | exact hk.2 | exact hk.1.1 | exact okw hk))), fun _ => (by first | ((with_reducible repeat (first | apply Kd.R_alloc | apply Kd.R_drewN | apply Kd.R_drew)); exact HO239.out) | ((with_reducible repeat (first | apply Kd.R_alloc | apply Kd.R_drewN | apply Kd.R_drew)); exact Kd.R_mono HO239.out (fun _ hk => by first | trivial | exact hk | exact hk.1 | exact hk.2 | exact hk.1.1 | exact okw hk))), fun _ _ => (by first | ((with_reducible repeat (first | apply Kd.N_alloc | apply Kd.N_drewN | apply Kd.N_drew)); exact HO242.out) | ((with_reducible repeat (first | apply Kd.N_alloc | apply Kd.N_drewN | apply Kd.N_drew)); exact Kd.N_mono HO242.out (fun _ hk => by first | trivial | exact hk | exact hk.1 | exact hk.2 | exact hk.1.1 | exact okw hk))), fun h0_ => absurd ((hoff 13 (by kernel_rfl)).symm.trans h0_) (by decide), fun h0_ => absurd ((hoff 14 (by kernel_rfl)).symm.trans h0_) (by decide)⟩
         refine steps_cons ?_ ?_
         ·rintro b a w' ⟨v235, v238, v241, v244, m14_, ha, Q_HO_234003, Q_BK233, Q_HB, Q_HO236, Q_HO239, Q_HO242, Q_HO245, Q_X14_⟩ hb_ hon hoff
          refine ⟨_, rfl, fun K hK => ?_⟩
          have e41 : a.tmps[41]? = some (v241) := by rw [ha]; exact putSel_on (e := (12, 41, v241)) 8 rfl rfl (hon 12 (by kernel_rfl)) rfl
          replace ha := Aside0.mk ha
          have HO_234003 := Aside0.mk Q_HO_234003
          have BK233 := Aside0.mk Q_BK233
          have HB := Aside0.mk Q_HB
          have HO236 := Aside0.mk (Q_HO236 (hon 6 (by kernel_rfl)))
          have HO239 := Aside0.mk (Q_HO239 (hon 9 (by kernel_rfl)))
          have HO242 := Aside0.mk (Q_HO242 (hon 12 (by kernel_rfl)) hb_)
          obtain ⟨Ao33, co33, eo33⟩ := Kd.N_slice HO242.out
          (first | subst eo33 | (injection eo33 with f1_ f2_ f3_; have f4_ := f1_.symm; have f5_ := f3_.symm; clear f1_ f2_ f3_; subst f4_; subst f5_))
          refine goes_ Try.func71 (by kernel_rfl) rfl #[.slice Ao33 y240.length co33] (by rfl) rfl rfl (by first | (simp only [List.map_toArray, List.map_cons, List.map_nil, Act.eval, Array.getD_eq_getD_getElem?, Option.getD_some, e41]; done) | (simp only [List.map_toArray, List.map_cons, List.map_nil, Act.eval, Array.getD_eq_getD_getElem?, Option.getD_some, e41]; rfl)) ?_
          with_reducible refine (word_Join.calls kj1 _ _ y240 t243 _ ?side1 ?side2 A15.out).mono ?_
          (case side1 => repeat (first | exact (Kd.N_reads' HO242.out).2.2 | (with_reducible refine Kd.C_alloc ?_ _) | (with_reducible refine Kd.C_drewN ?_ _) | (with_reducible refine Kd.C_drew ?_)))
          (case side2 => exact (Kd.N_reads' HO242.out).2.1)
          rintro e w34 ⟨v244, rfl, ho0, hb⟩
          refine ⟨_, rfl, ?_⟩
          have n0_ := Aside0.mk (Kd.V_elder' (by (with_reducible repeat (first | apply Kd.V_alloc | apply Kd.V_drewN | apply Kd.V_drew)); exact HO_234003.out) (Kd.R_base ho0) hb)
          have n1_ := Aside0.mk (Kd.R_elder' (by (with_reducible repeat (first | apply Kd.R_alloc | apply Kd.R_drewN | apply Kd.R_drew)); exact HO236.out) (Kd.R_base ho0) hb)
          have n2_ := Aside0.mk (Kd.R_elder' (by (with_reducible repeat (first | apply Kd.R_alloc | apply Kd.R_drewN | apply Kd.R_drew)); exact HO239.out) (Kd.R_base ho0) hb)
          have n3_ := Aside0.mk (Kd.N_elder' (by (with_reducible repeat (first | apply Kd.N_alloc | apply Kd.N_drewN | apply Kd.N_drew)); exact HO242.out) (Kd.R_base ho0) hb)
          have n4_ := Aside0.mk (Kd.R_lower (Kd.R_new' (Kd.R_new' (Kd.R_newM (M := fun k_ => (w.heap.size ≤ k_)) ho0 (below_size (by repeat (first | (with_reducible first | exact HB.out | apply below_alloc | apply pw_below_drewN | apply below_drew1 | refine below_set ?_ GE233.out) | exact HB.out))) (fun k_ h_ => h_)) (Kd.R_lt (by (with_reducible repeat (first | apply Kd.R_alloc | apply Kd.R_drewN | apply Kd.R_drew)); exact HO236.out))) (Kd.R_lt (by (with_reducible repeat (first | apply Kd.R_alloc | apply Kd.R_drewN | apply Kd.R_drew)); exact HO239.out))) (below_size (by repeat (first | (with_reducible first | exact HB.out | apply below_alloc | apply pw_below_drewN | apply below_drew1 | refine below_set ?_ GE233.out) | exact HB.out))))
          have n5_ := Aside0.mk (blk_below (g := gb233) (o := .cells #[.int .i64 a0_0, .int .i64 a0_1, .int .u32 a0_2, .slice A0_3 l0_3.length c0_3] 50 (0, 0)) (by (with_reducible repeat (first | refine blk_drewN ?_ _ | refine blk_drew ?_ | refine blk_alloc ?_ _)); exact BK233.out) hb)
          have n6_ := Aside0.mk (below_step (by repeat (first | (with_reducible first | exact HB.out | apply below_alloc | apply pw_below_drewN | apply below_drew1 | refine below_set ?_ GE233.out) | exact HB.out)) hb)
          clear HO_234003
          clear HO236
          clear HO239
          clear HO242
          clear BK233
          clear HB
          have HO_234003 := n0_
          have HO236 := n1_
          have HO239 := n2_
          have HO242 := n3_
          have HO245 := n4_
          have BK233 := n5_
          have HB := n6_
          clear n0_ n1_ n2_ n3_ n4_ n5_ n6_
          (try clear hb)
          (try clear hb2)
          (try clear hk)
          (try clear hi)
          (try clear ho0)
          refine hK.out _ _ ⟨v235, v238, .slice Ao33 y240.length co33, v244, m14_, (by rw [ha.out]; exact putSel_upk 9 hb_ rfl rfl rfl), (by first | ((with_reducible repeat (first | apply Kd.V_alloc | apply Kd.V_drewN | apply Kd.V_drew)); exact Kd.V_mono HO_234003.out (fun _ hk => by first | exact ⟨hk.1.1, ⟨hk.1.2.1, ⟨hk.1.2.2.1, ⟨hk.2, hk.1.2.2.2.2⟩⟩⟩⟩ | exact okw hk)) | ((with_reducible repeat (first | apply Kd.V_alloc | apply Kd.V_drewN | apply Kd.V_drew)); exact Kd.V_mono HO_234003.out (fun _ hk => by first | trivial | exact hk | exact hk.1 | exact hk.2 | exact hk.1.1 | exact okw hk))), (by (with_reducible repeat (first | refine blk_drewN ?_ _ | refine blk_drew ?_ | refine blk_alloc ?_ _)); exact BK233.out), (by repeat (first | (with_reducible first | exact HB.out | apply below_alloc | apply pw_below_drewN | apply below_drew1 | refine below_set ?_ GE233.out) | exact HB.out)), fun _ => (by first | ((with_reducible repeat (first | apply Kd.R_alloc | apply Kd.R_drewN | apply Kd.R_drew)); exact Kd.R_mono HO236.out (fun _ hk => by first | exact ⟨hk.1.1, ⟨hk.1.2, hk.2⟩⟩ | exact okw hk)) | ((with_reducible repeat (first | apply Kd.R_alloc | apply Kd.R_drewN | apply Kd.R_drew)); exact Kd.R_mono HO236.out (fun _ hk => by first | trivial | exact hk | exact hk.1 | exact hk.2 | exact hk.1.1 | exact okw hk))), fun _ => (by first | ((with_reducible repeat (first | apply Kd.R_alloc | apply Kd.R_drewN | apply Kd.R_drew)); exact Kd.R_mono HO239.out (fun _ hk => by first | exact ⟨hk.1.1, ⟨hk.1.2, hk.2⟩⟩ | exact okw hk)) | ((with_reducible repeat (first | apply Kd.R_alloc | apply Kd.R_drewN | apply Kd.R_drew)); exact Kd.R_mono HO239.out (fun _ hk => by first | trivial | exact hk | exact hk.1 | exact hk.2 | exact hk.1.1 | exact okw hk))), fun _ h1_ => absurd ((up_self b 13).symm.trans h1_) (by decide), fun _ => (by first | ((with_reducible repeat (first | apply Kd.R_alloc | apply Kd.R_drewN | apply Kd.R_drew)); exact Kd.R_mono HO245.out (fun _ hk => by first | exact ⟨hk.1.1.1, ⟨hk.1.2, hk.2⟩⟩ | exact okw hk)) | ((with_reducible repeat (first | apply Kd.R_alloc | apply Kd.R_drewN | apply Kd.R_drew)); exact Kd.R_mono HO245.out (fun _ hk => by first | trivial | exact hk | exact hk.1 | exact hk.2 | exact hk.1.1 | exact okw hk))), fun h0_ => absurd ((hoff 14 (by kernel_rfl)).symm.trans h0_) (by decide)⟩
         refine steps_cons ?_ ?_
         ·rintro b a w' ⟨v235, v238, v241, v244, m14_, ha, Q_HO_234003, Q_BK233, Q_HB, Q_HO236, Q_HO239, Q_HO242, Q_HO245, Q_X14_⟩ hb_ hon hoff
          refine ⟨_, rfl, fun K hK => ?_⟩
          have e42 : a.tmps[42]? = some (v244) := by rw [ha]; exact putSel_on (e := (13, 42, v244)) 9 rfl rfl (hon 13 (by kernel_rfl)) rfl
          replace ha := Aside0.mk ha
          have HO_234003 := Aside0.mk Q_HO_234003
          have BK233 := Aside0.mk Q_BK233
          have HB := Aside0.mk Q_HB
          have HO236 := Aside0.mk (Q_HO236 (hon 6 (by kernel_rfl)))
          have HO239 := Aside0.mk (Q_HO239 (hon 9 (by kernel_rfl)))
          have HO245 := Aside0.mk (Q_HO245 (hon 13 (by kernel_rfl)))
          refine value_ (w1 := w') (v := v244) (by rfl) rfl ?_ ?_
          ·go_simp
           (try simp only [i64_w])
           try rfl
          refine hK.out _ _ ⟨v235, v238, v241, v244, (v244), (by rw [ha.out]; exact putSel_upk 10 hb_ rfl rfl rfl), Q_HO_234003, Q_BK233, Q_HB, Q_HO236, Q_HO239, fun _ h1_ => absurd ((hon 13 (by kernel_rfl)).symm.trans h1_) (by decide), Q_HO245, fun _ => rfl⟩
         exact steps_nil
        rintro b a w34 hall ⟨v235, v238, v241, v244, m14_, ha, Q_HO_234003, Q_BK233, Q_HB, Q_HO236, Q_HO239, Q_HO242, Q_HO245, Q_X14_⟩
        clear BK233 HB HO_234003
        have hb1_ := hall 1 (by kernel_rfl)
        have hb2_ := hall 2 (by kernel_rfl)
        have hb4_ := hall 4 (by kernel_rfl)
        have hb5_ := hall 5 (by kernel_rfl)
        have hb6_ := hall 6 (by kernel_rfl)
        have hb8_ := hall 8 (by kernel_rfl)
        have hb9_ := hall 9 (by kernel_rfl)
        have hb11_ := hall 11 (by kernel_rfl)
        have hb12_ := hall 12 (by kernel_rfl)
        have hb13_ := hall 13 (by kernel_rfl)
        have hb14_ := hall 14 (by kernel_rfl)
        subst ha
        obtain rfl := Q_X14_ hb14_
        simp only [putSel, hb1_, hb2_, hb4_, hb5_, hb6_, hb8_, hb9_, hb11_, hb12_, hb13_, hb14_, if_true, Act.put, List.setIfInBounds_toArray, List.set_cons_zero, List.set_cons_succ]
        have HO_234003 := Aside0.mk Q_HO_234003
        clear Q_HO_234003
        have BK233 := Aside0.mk Q_BK233
        clear Q_BK233
        have HB := Aside0.mk Q_HB
        clear Q_HB
        have HO236 := Aside0.mk (Q_HO236 hb6_)
        clear Q_HO236
        have HO239 := Aside0.mk (Q_HO239 hb9_)
        clear Q_HO239
        clear Q_HO242
        have HO245 := Aside0.mk (Q_HO245 hb13_)
        clear Q_HO245
        clear hall hb1_ hb2_ hb4_ hb5_ hb6_ hb8_ hb9_ hb11_ hb12_ hb13_ hb14_
        obtain ⟨Ao35, co35, eo35⟩ := Kd.R_slice HO245.out
        subst eo35
        try go_upto_region 4 with fail
        have qL_ : (3 : Int) < (t243.length : Int) := of_decide_eq_true (by first | (with_reducible assumption) | assumption)
        obtain ⟨go20, co20, eo20, gb20, gl20, cl20, HG20⟩ := Kd.R_form HO245.out (by omega); (first | cases eo20 | (injection eo20 with ea_ en_ ec_; (first | subst ea_ | (injection ea_ with ea_; subst ea_)); subst ec_; clear en_)); have GB20 := Aside0.mk gb20; have GG20 := Aside0.mk HG20; clear gb20 gl20 HG20
        have n0_ := Aside0.mk (Kd.R_drew HO245.out)
        have n1_ := Aside0.mk (blk_drew BK233.out)
        have n2_ := Aside0.mk (below_drew1 HB.out)
        clear HO245 BK233 HB
        have HO245 := n0_
        have BK233 := n1_
        have HB := n2_
        clear n0_ n1_ n2_
        refine start_ (n := 7) (S := fun w' => True) (ds := []) #[false, false, false, false, false, false, false] (by kernel_rfl) rfl rfl trivial (fun hHeld => ?_)
        generalize w34.drew = w34 at HO245 BK233 HB hHeld ⊢
        have n0_ := Aside0.mk (Kd.R_mono (ok' := (fun k_ => (w.heap.size ≤ k_))) HO245.out (fun _ hk => by exact okw hk))
        clear HO245
        have HO245 := n0_
        clear n0_
        have qs_ : (2 : Int) ≤ (t243.length : Int) := by omega
        have qc_ : t243.length ≤ co35 := (Kd.R_reads' HO245.out).2.1
        have qd_ : ¬ (co35 = 2) := by omega
        have qe_ : ¬ (2 = co35) := by omega
        have qf_ : ¬ (co35 ≤ 2) := by omega
        have qg_ : (2 < co35) = True := eq_true (by omega)
        have qh_ : ¬ (co35 - 2 = 0) := by omega
        refine pure_ (i := 0) (N := some 43) (v := ?_) (a' := ?_) #[true, false, false, false, false, false, false] rfl rfl (by kernel_rfl) (fun _ _ _ h => h) (Or.inl ⟨by rfl, ?_⟩) ?_ ?_
        rotate_left
        ·intro w'
         go_simp
         with_reducible rfl
        rotate_left
        ·simp only [Act.put, List.setIfInBounds_toArray, List.set_cons_zero, List.set_cons_succ, i64_w, i32_w]
         rfl
        refine pure_ (i := 1) (N := some 44) (v := ?_) (a' := ?_) #[true, true, false, false, false, false, false] rfl rfl (by kernel_rfl) (fun _ _ _ h => h) (Or.inl ⟨by rfl, ?_⟩) ?_ ?_
        rotate_left
        ·intro w'
         go_simp
         with_reducible rfl
        rotate_left
        ·simp only [Act.put, List.setIfInBounds_toArray, List.set_cons_zero, List.set_cons_succ, i64_w, i32_w]
         rfl
        refine pure_ (i := 2) (N := some 45) (v := ?_) (a' := ?_) #[true, true, true, false, false, false, false] rfl rfl (by kernel_rfl) (fun _ _ _ h => h) (Or.inl ⟨by rfl, ?_⟩) ?_ ?_
        rotate_left
        ·intro w'
         go_simp
         with_reducible rfl
        rotate_left
        ·simp only [Act.put, List.setIfInBounds_toArray, List.set_cons_zero, List.set_cons_succ, i64_w, i32_w]
         rfl
        refine chain_ [3, 4, 5, 6] rfl (by kernel_rfl) (by kernel_rfl) ?_
        simp only [List.filterMap_cons, List.filterMap_nil, List.getElem?_toArray, List.getElem?_cons_succ, List.getElem?_cons_zero]
        ((with_reducible refine gate_dst (N := 46) rfl ?_); (try (refine gate_guard (by rfl) ?_; dsimp only)); refine Kd.N_lit (Kd.slice 5 (Kd.int .u8)) _ 24 ?hg (N' := 46) ?hd (xs := ([t243] : List (List Int))) (inner := [.slice (some ⟨go20, 0, none⟩) t243.length co35]) (ok := (fun k_ => (P0_3_ k_ ∨ w.heap.size ≤ k_) ∧ k_ ≠ gb233)) (okp := (fun k_ => (P0_3_ k_ ∨ w.heap.size ≤ k_) ∧ k_ ≠ gb233)) ?hr ?hp (fun _ hk => hk) ((show ∀ k_, w34.heap.size ≤ k_ → (fun k_ => (P0_3_ k_ ∨ w.heap.size ≤ k_) ∧ k_ ≠ gb233) k_ from fun k_ hk => ⟨(.inr (Nat.le_trans (below_size (by repeat (first | (with_reducible first | exact HB.out | apply below_alloc | apply pw_below_drewN | apply below_drew1 | refine below_set ?_ GE233.out) | exact HB.out))) hk)), Kd.freshB (g := gb233) (o := .cells #[.int .i64 a0_0, .int .i64 a0_1, .int .u32 a0_2, .slice A0_3 l0_3.length c0_3] 50 (0, 0)) (by (with_reducible repeat (first | refine blk_drewN ?_ _ | refine blk_drew ?_ | refine blk_alloc ?_ _)); exact BK233.out) k_ hk⟩) _ (Nat.le_refl _)) (Below.refl _ _) (Nat.le_refl _) (by simp) ?_; (case hd => rfl); (case hg => rfl); (case hr => first | (go_simp; done) | (go_simp; rfl)); (case hp => exact (Reps.one (show Kd.FK (Kd.slice 5 (Kd.int .u8)) _ _ t243 [.slice (some ⟨go20, 0, none⟩) t243.length co35] from (by first | exact Kd.FK_slice_mk (Kd.R_reads' (Kd.R_mono (ok' := (fun k_ => (P0_3_ k_ ∨ w.heap.size ≤ k_) ∧ k_ ≠ gb233)) (Kd.R_types (HO245.out) BK233.out (by decide)) (fun k_ hk => by first | exact ⟨(.inr (hk.1)), hk.2⟩ | exact okw hk))).2.1 (Kd.R_F (Kd.R_mono (ok' := (fun k_ => (P0_3_ k_ ∨ w.heap.size ≤ k_) ∧ k_ ≠ gb233)) (Kd.R_types (HO245.out) BK233.out (by decide)) (fun k_ hk => by first | exact ⟨(.inr (hk.1)), hk.2⟩ | exact okw hk))) | exact FK_slice_of (Kd.R_reads' (Kd.R_mono (ok' := (fun k_ => (P0_3_ k_ ∨ w.heap.size ≤ k_) ∧ k_ ≠ gb233)) (Kd.R_types (HO245.out) BK233.out (by decide)) (fun k_ hk => by first | exact ⟨(.inr (hk.1)), hk.2⟩ | exact okw hk))).1 (Kd.R_reads' (Kd.R_mono (ok' := (fun k_ => (P0_3_ k_ ∨ w.heap.size ≤ k_) ∧ k_ ≠ gb233)) (Kd.R_types (HO245.out) BK233.out (by decide)) (fun k_ hk => by first | exact ⟨(.inr (hk.1)), hk.2⟩ | exact okw hk))).2.1 (Kd.R_F (Kd.R_mono (ok' := (fun k_ => (P0_3_ k_ ∨ w.heap.size ≤ k_) ∧ k_ ≠ gb233)) (Kd.R_types (HO245.out) BK233.out (by decide)) (fun k_ hk => by first | exact ⟨(.inr (hk.1)), hk.2⟩ | exact okw hk))))) (Reps.none _ _))); intro v247 w36 ho37 hb hg_ hnew_; clear hg_ hnew_; (first | rw [← Ny246.out] at ho37 | (simp only [Int.reduceToNat] at ho37; rw [← Ny246.out] at ho37)); have n0_ := Aside0.mk (Kd.R_below (by (with_reducible repeat (first | apply Kd.R_alloc | apply Kd.R_drewN | apply Kd.R_drew)); exact HO245.out) hb); have n1_ := Aside0.mk (Kd.N_lower ho37 (below_size (by repeat (first | (with_reducible first | exact HB.out | apply below_alloc | apply pw_below_drewN | apply below_drew1 | refine below_set ?_ GE233.out) | exact HB.out)))); have n2_ := Aside0.mk (blk_below (g := gb233) (o := .cells #[.int .i64 a0_0, .int .i64 a0_1, .int .u32 a0_2, .slice A0_3 l0_3.length c0_3] 50 (0, 0)) (by (with_reducible repeat (first | refine blk_drewN ?_ _ | refine blk_drew ?_ | refine blk_alloc ?_ _)); exact BK233.out) hb); have n3_ := Aside0.mk (below_step (by repeat (first | (with_reducible first | exact HB.out | apply below_alloc | apply pw_below_drewN | apply below_drew1 | refine below_set ?_ GE233.out) | exact HB.out)) hb); clear HO245; clear BK233; clear HB; have HO245 := n0_; have HO248 := n1_; have BK233 := n2_; have HB := n3_; clear n0_ n1_ n2_ n3_; clear hb ho37; obtain ⟨Ao38, co38, eo38⟩ := Kd.N_slice HO248.out; subst eo38)
        (try simp only [Act.put, List.setIfInBounds_toArray, List.set_cons_zero, List.set_cons_succ])
        ((with_reducible refine gate_callee (f := 74) rfl ?_); refine goesL_ (some 47) rfl rfl Try.func74 (by kernel_rfl) rfl #[.slice Ao38 y246.length co38] rfl (by (try simp only [List.map_toArray, List.map_cons, List.map_nil]); first | done | rfl | (simp only [List.length_drop, List.length_take]; rfl)) ?_; (with_reducible refine (sum_Of.calls kj1 _ _ y246 t249 _ ?side1 ?side2 A16.out).mono ?_); (case side1 => repeat (first | exact (Kd.N_reads' HO248.out).2.2 | (with_reducible refine Kd.C_alloc ?_ _) | (with_reducible refine Kd.C_drewN ?_ _) | (with_reducible refine Kd.C_drew ?_))); (case side2 => exact (Kd.N_reads' HO248.out).2.1); rintro e w' ⟨rfl, ⟨nd, rfl⟩⟩; refine ⟨_, rfl, ?_⟩; (try (rw [drewN_self w36]; generalize hq_ : World.drewN w36 _ = w36; have n0_ : Aside0 (Kd.R (Kd.int .u8) 5 w36 w.heap.size (fun k_ => (w.heap.size ≤ k_)) (.slice (some ⟨go20, 0, none⟩) t243.length co35) t243) := ⟨by rw [← hq_]; exact (by (with_reducible repeat (first | apply Kd.R_alloc | apply Kd.R_drewN | apply Kd.R_drew)); exact HO245.out)⟩; have n1_ : Aside0 (Kd.N (Kd.slice 5 (Kd.int .u8)) 24 w36 w.heap.size (fun k_ => (P0_3_ k_ ∨ w.heap.size ≤ k_) ∧ k_ ≠ gb233) (.slice Ao38 y246.length co38) y246) := ⟨by rw [← hq_]; exact (by (with_reducible repeat (first | apply Kd.N_alloc | apply Kd.N_drewN | apply Kd.N_drew)); exact HO248.out)⟩; have n2_ : Aside0 (w36.heap[gb233]? = some (.cells #[.int .i64 a0_0, .int .i64 a0_1, .int .u32 a0_2, .slice A0_3 l0_3.length c0_3] 50 (0, 0))) := ⟨by rw [← hq_]; exact (by (with_reducible repeat (first | refine blk_drewN ?_ _ | refine blk_drew ?_ | refine blk_alloc ?_ _)); exact BK233.out)⟩; have n3_ : Aside0 (Below w.heap.size w w36) := ⟨by rw [← hq_]; exact (by repeat (first | (with_reducible first | exact HB.out | apply below_alloc | apply pw_below_drewN | apply below_drew1 | refine below_set ?_ GE233.out) | exact HB.out))⟩; clear HO245 HO248 BK233 HB hq_; have HO245 := n0_; have HO248 := n1_; have BK233 := n2_; have HB := n3_; clear n0_ n1_ n2_ n3_)))
        (try simp only [Act.put, List.setIfInBounds_toArray, List.set_cons_zero, List.set_cons_succ])
        ((with_reducible refine gate_callee (f := 73) rfl ?_); refine goesL_ (some 48) rfl rfl Try.func73 (by kernel_rfl) rfl #[.int .i64 t249] rfl (by (try simp only [List.map_toArray, List.map_cons, List.map_nil]); first | done | rfl | (simp only [List.length_drop, List.length_take]; rfl)) ?_; (with_reducible refine (word_Put16.calls t249 t250 _ A17.out).mono ?_); rintro e w39 ⟨v251, rfl, ho0, hb⟩; refine ⟨_, rfl, ?_⟩; have n0_ := Aside0.mk (Kd.R_elder' (by (with_reducible repeat (first | apply Kd.R_alloc | apply Kd.R_drewN | apply Kd.R_drew)); exact HO245.out) (Kd.R_base ho0) hb); have n1_ := Aside0.mk (Kd.R_lower (Kd.R_new' (Kd.R_newM (M := fun k_ => (w.heap.size ≤ k_)) ho0 (below_size (by repeat (first | (with_reducible first | exact HB.out | apply below_alloc | apply pw_below_drewN | apply below_drew1 | refine below_set ?_ GE233.out) | exact HB.out))) (fun k_ h_ => h_)) (Kd.R_lt (by (with_reducible repeat (first | apply Kd.R_alloc | apply Kd.R_drewN | apply Kd.R_drew)); exact HO245.out))) (below_size (by repeat (first | (with_reducible first | exact HB.out | apply below_alloc | apply pw_below_drewN | apply below_drew1 | refine below_set ?_ GE233.out) | exact HB.out)))); have n2_ := Aside0.mk (blk_below (g := gb233) (o := .cells #[.int .i64 a0_0, .int .i64 a0_1, .int .u32 a0_2, .slice A0_3 l0_3.length c0_3] 50 (0, 0)) (by (with_reducible repeat (first | refine blk_drewN ?_ _ | refine blk_drew ?_ | refine blk_alloc ?_ _)); exact BK233.out) hb); have n3_ := Aside0.mk (below_step (by repeat (first | (with_reducible first | exact HB.out | apply below_alloc | apply pw_below_drewN | apply below_drew1 | refine below_set ?_ GE233.out) | exact HB.out)) hb); clear HO245; clear BK233; clear HB; have HO245 := n0_; have HO252 := n1_; have BK233 := n2_; have HB := n3_; clear n0_ n1_ n2_ n3_; (try clear hb); (try clear hb2); (try clear hk); (try clear hi); (try clear ho0); obtain ⟨Ao40, co40, eo40⟩ := Kd.R_slice HO252.out; subst eo40; have p253 : 0 ≤ (0 : Int) := (by omega); have q253 : 0 < (t250.length : Int) := of_decide_eq_true (by first | (with_reducible assumption) | assumption); obtain ⟨ad253, e253, hx253_0⟩ := Kd.at_int (Kd.R_reads' HO252.out).2.2 0 p253 q253; cases e253; have qi253 : (0 < t250.length) = True := eq_true (by omega); (try rw [show ((0 : Int)).toNat = 0 from rfl] at hx253_0); (try rw [Addr.add_zero'] at hx253_0); replace p253 := eq_true p253; replace q253 := eq_true q253; have p20 : 0 ≤ (2 : Int) := (by omega); have q20 : (2 : Int) < ((t243.length : Int) : Int) := of_decide_eq_true (by first | (with_reducible assumption) | assumption); have qi20 : (2 < t243.length) = True := eq_true (by omega); obtain ⟨hx20_0, hf20_0⟩ := Kd.R_celln 0 HO245.out (2 : Int) p20 q20; (try rw [show ((2 : Int)).toNat = 2 from rfl] at hx20_0); (try simp only [Nat.reduceMul, Nat.zero_mul, Nat.zero_add, Nat.reduceAdd] at hx20_0); (try rw [show ((2 : Int)).toNat = 2 from rfl] at hf20_0); (try simp only [Nat.reduceMul, Nat.zero_mul, Nat.zero_add, Nat.reduceAdd] at hf20_0); replace p20 := eq_true p20; replace q20 := eq_true q20; obtain ⟨hy41_, hz41_⟩ := Kd.R_celln 0 HO245.out (2 : Int) (by omega) (of_decide_eq_true (by first | (with_reducible assumption) | assumption)); (try simp only [Int.reduceToNat, Int.toNat_zero, Int.toNat_ofNat, Nat.reduceMul, Nat.zero_mul, Nat.zero_add] at hy41_ hz41_); (try rw [show ((2 : Int)).toNat = 2 from rfl] at hy41_); (try rw [show ((2 : Int)).toNat = 2 from rfl] at hz41_); have HP41 := Kd.R_putg HO245.out (2 : Int) (rd t250 0))
        (try simp only [Act.put, List.setIfInBounds_toArray, List.set_cons_zero, List.set_cons_succ])
        ((first | (with_reducible refine gate_builtin (b := .copy) (xs := #[.tmp 44, .tmp 48]) rfl ?_) | skip); refine R_copy2 w.heap.size rfl (.tmp 44) (.tmp 48) 24 5 rfl Try.underlying24 (by kernel_rfl) go20 _ _ 2 _ t243 t250 _ _ (t243.length - 2) (co35 - 2) ?hd ?hdn rfl HO245.out (Kd.R_reads' HO252.out).2.2 ?hys ?hat ?_; (case hd => rfl); (case hdn => omega); (case hys => (have h_ := A17.out; unfold word_Put16.f at h_; cases h_; rfl)); (case hat => omega); intro w42 hw hg hp0_; have hp_ : Kd.R (Kd.int .u8) 5 w42 w.heap.size (fun k_ => (w.heap.size ≤ k_) ∧ some k_ ≠ (.slice (some ad253) t250.length co40 : Value).ownBlock) (.slice (some ⟨go20, 0, none⟩) t243.length co35) y256 := (by rw [Ny256.out, Ny254.out]; exact hp0_); clear HP41 hp0_; have n0_ := Aside0.mk (blk_grown (g := gb233) (o := .cells #[.int .i64 a0_0, .int .i64 a0_1, .int .u32 a0_2, .slice A0_3 l0_3.length c0_3] 50 (0, 0)) (by (with_reducible repeat (first | refine blk_drewN ?_ _ | refine blk_drew ?_ | refine blk_alloc ?_ _)); exact BK233.out) hg (Kd.R_ne HO245.out BK233.out (by decide))); have n1_ := Aside0.mk (hp_); have n2_ := Aside0.mk (Kd.R_after (v := (.slice (some ⟨go20, 0, none⟩) t243.length co35)) (v1 := (.slice (some ⟨go20, 0, none⟩) t243.length co35)) (ok := (fun k_ => (w.heap.size ≤ k_))) (by (with_reducible repeat (first | apply Kd.R_alloc | apply Kd.R_drewN | apply Kd.R_drew)); exact Kd.R_mono HO252.out (fun _ hk => by first | exact ⟨hk.1.1, hk.2⟩ | exact okw hk)) hg (.inl rfl)); have n3_ := Aside0.mk ((by rw [hw]; exact below_set (below_set (HB.out) GB20.out) GB20.out : Below w.heap.size w w42)); clear BK233; clear HO245; clear HO252; clear HB; have BK233 := n0_; have HO245 := n1_; have HO252 := n2_; have HB := n3_; clear n0_ n1_ n2_ n3_; clear hg hw hp_)
        (try simp only [Act.put, List.setIfInBounds_toArray, List.set_cons_zero, List.set_cons_succ])
        go_wp2
        go_ret2
        exact ⟨_, by first | rfl | (simp [errW_none, errW_some] <;> rfl) | (simp [*, errW_none, errW_some] <;> rfl), by (with_reducible repeat (first | apply Kd.R_alloc | apply Kd.R_drewN | apply Kd.R_drew)); exact Kd.R_mono HO245.out (fun _ hk => hk.1), by repeat (first | (with_reducible first | exact HB.out | apply below_alloc | apply pw_below_drewN | apply below_drew1 | refine below_set ?_ GE233.out) | exact HB.out)⟩
       ·rw [if_neg c22] at H
        exact absurd H (by simp)
      ·rw [if_neg c21] at H
       exact absurd H (by simp)
     ·rw [if_neg c19] at H
      exact absurd H (by simp)
    ·rw [if_neg c18] at H
     exact absurd H (by simp)

/-! ### icmp_Quote: function 48 -/
def icmp_Quote.f (l0 : List Int) : Option (List Int) := (ip_Header.f l0).bind fun t257 => (if 0 ≤ (mn (l0.length : Int) (wrap64 (t257 + 8))) then (if (mn (l0.length : Int) (wrap64 (t257 + 8))) ≤ (l0.length : Int) then ((bytes_Clone.f (l0.take ((mn (l0.length : Int) (wrap64 (t257 + 8))) : Int).toNat)).bind fun t259 => (some t259)) else (none)) else (none))
set_option maxHeartbeats 8000000 in
set_option maxRecDepth 100000 in
theorem icmp_Quote.calls (A0 : Option Addr) (c0 : Nat) (l0 : List Int) (r : List Int) (w : World) (hr0 : Kd.C (Kd.int .u8) w A0 l0.length l0) (hc0 : l0.length ≤ c0) (h : icmp_Quote.f l0 = some r) :
  Calls Try.prog 48 #[.slice A0 l0.length c0] w fun e w' => ∃ v0_ : Value, e = .returned (v0_) ∧ Kd.R (Kd.int .u8) 5 w' w.heap.size (fun _ => True) v0_ r ∧ Below w.heap.size w w' := by
 have HR0 := Aside0.mk hr0
 have HC0 := Aside0.mk hc0
 clear hr0 hc0
 have HB := Aside0.mk (Below.refl w.heap.size w)
 have H : ((ip_Header.f l0).bind fun t257 => (if 0 ≤ (mn (l0.length : Int) (wrap64 (t257 + 8))) then (if (mn (l0.length : Int) (wrap64 (t257 + 8))) ≤ (l0.length : Int) then ((bytes_Clone.f (l0.take ((mn (l0.length : Int) (wrap64 (t257 + 8))) : Int).toNat)).bind fun t259 => (some t259)) else (none)) else (none))) = some r := h
 clear h
 replace H := Option.bind_eq_some_iff.mp H
 obtain ⟨t257, A20, H⟩ := H
 replace H : (if 0 ≤ (mn (l0.length : Int) (wrap64 (t257 + 8))) then (if (mn (l0.length : Int) (wrap64 (t257 + 8))) ≤ (l0.length : Int) then ((bytes_Clone.f (l0.take ((mn (l0.length : Int) (wrap64 (t257 + 8))) : Int).toNat)).bind fun t259 => (some t259)) else (none)) else (none)) = some r := H
 have A2 := Aside0.mk A20
 clear A20
 obtain ⟨ji3, hji3⟩ : ∃ j_ : Int, (mn (l0.length : Int) (wrap64 (t257 + 8))) = j_ := ⟨_, rfl⟩
 replace H : (if 0 ≤ (ji3) then (if (ji3) ≤ (l0.length : Int) then ((bytes_Clone.f (l0.take ((ji3) : Int).toNat)).bind fun t259 => (some t259)) else (none)) else (none)) = some r := by first | (rw [hji3] at H; exact H) | (simp only [hji3] at H ⊢; exact H)
 (try rw [hji3] at A2)
 have hji3_ : (if (wrap64 (t257 + 8)) < (l0.length : Int) then (wrap64 (t257 + 8)) else (l0.length : Int)) = ji3 := hji3
 by_cases c4 : 0 ≤ (ji3)
 ·rw [if_pos c4] at H
  have c4b0 := eq_true c4
  have c4b1 : decide (0 ≤ (ji3)) = true := decide_eq_true c4
  clear c4
  by_cases c5 : (ji3) ≤ (l0.length : Int)
  ·rw [if_pos c5] at H
   have c5b0 := eq_true c5
   have c5b1 : decide ((ji3) ≤ (l0.length : Int)) = true := decide_eq_true c5
   clear c5
   replace H := Option.bind_eq_some_iff.mp H
   obtain ⟨t259, A60, H⟩ := H
   replace H : (some t259) = some r := H
   have A6 := Aside0.mk A60
   clear A60
   obtain rfl := Option.some.inj H
   go_enter Try.func48, Try.ntmps48
   go_wp2_with (first | ((with_reducible refine gate_callee (f := 68) rfl ?_); refine goesL_ (some 7) rfl rfl Try.func68 (by kernel_rfl) rfl #[.slice A0 l0.length c0] rfl (by (try simp only [List.map_toArray, List.map_cons, List.map_nil]); first | done | rfl | (simp only [List.length_drop, List.length_take]; rfl)) ?_; (with_reducible refine (ip_Header.calls _ _ l0 t257 _ ?side1 ?side2 A2.out).mono ?_); (case side1 => repeat (first | exact HR0.out | (with_reducible refine Kd.C_alloc ?_ _) | (with_reducible refine Kd.C_drewN ?_ _) | (with_reducible refine Kd.C_drew ?_))); (case side2 => exact HC0.out); rintro e w' ⟨rfl, ⟨nd, rfl⟩⟩; refine ⟨_, rfl, ?_⟩; obtain ⟨i07, hi07, _, hsz7, _⟩ := info_parts info5; obtain ⟨hcut7, hA7, hC7⟩ := print_take_of (P := Try.prog) (Value.int .u8) 0 24 5 .i64 Try.underlying24 hi07 hsz7 A0 c0 l0 (ji3) (of_decide_eq_true (by first | (with_reducible assumption) | assumption)) (of_decide_eq_true (by first | (with_reducible assumption) | assumption)) HC0.out; have HR258 := Aside0.mk (Kd.C_of_reads (h1 := fun _ => rfl) (hA7 _ (Kd.reads_of_C HR0.out))); have HC258 := Aside0.mk hC7; clear hA7 hC7 hi07 hsz7) | ((with_reducible refine gate_callee (f := 70) rfl ?_); refine goesL_ (some 11) rfl rfl Try.func70 (by kernel_rfl) rfl #[.slice A0 (l0.take ((ji3) : Int).toNat).length c0] rfl (by (try simp only [List.map_toArray, List.map_cons, List.map_nil]); first | done | (rw [show (l0.take ((ji3) : Int).toNat).length = (ji3).toNat from (by rw [List.length_take]; have h_ : ((ji3) : Int) ≤ (l0.length : Int) := of_decide_eq_true (by first | (with_reducible assumption) | assumption); omega)] <;> rfl) | (simp only [hji3]; rfl) | rfl | (simp only [List.length_drop, List.length_take]; rfl)) ?_; (with_reducible refine (bytes_Clone.calls _ _ (l0.take ((ji3) : Int).toNat) t259 _ ?side1 ?side2 A6.out).mono ?_); (case side1 => repeat (first | exact HR258.out | (with_reducible refine Kd.C_alloc ?_ _) | (with_reducible refine Kd.C_drewN ?_ _) | (with_reducible refine Kd.C_drew ?_))); (case side2 => exact HC258.out); rintro e w8 ⟨v260, rfl, ho0, hb⟩; refine ⟨_, rfl, ?_⟩; have n0_ := Aside0.mk (Kd.R_lower ho0 (below_size (by repeat (first | (with_reducible first | exact HB.out | apply below_alloc | apply pw_below_drewN | apply below_drew1) | exact HB.out)))); have n1_ := Aside0.mk (below_step (by repeat (first | (with_reducible first | exact HB.out | apply below_alloc | apply pw_below_drewN | apply below_drew1) | exact HB.out)) hb); clear HB; have HO261 := n0_; have HB := n1_; clear n0_ n1_; (try clear hb); (try clear hb2); (try clear hk); (try clear hi); (try clear ho0)))
   go_ret
   exact ⟨_, by first | rfl | (simp [errW_none, errW_some] <;> rfl) | (simp only [← hji3]; first | rfl | (simp [errW_none, errW_some] <;> rfl)) | (simp [*, errW_none, errW_some] <;> rfl), by (with_reducible repeat (first | apply Kd.R_alloc | apply Kd.R_drewN | apply Kd.R_drew)); exact HO261.out, by repeat (first | (with_reducible first | exact HB.out | apply below_alloc | apply pw_below_drewN | apply below_drew1) | exact HB.out)⟩
  ·rw [if_neg c5] at H
   exact absurd H (by simp)
 ·rw [if_neg c4] at H
  exact absurd H (by simp)

/-! ### ip_isByte: function 76 -/
def ip_isByte.f (a0 : Int) : Option (Bool) := if a0 ≥ 0 then (some (decide (a0 ≤ 255))) else (some false)
set_option maxHeartbeats 8000000 in
set_option maxRecDepth 100000 in
theorem ip_isByte.calls (a0 : Int) (r : Bool) (w : World) (h : ip_isByte.f a0 = some r) :
  Calls Try.prog 76 #[.int .i64 a0] w fun e w' => e = .returned (.bool r) ∧ Drawn0 w w' := by
 have H : (if a0 ≥ 0 then (some (decide (a0 ≤ 255))) else (some false)) = some r := h
 clear h
 by_cases c2 : a0 ≥ 0
 ·rw [if_pos c2] at H
  have c2b0 : decide (0 ≤ a0) = true := decide_eq_true c2
  clear c2
  obtain rfl := Option.some.inj H
  go_enter Try.func76, Try.ntmps76
  go_wp2
  go_ret
  exact ⟨by first | rfl | (simp; done) | (simp [*]; done), by repeat (first | exact Drawn0.refl _ | apply Drawn0.step)⟩
 ·rw [if_neg c2] at H
  have c2b0 : decide (0 ≤ a0) = false := decide_eq_false c2
  clear c2
  obtain rfl := Option.some.inj H
  go_enter Try.func76, Try.ntmps76
  go_wp2
  go_ret
  exact ⟨by first | rfl | (simp; done) | (simp [*]; done), by repeat (first | exact Drawn0.refl _ | apply Drawn0.step)⟩

end Go.Proofs.Ytkdibloahkhgoaa.QReplyPackets
