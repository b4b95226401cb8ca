-- written by myprint.py, a program of this session's over the kit's printer
import Derived.Test.YtbpnienknijogaaQUdpCutx0
import Derived.Test.YtbpnienknijogaaQUdpCutx1
namespace Go.Proofs.Ytbpnienknijogaa.QUdpCut
open Go.RowKit Go.Proofs.YtbpnienknijogaaW.PrintWords Go.Proofs.YtbpnienknijogaaW.PrintLast Go.Proofs.YtbpnienknijogaaW.PrintMore
attribute [local go_sem] max2_int min2_int max_two min_two max_three min_three max_four min_four   -- for this text's walks alone
set_option linter.unusedVariables false
set_option linter.unusedSimpArgs false

/-! ### udp_Build: function 15 -/
def udp_Build.j0 : Nat → Int → Int → Bool → Int → Int → List Int → Option (List Int × Int)
  | 0, _, _, _, _, _, _ => none
  | k + 1, x0, x1, x33, x136000, x136001, x136002 => if x33 = true then (some (([] : List Int), 1)) else ((word_Put16.f x136000).bind fun t136 => ((word_Put16.f x136001).bind fun t139 => ((word_Put16.f (wrap64 (8 + (x136002.length : Int)))).bind fun t142 => ((word_Join.f k (([t136, t139, t142, (([0, 0] : List Int)), x136002] : List (List Int)))).bind fun t151 => ((sum_Pseudo.f k x0 x1 17 (t151.length : Int)).bind fun t154 => ((sum_Of.f k (([t154, t151] : List (List Int)))).bind fun t160 => (if t160 = 0 then ((word_Put16.f 65535).bind fun t161 => (if 0 < (t161.length : Int) then (if 6 < (t151.length : Int) then (if 1 < (t161.length : Int) then (if 7 < (t151.length : Int) then (some (((t151.set (6 : Int).toNat (rd t161 0)).set (7 : Int).toNat (rd t161 1)), 0)) else (none)) else (none)) else (none)) else (none))) else ((word_Put16.f t160).bind fun t168 => (if 0 < (t168.length : Int) then (if 6 < (t151.length : Int) then (if 1 < (t168.length : Int) then (if 7 < (t151.length : Int) then (some (((t151.set (6 : Int).toNat (rd t168 0)).set (7 : Int).toNat (rd t168 1)), 0)) else (none)) else (none)) else (none)) else (none))))))))))
def udp_Build.f (k : Nat) (a0 : Int) (a1 : Int) (a2_0 : Int) (a2_1 : Int) (l2_2 : List Int) : Option (List Int × Int) := if a2_0 < 0 then (udp_Build.j0 k a0 a1 true a2_0 a2_1 l2_2) else (if a2_0 > 65535 then (udp_Build.j0 k a0 a1 true a2_0 a2_1 l2_2) else (if a2_1 < 0 then (udp_Build.j0 k a0 a1 true a2_0 a2_1 l2_2) else (if a2_1 > 65535 then (udp_Build.j0 k a0 a1 true a2_0 a2_1 l2_2) else (udp_Build.j0 k a0 a1 (decide ((l2_2.length : Int) > 65000)) a2_0 a2_1 l2_2))))
theorem udp_Build.mono_l : ∀ k, (∀ y0 y1 y2 y3 y4 y5, LeO (udp_Build.j0 k y0 y1 y2 y3 y4 y5) (udp_Build.j0 (k + 1) y0 y1 y2 y3 y4 y5))
  | 0 => fun _ _ _ _ _ _ r h => by simp [udp_Build.j0] at h
  | k + 1 => by
    have ih0 := udp_Build.mono_l k
    · intro y0 y1 y2 y3 y4 y5
      unfold udp_Build.j0
      repeat' first
      | (with_reducible exact ih0 _ _ _ _ _ _)
      | (with_reducible exact sum_Of.mono _ _)
      | (with_reducible exact sum_Pseudo.mono _ _ _ _ _)
      | (with_reducible exact word_Join.mono _ _)
      | (with_reducible exact LeO.refl _)
      | (with_reducible exact LeO.none _)
      | (with_reducible refine LeO.ite ?_ ?_)
      | (with_reducible refine LeO.bind ?_ (fun _ => ?_))
      | exact ih0 _ _ _ _ _ _
      | exact sum_Of.mono _ _
      | exact sum_Pseudo.mono _ _ _ _ _
      | exact word_Join.mono _ _
      | exact LeO.none _
      | refine LeO.ite ?_ ?_
      | refine LeO.bind ?_ (fun _ => ?_)
theorem udp_Build.mono : ∀ a0 a1 a2 a3 a4 k, LeO (udp_Build.f k a0 a1 a2 a3 a4) (udp_Build.f (k + 1) a0 a1 a2 a3 a4) := by
  intro a0 a1 a2 a3 a4 k
  have ih0 := udp_Build.mono_l k
  unfold udp_Build.f
  repeat' first
      | (with_reducible exact ih0 _ _ _ _ _ _)
      | (with_reducible exact sum_Of.mono _ _)
      | (with_reducible exact sum_Pseudo.mono _ _ _ _ _)
      | (with_reducible exact word_Join.mono _ _)
      | (with_reducible exact LeO.refl _)
      | (with_reducible exact LeO.none _)
      | (with_reducible refine LeO.ite ?_ ?_)
      | (with_reducible refine LeO.bind ?_ (fun _ => ?_))
      | exact ih0 _ _ _ _ _ _
      | exact sum_Of.mono _ _
      | exact sum_Pseudo.mono _ _ _ _ _
      | exact word_Join.mono _ _
      | exact LeO.none _
      | refine LeO.ite ?_ ?_
      | refine LeO.bind ?_ (fun _ => ?_)
def udp_Build.T3 : Bool × List (List Nat × List Nat) := (true, [([], []), ([0], [0]), ([1], [1]), ([], []), ([3], [3]), ([4, 2], [4]), ([], []), ([6], [6]), ([7], [7]), ([8], [8]), ([9, 5], [9]), ([], []), ([], []), ([12], [12]), ([2, 5, 10, 11, 13], [2, 5, 10, 11, 13]), ([14, 10], [14]), ([15, 15, 0, 1, 2, 3, 4, 5, 6, 7, 8, 9, 10, 11, 12, 13, 14, 15], [15])])
def udp_Build.B3 : List Nat := [0, 1, 3, 0, 8, 31, 0, 64, 192, 448, 1023, 0, 0, 4096, 16383, 32767, 65535]
theorem udp_Build.tab3 : rtab .any (opsOf Try.f15 3) = udp_Build.T3 := by kernel_rfl
theorem udp_Build.bits3 : waitsOk udp_Build.T3.2 udp_Build.B3 = true := by kernel_rfl
set_option maxHeartbeats 8000000 in
set_option maxRecDepth 100000 in
theorem udp_Build.calls (k : Nat) (a0 : Int) (a1 : Int) (a2_0 : Int) (a2_1 : Int) (P2_2_ : Nat → Prop) (A2_2 : Option Addr) (c2_2 : Nat) (l2_2 : List Int) (r1 : List Int) (r2 : Int) (w : World) (hs2_2 : Kd.V (Kd.int .u8) 5 w w.heap.size (fun k_ => P2_2_ k_) (.slice A2_2 l2_2.length c2_2) l2_2) (h : udp_Build.f k a0 a1 a2_0 a2_1 l2_2 = some (r1, r2)) :
    Calls Try.prog 15 #[.int .u32 a0, .int .u32 a1, .agg #[.int .i64 a2_0, .int .i64 a2_1, .slice A2_2 l2_2.length c2_2]] w fun e w' => ∃ v0_ : Value, e = .returned (.tuple #[v0_, .int .i64 r2]) ∧ Kd.R (Kd.int .u8) 5 w' w.heap.size (fun k_ => (w.heap.size ≤ k_)) v0_ r1 ∧ Below w.heap.size w w' := by
  have hu26 := Try.underlying26
  have HO2_2 := Aside0.mk (show Kd.V (Kd.int .u8) 5 w w.heap.size (fun k_ => (P2_2_ k_ ∨ w.heap.size ≤ k_)) (.slice A2_2 l2_2.length c2_2) l2_2 from Kd.V_mono hs2_2 (fun k_ hk => by first | exact .inl hk | exact okw hk))
  have HB := Aside0.mk (Below.refl w.heap.size w)
  have H : (if a2_0 < 0 then (udp_Build.j0 k a0 a1 true a2_0 a2_1 l2_2) else (if a2_0 > 65535 then (udp_Build.j0 k a0 a1 true a2_0 a2_1 l2_2) else (if a2_1 < 0 then (udp_Build.j0 k a0 a1 true a2_0 a2_1 l2_2) else (if a2_1 > 65535 then (udp_Build.j0 k a0 a1 true a2_0 a2_1 l2_2) else (udp_Build.j0 k a0 a1 (decide ((l2_2.length : Int) > 65000)) a2_0 a2_1 l2_2))))) = some (r1, r2) := h
  clear h
  have HC4 := Aside0.mk H
  clear H
  go_enter Try.func15, Try.ntmps15
  go_upto_region 1 with (first | ((with_reducible refine gate_dst (N := 5) rfl ?_); (try (refine gate_guard (by rfl) ?_; dsimp only)); refine box_event ?hg (N := 5) ?hd (cs := #[.int .i64 a2_0, .int .i64 a2_1, .slice A2_2 l2_2.length c2_2]) (t := 26) ?hr ?_; (case hd => rfl); (case hg => rfl); (case hr => first | (go_simp; done) | (go_simp; rfl)); intro gb135 hg w5 hbox hb; have n0_ := Aside0.mk (Kd.V_below (Kd.V_elderB (by (with_reducible repeat (first | apply Kd.V_alloc | apply Kd.V_drewN | apply Kd.V_drew)); exact HO2_2.out) gb135 (Nat.le_of_eq hg.symm)) hb); have n1_ := Aside0.mk (below_step (by repeat (first | (with_reducible first | exact HB.out | apply below_alloc | apply pw_below_drewN | apply below_drew1) | exact HB.out)) hb); have n2_ := Aside0.mk (hbox); have n3_ := Aside0.mk ((by rw [hg]; exact (below_size (by repeat (first | (with_reducible first | exact HB.out | apply below_alloc | apply pw_below_drewN | apply below_drew1) | exact HB.out))) : w.heap.size ≤ gb135)); have n4_ := Aside0.mk ((by rw [hg]; exact (below_size (by repeat (first | (with_reducible first | exact HB.out | apply below_alloc | apply pw_below_drewN | apply below_drew1) | exact HB.out))) : w.heap.size ≤ gb135)); clear HO2_2; clear HB; have HO2_2 := n0_; have HB := n1_; have BK135 := n2_; have GW135 := n3_; have GE135 := n4_; clear n0_ n1_ n2_ n3_ n4_; clear hb hbox hg))
  (try simp only [Act.put, List.setIfInBounds_toArray, List.set_cons_zero, List.set_cons_succ])
  go_cut [33] (fun v33 wc => ∃ (kq : Nat) (x33_3 : Bool), v33 = .bool x33_3 ∧ Aside0 (udp_Build.j0 kq a0 a1 x33_3 a2_0 a2_1 l2_2 = some (r1, r2)) ∧ Aside0 (kq ≤ k) ∧ Aside0 (Kd.V (Kd.int .u8) 5 wc w.heap.size (fun k_ => (P2_2_ k_ ∨ w.heap.size ≤ k_) ∧ k_ ≠ gb135) (.slice A2_2 l2_2.length c2_2) l2_2) ∧ Aside0 (wc.heap[gb135]? = some (.cells #[.int .i64 a2_0, .int .i64 a2_1, (.slice A2_2 l2_2.length c2_2)] 26 (0, 0))) ∧ Aside0 (Below w.heap.size w wc))
  case first =>
    have H := HC4.out
    clear HC4
    by_cases c6 : a2_0 < 0
    · rw [if_pos c6] at H
      have c6b0 : decide (a2_0 < 0) = true := decide_eq_true c6
      clear c6
      (first | rw [c6b0] | (simp only [i64_w, i32_w]; rw [c6b0]) | skip)
      have H' := Aside0.mk H
      clear H
      have hcz7_0 : w5.cell? ⟨gb135, 0, none⟩ = some (.int .i64 a2_0) := (blk_cell BK135.out 0).trans rfl
      have hcz7_1 : w5.cell? ⟨gb135, 1, none⟩ = some (.int .i64 a2_1) := (blk_cell BK135.out 1).trans rfl
      have hcz7_2 : w5.cell? ⟨gb135, 2, none⟩ = some (.slice A2_2 l2_2.length c2_2) := (blk_cell BK135.out 2).trans rfl
      have hfz7_0 := blk_frozen BK135.out 0
      have hfz7_1 := blk_frozen BK135.out 1
      have hfz7_2 := blk_frozen BK135.out 2
      go_wp2
      go_meet
      case rel => exact ⟨_, (true), (by first | rfl | (simp; done) | (simp [*]; done)), H', ⟨by first | omega | exact Nat.le_refl _⟩, ⟨by (with_reducible repeat (first | apply Kd.V_alloc | apply Kd.V_drewN | apply Kd.V_drew)); exact HO2_2.out⟩, ⟨by (with_reducible repeat (first | refine blk_drewN ?_ _ | refine blk_drew ?_ | refine blk_alloc ?_ _)); exact BK135.out⟩, ⟨by repeat (first | (with_reducible first | exact HB.out | apply below_alloc | apply pw_below_drewN | apply below_drew1 | refine below_set ?_ GE135.out) | exact HB.out)⟩⟩
    · rw [if_neg c6] at H
      have c6b0 : decide (a2_0 < 0) = false := decide_eq_false c6
      clear c6
      (first | rw [c6b0] | (simp only [i64_w, i32_w]; rw [c6b0]) | skip)
      by_cases c8 : a2_0 > 65535
      · rw [if_pos c8] at H
        have c8b0 : decide (65535 < a2_0) = true := decide_eq_true c8
        clear c8
        have H' := Aside0.mk H
        clear H
        have hcz9_0 : w5.cell? ⟨gb135, 0, none⟩ = some (.int .i64 a2_0) := (blk_cell BK135.out 0).trans rfl
        have hcz9_1 : w5.cell? ⟨gb135, 1, none⟩ = some (.int .i64 a2_1) := (blk_cell BK135.out 1).trans rfl
        have hcz9_2 : w5.cell? ⟨gb135, 2, none⟩ = some (.slice A2_2 l2_2.length c2_2) := (blk_cell BK135.out 2).trans rfl
        have hfz9_0 := blk_frozen BK135.out 0
        have hfz9_1 := blk_frozen BK135.out 1
        have hfz9_2 := blk_frozen BK135.out 2
        go_wp2
        go_meet
        case rel => exact ⟨_, (true), (by first | rfl | (simp; done) | (simp [*]; done)), H', ⟨by first | omega | exact Nat.le_refl _⟩, ⟨by (with_reducible repeat (first | apply Kd.V_alloc | apply Kd.V_drewN | apply Kd.V_drew)); exact HO2_2.out⟩, ⟨by (with_reducible repeat (first | refine blk_drewN ?_ _ | refine blk_drew ?_ | refine blk_alloc ?_ _)); exact BK135.out⟩, ⟨by repeat (first | (with_reducible first | exact HB.out | apply below_alloc | apply pw_below_drewN | apply below_drew1 | refine below_set ?_ GE135.out) | exact HB.out)⟩⟩
      · rw [if_neg c8] at H
        have c8b0 : decide (65535 < a2_0) = false := decide_eq_false c8
        clear c8
        by_cases c10 : a2_1 < 0
        · rw [if_pos c10] at H
          have c10b0 : decide (a2_1 < 0) = true := decide_eq_true c10
          clear c10
          have H' := Aside0.mk H
          clear H
          have hcz11_0 : w5.cell? ⟨gb135, 0, none⟩ = some (.int .i64 a2_0) := (blk_cell BK135.out 0).trans rfl
          have hcz11_1 : w5.cell? ⟨gb135, 1, none⟩ = some (.int .i64 a2_1) := (blk_cell BK135.out 1).trans rfl
          have hcz11_2 : w5.cell? ⟨gb135, 2, none⟩ = some (.slice A2_2 l2_2.length c2_2) := (blk_cell BK135.out 2).trans rfl
          have hfz11_0 := blk_frozen BK135.out 0
          have hfz11_1 := blk_frozen BK135.out 1
          have hfz11_2 := blk_frozen BK135.out 2
          go_wp2
          go_meet
          case rel => exact ⟨_, (true), (by first | rfl | (simp; done) | (simp [*]; done)), H', ⟨by first | omega | exact Nat.le_refl _⟩, ⟨by (with_reducible repeat (first | apply Kd.V_alloc | apply Kd.V_drewN | apply Kd.V_drew)); exact HO2_2.out⟩, ⟨by (with_reducible repeat (first | refine blk_drewN ?_ _ | refine blk_drew ?_ | refine blk_alloc ?_ _)); exact BK135.out⟩, ⟨by repeat (first | (with_reducible first | exact HB.out | apply below_alloc | apply pw_below_drewN | apply below_drew1 | refine below_set ?_ GE135.out) | exact HB.out)⟩⟩
        · rw [if_neg c10] at H
          have c10b0 : decide (a2_1 < 0) = false := decide_eq_false c10
          clear c10
          by_cases c12 : a2_1 > 65535
          · rw [if_pos c12] at H
            have c12b0 : decide (65535 < a2_1) = true := decide_eq_true c12
            clear c12
            have H' := Aside0.mk H
            clear H
            have hcz13_0 : w5.cell? ⟨gb135, 0, none⟩ = some (.int .i64 a2_0) := (blk_cell BK135.out 0).trans rfl
            have hcz13_1 : w5.cell? ⟨gb135, 1, none⟩ = some (.int .i64 a2_1) := (blk_cell BK135.out 1).trans rfl
            have hcz13_2 : w5.cell? ⟨gb135, 2, none⟩ = some (.slice A2_2 l2_2.length c2_2) := (blk_cell BK135.out 2).trans rfl
            have hfz13_0 := blk_frozen BK135.out 0
            have hfz13_1 := blk_frozen BK135.out 1
            have hfz13_2 := blk_frozen BK135.out 2
            go_wp2
            go_meet
            case rel => exact ⟨_, (true), (by first | rfl | (simp; done) | (simp [*]; done)), H', ⟨by first | omega | exact Nat.le_refl _⟩, ⟨by (with_reducible repeat (first | apply Kd.V_alloc | apply Kd.V_drewN | apply Kd.V_drew)); exact HO2_2.out⟩, ⟨by (with_reducible repeat (first | refine blk_drewN ?_ _ | refine blk_drew ?_ | refine blk_alloc ?_ _)); exact BK135.out⟩, ⟨by repeat (first | (with_reducible first | exact HB.out | apply below_alloc | apply pw_below_drewN | apply below_drew1 | refine below_set ?_ GE135.out) | exact HB.out)⟩⟩
          · rw [if_neg c12] at H
            have c12b0 : decide (65535 < a2_1) = false := decide_eq_false c12
            clear c12
            have H' := Aside0.mk H
            clear H
            have hcz14_0 : w5.cell? ⟨gb135, 0, none⟩ = some (.int .i64 a2_0) := (blk_cell BK135.out 0).trans rfl
            have hcz14_1 : w5.cell? ⟨gb135, 1, none⟩ = some (.int .i64 a2_1) := (blk_cell BK135.out 1).trans rfl
            have hcz14_2 : w5.cell? ⟨gb135, 2, none⟩ = some (.slice A2_2 l2_2.length c2_2) := (blk_cell BK135.out 2).trans rfl
            have hfz14_0 := blk_frozen BK135.out 0
            have hfz14_1 := blk_frozen BK135.out 1
            have hfz14_2 := blk_frozen BK135.out 2
            go_wp2
            go_meet
            case rel => exact ⟨_, (decide ((l2_2.length : Int) > 65000)), (by first | rfl | (simp; done) | (simp [*]; done)), H', ⟨by first | omega | exact Nat.le_refl _⟩, ⟨by (with_reducible repeat (first | apply Kd.V_alloc | apply Kd.V_drewN | apply Kd.V_drew)); exact HO2_2.out⟩, ⟨by (with_reducible repeat (first | refine blk_drewN ?_ _ | refine blk_drew ?_ | refine blk_alloc ?_ _)); exact BK135.out⟩, ⟨by repeat (first | (with_reducible first | exact HB.out | apply below_alloc | apply pw_below_drewN | apply below_drew1 | refine below_set ?_ GE135.out) | exact HB.out)⟩⟩
  case rest =>
    clear HC4
    try clear c1
    try clear c2
    try clear p2
    try clear c6
    try clear c6b0
    try clear c8
    try clear c8b0
    try clear c10
    try clear c10b0
    try clear c12
    try clear c12b0
    try clear hcz11_0
    try clear hcz11_1
    try clear hcz11_2
    try clear hcz13_0
    try clear hcz13_1
    try clear hcz13_2
    try clear hcz14_0
    try clear hcz14_1
    try clear hcz14_2
    try clear hcz7_0
    try clear hcz7_1
    try clear hcz7_2
    try clear hcz9_0
    try clear hcz9_1
    try clear hcz9_2
    try clear hfz11_0
    try clear hfz11_1
    try clear hfz11_2
    try clear hfz13_0
    try clear hfz13_1
    try clear hfz13_2
    try clear hfz14_0
    try clear hfz14_1
    try clear hfz14_2
    try clear hfz7_0
    try clear hfz7_1
    try clear hfz7_2
    try clear hfz9_0
    try clear hfz9_1
    try clear hfz9_2
    obtain ⟨kq, x33_3, rfl, HA, HJ3, HO_136002, BK135, HB⟩ := hcut
    cases kq with
    | zero => exact absurd HA.out (by simp [udp_Build.j0])
    | succ kj3 =>
      have H := HA.out
      clear HA
      simp only [udp_Build.j0] at H
      by_cases c15 : x33_3 = true
      · subst c15
        have H1 : (some (([] : List Int), 1)) = some (r1, r2) := by rw [if_pos rfl] at H; exact H
        clear H
        have H := H1
        clear H1
        simp only [Option.some.injEq, Prod.mk.injEq] at H
        obtain ⟨rfl, rfl⟩ := H
        go_wp2
        go_ret2
        exact ⟨_, by first | rfl | (simp [errW_none, errW_some] <;> rfl) | (simp [*, errW_none, errW_some] <;> rfl), by first | exact Kd.R_nil _ _ _ _ _ | exact Kd.N_nil _ _ _ _ _ | exact Kd.V_nil _ _ _ _ _ | exact Kd.Q_nil _ _ _ _ _ | exact Kd.S_nil _ _ _ _ _, by repeat (first | (with_reducible first | exact HB.out | apply below_alloc | apply pw_below_drewN | apply below_drew1 | refine below_set ?_ GE135.out) | exact HB.out)⟩
      · replace c15 := Bool.eq_false_iff.mpr c15
        subst c15
        have H1 : ((word_Put16.f a2_0).bind fun t136 => ((word_Put16.f a2_1).bind fun t139 => ((word_Put16.f (wrap64 (8 + (l2_2.length : Int)))).bind fun t142 => ((word_Join.f kj3 (([t136, t139, t142, (([0, 0] : List Int)), l2_2] : List (List Int)))).bind fun t151 => ((sum_Pseudo.f kj3 a0 a1 17 (t151.length : Int)).bind fun t154 => ((sum_Of.f kj3 (([t154, t151] : List (List Int)))).bind fun t160 => (if t160 = 0 then ((word_Put16.f 65535).bind fun t161 => (if 0 < (t161.length : Int) then (if 6 < (t151.length : Int) then (if 1 < (t161.length : Int) then (if 7 < (t151.length : Int) then (some (((t151.set (6 : Int).toNat (rd t161 0)).set (7 : Int).toNat (rd t161 1)), 0)) else (none)) else (none)) else (none)) else (none))) else ((word_Put16.f t160).bind fun t168 => (if 0 < (t168.length : Int) then (if 6 < (t151.length : Int) then (if 1 < (t168.length : Int) then (if 7 < (t151.length : Int) then (some (((t151.set (6 : Int).toNat (rd t168 0)).set (7 : Int).toNat (rd t168 1)), 0)) else (none)) else (none)) else (none)) else (none)))))))))) = some (r1, r2) := by rw [if_neg (show ¬ (false = true) by decide)] at H; exact H
        clear H
        have H := H1
        clear H1
        replace H := Option.bind_eq_some_iff.mp H
        obtain ⟨t136, A160, H⟩ := H
        replace H : ((word_Put16.f a2_1).bind fun t139 => ((word_Put16.f (wrap64 (8 + (l2_2.length : Int)))).bind fun t142 => ((word_Join.f kj3 (([t136, t139, t142, (([0, 0] : List Int)), l2_2] : List (List Int)))).bind fun t151 => ((sum_Pseudo.f kj3 a0 a1 17 (t151.length : Int)).bind fun t154 => ((sum_Of.f kj3 (([t154, t151] : List (List Int)))).bind fun t160 => (if t160 = 0 then ((word_Put16.f 65535).bind fun t161 => (if 0 < (t161.length : Int) then (if 6 < (t151.length : Int) then (if 1 < (t161.length : Int) then (if 7 < (t151.length : Int) then (some (((t151.set (6 : Int).toNat (rd t161 0)).set (7 : Int).toNat (rd t161 1)), 0)) else (none)) else (none)) else (none)) else (none))) else ((word_Put16.f t160).bind fun t168 => (if 0 < (t168.length : Int) then (if 6 < (t151.length : Int) then (if 1 < (t168.length : Int) then (if 7 < (t151.length : Int) then (some (((t151.set (6 : Int).toNat (rd t168 0)).set (7 : Int).toNat (rd t168 1)), 0)) else (none)) else (none)) else (none)) else (none))))))))) = some (r1, r2) := H
        have A16 := Aside0.mk A160
        clear A160
        replace H := Option.bind_eq_some_iff.mp H
        obtain ⟨t139, A170, H⟩ := H
        replace H : ((word_Put16.f (wrap64 (8 + (l2_2.length : Int)))).bind fun t142 => ((word_Join.f kj3 (([t136, t139, t142, (([0, 0] : List Int)), l2_2] : List (List Int)))).bind fun t151 => ((sum_Pseudo.f kj3 a0 a1 17 (t151.length : Int)).bind fun t154 => ((sum_Of.f kj3 (([t154, t151] : List (List Int)))).bind fun t160 => (if t160 = 0 then ((word_Put16.f 65535).bind fun t161 => (if 0 < (t161.length : Int) then (if 6 < (t151.length : Int) then (if 1 < (t161.length : Int) then (if 7 < (t151.length : Int) then (some (((t151.set (6 : Int).toNat (rd t161 0)).set (7 : Int).toNat (rd t161 1)), 0)) else (none)) else (none)) else (none)) else (none))) else ((word_Put16.f t160).bind fun t168 => (if 0 < (t168.length : Int) then (if 6 < (t151.length : Int) then (if 1 < (t168.length : Int) then (if 7 < (t151.length : Int) then (some (((t151.set (6 : Int).toNat (rd t168 0)).set (7 : Int).toNat (rd t168 1)), 0)) else (none)) else (none)) else (none)) else (none)))))))) = some (r1, r2) := H
        have A17 := Aside0.mk A170
        clear A170
        replace H := Option.bind_eq_some_iff.mp H
        obtain ⟨t142, A180, H⟩ := H
        replace H : ((word_Join.f kj3 (([t136, t139, t142, (([0, 0] : List Int)), l2_2] : List (List Int)))).bind fun t151 => ((sum_Pseudo.f kj3 a0 a1 17 (t151.length : Int)).bind fun t154 => ((sum_Of.f kj3 (([t154, t151] : List (List Int)))).bind fun t160 => (if t160 = 0 then ((word_Put16.f 65535).bind fun t161 => (if 0 < (t161.length : Int) then (if 6 < (t151.length : Int) then (if 1 < (t161.length : Int) then (if 7 < (t151.length : Int) then (some (((t151.set (6 : Int).toNat (rd t161 0)).set (7 : Int).toNat (rd t161 1)), 0)) else (none)) else (none)) else (none)) else (none))) else ((word_Put16.f t160).bind fun t168 => (if 0 < (t168.length : Int) then (if 6 < (t151.length : Int) then (if 1 < (t168.length : Int) then (if 7 < (t151.length : Int) then (some (((t151.set (6 : Int).toNat (rd t168 0)).set (7 : Int).toNat (rd t168 1)), 0)) else (none)) else (none)) else (none)) else (none))))))) = some (r1, r2) := H
        have A18 := Aside0.mk A180
        clear A180
        obtain ⟨y145, hy145⟩ : ∃ y_ : List Int, y_ = (([0, 0] : List Int)) := ⟨_, rfl⟩
        replace H : ((word_Join.f kj3 (([t136, t139, t142, y145, l2_2] : List (List Int)))).bind fun t151 => ((sum_Pseudo.f kj3 a0 a1 17 (t151.length : Int)).bind fun t154 => ((sum_Of.f kj3 (([t154, t151] : List (List Int)))).bind fun t160 => (if t160 = 0 then ((word_Put16.f 65535).bind fun t161 => (if 0 < (t161.length : Int) then (if 6 < (t151.length : Int) then (if 1 < (t161.length : Int) then (if 7 < (t151.length : Int) then (some (((t151.set (6 : Int).toNat (rd t161 0)).set (7 : Int).toNat (rd t161 1)), 0)) else (none)) else (none)) else (none)) else (none))) else ((word_Put16.f t160).bind fun t168 => (if 0 < (t168.length : Int) then (if 6 < (t151.length : Int) then (if 1 < (t168.length : Int) then (if 7 < (t151.length : Int) then (some (((t151.set (6 : Int).toNat (rd t168 0)).set (7 : Int).toNat (rd t168 1)), 0)) else (none)) else (none)) else (none)) else (none))))))) = some (r1, r2) := by first | (rw [hy145]; with_reducible exact H) | (have H2_ := (Option.bind_some _ _).symm.trans H; rw [hy145]; with_reducible exact H2_) | (have H2_ := (Option.bind_some _ _).symm.trans H; with_reducible exact H2_) | with_reducible exact H | (rw [hy145]; exact H) | exact H
        have Ny145 := Aside0.mk hy145
        clear hy145
        obtain ⟨y148, hy148⟩ : ∃ y_ : List (List Int), y_ = (([t136, t139, t142, y145, l2_2] : List (List Int))) := ⟨_, rfl⟩
        replace H : ((word_Join.f kj3 y148).bind fun t151 => ((sum_Pseudo.f kj3 a0 a1 17 (t151.length : Int)).bind fun t154 => ((sum_Of.f kj3 (([t154, t151] : List (List Int)))).bind fun t160 => (if t160 = 0 then ((word_Put16.f 65535).bind fun t161 => (if 0 < (t161.length : Int) then (if 6 < (t151.length : Int) then (if 1 < (t161.length : Int) then (if 7 < (t151.length : Int) then (some (((t151.set (6 : Int).toNat (rd t161 0)).set (7 : Int).toNat (rd t161 1)), 0)) else (none)) else (none)) else (none)) else (none))) else ((word_Put16.f t160).bind fun t168 => (if 0 < (t168.length : Int) then (if 6 < (t151.length : Int) then (if 1 < (t168.length : Int) then (if 7 < (t151.length : Int) then (some (((t151.set (6 : Int).toNat (rd t168 0)).set (7 : Int).toNat (rd t168 1)), 0)) else (none)) else (none)) else (none)) else (none))))))) = some (r1, r2) := by first | (rw [hy148]; with_reducible exact H) | (have H2_ := (Option.bind_some _ _).symm.trans H; rw [hy148]; with_reducible exact H2_) | (have H2_ := (Option.bind_some _ _).symm.trans H; with_reducible exact H2_) | with_reducible exact H | (rw [hy148]; exact H) | exact H
        have Ny148 := Aside0.mk hy148
        clear hy148
        replace H := Option.bind_eq_some_iff.mp H
        obtain ⟨t151, A190, H⟩ := H
        replace H : ((sum_Pseudo.f kj3 a0 a1 17 (t151.length : Int)).bind fun t154 => ((sum_Of.f kj3 (([t154, t151] : List (List Int)))).bind fun t160 => (if t160 = 0 then ((word_Put16.f 65535).bind fun t161 => (if 0 < (t161.length : Int) then (if 6 < (t151.length : Int) then (if 1 < (t161.length : Int) then (if 7 < (t151.length : Int) then (some (((t151.set (6 : Int).toNat (rd t161 0)).set (7 : Int).toNat (rd t161 1)), 0)) else (none)) else (none)) else (none)) else (none))) else ((word_Put16.f t160).bind fun t168 => (if 0 < (t168.length : Int) then (if 6 < (t151.length : Int) then (if 1 < (t168.length : Int) then (if 7 < (t151.length : Int) then (some (((t151.set (6 : Int).toNat (rd t168 0)).set (7 : Int).toNat (rd t168 1)), 0)) else (none)) else (none)) else (none)) else (none)))))) = some (r1, r2) := H
        have A19 := Aside0.mk A190
        clear A190
        replace H := Option.bind_eq_some_iff.mp H
        obtain ⟨t154, A200, H⟩ := H
        replace H : ((sum_Of.f kj3 (([t154, t151] : List (List Int)))).bind fun t160 => (if t160 = 0 then ((word_Put16.f 65535).bind fun t161 => (if 0 < (t161.length : Int) then (if 6 < (t151.length : Int) then (if 1 < (t161.length : Int) then (if 7 < (t151.length : Int) then (some (((t151.set (6 : Int).toNat (rd t161 0)).set (7 : Int).toNat (rd t161 1)), 0)) else (none)) else (none)) else (none)) else (none))) else ((word_Put16.f t160).bind fun t168 => (if 0 < (t168.length : Int) then (if 6 < (t151.length : Int) then (if 1 < (t168.length : Int) then (if 7 < (t151.length : Int) then (some (((t151.set (6 : Int).toNat (rd t168 0)).set (7 : Int).toNat (rd t168 1)), 0)) else (none)) else (none)) else (none)) else (none))))) = some (r1, r2) := H
        have A20 := Aside0.mk A200
        clear A200
        obtain ⟨y157, hy157⟩ : ∃ y_ : List (List Int), y_ = (([t154, t151] : List (List Int))) := ⟨_, rfl⟩
        replace H : ((sum_Of.f kj3 y157).bind fun t160 => (if t160 = 0 then ((word_Put16.f 65535).bind fun t161 => (if 0 < (t161.length : Int) then (if 6 < (t151.length : Int) then (if 1 < (t161.length : Int) then (if 7 < (t151.length : Int) then (some (((t151.set (6 : Int).toNat (rd t161 0)).set (7 : Int).toNat (rd t161 1)), 0)) else (none)) else (none)) else (none)) else (none))) else ((word_Put16.f t160).bind fun t168 => (if 0 < (t168.length : Int) then (if 6 < (t151.length : Int) then (if 1 < (t168.length : Int) then (if 7 < (t151.length : Int) then (some (((t151.set (6 : Int).toNat (rd t168 0)).set (7 : Int).toNat (rd t168 1)), 0)) else (none)) else (none)) else (none)) else (none))))) = some (r1, r2) := by first | (rw [hy157]; with_reducible exact H) | (have H2_ := (Option.bind_some _ _).symm.trans H; rw [hy157]; with_reducible exact H2_) | (have H2_ := (Option.bind_some _ _).symm.trans H; with_reducible exact H2_) | with_reducible exact H | (rw [hy157]; exact H) | exact H
        have Ny157 := Aside0.mk hy157
        clear hy157
        replace H := Option.bind_eq_some_iff.mp H
        obtain ⟨t160, A210, H⟩ := H
        replace H : (if t160 = 0 then ((word_Put16.f 65535).bind fun t161 => (if 0 < (t161.length : Int) then (if 6 < (t151.length : Int) then (if 1 < (t161.length : Int) then (if 7 < (t151.length : Int) then (some (((t151.set (6 : Int).toNat (rd t161 0)).set (7 : Int).toNat (rd t161 1)), 0)) else (none)) else (none)) else (none)) else (none))) else ((word_Put16.f t160).bind fun t168 => (if 0 < (t168.length : Int) then (if 6 < (t151.length : Int) then (if 1 < (t168.length : Int) then (if 7 < (t151.length : Int) then (some (((t151.set (6 : Int).toNat (rd t168 0)).set (7 : Int).toNat (rd t168 1)), 0)) else (none)) else (none)) else (none)) else (none)))) = some (r1, r2) := H
        have A21 := Aside0.mk A210
        clear A210
        by_cases c22 : t160 = 0
        · rw [if_pos c22] at H
          have c22b0 : (t160 == 0) = true := beq_iff_eq.mpr c22
          have c22b1 : (t160 != 0) = false := bne_eq_false_iff_eq.mpr c22
          clear c22
          replace H := Option.bind_eq_some_iff.mp H
          obtain ⟨t161, A230, H⟩ := H
          replace H : (if 0 < (t161.length : Int) then (if 6 < (t151.length : Int) then (if 1 < (t161.length : Int) then (if 7 < (t151.length : Int) then (some (((t151.set (6 : Int).toNat (rd t161 0)).set (7 : Int).toNat (rd t161 1)), 0)) else (none)) else (none)) else (none)) else (none)) = some (r1, r2) := H
          have A23 := Aside0.mk A230
          clear A230
          by_cases c24 : 0 < (t161.length : Int)
          · rw [if_pos c24] at H
            have c24b0 : decide (0 < (t161.length : Int)) = true := decide_eq_true c24
            have c24b1 : decide (0 < t161.length) = true := decide_eq_true (by omega)
            clear c24
            by_cases c25 : 6 < (t151.length : Int)
            · rw [if_pos c25] at H
              have c25b0 : decide (6 < (t151.length : Int)) = true := decide_eq_true c25
              have c25b1 : decide (6 < t151.length) = true := decide_eq_true (by omega)
              clear c25
              obtain ⟨y165, hy165⟩ : ∃ y_ : List Int, y_ = (t151.set (6 : Int).toNat (rd t161 0)) := ⟨_, rfl⟩
              replace H : (if 1 < (t161.length : Int) then (if 7 < (t151.length : Int) then (some ((y165.set (7 : Int).toNat (rd t161 1)), 0)) else (none)) else (none)) = some (r1, r2) := by first | (rw [hy165]; with_reducible exact H) | (have H2_ := (Option.bind_some _ _).symm.trans H; rw [hy165]; with_reducible exact H2_) | (have H2_ := (Option.bind_some _ _).symm.trans H; with_reducible exact H2_) | with_reducible exact H | (rw [hy165]; exact H) | exact H
              have Ny165 := Aside0.mk hy165
              clear hy165
              by_cases c27 : 1 < (t161.length : Int)
              · rw [if_pos c27] at H
                have c27b0 : decide (1 < (t161.length : Int)) = true := decide_eq_true c27
                have c27b1 : decide (1 < t161.length) = true := decide_eq_true (by omega)
                clear c27
                by_cases c28 : 7 < (t151.length : Int)
                · rw [if_pos c28] at H
                  have c28b0 : decide (7 < (t151.length : Int)) = true := decide_eq_true c28
                  have c28b1 : decide (7 < t151.length) = true := decide_eq_true (by omega)
                  clear c28
                  obtain ⟨y167, hy167⟩ : ∃ y_ : List Int, y_ = (y165.set (7 : Int).toNat (rd t161 1)) := ⟨_, rfl⟩
                  replace H : (some (y167, 0)) = some (r1, r2) := by first | (rw [hy167]; with_reducible exact H) | (have H2_ := (Option.bind_some _ _).symm.trans H; rw [hy167]; with_reducible exact H2_) | (have H2_ := (Option.bind_some _ _).symm.trans H; with_reducible exact H2_) | with_reducible exact H | (rw [hy167]; exact H) | exact H
                  have Ny167 := Aside0.mk hy167
                  clear hy167
                  simp only [Option.some.injEq, Prod.mk.injEq] at H
                  obtain ⟨rfl, rfl⟩ := H
                  try go_wp2
                  have n0_ := Aside0.mk (Kd.V_drew HO_136002.out)
                  have n1_ := Aside0.mk (blk_drew BK135.out)
                  have n2_ := Aside0.mk (below_drew1 HB.out)
                  clear HO_136002
                  clear BK135
                  clear HB
                  have HO_136002 := n0_
                  have BK135 := n1_
                  have HB := n2_
                  clear n0_ n1_ n2_
                  refine start_ (n := 17) (S := fun w' => True) (ds := []) #[false, false, false, false, false, false, false, false, false, false, false, false, false, false, false, false, false] (by kernel_rfl) rfl rfl trivial (fun hHeld => ?_); refine with_tabW udp_Build.tab3 udp_Build.bits3 (fun HT_ HW_ => ?_)
                  generalize wc.drew = w30 at HO_136002 BK135 HB hHeld ⊢
                  refine pure_ (i := 0) (N := some 34) (v := ?_) (a' := ?_) #[true, false, false, false, false, false, false, false, false, false, false, false, false, false, false, false, false] rfl rfl (any_of HT_.out (by kernel_rfl)) (fun _ _ _ h => h) (Or.inl ⟨by rfl, ?_⟩) ?_ ?_
                  rotate_left
                  · intro w'
                    go_simp
                    with_reducible rfl
                  rotate_left
                  · simp only [Act.put, List.setIfInBounds_toArray, List.set_cons_zero, List.set_cons_succ, i64_w, i32_w]
                    rfl
                  refine pure_ (i := 3) (N := some 37) (v := ?_) (a' := ?_) #[true, false, false, true, false, false, false, false, false, false, false, false, false, false, false, false, false] rfl rfl (any_of HT_.out (by kernel_rfl)) (fun _ _ _ h => h) (Or.inl ⟨by rfl, ?_⟩) ?_ ?_
                  rotate_left
                  · intro w'
                    go_simp
                    with_reducible rfl
                  rotate_left
                  · simp only [Act.put, List.setIfInBounds_toArray, List.set_cons_zero, List.set_cons_succ, i64_w, i32_w]
                    rfl
                  refine pure_ (i := 6) (N := some 40) (v := ?_) (a' := ?_) #[true, false, false, true, false, false, true, false, false, false, false, false, false, false, false, false, false] rfl rfl (any_of HT_.out (by kernel_rfl)) (fun _ _ _ h => h) (Or.inl ⟨by rfl, ?_⟩) ?_ ?_
                  rotate_left
                  · intro w'
                    go_simp
                    with_reducible rfl
                  rotate_left
                  · simp only [Act.put, List.setIfInBounds_toArray, List.set_cons_zero, List.set_cons_succ, i64_w, i32_w]
                    rfl
                  refine pure_ (i := 12) (N := some 46) (v := ?_) (a' := ?_) #[true, false, false, true, false, false, true, false, false, false, false, false, true, false, false, false, false] rfl rfl (any_of HT_.out (by kernel_rfl)) (fun _ _ _ h => h) (Or.inl ⟨by rfl, ?_⟩) ?_ ?_
                  rotate_left
                  · intro w'
                    go_simp
                    with_reducible rfl
                  rotate_left
                  · simp only [Act.put, List.setIfInBounds_toArray, List.set_cons_zero, List.set_cons_succ, i64_w, i32_w]
                    rfl
                  refine inv_at [1, 2, 4, 5, 7, 8, 9, 10, 11, 13, 14, 15, 16] (fun a0_ b a w' => ∃ (v137 : Value) (v140 : Value) (v143 : Value) (v146 : Value) (v149 : Value) (v152 : Value) (m16_ : Value), a = putSel a0_ b [(1, 35, .int .i64 a2_0), (2, 36, v137), (4, 38, .int .i64 a2_1), (5, 39, v140), (7, 41, .slice A2_2 l2_2.length c2_2), (8, 42, .int .i64 (l2_2.length : Int)), (9, 43, .int .i64 (wrap64 (8 + (l2_2.length : Int)))), (10, 44, v143), (11, 45, v146), (13, 47, .slice A2_2 l2_2.length c2_2), (14, 48, v149), (15, 49, v152), (16, 8, m16_)] ∧ (Kd.V (Kd.int .u8) 5 w' w.heap.size (fun k_ => (P2_2_ k_ ∨ w.heap.size ≤ k_) ∧ k_ ≠ gb135) (.slice A2_2 l2_2.length c2_2) l2_2) ∧ (w'.heap[gb135]? = some (.cells #[.int .i64 a2_0, .int .i64 a2_1, .slice A2_2 l2_2.length c2_2] 26 (0, 0))) ∧ (Below w.heap.size w w') ∧ (b 2 = true → Kd.R (Kd.int .u8) 5 w' w.heap.size (fun k_ => (w.heap.size ≤ k_)) v137 t136) ∧ (b 5 = true → Kd.R (Kd.int .u8) 5 w' w.heap.size (fun k_ => (w.heap.size ≤ k_)) v140 t139) ∧ (b 10 = true → Kd.R (Kd.int .u8) 5 w' w.heap.size (fun k_ => (w.heap.size ≤ k_)) v143 t142) ∧ (b 11 = true → Kd.R (Kd.int .u8) 5 w' w.heap.size (fun k_ => (w.heap.size ≤ k_)) v146 y145) ∧ (b 14 = true → b 15 = false → Kd.N (Kd.slice 5 (Kd.int .u8)) 24 w' w.heap.size (fun k_ => (P2_2_ k_ ∨ w.heap.size ≤ k_) ∧ k_ ≠ gb135) v149 y148) ∧ (b 15 = true → Kd.R (Kd.int .u8) 5 w' w.heap.size (fun k_ => (w.heap.size ≤ k_)) v152 t151) ∧ (b 16 = true → (m16_ : Value) = v152)) HT_.out HW_.out (by kernel_rfl) (by kernel_rfl) ?_ ?_ ?_
                  · exact ⟨.bool false, .bool false, .bool false, .bool false, .bool false, .bool false, .bool false, by simp only [putSel, Bool.false_eq_true, if_false], (by first | exact HO_136002.out | exact Kd.V_mono HO_136002.out (fun _ hk => by exact okw hk)), BK135.out, HB.out, fun h_ => absurd h_ (by decide), fun h_ => absurd h_ (by decide), fun h_ => absurd h_ (by decide), fun h_ => absurd h_ (by decide), fun h_ => absurd h_ (by decide), fun h_ => absurd h_ (by decide), fun h_ => absurd h_ (by decide)⟩
                  · skip
                    clear BK135 HB HO_136002
                    refine steps_cons ?_ ?_
                    · rintro b a w' ⟨v137, v140, v143, v146, v149, v152, m16_, ha, Q_HO_136002, Q_BK135, Q_HB, Q_HO138, Q_HO141, Q_HO144, Q_HO147, Q_HO150, Q_HO153, Q_X16_⟩ hb_ hon hoff
                      refine ⟨_, rfl, fun K hK => ?_⟩
                      have e34 : a.tmps[34]? = some (.pointer (some ⟨gb135, 0, none⟩)) := by rw [ha]; exact (putSel_off rfl).trans rfl
                      replace ha := Aside0.mk ha
                      have HO_136002 := Aside0.mk Q_HO_136002
                      have BK135 := Aside0.mk Q_BK135
                      have HB := Aside0.mk Q_HB
                      have hc0_ : w'.cell? ⟨gb135, 0, none⟩ = some (.int .i64 a2_0) := (blk_cell BK135.out 0).trans rfl
                      have hc1_ : w'.cell? ⟨gb135, 1, none⟩ = some (.int .i64 a2_1) := (blk_cell BK135.out 1).trans rfl
                      have hc2_ : w'.cell? ⟨gb135, 2, none⟩ = some (.slice A2_2 l2_2.length c2_2) := (blk_cell BK135.out 2).trans rfl
                      refine value_ (w1 := w') (v := .int .i64 a2_0) (by rfl) rfl ?_ ?_
                      · go_simp
                        (try simp only [i64_w])
                        try rfl
                      refine hK.out _ _ ⟨v137, v140, v143, v146, v149, v152, m16_, (by rw [ha.out]; exact putSel_upk 0 hb_ rfl rfl rfl), Q_HO_136002, Q_BK135, Q_HB, fun h0_ => absurd ((hoff 2 (by kernel_rfl)).symm.trans h0_) (by decide), fun h0_ => absurd ((hoff 5 (by kernel_rfl)).symm.trans h0_) (by decide), fun h0_ => absurd ((hoff 10 (by kernel_rfl)).symm.trans h0_) (by decide), Q_HO147, fun h0_ _ => absurd ((hoff 14 (by kernel_rfl)).symm.trans h0_) (by decide), fun h0_ => absurd ((hoff 15 (by kernel_rfl)).symm.trans h0_) (by decide), fun h0_ => absurd ((hoff 16 (by kernel_rfl)).symm.trans h0_) (by decide)⟩
                    refine steps_cons ?_ ?_
                    · rintro b a w' ⟨v137, v140, v143, v146, v149, v152, m16_, ha, Q_HO_136002, Q_BK135, Q_HB, Q_HO138, Q_HO141, Q_HO144, Q_HO147, Q_HO150, Q_HO153, Q_X16_⟩ hb_ hon hoff
                      refine ⟨_, rfl, fun K hK => ?_⟩
                      have e35 : a.tmps[35]? = some (.int .i64 a2_0) := by rw [ha]; exact putSel_on (e := (1, 35, .int .i64 a2_0)) 0 rfl rfl (hon 1 (by kernel_rfl)) rfl
                      replace ha := Aside0.mk ha
                      have HO_136002 := Aside0.mk Q_HO_136002
                      have BK135 := Aside0.mk Q_BK135
                      have HB := Aside0.mk Q_HB
                      refine goes_ Try.func38 (by kernel_rfl) rfl #[.int .i64 a2_0] (by rfl) rfl rfl (by first | (simp only [List.map_toArray, List.map_cons, List.map_nil, Act.eval, Array.getD_eq_getD_getElem?, Option.getD_some, e35]; done) | (simp only [List.map_toArray, List.map_cons, List.map_nil, Act.eval, Array.getD_eq_getD_getElem?, Option.getD_some, e35]; rfl)) ?_
                      with_reducible refine (word_Put16.calls a2_0 t136 _ A16.out).mono ?_
                      rintro e w31 ⟨v137, rfl, ho0, hb⟩
                      refine ⟨_, rfl, ?_⟩
                      have n0_ := Aside0.mk (Kd.V_elder' (by (with_reducible repeat (first | apply Kd.V_alloc | apply Kd.V_drewN | apply Kd.V_drew)); exact HO_136002.out) (Kd.R_base ho0) hb)
                      have n1_ := Aside0.mk (Kd.R_lower (Kd.R_newM (M := fun k_ => (w.heap.size ≤ k_)) ho0 (below_size (by repeat (first | (with_reducible first | exact HB.out | apply below_alloc | apply pw_below_drewN | apply below_drew1 | refine below_set ?_ GE135.out) | exact HB.out))) (fun k_ h_ => h_)) (below_size (by repeat (first | (with_reducible first | exact HB.out | apply below_alloc | apply pw_below_drewN | apply below_drew1 | refine below_set ?_ GE135.out) | exact HB.out))))
                      have n2_ := Aside0.mk (blk_below (g := gb135) (o := .cells #[.int .i64 a2_0, .int .i64 a2_1, .slice A2_2 l2_2.length c2_2] 26 (0, 0)) (by (with_reducible repeat (first | refine blk_drewN ?_ _ | refine blk_drew ?_ | refine blk_alloc ?_ _)); exact BK135.out) hb)
                      have n3_ := Aside0.mk (below_step (by repeat (first | (with_reducible first | exact HB.out | apply below_alloc | apply pw_below_drewN | apply below_drew1 | refine below_set ?_ GE135.out) | exact HB.out)) hb)
                      have z_HO147 := fun (h0_ : b 11 = true) => (show Kd.R (Kd.int .u8) 5 w31 w.heap.size (fun k_ => (w.heap.size ≤ k_)) v146 y145 from by first | exact (Kd.R_elder' (by (with_reducible repeat (first | apply Kd.R_alloc | apply Kd.R_drewN | apply Kd.R_drew)); exact (Q_HO147 h0_)) (Kd.R_base ho0) hb) | exact Kd.R_mono (Kd.R_elder' (by (with_reducible repeat (first | apply Kd.R_alloc | apply Kd.R_drewN | apply Kd.R_drew)); exact (Q_HO147 h0_)) (Kd.R_base ho0) hb) (fun _ h_ => by first | trivial | exact h_ | exact h_.1))
                      clear HO_136002
                      clear BK135
                      clear HB
                      have HO_136002 := n0_
                      have HO138 := n1_
                      have BK135 := n2_
                      have HB := n3_
                      clear n0_ n1_ n2_ n3_
                      (try clear hb)
                      (try clear hb2)
                      (try clear hk)
                      (try clear hi)
                      (try clear ho0)
                      refine hK.out _ _ ⟨v137, v140, v143, v146, v149, v152, m16_, (by rw [ha.out]; exact putSel_upk 1 hb_ rfl rfl rfl), (by first | ((with_reducible repeat (first | apply Kd.V_alloc | apply Kd.V_drewN | apply Kd.V_drew)); exact Kd.V_mono HO_136002.out (fun _ hk => by first | exact ⟨hk.1.1, ⟨hk.2, hk.1.2⟩⟩ | exact okw hk)) | ((with_reducible repeat (first | apply Kd.V_alloc | apply Kd.V_drewN | apply Kd.V_drew)); exact Kd.V_mono HO_136002.out (fun _ hk => by first | trivial | exact hk | exact hk.1 | exact hk.2 | exact hk.1.1 | exact okw hk))), (by (with_reducible repeat (first | refine blk_drewN ?_ _ | refine blk_drew ?_ | refine blk_alloc ?_ _)); exact BK135.out), (by repeat (first | (with_reducible first | exact HB.out | apply below_alloc | apply pw_below_drewN | apply below_drew1 | refine below_set ?_ GE135.out) | exact HB.out)), fun _ => (by first | ((with_reducible repeat (first | apply Kd.R_alloc | apply Kd.R_drewN | apply Kd.R_drew)); exact Kd.R_mono HO138.out (fun _ hk => hk.1)) | ((with_reducible repeat (first | apply Kd.R_alloc | apply Kd.R_drewN | apply Kd.R_drew)); exact Kd.R_mono HO138.out (fun _ hk => by first | trivial | exact hk | exact hk.1 | exact hk.2 | exact hk.1.1 | exact okw hk))), fun h0_ => absurd ((hoff 5 (by kernel_rfl)).symm.trans h0_) (by decide), fun h0_ => absurd ((hoff 10 (by kernel_rfl)).symm.trans h0_) (by decide), z_HO147, fun h0_ _ => absurd ((hoff 14 (by kernel_rfl)).symm.trans h0_) (by decide), fun h0_ => absurd ((hoff 15 (by kernel_rfl)).symm.trans h0_) (by decide), fun h0_ => absurd ((hoff 16 (by kernel_rfl)).symm.trans h0_) (by decide)⟩
                    refine steps_cons ?_ ?_
                    · rintro b a w' ⟨v137, v140, v143, v146, v149, v152, m16_, ha, Q_HO_136002, Q_BK135, Q_HB, Q_HO138, Q_HO141, Q_HO144, Q_HO147, Q_HO150, Q_HO153, Q_X16_⟩ hb_ hon hoff
                      refine ⟨_, rfl, fun K hK => ?_⟩
                      have e37 : a.tmps[37]? = some (.pointer (some ⟨gb135, 1, none⟩)) := by rw [ha]; exact (putSel_off rfl).trans rfl
                      replace ha := Aside0.mk ha
                      have HO_136002 := Aside0.mk Q_HO_136002
                      have BK135 := Aside0.mk Q_BK135
                      have HB := Aside0.mk Q_HB
                      have hc0_ : w'.cell? ⟨gb135, 0, none⟩ = some (.int .i64 a2_0) := (blk_cell BK135.out 0).trans rfl
                      have hc1_ : w'.cell? ⟨gb135, 1, none⟩ = some (.int .i64 a2_1) := (blk_cell BK135.out 1).trans rfl
                      have hc2_ : w'.cell? ⟨gb135, 2, none⟩ = some (.slice A2_2 l2_2.length c2_2) := (blk_cell BK135.out 2).trans rfl
                      refine value_ (w1 := w') (v := .int .i64 a2_1) (by rfl) rfl ?_ ?_
                      · go_simp
                        (try simp only [i64_w])
                        try rfl
                      refine hK.out _ _ ⟨v137, v140, v143, v146, v149, v152, m16_, (by rw [ha.out]; exact putSel_upk 2 hb_ rfl rfl rfl), Q_HO_136002, Q_BK135, Q_HB, Q_HO138, fun h0_ => absurd ((hoff 5 (by kernel_rfl)).symm.trans h0_) (by decide), fun h0_ => absurd ((hoff 10 (by kernel_rfl)).symm.trans h0_) (by decide), Q_HO147, fun h0_ _ => absurd ((hoff 14 (by kernel_rfl)).symm.trans h0_) (by decide), fun h0_ => absurd ((hoff 15 (by kernel_rfl)).symm.trans h0_) (by decide), fun h0_ => absurd ((hoff 16 (by kernel_rfl)).symm.trans h0_) (by decide)⟩
                    refine steps_cons ?_ ?_
                    · rintro b a w' ⟨v137, v140, v143, v146, v149, v152, m16_, ha, Q_HO_136002, Q_BK135, Q_HB, Q_HO138, Q_HO141, Q_HO144, Q_HO147, Q_HO150, Q_HO153, Q_X16_⟩ hb_ hon hoff
                      refine ⟨_, rfl, fun K hK => ?_⟩
                      have e38 : a.tmps[38]? = some (.int .i64 a2_1) := by rw [ha]; exact putSel_on (e := (4, 38, .int .i64 a2_1)) 2 rfl rfl (hon 4 (by kernel_rfl)) rfl
                      replace ha := Aside0.mk ha
                      have HO_136002 := Aside0.mk Q_HO_136002
                      have BK135 := Aside0.mk Q_BK135
                      have HB := Aside0.mk Q_HB
                      have HO138 := Aside0.mk (Q_HO138 (hon 2 (by kernel_rfl)))
                      refine goes_ Try.func38 (by kernel_rfl) rfl #[.int .i64 a2_1] (by rfl) rfl rfl (by first | (simp only [List.map_toArray, List.map_cons, List.map_nil, Act.eval, Array.getD_eq_getD_getElem?, Option.getD_some, e38]; done) | (simp only [List.map_toArray, List.map_cons, List.map_nil, Act.eval, Array.getD_eq_getD_getElem?, Option.getD_some, e38]; rfl)) ?_
                      with_reducible refine (word_Put16.calls a2_1 t139 _ A17.out).mono ?_
                      rintro e w33 ⟨v140, rfl, ho0, hb⟩
                      refine ⟨_, rfl, ?_⟩
                      have n0_ := Aside0.mk (Kd.V_elder' (by (with_reducible repeat (first | apply Kd.V_alloc | apply Kd.V_drewN | apply Kd.V_drew)); exact HO_136002.out) (Kd.R_base ho0) hb)
                      have n1_ := Aside0.mk (Kd.R_elder' (by (with_reducible repeat (first | apply Kd.R_alloc | apply Kd.R_drewN | apply Kd.R_drew)); exact HO138.out) (Kd.R_base ho0) hb)
                      have n2_ := Aside0.mk (Kd.R_lower (Kd.R_new' (Kd.R_newM (M := fun k_ => (w.heap.size ≤ k_)) ho0 (below_size (by repeat (first | (with_reducible first | exact HB.out | apply below_alloc | apply pw_below_drewN | apply below_drew1 | refine below_set ?_ GE135.out) | exact HB.out))) (fun k_ h_ => h_)) (Kd.R_lt (by (with_reducible repeat (first | apply Kd.R_alloc | apply Kd.R_drewN | apply Kd.R_drew)); exact HO138.out))) (below_size (by repeat (first | (with_reducible first | exact HB.out | apply below_alloc | apply pw_below_drewN | apply below_drew1 | refine below_set ?_ GE135.out) | exact HB.out))))
                      have n3_ := Aside0.mk (blk_below (g := gb135) (o := .cells #[.int .i64 a2_0, .int .i64 a2_1, .slice A2_2 l2_2.length c2_2] 26 (0, 0)) (by (with_reducible repeat (first | refine blk_drewN ?_ _ | refine blk_drew ?_ | refine blk_alloc ?_ _)); exact BK135.out) hb)
                      have n4_ := Aside0.mk (below_step (by repeat (first | (with_reducible first | exact HB.out | apply below_alloc | apply pw_below_drewN | apply below_drew1 | refine below_set ?_ GE135.out) | exact HB.out)) hb)
                      have z_HO147 := fun (h0_ : b 11 = true) => (show Kd.R (Kd.int .u8) 5 w33 w.heap.size (fun k_ => (w.heap.size ≤ k_)) v146 y145 from by first | exact (Kd.R_elder' (by (with_reducible repeat (first | apply Kd.R_alloc | apply Kd.R_drewN | apply Kd.R_drew)); exact (Q_HO147 h0_)) (Kd.R_base ho0) hb) | exact Kd.R_mono (Kd.R_elder' (by (with_reducible repeat (first | apply Kd.R_alloc | apply Kd.R_drewN | apply Kd.R_drew)); exact (Q_HO147 h0_)) (Kd.R_base ho0) hb) (fun _ h_ => by first | trivial | exact h_ | exact h_.1))
                      clear HO_136002
                      clear HO138
                      clear BK135
                      clear HB
                      have HO_136002 := n0_
                      have HO138 := n1_
                      have HO141 := n2_
                      have BK135 := n3_
                      have HB := n4_
                      clear n0_ n1_ n2_ n3_ n4_
                      (try clear hb)
                      (try clear hb2)
                      (try clear hk)
                      (try clear hi)
                      (try clear ho0)
                      refine hK.out _ _ ⟨v137, v140, v143, v146, v149, v152, m16_, (by rw [ha.out]; exact putSel_upk 3 hb_ rfl rfl rfl), (by first | ((with_reducible repeat (first | apply Kd.V_alloc | apply Kd.V_drewN | apply Kd.V_drew)); exact Kd.V_mono HO_136002.out (fun _ hk => by first | exact ⟨hk.1.1, ⟨hk.1.2.1, ⟨hk.2, hk.1.2.2⟩⟩⟩ | exact okw hk)) | ((with_reducible repeat (first | apply Kd.V_alloc | apply Kd.V_drewN | apply Kd.V_drew)); exact Kd.V_mono HO_136002.out (fun _ hk => by first | trivial | exact hk | exact hk.1 | exact hk.2 | exact hk.1.1 | exact okw hk))), (by (with_reducible repeat (first | refine blk_drewN ?_ _ | refine blk_drew ?_ | refine blk_alloc ?_ _)); exact BK135.out), (by repeat (first | (with_reducible first | exact HB.out | apply below_alloc | apply pw_below_drewN | apply below_drew1 | refine below_set ?_ GE135.out) | exact HB.out)), fun _ => (by first | ((with_reducible repeat (first | apply Kd.R_alloc | apply Kd.R_drewN | apply Kd.R_drew)); exact HO138.out) | ((with_reducible repeat (first | apply Kd.R_alloc | apply Kd.R_drewN | apply Kd.R_drew)); exact Kd.R_mono HO138.out (fun _ hk => by first | trivial | exact hk | exact hk.1 | exact hk.2 | exact hk.1.1 | exact okw hk))), fun _ => (by first | ((with_reducible repeat (first | apply Kd.R_alloc | apply Kd.R_drewN | apply Kd.R_drew)); exact Kd.R_mono HO141.out (fun _ hk => by first | exact ⟨hk.1.1, hk.2⟩ | exact okw hk)) | ((with_reducible repeat (first | apply Kd.R_alloc | apply Kd.R_drewN | apply Kd.R_drew)); exact Kd.R_mono HO141.out (fun _ hk => by first | trivial | exact hk | exact hk.1 | exact hk.2 | exact hk.1.1 | exact okw hk))), fun h0_ => absurd ((hoff 10 (by kernel_rfl)).symm.trans h0_) (by decide), z_HO147, fun h0_ _ => absurd ((hoff 14 (by kernel_rfl)).symm.trans h0_) (by decide), fun h0_ => absurd ((hoff 15 (by kernel_rfl)).symm.trans h0_) (by decide), fun h0_ => absurd ((hoff 16 (by kernel_rfl)).symm.trans h0_) (by decide)⟩
                    refine steps_cons ?_ ?_
                    · rintro b a w' ⟨v137, v140, v143, v146, v149, v152, m16_, ha, Q_HO_136002, Q_BK135, Q_HB, Q_HO138, Q_HO141, Q_HO144, Q_HO147, Q_HO150, Q_HO153, Q_X16_⟩ hb_ hon hoff
                      refine ⟨_, rfl, fun K hK => ?_⟩
                      have e40 : a.tmps[40]? = some (.pointer (some ⟨gb135, 2, none⟩)) := by rw [ha]; exact (putSel_off rfl).trans rfl
                      replace ha := Aside0.mk ha
                      have HO_136002 := Aside0.mk Q_HO_136002
                      have BK135 := Aside0.mk Q_BK135
                      have HB := Aside0.mk Q_HB
                      have hc0_ : w'.cell? ⟨gb135, 0, none⟩ = some (.int .i64 a2_0) := (blk_cell BK135.out 0).trans rfl
                      have hc1_ : w'.cell? ⟨gb135, 1, none⟩ = some (.int .i64 a2_1) := (blk_cell BK135.out 1).trans rfl
                      have hc2_ : w'.cell? ⟨gb135, 2, none⟩ = some (.slice A2_2 l2_2.length c2_2) := (blk_cell BK135.out 2).trans rfl
                      refine value_ (w1 := w') (v := .slice A2_2 l2_2.length c2_2) (by rfl) rfl ?_ ?_
                      · go_simp
                        (try simp only [i64_w])
                        try rfl
                      refine hK.out _ _ ⟨v137, v140, v143, v146, v149, v152, m16_, (by rw [ha.out]; exact putSel_upk 4 hb_ rfl rfl rfl), Q_HO_136002, Q_BK135, Q_HB, Q_HO138, Q_HO141, fun h0_ => absurd ((hoff 10 (by kernel_rfl)).symm.trans h0_) (by decide), Q_HO147, fun h0_ _ => absurd ((hoff 14 (by kernel_rfl)).symm.trans h0_) (by decide), fun h0_ => absurd ((hoff 15 (by kernel_rfl)).symm.trans h0_) (by decide), fun h0_ => absurd ((hoff 16 (by kernel_rfl)).symm.trans h0_) (by decide)⟩
                    refine steps_cons ?_ ?_
                    · rintro b a w' ⟨v137, v140, v143, v146, v149, v152, m16_, ha, Q_HO_136002, Q_BK135, Q_HB, Q_HO138, Q_HO141, Q_HO144, Q_HO147, Q_HO150, Q_HO153, Q_X16_⟩ hb_ hon hoff
                      refine ⟨_, rfl, fun K hK => ?_⟩
                      have e41 : a.tmps[41]? = some (.slice A2_2 l2_2.length c2_2) := by rw [ha]; exact putSel_on (e := (7, 41, .slice A2_2 l2_2.length c2_2)) 4 rfl rfl (hon 7 (by kernel_rfl)) rfl
                      replace ha := Aside0.mk ha
                      have HO_136002 := Aside0.mk Q_HO_136002
                      have BK135 := Aside0.mk Q_BK135
                      have HB := Aside0.mk Q_HB
                      refine value_ (w1 := w') (v := .int .i64 (l2_2.length : Int)) (by rfl) rfl ?_ ?_
                      · go_simp
                        (try simp only [i64_w])
                        try rfl
                      refine hK.out _ _ ⟨v137, v140, v143, v146, v149, v152, m16_, (by rw [ha.out]; exact putSel_upk 5 hb_ rfl rfl rfl), Q_HO_136002, Q_BK135, Q_HB, Q_HO138, Q_HO141, fun h0_ => absurd ((hoff 10 (by kernel_rfl)).symm.trans h0_) (by decide), Q_HO147, fun h0_ _ => absurd ((hoff 14 (by kernel_rfl)).symm.trans h0_) (by decide), fun h0_ => absurd ((hoff 15 (by kernel_rfl)).symm.trans h0_) (by decide), fun h0_ => absurd ((hoff 16 (by kernel_rfl)).symm.trans h0_) (by decide)⟩
                    refine steps_cons ?_ ?_
                    · rintro b a w' ⟨v137, v140, v143, v146, v149, v152, m16_, ha, Q_HO_136002, Q_BK135, Q_HB, Q_HO138, Q_HO141, Q_HO144, Q_HO147, Q_HO150, Q_HO153, Q_X16_⟩ hb_ hon hoff
                      refine ⟨_, rfl, fun K hK => ?_⟩
                      have e42 : a.tmps[42]? = some (.int .i64 (l2_2.length : Int)) := by rw [ha]; exact putSel_on (e := (8, 42, .int .i64 (l2_2.length : Int))) 5 rfl rfl (hon 8 (by kernel_rfl)) rfl
                      replace ha := Aside0.mk ha
                      have HO_136002 := Aside0.mk Q_HO_136002
                      have BK135 := Aside0.mk Q_BK135
                      have HB := Aside0.mk Q_HB
                      refine value_ (w1 := w') (v := .int .i64 (wrap64 (8 + (l2_2.length : Int)))) (by rfl) rfl ?_ ?_
                      · go_simp
                        (try simp only [i64_w])
                        try rfl
                      refine hK.out _ _ ⟨v137, v140, v143, v146, v149, v152, m16_, (by rw [ha.out]; exact putSel_upk 6 hb_ rfl rfl rfl), Q_HO_136002, Q_BK135, Q_HB, Q_HO138, Q_HO141, fun h0_ => absurd ((hoff 10 (by kernel_rfl)).symm.trans h0_) (by decide), Q_HO147, fun h0_ _ => absurd ((hoff 14 (by kernel_rfl)).symm.trans h0_) (by decide), fun h0_ => absurd ((hoff 15 (by kernel_rfl)).symm.trans h0_) (by decide), fun h0_ => absurd ((hoff 16 (by kernel_rfl)).symm.trans h0_) (by decide)⟩
                    refine steps_cons ?_ ?_
                    · rintro b a w' ⟨v137, v140, v143, v146, v149, v152, m16_, ha, Q_HO_136002, Q_BK135, Q_HB, Q_HO138, Q_HO141, Q_HO144, Q_HO147, Q_HO150, Q_HO153, Q_X16_⟩ hb_ hon hoff
                      refine ⟨_, rfl, fun K hK => ?_⟩
                      have e43 : a.tmps[43]? = some (.int .i64 (wrap64 (8 + (l2_2.length : Int)))) := by rw [ha]; exact putSel_on (e := (9, 43, .int .i64 (wrap64 (8 + (l2_2.length : Int))))) 6 rfl rfl (hon 9 (by kernel_rfl)) rfl
                      replace ha := Aside0.mk ha
                      have HO_136002 := Aside0.mk Q_HO_136002
                      have BK135 := Aside0.mk Q_BK135
                      have HB := Aside0.mk Q_HB
                      have HO138 := Aside0.mk (Q_HO138 (hon 2 (by kernel_rfl)))
                      have HO141 := Aside0.mk (Q_HO141 (hon 5 (by kernel_rfl)))
                      refine goes_ Try.func38 (by kernel_rfl) rfl #[.int .i64 (wrap64 (8 + (l2_2.length : Int)))] (by rfl) rfl rfl (by first | (simp only [List.map_toArray, List.map_cons, List.map_nil, Act.eval, Array.getD_eq_getD_getElem?, Option.getD_some, e43]; done) | (simp only [List.map_toArray, List.map_cons, List.map_nil, Act.eval, Array.getD_eq_getD_getElem?, Option.getD_some, e43]; rfl)) ?_
                      with_reducible refine (word_Put16.calls (wrap64 (8 + (l2_2.length : Int))) t142 _ A18.out).mono ?_
                      rintro e w34 ⟨v143, rfl, ho0, hb⟩
                      refine ⟨_, rfl, ?_⟩
                      have n0_ := Aside0.mk (Kd.V_elder' (by (with_reducible repeat (first | apply Kd.V_alloc | apply Kd.V_drewN | apply Kd.V_drew)); exact HO_136002.out) (Kd.R_base ho0) hb)
                      have n1_ := Aside0.mk (Kd.R_elder' (by (with_reducible repeat (first | apply Kd.R_alloc | apply Kd.R_drewN | apply Kd.R_drew)); exact HO138.out) (Kd.R_base ho0) hb)
                      have n2_ := Aside0.mk (Kd.R_elder' (by (with_reducible repeat (first | apply Kd.R_alloc | apply Kd.R_drewN | apply Kd.R_drew)); exact HO141.out) (Kd.R_base ho0) hb)
                      have n3_ := Aside0.mk (Kd.R_lower (Kd.R_new' (Kd.R_new' (Kd.R_newM (M := fun k_ => (w.heap.size ≤ k_)) ho0 (below_size (by repeat (first | (with_reducible first | exact HB.out | apply below_alloc | apply pw_below_drewN | apply below_drew1 | refine below_set ?_ GE135.out) | exact HB.out))) (fun k_ h_ => h_)) (Kd.R_lt (by (with_reducible repeat (first | apply Kd.R_alloc | apply Kd.R_drewN | apply Kd.R_drew)); exact HO138.out))) (Kd.R_lt (by (with_reducible repeat (first | apply Kd.R_alloc | apply Kd.R_drewN | apply Kd.R_drew)); exact HO141.out))) (below_size (by repeat (first | (with_reducible first | exact HB.out | apply below_alloc | apply pw_below_drewN | apply below_drew1 | refine below_set ?_ GE135.out) | exact HB.out))))
                      have n4_ := Aside0.mk (blk_below (g := gb135) (o := .cells #[.int .i64 a2_0, .int .i64 a2_1, .slice A2_2 l2_2.length c2_2] 26 (0, 0)) (by (with_reducible repeat (first | refine blk_drewN ?_ _ | refine blk_drew ?_ | refine blk_alloc ?_ _)); exact BK135.out) hb)
                      have n5_ := Aside0.mk (below_step (by repeat (first | (with_reducible first | exact HB.out | apply below_alloc | apply pw_below_drewN | apply below_drew1 | refine below_set ?_ GE135.out) | exact HB.out)) hb)
                      have z_HO147 := fun (h0_ : b 11 = true) => (show Kd.R (Kd.int .u8) 5 w34 w.heap.size (fun k_ => (w.heap.size ≤ k_)) v146 y145 from by first | exact (Kd.R_elder' (by (with_reducible repeat (first | apply Kd.R_alloc | apply Kd.R_drewN | apply Kd.R_drew)); exact (Q_HO147 h0_)) (Kd.R_base ho0) hb) | exact Kd.R_mono (Kd.R_elder' (by (with_reducible repeat (first | apply Kd.R_alloc | apply Kd.R_drewN | apply Kd.R_drew)); exact (Q_HO147 h0_)) (Kd.R_base ho0) hb) (fun _ h_ => by first | trivial | exact h_ | exact h_.1))
                      clear HO_136002
                      clear HO138
                      clear HO141
                      clear BK135
                      clear HB
                      have HO_136002 := n0_
                      have HO138 := n1_
                      have HO141 := n2_
                      have HO144 := n3_
                      have BK135 := n4_
                      have HB := n5_
                      clear n0_ n1_ n2_ n3_ n4_ n5_
                      (try clear hb)
                      (try clear hb2)
                      (try clear hk)
                      (try clear hi)
                      (try clear ho0)
                      refine hK.out _ _ ⟨v137, v140, v143, v146, v149, v152, m16_, (by rw [ha.out]; exact putSel_upk 7 hb_ rfl rfl rfl), (by first | ((with_reducible repeat (first | apply Kd.V_alloc | apply Kd.V_drewN | apply Kd.V_drew)); exact Kd.V_mono HO_136002.out (fun _ hk => by first | exact ⟨hk.1.1, ⟨hk.1.2.1, ⟨hk.1.2.2.1, ⟨hk.2, hk.1.2.2.2⟩⟩⟩⟩ | exact okw hk)) | ((with_reducible repeat (first | apply Kd.V_alloc | apply Kd.V_drewN | apply Kd.V_drew)); exact Kd.V_mono HO_136002.out (fun _ hk => by first | trivial | exact hk | exact hk.1 | exact hk.2 | exact hk.1.1 | exact okw hk))), (by (with_reducible repeat (first | refine blk_drewN ?_ _ | refine blk_drew ?_ | refine blk_alloc ?_ _)); exact BK135.out), (by repeat (first | (with_reducible first | exact HB.out | apply below_alloc | apply pw_below_drewN | apply below_drew1 | refine below_set ?_ GE135.out) | exact HB.out)), fun _ => (by first | ((with_reducible repeat (first | apply Kd.R_alloc | apply Kd.R_drewN | apply Kd.R_drew)); exact Kd.R_mono HO138.out (fun _ hk => by first | exact ⟨hk.1.1, ⟨hk.1.2, hk.2⟩⟩ | exact okw hk)) | ((with_reducible repeat (first | apply Kd.R_alloc | apply Kd.R_drewN | apply Kd.R_drew)); exact Kd.R_mono HO138.out (fun _ hk => by first | trivial | exact hk | exact hk.1 | exact hk.2 | exact hk.1.1 | exact okw hk))), fun _ => (by first | ((with_reducible repeat (first | apply Kd.R_alloc | apply Kd.R_drewN | apply Kd.R_drew)); exact Kd.R_mono HO141.out (fun _ hk => by first | exact ⟨hk.1.1, ⟨hk.1.2, hk.2⟩⟩ | exact okw hk)) | ((with_reducible repeat (first | apply Kd.R_alloc | apply Kd.R_drewN | apply Kd.R_drew)); exact Kd.R_mono HO141.out (fun _ hk => by first | trivial | exact hk | exact hk.1 | exact hk.2 | exact hk.1.1 | exact okw hk))), fun _ => (by first | ((with_reducible repeat (first | apply Kd.R_alloc | apply Kd.R_drewN | apply Kd.R_drew)); exact Kd.R_mono HO144.out (fun _ hk => by first | exact ⟨hk.1.1.1, ⟨hk.1.2, hk.2⟩⟩ | exact okw hk)) | ((with_reducible repeat (first | apply Kd.R_alloc | apply Kd.R_drewN | apply Kd.R_drew)); exact Kd.R_mono HO144.out (fun _ hk => by first | trivial | exact hk | exact hk.1 | exact hk.2 | exact hk.1.1 | exact okw hk))), z_HO147, fun h0_ _ => absurd ((hoff 14 (by kernel_rfl)).symm.trans h0_) (by decide), fun h0_ => absurd ((hoff 15 (by kernel_rfl)).symm.trans h0_) (by decide), fun h0_ => absurd ((hoff 16 (by kernel_rfl)).symm.trans h0_) (by decide)⟩
                    refine steps_cons ?_ ?_
                    · rintro b a w' ⟨v137, v140, v143, v146, v149, v152, m16_, ha, Q_HO_136002, Q_BK135, Q_HB, Q_HO138, Q_HO141, Q_HO144, Q_HO147, Q_HO150, Q_HO153, Q_X16_⟩ hb_ hon hoff
                      refine ⟨_, rfl, fun K hK => ?_⟩
                      replace ha := Aside0.mk ha
                      have HO_136002 := Aside0.mk Q_HO_136002
                      have BK135 := Aside0.mk Q_BK135
                      have HB := Aside0.mk Q_HB
                      refine Kd.R_lit_step (Kd.int .u8) _ 5 ?hg (N := 45) ?hd (xs := ([0, 0] : List Int)) (inner := [.int .u8 0, .int .u8 0]) (ok := fun _ => True) (okp := fun _ => True) ?hr ?hp (fun _ hk => hk) trivial (Below.refl _ _) (Nat.le_refl _) (by simp) ?_; (case hd => rfl); (case hg => rfl); (case hr => first | (go_simp; done) | (go_simp; rfl)); (case hp => exact (Reps.one (show Kd.M (Kd.int .u8) _ _ _ 0 [.int .u8 0] from rfl) (Reps.one (show Kd.M (Kd.int .u8) _ _ _ 0 [.int .u8 0] from rfl) (Reps.none _ _))))
                      intro v146 w31 ho32 hb hg_ hnew_
                      clear hg_ hnew_
                      (first | rw [← Ny145.out] at ho32 | (simp only [Int.reduceToNat] at ho32; rw [← Ny145.out] at ho32))
                      have n0_ := Aside0.mk (Kd.V_elder' (by (with_reducible repeat (first | apply Kd.V_alloc | apply Kd.V_drewN | apply Kd.V_drew)); exact HO_136002.out) (Kd.R_base ho32) hb)
                      have n1_ := Aside0.mk (Kd.R_lower (Kd.R_newM (M := fun k_ => (w.heap.size ≤ k_)) ho32 (below_size (by repeat (first | (with_reducible first | exact HB.out | apply below_alloc | apply pw_below_drewN | apply below_drew1 | refine below_set ?_ GE135.out) | exact HB.out))) (fun k_ h_ => h_)) (below_size (by repeat (first | (with_reducible first | exact HB.out | apply below_alloc | apply pw_below_drewN | apply below_drew1 | refine below_set ?_ GE135.out) | exact HB.out))))
                      have n2_ := Aside0.mk (blk_below (g := gb135) (o := .cells #[.int .i64 a2_0, .int .i64 a2_1, .slice A2_2 l2_2.length c2_2] 26 (0, 0)) (by (with_reducible repeat (first | refine blk_drewN ?_ _ | refine blk_drew ?_ | refine blk_alloc ?_ _)); exact BK135.out) hb)
                      have n3_ := Aside0.mk (below_step (by repeat (first | (with_reducible first | exact HB.out | apply below_alloc | apply pw_below_drewN | apply below_drew1 | refine below_set ?_ GE135.out) | exact HB.out)) hb)
                      have z_HO138 := fun (h0_ : b 2 = true) => (show Kd.R (Kd.int .u8) 5 w31 w.heap.size (fun k_ => (w.heap.size ≤ k_)) v137 t136 from by first | exact (Kd.R_elder' (by (with_reducible repeat (first | apply Kd.R_alloc | apply Kd.R_drewN | apply Kd.R_drew)); exact (Q_HO138 h0_)) (Kd.R_base ho32) hb) | exact Kd.R_mono (Kd.R_elder' (by (with_reducible repeat (first | apply Kd.R_alloc | apply Kd.R_drewN | apply Kd.R_drew)); exact (Q_HO138 h0_)) (Kd.R_base ho32) hb) (fun _ h_ => by first | trivial | exact h_ | exact h_.1))
                      have z_HO141 := fun (h0_ : b 5 = true) => (show Kd.R (Kd.int .u8) 5 w31 w.heap.size (fun k_ => (w.heap.size ≤ k_)) v140 t139 from by first | exact (Kd.R_elder' (by (with_reducible repeat (first | apply Kd.R_alloc | apply Kd.R_drewN | apply Kd.R_drew)); exact (Q_HO141 h0_)) (Kd.R_base ho32) hb) | exact Kd.R_mono (Kd.R_elder' (by (with_reducible repeat (first | apply Kd.R_alloc | apply Kd.R_drewN | apply Kd.R_drew)); exact (Q_HO141 h0_)) (Kd.R_base ho32) hb) (fun _ h_ => by first | trivial | exact h_ | exact h_.1))
                      have z_HO144 := fun (h0_ : b 10 = true) => (show Kd.R (Kd.int .u8) 5 w31 w.heap.size (fun k_ => (w.heap.size ≤ k_)) v143 t142 from by first | exact (Kd.R_elder' (by (with_reducible repeat (first | apply Kd.R_alloc | apply Kd.R_drewN | apply Kd.R_drew)); exact (Q_HO144 h0_)) (Kd.R_base ho32) hb) | exact Kd.R_mono (Kd.R_elder' (by (with_reducible repeat (first | apply Kd.R_alloc | apply Kd.R_drewN | apply Kd.R_drew)); exact (Q_HO144 h0_)) (Kd.R_base ho32) hb) (fun _ h_ => by first | trivial | exact h_ | exact h_.1))
                      clear HO_136002
                      clear BK135
                      clear HB
                      have HO_136002 := n0_
                      have HO147 := n1_
                      have BK135 := n2_
                      have HB := n3_
                      clear n0_ n1_ n2_ n3_
                      clear hb ho32
                      refine hK.out _ _ ⟨v137, v140, v143, v146, v149, v152, m16_, (by rw [ha.out]; exact putSel_upk 8 hb_ rfl rfl rfl), (by first | ((with_reducible repeat (first | apply Kd.V_alloc | apply Kd.V_drewN | apply Kd.V_drew)); exact Kd.V_mono HO_136002.out (fun _ hk => by first | exact ⟨hk.1.1, ⟨hk.2, hk.1.2⟩⟩ | exact okw hk)) | ((with_reducible repeat (first | apply Kd.V_alloc | apply Kd.V_drewN | apply Kd.V_drew)); exact Kd.V_mono HO_136002.out (fun _ hk => by first | trivial | exact hk | exact hk.1 | exact hk.2 | exact hk.1.1 | exact okw hk))), (by (with_reducible repeat (first | refine blk_drewN ?_ _ | refine blk_drew ?_ | refine blk_alloc ?_ _)); exact BK135.out), (by repeat (first | (with_reducible first | exact HB.out | apply below_alloc | apply pw_below_drewN | apply below_drew1 | refine below_set ?_ GE135.out) | exact HB.out)), z_HO138, z_HO141, z_HO144, fun _ => (by first | ((with_reducible repeat (first | apply Kd.R_alloc | apply Kd.R_drewN | apply Kd.R_drew)); exact Kd.R_mono HO147.out (fun _ hk => hk.1)) | ((with_reducible repeat (first | apply Kd.R_alloc | apply Kd.R_drewN | apply Kd.R_drew)); exact Kd.R_mono HO147.out (fun _ hk => by first | trivial | exact hk | exact hk.1 | exact hk.2 | exact hk.1.1 | exact okw hk))), fun h0_ _ => absurd ((hoff 14 (by kernel_rfl)).symm.trans h0_) (by decide), fun h0_ => absurd ((hoff 15 (by kernel_rfl)).symm.trans h0_) (by decide), fun h0_ => absurd ((hoff 16 (by kernel_rfl)).symm.trans h0_) (by decide)⟩
                    refine steps_cons ?_ ?_
                    · rintro b a w' ⟨v137, v140, v143, v146, v149, v152, m16_, ha, Q_HO_136002, Q_BK135, Q_HB, Q_HO138, Q_HO141, Q_HO144, Q_HO147, Q_HO150, Q_HO153, Q_X16_⟩ hb_ hon hoff
                      refine ⟨_, rfl, fun K hK => ?_⟩
                      have e46 : a.tmps[46]? = some (.pointer (some ⟨gb135, 2, none⟩)) := by rw [ha]; exact (putSel_off rfl).trans rfl
                      replace ha := Aside0.mk ha
                      have HO_136002 := Aside0.mk Q_HO_136002
                      have BK135 := Aside0.mk Q_BK135
                      have HB := Aside0.mk Q_HB
                      have hc0_ : w'.cell? ⟨gb135, 0, none⟩ = some (.int .i64 a2_0) := (blk_cell BK135.out 0).trans rfl
                      have hc1_ : w'.cell? ⟨gb135, 1, none⟩ = some (.int .i64 a2_1) := (blk_cell BK135.out 1).trans rfl
                      have hc2_ : w'.cell? ⟨gb135, 2, none⟩ = some (.slice A2_2 l2_2.length c2_2) := (blk_cell BK135.out 2).trans rfl
                      refine value_ (w1 := w') (v := .slice A2_2 l2_2.length c2_2) (by rfl) rfl ?_ ?_
                      · go_simp
                        (try simp only [i64_w])
                        try rfl
                      refine hK.out _ _ ⟨v137, v140, v143, v146, v149, v152, m16_, (by rw [ha.out]; exact putSel_upk 9 hb_ rfl rfl rfl), Q_HO_136002, Q_BK135, Q_HB, Q_HO138, Q_HO141, Q_HO144, Q_HO147, fun h0_ _ => absurd ((hoff 14 (by kernel_rfl)).symm.trans h0_) (by decide), fun h0_ => absurd ((hoff 15 (by kernel_rfl)).symm.trans h0_) (by decide), fun h0_ => absurd ((hoff 16 (by kernel_rfl)).symm.trans h0_) (by decide)⟩
                    refine steps_cons ?_ ?_
                    · rintro b a w' ⟨v137, v140, v143, v146, v149, v152, m16_, ha, Q_HO_136002, Q_BK135, Q_HB, Q_HO138, Q_HO141, Q_HO144, Q_HO147, Q_HO150, Q_HO153, Q_X16_⟩ hb_ hon hoff
                      refine ⟨_, rfl, fun K hK => ?_⟩
                      have e36 : a.tmps[36]? = some (v137) := by rw [ha]; exact putSel_on (e := (2, 36, v137)) 1 rfl rfl (hon 2 (by kernel_rfl)) rfl
                      have e39 : a.tmps[39]? = some (v140) := by rw [ha]; exact putSel_on (e := (5, 39, v140)) 3 rfl rfl (hon 5 (by kernel_rfl)) rfl
                      have e44 : a.tmps[44]? = some (v143) := by rw [ha]; exact putSel_on (e := (10, 44, v143)) 7 rfl rfl (hon 10 (by kernel_rfl)) rfl
                      have e45 : a.tmps[45]? = some (v146) := by rw [ha]; exact putSel_on (e := (11, 45, v146)) 8 rfl rfl (hon 11 (by kernel_rfl)) rfl
                      have e47 : a.tmps[47]? = some (.slice A2_2 l2_2.length c2_2) := by rw [ha]; exact putSel_on (e := (13, 47, .slice A2_2 l2_2.length c2_2)) 9 rfl rfl (hon 13 (by kernel_rfl)) rfl
                      replace ha := Aside0.mk ha
                      have HO_136002 := Aside0.mk Q_HO_136002
                      have BK135 := Aside0.mk Q_BK135
                      have HB := Aside0.mk Q_HB
                      have HO138 := Aside0.mk (Q_HO138 (hon 2 (by kernel_rfl)))
                      have HO141 := Aside0.mk (Q_HO141 (hon 5 (by kernel_rfl)))
                      have HO144 := Aside0.mk (Q_HO144 (hon 10 (by kernel_rfl)))
                      have HO147 := Aside0.mk (Q_HO147 (hon 11 (by kernel_rfl)))
                      obtain ⟨Ao37, co37, eo37⟩ := Kd.R_slice HO138.out
                      (first | subst eo37 | (injection eo37 with f1_ f2_ f3_; have f4_ := f1_.symm; have f5_ := f3_.symm; clear f1_ f2_ f3_; subst f4_; subst f5_))
                      obtain ⟨Ao38, co38, eo38⟩ := Kd.R_slice HO141.out
                      (first | subst eo38 | (injection eo38 with f1_ f2_ f3_; have f4_ := f1_.symm; have f5_ := f3_.symm; clear f1_ f2_ f3_; subst f4_; subst f5_))
                      obtain ⟨Ao39, co39, eo39⟩ := Kd.R_slice HO144.out
                      (first | subst eo39 | (injection eo39 with f1_ f2_ f3_; have f4_ := f1_.symm; have f5_ := f3_.symm; clear f1_ f2_ f3_; subst f4_; subst f5_))
                      obtain ⟨Ao40, co40, eo40⟩ := Kd.R_slice HO147.out
                      (first | subst eo40 | (injection eo40 with f1_ f2_ f3_; have f4_ := f1_.symm; have f5_ := f3_.symm; clear f1_ f2_ f3_; subst f4_; subst f5_))
                      refine Kd.N_lit_step (Kd.slice 5 (Kd.int .u8)) _ 24 ?hg (N' := 48) ?hd (xs := ([t136, t139, t142, y145, l2_2] : List (List Int))) (inner := [.slice Ao37 t136.length co37, .slice Ao38 t139.length co38, .slice Ao39 t142.length co39, .slice Ao40 y145.length co40, .slice A2_2 l2_2.length c2_2]) (ok := (fun k_ => (P2_2_ k_ ∨ w.heap.size ≤ k_) ∧ k_ ≠ gb135)) (okp := (fun k_ => (P2_2_ k_ ∨ w.heap.size ≤ k_) ∧ k_ ≠ gb135)) ?hr ?hp (fun _ hk => hk) ((show ∀ k_, w'.heap.size ≤ k_ → (fun k_ => (P2_2_ k_ ∨ w.heap.size ≤ k_) ∧ k_ ≠ gb135) k_ from fun k_ hk => ⟨(.inr (Nat.le_trans (below_size (by repeat (first | (with_reducible first | exact HB.out | apply below_alloc | apply pw_below_drewN | apply below_drew1 | refine below_set ?_ GE135.out) | exact HB.out))) hk)), Kd.freshB (g := gb135) (o := .cells #[.int .i64 a2_0, .int .i64 a2_1, .slice A2_2 l2_2.length c2_2] 26 (0, 0)) (by (with_reducible repeat (first | refine blk_drewN ?_ _ | refine blk_drew ?_ | refine blk_alloc ?_ _)); exact BK135.out) k_ hk⟩) _ (Nat.le_refl _)) (Below.refl _ _) (Nat.le_refl _) (by simp) ?_; (case hd => rfl); (case hg => rfl); (case hr => first | (go_simp; done) | (go_simp; rfl)); (case hp => exact (Reps.one (show Kd.FK (Kd.slice 5 (Kd.int .u8)) _ _ t136 [.slice Ao37 t136.length co37] from (by first | exact Kd.FK_slice_mk (Kd.R_reads' (Kd.R_mono (ok' := (fun k_ => (P2_2_ k_ ∨ w.heap.size ≤ k_) ∧ k_ ≠ gb135)) (Kd.R_types (HO138.out) BK135.out (by decide)) (fun k_ hk => by first | exact ⟨(.inr (hk.1.1)), hk.2⟩ | exact okw hk))).2.1 (Kd.R_F (Kd.R_mono (ok' := (fun k_ => (P2_2_ k_ ∨ w.heap.size ≤ k_) ∧ k_ ≠ gb135)) (Kd.R_types (HO138.out) BK135.out (by decide)) (fun k_ hk => by first | exact ⟨(.inr (hk.1.1)), hk.2⟩ | exact okw hk))) | exact FK_slice_of (Kd.R_reads' (Kd.R_mono (ok' := (fun k_ => (P2_2_ k_ ∨ w.heap.size ≤ k_) ∧ k_ ≠ gb135)) (Kd.R_types (HO138.out) BK135.out (by decide)) (fun k_ hk => by first | exact ⟨(.inr (hk.1.1)), hk.2⟩ | exact okw hk))).1 (Kd.R_reads' (Kd.R_mono (ok' := (fun k_ => (P2_2_ k_ ∨ w.heap.size ≤ k_) ∧ k_ ≠ gb135)) (Kd.R_types (HO138.out) BK135.out (by decide)) (fun k_ hk => by first | exact ⟨(.inr (hk.1.1)), hk.2⟩ | exact okw hk))).2.1 (Kd.R_F (Kd.R_mono (ok' := (fun k_ => (P2_2_ k_ ∨ w.heap.size ≤ k_) ∧ k_ ≠ gb135)) (Kd.R_types (HO138.out) BK135.out (by decide)) (fun k_ hk => by first | exact ⟨(.inr (hk.1.1)), hk.2⟩ | exact okw hk))))) (Reps.one (show Kd.FK (Kd.slice 5 (Kd.int .u8)) _ _ t139 [.slice Ao38 t139.length co38] from (by first | exact Kd.FK_slice_mk (Kd.R_reads' (Kd.R_mono (ok' := (fun k_ => (P2_2_ k_ ∨ w.heap.size ≤ k_) ∧ k_ ≠ gb135)) (Kd.R_types (HO141.out) BK135.out (by decide)) (fun k_ hk => by first | exact ⟨(.inr (hk.1.1)), hk.2⟩ | exact okw hk))).2.1 (Kd.R_F (Kd.R_mono (ok' := (fun k_ => (P2_2_ k_ ∨ w.heap.size ≤ k_) ∧ k_ ≠ gb135)) (Kd.R_types (HO141.out) BK135.out (by decide)) (fun k_ hk => by first | exact ⟨(.inr (hk.1.1)), hk.2⟩ | exact okw hk))) | exact FK_slice_of (Kd.R_reads' (Kd.R_mono (ok' := (fun k_ => (P2_2_ k_ ∨ w.heap.size ≤ k_) ∧ k_ ≠ gb135)) (Kd.R_types (HO141.out) BK135.out (by decide)) (fun k_ hk => by first | exact ⟨(.inr (hk.1.1)), hk.2⟩ | exact okw hk))).1 (Kd.R_reads' (Kd.R_mono (ok' := (fun k_ => (P2_2_ k_ ∨ w.heap.size ≤ k_) ∧ k_ ≠ gb135)) (Kd.R_types (HO141.out) BK135.out (by decide)) (fun k_ hk => by first | exact ⟨(.inr (hk.1.1)), hk.2⟩ | exact okw hk))).2.1 (Kd.R_F (Kd.R_mono (ok' := (fun k_ => (P2_2_ k_ ∨ w.heap.size ≤ k_) ∧ k_ ≠ gb135)) (Kd.R_types (HO141.out) BK135.out (by decide)) (fun k_ hk => by first | exact ⟨(.inr (hk.1.1)), hk.2⟩ | exact okw hk))))) (Reps.one (show Kd.FK (Kd.slice 5 (Kd.int .u8)) _ _ t142 [.slice Ao39 t142.length co39] from (by first | exact Kd.FK_slice_mk (Kd.R_reads' (Kd.R_mono (ok' := (fun k_ => (P2_2_ k_ ∨ w.heap.size ≤ k_) ∧ k_ ≠ gb135)) (Kd.R_types (HO144.out) BK135.out (by decide)) (fun k_ hk => by first | exact ⟨(.inr (hk.1.1)), hk.2⟩ | exact okw hk))).2.1 (Kd.R_F (Kd.R_mono (ok' := (fun k_ => (P2_2_ k_ ∨ w.heap.size ≤ k_) ∧ k_ ≠ gb135)) (Kd.R_types (HO144.out) BK135.out (by decide)) (fun k_ hk => by first | exact ⟨(.inr (hk.1.1)), hk.2⟩ | exact okw hk))) | exact FK_slice_of (Kd.R_reads' (Kd.R_mono (ok' := (fun k_ => (P2_2_ k_ ∨ w.heap.size ≤ k_) ∧ k_ ≠ gb135)) (Kd.R_types (HO144.out) BK135.out (by decide)) (fun k_ hk => by first | exact ⟨(.inr (hk.1.1)), hk.2⟩ | exact okw hk))).1 (Kd.R_reads' (Kd.R_mono (ok' := (fun k_ => (P2_2_ k_ ∨ w.heap.size ≤ k_) ∧ k_ ≠ gb135)) (Kd.R_types (HO144.out) BK135.out (by decide)) (fun k_ hk => by first | exact ⟨(.inr (hk.1.1)), hk.2⟩ | exact okw hk))).2.1 (Kd.R_F (Kd.R_mono (ok' := (fun k_ => (P2_2_ k_ ∨ w.heap.size ≤ k_) ∧ k_ ≠ gb135)) (Kd.R_types (HO144.out) BK135.out (by decide)) (fun k_ hk => by first | exact ⟨(.inr (hk.1.1)), hk.2⟩ | exact okw hk))))) (Reps.one (show Kd.FK (Kd.slice 5 (Kd.int .u8)) _ _ y145 [.slice Ao40 y145.length co40] from (by first | exact Kd.FK_slice_mk (Kd.R_reads' (Kd.R_mono (ok' := (fun k_ => (P2_2_ k_ ∨ w.heap.size ≤ k_) ∧ k_ ≠ gb135)) (Kd.R_types (HO147.out) BK135.out (by decide)) (fun k_ hk => by first | exact ⟨(.inr (hk.1.1)), hk.2⟩ | exact okw hk))).2.1 (Kd.R_F (Kd.R_mono (ok' := (fun k_ => (P2_2_ k_ ∨ w.heap.size ≤ k_) ∧ k_ ≠ gb135)) (Kd.R_types (HO147.out) BK135.out (by decide)) (fun k_ hk => by first | exact ⟨(.inr (hk.1.1)), hk.2⟩ | exact okw hk))) | exact FK_slice_of (Kd.R_reads' (Kd.R_mono (ok' := (fun k_ => (P2_2_ k_ ∨ w.heap.size ≤ k_) ∧ k_ ≠ gb135)) (Kd.R_types (HO147.out) BK135.out (by decide)) (fun k_ hk => by first | exact ⟨(.inr (hk.1.1)), hk.2⟩ | exact okw hk))).1 (Kd.R_reads' (Kd.R_mono (ok' := (fun k_ => (P2_2_ k_ ∨ w.heap.size ≤ k_) ∧ k_ ≠ gb135)) (Kd.R_types (HO147.out) BK135.out (by decide)) (fun k_ hk => by first | exact ⟨(.inr (hk.1.1)), hk.2⟩ | exact okw hk))).2.1 (Kd.R_F (Kd.R_mono (ok' := (fun k_ => (P2_2_ k_ ∨ w.heap.size ≤ k_) ∧ k_ ≠ gb135)) (Kd.R_types (HO147.out) BK135.out (by decide)) (fun k_ hk => by first | exact ⟨(.inr (hk.1.1)), hk.2⟩ | exact okw hk))))) (Reps.one (show Kd.FK (Kd.slice 5 (Kd.int .u8)) _ _ l2_2 [.slice A2_2 l2_2.length c2_2] from (by first | exact Kd.FK_slice_mk (Kd.V_reads' (e := 0) (base := 0) (Kd.V_mono (ok' := (fun k_ => (P2_2_ k_ ∨ w.heap.size ≤ k_) ∧ k_ ≠ gb135)) (HO_136002.out) (fun k_ hk => by first | exact ⟨hk.1, hk.2.2.2.2.2⟩ | exact okw hk))).2.1 (Kd.V_F (e := 0) (base := 0) (Kd.V_mono (ok' := (fun k_ => (P2_2_ k_ ∨ w.heap.size ≤ k_) ∧ k_ ≠ gb135)) (HO_136002.out) (fun k_ hk => by first | exact ⟨hk.1, hk.2.2.2.2.2⟩ | exact okw hk))) | exact FK_slice_of (Kd.V_reads' (e := 0) (base := 0) (Kd.V_mono (ok' := (fun k_ => (P2_2_ k_ ∨ w.heap.size ≤ k_) ∧ k_ ≠ gb135)) (HO_136002.out) (fun k_ hk => by first | exact ⟨hk.1, hk.2.2.2.2.2⟩ | exact okw hk))).1 (Kd.V_reads' (e := 0) (base := 0) (Kd.V_mono (ok' := (fun k_ => (P2_2_ k_ ∨ w.heap.size ≤ k_) ∧ k_ ≠ gb135)) (HO_136002.out) (fun k_ hk => by first | exact ⟨hk.1, hk.2.2.2.2.2⟩ | exact okw hk))).2.1 (Kd.V_F (e := 0) (base := 0) (Kd.V_mono (ok' := (fun k_ => (P2_2_ k_ ∨ w.heap.size ≤ k_) ∧ k_ ≠ gb135)) (HO_136002.out) (fun k_ hk => by first | exact ⟨hk.1, hk.2.2.2.2.2⟩ | exact okw hk))))) (Reps.none _ _)))))))
                      intro v149 w41 ho42 hb hg_ hnew_
                      clear hg_ hnew_
                      (first | rw [← Ny148.out] at ho42 | (simp only [Int.reduceToNat] at ho42; rw [← Ny148.out] at ho42))
                      have n0_ := Aside0.mk (Kd.V_elder' (by (with_reducible repeat (first | apply Kd.V_alloc | apply Kd.V_drewN | apply Kd.V_drew)); exact HO_136002.out) (Kd.N_base ho42) hb)
                      have n1_ := Aside0.mk (Kd.R_below (by (with_reducible repeat (first | apply Kd.R_alloc | apply Kd.R_drewN | apply Kd.R_drew)); exact HO138.out) hb)
                      have n2_ := Aside0.mk (Kd.R_below (by (with_reducible repeat (first | apply Kd.R_alloc | apply Kd.R_drewN | apply Kd.R_drew)); exact HO141.out) hb)
                      have n3_ := Aside0.mk (Kd.R_below (by (with_reducible repeat (first | apply Kd.R_alloc | apply Kd.R_drewN | apply Kd.R_drew)); exact HO144.out) hb)
                      have n4_ := Aside0.mk (Kd.R_below (by (with_reducible repeat (first | apply Kd.R_alloc | apply Kd.R_drewN | apply Kd.R_drew)); exact HO147.out) hb)
                      have n5_ := Aside0.mk (Kd.N_lower ho42 (below_size (by repeat (first | (with_reducible first | exact HB.out | apply below_alloc | apply pw_below_drewN | apply below_drew1 | refine below_set ?_ GE135.out) | exact HB.out))))
                      have n6_ := Aside0.mk (blk_below (g := gb135) (o := .cells #[.int .i64 a2_0, .int .i64 a2_1, .slice A2_2 l2_2.length c2_2] 26 (0, 0)) (by (with_reducible repeat (first | refine blk_drewN ?_ _ | refine blk_drew ?_ | refine blk_alloc ?_ _)); exact BK135.out) hb)
                      have n7_ := Aside0.mk (below_step (by repeat (first | (with_reducible first | exact HB.out | apply below_alloc | apply pw_below_drewN | apply below_drew1 | refine below_set ?_ GE135.out) | exact HB.out)) hb)
                      clear HO_136002
                      clear HO138
                      clear HO141
                      clear HO144
                      clear HO147
                      clear BK135
                      clear HB
                      have HO_136002 := n0_
                      have HO138 := n1_
                      have HO141 := n2_
                      have HO144 := n3_
                      have HO147 := n4_
                      have HO150 := n5_
                      have BK135 := n6_
                      have HB := n7_
                      clear n0_ n1_ n2_ n3_ n4_ n5_ n6_ n7_
                      clear hb ho42
                      refine hK.out _ _ ⟨.slice Ao37 t136.length co37, .slice Ao38 t139.length co38, .slice Ao39 t142.length co39, .slice Ao40 y145.length co40, v149, v152, m16_, (by rw [ha.out]; exact putSel_upk 10 hb_ rfl rfl rfl), (by first | ((with_reducible repeat (first | apply Kd.V_alloc | apply Kd.V_drewN | apply Kd.V_drew)); exact Kd.V_mono HO_136002.out (fun _ hk => by first | exact ⟨hk.1.1, ⟨hk.1.2.1, ⟨hk.1.2.2.1, ⟨hk.1.2.2.2.1, ⟨hk.1.2.2.2.2.1, ⟨hk.2, hk.1.2.2.2.2.2⟩⟩⟩⟩⟩⟩ | exact okw hk)) | ((with_reducible repeat (first | apply Kd.V_alloc | apply Kd.V_drewN | apply Kd.V_drew)); exact Kd.V_mono HO_136002.out (fun _ hk => by first | trivial | exact hk | exact hk.1 | exact hk.2 | exact hk.1.1 | exact okw hk))), (by (with_reducible repeat (first | refine blk_drewN ?_ _ | refine blk_drew ?_ | refine blk_alloc ?_ _)); exact BK135.out), (by repeat (first | (with_reducible first | exact HB.out | apply below_alloc | apply pw_below_drewN | apply below_drew1 | refine below_set ?_ GE135.out) | exact HB.out)), fun _ => (by first | ((with_reducible repeat (first | apply Kd.R_alloc | apply Kd.R_drewN | apply Kd.R_drew)); exact HO138.out) | ((with_reducible repeat (first | apply Kd.R_alloc | apply Kd.R_drewN | apply Kd.R_drew)); exact Kd.R_mono HO138.out (fun _ hk => by first | trivial | exact hk | exact hk.1 | exact hk.2 | exact hk.1.1 | exact okw hk))), fun _ => (by first | ((with_reducible repeat (first | apply Kd.R_alloc | apply Kd.R_drewN | apply Kd.R_drew)); exact HO141.out) | ((with_reducible repeat (first | apply Kd.R_alloc | apply Kd.R_drewN | apply Kd.R_drew)); exact Kd.R_mono HO141.out (fun _ hk => by first | trivial | exact hk | exact hk.1 | exact hk.2 | exact hk.1.1 | exact okw hk))), fun _ => (by first | ((with_reducible repeat (first | apply Kd.R_alloc | apply Kd.R_drewN | apply Kd.R_drew)); exact HO144.out) | ((with_reducible repeat (first | apply Kd.R_alloc | apply Kd.R_drewN | apply Kd.R_drew)); exact Kd.R_mono HO144.out (fun _ hk => by first | trivial | exact hk | exact hk.1 | exact hk.2 | exact hk.1.1 | exact okw hk))), fun _ => (by first | ((with_reducible repeat (first | apply Kd.R_alloc | apply Kd.R_drewN | apply Kd.R_drew)); exact HO147.out) | ((with_reducible repeat (first | apply Kd.R_alloc | apply Kd.R_drewN | apply Kd.R_drew)); exact Kd.R_mono HO147.out (fun _ hk => by first | trivial | exact hk | exact hk.1 | exact hk.2 | exact hk.1.1 | exact okw hk))), fun _ _ => (by first | ((with_reducible repeat (first | apply Kd.N_alloc | apply Kd.N_drewN | apply Kd.N_drew)); exact HO150.out) | ((with_reducible repeat (first | apply Kd.N_alloc | apply Kd.N_drewN | apply Kd.N_drew)); exact Kd.N_mono HO150.out (fun _ hk => by first | trivial | exact hk | exact hk.1 | exact hk.2 | exact hk.1.1 | exact okw hk))), fun h0_ => absurd ((hoff 15 (by kernel_rfl)).symm.trans h0_) (by decide), fun h0_ => absurd ((hoff 16 (by kernel_rfl)).symm.trans h0_) (by decide)⟩
                    refine steps_cons ?_ ?_
                    · rintro b a w' ⟨v137, v140, v143, v146, v149, v152, m16_, ha, Q_HO_136002, Q_BK135, Q_HB, Q_HO138, Q_HO141, Q_HO144, Q_HO147, Q_HO150, Q_HO153, Q_X16_⟩ hb_ hon hoff
                      refine ⟨_, rfl, fun K hK => ?_⟩
                      have e48 : a.tmps[48]? = some (v149) := by rw [ha]; exact putSel_on (e := (14, 48, v149)) 10 rfl rfl (hon 14 (by kernel_rfl)) rfl
                      replace ha := Aside0.mk ha
                      have HO_136002 := Aside0.mk Q_HO_136002
                      have BK135 := Aside0.mk Q_BK135
                      have HB := Aside0.mk Q_HB
                      have HO138 := Aside0.mk (Q_HO138 (hon 2 (by kernel_rfl)))
                      have HO141 := Aside0.mk (Q_HO141 (hon 5 (by kernel_rfl)))
                      have HO144 := Aside0.mk (Q_HO144 (hon 10 (by kernel_rfl)))
                      have HO147 := Aside0.mk (Q_HO147 (hon 11 (by kernel_rfl)))
                      have HO150 := Aside0.mk (Q_HO150 (hon 14 (by kernel_rfl)) hb_)
                      obtain ⟨Ao43, co43, eo43⟩ := Kd.N_slice HO150.out
                      (first | subst eo43 | (injection eo43 with f1_ f2_ f3_; have f4_ := f1_.symm; have f5_ := f3_.symm; clear f1_ f2_ f3_; subst f4_; subst f5_))
                      refine goes_ Try.func37 (by kernel_rfl) rfl #[.slice Ao43 y148.length co43] (by rfl) rfl rfl (by first | (simp only [List.map_toArray, List.map_cons, List.map_nil, Act.eval, Array.getD_eq_getD_getElem?, Option.getD_some, e48]; done) | (simp only [List.map_toArray, List.map_cons, List.map_nil, Act.eval, Array.getD_eq_getD_getElem?, Option.getD_some, e48]; rfl)) ?_
                      with_reducible refine (word_Join.calls kj3 _ _ y148 t151 _ ?side1 ?side2 A19.out).mono ?_
                      (case side1 => repeat (first | exact (Kd.N_reads' HO150.out).2.2 | (with_reducible refine Kd.C_alloc ?_ _) | (with_reducible refine Kd.C_drewN ?_ _) | (with_reducible refine Kd.C_drew ?_)))
                      (case side2 => exact (Kd.N_reads' HO150.out).2.1)
                      rintro e w44 ⟨v152, rfl, ho0, hb⟩
                      refine ⟨_, rfl, ?_⟩
                      have n0_ := Aside0.mk (Kd.V_elder' (by (with_reducible repeat (first | apply Kd.V_alloc | apply Kd.V_drewN | apply Kd.V_drew)); exact HO_136002.out) (Kd.R_base ho0) hb)
                      have n1_ := Aside0.mk (Kd.R_elder' (by (with_reducible repeat (first | apply Kd.R_alloc | apply Kd.R_drewN | apply Kd.R_drew)); exact HO138.out) (Kd.R_base ho0) hb)
                      have n2_ := Aside0.mk (Kd.R_elder' (by (with_reducible repeat (first | apply Kd.R_alloc | apply Kd.R_drewN | apply Kd.R_drew)); exact HO141.out) (Kd.R_base ho0) hb)
                      have n3_ := Aside0.mk (Kd.R_elder' (by (with_reducible repeat (first | apply Kd.R_alloc | apply Kd.R_drewN | apply Kd.R_drew)); exact HO144.out) (Kd.R_base ho0) hb)
                      have n4_ := Aside0.mk (Kd.R_elder' (by (with_reducible repeat (first | apply Kd.R_alloc | apply Kd.R_drewN | apply Kd.R_drew)); exact HO147.out) (Kd.R_base ho0) hb)
                      have n5_ := Aside0.mk (Kd.N_elder' (by (with_reducible repeat (first | apply Kd.N_alloc | apply Kd.N_drewN | apply Kd.N_drew)); exact HO150.out) (Kd.R_base ho0) hb)
                      have n6_ := Aside0.mk (Kd.R_lower (Kd.R_new' (Kd.R_new' (Kd.R_new' (Kd.R_new' (Kd.R_newM (M := fun k_ => (w.heap.size ≤ k_)) ho0 (below_size (by repeat (first | (with_reducible first | exact HB.out | apply below_alloc | apply pw_below_drewN | apply below_drew1 | refine below_set ?_ GE135.out) | exact HB.out))) (fun k_ h_ => h_)) (Kd.R_lt (by (with_reducible repeat (first | apply Kd.R_alloc | apply Kd.R_drewN | apply Kd.R_drew)); exact HO138.out))) (Kd.R_lt (by (with_reducible repeat (first | apply Kd.R_alloc | apply Kd.R_drewN | apply Kd.R_drew)); exact HO141.out))) (Kd.R_lt (by (with_reducible repeat (first | apply Kd.R_alloc | apply Kd.R_drewN | apply Kd.R_drew)); exact HO144.out))) (Kd.R_lt (by (with_reducible repeat (first | apply Kd.R_alloc | apply Kd.R_drewN | apply Kd.R_drew)); exact HO147.out))) (below_size (by repeat (first | (with_reducible first | exact HB.out | apply below_alloc | apply pw_below_drewN | apply below_drew1 | refine below_set ?_ GE135.out) | exact HB.out))))
                      have n7_ := Aside0.mk (blk_below (g := gb135) (o := .cells #[.int .i64 a2_0, .int .i64 a2_1, .slice A2_2 l2_2.length c2_2] 26 (0, 0)) (by (with_reducible repeat (first | refine blk_drewN ?_ _ | refine blk_drew ?_ | refine blk_alloc ?_ _)); exact BK135.out) hb)
                      have n8_ := Aside0.mk (below_step (by repeat (first | (with_reducible first | exact HB.out | apply below_alloc | apply pw_below_drewN | apply below_drew1 | refine below_set ?_ GE135.out) | exact HB.out)) hb)
                      clear HO_136002
                      clear HO138
                      clear HO141
                      clear HO144
                      clear HO147
                      clear HO150
                      clear BK135
                      clear HB
                      have HO_136002 := n0_
                      have HO138 := n1_
                      have HO141 := n2_
                      have HO144 := n3_
                      have HO147 := n4_
                      have HO150 := n5_
                      have HO153 := n6_
                      have BK135 := n7_
                      have HB := n8_
                      clear n0_ n1_ n2_ n3_ n4_ n5_ n6_ n7_ n8_
                      (try clear hb)
                      (try clear hb2)
                      (try clear hk)
                      (try clear hi)
                      (try clear ho0)
                      refine hK.out _ _ ⟨v137, v140, v143, v146, .slice Ao43 y148.length co43, v152, m16_, (by rw [ha.out]; exact putSel_upk 11 hb_ rfl rfl rfl), (by first | ((with_reducible repeat (first | apply Kd.V_alloc | apply Kd.V_drewN | apply Kd.V_drew)); exact Kd.V_mono HO_136002.out (fun _ hk => by first | exact ⟨hk.1.1, ⟨hk.1.2.1, ⟨hk.1.2.2.1, ⟨hk.1.2.2.2.1, ⟨hk.1.2.2.2.2.1, ⟨hk.2, hk.1.2.2.2.2.2.2⟩⟩⟩⟩⟩⟩ | exact okw hk)) | ((with_reducible repeat (first | apply Kd.V_alloc | apply Kd.V_drewN | apply Kd.V_drew)); exact Kd.V_mono HO_136002.out (fun _ hk => by first | trivial | exact hk | exact hk.1 | exact hk.2 | exact hk.1.1 | exact okw hk))), (by (with_reducible repeat (first | refine blk_drewN ?_ _ | refine blk_drew ?_ | refine blk_alloc ?_ _)); exact BK135.out), (by repeat (first | (with_reducible first | exact HB.out | apply below_alloc | apply pw_below_drewN | apply below_drew1 | refine below_set ?_ GE135.out) | exact HB.out)), fun _ => (by first | ((with_reducible repeat (first | apply Kd.R_alloc | apply Kd.R_drewN | apply Kd.R_drew)); exact Kd.R_mono HO138.out (fun _ hk => by first | exact ⟨hk.1.1, ⟨hk.1.2.1, ⟨hk.1.2.2.1, ⟨hk.1.2.2.2, hk.2⟩⟩⟩⟩ | exact okw hk)) | ((with_reducible repeat (first | apply Kd.R_alloc | apply Kd.R_drewN | apply Kd.R_drew)); exact Kd.R_mono HO138.out (fun _ hk => by first | trivial | exact hk | exact hk.1 | exact hk.2 | exact hk.1.1 | exact okw hk))), fun _ => (by first | ((with_reducible repeat (first | apply Kd.R_alloc | apply Kd.R_drewN | apply Kd.R_drew)); exact Kd.R_mono HO141.out (fun _ hk => by first | exact ⟨hk.1.1, ⟨hk.1.2.1, ⟨hk.1.2.2.1, ⟨hk.1.2.2.2, hk.2⟩⟩⟩⟩ | exact okw hk)) | ((with_reducible repeat (first | apply Kd.R_alloc | apply Kd.R_drewN | apply Kd.R_drew)); exact Kd.R_mono HO141.out (fun _ hk => by first | trivial | exact hk | exact hk.1 | exact hk.2 | exact hk.1.1 | exact okw hk))), fun _ => (by first | ((with_reducible repeat (first | apply Kd.R_alloc | apply Kd.R_drewN | apply Kd.R_drew)); exact Kd.R_mono HO144.out (fun _ hk => by first | exact ⟨hk.1.1, ⟨hk.1.2.1, ⟨hk.1.2.2.1, ⟨hk.1.2.2.2, hk.2⟩⟩⟩⟩ | exact okw hk)) | ((with_reducible repeat (first | apply Kd.R_alloc | apply Kd.R_drewN | apply Kd.R_drew)); exact Kd.R_mono HO144.out (fun _ hk => by first | trivial | exact hk | exact hk.1 | exact hk.2 | exact hk.1.1 | exact okw hk))), fun _ => (by first | ((with_reducible repeat (first | apply Kd.R_alloc | apply Kd.R_drewN | apply Kd.R_drew)); exact Kd.R_mono HO147.out (fun _ hk => by first | exact ⟨hk.1.1, ⟨hk.1.2.1, ⟨hk.1.2.2.1, ⟨hk.1.2.2.2, hk.2⟩⟩⟩⟩ | exact okw hk)) | ((with_reducible repeat (first | apply Kd.R_alloc | apply Kd.R_drewN | apply Kd.R_drew)); exact Kd.R_mono HO147.out (fun _ hk => by first | trivial | exact hk | exact hk.1 | exact hk.2 | exact hk.1.1 | exact okw hk))), fun _ h1_ => absurd ((up_self b 15).symm.trans h1_) (by decide), fun _ => (by first | ((with_reducible repeat (first | apply Kd.R_alloc | apply Kd.R_drewN | apply Kd.R_drew)); exact Kd.R_mono HO153.out (fun _ hk => by first | exact ⟨hk.1.1.1.1.1, ⟨hk.1.1.1.2, ⟨hk.1.1.2, ⟨hk.1.2, hk.2⟩⟩⟩⟩ | exact okw hk)) | ((with_reducible repeat (first | apply Kd.R_alloc | apply Kd.R_drewN | apply Kd.R_drew)); exact Kd.R_mono HO153.out (fun _ hk => by first | trivial | exact hk | exact hk.1 | exact hk.2 | exact hk.1.1 | exact okw hk))), fun h0_ => absurd ((hoff 16 (by kernel_rfl)).symm.trans h0_) (by decide)⟩
                    refine steps_cons ?_ ?_
                    · rintro b a w' ⟨v137, v140, v143, v146, v149, v152, m16_, ha, Q_HO_136002, Q_BK135, Q_HB, Q_HO138, Q_HO141, Q_HO144, Q_HO147, Q_HO150, Q_HO153, Q_X16_⟩ hb_ hon hoff
                      refine ⟨_, rfl, fun K hK => ?_⟩
                      have e49 : a.tmps[49]? = some (v152) := by rw [ha]; exact putSel_on (e := (15, 49, v152)) 11 rfl rfl (hon 15 (by kernel_rfl)) rfl
                      replace ha := Aside0.mk ha
                      have HO_136002 := Aside0.mk Q_HO_136002
                      have BK135 := Aside0.mk Q_BK135
                      have HB := Aside0.mk Q_HB
                      have HO138 := Aside0.mk (Q_HO138 (hon 2 (by kernel_rfl)))
                      have HO141 := Aside0.mk (Q_HO141 (hon 5 (by kernel_rfl)))
                      have HO144 := Aside0.mk (Q_HO144 (hon 10 (by kernel_rfl)))
                      have HO147 := Aside0.mk (Q_HO147 (hon 11 (by kernel_rfl)))
                      have HO153 := Aside0.mk (Q_HO153 (hon 15 (by kernel_rfl)))
                      refine value_ (w1 := w') (v := v152) (by rfl) rfl ?_ ?_
                      · go_simp
                        (try simp only [i64_w])
                        try rfl
                      refine hK.out _ _ ⟨v137, v140, v143, v146, v149, v152, (v152), (by rw [ha.out]; exact putSel_upk 12 hb_ rfl rfl rfl), Q_HO_136002, Q_BK135, Q_HB, Q_HO138, Q_HO141, Q_HO144, Q_HO147, fun _ h1_ => absurd ((hon 15 (by kernel_rfl)).symm.trans h1_) (by decide), Q_HO153, fun _ => rfl⟩
                    exact steps_nil
                  rintro b a w44 hall ⟨v137, v140, v143, v146, v149, v152, m16_, ha, Q_HO_136002, Q_BK135, Q_HB, Q_HO138, Q_HO141, Q_HO144, Q_HO147, Q_HO150, Q_HO153, Q_X16_⟩
                  clear BK135 HB HO_136002
                  have hb1_ := hall 1 (by kernel_rfl)
                  have hb2_ := hall 2 (by kernel_rfl)
                  have hb4_ := hall 4 (by kernel_rfl)
                  have hb5_ := hall 5 (by kernel_rfl)
                  have hb7_ := hall 7 (by kernel_rfl)
                  have hb8_ := hall 8 (by kernel_rfl)
                  have hb9_ := hall 9 (by kernel_rfl)
                  have hb10_ := hall 10 (by kernel_rfl)
                  have hb11_ := hall 11 (by kernel_rfl)
                  have hb13_ := hall 13 (by kernel_rfl)
                  have hb14_ := hall 14 (by kernel_rfl)
                  have hb15_ := hall 15 (by kernel_rfl)
                  have hb16_ := hall 16 (by kernel_rfl)
                  subst ha
                  obtain rfl := Q_X16_ hb16_
                  simp only [putSel, hb1_, hb2_, hb4_, hb5_, hb7_, hb8_, hb9_, hb10_, hb11_, hb13_, hb14_, hb15_, hb16_, if_true, Act.put, List.setIfInBounds_toArray, List.set_cons_zero, List.set_cons_succ]
                  have HO_136002 := Aside0.mk Q_HO_136002
                  clear Q_HO_136002
                  have BK135 := Aside0.mk Q_BK135
                  clear Q_BK135
                  have HB := Aside0.mk Q_HB
                  clear Q_HB
                  have HO138 := Aside0.mk (Q_HO138 hb2_)
                  clear Q_HO138
                  have HO141 := Aside0.mk (Q_HO141 hb5_)
                  clear Q_HO141
                  have HO144 := Aside0.mk (Q_HO144 hb10_)
                  clear Q_HO144
                  have HO147 := Aside0.mk (Q_HO147 hb11_)
                  clear Q_HO147
                  clear Q_HO150
                  have HO153 := Aside0.mk (Q_HO153 hb15_)
                  clear Q_HO153
                  clear hall hb1_ hb2_ hb4_ hb5_ hb7_ hb8_ hb9_ hb10_ hb11_ hb13_ hb14_ hb15_ hb16_
                  obtain ⟨Ao45, co45, eo45⟩ := Kd.R_slice HO153.out
                  subst eo45
                  go_upto_region 7 with (first | ((with_reducible refine gate_callee (f := 40) rfl ?_); refine goesL_ (some 54) rfl rfl Try.func40 (by kernel_rfl) rfl #[.int .u32 a0, .int .u32 a1, .int .i64 17, .int .i64 (t151.length : Int)] rfl (by (try simp only [List.map_toArray, List.map_cons, List.map_nil]); first | done | rfl | (simp only [List.length_drop, List.length_take]; rfl)) ?_; (with_reducible refine (sum_Pseudo.calls kj3 a0 a1 17 (t151.length : Int) t154 _ A20.out).mono ?_); rintro e w46 ⟨v155, rfl, ho0, hb⟩; refine ⟨_, rfl, ?_⟩; have n0_ := Aside0.mk (Kd.R_elder' (by (with_reducible repeat (first | apply Kd.R_alloc | apply Kd.R_drewN | apply Kd.R_drew)); exact HO153.out) (Kd.R_base ho0) hb); have n1_ := Aside0.mk (Kd.R_lower (Kd.R_new' (Kd.R_newM (M := fun k_ => (w.heap.size ≤ k_)) ho0 (below_size (by repeat (first | (with_reducible first | exact HB.out | apply below_alloc | apply pw_below_drewN | apply below_drew1 | refine below_set ?_ GE135.out) | exact HB.out))) (fun k_ h_ => h_)) (Kd.R_lt (by (with_reducible repeat (first | apply Kd.R_alloc | apply Kd.R_drewN | apply Kd.R_drew)); exact HO153.out))) (below_size (by repeat (first | (with_reducible first | exact HB.out | apply below_alloc | apply pw_below_drewN | apply below_drew1 | refine below_set ?_ GE135.out) | exact HB.out)))); have n2_ := Aside0.mk (blk_below (g := gb135) (o := .cells #[.int .i64 a2_0, .int .i64 a2_1, .slice A2_2 l2_2.length c2_2] 26 (0, 0)) (by (with_reducible repeat (first | refine blk_drewN ?_ _ | refine blk_drew ?_ | refine blk_alloc ?_ _)); exact BK135.out) hb); have n3_ := Aside0.mk (below_step (by repeat (first | (with_reducible first | exact HB.out | apply below_alloc | apply pw_below_drewN | apply below_drew1 | refine below_set ?_ GE135.out) | exact HB.out)) hb); clear HO153; clear BK135; clear HB; have HO153 := n0_; have HO156 := n1_; have BK135 := n2_; have HB := n3_; clear n0_ n1_ n2_ n3_; (try clear hb); (try clear hb2); (try clear hk); (try clear hi); (try clear ho0); obtain ⟨Ao47, co47, eo47⟩ := Kd.R_slice HO156.out; subst eo47) | ((with_reducible refine gate_dst (N := 56) rfl ?_); (try (refine gate_guard (by rfl) ?_; dsimp only)); refine Kd.N_lit (Kd.slice 5 (Kd.int .u8)) _ 24 ?hg (N' := 56) ?hd (xs := ([t154, t151] : List (List Int))) (inner := [.slice Ao47 t154.length co47, .slice Ao45 t151.length co45]) (ok := (fun k_ => (P2_2_ k_ ∨ w.heap.size ≤ k_) ∧ k_ ≠ gb135)) (okp := (fun k_ => (P2_2_ k_ ∨ w.heap.size ≤ k_) ∧ k_ ≠ gb135)) ?hr ?hp (fun _ hk => hk) ((show ∀ k_, w46.heap.size ≤ k_ → (fun k_ => (P2_2_ k_ ∨ w.heap.size ≤ k_) ∧ k_ ≠ gb135) k_ from fun k_ hk => ⟨(.inr (Nat.le_trans (below_size (by repeat (first | (with_reducible first | exact HB.out | apply below_alloc | apply pw_below_drewN | apply below_drew1 | refine below_set ?_ GE135.out) | exact HB.out))) hk)), Kd.freshB (g := gb135) (o := .cells #[.int .i64 a2_0, .int .i64 a2_1, .slice A2_2 l2_2.length c2_2] 26 (0, 0)) (by (with_reducible repeat (first | refine blk_drewN ?_ _ | refine blk_drew ?_ | refine blk_alloc ?_ _)); exact BK135.out) k_ hk⟩) _ (Nat.le_refl _)) (Below.refl _ _) (Nat.le_refl _) (by simp) ?_; (case hd => rfl); (case hg => rfl); (case hr => first | (go_simp; done) | (go_simp; rfl)); (case hp => exact (Reps.one (show Kd.FK (Kd.slice 5 (Kd.int .u8)) _ _ t154 [.slice Ao47 t154.length co47] from (by first | exact Kd.FK_slice_mk (Kd.R_reads' (Kd.R_mono (ok' := (fun k_ => (P2_2_ k_ ∨ w.heap.size ≤ k_) ∧ k_ ≠ gb135)) (Kd.R_types (HO156.out) BK135.out (by decide)) (fun k_ hk => by first | exact ⟨(.inr (hk.1.1.1)), hk.2⟩ | exact okw hk))).2.1 (Kd.R_F (Kd.R_mono (ok' := (fun k_ => (P2_2_ k_ ∨ w.heap.size ≤ k_) ∧ k_ ≠ gb135)) (Kd.R_types (HO156.out) BK135.out (by decide)) (fun k_ hk => by first | exact ⟨(.inr (hk.1.1.1)), hk.2⟩ | exact okw hk))) | exact FK_slice_of (Kd.R_reads' (Kd.R_mono (ok' := (fun k_ => (P2_2_ k_ ∨ w.heap.size ≤ k_) ∧ k_ ≠ gb135)) (Kd.R_types (HO156.out) BK135.out (by decide)) (fun k_ hk => by first | exact ⟨(.inr (hk.1.1.1)), hk.2⟩ | exact okw hk))).1 (Kd.R_reads' (Kd.R_mono (ok' := (fun k_ => (P2_2_ k_ ∨ w.heap.size ≤ k_) ∧ k_ ≠ gb135)) (Kd.R_types (HO156.out) BK135.out (by decide)) (fun k_ hk => by first | exact ⟨(.inr (hk.1.1.1)), hk.2⟩ | exact okw hk))).2.1 (Kd.R_F (Kd.R_mono (ok' := (fun k_ => (P2_2_ k_ ∨ w.heap.size ≤ k_) ∧ k_ ≠ gb135)) (Kd.R_types (HO156.out) BK135.out (by decide)) (fun k_ hk => by first | exact ⟨(.inr (hk.1.1.1)), hk.2⟩ | exact okw hk))))) (Reps.one (show Kd.FK (Kd.slice 5 (Kd.int .u8)) _ _ t151 [.slice Ao45 t151.length co45] from (by first | exact Kd.FK_slice_mk (Kd.R_reads' (Kd.R_mono (ok' := (fun k_ => (P2_2_ k_ ∨ w.heap.size ≤ k_) ∧ k_ ≠ gb135)) (Kd.R_types (HO153.out) BK135.out (by decide)) (fun k_ hk => by first | exact ⟨(.inr (hk.1.1)), hk.2⟩ | exact okw hk))).2.1 (Kd.R_F (Kd.R_mono (ok' := (fun k_ => (P2_2_ k_ ∨ w.heap.size ≤ k_) ∧ k_ ≠ gb135)) (Kd.R_types (HO153.out) BK135.out (by decide)) (fun k_ hk => by first | exact ⟨(.inr (hk.1.1)), hk.2⟩ | exact okw hk))) | exact FK_slice_of (Kd.R_reads' (Kd.R_mono (ok' := (fun k_ => (P2_2_ k_ ∨ w.heap.size ≤ k_) ∧ k_ ≠ gb135)) (Kd.R_types (HO153.out) BK135.out (by decide)) (fun k_ hk => by first | exact ⟨(.inr (hk.1.1)), hk.2⟩ | exact okw hk))).1 (Kd.R_reads' (Kd.R_mono (ok' := (fun k_ => (P2_2_ k_ ∨ w.heap.size ≤ k_) ∧ k_ ≠ gb135)) (Kd.R_types (HO153.out) BK135.out (by decide)) (fun k_ hk => by first | exact ⟨(.inr (hk.1.1)), hk.2⟩ | exact okw hk))).2.1 (Kd.R_F (Kd.R_mono (ok' := (fun k_ => (P2_2_ k_ ∨ w.heap.size ≤ k_) ∧ k_ ≠ gb135)) (Kd.R_types (HO153.out) BK135.out (by decide)) (fun k_ hk => by first | exact ⟨(.inr (hk.1.1)), hk.2⟩ | exact okw hk))))) (Reps.none _ _)))); intro v158 w48 ho49 hb hg_ hnew_; clear hg_ hnew_; (first | rw [← Ny157.out] at ho49 | (simp only [Int.reduceToNat] at ho49; rw [← Ny157.out] at ho49)); have n0_ := Aside0.mk (Kd.R_below (by (with_reducible repeat (first | apply Kd.R_alloc | apply Kd.R_drewN | apply Kd.R_drew)); exact HO153.out) hb); have n1_ := Aside0.mk (Kd.R_below (by (with_reducible repeat (first | apply Kd.R_alloc | apply Kd.R_drewN | apply Kd.R_drew)); exact HO156.out) hb); have n2_ := Aside0.mk (Kd.N_lower ho49 (below_size (by repeat (first | (with_reducible first | exact HB.out | apply below_alloc | apply pw_below_drewN | apply below_drew1 | refine below_set ?_ GE135.out) | exact HB.out)))); have n3_ := Aside0.mk (blk_below (g := gb135) (o := .cells #[.int .i64 a2_0, .int .i64 a2_1, .slice A2_2 l2_2.length c2_2] 26 (0, 0)) (by (with_reducible repeat (first | refine blk_drewN ?_ _ | refine blk_drew ?_ | refine blk_alloc ?_ _)); exact BK135.out) hb); have n4_ := Aside0.mk (below_step (by repeat (first | (with_reducible first | exact HB.out | apply below_alloc | apply pw_below_drewN | apply below_drew1 | refine below_set ?_ GE135.out) | exact HB.out)) hb); clear HO153; clear HO156; clear BK135; clear HB; have HO153 := n0_; have HO156 := n1_; have HO159 := n2_; have BK135 := n3_; have HB := n4_; clear n0_ n1_ n2_ n3_ n4_; clear hb ho49; obtain ⟨Ao50, co50, eo50⟩ := Kd.N_slice HO159.out; subst eo50) | ((with_reducible refine gate_callee (f := 39) rfl ?_); refine goesL_ (some 57) rfl rfl Try.func39 (by kernel_rfl) rfl #[.slice Ao50 y157.length co50] rfl (by (try simp only [List.map_toArray, List.map_cons, List.map_nil]); first | done | rfl | (simp only [List.length_drop, List.length_take]; rfl)) ?_; (with_reducible refine (sum_Of.calls kj3 _ _ y157 t160 _ ?side1 ?side2 A21.out).mono ?_); (case side1 => repeat (first | exact (Kd.N_reads' HO159.out).2.2 | (with_reducible refine Kd.C_alloc ?_ _) | (with_reducible refine Kd.C_drewN ?_ _) | (with_reducible refine Kd.C_drew ?_))); (case side2 => exact (Kd.N_reads' HO159.out).2.1); rintro e w' ⟨rfl, ⟨nd, rfl⟩⟩; refine ⟨_, rfl, ?_⟩; (try (rw [drewN_self w48]; generalize hq_ : World.drewN w48 _ = w48; have n0_ : Aside0 (Kd.R (Kd.int .u8) 5 w48 w.heap.size (fun k_ => (w.heap.size ≤ k_) ∧ some k_ ≠ (.slice Ao47 t154.length co47 : Value).ownBlock) (.slice Ao45 t151.length co45) t151) := ⟨by rw [← hq_]; exact (by (with_reducible repeat (first | apply Kd.R_alloc | apply Kd.R_drewN | apply Kd.R_drew)); exact HO153.out)⟩; have n1_ : Aside0 (Kd.R (Kd.int .u8) 5 w48 w.heap.size (fun k_ => (w.heap.size ≤ k_) ∧ some k_ ≠ (.slice Ao45 t151.length co45 : Value).ownBlock) (.slice Ao47 t154.length co47) t154) := ⟨by rw [← hq_]; exact (by (with_reducible repeat (first | apply Kd.R_alloc | apply Kd.R_drewN | apply Kd.R_drew)); exact Kd.R_mono HO156.out (fun _ hk => by first | exact ⟨hk.1.1, hk.2⟩ | exact okw hk))⟩; have n2_ : Aside0 (Kd.N (Kd.slice 5 (Kd.int .u8)) 24 w48 w.heap.size (fun k_ => (P2_2_ k_ ∨ w.heap.size ≤ k_) ∧ k_ ≠ gb135) (.slice Ao50 y157.length co50) y157) := ⟨by rw [← hq_]; exact (by (with_reducible repeat (first | apply Kd.N_alloc | apply Kd.N_drewN | apply Kd.N_drew)); exact HO159.out)⟩; have n3_ : Aside0 (w48.heap[gb135]? = some (.cells #[.int .i64 a2_0, .int .i64 a2_1, .slice A2_2 l2_2.length c2_2] 26 (0, 0))) := ⟨by rw [← hq_]; exact (by (with_reducible repeat (first | refine blk_drewN ?_ _ | refine blk_drew ?_ | refine blk_alloc ?_ _)); exact BK135.out)⟩; have n4_ : Aside0 (Below w.heap.size w w48) := ⟨by rw [← hq_]; exact (by repeat (first | (with_reducible first | exact HB.out | apply below_alloc | apply pw_below_drewN | apply below_drew1 | refine below_set ?_ GE135.out) | exact HB.out))⟩; clear HO153 HO156 HO159 BK135 HB hq_; have HO153 := n0_; have HO156 := n1_; have HO159 := n2_; have BK135 := n3_; have HB := n4_; clear n0_ n1_ n2_ n3_ n4_))))
                  have qL_ : (7 : Int) < (t151.length : Int) := of_decide_eq_true (by first | (with_reducible assumption) | assumption)
                  obtain ⟨go26, co26, eo26, gb26, gl26, cl26, HG26⟩ := Kd.R_form HO153.out (by omega); (first | cases eo26 | (injection eo26 with ea_ en_ ec_; (first | subst ea_ | (injection ea_ with ea_; subst ea_)); subst ec_; clear en_)); have GB26 := Aside0.mk gb26; have GG26 := Aside0.mk HG26; clear gb26 gl26 HG26
                  have n0_ := Aside0.mk (Kd.R_drew HO153.out)
                  have n1_ := Aside0.mk (Kd.R_drew HO156.out)
                  have n2_ := Aside0.mk (blk_drew BK135.out)
                  have n3_ := Aside0.mk (below_drew1 HB.out)
                  clear HO153 HO156 BK135 HB
                  have HO153 := n0_
                  have HO156 := n1_
                  have BK135 := n2_
                  have HB := n3_
                  clear n0_ n1_ n2_ n3_
                  refine start_ (n := 5) (S := fun w' => True) (ds := []) #[false, false, false, false, false] (by kernel_rfl) rfl rfl trivial (fun hHeld => ?_)
                  generalize w48.drew = w48 at HO153 HO156 BK135 HB hHeld ⊢
                  clear HO156
                  have HO156 := Aside0.mk (Kd.R_nil (Kd.int .u8) 5 w48 w.heap.size (fun _ => False))
                  have qs_ : (6 : Int) ≤ (t151.length : Int) := by omega
                  have qc_ : t151.length ≤ co45 := (Kd.R_reads' HO153.out).2.1
                  have qd_ : ¬ (co45 = 6) := by omega
                  have qe_ : ¬ (6 = co45) := by omega
                  have qf_ : ¬ (co45 ≤ 6) := by omega
                  have qg_ : (6 < co45) = True := eq_true (by omega)
                  have qh_ : ¬ (co45 - 6 = 0) := by omega
                  refine pure_ (i := 0) (N := some 60) (v := ?_) (a' := ?_) #[true, false, false, false, false] rfl rfl (by kernel_rfl) (fun _ _ _ h => h) (Or.inl ⟨by rfl, ?_⟩) ?_ ?_
                  rotate_left
                  · intro w'
                    go_simp
                    with_reducible rfl
                  rotate_left
                  · simp only [Act.put, List.setIfInBounds_toArray, List.set_cons_zero, List.set_cons_succ, i64_w, i32_w]
                    rfl
                  refine pure_ (i := 1) (N := some 61) (v := ?_) (a' := ?_) #[true, true, false, false, false] rfl rfl (by kernel_rfl) (fun _ _ _ h => h) (Or.inl ⟨by rfl, ?_⟩) ?_ ?_
                  rotate_left
                  · intro w'
                    go_simp
                    with_reducible rfl
                  rotate_left
                  · simp only [Act.put, List.setIfInBounds_toArray, List.set_cons_zero, List.set_cons_succ, i64_w, i32_w]
                    rfl
                  refine pure_ (i := 2) (N := some 62) (v := ?_) (a' := ?_) #[true, true, true, false, false] rfl rfl (by kernel_rfl) (fun _ _ _ h => h) (Or.inl ⟨by rfl, ?_⟩) ?_ ?_
                  rotate_left
                  · intro w'
                    go_simp
                    with_reducible rfl
                  rotate_left
                  · simp only [Act.put, List.setIfInBounds_toArray, List.set_cons_zero, List.set_cons_succ, i64_w, i32_w]
                    rfl
                  refine chain_ [3, 4] rfl (by kernel_rfl) (by kernel_rfl) ?_
                  simp only [List.filterMap_cons, List.filterMap_nil, List.getElem?_toArray, List.getElem?_cons_succ, List.getElem?_cons_zero]
                  ((with_reducible refine gate_callee (f := 38) rfl ?_); refine goesL_ (some 63) rfl rfl Try.func38 (by kernel_rfl) rfl #[.int .i64 65535] rfl (by (try simp only [List.map_toArray, List.map_cons, List.map_nil]); first | done | rfl | (simp only [List.length_drop, List.length_take]; rfl)) ?_; (with_reducible refine (word_Put16.calls 65535 t161 _ A23.out).mono ?_); rintro e w51 ⟨v162, rfl, ho0, hb⟩; refine ⟨_, rfl, ?_⟩; have n0_ := Aside0.mk (Kd.R_elder' (by (with_reducible repeat (first | apply Kd.R_alloc | apply Kd.R_drewN | apply Kd.R_drew)); exact HO153.out) (Kd.R_base ho0) hb); have n1_ := Aside0.mk (Kd.R_elder' (by (with_reducible repeat (first | apply Kd.R_alloc | apply Kd.R_drewN | apply Kd.R_drew)); exact HO156.out) (Kd.R_base ho0) hb); have n2_ := Aside0.mk (Kd.R_lower (Kd.R_new' (Kd.R_new' (Kd.R_newM (M := fun k_ => (w.heap.size ≤ k_)) ho0 (below_size (by repeat (first | (with_reducible first | exact HB.out | apply below_alloc | apply pw_below_drewN | apply below_drew1 | refine below_set ?_ GE135.out) | exact HB.out))) (fun k_ h_ => h_)) (Kd.R_lt (by (with_reducible repeat (first | apply Kd.R_alloc | apply Kd.R_drewN | apply Kd.R_drew)); exact HO153.out))) (Kd.R_lt (by (with_reducible repeat (first | apply Kd.R_alloc | apply Kd.R_drewN | apply Kd.R_drew)); exact HO156.out))) (below_size (by repeat (first | (with_reducible first | exact HB.out | apply below_alloc | apply pw_below_drewN | apply below_drew1 | refine below_set ?_ GE135.out) | exact HB.out)))); have n3_ := Aside0.mk (blk_below (g := gb135) (o := .cells #[.int .i64 a2_0, .int .i64 a2_1, .slice A2_2 l2_2.length c2_2] 26 (0, 0)) (by (with_reducible repeat (first | refine blk_drewN ?_ _ | refine blk_drew ?_ | refine blk_alloc ?_ _)); exact BK135.out) hb); have n4_ := Aside0.mk (below_step (by repeat (first | (with_reducible first | exact HB.out | apply below_alloc | apply pw_below_drewN | apply below_drew1 | refine below_set ?_ GE135.out) | exact HB.out)) hb); clear HO153; clear HO156; clear BK135; clear HB; have HO153 := n0_; have HO156 := n1_; have HO163 := n2_; have BK135 := n3_; have HB := n4_; clear n0_ n1_ n2_ n3_ n4_; (try clear hb); (try clear hb2); (try clear hk); (try clear hi); (try clear ho0); obtain ⟨Ao52, co52, eo52⟩ := Kd.R_slice HO163.out; subst eo52; have p164 : 0 ≤ (0 : Int) := (by omega); have q164 : 0 < (t161.length : Int) := of_decide_eq_true (by first | (with_reducible assumption) | assumption); obtain ⟨ad164, e164, hx164_0⟩ := Kd.at_int (Kd.R_reads' HO163.out).2.2 0 p164 q164; cases e164; have qi164 : (0 < t161.length) = True := eq_true (by omega); (try rw [show ((0 : Int)).toNat = 0 from rfl] at hx164_0); (try rw [Addr.add_zero'] at hx164_0); replace p164 := eq_true p164; replace q164 := eq_true q164; have p26 : 0 ≤ (6 : Int) := (by omega); have q26 : (6 : Int) < ((t151.length : Int) : Int) := of_decide_eq_true (by first | (with_reducible assumption) | assumption); have qi26 : (6 < t151.length) = True := eq_true (by omega); obtain ⟨hx26_0, hf26_0⟩ := Kd.R_celln 0 HO153.out (6 : Int) p26 q26; (try rw [show ((6 : Int)).toNat = 6 from rfl] at hx26_0); (try simp only [Nat.reduceMul, Nat.zero_mul, Nat.zero_add, Nat.reduceAdd] at hx26_0); (try rw [show ((6 : Int)).toNat = 6 from rfl] at hf26_0); (try simp only [Nat.reduceMul, Nat.zero_mul, Nat.zero_add, Nat.reduceAdd] at hf26_0); replace p26 := eq_true p26; replace q26 := eq_true q26; have n_ := Aside0.mk (Kd.R_mono (ok' := (fun k_ => (w.heap.size ≤ k_) ∧ some k_ ≠ (.slice none 0 0 : Value).ownBlock ∧ some k_ ≠ (.slice (some ad164) t161.length co52 : Value).ownBlock)) HO153.out (fun k_ hk => by first | exact ⟨hk.1.1, ⟨hk.1.2, hk.2⟩⟩ | exact okw hk)); clear HO153; have HO153 := n_; clear n_; obtain ⟨hy53_, hz53_⟩ := Kd.R_celln 0 HO153.out (6 : Int) (by omega) (of_decide_eq_true (by first | (with_reducible assumption) | assumption)); (try simp only [Int.reduceToNat, Int.toNat_zero, Int.toNat_ofNat, Nat.reduceMul, Nat.zero_mul, Nat.zero_add] at hy53_ hz53_); (try rw [show ((6 : Int)).toNat = 6 from rfl] at hy53_); (try rw [show ((6 : Int)).toNat = 6 from rfl] at hz53_); have HP53 := Kd.R_putg HO153.out (6 : Int) (rd t161 0))
                  (try simp only [Act.put, List.setIfInBounds_toArray, List.set_cons_zero, List.set_cons_succ])
                  ((first | (with_reducible refine gate_builtin (b := .copy) (xs := #[.tmp 61, .tmp 63]) rfl ?_) | skip); refine R_copy2 w.heap.size rfl (.tmp 61) (.tmp 63) 24 5 rfl Try.underlying24 (by kernel_rfl) go26 _ _ 6 _ t151 t161 _ _ (t151.length - 6) (co45 - 6) ?hd ?hdn rfl HO153.out (Kd.R_reads' HO163.out).2.2 ?hys ?hat ?_; (case hd => rfl); (case hdn => omega); (case hys => (have h_ := A23.out; unfold word_Put16.f at h_; cases h_; rfl)); (case hat => omega); intro w54 hw hg hp0_; have hp_ : Kd.R (Kd.int .u8) 5 w54 w.heap.size (fun k_ => (w.heap.size ≤ k_) ∧ some k_ ≠ (.slice none 0 0 : Value).ownBlock ∧ some k_ ≠ (.slice (some ad164) t161.length co52 : Value).ownBlock) (.slice (some ⟨go26, 0, none⟩) t151.length co45) y167 := (by rw [Ny167.out, Ny165.out]; exact hp0_); clear HP53 hp0_; have n0_ := Aside0.mk (blk_grown (g := gb135) (o := .cells #[.int .i64 a2_0, .int .i64 a2_1, .slice A2_2 l2_2.length c2_2] 26 (0, 0)) (by (with_reducible repeat (first | refine blk_drewN ?_ _ | refine blk_drew ?_ | refine blk_alloc ?_ _)); exact BK135.out) hg (Kd.R_ne HO153.out BK135.out (by decide))); have n1_ := Aside0.mk (hp_); have n2_ := Aside0.mk (Kd.R_after (v := (.slice (some ⟨go26, 0, none⟩) t151.length co45)) (v1 := (.slice (some ⟨go26, 0, none⟩) t151.length co45)) (ok := (fun k_ => (w.heap.size ≤ k_) ∧ some k_ ≠ (.slice (some ad164) t161.length co52 : Value).ownBlock)) (by (with_reducible repeat (first | apply Kd.R_alloc | apply Kd.R_drewN | apply Kd.R_drew)); exact Kd.R_mono HO156.out (fun _ hk => by first | exact ⟨⟨hk.1.1.1, hk.2⟩, hk.1.2⟩ | exact okw hk)) hg (.inl rfl)); have n3_ := Aside0.mk (Kd.R_after (v := (.slice (some ⟨go26, 0, none⟩) t151.length co45)) (v1 := (.slice (some ⟨go26, 0, none⟩) t151.length co45)) (ok := (fun k_ => (w.heap.size ≤ k_) ∧ some k_ ≠ (.slice none 0 0 : Value).ownBlock)) (by (with_reducible repeat (first | apply Kd.R_alloc | apply Kd.R_drewN | apply Kd.R_drew)); exact Kd.R_mono HO163.out (fun _ hk => by first | exact ⟨⟨hk.1.1.1, hk.2⟩, hk.1.2⟩ | exact okw hk)) hg (.inl rfl)); have n4_ := Aside0.mk ((by rw [hw]; exact below_set (below_set (HB.out) GB26.out) GB26.out : Below w.heap.size w w54)); clear BK135; clear HO153; clear HO156; clear HO163; clear HB; have BK135 := n0_; have HO153 := n1_; have HO156 := n2_; have HO163 := n3_; have HB := n4_; clear n0_ n1_ n2_ n3_ n4_; clear hg hw hp_)
                  (try simp only [Act.put, List.setIfInBounds_toArray, List.set_cons_zero, List.set_cons_succ])
                  go_wp2
                  go_ret2
                  exact ⟨_, by first | rfl | (simp [errW_none, errW_some] <;> rfl) | (simp [*, errW_none, errW_some] <;> rfl), by (with_reducible repeat (first | apply Kd.R_alloc | apply Kd.R_drewN | apply Kd.R_drew)); exact Kd.R_mono HO153.out (fun _ hk => hk.1), by repeat (first | (with_reducible first | exact HB.out | apply below_alloc | apply pw_below_drewN | apply below_drew1 | refine below_set ?_ GE135.out) | exact HB.out)⟩
                · rw [if_neg c28] at H
                  exact absurd H (by simp)
              · rw [if_neg c27] at H
                exact absurd H (by simp)
            · rw [if_neg c25] at H
              exact absurd H (by simp)
          · rw [if_neg c24] at H
            exact absurd H (by simp)
        · rw [if_neg c22] at H
          have c22b0 : (t160 == 0) = false := beq_eq_false_iff_ne.mpr c22
          have c22b1 : (t160 != 0) = true := bne_iff_ne.mpr c22
          replace H := Option.bind_eq_some_iff.mp H
          obtain ⟨t168, A570, H⟩ := H
          replace H : (if 0 < (t168.length : Int) then (if 6 < (t151.length : Int) then (if 1 < (t168.length : Int) then (if 7 < (t151.length : Int) then (some (((t151.set (6 : Int).toNat (rd t168 0)).set (7 : Int).toNat (rd t168 1)), 0)) else (none)) else (none)) else (none)) else (none)) = some (r1, r2) := H
          have A57 := Aside0.mk A570
          clear A570
          by_cases c58 : 0 < (t168.length : Int)
          · rw [if_pos c58] at H
            have c58b0 : decide (0 < (t168.length : Int)) = true := decide_eq_true c58
            have c58b1 : decide (0 < t168.length) = true := decide_eq_true (by omega)
            clear c58
            by_cases c59 : 6 < (t151.length : Int)
            · rw [if_pos c59] at H
              have c59b0 : decide (6 < (t151.length : Int)) = true := decide_eq_true c59
              have c59b1 : decide (6 < t151.length) = true := decide_eq_true (by omega)
              clear c59
              obtain ⟨y172, hy172⟩ : ∃ y_ : List Int, y_ = (t151.set (6 : Int).toNat (rd t168 0)) := ⟨_, rfl⟩
              replace H : (if 1 < (t168.length : Int) then (if 7 < (t151.length : Int) then (some ((y172.set (7 : Int).toNat (rd t168 1)), 0)) else (none)) else (none)) = some (r1, r2) := by first | (rw [hy172]; with_reducible exact H) | (have H2_ := (Option.bind_some _ _).symm.trans H; rw [hy172]; with_reducible exact H2_) | (have H2_ := (Option.bind_some _ _).symm.trans H; with_reducible exact H2_) | with_reducible exact H | (rw [hy172]; exact H) | exact H
              have Ny172 := Aside0.mk hy172
              clear hy172
              by_cases c61 : 1 < (t168.length : Int)
              · rw [if_pos c61] at H
                have c61b0 : decide (1 < (t168.length : Int)) = true := decide_eq_true c61
                have c61b1 : decide (1 < t168.length) = true := decide_eq_true (by omega)
                clear c61
                by_cases c62 : 7 < (t151.length : Int)
                · rw [if_pos c62] at H
                  have c62b0 : decide (7 < (t151.length : Int)) = true := decide_eq_true c62
                  have c62b1 : decide (7 < t151.length) = true := decide_eq_true (by omega)
                  clear c62
                  obtain ⟨y174, hy174⟩ : ∃ y_ : List Int, y_ = (y172.set (7 : Int).toNat (rd t168 1)) := ⟨_, rfl⟩
                  replace H : (some (y174, 0)) = some (r1, r2) := by first | (rw [hy174]; with_reducible exact H) | (have H2_ := (Option.bind_some _ _).symm.trans H; rw [hy174]; with_reducible exact H2_) | (have H2_ := (Option.bind_some _ _).symm.trans H; with_reducible exact H2_) | with_reducible exact H | (rw [hy174]; exact H) | exact H
                  have Ny174 := Aside0.mk hy174
                  clear hy174
                  simp only [Option.some.injEq, Prod.mk.injEq] at H
                  obtain ⟨rfl, rfl⟩ := H
                  try go_wp2
                  have n0_ := Aside0.mk (Kd.V_drew HO_136002.out)
                  have n1_ := Aside0.mk (blk_drew BK135.out)
                  have n2_ := Aside0.mk (below_drew1 HB.out)
                  clear HO_136002
                  clear BK135
                  clear HB
                  have HO_136002 := n0_
                  have BK135 := n1_
                  have HB := n2_
                  clear n0_ n1_ n2_
                  refine start_ (n := 17) (S := fun w' => True) (ds := []) #[false, false, false, false, false, false, false, false, false, false, false, false, false, false, false, false, false] (by kernel_rfl) rfl rfl trivial (fun hHeld => ?_); refine with_tabW udp_Build.tab3 udp_Build.bits3 (fun HT_ HW_ => ?_)
                  generalize wc.drew = w64 at HO_136002 BK135 HB hHeld ⊢
                  refine pure_ (i := 0) (N := some 34) (v := ?_) (a' := ?_) #[true, false, false, false, false, false, false, false, false, false, false, false, false, false, false, false, false] rfl rfl (any_of HT_.out (by kernel_rfl)) (fun _ _ _ h => h) (Or.inl ⟨by rfl, ?_⟩) ?_ ?_
                  rotate_left
                  · intro w'
                    go_simp
                    with_reducible rfl
                  rotate_left
                  · simp only [Act.put, List.setIfInBounds_toArray, List.set_cons_zero, List.set_cons_succ, i64_w, i32_w]
                    rfl
                  refine pure_ (i := 3) (N := some 37) (v := ?_) (a' := ?_) #[true, false, false, true, false, false, false, false, false, false, false, false, false, false, false, false, false] rfl rfl (any_of HT_.out (by kernel_rfl)) (fun _ _ _ h => h) (Or.inl ⟨by rfl, ?_⟩) ?_ ?_
                  rotate_left
                  · intro w'
                    go_simp
                    with_reducible rfl
                  rotate_left
                  · simp only [Act.put, List.setIfInBounds_toArray, List.set_cons_zero, List.set_cons_succ, i64_w, i32_w]
                    rfl
                  refine pure_ (i := 6) (N := some 40) (v := ?_) (a' := ?_) #[true, false, false, true, false, false, true, false, false, false, false, false, false, false, false, false, false] rfl rfl (any_of HT_.out (by kernel_rfl)) (fun _ _ _ h => h) (Or.inl ⟨by rfl, ?_⟩) ?_ ?_
                  rotate_left
                  · intro w'
                    go_simp
                    with_reducible rfl
                  rotate_left
                  · simp only [Act.put, List.setIfInBounds_toArray, List.set_cons_zero, List.set_cons_succ, i64_w, i32_w]
                    rfl
                  refine pure_ (i := 12) (N := some 46) (v := ?_) (a' := ?_) #[true, false, false, true, false, false, true, false, false, false, false, false, true, false, false, false, false] rfl rfl (any_of HT_.out (by kernel_rfl)) (fun _ _ _ h => h) (Or.inl ⟨by rfl, ?_⟩) ?_ ?_
                  rotate_left
                  · intro w'
                    go_simp
                    with_reducible rfl
                  rotate_left
                  · simp only [Act.put, List.setIfInBounds_toArray, List.set_cons_zero, List.set_cons_succ, i64_w, i32_w]
                    rfl
                  refine inv_at [1, 2, 4, 5, 7, 8, 9, 10, 11, 13, 14, 15, 16] (fun a0_ b a w' => ∃ (v137 : Value) (v140 : Value) (v143 : Value) (v146 : Value) (v149 : Value) (v152 : Value) (m16_ : Value), a = putSel a0_ b [(1, 35, .int .i64 a2_0), (2, 36, v137), (4, 38, .int .i64 a2_1), (5, 39, v140), (7, 41, .slice A2_2 l2_2.length c2_2), (8, 42, .int .i64 (l2_2.length : Int)), (9, 43, .int .i64 (wrap64 (8 + (l2_2.length : Int)))), (10, 44, v143), (11, 45, v146), (13, 47, .slice A2_2 l2_2.length c2_2), (14, 48, v149), (15, 49, v152), (16, 8, m16_)] ∧ (Kd.V (Kd.int .u8) 5 w' w.heap.size (fun k_ => (P2_2_ k_ ∨ w.heap.size ≤ k_) ∧ k_ ≠ gb135) (.slice A2_2 l2_2.length c2_2) l2_2) ∧ (w'.heap[gb135]? = some (.cells #[.int .i64 a2_0, .int .i64 a2_1, .slice A2_2 l2_2.length c2_2] 26 (0, 0))) ∧ (Below w.heap.size w w') ∧ (b 2 = true → Kd.R (Kd.int .u8) 5 w' w.heap.size (fun k_ => (w.heap.size ≤ k_)) v137 t136) ∧ (b 5 = true → Kd.R (Kd.int .u8) 5 w' w.heap.size (fun k_ => (w.heap.size ≤ k_)) v140 t139) ∧ (b 10 = true → Kd.R (Kd.int .u8) 5 w' w.heap.size (fun k_ => (w.heap.size ≤ k_)) v143 t142) ∧ (b 11 = true → Kd.R (Kd.int .u8) 5 w' w.heap.size (fun k_ => (w.heap.size ≤ k_)) v146 y145) ∧ (b 14 = true → b 15 = false → Kd.N (Kd.slice 5 (Kd.int .u8)) 24 w' w.heap.size (fun k_ => (P2_2_ k_ ∨ w.heap.size ≤ k_) ∧ k_ ≠ gb135) v149 y148) ∧ (b 15 = true → Kd.R (Kd.int .u8) 5 w' w.heap.size (fun k_ => (w.heap.size ≤ k_)) v152 t151) ∧ (b 16 = true → (m16_ : Value) = v152)) HT_.out HW_.out (by kernel_rfl) (by kernel_rfl) ?_ ?_ ?_
                  · exact ⟨.bool false, .bool false, .bool false, .bool false, .bool false, .bool false, .bool false, by simp only [putSel, Bool.false_eq_true, if_false], (by first | exact HO_136002.out | exact Kd.V_mono HO_136002.out (fun _ hk => by exact okw hk)), BK135.out, HB.out, fun h_ => absurd h_ (by decide), fun h_ => absurd h_ (by decide), fun h_ => absurd h_ (by decide), fun h_ => absurd h_ (by decide), fun h_ => absurd h_ (by decide), fun h_ => absurd h_ (by decide), fun h_ => absurd h_ (by decide)⟩
                  · skip
                    clear BK135 HB HO_136002
                    refine steps_cons ?_ ?_
                    · rintro b a w' ⟨v137, v140, v143, v146, v149, v152, m16_, ha, Q_HO_136002, Q_BK135, Q_HB, Q_HO138, Q_HO141, Q_HO144, Q_HO147, Q_HO150, Q_HO153, Q_X16_⟩ hb_ hon hoff
                      refine ⟨_, rfl, fun K hK => ?_⟩
                      have e34 : a.tmps[34]? = some (.pointer (some ⟨gb135, 0, none⟩)) := by rw [ha]; exact (putSel_off rfl).trans rfl
                      replace ha := Aside0.mk ha
                      have HO_136002 := Aside0.mk Q_HO_136002
                      have BK135 := Aside0.mk Q_BK135
                      have HB := Aside0.mk Q_HB
                      have hc0_ : w'.cell? ⟨gb135, 0, none⟩ = some (.int .i64 a2_0) := (blk_cell BK135.out 0).trans rfl
                      have hc1_ : w'.cell? ⟨gb135, 1, none⟩ = some (.int .i64 a2_1) := (blk_cell BK135.out 1).trans rfl
                      have hc2_ : w'.cell? ⟨gb135, 2, none⟩ = some (.slice A2_2 l2_2.length c2_2) := (blk_cell BK135.out 2).trans rfl
                      refine value_ (w1 := w') (v := .int .i64 a2_0) (by rfl) rfl ?_ ?_
                      · go_simp
                        (try simp only [i64_w])
                        try rfl
                      refine hK.out _ _ ⟨v137, v140, v143, v146, v149, v152, m16_, (by rw [ha.out]; exact putSel_upk 0 hb_ rfl rfl rfl), Q_HO_136002, Q_BK135, Q_HB, fun h0_ => absurd ((hoff 2 (by kernel_rfl)).symm.trans h0_) (by decide), fun h0_ => absurd ((hoff 5 (by kernel_rfl)).symm.trans h0_) (by decide), fun h0_ => absurd ((hoff 10 (by kernel_rfl)).symm.trans h0_) (by decide), Q_HO147, fun h0_ _ => absurd ((hoff 14 (by kernel_rfl)).symm.trans h0_) (by decide), fun h0_ => absurd ((hoff 15 (by kernel_rfl)).symm.trans h0_) (by decide), fun h0_ => absurd ((hoff 16 (by kernel_rfl)).symm.trans h0_) (by decide)⟩
                    refine steps_cons ?_ ?_
                    · rintro b a w' ⟨v137, v140, v143, v146, v149, v152, m16_, ha, Q_HO_136002, Q_BK135, Q_HB, Q_HO138, Q_HO141, Q_HO144, Q_HO147, Q_HO150, Q_HO153, Q_X16_⟩ hb_ hon hoff
                      refine ⟨_, rfl, fun K hK => ?_⟩
                      have e35 : a.tmps[35]? = some (.int .i64 a2_0) := by rw [ha]; exact putSel_on (e := (1, 35, .int .i64 a2_0)) 0 rfl rfl (hon 1 (by kernel_rfl)) rfl
                      replace ha := Aside0.mk ha
                      have HO_136002 := Aside0.mk Q_HO_136002
                      have BK135 := Aside0.mk Q_BK135
                      have HB := Aside0.mk Q_HB
                      refine goes_ Try.func38 (by kernel_rfl) rfl #[.int .i64 a2_0] (by rfl) rfl rfl (by first | (simp only [List.map_toArray, List.map_cons, List.map_nil, Act.eval, Array.getD_eq_getD_getElem?, Option.getD_some, e35]; done) | (simp only [List.map_toArray, List.map_cons, List.map_nil, Act.eval, Array.getD_eq_getD_getElem?, Option.getD_some, e35]; rfl)) ?_
                      with_reducible refine (word_Put16.calls a2_0 t136 _ A16.out).mono ?_
                      rintro e w65 ⟨v137, rfl, ho0, hb⟩
                      refine ⟨_, rfl, ?_⟩
                      have n0_ := Aside0.mk (Kd.V_elder' (by (with_reducible repeat (first | apply Kd.V_alloc | apply Kd.V_drewN | apply Kd.V_drew)); exact HO_136002.out) (Kd.R_base ho0) hb)
                      have n1_ := Aside0.mk (Kd.R_lower (Kd.R_newM (M := fun k_ => (w.heap.size ≤ k_)) ho0 (below_size (by repeat (first | (with_reducible first | exact HB.out | apply below_alloc | apply pw_below_drewN | apply below_drew1 | refine below_set ?_ GE135.out) | exact HB.out))) (fun k_ h_ => h_)) (below_size (by repeat (first | (with_reducible first | exact HB.out | apply below_alloc | apply pw_below_drewN | apply below_drew1 | refine below_set ?_ GE135.out) | exact HB.out))))
                      have n2_ := Aside0.mk (blk_below (g := gb135) (o := .cells #[.int .i64 a2_0, .int .i64 a2_1, .slice A2_2 l2_2.length c2_2] 26 (0, 0)) (by (with_reducible repeat (first | refine blk_drewN ?_ _ | refine blk_drew ?_ | refine blk_alloc ?_ _)); exact BK135.out) hb)
                      have n3_ := Aside0.mk (below_step (by repeat (first | (with_reducible first | exact HB.out | apply below_alloc | apply pw_below_drewN | apply below_drew1 | refine below_set ?_ GE135.out) | exact HB.out)) hb)
                      have z_HO147 := fun (h0_ : b 11 = true) => (show Kd.R (Kd.int .u8) 5 w65 w.heap.size (fun k_ => (w.heap.size ≤ k_)) v146 y145 from by first | exact (Kd.R_elder' (by (with_reducible repeat (first | apply Kd.R_alloc | apply Kd.R_drewN | apply Kd.R_drew)); exact (Q_HO147 h0_)) (Kd.R_base ho0) hb) | exact Kd.R_mono (Kd.R_elder' (by (with_reducible repeat (first | apply Kd.R_alloc | apply Kd.R_drewN | apply Kd.R_drew)); exact (Q_HO147 h0_)) (Kd.R_base ho0) hb) (fun _ h_ => by first | trivial | exact h_ | exact h_.1))
                      clear HO_136002
                      clear BK135
                      clear HB
                      have HO_136002 := n0_
                      have HO138 := n1_
                      have BK135 := n2_
                      have HB := n3_
                      clear n0_ n1_ n2_ n3_
                      (try clear hb)
                      (try clear hb2)
                      (try clear hk)
                      (try clear hi)
                      (try clear ho0)
                      refine hK.out _ _ ⟨v137, v140, v143, v146, v149, v152, m16_, (by rw [ha.out]; exact putSel_upk 1 hb_ rfl rfl rfl), (by first | ((with_reducible repeat (first | apply Kd.V_alloc | apply Kd.V_drewN | apply Kd.V_drew)); exact Kd.V_mono HO_136002.out (fun _ hk => by first | exact ⟨hk.1.1, ⟨hk.2, hk.1.2⟩⟩ | exact okw hk)) | ((with_reducible repeat (first | apply Kd.V_alloc | apply Kd.V_drewN | apply Kd.V_drew)); exact Kd.V_mono HO_136002.out (fun _ hk => by first | trivial | exact hk | exact hk.1 | exact hk.2 | exact hk.1.1 | exact okw hk))), (by (with_reducible repeat (first | refine blk_drewN ?_ _ | refine blk_drew ?_ | refine blk_alloc ?_ _)); exact BK135.out), (by repeat (first | (with_reducible first | exact HB.out | apply below_alloc | apply pw_below_drewN | apply below_drew1 | refine below_set ?_ GE135.out) | exact HB.out)), fun _ => (by first | ((with_reducible repeat (first | apply Kd.R_alloc | apply Kd.R_drewN | apply Kd.R_drew)); exact Kd.R_mono HO138.out (fun _ hk => hk.1)) | ((with_reducible repeat (first | apply Kd.R_alloc | apply Kd.R_drewN | apply Kd.R_drew)); exact Kd.R_mono HO138.out (fun _ hk => by first | trivial | exact hk | exact hk.1 | exact hk.2 | exact hk.1.1 | exact okw hk))), fun h0_ => absurd ((hoff 5 (by kernel_rfl)).symm.trans h0_) (by decide), fun h0_ => absurd ((hoff 10 (by kernel_rfl)).symm.trans h0_) (by decide), z_HO147, fun h0_ _ => absurd ((hoff 14 (by kernel_rfl)).symm.trans h0_) (by decide), fun h0_ => absurd ((hoff 15 (by kernel_rfl)).symm.trans h0_) (by decide), fun h0_ => absurd ((hoff 16 (by kernel_rfl)).symm.trans h0_) (by decide)⟩
                    refine steps_cons ?_ ?_
                    · rintro b a w' ⟨v137, v140, v143, v146, v149, v152, m16_, ha, Q_HO_136002, Q_BK135, Q_HB, Q_HO138, Q_HO141, Q_HO144, Q_HO147, Q_HO150, Q_HO153, Q_X16_⟩ hb_ hon hoff
                      refine ⟨_, rfl, fun K hK => ?_⟩
                      have e37 : a.tmps[37]? = some (.pointer (some ⟨gb135, 1, none⟩)) := by rw [ha]; exact (putSel_off rfl).trans rfl
                      replace ha := Aside0.mk ha
                      have HO_136002 := Aside0.mk Q_HO_136002
                      have BK135 := Aside0.mk Q_BK135
                      have HB := Aside0.mk Q_HB
                      have hc0_ : w'.cell? ⟨gb135, 0, none⟩ = some (.int .i64 a2_0) := (blk_cell BK135.out 0).trans rfl
                      have hc1_ : w'.cell? ⟨gb135, 1, none⟩ = some (.int .i64 a2_1) := (blk_cell BK135.out 1).trans rfl
                      have hc2_ : w'.cell? ⟨gb135, 2, none⟩ = some (.slice A2_2 l2_2.length c2_2) := (blk_cell BK135.out 2).trans rfl
                      refine value_ (w1 := w') (v := .int .i64 a2_1) (by rfl) rfl ?_ ?_
                      · go_simp
                        (try simp only [i64_w])
                        try rfl
                      refine hK.out _ _ ⟨v137, v140, v143, v146, v149, v152, m16_, (by rw [ha.out]; exact putSel_upk 2 hb_ rfl rfl rfl), Q_HO_136002, Q_BK135, Q_HB, Q_HO138, fun h0_ => absurd ((hoff 5 (by kernel_rfl)).symm.trans h0_) (by decide), fun h0_ => absurd ((hoff 10 (by kernel_rfl)).symm.trans h0_) (by decide), Q_HO147, fun h0_ _ => absurd ((hoff 14 (by kernel_rfl)).symm.trans h0_) (by decide), fun h0_ => absurd ((hoff 15 (by kernel_rfl)).symm.trans h0_) (by decide), fun h0_ => absurd ((hoff 16 (by kernel_rfl)).symm.trans h0_) (by decide)⟩
                    refine steps_cons ?_ ?_
                    · rintro b a w' ⟨v137, v140, v143, v146, v149, v152, m16_, ha, Q_HO_136002, Q_BK135, Q_HB, Q_HO138, Q_HO141, Q_HO144, Q_HO147, Q_HO150, Q_HO153, Q_X16_⟩ hb_ hon hoff
                      refine ⟨_, rfl, fun K hK => ?_⟩
                      have e38 : a.tmps[38]? = some (.int .i64 a2_1) := by rw [ha]; exact putSel_on (e := (4, 38, .int .i64 a2_1)) 2 rfl rfl (hon 4 (by kernel_rfl)) rfl
                      replace ha := Aside0.mk ha
                      have HO_136002 := Aside0.mk Q_HO_136002
                      have BK135 := Aside0.mk Q_BK135
                      have HB := Aside0.mk Q_HB
                      have HO138 := Aside0.mk (Q_HO138 (hon 2 (by kernel_rfl)))
                      refine goes_ Try.func38 (by kernel_rfl) rfl #[.int .i64 a2_1] (by rfl) rfl rfl (by first | (simp only [List.map_toArray, List.map_cons, List.map_nil, Act.eval, Array.getD_eq_getD_getElem?, Option.getD_some, e38]; done) | (simp only [List.map_toArray, List.map_cons, List.map_nil, Act.eval, Array.getD_eq_getD_getElem?, Option.getD_some, e38]; rfl)) ?_
                      with_reducible refine (word_Put16.calls a2_1 t139 _ A17.out).mono ?_
                      rintro e w67 ⟨v140, rfl, ho0, hb⟩
                      refine ⟨_, rfl, ?_⟩
                      have n0_ := Aside0.mk (Kd.V_elder' (by (with_reducible repeat (first | apply Kd.V_alloc | apply Kd.V_drewN | apply Kd.V_drew)); exact HO_136002.out) (Kd.R_base ho0) hb)
                      have n1_ := Aside0.mk (Kd.R_elder' (by (with_reducible repeat (first | apply Kd.R_alloc | apply Kd.R_drewN | apply Kd.R_drew)); exact HO138.out) (Kd.R_base ho0) hb)
                      have n2_ := Aside0.mk (Kd.R_lower (Kd.R_new' (Kd.R_newM (M := fun k_ => (w.heap.size ≤ k_)) ho0 (below_size (by repeat (first | (with_reducible first | exact HB.out | apply below_alloc | apply pw_below_drewN | apply below_drew1 | refine below_set ?_ GE135.out) | exact HB.out))) (fun k_ h_ => h_)) (Kd.R_lt (by (with_reducible repeat (first | apply Kd.R_alloc | apply Kd.R_drewN | apply Kd.R_drew)); exact HO138.out))) (below_size (by repeat (first | (with_reducible first | exact HB.out | apply below_alloc | apply pw_below_drewN | apply below_drew1 | refine below_set ?_ GE135.out) | exact HB.out))))
                      have n3_ := Aside0.mk (blk_below (g := gb135) (o := .cells #[.int .i64 a2_0, .int .i64 a2_1, .slice A2_2 l2_2.length c2_2] 26 (0, 0)) (by (with_reducible repeat (first | refine blk_drewN ?_ _ | refine blk_drew ?_ | refine blk_alloc ?_ _)); exact BK135.out) hb)
                      have n4_ := Aside0.mk (below_step (by repeat (first | (with_reducible first | exact HB.out | apply below_alloc | apply pw_below_drewN | apply below_drew1 | refine below_set ?_ GE135.out) | exact HB.out)) hb)
                      have z_HO147 := fun (h0_ : b 11 = true) => (show Kd.R (Kd.int .u8) 5 w67 w.heap.size (fun k_ => (w.heap.size ≤ k_)) v146 y145 from by first | exact (Kd.R_elder' (by (with_reducible repeat (first | apply Kd.R_alloc | apply Kd.R_drewN | apply Kd.R_drew)); exact (Q_HO147 h0_)) (Kd.R_base ho0) hb) | exact Kd.R_mono (Kd.R_elder' (by (with_reducible repeat (first | apply Kd.R_alloc | apply Kd.R_drewN | apply Kd.R_drew)); exact (Q_HO147 h0_)) (Kd.R_base ho0) hb) (fun _ h_ => by first | trivial | exact h_ | exact h_.1))
                      clear HO_136002
                      clear HO138
                      clear BK135
                      clear HB
                      have HO_136002 := n0_
                      have HO138 := n1_
                      have HO141 := n2_
                      have BK135 := n3_
                      have HB := n4_
                      clear n0_ n1_ n2_ n3_ n4_
                      (try clear hb)
                      (try clear hb2)
                      (try clear hk)
                      (try clear hi)
                      (try clear ho0)
                      refine hK.out _ _ ⟨v137, v140, v143, v146, v149, v152, m16_, (by rw [ha.out]; exact putSel_upk 3 hb_ rfl rfl rfl), (by first | ((with_reducible repeat (first | apply Kd.V_alloc | apply Kd.V_drewN | apply Kd.V_drew)); exact Kd.V_mono HO_136002.out (fun _ hk => by first | exact ⟨hk.1.1, ⟨hk.1.2.1, ⟨hk.2, hk.1.2.2⟩⟩⟩ | exact okw hk)) | ((with_reducible repeat (first | apply Kd.V_alloc | apply Kd.V_drewN | apply Kd.V_drew)); exact Kd.V_mono HO_136002.out (fun _ hk => by first | trivial | exact hk | exact hk.1 | exact hk.2 | exact hk.1.1 | exact okw hk))), (by (with_reducible repeat (first | refine blk_drewN ?_ _ | refine blk_drew ?_ | refine blk_alloc ?_ _)); exact BK135.out), (by repeat (first | (with_reducible first | exact HB.out | apply below_alloc | apply pw_below_drewN | apply below_drew1 | refine below_set ?_ GE135.out) | exact HB.out)), fun _ => (by first | ((with_reducible repeat (first | apply Kd.R_alloc | apply Kd.R_drewN | apply Kd.R_drew)); exact HO138.out) | ((with_reducible repeat (first | apply Kd.R_alloc | apply Kd.R_drewN | apply Kd.R_drew)); exact Kd.R_mono HO138.out (fun _ hk => by first | trivial | exact hk | exact hk.1 | exact hk.2 | exact hk.1.1 | exact okw hk))), fun _ => (by first | ((with_reducible repeat (first | apply Kd.R_alloc | apply Kd.R_drewN | apply Kd.R_drew)); exact Kd.R_mono HO141.out (fun _ hk => by first | exact ⟨hk.1.1, hk.2⟩ | exact okw hk)) | ((with_reducible repeat (first | apply Kd.R_alloc | apply Kd.R_drewN | apply Kd.R_drew)); exact Kd.R_mono HO141.out (fun _ hk => by first | trivial | exact hk | exact hk.1 | exact hk.2 | exact hk.1.1 | exact okw hk))), fun h0_ => absurd ((hoff 10 (by kernel_rfl)).symm.trans h0_) (by decide), z_HO147, fun h0_ _ => absurd ((hoff 14 (by kernel_rfl)).symm.trans h0_) (by decide), fun h0_ => absurd ((hoff 15 (by kernel_rfl)).symm.trans h0_) (by decide), fun h0_ => absurd ((hoff 16 (by kernel_rfl)).symm.trans h0_) (by decide)⟩
                    refine steps_cons ?_ ?_
                    · rintro b a w' ⟨v137, v140, v143, v146, v149, v152, m16_, ha, Q_HO_136002, Q_BK135, Q_HB, Q_HO138, Q_HO141, Q_HO144, Q_HO147, Q_HO150, Q_HO153, Q_X16_⟩ hb_ hon hoff
                      refine ⟨_, rfl, fun K hK => ?_⟩
                      have e40 : a.tmps[40]? = some (.pointer (some ⟨gb135, 2, none⟩)) := by rw [ha]; exact (putSel_off rfl).trans rfl
                      replace ha := Aside0.mk ha
                      have HO_136002 := Aside0.mk Q_HO_136002
                      have BK135 := Aside0.mk Q_BK135
                      have HB := Aside0.mk Q_HB
                      have hc0_ : w'.cell? ⟨gb135, 0, none⟩ = some (.int .i64 a2_0) := (blk_cell BK135.out 0).trans rfl
                      have hc1_ : w'.cell? ⟨gb135, 1, none⟩ = some (.int .i64 a2_1) := (blk_cell BK135.out 1).trans rfl
                      have hc2_ : w'.cell? ⟨gb135, 2, none⟩ = some (.slice A2_2 l2_2.length c2_2) := (blk_cell BK135.out 2).trans rfl
                      refine value_ (w1 := w') (v := .slice A2_2 l2_2.length c2_2) (by rfl) rfl ?_ ?_
                      · go_simp
                        (try simp only [i64_w])
                        try rfl
                      refine hK.out _ _ ⟨v137, v140, v143, v146, v149, v152, m16_, (by rw [ha.out]; exact putSel_upk 4 hb_ rfl rfl rfl), Q_HO_136002, Q_BK135, Q_HB, Q_HO138, Q_HO141, fun h0_ => absurd ((hoff 10 (by kernel_rfl)).symm.trans h0_) (by decide), Q_HO147, fun h0_ _ => absurd ((hoff 14 (by kernel_rfl)).symm.trans h0_) (by decide), fun h0_ => absurd ((hoff 15 (by kernel_rfl)).symm.trans h0_) (by decide), fun h0_ => absurd ((hoff 16 (by kernel_rfl)).symm.trans h0_) (by decide)⟩
                    refine steps_cons ?_ ?_
                    · rintro b a w' ⟨v137, v140, v143, v146, v149, v152, m16_, ha, Q_HO_136002, Q_BK135, Q_HB, Q_HO138, Q_HO141, Q_HO144, Q_HO147, Q_HO150, Q_HO153, Q_X16_⟩ hb_ hon hoff
                      refine ⟨_, rfl, fun K hK => ?_⟩
                      have e41 : a.tmps[41]? = some (.slice A2_2 l2_2.length c2_2) := by rw [ha]; exact putSel_on (e := (7, 41, .slice A2_2 l2_2.length c2_2)) 4 rfl rfl (hon 7 (by kernel_rfl)) rfl
                      replace ha := Aside0.mk ha
                      have HO_136002 := Aside0.mk Q_HO_136002
                      have BK135 := Aside0.mk Q_BK135
                      have HB := Aside0.mk Q_HB
                      refine value_ (w1 := w') (v := .int .i64 (l2_2.length : Int)) (by rfl) rfl ?_ ?_
                      · go_simp
                        (try simp only [i64_w])
                        try rfl
                      refine hK.out _ _ ⟨v137, v140, v143, v146, v149, v152, m16_, (by rw [ha.out]; exact putSel_upk 5 hb_ rfl rfl rfl), Q_HO_136002, Q_BK135, Q_HB, Q_HO138, Q_HO141, fun h0_ => absurd ((hoff 10 (by kernel_rfl)).symm.trans h0_) (by decide), Q_HO147, fun h0_ _ => absurd ((hoff 14 (by kernel_rfl)).symm.trans h0_) (by decide), fun h0_ => absurd ((hoff 15 (by kernel_rfl)).symm.trans h0_) (by decide), fun h0_ => absurd ((hoff 16 (by kernel_rfl)).symm.trans h0_) (by decide)⟩
                    refine steps_cons ?_ ?_
                    · rintro b a w' ⟨v137, v140, v143, v146, v149, v152, m16_, ha, Q_HO_136002, Q_BK135, Q_HB, Q_HO138, Q_HO141, Q_HO144, Q_HO147, Q_HO150, Q_HO153, Q_X16_⟩ hb_ hon hoff
                      refine ⟨_, rfl, fun K hK => ?_⟩
                      have e42 : a.tmps[42]? = some (.int .i64 (l2_2.length : Int)) := by rw [ha]; exact putSel_on (e := (8, 42, .int .i64 (l2_2.length : Int))) 5 rfl rfl (hon 8 (by kernel_rfl)) rfl
                      replace ha := Aside0.mk ha
                      have HO_136002 := Aside0.mk Q_HO_136002
                      have BK135 := Aside0.mk Q_BK135
                      have HB := Aside0.mk Q_HB
                      refine value_ (w1 := w') (v := .int .i64 (wrap64 (8 + (l2_2.length : Int)))) (by rfl) rfl ?_ ?_
                      · go_simp
                        (try simp only [i64_w])
                        try rfl
                      refine hK.out _ _ ⟨v137, v140, v143, v146, v149, v152, m16_, (by rw [ha.out]; exact putSel_upk 6 hb_ rfl rfl rfl), Q_HO_136002, Q_BK135, Q_HB, Q_HO138, Q_HO141, fun h0_ => absurd ((hoff 10 (by kernel_rfl)).symm.trans h0_) (by decide), Q_HO147, fun h0_ _ => absurd ((hoff 14 (by kernel_rfl)).symm.trans h0_) (by decide), fun h0_ => absurd ((hoff 15 (by kernel_rfl)).symm.trans h0_) (by decide), fun h0_ => absurd ((hoff 16 (by kernel_rfl)).symm.trans h0_) (by decide)⟩
                    refine steps_cons ?_ ?_
                    · rintro b a w' ⟨v137, v140, v143, v146, v149, v152, m16_, ha, Q_HO_136002, Q_BK135, Q_HB, Q_HO138, Q_HO141, Q_HO144, Q_HO147, Q_HO150, Q_HO153, Q_X16_⟩ hb_ hon hoff
                      refine ⟨_, rfl, fun K hK => ?_⟩
                      have e43 : a.tmps[43]? = some (.int .i64 (wrap64 (8 + (l2_2.length : Int)))) := by rw [ha]; exact putSel_on (e := (9, 43, .int .i64 (wrap64 (8 + (l2_2.length : Int))))) 6 rfl rfl (hon 9 (by kernel_rfl)) rfl
                      replace ha := Aside0.mk ha
                      have HO_136002 := Aside0.mk Q_HO_136002
                      have BK135 := Aside0.mk Q_BK135
                      have HB := Aside0.mk Q_HB
                      have HO138 := Aside0.mk (Q_HO138 (hon 2 (by kernel_rfl)))
                      have HO141 := Aside0.mk (Q_HO141 (hon 5 (by kernel_rfl)))
                      refine goes_ Try.func38 (by kernel_rfl) rfl #[.int .i64 (wrap64 (8 + (l2_2.length : Int)))] (by rfl) rfl rfl (by first | (simp only [List.map_toArray, List.map_cons, List.map_nil, Act.eval, Array.getD_eq_getD_getElem?, Option.getD_some, e43]; done) | (simp only [List.map_toArray, List.map_cons, List.map_nil, Act.eval, Array.getD_eq_getD_getElem?, Option.getD_some, e43]; rfl)) ?_
                      with_reducible refine (word_Put16.calls (wrap64 (8 + (l2_2.length : Int))) t142 _ A18.out).mono ?_
                      rintro e w68 ⟨v143, rfl, ho0, hb⟩
                      refine ⟨_, rfl, ?_⟩
                      have n0_ := Aside0.mk (Kd.V_elder' (by (with_reducible repeat (first | apply Kd.V_alloc | apply Kd.V_drewN | apply Kd.V_drew)); exact HO_136002.out) (Kd.R_base ho0) hb)
                      have n1_ := Aside0.mk (Kd.R_elder' (by (with_reducible repeat (first | apply Kd.R_alloc | apply Kd.R_drewN | apply Kd.R_drew)); exact HO138.out) (Kd.R_base ho0) hb)
                      have n2_ := Aside0.mk (Kd.R_elder' (by (with_reducible repeat (first | apply Kd.R_alloc | apply Kd.R_drewN | apply Kd.R_drew)); exact HO141.out) (Kd.R_base ho0) hb)
                      have n3_ := Aside0.mk (Kd.R_lower (Kd.R_new' (Kd.R_new' (Kd.R_newM (M := fun k_ => (w.heap.size ≤ k_)) ho0 (below_size (by repeat (first | (with_reducible first | exact HB.out | apply below_alloc | apply pw_below_drewN | apply below_drew1 | refine below_set ?_ GE135.out) | exact HB.out))) (fun k_ h_ => h_)) (Kd.R_lt (by (with_reducible repeat (first | apply Kd.R_alloc | apply Kd.R_drewN | apply Kd.R_drew)); exact HO138.out))) (Kd.R_lt (by (with_reducible repeat (first | apply Kd.R_alloc | apply Kd.R_drewN | apply Kd.R_drew)); exact HO141.out))) (below_size (by repeat (first | (with_reducible first | exact HB.out | apply below_alloc | apply pw_below_drewN | apply below_drew1 | refine below_set ?_ GE135.out) | exact HB.out))))
                      have n4_ := Aside0.mk (blk_below (g := gb135) (o := .cells #[.int .i64 a2_0, .int .i64 a2_1, .slice A2_2 l2_2.length c2_2] 26 (0, 0)) (by (with_reducible repeat (first | refine blk_drewN ?_ _ | refine blk_drew ?_ | refine blk_alloc ?_ _)); exact BK135.out) hb)
                      have n5_ := Aside0.mk (below_step (by repeat (first | (with_reducible first | exact HB.out | apply below_alloc | apply pw_below_drewN | apply below_drew1 | refine below_set ?_ GE135.out) | exact HB.out)) hb)
                      have z_HO147 := fun (h0_ : b 11 = true) => (show Kd.R (Kd.int .u8) 5 w68 w.heap.size (fun k_ => (w.heap.size ≤ k_)) v146 y145 from by first | exact (Kd.R_elder' (by (with_reducible repeat (first | apply Kd.R_alloc | apply Kd.R_drewN | apply Kd.R_drew)); exact (Q_HO147 h0_)) (Kd.R_base ho0) hb) | exact Kd.R_mono (Kd.R_elder' (by (with_reducible repeat (first | apply Kd.R_alloc | apply Kd.R_drewN | apply Kd.R_drew)); exact (Q_HO147 h0_)) (Kd.R_base ho0) hb) (fun _ h_ => by first | trivial | exact h_ | exact h_.1))
                      clear HO_136002
                      clear HO138
                      clear HO141
                      clear BK135
                      clear HB
                      have HO_136002 := n0_
                      have HO138 := n1_
                      have HO141 := n2_
                      have HO144 := n3_
                      have BK135 := n4_
                      have HB := n5_
                      clear n0_ n1_ n2_ n3_ n4_ n5_
                      (try clear hb)
                      (try clear hb2)
                      (try clear hk)
                      (try clear hi)
                      (try clear ho0)
                      refine hK.out _ _ ⟨v137, v140, v143, v146, v149, v152, m16_, (by rw [ha.out]; exact putSel_upk 7 hb_ rfl rfl rfl), (by first | ((with_reducible repeat (first | apply Kd.V_alloc | apply Kd.V_drewN | apply Kd.V_drew)); exact Kd.V_mono HO_136002.out (fun _ hk => by first | exact ⟨hk.1.1, ⟨hk.1.2.1, ⟨hk.1.2.2.1, ⟨hk.2, hk.1.2.2.2⟩⟩⟩⟩ | exact okw hk)) | ((with_reducible repeat (first | apply Kd.V_alloc | apply Kd.V_drewN | apply Kd.V_drew)); exact Kd.V_mono HO_136002.out (fun _ hk => by first | trivial | exact hk | exact hk.1 | exact hk.2 | exact hk.1.1 | exact okw hk))), (by (with_reducible repeat (first | refine blk_drewN ?_ _ | refine blk_drew ?_ | refine blk_alloc ?_ _)); exact BK135.out), (by repeat (first | (with_reducible first | exact HB.out | apply below_alloc | apply pw_below_drewN | apply below_drew1 | refine below_set ?_ GE135.out) | exact HB.out)), fun _ => (by first | ((with_reducible repeat (first | apply Kd.R_alloc | apply Kd.R_drewN | apply Kd.R_drew)); exact Kd.R_mono HO138.out (fun _ hk => by first | exact ⟨hk.1.1, ⟨hk.1.2, hk.2⟩⟩ | exact okw hk)) | ((with_reducible repeat (first | apply Kd.R_alloc | apply Kd.R_drewN | apply Kd.R_drew)); exact Kd.R_mono HO138.out (fun _ hk => by first | trivial | exact hk | exact hk.1 | exact hk.2 | exact hk.1.1 | exact okw hk))), fun _ => (by first | ((with_reducible repeat (first | apply Kd.R_alloc | apply Kd.R_drewN | apply Kd.R_drew)); exact Kd.R_mono HO141.out (fun _ hk => by first | exact ⟨hk.1.1, ⟨hk.1.2, hk.2⟩⟩ | exact okw hk)) | ((with_reducible repeat (first | apply Kd.R_alloc | apply Kd.R_drewN | apply Kd.R_drew)); exact Kd.R_mono HO141.out (fun _ hk => by first | trivial | exact hk | exact hk.1 | exact hk.2 | exact hk.1.1 | exact okw hk))), fun _ => (by first | ((with_reducible repeat (first | apply Kd.R_alloc | apply Kd.R_drewN | apply Kd.R_drew)); exact Kd.R_mono HO144.out (fun _ hk => by first | exact ⟨hk.1.1.1, ⟨hk.1.2, hk.2⟩⟩ | exact okw hk)) | ((with_reducible repeat (first | apply Kd.R_alloc | apply Kd.R_drewN | apply Kd.R_drew)); exact Kd.R_mono HO144.out (fun _ hk => by first | trivial | exact hk | exact hk.1 | exact hk.2 | exact hk.1.1 | exact okw hk))), z_HO147, fun h0_ _ => absurd ((hoff 14 (by kernel_rfl)).symm.trans h0_) (by decide), fun h0_ => absurd ((hoff 15 (by kernel_rfl)).symm.trans h0_) (by decide), fun h0_ => absurd ((hoff 16 (by kernel_rfl)).symm.trans h0_) (by decide)⟩
                    refine steps_cons ?_ ?_
                    · rintro b a w' ⟨v137, v140, v143, v146, v149, v152, m16_, ha, Q_HO_136002, Q_BK135, Q_HB, Q_HO138, Q_HO141, Q_HO144, Q_HO147, Q_HO150, Q_HO153, Q_X16_⟩ hb_ hon hoff
                      refine ⟨_, rfl, fun K hK => ?_⟩
                      replace ha := Aside0.mk ha
                      have HO_136002 := Aside0.mk Q_HO_136002
                      have BK135 := Aside0.mk Q_BK135
                      have HB := Aside0.mk Q_HB
                      refine Kd.R_lit_step (Kd.int .u8) _ 5 ?hg (N := 45) ?hd (xs := ([0, 0] : List Int)) (inner := [.int .u8 0, .int .u8 0]) (ok := fun _ => True) (okp := fun _ => True) ?hr ?hp (fun _ hk => hk) trivial (Below.refl _ _) (Nat.le_refl _) (by simp) ?_; (case hd => rfl); (case hg => rfl); (case hr => first | (go_simp; done) | (go_simp; rfl)); (case hp => exact (Reps.one (show Kd.M (Kd.int .u8) _ _ _ 0 [.int .u8 0] from rfl) (Reps.one (show Kd.M (Kd.int .u8) _ _ _ 0 [.int .u8 0] from rfl) (Reps.none _ _))))
                      intro v146 w65 ho66 hb hg_ hnew_
                      clear hg_ hnew_
                      (first | rw [← Ny145.out] at ho66 | (simp only [Int.reduceToNat] at ho66; rw [← Ny145.out] at ho66))
                      have n0_ := Aside0.mk (Kd.V_elder' (by (with_reducible repeat (first | apply Kd.V_alloc | apply Kd.V_drewN | apply Kd.V_drew)); exact HO_136002.out) (Kd.R_base ho66) hb)
                      have n1_ := Aside0.mk (Kd.R_lower (Kd.R_newM (M := fun k_ => (w.heap.size ≤ k_)) ho66 (below_size (by repeat (first | (with_reducible first | exact HB.out | apply below_alloc | apply pw_below_drewN | apply below_drew1 | refine below_set ?_ GE135.out) | exact HB.out))) (fun k_ h_ => h_)) (below_size (by repeat (first | (with_reducible first | exact HB.out | apply below_alloc | apply pw_below_drewN | apply below_drew1 | refine below_set ?_ GE135.out) | exact HB.out))))
                      have n2_ := Aside0.mk (blk_below (g := gb135) (o := .cells #[.int .i64 a2_0, .int .i64 a2_1, .slice A2_2 l2_2.length c2_2] 26 (0, 0)) (by (with_reducible repeat (first | refine blk_drewN ?_ _ | refine blk_drew ?_ | refine blk_alloc ?_ _)); exact BK135.out) hb)
                      have n3_ := Aside0.mk (below_step (by repeat (first | (with_reducible first | exact HB.out | apply below_alloc | apply pw_below_drewN | apply below_drew1 | refine below_set ?_ GE135.out) | exact HB.out)) hb)
                      have z_HO138 := fun (h0_ : b 2 = true) => (show Kd.R (Kd.int .u8) 5 w65 w.heap.size (fun k_ => (w.heap.size ≤ k_)) v137 t136 from by first | exact (Kd.R_elder' (by (with_reducible repeat (first | apply Kd.R_alloc | apply Kd.R_drewN | apply Kd.R_drew)); exact (Q_HO138 h0_)) (Kd.R_base ho66) hb) | exact Kd.R_mono (Kd.R_elder' (by (with_reducible repeat (first | apply Kd.R_alloc | apply Kd.R_drewN | apply Kd.R_drew)); exact (Q_HO138 h0_)) (Kd.R_base ho66) hb) (fun _ h_ => by first | trivial | exact h_ | exact h_.1))
                      have z_HO141 := fun (h0_ : b 5 = true) => (show Kd.R (Kd.int .u8) 5 w65 w.heap.size (fun k_ => (w.heap.size ≤ k_)) v140 t139 from by first | exact (Kd.R_elder' (by (with_reducible repeat (first | apply Kd.R_alloc | apply Kd.R_drewN | apply Kd.R_drew)); exact (Q_HO141 h0_)) (Kd.R_base ho66) hb) | exact Kd.R_mono (Kd.R_elder' (by (with_reducible repeat (first | apply Kd.R_alloc | apply Kd.R_drewN | apply Kd.R_drew)); exact (Q_HO141 h0_)) (Kd.R_base ho66) hb) (fun _ h_ => by first | trivial | exact h_ | exact h_.1))
                      have z_HO144 := fun (h0_ : b 10 = true) => (show Kd.R (Kd.int .u8) 5 w65 w.heap.size (fun k_ => (w.heap.size ≤ k_)) v143 t142 from by first | exact (Kd.R_elder' (by (with_reducible repeat (first | apply Kd.R_alloc | apply Kd.R_drewN | apply Kd.R_drew)); exact (Q_HO144 h0_)) (Kd.R_base ho66) hb) | exact Kd.R_mono (Kd.R_elder' (by (with_reducible repeat (first | apply Kd.R_alloc | apply Kd.R_drewN | apply Kd.R_drew)); exact (Q_HO144 h0_)) (Kd.R_base ho66) hb) (fun _ h_ => by first | trivial | exact h_ | exact h_.1))
                      clear HO_136002
                      clear BK135
                      clear HB
                      have HO_136002 := n0_
                      have HO147 := n1_
                      have BK135 := n2_
                      have HB := n3_
                      clear n0_ n1_ n2_ n3_
                      clear hb ho66
                      refine hK.out _ _ ⟨v137, v140, v143, v146, v149, v152, m16_, (by rw [ha.out]; exact putSel_upk 8 hb_ rfl rfl rfl), (by first | ((with_reducible repeat (first | apply Kd.V_alloc | apply Kd.V_drewN | apply Kd.V_drew)); exact Kd.V_mono HO_136002.out (fun _ hk => by first | exact ⟨hk.1.1, ⟨hk.2, hk.1.2⟩⟩ | exact okw hk)) | ((with_reducible repeat (first | apply Kd.V_alloc | apply Kd.V_drewN | apply Kd.V_drew)); exact Kd.V_mono HO_136002.out (fun _ hk => by first | trivial | exact hk | exact hk.1 | exact hk.2 | exact hk.1.1 | exact okw hk))), (by (with_reducible repeat (first | refine blk_drewN ?_ _ | refine blk_drew ?_ | refine blk_alloc ?_ _)); exact BK135.out), (by repeat (first | (with_reducible first | exact HB.out | apply below_alloc | apply pw_below_drewN | apply below_drew1 | refine below_set ?_ GE135.out) | exact HB.out)), z_HO138, z_HO141, z_HO144, fun _ => (by first | ((with_reducible repeat (first | apply Kd.R_alloc | apply Kd.R_drewN | apply Kd.R_drew)); exact Kd.R_mono HO147.out (fun _ hk => hk.1)) | ((with_reducible repeat (first | apply Kd.R_alloc | apply Kd.R_drewN | apply Kd.R_drew)); exact Kd.R_mono HO147.out (fun _ hk => by first | trivial | exact hk | exact hk.1 | exact hk.2 | exact hk.1.1 | exact okw hk))), fun h0_ _ => absurd ((hoff 14 (by kernel_rfl)).symm.trans h0_) (by decide), fun h0_ => absurd ((hoff 15 (by kernel_rfl)).symm.trans h0_) (by decide), fun h0_ => absurd ((hoff 16 (by kernel_rfl)).symm.trans h0_) (by decide)⟩
                    refine steps_cons ?_ ?_
                    · rintro b a w' ⟨v137, v140, v143, v146, v149, v152, m16_, ha, Q_HO_136002, Q_BK135, Q_HB, Q_HO138, Q_HO141, Q_HO144, Q_HO147, Q_HO150, Q_HO153, Q_X16_⟩ hb_ hon hoff
                      refine ⟨_, rfl, fun K hK => ?_⟩
                      have e46 : a.tmps[46]? = some (.pointer (some ⟨gb135, 2, none⟩)) := by rw [ha]; exact (putSel_off rfl).trans rfl
                      replace ha := Aside0.mk ha
                      have HO_136002 := Aside0.mk Q_HO_136002
                      have BK135 := Aside0.mk Q_BK135
                      have HB := Aside0.mk Q_HB
                      have hc0_ : w'.cell? ⟨gb135, 0, none⟩ = some (.int .i64 a2_0) := (blk_cell BK135.out 0).trans rfl
                      have hc1_ : w'.cell? ⟨gb135, 1, none⟩ = some (.int .i64 a2_1) := (blk_cell BK135.out 1).trans rfl
                      have hc2_ : w'.cell? ⟨gb135, 2, none⟩ = some (.slice A2_2 l2_2.length c2_2) := (blk_cell BK135.out 2).trans rfl
                      refine value_ (w1 := w') (v := .slice A2_2 l2_2.length c2_2) (by rfl) rfl ?_ ?_
                      · go_simp
                        (try simp only [i64_w])
                        try rfl
                      refine hK.out _ _ ⟨v137, v140, v143, v146, v149, v152, m16_, (by rw [ha.out]; exact putSel_upk 9 hb_ rfl rfl rfl), Q_HO_136002, Q_BK135, Q_HB, Q_HO138, Q_HO141, Q_HO144, Q_HO147, fun h0_ _ => absurd ((hoff 14 (by kernel_rfl)).symm.trans h0_) (by decide), fun h0_ => absurd ((hoff 15 (by kernel_rfl)).symm.trans h0_) (by decide), fun h0_ => absurd ((hoff 16 (by kernel_rfl)).symm.trans h0_) (by decide)⟩
                    refine steps_cons ?_ ?_
                    · rintro b a w' ⟨v137, v140, v143, v146, v149, v152, m16_, ha, Q_HO_136002, Q_BK135, Q_HB, Q_HO138, Q_HO141, Q_HO144, Q_HO147, Q_HO150, Q_HO153, Q_X16_⟩ hb_ hon hoff
                      refine ⟨_, rfl, fun K hK => ?_⟩
                      have e36 : a.tmps[36]? = some (v137) := by rw [ha]; exact putSel_on (e := (2, 36, v137)) 1 rfl rfl (hon 2 (by kernel_rfl)) rfl
                      have e39 : a.tmps[39]? = some (v140) := by rw [ha]; exact putSel_on (e := (5, 39, v140)) 3 rfl rfl (hon 5 (by kernel_rfl)) rfl
                      have e44 : a.tmps[44]? = some (v143) := by rw [ha]; exact putSel_on (e := (10, 44, v143)) 7 rfl rfl (hon 10 (by kernel_rfl)) rfl
                      have e45 : a.tmps[45]? = some (v146) := by rw [ha]; exact putSel_on (e := (11, 45, v146)) 8 rfl rfl (hon 11 (by kernel_rfl)) rfl
                      have e47 : a.tmps[47]? = some (.slice A2_2 l2_2.length c2_2) := by rw [ha]; exact putSel_on (e := (13, 47, .slice A2_2 l2_2.length c2_2)) 9 rfl rfl (hon 13 (by kernel_rfl)) rfl
                      replace ha := Aside0.mk ha
                      have HO_136002 := Aside0.mk Q_HO_136002
                      have BK135 := Aside0.mk Q_BK135
                      have HB := Aside0.mk Q_HB
                      have HO138 := Aside0.mk (Q_HO138 (hon 2 (by kernel_rfl)))
                      have HO141 := Aside0.mk (Q_HO141 (hon 5 (by kernel_rfl)))
                      have HO144 := Aside0.mk (Q_HO144 (hon 10 (by kernel_rfl)))
                      have HO147 := Aside0.mk (Q_HO147 (hon 11 (by kernel_rfl)))
                      obtain ⟨Ao71, co71, eo71⟩ := Kd.R_slice HO138.out
                      (first | subst eo71 | (injection eo71 with f1_ f2_ f3_; have f4_ := f1_.symm; have f5_ := f3_.symm; clear f1_ f2_ f3_; subst f4_; subst f5_))
                      obtain ⟨Ao72, co72, eo72⟩ := Kd.R_slice HO141.out
                      (first | subst eo72 | (injection eo72 with f1_ f2_ f3_; have f4_ := f1_.symm; have f5_ := f3_.symm; clear f1_ f2_ f3_; subst f4_; subst f5_))
                      obtain ⟨Ao73, co73, eo73⟩ := Kd.R_slice HO144.out
                      (first | subst eo73 | (injection eo73 with f1_ f2_ f3_; have f4_ := f1_.symm; have f5_ := f3_.symm; clear f1_ f2_ f3_; subst f4_; subst f5_))
                      obtain ⟨Ao74, co74, eo74⟩ := Kd.R_slice HO147.out
                      (first | subst eo74 | (injection eo74 with f1_ f2_ f3_; have f4_ := f1_.symm; have f5_ := f3_.symm; clear f1_ f2_ f3_; subst f4_; subst f5_))
                      refine Kd.N_lit_step (Kd.slice 5 (Kd.int .u8)) _ 24 ?hg (N' := 48) ?hd (xs := ([t136, t139, t142, y145, l2_2] : List (List Int))) (inner := [.slice Ao71 t136.length co71, .slice Ao72 t139.length co72, .slice Ao73 t142.length co73, .slice Ao74 y145.length co74, .slice A2_2 l2_2.length c2_2]) (ok := (fun k_ => (P2_2_ k_ ∨ w.heap.size ≤ k_) ∧ k_ ≠ gb135)) (okp := (fun k_ => (P2_2_ k_ ∨ w.heap.size ≤ k_) ∧ k_ ≠ gb135)) ?hr ?hp (fun _ hk => hk) ((show ∀ k_, w'.heap.size ≤ k_ → (fun k_ => (P2_2_ k_ ∨ w.heap.size ≤ k_) ∧ k_ ≠ gb135) k_ from fun k_ hk => ⟨(.inr (Nat.le_trans (below_size (by repeat (first | (with_reducible first | exact HB.out | apply below_alloc | apply pw_below_drewN | apply below_drew1 | refine below_set ?_ GE135.out) | exact HB.out))) hk)), Kd.freshB (g := gb135) (o := .cells #[.int .i64 a2_0, .int .i64 a2_1, .slice A2_2 l2_2.length c2_2] 26 (0, 0)) (by (with_reducible repeat (first | refine blk_drewN ?_ _ | refine blk_drew ?_ | refine blk_alloc ?_ _)); exact BK135.out) k_ hk⟩) _ (Nat.le_refl _)) (Below.refl _ _) (Nat.le_refl _) (by simp) ?_; (case hd => rfl); (case hg => rfl); (case hr => first | (go_simp; done) | (go_simp; rfl)); (case hp => exact (Reps.one (show Kd.FK (Kd.slice 5 (Kd.int .u8)) _ _ t136 [.slice Ao71 t136.length co71] from (by first | exact Kd.FK_slice_mk (Kd.R_reads' (Kd.R_mono (ok' := (fun k_ => (P2_2_ k_ ∨ w.heap.size ≤ k_) ∧ k_ ≠ gb135)) (Kd.R_types (HO138.out) BK135.out (by decide)) (fun k_ hk => by first | exact ⟨(.inr (hk.1.1)), hk.2⟩ | exact okw hk))).2.1 (Kd.R_F (Kd.R_mono (ok' := (fun k_ => (P2_2_ k_ ∨ w.heap.size ≤ k_) ∧ k_ ≠ gb135)) (Kd.R_types (HO138.out) BK135.out (by decide)) (fun k_ hk => by first | exact ⟨(.inr (hk.1.1)), hk.2⟩ | exact okw hk))) | exact FK_slice_of (Kd.R_reads' (Kd.R_mono (ok' := (fun k_ => (P2_2_ k_ ∨ w.heap.size ≤ k_) ∧ k_ ≠ gb135)) (Kd.R_types (HO138.out) BK135.out (by decide)) (fun k_ hk => by first | exact ⟨(.inr (hk.1.1)), hk.2⟩ | exact okw hk))).1 (Kd.R_reads' (Kd.R_mono (ok' := (fun k_ => (P2_2_ k_ ∨ w.heap.size ≤ k_) ∧ k_ ≠ gb135)) (Kd.R_types (HO138.out) BK135.out (by decide)) (fun k_ hk => by first | exact ⟨(.inr (hk.1.1)), hk.2⟩ | exact okw hk))).2.1 (Kd.R_F (Kd.R_mono (ok' := (fun k_ => (P2_2_ k_ ∨ w.heap.size ≤ k_) ∧ k_ ≠ gb135)) (Kd.R_types (HO138.out) BK135.out (by decide)) (fun k_ hk => by first | exact ⟨(.inr (hk.1.1)), hk.2⟩ | exact okw hk))))) (Reps.one (show Kd.FK (Kd.slice 5 (Kd.int .u8)) _ _ t139 [.slice Ao72 t139.length co72] from (by first | exact Kd.FK_slice_mk (Kd.R_reads' (Kd.R_mono (ok' := (fun k_ => (P2_2_ k_ ∨ w.heap.size ≤ k_) ∧ k_ ≠ gb135)) (Kd.R_types (HO141.out) BK135.out (by decide)) (fun k_ hk => by first | exact ⟨(.inr (hk.1.1)), hk.2⟩ | exact okw hk))).2.1 (Kd.R_F (Kd.R_mono (ok' := (fun k_ => (P2_2_ k_ ∨ w.heap.size ≤ k_) ∧ k_ ≠ gb135)) (Kd.R_types (HO141.out) BK135.out (by decide)) (fun k_ hk => by first | exact ⟨(.inr (hk.1.1)), hk.2⟩ | exact okw hk))) | exact FK_slice_of (Kd.R_reads' (Kd.R_mono (ok' := (fun k_ => (P2_2_ k_ ∨ w.heap.size ≤ k_) ∧ k_ ≠ gb135)) (Kd.R_types (HO141.out) BK135.out (by decide)) (fun k_ hk => by first | exact ⟨(.inr (hk.1.1)), hk.2⟩ | exact okw hk))).1 (Kd.R_reads' (Kd.R_mono (ok' := (fun k_ => (P2_2_ k_ ∨ w.heap.size ≤ k_) ∧ k_ ≠ gb135)) (Kd.R_types (HO141.out) BK135.out (by decide)) (fun k_ hk => by first | exact ⟨(.inr (hk.1.1)), hk.2⟩ | exact okw hk))).2.1 (Kd.R_F (Kd.R_mono (ok' := (fun k_ => (P2_2_ k_ ∨ w.heap.size ≤ k_) ∧ k_ ≠ gb135)) (Kd.R_types (HO141.out) BK135.out (by decide)) (fun k_ hk => by first | exact ⟨(.inr (hk.1.1)), hk.2⟩ | exact okw hk))))) (Reps.one (show Kd.FK (Kd.slice 5 (Kd.int .u8)) _ _ t142 [.slice Ao73 t142.length co73] from (by first | exact Kd.FK_slice_mk (Kd.R_reads' (Kd.R_mono (ok' := (fun k_ => (P2_2_ k_ ∨ w.heap.size ≤ k_) ∧ k_ ≠ gb135)) (Kd.R_types (HO144.out) BK135.out (by decide)) (fun k_ hk => by first | exact ⟨(.inr (hk.1.1)), hk.2⟩ | exact okw hk))).2.1 (Kd.R_F (Kd.R_mono (ok' := (fun k_ => (P2_2_ k_ ∨ w.heap.size ≤ k_) ∧ k_ ≠ gb135)) (Kd.R_types (HO144.out) BK135.out (by decide)) (fun k_ hk => by first | exact ⟨(.inr (hk.1.1)), hk.2⟩ | exact okw hk))) | exact FK_slice_of (Kd.R_reads' (Kd.R_mono (ok' := (fun k_ => (P2_2_ k_ ∨ w.heap.size ≤ k_) ∧ k_ ≠ gb135)) (Kd.R_types (HO144.out) BK135.out (by decide)) (fun k_ hk => by first | exact ⟨(.inr (hk.1.1)), hk.2⟩ | exact okw hk))).1 (Kd.R_reads' (Kd.R_mono (ok' := (fun k_ => (P2_2_ k_ ∨ w.heap.size ≤ k_) ∧ k_ ≠ gb135)) (Kd.R_types (HO144.out) BK135.out (by decide)) (fun k_ hk => by first | exact ⟨(.inr (hk.1.1)), hk.2⟩ | exact okw hk))).2.1 (Kd.R_F (Kd.R_mono (ok' := (fun k_ => (P2_2_ k_ ∨ w.heap.size ≤ k_) ∧ k_ ≠ gb135)) (Kd.R_types (HO144.out) BK135.out (by decide)) (fun k_ hk => by first | exact ⟨(.inr (hk.1.1)), hk.2⟩ | exact okw hk))))) (Reps.one (show Kd.FK (Kd.slice 5 (Kd.int .u8)) _ _ y145 [.slice Ao74 y145.length co74] from (by first | exact Kd.FK_slice_mk (Kd.R_reads' (Kd.R_mono (ok' := (fun k_ => (P2_2_ k_ ∨ w.heap.size ≤ k_) ∧ k_ ≠ gb135)) (Kd.R_types (HO147.out) BK135.out (by decide)) (fun k_ hk => by first | exact ⟨(.inr (hk.1.1)), hk.2⟩ | exact okw hk))).2.1 (Kd.R_F (Kd.R_mono (ok' := (fun k_ => (P2_2_ k_ ∨ w.heap.size ≤ k_) ∧ k_ ≠ gb135)) (Kd.R_types (HO147.out) BK135.out (by decide)) (fun k_ hk => by first | exact ⟨(.inr (hk.1.1)), hk.2⟩ | exact okw hk))) | exact FK_slice_of (Kd.R_reads' (Kd.R_mono (ok' := (fun k_ => (P2_2_ k_ ∨ w.heap.size ≤ k_) ∧ k_ ≠ gb135)) (Kd.R_types (HO147.out) BK135.out (by decide)) (fun k_ hk => by first | exact ⟨(.inr (hk.1.1)), hk.2⟩ | exact okw hk))).1 (Kd.R_reads' (Kd.R_mono (ok' := (fun k_ => (P2_2_ k_ ∨ w.heap.size ≤ k_) ∧ k_ ≠ gb135)) (Kd.R_types (HO147.out) BK135.out (by decide)) (fun k_ hk => by first | exact ⟨(.inr (hk.1.1)), hk.2⟩ | exact okw hk))).2.1 (Kd.R_F (Kd.R_mono (ok' := (fun k_ => (P2_2_ k_ ∨ w.heap.size ≤ k_) ∧ k_ ≠ gb135)) (Kd.R_types (HO147.out) BK135.out (by decide)) (fun k_ hk => by first | exact ⟨(.inr (hk.1.1)), hk.2⟩ | exact okw hk))))) (Reps.one (show Kd.FK (Kd.slice 5 (Kd.int .u8)) _ _ l2_2 [.slice A2_2 l2_2.length c2_2] from (by first | exact Kd.FK_slice_mk (Kd.V_reads' (e := 0) (base := 0) (Kd.V_mono (ok' := (fun k_ => (P2_2_ k_ ∨ w.heap.size ≤ k_) ∧ k_ ≠ gb135)) (HO_136002.out) (fun k_ hk => by first | exact ⟨hk.1, hk.2.2.2.2.2⟩ | exact okw hk))).2.1 (Kd.V_F (e := 0) (base := 0) (Kd.V_mono (ok' := (fun k_ => (P2_2_ k_ ∨ w.heap.size ≤ k_) ∧ k_ ≠ gb135)) (HO_136002.out) (fun k_ hk => by first | exact ⟨hk.1, hk.2.2.2.2.2⟩ | exact okw hk))) | exact FK_slice_of (Kd.V_reads' (e := 0) (base := 0) (Kd.V_mono (ok' := (fun k_ => (P2_2_ k_ ∨ w.heap.size ≤ k_) ∧ k_ ≠ gb135)) (HO_136002.out) (fun k_ hk => by first | exact ⟨hk.1, hk.2.2.2.2.2⟩ | exact okw hk))).1 (Kd.V_reads' (e := 0) (base := 0) (Kd.V_mono (ok' := (fun k_ => (P2_2_ k_ ∨ w.heap.size ≤ k_) ∧ k_ ≠ gb135)) (HO_136002.out) (fun k_ hk => by first | exact ⟨hk.1, hk.2.2.2.2.2⟩ | exact okw hk))).2.1 (Kd.V_F (e := 0) (base := 0) (Kd.V_mono (ok' := (fun k_ => (P2_2_ k_ ∨ w.heap.size ≤ k_) ∧ k_ ≠ gb135)) (HO_136002.out) (fun k_ hk => by first | exact ⟨hk.1, hk.2.2.2.2.2⟩ | exact okw hk))))) (Reps.none _ _)))))))
                      intro v149 w75 ho76 hb hg_ hnew_
                      clear hg_ hnew_
                      (first | rw [← Ny148.out] at ho76 | (simp only [Int.reduceToNat] at ho76; rw [← Ny148.out] at ho76))
                      have n0_ := Aside0.mk (Kd.V_elder' (by (with_reducible repeat (first | apply Kd.V_alloc | apply Kd.V_drewN | apply Kd.V_drew)); exact HO_136002.out) (Kd.N_base ho76) hb)
                      have n1_ := Aside0.mk (Kd.R_below (by (with_reducible repeat (first | apply Kd.R_alloc | apply Kd.R_drewN | apply Kd.R_drew)); exact HO138.out) hb)
                      have n2_ := Aside0.mk (Kd.R_below (by (with_reducible repeat (first | apply Kd.R_alloc | apply Kd.R_drewN | apply Kd.R_drew)); exact HO141.out) hb)
                      have n3_ := Aside0.mk (Kd.R_below (by (with_reducible repeat (first | apply Kd.R_alloc | apply Kd.R_drewN | apply Kd.R_drew)); exact HO144.out) hb)
                      have n4_ := Aside0.mk (Kd.R_below (by (with_reducible repeat (first | apply Kd.R_alloc | apply Kd.R_drewN | apply Kd.R_drew)); exact HO147.out) hb)
                      have n5_ := Aside0.mk (Kd.N_lower ho76 (below_size (by repeat (first | (with_reducible first | exact HB.out | apply below_alloc | apply pw_below_drewN | apply below_drew1 | refine below_set ?_ GE135.out) | exact HB.out))))
                      have n6_ := Aside0.mk (blk_below (g := gb135) (o := .cells #[.int .i64 a2_0, .int .i64 a2_1, .slice A2_2 l2_2.length c2_2] 26 (0, 0)) (by (with_reducible repeat (first | refine blk_drewN ?_ _ | refine blk_drew ?_ | refine blk_alloc ?_ _)); exact BK135.out) hb)
                      have n7_ := Aside0.mk (below_step (by repeat (first | (with_reducible first | exact HB.out | apply below_alloc | apply pw_below_drewN | apply below_drew1 | refine below_set ?_ GE135.out) | exact HB.out)) hb)
                      clear HO_136002
                      clear HO138
                      clear HO141
                      clear HO144
                      clear HO147
                      clear BK135
                      clear HB
                      have HO_136002 := n0_
                      have HO138 := n1_
                      have HO141 := n2_
                      have HO144 := n3_
                      have HO147 := n4_
                      have HO150 := n5_
                      have BK135 := n6_
                      have HB := n7_
                      clear n0_ n1_ n2_ n3_ n4_ n5_ n6_ n7_
                      clear hb ho76
                      refine hK.out _ _ ⟨.slice Ao71 t136.length co71, .slice Ao72 t139.length co72, .slice Ao73 t142.length co73, .slice Ao74 y145.length co74, v149, v152, m16_, (by rw [ha.out]; exact putSel_upk 10 hb_ rfl rfl rfl), (by first | ((with_reducible repeat (first | apply Kd.V_alloc | apply Kd.V_drewN | apply Kd.V_drew)); exact Kd.V_mono HO_136002.out (fun _ hk => by first | exact ⟨hk.1.1, ⟨hk.1.2.1, ⟨hk.1.2.2.1, ⟨hk.1.2.2.2.1, ⟨hk.1.2.2.2.2.1, ⟨hk.2, hk.1.2.2.2.2.2⟩⟩⟩⟩⟩⟩ | exact okw hk)) | ((with_reducible repeat (first | apply Kd.V_alloc | apply Kd.V_drewN | apply Kd.V_drew)); exact Kd.V_mono HO_136002.out (fun _ hk => by first | trivial | exact hk | exact hk.1 | exact hk.2 | exact hk.1.1 | exact okw hk))), (by (with_reducible repeat (first | refine blk_drewN ?_ _ | refine blk_drew ?_ | refine blk_alloc ?_ _)); exact BK135.out), (by repeat (first | (with_reducible first | exact HB.out | apply below_alloc | apply pw_below_drewN | apply below_drew1 | refine below_set ?_ GE135.out) | exact HB.out)), fun _ => (by first | ((with_reducible repeat (first | apply Kd.R_alloc | apply Kd.R_drewN | apply Kd.R_drew)); exact HO138.out) | ((with_reducible repeat (first | apply Kd.R_alloc | apply Kd.R_drewN | apply Kd.R_drew)); exact Kd.R_mono HO138.out (fun _ hk => by first | trivial | exact hk | exact hk.1 | exact hk.2 | exact hk.1.1 | exact okw hk))), fun _ => (by first | ((with_reducible repeat (first | apply Kd.R_alloc | apply Kd.R_drewN | apply Kd.R_drew)); exact HO141.out) | ((with_reducible repeat (first | apply Kd.R_alloc | apply Kd.R_drewN | apply Kd.R_drew)); exact Kd.R_mono HO141.out (fun _ hk => by first | trivial | exact hk | exact hk.1 | exact hk.2 | exact hk.1.1 | exact okw hk))), fun _ => (by first | ((with_reducible repeat (first | apply Kd.R_alloc | apply Kd.R_drewN | apply Kd.R_drew)); exact HO144.out) | ((with_reducible repeat (first | apply Kd.R_alloc | apply Kd.R_drewN | apply Kd.R_drew)); exact Kd.R_mono HO144.out (fun _ hk => by first | trivial | exact hk | exact hk.1 | exact hk.2 | exact hk.1.1 | exact okw hk))), fun _ => (by first | ((with_reducible repeat (first | apply Kd.R_alloc | apply Kd.R_drewN | apply Kd.R_drew)); exact HO147.out) | ((with_reducible repeat (first | apply Kd.R_alloc | apply Kd.R_drewN | apply Kd.R_drew)); exact Kd.R_mono HO147.out (fun _ hk => by first | trivial | exact hk | exact hk.1 | exact hk.2 | exact hk.1.1 | exact okw hk))), fun _ _ => (by first | ((with_reducible repeat (first | apply Kd.N_alloc | apply Kd.N_drewN | apply Kd.N_drew)); exact HO150.out) | ((with_reducible repeat (first | apply Kd.N_alloc | apply Kd.N_drewN | apply Kd.N_drew)); exact Kd.N_mono HO150.out (fun _ hk => by first | trivial | exact hk | exact hk.1 | exact hk.2 | exact hk.1.1 | exact okw hk))), fun h0_ => absurd ((hoff 15 (by kernel_rfl)).symm.trans h0_) (by decide), fun h0_ => absurd ((hoff 16 (by kernel_rfl)).symm.trans h0_) (by decide)⟩
                    refine steps_cons ?_ ?_
                    · rintro b a w' ⟨v137, v140, v143, v146, v149, v152, m16_, ha, Q_HO_136002, Q_BK135, Q_HB, Q_HO138, Q_HO141, Q_HO144, Q_HO147, Q_HO150, Q_HO153, Q_X16_⟩ hb_ hon hoff
                      refine ⟨_, rfl, fun K hK => ?_⟩
                      have e48 : a.tmps[48]? = some (v149) := by rw [ha]; exact putSel_on (e := (14, 48, v149)) 10 rfl rfl (hon 14 (by kernel_rfl)) rfl
                      replace ha := Aside0.mk ha
                      have HO_136002 := Aside0.mk Q_HO_136002
                      have BK135 := Aside0.mk Q_BK135
                      have HB := Aside0.mk Q_HB
                      have HO138 := Aside0.mk (Q_HO138 (hon 2 (by kernel_rfl)))
                      have HO141 := Aside0.mk (Q_HO141 (hon 5 (by kernel_rfl)))
                      have HO144 := Aside0.mk (Q_HO144 (hon 10 (by kernel_rfl)))
                      have HO147 := Aside0.mk (Q_HO147 (hon 11 (by kernel_rfl)))
                      have HO150 := Aside0.mk (Q_HO150 (hon 14 (by kernel_rfl)) hb_)
                      obtain ⟨Ao77, co77, eo77⟩ := Kd.N_slice HO150.out
                      (first | subst eo77 | (injection eo77 with f1_ f2_ f3_; have f4_ := f1_.symm; have f5_ := f3_.symm; clear f1_ f2_ f3_; subst f4_; subst f5_))
                      refine goes_ Try.func37 (by kernel_rfl) rfl #[.slice Ao77 y148.length co77] (by rfl) rfl rfl (by first | (simp only [List.map_toArray, List.map_cons, List.map_nil, Act.eval, Array.getD_eq_getD_getElem?, Option.getD_some, e48]; done) | (simp only [List.map_toArray, List.map_cons, List.map_nil, Act.eval, Array.getD_eq_getD_getElem?, Option.getD_some, e48]; rfl)) ?_
                      with_reducible refine (word_Join.calls kj3 _ _ y148 t151 _ ?side1 ?side2 A19.out).mono ?_
                      (case side1 => repeat (first | exact (Kd.N_reads' HO150.out).2.2 | (with_reducible refine Kd.C_alloc ?_ _) | (with_reducible refine Kd.C_drewN ?_ _) | (with_reducible refine Kd.C_drew ?_)))
                      (case side2 => exact (Kd.N_reads' HO150.out).2.1)
                      rintro e w78 ⟨v152, rfl, ho0, hb⟩
                      refine ⟨_, rfl, ?_⟩
                      have n0_ := Aside0.mk (Kd.V_elder' (by (with_reducible repeat (first | apply Kd.V_alloc | apply Kd.V_drewN | apply Kd.V_drew)); exact HO_136002.out) (Kd.R_base ho0) hb)
                      have n1_ := Aside0.mk (Kd.R_elder' (by (with_reducible repeat (first | apply Kd.R_alloc | apply Kd.R_drewN | apply Kd.R_drew)); exact HO138.out) (Kd.R_base ho0) hb)
                      have n2_ := Aside0.mk (Kd.R_elder' (by (with_reducible repeat (first | apply Kd.R_alloc | apply Kd.R_drewN | apply Kd.R_drew)); exact HO141.out) (Kd.R_base ho0) hb)
                      have n3_ := Aside0.mk (Kd.R_elder' (by (with_reducible repeat (first | apply Kd.R_alloc | apply Kd.R_drewN | apply Kd.R_drew)); exact HO144.out) (Kd.R_base ho0) hb)
                      have n4_ := Aside0.mk (Kd.R_elder' (by (with_reducible repeat (first | apply Kd.R_alloc | apply Kd.R_drewN | apply Kd.R_drew)); exact HO147.out) (Kd.R_base ho0) hb)
                      have n5_ := Aside0.mk (Kd.N_elder' (by (with_reducible repeat (first | apply Kd.N_alloc | apply Kd.N_drewN | apply Kd.N_drew)); exact HO150.out) (Kd.R_base ho0) hb)
                      have n6_ := Aside0.mk (Kd.R_lower (Kd.R_new' (Kd.R_new' (Kd.R_new' (Kd.R_new' (Kd.R_newM (M := fun k_ => (w.heap.size ≤ k_)) ho0 (below_size (by repeat (first | (with_reducible first | exact HB.out | apply below_alloc | apply pw_below_drewN | apply below_drew1 | refine below_set ?_ GE135.out) | exact HB.out))) (fun k_ h_ => h_)) (Kd.R_lt (by (with_reducible repeat (first | apply Kd.R_alloc | apply Kd.R_drewN | apply Kd.R_drew)); exact HO138.out))) (Kd.R_lt (by (with_reducible repeat (first | apply Kd.R_alloc | apply Kd.R_drewN | apply Kd.R_drew)); exact HO141.out))) (Kd.R_lt (by (with_reducible repeat (first | apply Kd.R_alloc | apply Kd.R_drewN | apply Kd.R_drew)); exact HO144.out))) (Kd.R_lt (by (with_reducible repeat (first | apply Kd.R_alloc | apply Kd.R_drewN | apply Kd.R_drew)); exact HO147.out))) (below_size (by repeat (first | (with_reducible first | exact HB.out | apply below_alloc | apply pw_below_drewN | apply below_drew1 | refine below_set ?_ GE135.out) | exact HB.out))))
                      have n7_ := Aside0.mk (blk_below (g := gb135) (o := .cells #[.int .i64 a2_0, .int .i64 a2_1, .slice A2_2 l2_2.length c2_2] 26 (0, 0)) (by (with_reducible repeat (first | refine blk_drewN ?_ _ | refine blk_drew ?_ | refine blk_alloc ?_ _)); exact BK135.out) hb)
                      have n8_ := Aside0.mk (below_step (by repeat (first | (with_reducible first | exact HB.out | apply below_alloc | apply pw_below_drewN | apply below_drew1 | refine below_set ?_ GE135.out) | exact HB.out)) hb)
                      clear HO_136002
                      clear HO138
                      clear HO141
                      clear HO144
                      clear HO147
                      clear HO150
                      clear BK135
                      clear HB
                      have HO_136002 := n0_
                      have HO138 := n1_
                      have HO141 := n2_
                      have HO144 := n3_
                      have HO147 := n4_
                      have HO150 := n5_
                      have HO153 := n6_
                      have BK135 := n7_
                      have HB := n8_
                      clear n0_ n1_ n2_ n3_ n4_ n5_ n6_ n7_ n8_
                      (try clear hb)
                      (try clear hb2)
                      (try clear hk)
                      (try clear hi)
                      (try clear ho0)
                      refine hK.out _ _ ⟨v137, v140, v143, v146, .slice Ao77 y148.length co77, v152, m16_, (by rw [ha.out]; exact putSel_upk 11 hb_ rfl rfl rfl), (by first | ((with_reducible repeat (first | apply Kd.V_alloc | apply Kd.V_drewN | apply Kd.V_drew)); exact Kd.V_mono HO_136002.out (fun _ hk => by first | exact ⟨hk.1.1, ⟨hk.1.2.1, ⟨hk.1.2.2.1, ⟨hk.1.2.2.2.1, ⟨hk.1.2.2.2.2.1, ⟨hk.2, hk.1.2.2.2.2.2.2⟩⟩⟩⟩⟩⟩ | exact okw hk)) | ((with_reducible repeat (first | apply Kd.V_alloc | apply Kd.V_drewN | apply Kd.V_drew)); exact Kd.V_mono HO_136002.out (fun _ hk => by first | trivial | exact hk | exact hk.1 | exact hk.2 | exact hk.1.1 | exact okw hk))), (by (with_reducible repeat (first | refine blk_drewN ?_ _ | refine blk_drew ?_ | refine blk_alloc ?_ _)); exact BK135.out), (by repeat (first | (with_reducible first | exact HB.out | apply below_alloc | apply pw_below_drewN | apply below_drew1 | refine below_set ?_ GE135.out) | exact HB.out)), fun _ => (by first | ((with_reducible repeat (first | apply Kd.R_alloc | apply Kd.R_drewN | apply Kd.R_drew)); exact Kd.R_mono HO138.out (fun _ hk => by first | exact ⟨hk.1.1, ⟨hk.1.2.1, ⟨hk.1.2.2.1, ⟨hk.1.2.2.2, hk.2⟩⟩⟩⟩ | exact okw hk)) | ((with_reducible repeat (first | apply Kd.R_alloc | apply Kd.R_drewN | apply Kd.R_drew)); exact Kd.R_mono HO138.out (fun _ hk => by first | trivial | exact hk | exact hk.1 | exact hk.2 | exact hk.1.1 | exact okw hk))), fun _ => (by first | ((with_reducible repeat (first | apply Kd.R_alloc | apply Kd.R_drewN | apply Kd.R_drew)); exact Kd.R_mono HO141.out (fun _ hk => by first | exact ⟨hk.1.1, ⟨hk.1.2.1, ⟨hk.1.2.2.1, ⟨hk.1.2.2.2, hk.2⟩⟩⟩⟩ | exact okw hk)) | ((with_reducible repeat (first | apply Kd.R_alloc | apply Kd.R_drewN | apply Kd.R_drew)); exact Kd.R_mono HO141.out (fun _ hk => by first | trivial | exact hk | exact hk.1 | exact hk.2 | exact hk.1.1 | exact okw hk))), fun _ => (by first | ((with_reducible repeat (first | apply Kd.R_alloc | apply Kd.R_drewN | apply Kd.R_drew)); exact Kd.R_mono HO144.out (fun _ hk => by first | exact ⟨hk.1.1, ⟨hk.1.2.1, ⟨hk.1.2.2.1, ⟨hk.1.2.2.2, hk.2⟩⟩⟩⟩ | exact okw hk)) | ((with_reducible repeat (first | apply Kd.R_alloc | apply Kd.R_drewN | apply Kd.R_drew)); exact Kd.R_mono HO144.out (fun _ hk => by first | trivial | exact hk | exact hk.1 | exact hk.2 | exact hk.1.1 | exact okw hk))), fun _ => (by first | ((with_reducible repeat (first | apply Kd.R_alloc | apply Kd.R_drewN | apply Kd.R_drew)); exact Kd.R_mono HO147.out (fun _ hk => by first | exact ⟨hk.1.1, ⟨hk.1.2.1, ⟨hk.1.2.2.1, ⟨hk.1.2.2.2, hk.2⟩⟩⟩⟩ | exact okw hk)) | ((with_reducible repeat (first | apply Kd.R_alloc | apply Kd.R_drewN | apply Kd.R_drew)); exact Kd.R_mono HO147.out (fun _ hk => by first | trivial | exact hk | exact hk.1 | exact hk.2 | exact hk.1.1 | exact okw hk))), fun _ h1_ => absurd ((up_self b 15).symm.trans h1_) (by decide), fun _ => (by first | ((with_reducible repeat (first | apply Kd.R_alloc | apply Kd.R_drewN | apply Kd.R_drew)); exact Kd.R_mono HO153.out (fun _ hk => by first | exact ⟨hk.1.1.1.1.1, ⟨hk.1.1.1.2, ⟨hk.1.1.2, ⟨hk.1.2, hk.2⟩⟩⟩⟩ | exact okw hk)) | ((with_reducible repeat (first | apply Kd.R_alloc | apply Kd.R_drewN | apply Kd.R_drew)); exact Kd.R_mono HO153.out (fun _ hk => by first | trivial | exact hk | exact hk.1 | exact hk.2 | exact hk.1.1 | exact okw hk))), fun h0_ => absurd ((hoff 16 (by kernel_rfl)).symm.trans h0_) (by decide)⟩
                    refine steps_cons ?_ ?_
                    · rintro b a w' ⟨v137, v140, v143, v146, v149, v152, m16_, ha, Q_HO_136002, Q_BK135, Q_HB, Q_HO138, Q_HO141, Q_HO144, Q_HO147, Q_HO150, Q_HO153, Q_X16_⟩ hb_ hon hoff
                      refine ⟨_, rfl, fun K hK => ?_⟩
                      have e49 : a.tmps[49]? = some (v152) := by rw [ha]; exact putSel_on (e := (15, 49, v152)) 11 rfl rfl (hon 15 (by kernel_rfl)) rfl
                      replace ha := Aside0.mk ha
                      have HO_136002 := Aside0.mk Q_HO_136002
                      have BK135 := Aside0.mk Q_BK135
                      have HB := Aside0.mk Q_HB
                      have HO138 := Aside0.mk (Q_HO138 (hon 2 (by kernel_rfl)))
                      have HO141 := Aside0.mk (Q_HO141 (hon 5 (by kernel_rfl)))
                      have HO144 := Aside0.mk (Q_HO144 (hon 10 (by kernel_rfl)))
                      have HO147 := Aside0.mk (Q_HO147 (hon 11 (by kernel_rfl)))
                      have HO153 := Aside0.mk (Q_HO153 (hon 15 (by kernel_rfl)))
                      refine value_ (w1 := w') (v := v152) (by rfl) rfl ?_ ?_
                      · go_simp
                        (try simp only [i64_w])
                        try rfl
                      refine hK.out _ _ ⟨v137, v140, v143, v146, v149, v152, (v152), (by rw [ha.out]; exact putSel_upk 12 hb_ rfl rfl rfl), Q_HO_136002, Q_BK135, Q_HB, Q_HO138, Q_HO141, Q_HO144, Q_HO147, fun _ h1_ => absurd ((hon 15 (by kernel_rfl)).symm.trans h1_) (by decide), Q_HO153, fun _ => rfl⟩
                    exact steps_nil
                  rintro b a w78 hall ⟨v137, v140, v143, v146, v149, v152, m16_, ha, Q_HO_136002, Q_BK135, Q_HB, Q_HO138, Q_HO141, Q_HO144, Q_HO147, Q_HO150, Q_HO153, Q_X16_⟩
                  clear BK135 HB HO_136002
                  have hb1_ := hall 1 (by kernel_rfl)
                  have hb2_ := hall 2 (by kernel_rfl)
                  have hb4_ := hall 4 (by kernel_rfl)
                  have hb5_ := hall 5 (by kernel_rfl)
                  have hb7_ := hall 7 (by kernel_rfl)
                  have hb8_ := hall 8 (by kernel_rfl)
                  have hb9_ := hall 9 (by kernel_rfl)
                  have hb10_ := hall 10 (by kernel_rfl)
                  have hb11_ := hall 11 (by kernel_rfl)
                  have hb13_ := hall 13 (by kernel_rfl)
                  have hb14_ := hall 14 (by kernel_rfl)
                  have hb15_ := hall 15 (by kernel_rfl)
                  have hb16_ := hall 16 (by kernel_rfl)
                  subst ha
                  obtain rfl := Q_X16_ hb16_
                  simp only [putSel, hb1_, hb2_, hb4_, hb5_, hb7_, hb8_, hb9_, hb10_, hb11_, hb13_, hb14_, hb15_, hb16_, if_true, Act.put, List.setIfInBounds_toArray, List.set_cons_zero, List.set_cons_succ]
                  have HO_136002 := Aside0.mk Q_HO_136002
                  clear Q_HO_136002
                  have BK135 := Aside0.mk Q_BK135
                  clear Q_BK135
                  have HB := Aside0.mk Q_HB
                  clear Q_HB
                  have HO138 := Aside0.mk (Q_HO138 hb2_)
                  clear Q_HO138
                  have HO141 := Aside0.mk (Q_HO141 hb5_)
                  clear Q_HO141
                  have HO144 := Aside0.mk (Q_HO144 hb10_)
                  clear Q_HO144
                  have HO147 := Aside0.mk (Q_HO147 hb11_)
                  clear Q_HO147
                  clear Q_HO150
                  have HO153 := Aside0.mk (Q_HO153 hb15_)
                  clear Q_HO153
                  clear hall hb1_ hb2_ hb4_ hb5_ hb7_ hb8_ hb9_ hb10_ hb11_ hb13_ hb14_ hb15_ hb16_
                  obtain ⟨Ao79, co79, eo79⟩ := Kd.R_slice HO153.out
                  subst eo79
                  go_upto_region 7 with (first | ((with_reducible refine gate_callee (f := 40) rfl ?_); refine goesL_ (some 54) rfl rfl Try.func40 (by kernel_rfl) rfl #[.int .u32 a0, .int .u32 a1, .int .i64 17, .int .i64 (t151.length : Int)] rfl (by (try simp only [List.map_toArray, List.map_cons, List.map_nil]); first | done | rfl | (simp only [List.length_drop, List.length_take]; rfl)) ?_; (with_reducible refine (sum_Pseudo.calls kj3 a0 a1 17 (t151.length : Int) t154 _ A20.out).mono ?_); rintro e w80 ⟨v155, rfl, ho0, hb⟩; refine ⟨_, rfl, ?_⟩; have n0_ := Aside0.mk (Kd.R_elder' (by (with_reducible repeat (first | apply Kd.R_alloc | apply Kd.R_drewN | apply Kd.R_drew)); exact HO153.out) (Kd.R_base ho0) hb); have n1_ := Aside0.mk (Kd.R_lower (Kd.R_new' (Kd.R_newM (M := fun k_ => (w.heap.size ≤ k_)) ho0 (below_size (by repeat (first | (with_reducible first | exact HB.out | apply below_alloc | apply pw_below_drewN | apply below_drew1 | refine below_set ?_ GE135.out) | exact HB.out))) (fun k_ h_ => h_)) (Kd.R_lt (by (with_reducible repeat (first | apply Kd.R_alloc | apply Kd.R_drewN | apply Kd.R_drew)); exact HO153.out))) (below_size (by repeat (first | (with_reducible first | exact HB.out | apply below_alloc | apply pw_below_drewN | apply below_drew1 | refine below_set ?_ GE135.out) | exact HB.out)))); have n2_ := Aside0.mk (blk_below (g := gb135) (o := .cells #[.int .i64 a2_0, .int .i64 a2_1, .slice A2_2 l2_2.length c2_2] 26 (0, 0)) (by (with_reducible repeat (first | refine blk_drewN ?_ _ | refine blk_drew ?_ | refine blk_alloc ?_ _)); exact BK135.out) hb); have n3_ := Aside0.mk (below_step (by repeat (first | (with_reducible first | exact HB.out | apply below_alloc | apply pw_below_drewN | apply below_drew1 | refine below_set ?_ GE135.out) | exact HB.out)) hb); clear HO153; clear BK135; clear HB; have HO153 := n0_; have HO156 := n1_; have BK135 := n2_; have HB := n3_; clear n0_ n1_ n2_ n3_; (try clear hb); (try clear hb2); (try clear hk); (try clear hi); (try clear ho0); obtain ⟨Ao81, co81, eo81⟩ := Kd.R_slice HO156.out; subst eo81) | ((with_reducible refine gate_dst (N := 56) rfl ?_); (try (refine gate_guard (by rfl) ?_; dsimp only)); refine Kd.N_lit (Kd.slice 5 (Kd.int .u8)) _ 24 ?hg (N' := 56) ?hd (xs := ([t154, t151] : List (List Int))) (inner := [.slice Ao81 t154.length co81, .slice Ao79 t151.length co79]) (ok := (fun k_ => (P2_2_ k_ ∨ w.heap.size ≤ k_) ∧ k_ ≠ gb135)) (okp := (fun k_ => (P2_2_ k_ ∨ w.heap.size ≤ k_) ∧ k_ ≠ gb135)) ?hr ?hp (fun _ hk => hk) ((show ∀ k_, w80.heap.size ≤ k_ → (fun k_ => (P2_2_ k_ ∨ w.heap.size ≤ k_) ∧ k_ ≠ gb135) k_ from fun k_ hk => ⟨(.inr (Nat.le_trans (below_size (by repeat (first | (with_reducible first | exact HB.out | apply below_alloc | apply pw_below_drewN | apply below_drew1 | refine below_set ?_ GE135.out) | exact HB.out))) hk)), Kd.freshB (g := gb135) (o := .cells #[.int .i64 a2_0, .int .i64 a2_1, .slice A2_2 l2_2.length c2_2] 26 (0, 0)) (by (with_reducible repeat (first | refine blk_drewN ?_ _ | refine blk_drew ?_ | refine blk_alloc ?_ _)); exact BK135.out) k_ hk⟩) _ (Nat.le_refl _)) (Below.refl _ _) (Nat.le_refl _) (by simp) ?_; (case hd => rfl); (case hg => rfl); (case hr => first | (go_simp; done) | (go_simp; rfl)); (case hp => exact (Reps.one (show Kd.FK (Kd.slice 5 (Kd.int .u8)) _ _ t154 [.slice Ao81 t154.length co81] from (by first | exact Kd.FK_slice_mk (Kd.R_reads' (Kd.R_mono (ok' := (fun k_ => (P2_2_ k_ ∨ w.heap.size ≤ k_) ∧ k_ ≠ gb135)) (Kd.R_types (HO156.out) BK135.out (by decide)) (fun k_ hk => by first | exact ⟨(.inr (hk.1.1.1)), hk.2⟩ | exact okw hk))).2.1 (Kd.R_F (Kd.R_mono (ok' := (fun k_ => (P2_2_ k_ ∨ w.heap.size ≤ k_) ∧ k_ ≠ gb135)) (Kd.R_types (HO156.out) BK135.out (by decide)) (fun k_ hk => by first | exact ⟨(.inr (hk.1.1.1)), hk.2⟩ | exact okw hk))) | exact FK_slice_of (Kd.R_reads' (Kd.R_mono (ok' := (fun k_ => (P2_2_ k_ ∨ w.heap.size ≤ k_) ∧ k_ ≠ gb135)) (Kd.R_types (HO156.out) BK135.out (by decide)) (fun k_ hk => by first | exact ⟨(.inr (hk.1.1.1)), hk.2⟩ | exact okw hk))).1 (Kd.R_reads' (Kd.R_mono (ok' := (fun k_ => (P2_2_ k_ ∨ w.heap.size ≤ k_) ∧ k_ ≠ gb135)) (Kd.R_types (HO156.out) BK135.out (by decide)) (fun k_ hk => by first | exact ⟨(.inr (hk.1.1.1)), hk.2⟩ | exact okw hk))).2.1 (Kd.R_F (Kd.R_mono (ok' := (fun k_ => (P2_2_ k_ ∨ w.heap.size ≤ k_) ∧ k_ ≠ gb135)) (Kd.R_types (HO156.out) BK135.out (by decide)) (fun k_ hk => by first | exact ⟨(.inr (hk.1.1.1)), hk.2⟩ | exact okw hk))))) (Reps.one (show Kd.FK (Kd.slice 5 (Kd.int .u8)) _ _ t151 [.slice Ao79 t151.length co79] from (by first | exact Kd.FK_slice_mk (Kd.R_reads' (Kd.R_mono (ok' := (fun k_ => (P2_2_ k_ ∨ w.heap.size ≤ k_) ∧ k_ ≠ gb135)) (Kd.R_types (HO153.out) BK135.out (by decide)) (fun k_ hk => by first | exact ⟨(.inr (hk.1.1)), hk.2⟩ | exact okw hk))).2.1 (Kd.R_F (Kd.R_mono (ok' := (fun k_ => (P2_2_ k_ ∨ w.heap.size ≤ k_) ∧ k_ ≠ gb135)) (Kd.R_types (HO153.out) BK135.out (by decide)) (fun k_ hk => by first | exact ⟨(.inr (hk.1.1)), hk.2⟩ | exact okw hk))) | exact FK_slice_of (Kd.R_reads' (Kd.R_mono (ok' := (fun k_ => (P2_2_ k_ ∨ w.heap.size ≤ k_) ∧ k_ ≠ gb135)) (Kd.R_types (HO153.out) BK135.out (by decide)) (fun k_ hk => by first | exact ⟨(.inr (hk.1.1)), hk.2⟩ | exact okw hk))).1 (Kd.R_reads' (Kd.R_mono (ok' := (fun k_ => (P2_2_ k_ ∨ w.heap.size ≤ k_) ∧ k_ ≠ gb135)) (Kd.R_types (HO153.out) BK135.out (by decide)) (fun k_ hk => by first | exact ⟨(.inr (hk.1.1)), hk.2⟩ | exact okw hk))).2.1 (Kd.R_F (Kd.R_mono (ok' := (fun k_ => (P2_2_ k_ ∨ w.heap.size ≤ k_) ∧ k_ ≠ gb135)) (Kd.R_types (HO153.out) BK135.out (by decide)) (fun k_ hk => by first | exact ⟨(.inr (hk.1.1)), hk.2⟩ | exact okw hk))))) (Reps.none _ _)))); intro v158 w82 ho83 hb hg_ hnew_; clear hg_ hnew_; (first | rw [← Ny157.out] at ho83 | (simp only [Int.reduceToNat] at ho83; rw [← Ny157.out] at ho83)); have n0_ := Aside0.mk (Kd.R_below (by (with_reducible repeat (first | apply Kd.R_alloc | apply Kd.R_drewN | apply Kd.R_drew)); exact HO153.out) hb); have n1_ := Aside0.mk (Kd.R_below (by (with_reducible repeat (first | apply Kd.R_alloc | apply Kd.R_drewN | apply Kd.R_drew)); exact HO156.out) hb); have n2_ := Aside0.mk (Kd.N_lower ho83 (below_size (by repeat (first | (with_reducible first | exact HB.out | apply below_alloc | apply pw_below_drewN | apply below_drew1 | refine below_set ?_ GE135.out) | exact HB.out)))); have n3_ := Aside0.mk (blk_below (g := gb135) (o := .cells #[.int .i64 a2_0, .int .i64 a2_1, .slice A2_2 l2_2.length c2_2] 26 (0, 0)) (by (with_reducible repeat (first | refine blk_drewN ?_ _ | refine blk_drew ?_ | refine blk_alloc ?_ _)); exact BK135.out) hb); have n4_ := Aside0.mk (below_step (by repeat (first | (with_reducible first | exact HB.out | apply below_alloc | apply pw_below_drewN | apply below_drew1 | refine below_set ?_ GE135.out) | exact HB.out)) hb); clear HO153; clear HO156; clear BK135; clear HB; have HO153 := n0_; have HO156 := n1_; have HO159 := n2_; have BK135 := n3_; have HB := n4_; clear n0_ n1_ n2_ n3_ n4_; clear hb ho83; obtain ⟨Ao84, co84, eo84⟩ := Kd.N_slice HO159.out; subst eo84) | ((with_reducible refine gate_callee (f := 39) rfl ?_); refine goesL_ (some 57) rfl rfl Try.func39 (by kernel_rfl) rfl #[.slice Ao84 y157.length co84] rfl (by (try simp only [List.map_toArray, List.map_cons, List.map_nil]); first | done | rfl | (simp only [List.length_drop, List.length_take]; rfl)) ?_; (with_reducible refine (sum_Of.calls kj3 _ _ y157 t160 _ ?side1 ?side2 A21.out).mono ?_); (case side1 => repeat (first | exact (Kd.N_reads' HO159.out).2.2 | (with_reducible refine Kd.C_alloc ?_ _) | (with_reducible refine Kd.C_drewN ?_ _) | (with_reducible refine Kd.C_drew ?_))); (case side2 => exact (Kd.N_reads' HO159.out).2.1); rintro e w' ⟨rfl, ⟨nd, rfl⟩⟩; refine ⟨_, rfl, ?_⟩; (try (rw [drewN_self w82]; generalize hq_ : World.drewN w82 _ = w82; have n0_ : Aside0 (Kd.R (Kd.int .u8) 5 w82 w.heap.size (fun k_ => (w.heap.size ≤ k_) ∧ some k_ ≠ (.slice Ao81 t154.length co81 : Value).ownBlock) (.slice Ao79 t151.length co79) t151) := ⟨by rw [← hq_]; exact (by (with_reducible repeat (first | apply Kd.R_alloc | apply Kd.R_drewN | apply Kd.R_drew)); exact HO153.out)⟩; have n1_ : Aside0 (Kd.R (Kd.int .u8) 5 w82 w.heap.size (fun k_ => (w.heap.size ≤ k_) ∧ some k_ ≠ (.slice Ao79 t151.length co79 : Value).ownBlock) (.slice Ao81 t154.length co81) t154) := ⟨by rw [← hq_]; exact (by (with_reducible repeat (first | apply Kd.R_alloc | apply Kd.R_drewN | apply Kd.R_drew)); exact Kd.R_mono HO156.out (fun _ hk => by first | exact ⟨hk.1.1, hk.2⟩ | exact okw hk))⟩; have n2_ : Aside0 (Kd.N (Kd.slice 5 (Kd.int .u8)) 24 w82 w.heap.size (fun k_ => (P2_2_ k_ ∨ w.heap.size ≤ k_) ∧ k_ ≠ gb135) (.slice Ao84 y157.length co84) y157) := ⟨by rw [← hq_]; exact (by (with_reducible repeat (first | apply Kd.N_alloc | apply Kd.N_drewN | apply Kd.N_drew)); exact HO159.out)⟩; have n3_ : Aside0 (w82.heap[gb135]? = some (.cells #[.int .i64 a2_0, .int .i64 a2_1, .slice A2_2 l2_2.length c2_2] 26 (0, 0))) := ⟨by rw [← hq_]; exact (by (with_reducible repeat (first | refine blk_drewN ?_ _ | refine blk_drew ?_ | refine blk_alloc ?_ _)); exact BK135.out)⟩; have n4_ : Aside0 (Below w.heap.size w w82) := ⟨by rw [← hq_]; exact (by repeat (first | (with_reducible first | exact HB.out | apply below_alloc | apply pw_below_drewN | apply below_drew1 | refine below_set ?_ GE135.out) | exact HB.out))⟩; clear HO153 HO156 HO159 BK135 HB hq_; have HO153 := n0_; have HO156 := n1_; have HO159 := n2_; have BK135 := n3_; have HB := n4_; clear n0_ n1_ n2_ n3_ n4_))))
                  have qL_ : (7 : Int) < (t151.length : Int) := of_decide_eq_true (by first | (with_reducible assumption) | assumption)
                  obtain ⟨go60, co60, eo60, gb60, gl60, cl60, HG60⟩ := Kd.R_form HO153.out (by omega); (first | cases eo60 | (injection eo60 with ea_ en_ ec_; (first | subst ea_ | (injection ea_ with ea_; subst ea_)); subst ec_; clear en_)); have GB60 := Aside0.mk gb60; have GG60 := Aside0.mk HG60; clear gb60 gl60 HG60
                  have n0_ := Aside0.mk (Kd.R_drew HO153.out)
                  have n1_ := Aside0.mk (Kd.R_drew HO156.out)
                  have n2_ := Aside0.mk (blk_drew BK135.out)
                  have n3_ := Aside0.mk (below_drew1 HB.out)
                  clear HO153 HO156 BK135 HB
                  have HO153 := n0_
                  have HO156 := n1_
                  have BK135 := n2_
                  have HB := n3_
                  clear n0_ n1_ n2_ n3_
                  refine start_ (n := 5) (S := fun w' => True) (ds := []) #[false, false, false, false, false] (by kernel_rfl) rfl rfl trivial (fun hHeld => ?_)
                  generalize w82.drew = w82 at HO153 HO156 BK135 HB hHeld ⊢
                  clear HO156
                  have HO156 := Aside0.mk (Kd.R_nil (Kd.int .u8) 5 w82 w.heap.size (fun _ => False))
                  have qs_ : (6 : Int) ≤ (t151.length : Int) := by omega
                  have qc_ : t151.length ≤ co79 := (Kd.R_reads' HO153.out).2.1
                  have qd_ : ¬ (co79 = 6) := by omega
                  have qe_ : ¬ (6 = co79) := by omega
                  have qf_ : ¬ (co79 ≤ 6) := by omega
                  have qg_ : (6 < co79) = True := eq_true (by omega)
                  have qh_ : ¬ (co79 - 6 = 0) := by omega
                  refine pure_ (i := 0) (N := some 60) (v := ?_) (a' := ?_) #[true, false, false, false, false] rfl rfl (by kernel_rfl) (fun _ _ _ h => h) (Or.inl ⟨by rfl, ?_⟩) ?_ ?_
                  rotate_left
                  · intro w'
                    go_simp
                    with_reducible rfl
                  rotate_left
                  · simp only [Act.put, List.setIfInBounds_toArray, List.set_cons_zero, List.set_cons_succ, i64_w, i32_w]
                    rfl
                  refine pure_ (i := 1) (N := some 61) (v := ?_) (a' := ?_) #[true, true, false, false, false] rfl rfl (by kernel_rfl) (fun _ _ _ h => h) (Or.inl ⟨by rfl, ?_⟩) ?_ ?_
                  rotate_left
                  · intro w'
                    go_simp
                    with_reducible rfl
                  rotate_left
                  · simp only [Act.put, List.setIfInBounds_toArray, List.set_cons_zero, List.set_cons_succ, i64_w, i32_w]
                    rfl
                  refine pure_ (i := 2) (N := some 62) (v := ?_) (a' := ?_) #[true, true, true, false, false] rfl rfl (by kernel_rfl) (fun _ _ _ h => h) (Or.inl ⟨by rfl, ?_⟩) ?_ ?_
                  rotate_left
                  · intro w'
                    go_simp
                    with_reducible rfl
                  rotate_left
                  · simp only [Act.put, List.setIfInBounds_toArray, List.set_cons_zero, List.set_cons_succ, i64_w, i32_w]
                    rfl
                  refine chain_ [3, 4] rfl (by kernel_rfl) (by kernel_rfl) ?_
                  simp only [List.filterMap_cons, List.filterMap_nil, List.getElem?_toArray, List.getElem?_cons_succ, List.getElem?_cons_zero]
                  ((with_reducible refine gate_callee (f := 38) rfl ?_); refine goesL_ (some 63) rfl rfl Try.func38 (by kernel_rfl) rfl #[.int .i64 t160] rfl (by (try simp only [List.map_toArray, List.map_cons, List.map_nil]); first | done | rfl | (simp only [List.length_drop, List.length_take]; rfl)) ?_; (with_reducible refine (word_Put16.calls t160 t168 _ A57.out).mono ?_); rintro e w85 ⟨v169, rfl, ho0, hb⟩; refine ⟨_, rfl, ?_⟩; have n0_ := Aside0.mk (Kd.R_elder' (by (with_reducible repeat (first | apply Kd.R_alloc | apply Kd.R_drewN | apply Kd.R_drew)); exact HO153.out) (Kd.R_base ho0) hb); have n1_ := Aside0.mk (Kd.R_elder' (by (with_reducible repeat (first | apply Kd.R_alloc | apply Kd.R_drewN | apply Kd.R_drew)); exact HO156.out) (Kd.R_base ho0) hb); have n2_ := Aside0.mk (Kd.R_lower (Kd.R_new' (Kd.R_new' (Kd.R_newM (M := fun k_ => (w.heap.size ≤ k_)) ho0 (below_size (by repeat (first | (with_reducible first | exact HB.out | apply below_alloc | apply pw_below_drewN | apply below_drew1 | refine below_set ?_ GE135.out) | exact HB.out))) (fun k_ h_ => h_)) (Kd.R_lt (by (with_reducible repeat (first | apply Kd.R_alloc | apply Kd.R_drewN | apply Kd.R_drew)); exact HO153.out))) (Kd.R_lt (by (with_reducible repeat (first | apply Kd.R_alloc | apply Kd.R_drewN | apply Kd.R_drew)); exact HO156.out))) (below_size (by repeat (first | (with_reducible first | exact HB.out | apply below_alloc | apply pw_below_drewN | apply below_drew1 | refine below_set ?_ GE135.out) | exact HB.out)))); have n3_ := Aside0.mk (blk_below (g := gb135) (o := .cells #[.int .i64 a2_0, .int .i64 a2_1, .slice A2_2 l2_2.length c2_2] 26 (0, 0)) (by (with_reducible repeat (first | refine blk_drewN ?_ _ | refine blk_drew ?_ | refine blk_alloc ?_ _)); exact BK135.out) hb); have n4_ := Aside0.mk (below_step (by repeat (first | (with_reducible first | exact HB.out | apply below_alloc | apply pw_below_drewN | apply below_drew1 | refine below_set ?_ GE135.out) | exact HB.out)) hb); clear HO153; clear HO156; clear BK135; clear HB; have HO153 := n0_; have HO156 := n1_; have HO170 := n2_; have BK135 := n3_; have HB := n4_; clear n0_ n1_ n2_ n3_ n4_; (try clear hb); (try clear hb2); (try clear hk); (try clear hi); (try clear ho0); obtain ⟨Ao86, co86, eo86⟩ := Kd.R_slice HO170.out; subst eo86; have p171 : 0 ≤ (0 : Int) := (by omega); have q171 : 0 < (t168.length : Int) := of_decide_eq_true (by first | (with_reducible assumption) | assumption); obtain ⟨ad171, e171, hx171_0⟩ := Kd.at_int (Kd.R_reads' HO170.out).2.2 0 p171 q171; cases e171; have qi171 : (0 < t168.length) = True := eq_true (by omega); (try rw [show ((0 : Int)).toNat = 0 from rfl] at hx171_0); (try rw [Addr.add_zero'] at hx171_0); replace p171 := eq_true p171; replace q171 := eq_true q171; have p60 : 0 ≤ (6 : Int) := (by omega); have q60 : (6 : Int) < ((t151.length : Int) : Int) := of_decide_eq_true (by first | (with_reducible assumption) | assumption); have qi60 : (6 < t151.length) = True := eq_true (by omega); obtain ⟨hx60_0, hf60_0⟩ := Kd.R_celln 0 HO153.out (6 : Int) p60 q60; (try rw [show ((6 : Int)).toNat = 6 from rfl] at hx60_0); (try simp only [Nat.reduceMul, Nat.zero_mul, Nat.zero_add, Nat.reduceAdd] at hx60_0); (try rw [show ((6 : Int)).toNat = 6 from rfl] at hf60_0); (try simp only [Nat.reduceMul, Nat.zero_mul, Nat.zero_add, Nat.reduceAdd] at hf60_0); replace p60 := eq_true p60; replace q60 := eq_true q60; have n_ := Aside0.mk (Kd.R_mono (ok' := (fun k_ => (w.heap.size ≤ k_) ∧ some k_ ≠ (.slice none 0 0 : Value).ownBlock ∧ some k_ ≠ (.slice (some ad171) t168.length co86 : Value).ownBlock)) HO153.out (fun k_ hk => by first | exact ⟨hk.1.1, ⟨hk.1.2, hk.2⟩⟩ | exact okw hk)); clear HO153; have HO153 := n_; clear n_; obtain ⟨hy87_, hz87_⟩ := Kd.R_celln 0 HO153.out (6 : Int) (by omega) (of_decide_eq_true (by first | (with_reducible assumption) | assumption)); (try simp only [Int.reduceToNat, Int.toNat_zero, Int.toNat_ofNat, Nat.reduceMul, Nat.zero_mul, Nat.zero_add] at hy87_ hz87_); (try rw [show ((6 : Int)).toNat = 6 from rfl] at hy87_); (try rw [show ((6 : Int)).toNat = 6 from rfl] at hz87_); have HP87 := Kd.R_putg HO153.out (6 : Int) (rd t168 0))
                  (try simp only [Act.put, List.setIfInBounds_toArray, List.set_cons_zero, List.set_cons_succ])
                  ((first | (with_reducible refine gate_builtin (b := .copy) (xs := #[.tmp 61, .tmp 63]) rfl ?_) | skip); refine R_copy2 w.heap.size rfl (.tmp 61) (.tmp 63) 24 5 rfl Try.underlying24 (by kernel_rfl) go60 _ _ 6 _ t151 t168 _ _ (t151.length - 6) (co79 - 6) ?hd ?hdn rfl HO153.out (Kd.R_reads' HO170.out).2.2 ?hys ?hat ?_; (case hd => rfl); (case hdn => omega); (case hys => (have h_ := A57.out; unfold word_Put16.f at h_; cases h_; rfl)); (case hat => omega); intro w88 hw hg hp0_; have hp_ : Kd.R (Kd.int .u8) 5 w88 w.heap.size (fun k_ => (w.heap.size ≤ k_) ∧ some k_ ≠ (.slice none 0 0 : Value).ownBlock ∧ some k_ ≠ (.slice (some ad171) t168.length co86 : Value).ownBlock) (.slice (some ⟨go60, 0, none⟩) t151.length co79) y174 := (by rw [Ny174.out, Ny172.out]; exact hp0_); clear HP87 hp0_; have n0_ := Aside0.mk (blk_grown (g := gb135) (o := .cells #[.int .i64 a2_0, .int .i64 a2_1, .slice A2_2 l2_2.length c2_2] 26 (0, 0)) (by (with_reducible repeat (first | refine blk_drewN ?_ _ | refine blk_drew ?_ | refine blk_alloc ?_ _)); exact BK135.out) hg (Kd.R_ne HO153.out BK135.out (by decide))); have n1_ := Aside0.mk (hp_); have n2_ := Aside0.mk (Kd.R_after (v := (.slice (some ⟨go60, 0, none⟩) t151.length co79)) (v1 := (.slice (some ⟨go60, 0, none⟩) t151.length co79)) (ok := (fun k_ => (w.heap.size ≤ k_) ∧ some k_ ≠ (.slice (some ad171) t168.length co86 : Value).ownBlock)) (by (with_reducible repeat (first | apply Kd.R_alloc | apply Kd.R_drewN | apply Kd.R_drew)); exact Kd.R_mono HO156.out (fun _ hk => by first | exact ⟨⟨hk.1.1.1, hk.2⟩, hk.1.2⟩ | exact okw hk)) hg (.inl rfl)); have n3_ := Aside0.mk (Kd.R_after (v := (.slice (some ⟨go60, 0, none⟩) t151.length co79)) (v1 := (.slice (some ⟨go60, 0, none⟩) t151.length co79)) (ok := (fun k_ => (w.heap.size ≤ k_) ∧ some k_ ≠ (.slice none 0 0 : Value).ownBlock)) (by (with_reducible repeat (first | apply Kd.R_alloc | apply Kd.R_drewN | apply Kd.R_drew)); exact Kd.R_mono HO170.out (fun _ hk => by first | exact ⟨⟨hk.1.1.1, hk.2⟩, hk.1.2⟩ | exact okw hk)) hg (.inl rfl)); have n4_ := Aside0.mk ((by rw [hw]; exact below_set (below_set (HB.out) GB60.out) GB60.out : Below w.heap.size w w88)); clear BK135; clear HO153; clear HO156; clear HO170; clear HB; have BK135 := n0_; have HO153 := n1_; have HO156 := n2_; have HO170 := n3_; have HB := n4_; clear n0_ n1_ n2_ n3_ n4_; clear hg hw hp_)
                  (try simp only [Act.put, List.setIfInBounds_toArray, List.set_cons_zero, List.set_cons_succ])
                  go_wp2
                  go_ret2
                  exact ⟨_, by first | rfl | (simp [errW_none, errW_some] <;> rfl) | (simp [*, errW_none, errW_some] <;> rfl), by (with_reducible repeat (first | apply Kd.R_alloc | apply Kd.R_drewN | apply Kd.R_drew)); exact Kd.R_mono HO153.out (fun _ hk => hk.1), by repeat (first | (with_reducible first | exact HB.out | apply below_alloc | apply pw_below_drewN | apply below_drew1 | refine below_set ?_ GE135.out) | exact HB.out)⟩
                · rw [if_neg c62] at H
                  exact absurd H (by simp)
              · rw [if_neg c61] at H
                exact absurd H (by simp)
            · rw [if_neg c59] at H
              exact absurd H (by simp)
          · rw [if_neg c58] at H
            exact absurd H (by simp)

end Go.Proofs.Ytbpnienknijogaa.QUdpCut
