-- written by myprint.py, a program of this session's over the kit's printer
import Derived.Test.YtbpnienknijogaaQIpBuildsx0
namespace Go.Proofs.Ytbpnienknijogaa.QIpBuilds
open Go.RowKit Go.Proofs.YtbpnienknijogaaW.PrintWords Go.Proofs.YtbpnienknijogaaW.PrintLast Go.Proofs.YtbpnienknijogaaW.PrintMore
attribute [local go_sem] max2_int min2_int max_two min_two max_three min_three max_four min_four   -- for this text's walks alone
set_option linter.unusedVariables false
set_option linter.unusedSimpArgs false

/-! ### castellanref4_Same: function 26 -/
def castellanref4_Same.f (a0_0 : Int) (a0_1 : Int) (a0_2 : Bool) (a0_3 : Bool) (a0_4 : Int) (a0_5 : Int) (a0_6 : Int) (a0_7 : Int) (a0_8 : Int) (l0_9 : List Int) (l0_10 : List Int) (a1_0 : Int) (a1_1 : Int) (a1_2 : Bool) (a1_3 : Bool) (a1_4 : Int) (a1_5 : Int) (a1_6 : Int) (a1_7 : Int) (a1_8 : Int) (l1_9 : List Int) (l1_10 : List Int) : Option (Bool) := if a0_0 = a1_0 then (if a0_1 = a1_1 then (if (a0_2 == a1_2) = true then (if (a0_3 == a1_3) = true then (if a0_4 = a1_4 then (if a0_5 = a1_5 then (if a0_6 = a1_6 then (if a0_7 = a1_7 then (if a0_8 = a1_8 then (if (strOfNums l0_9).toList = (strOfNums l1_9).toList then (some ((strOfNums l0_10).toList == (strOfNums l1_10).toList)) else (some false)) else (some false)) else (some false)) else (some false)) else (some false)) else (some false)) else (some false)) else (some false)) else (some false)) else (some false)
set_option maxHeartbeats 8000000 in
set_option maxRecDepth 100000 in
theorem castellanref4_Same.calls (a0_0 : Int) (a0_1 : Int) (a0_2 : Bool) (a0_3 : Bool) (a0_4 : Int) (a0_5 : Int) (a0_6 : Int) (a0_7 : Int) (a0_8 : Int) (A0_9 : Option Addr) (c0_9 : Nat) (l0_9 : List Int) (A0_10 : Option Addr) (c0_10 : Nat) (l0_10 : List Int) (a1_0 : Int) (a1_1 : Int) (a1_2 : Bool) (a1_3 : Bool) (a1_4 : Int) (a1_5 : Int) (a1_6 : Int) (a1_7 : Int) (a1_8 : Int) (A1_9 : Option Addr) (c1_9 : Nat) (l1_9 : List Int) (A1_10 : Option Addr) (c1_10 : Nat) (l1_10 : List Int) (r : Bool) (w : World) (hr0_9 : Kd.C (Kd.int .u8) w A0_9 l0_9.length l0_9) (hc0_9 : l0_9.length ≤ c0_9) (hr0_10 : Kd.C (Kd.int .u8) w A0_10 l0_10.length l0_10) (hc0_10 : l0_10.length ≤ c0_10) (hr1_9 : Kd.C (Kd.int .u8) w A1_9 l1_9.length l1_9) (hc1_9 : l1_9.length ≤ c1_9) (hr1_10 : Kd.C (Kd.int .u8) w A1_10 l1_10.length l1_10) (hc1_10 : l1_10.length ≤ c1_10) (h : castellanref4_Same.f a0_0 a0_1 a0_2 a0_3 a0_4 a0_5 a0_6 a0_7 a0_8 l0_9 l0_10 a1_0 a1_1 a1_2 a1_3 a1_4 a1_5 a1_6 a1_7 a1_8 l1_9 l1_10 = some r) :
    Calls Try.prog 26 #[.agg #[.int .i64 a0_0, .int .i64 a0_1, .bool a0_2, .bool a0_3, .int .i64 a0_4, .int .i64 a0_5, .int .i64 a0_6, .int .u32 a0_7, .int .u32 a0_8, .slice A0_9 l0_9.length c0_9, .slice A0_10 l0_10.length c0_10], .agg #[.int .i64 a1_0, .int .i64 a1_1, .bool a1_2, .bool a1_3, .int .i64 a1_4, .int .i64 a1_5, .int .i64 a1_6, .int .u32 a1_7, .int .u32 a1_8, .slice A1_9 l1_9.length c1_9, .slice A1_10 l1_10.length c1_10]] w fun e w' => e = .returned (.bool r) ∧ Below w.heap.size w w' := by
  have hu45 := Try.underlying45
  have HR0_9 := Aside0.mk hr0_9
  have HC0_9 := Aside0.mk hc0_9
  clear hr0_9 hc0_9
  have HR0_10 := Aside0.mk hr0_10
  have HC0_10 := Aside0.mk hc0_10
  clear hr0_10 hc0_10
  have HR1_9 := Aside0.mk hr1_9
  have HC1_9 := Aside0.mk hc1_9
  clear hr1_9 hc1_9
  have HR1_10 := Aside0.mk hr1_10
  have HC1_10 := Aside0.mk hc1_10
  clear hr1_10 hc1_10
  have HB := Aside0.mk (Below.refl w.heap.size w)
  have H : (if a0_0 = a1_0 then (if a0_1 = a1_1 then (if (a0_2 == a1_2) = true then (if (a0_3 == a1_3) = true then (if a0_4 = a1_4 then (if a0_5 = a1_5 then (if a0_6 = a1_6 then (if a0_7 = a1_7 then (if a0_8 = a1_8 then (if (strOfNums l0_9).toList = (strOfNums l1_9).toList then (some ((strOfNums l0_10).toList == (strOfNums l1_10).toList)) else (some false)) else (some false)) else (some false)) else (some false)) else (some false)) else (some false)) else (some false)) else (some false)) else (some false)) else (some false)) = some r := h
  clear h
  by_cases c3 : a0_0 = a1_0
  · rw [if_pos c3] at H
    have c3b0 : (a0_0 == a1_0) = true := beq_iff_eq.mpr c3
    have c3b1 : (a0_0 != a1_0) = false := bne_eq_false_iff_eq.mpr c3
    clear c3
    by_cases c4 : a0_1 = a1_1
    · rw [if_pos c4] at H
      have c4b0 : (a0_1 == a1_1) = true := beq_iff_eq.mpr c4
      have c4b1 : (a0_1 != a1_1) = false := bne_eq_false_iff_eq.mpr c4
      clear c4
      by_cases c5 : (a0_2 == a1_2) = true
      · rw [if_pos c5] at H
        have c5b0 : (a0_2 == a1_2) = true := c5
        (try (have c5b1 : decide (a0_2 = a1_2) = true := by simpa using c5))
        (try (have c5b2 : (a0_2 == a1_2) = true := by simpa using c5))
        clear c5
        by_cases c6 : (a0_3 == a1_3) = true
        · rw [if_pos c6] at H
          have c6b0 : (a0_3 == a1_3) = true := c6
          (try (have c6b1 : decide (a0_3 = a1_3) = true := by simpa using c6))
          (try (have c6b2 : (a0_3 == a1_3) = true := by simpa using c6))
          clear c6
          by_cases c7 : a0_4 = a1_4
          · rw [if_pos c7] at H
            have c7b0 : (a0_4 == a1_4) = true := beq_iff_eq.mpr c7
            have c7b1 : (a0_4 != a1_4) = false := bne_eq_false_iff_eq.mpr c7
            clear c7
            by_cases c8 : a0_5 = a1_5
            · rw [if_pos c8] at H
              have c8b0 : (a0_5 == a1_5) = true := beq_iff_eq.mpr c8
              have c8b1 : (a0_5 != a1_5) = false := bne_eq_false_iff_eq.mpr c8
              clear c8
              by_cases c9 : a0_6 = a1_6
              · rw [if_pos c9] at H
                have c9b0 : (a0_6 == a1_6) = true := beq_iff_eq.mpr c9
                have c9b1 : (a0_6 != a1_6) = false := bne_eq_false_iff_eq.mpr c9
                clear c9
                by_cases c10 : a0_7 = a1_7
                · rw [if_pos c10] at H
                  have c10b0 : (a0_7 == a1_7) = true := beq_iff_eq.mpr c10
                  have c10b1 : (a0_7 != a1_7) = false := bne_eq_false_iff_eq.mpr c10
                  clear c10
                  by_cases c11 : a0_8 = a1_8
                  · rw [if_pos c11] at H
                    have c11b0 : (a0_8 == a1_8) = true := beq_iff_eq.mpr c11
                    have c11b1 : (a0_8 != a1_8) = false := bne_eq_false_iff_eq.mpr c11
                    clear c11
                    by_cases c12 : (strOfNums l0_9).toList = (strOfNums l1_9).toList
                    · rw [if_pos c12] at H
                      have c12b0 : ((strOfNums l0_9).toList == (strOfNums l1_9).toList) = true := beq_iff_eq.mpr c12
                      have c12b1 : ((strOfNums l0_9).toList != (strOfNums l1_9).toList) = false := bne_eq_false_iff_eq.mpr c12
                      clear c12
                      obtain rfl := Option.some.inj H
                      go_enter Try.func26, Try.ntmps26
                      go_wp2_with (first | ((with_reducible refine gate_dst (N := 2) rfl ?_); refine box_event ?hg (N := 2) ?hd (cs := #[.int .i64 a0_0, .int .i64 a0_1, .bool a0_2, .bool a0_3, .int .i64 a0_4, .int .i64 a0_5, .int .i64 a0_6, .int .u32 a0_7, .int .u32 a0_8, .slice A0_9 l0_9.length c0_9, .slice A0_10 l0_10.length c0_10]) (t := 45) ?hr ?_; (case hd => rfl); (case hg => rfl); (case hr => first | (go_simp; done) | (go_simp; rfl)); intro gb101 hg w13 hbox hb; have n0_ := Aside0.mk (below_step (by repeat (first | (with_reducible first | exact HB.out | apply below_alloc | apply pw_below_drewN | apply below_drew1) | exact HB.out)) hb); have n1_ := Aside0.mk (hbox); have n2_ := Aside0.mk ((by rw [hg]; exact (below_size (by repeat (first | (with_reducible first | exact HB.out | apply below_alloc | apply pw_below_drewN | apply below_drew1) | exact HB.out))) : w.heap.size ≤ gb101)); have n3_ := Aside0.mk ((by rw [hg]; exact (below_size (by repeat (first | (with_reducible first | exact HB.out | apply below_alloc | apply pw_below_drewN | apply below_drew1) | exact HB.out))) : w.heap.size ≤ gb101)); clear HB; have HB := n0_; have BK101 := n1_; have GW101 := n2_; have GE101 := n3_; clear n0_ n1_ n2_ n3_; clear hb hbox hg) | ((with_reducible refine gate_dst (N := 3) rfl ?_); refine box_event ?hg (N := 3) ?hd (cs := #[.int .i64 a1_0, .int .i64 a1_1, .bool a1_2, .bool a1_3, .int .i64 a1_4, .int .i64 a1_5, .int .i64 a1_6, .int .u32 a1_7, .int .u32 a1_8, .slice A1_9 l1_9.length c1_9, .slice A1_10 l1_10.length c1_10]) (t := 45) ?hr ?_; (case hd => rfl); (case hg => rfl); (case hr => first | (go_simp; done) | (go_simp; rfl)); intro gb102 hg w14 hbox hb; have n0_ := Aside0.mk (blk_below (g := gb101) (o := .cells #[.int .i64 a0_0, .int .i64 a0_1, .bool a0_2, .bool a0_3, .int .i64 a0_4, .int .i64 a0_5, .int .i64 a0_6, .int .u32 a0_7, .int .u32 a0_8, .slice A0_9 l0_9.length c0_9, .slice A0_10 l0_10.length c0_10] 45 (0, 0)) (by (with_reducible repeat (first | refine blk_drewN ?_ _ | refine blk_drew ?_ | refine blk_alloc ?_ _)); exact BK101.out) hb); have n1_ := Aside0.mk (below_step (by repeat (first | (with_reducible first | exact HB.out | apply below_alloc | apply pw_below_drewN | apply below_drew1 | refine below_set ?_ GE101.out) | exact HB.out)) hb); have n2_ := Aside0.mk (hbox); have n3_ := Aside0.mk ((by rw [hg]; exact (below_size (by repeat (first | (with_reducible first | exact HB.out | apply below_alloc | apply pw_below_drewN | apply below_drew1 | refine below_set ?_ GE101.out) | exact HB.out))) : w.heap.size ≤ gb102)); have n4_ := Aside0.mk ((by rw [hg]; exact (below_size (by repeat (first | (with_reducible first | exact HB.out | apply below_alloc | apply pw_below_drewN | apply below_drew1 | refine below_set ?_ GE101.out) | exact HB.out))) : w.heap.size ≤ gb102)); have n5_ := Aside0.mk ((by rw [hg]; exact Nat.ne_of_lt (blk_lt (g := gb101) (o := .cells #[.int .i64 a0_0, .int .i64 a0_1, .bool a0_2, .bool a0_3, .int .i64 a0_4, .int .i64 a0_5, .int .i64 a0_6, .int .u32 a0_7, .int .u32 a0_8, .slice A0_9 l0_9.length c0_9, .slice A0_10 l0_10.length c0_10] 45 (0, 0)) (by (with_reducible repeat (first | refine blk_drewN ?_ _ | refine blk_drew ?_ | refine blk_alloc ?_ _)); exact BK101.out)) : gb101 ≠ gb102)); have n6_ := Aside0.mk ((by rw [hg]; exact Nat.ne_of_gt (blk_lt (g := gb101) (o := .cells #[.int .i64 a0_0, .int .i64 a0_1, .bool a0_2, .bool a0_3, .int .i64 a0_4, .int .i64 a0_5, .int .i64 a0_6, .int .u32 a0_7, .int .u32 a0_8, .slice A0_9 l0_9.length c0_9, .slice A0_10 l0_10.length c0_10] 45 (0, 0)) (by (with_reducible repeat (first | refine blk_drewN ?_ _ | refine blk_drew ?_ | refine blk_alloc ?_ _)); exact BK101.out)) : gb102 ≠ gb101)); clear BK101; clear HB; have BK101 := n0_; have HB := n1_; have BK102 := n2_; have GW102 := n3_; have GE102 := n4_; have NB101_102 := n5_; have NB102_101 := n6_; clear n0_ n1_ n2_ n3_ n4_ n5_ n6_; clear hb hbox hg; have hnb15 := NB101_102.out; have hnc15 := NB102_101.out; have hcz16_0 : w14.cell? ⟨gb101, 0, none⟩ = some (.int .i64 a0_0) := (blk_cell BK101.out 0).trans rfl; have hcz16_1 : w14.cell? ⟨gb101, 1, none⟩ = some (.int .i64 a0_1) := (blk_cell BK101.out 1).trans rfl; have hcz16_2 : w14.cell? ⟨gb101, 2, none⟩ = some (.bool a0_2) := (blk_cell BK101.out 2).trans rfl; have hcz16_3 : w14.cell? ⟨gb101, 3, none⟩ = some (.bool a0_3) := (blk_cell BK101.out 3).trans rfl; have hcz16_4 : w14.cell? ⟨gb101, 4, none⟩ = some (.int .i64 a0_4) := (blk_cell BK101.out 4).trans rfl; have hcz16_5 : w14.cell? ⟨gb101, 5, none⟩ = some (.int .i64 a0_5) := (blk_cell BK101.out 5).trans rfl; have hcz16_6 : w14.cell? ⟨gb101, 6, none⟩ = some (.int .i64 a0_6) := (blk_cell BK101.out 6).trans rfl; have hcz16_7 : w14.cell? ⟨gb101, 7, none⟩ = some (.int .u32 a0_7) := (blk_cell BK101.out 7).trans rfl; have hcz16_8 : w14.cell? ⟨gb101, 8, none⟩ = some (.int .u32 a0_8) := (blk_cell BK101.out 8).trans rfl; have hcz16_9 : w14.cell? ⟨gb101, 9, none⟩ = some (.slice A0_9 l0_9.length c0_9) := (blk_cell BK101.out 9).trans rfl; have hcz16_10 : w14.cell? ⟨gb101, 10, none⟩ = some (.slice A0_10 l0_10.length c0_10) := (blk_cell BK101.out 10).trans rfl; have hfz16_0 := blk_frozen BK101.out 0; have hfz16_1 := blk_frozen BK101.out 1; have hfz16_2 := blk_frozen BK101.out 2; have hfz16_3 := blk_frozen BK101.out 3; have hfz16_4 := blk_frozen BK101.out 4; have hfz16_5 := blk_frozen BK101.out 5; have hfz16_6 := blk_frozen BK101.out 6; have hfz16_7 := blk_frozen BK101.out 7; have hfz16_8 := blk_frozen BK101.out 8; have hfz16_9 := blk_frozen BK101.out 9; have hfz16_10 := blk_frozen BK101.out 10; have hcz17_0 : w14.cell? ⟨gb102, 0, none⟩ = some (.int .i64 a1_0) := (blk_cell BK102.out 0).trans rfl; have hcz17_1 : w14.cell? ⟨gb102, 1, none⟩ = some (.int .i64 a1_1) := (blk_cell BK102.out 1).trans rfl; have hcz17_2 : w14.cell? ⟨gb102, 2, none⟩ = some (.bool a1_2) := (blk_cell BK102.out 2).trans rfl; have hcz17_3 : w14.cell? ⟨gb102, 3, none⟩ = some (.bool a1_3) := (blk_cell BK102.out 3).trans rfl; have hcz17_4 : w14.cell? ⟨gb102, 4, none⟩ = some (.int .i64 a1_4) := (blk_cell BK102.out 4).trans rfl; have hcz17_5 : w14.cell? ⟨gb102, 5, none⟩ = some (.int .i64 a1_5) := (blk_cell BK102.out 5).trans rfl; have hcz17_6 : w14.cell? ⟨gb102, 6, none⟩ = some (.int .i64 a1_6) := (blk_cell BK102.out 6).trans rfl; have hcz17_7 : w14.cell? ⟨gb102, 7, none⟩ = some (.int .u32 a1_7) := (blk_cell BK102.out 7).trans rfl; have hcz17_8 : w14.cell? ⟨gb102, 8, none⟩ = some (.int .u32 a1_8) := (blk_cell BK102.out 8).trans rfl; have hcz17_9 : w14.cell? ⟨gb102, 9, none⟩ = some (.slice A1_9 l1_9.length c1_9) := (blk_cell BK102.out 9).trans rfl; have hcz17_10 : w14.cell? ⟨gb102, 10, none⟩ = some (.slice A1_10 l1_10.length c1_10) := (blk_cell BK102.out 10).trans rfl; have hfz17_0 := blk_frozen BK102.out 0; have hfz17_1 := blk_frozen BK102.out 1; have hfz17_2 := blk_frozen BK102.out 2; have hfz17_3 := blk_frozen BK102.out 3; have hfz17_4 := blk_frozen BK102.out 4; have hfz17_5 := blk_frozen BK102.out 5; have hfz17_6 := blk_frozen BK102.out 6; have hfz17_7 := blk_frozen BK102.out 7; have hfz17_8 := blk_frozen BK102.out 8; have hfz17_9 := blk_frozen BK102.out 9; have hfz17_10 := blk_frozen BK102.out 10; have hcv18 := Kd.C_string (P := Try.prog) (A := A0_9) (c := c0_9) Try.underlying24 Try.underlying5 Try.underlying9 (Kd.C_below HR0_9.out HB.out); have hcv19 := Kd.C_string (P := Try.prog) (A := A1_9) (c := c1_9) Try.underlying24 Try.underlying5 Try.underlying9 (Kd.C_below HR1_9.out HB.out); have hcv20 := Kd.C_string (P := Try.prog) (A := A0_10) (c := c0_10) Try.underlying24 Try.underlying5 Try.underlying9 (Kd.C_below HR0_10.out HB.out); have hcv21 := Kd.C_string (P := Try.prog) (A := A1_10) (c := c1_10) Try.underlying24 Try.underlying5 Try.underlying9 (Kd.C_below HR1_10.out HB.out)))
                      go_ret
                      exact ⟨by first | rfl | (simp [errW_none, errW_some] <;> rfl) | (simp [*, errW_none, errW_some] <;> rfl), by repeat (first | (with_reducible first | exact HB.out | apply below_alloc | apply pw_below_drewN | apply below_drew1 | refine below_set ?_ GE101.out | refine below_set ?_ GE102.out) | exact HB.out)⟩
                    · rw [if_neg c12] at H
                      have c12b0 : ((strOfNums l0_9).toList == (strOfNums l1_9).toList) = false := beq_eq_false_iff_ne.mpr c12
                      have c12b1 : ((strOfNums l0_9).toList != (strOfNums l1_9).toList) = true := bne_iff_ne.mpr c12
                      obtain rfl := Option.some.inj H
                      go_enter Try.func26, Try.ntmps26
                      go_wp2_with (first | ((with_reducible refine gate_dst (N := 2) rfl ?_); refine box_event ?hg (N := 2) ?hd (cs := #[.int .i64 a0_0, .int .i64 a0_1, .bool a0_2, .bool a0_3, .int .i64 a0_4, .int .i64 a0_5, .int .i64 a0_6, .int .u32 a0_7, .int .u32 a0_8, .slice A0_9 l0_9.length c0_9, .slice A0_10 l0_10.length c0_10]) (t := 45) ?hr ?_; (case hd => rfl); (case hg => rfl); (case hr => first | (go_simp; done) | (go_simp; rfl)); intro gb101 hg w22 hbox hb; have n0_ := Aside0.mk (below_step (by repeat (first | (with_reducible first | exact HB.out | apply below_alloc | apply pw_below_drewN | apply below_drew1) | exact HB.out)) hb); have n1_ := Aside0.mk (hbox); have n2_ := Aside0.mk ((by rw [hg]; exact (below_size (by repeat (first | (with_reducible first | exact HB.out | apply below_alloc | apply pw_below_drewN | apply below_drew1) | exact HB.out))) : w.heap.size ≤ gb101)); have n3_ := Aside0.mk ((by rw [hg]; exact (below_size (by repeat (first | (with_reducible first | exact HB.out | apply below_alloc | apply pw_below_drewN | apply below_drew1) | exact HB.out))) : w.heap.size ≤ gb101)); clear HB; have HB := n0_; have BK101 := n1_; have GW101 := n2_; have GE101 := n3_; clear n0_ n1_ n2_ n3_; clear hb hbox hg) | ((with_reducible refine gate_dst (N := 3) rfl ?_); refine box_event ?hg (N := 3) ?hd (cs := #[.int .i64 a1_0, .int .i64 a1_1, .bool a1_2, .bool a1_3, .int .i64 a1_4, .int .i64 a1_5, .int .i64 a1_6, .int .u32 a1_7, .int .u32 a1_8, .slice A1_9 l1_9.length c1_9, .slice A1_10 l1_10.length c1_10]) (t := 45) ?hr ?_; (case hd => rfl); (case hg => rfl); (case hr => first | (go_simp; done) | (go_simp; rfl)); intro gb102 hg w23 hbox hb; have n0_ := Aside0.mk (blk_below (g := gb101) (o := .cells #[.int .i64 a0_0, .int .i64 a0_1, .bool a0_2, .bool a0_3, .int .i64 a0_4, .int .i64 a0_5, .int .i64 a0_6, .int .u32 a0_7, .int .u32 a0_8, .slice A0_9 l0_9.length c0_9, .slice A0_10 l0_10.length c0_10] 45 (0, 0)) (by (with_reducible repeat (first | refine blk_drewN ?_ _ | refine blk_drew ?_ | refine blk_alloc ?_ _)); exact BK101.out) hb); have n1_ := Aside0.mk (below_step (by repeat (first | (with_reducible first | exact HB.out | apply below_alloc | apply pw_below_drewN | apply below_drew1 | refine below_set ?_ GE101.out) | exact HB.out)) hb); have n2_ := Aside0.mk (hbox); have n3_ := Aside0.mk ((by rw [hg]; exact (below_size (by repeat (first | (with_reducible first | exact HB.out | apply below_alloc | apply pw_below_drewN | apply below_drew1 | refine below_set ?_ GE101.out) | exact HB.out))) : w.heap.size ≤ gb102)); have n4_ := Aside0.mk ((by rw [hg]; exact (below_size (by repeat (first | (with_reducible first | exact HB.out | apply below_alloc | apply pw_below_drewN | apply below_drew1 | refine below_set ?_ GE101.out) | exact HB.out))) : w.heap.size ≤ gb102)); have n5_ := Aside0.mk ((by rw [hg]; exact Nat.ne_of_lt (blk_lt (g := gb101) (o := .cells #[.int .i64 a0_0, .int .i64 a0_1, .bool a0_2, .bool a0_3, .int .i64 a0_4, .int .i64 a0_5, .int .i64 a0_6, .int .u32 a0_7, .int .u32 a0_8, .slice A0_9 l0_9.length c0_9, .slice A0_10 l0_10.length c0_10] 45 (0, 0)) (by (with_reducible repeat (first | refine blk_drewN ?_ _ | refine blk_drew ?_ | refine blk_alloc ?_ _)); exact BK101.out)) : gb101 ≠ gb102)); have n6_ := Aside0.mk ((by rw [hg]; exact Nat.ne_of_gt (blk_lt (g := gb101) (o := .cells #[.int .i64 a0_0, .int .i64 a0_1, .bool a0_2, .bool a0_3, .int .i64 a0_4, .int .i64 a0_5, .int .i64 a0_6, .int .u32 a0_7, .int .u32 a0_8, .slice A0_9 l0_9.length c0_9, .slice A0_10 l0_10.length c0_10] 45 (0, 0)) (by (with_reducible repeat (first | refine blk_drewN ?_ _ | refine blk_drew ?_ | refine blk_alloc ?_ _)); exact BK101.out)) : gb102 ≠ gb101)); clear BK101; clear HB; have BK101 := n0_; have HB := n1_; have BK102 := n2_; have GW102 := n3_; have GE102 := n4_; have NB101_102 := n5_; have NB102_101 := n6_; clear n0_ n1_ n2_ n3_ n4_ n5_ n6_; clear hb hbox hg; have hnb24 := NB101_102.out; have hnc24 := NB102_101.out; have hcz25_0 : w23.cell? ⟨gb101, 0, none⟩ = some (.int .i64 a0_0) := (blk_cell BK101.out 0).trans rfl; have hcz25_1 : w23.cell? ⟨gb101, 1, none⟩ = some (.int .i64 a0_1) := (blk_cell BK101.out 1).trans rfl; have hcz25_2 : w23.cell? ⟨gb101, 2, none⟩ = some (.bool a0_2) := (blk_cell BK101.out 2).trans rfl; have hcz25_3 : w23.cell? ⟨gb101, 3, none⟩ = some (.bool a0_3) := (blk_cell BK101.out 3).trans rfl; have hcz25_4 : w23.cell? ⟨gb101, 4, none⟩ = some (.int .i64 a0_4) := (blk_cell BK101.out 4).trans rfl; have hcz25_5 : w23.cell? ⟨gb101, 5, none⟩ = some (.int .i64 a0_5) := (blk_cell BK101.out 5).trans rfl; have hcz25_6 : w23.cell? ⟨gb101, 6, none⟩ = some (.int .i64 a0_6) := (blk_cell BK101.out 6).trans rfl; have hcz25_7 : w23.cell? ⟨gb101, 7, none⟩ = some (.int .u32 a0_7) := (blk_cell BK101.out 7).trans rfl; have hcz25_8 : w23.cell? ⟨gb101, 8, none⟩ = some (.int .u32 a0_8) := (blk_cell BK101.out 8).trans rfl; have hcz25_9 : w23.cell? ⟨gb101, 9, none⟩ = some (.slice A0_9 l0_9.length c0_9) := (blk_cell BK101.out 9).trans rfl; have hcz25_10 : w23.cell? ⟨gb101, 10, none⟩ = some (.slice A0_10 l0_10.length c0_10) := (blk_cell BK101.out 10).trans rfl; have hfz25_0 := blk_frozen BK101.out 0; have hfz25_1 := blk_frozen BK101.out 1; have hfz25_2 := blk_frozen BK101.out 2; have hfz25_3 := blk_frozen BK101.out 3; have hfz25_4 := blk_frozen BK101.out 4; have hfz25_5 := blk_frozen BK101.out 5; have hfz25_6 := blk_frozen BK101.out 6; have hfz25_7 := blk_frozen BK101.out 7; have hfz25_8 := blk_frozen BK101.out 8; have hfz25_9 := blk_frozen BK101.out 9; have hfz25_10 := blk_frozen BK101.out 10; have hcz26_0 : w23.cell? ⟨gb102, 0, none⟩ = some (.int .i64 a1_0) := (blk_cell BK102.out 0).trans rfl; have hcz26_1 : w23.cell? ⟨gb102, 1, none⟩ = some (.int .i64 a1_1) := (blk_cell BK102.out 1).trans rfl; have hcz26_2 : w23.cell? ⟨gb102, 2, none⟩ = some (.bool a1_2) := (blk_cell BK102.out 2).trans rfl; have hcz26_3 : w23.cell? ⟨gb102, 3, none⟩ = some (.bool a1_3) := (blk_cell BK102.out 3).trans rfl; have hcz26_4 : w23.cell? ⟨gb102, 4, none⟩ = some (.int .i64 a1_4) := (blk_cell BK102.out 4).trans rfl; have hcz26_5 : w23.cell? ⟨gb102, 5, none⟩ = some (.int .i64 a1_5) := (blk_cell BK102.out 5).trans rfl; have hcz26_6 : w23.cell? ⟨gb102, 6, none⟩ = some (.int .i64 a1_6) := (blk_cell BK102.out 6).trans rfl; have hcz26_7 : w23.cell? ⟨gb102, 7, none⟩ = some (.int .u32 a1_7) := (blk_cell BK102.out 7).trans rfl; have hcz26_8 : w23.cell? ⟨gb102, 8, none⟩ = some (.int .u32 a1_8) := (blk_cell BK102.out 8).trans rfl; have hcz26_9 : w23.cell? ⟨gb102, 9, none⟩ = some (.slice A1_9 l1_9.length c1_9) := (blk_cell BK102.out 9).trans rfl; have hcz26_10 : w23.cell? ⟨gb102, 10, none⟩ = some (.slice A1_10 l1_10.length c1_10) := (blk_cell BK102.out 10).trans rfl; have hfz26_0 := blk_frozen BK102.out 0; have hfz26_1 := blk_frozen BK102.out 1; have hfz26_2 := blk_frozen BK102.out 2; have hfz26_3 := blk_frozen BK102.out 3; have hfz26_4 := blk_frozen BK102.out 4; have hfz26_5 := blk_frozen BK102.out 5; have hfz26_6 := blk_frozen BK102.out 6; have hfz26_7 := blk_frozen BK102.out 7; have hfz26_8 := blk_frozen BK102.out 8; have hfz26_9 := blk_frozen BK102.out 9; have hfz26_10 := blk_frozen BK102.out 10; have hcv27 := Kd.C_string (P := Try.prog) (A := A0_9) (c := c0_9) Try.underlying24 Try.underlying5 Try.underlying9 (Kd.C_below HR0_9.out HB.out); have hcv28 := Kd.C_string (P := Try.prog) (A := A1_9) (c := c1_9) Try.underlying24 Try.underlying5 Try.underlying9 (Kd.C_below HR1_9.out HB.out)))
                      go_ret
                      exact ⟨by first | rfl | (simp [errW_none, errW_some] <;> rfl) | (simp [*, errW_none, errW_some] <;> rfl), by repeat (first | (with_reducible first | exact HB.out | apply below_alloc | apply pw_below_drewN | apply below_drew1 | refine below_set ?_ GE101.out | refine below_set ?_ GE102.out) | exact HB.out)⟩
                  · rw [if_neg c11] at H
                    have c11b0 : (a0_8 == a1_8) = false := beq_eq_false_iff_ne.mpr c11
                    have c11b1 : (a0_8 != a1_8) = true := bne_iff_ne.mpr c11
                    obtain rfl := Option.some.inj H
                    go_enter Try.func26, Try.ntmps26
                    go_wp2_with (first | ((with_reducible refine gate_dst (N := 2) rfl ?_); refine box_event ?hg (N := 2) ?hd (cs := #[.int .i64 a0_0, .int .i64 a0_1, .bool a0_2, .bool a0_3, .int .i64 a0_4, .int .i64 a0_5, .int .i64 a0_6, .int .u32 a0_7, .int .u32 a0_8, .slice A0_9 l0_9.length c0_9, .slice A0_10 l0_10.length c0_10]) (t := 45) ?hr ?_; (case hd => rfl); (case hg => rfl); (case hr => first | (go_simp; done) | (go_simp; rfl)); intro gb101 hg w29 hbox hb; have n0_ := Aside0.mk (below_step (by repeat (first | (with_reducible first | exact HB.out | apply below_alloc | apply pw_below_drewN | apply below_drew1) | exact HB.out)) hb); have n1_ := Aside0.mk (hbox); have n2_ := Aside0.mk ((by rw [hg]; exact (below_size (by repeat (first | (with_reducible first | exact HB.out | apply below_alloc | apply pw_below_drewN | apply below_drew1) | exact HB.out))) : w.heap.size ≤ gb101)); have n3_ := Aside0.mk ((by rw [hg]; exact (below_size (by repeat (first | (with_reducible first | exact HB.out | apply below_alloc | apply pw_below_drewN | apply below_drew1) | exact HB.out))) : w.heap.size ≤ gb101)); clear HB; have HB := n0_; have BK101 := n1_; have GW101 := n2_; have GE101 := n3_; clear n0_ n1_ n2_ n3_; clear hb hbox hg) | ((with_reducible refine gate_dst (N := 3) rfl ?_); refine box_event ?hg (N := 3) ?hd (cs := #[.int .i64 a1_0, .int .i64 a1_1, .bool a1_2, .bool a1_3, .int .i64 a1_4, .int .i64 a1_5, .int .i64 a1_6, .int .u32 a1_7, .int .u32 a1_8, .slice A1_9 l1_9.length c1_9, .slice A1_10 l1_10.length c1_10]) (t := 45) ?hr ?_; (case hd => rfl); (case hg => rfl); (case hr => first | (go_simp; done) | (go_simp; rfl)); intro gb102 hg w30 hbox hb; have n0_ := Aside0.mk (blk_below (g := gb101) (o := .cells #[.int .i64 a0_0, .int .i64 a0_1, .bool a0_2, .bool a0_3, .int .i64 a0_4, .int .i64 a0_5, .int .i64 a0_6, .int .u32 a0_7, .int .u32 a0_8, .slice A0_9 l0_9.length c0_9, .slice A0_10 l0_10.length c0_10] 45 (0, 0)) (by (with_reducible repeat (first | refine blk_drewN ?_ _ | refine blk_drew ?_ | refine blk_alloc ?_ _)); exact BK101.out) hb); have n1_ := Aside0.mk (below_step (by repeat (first | (with_reducible first | exact HB.out | apply below_alloc | apply pw_below_drewN | apply below_drew1 | refine below_set ?_ GE101.out) | exact HB.out)) hb); have n2_ := Aside0.mk (hbox); have n3_ := Aside0.mk ((by rw [hg]; exact (below_size (by repeat (first | (with_reducible first | exact HB.out | apply below_alloc | apply pw_below_drewN | apply below_drew1 | refine below_set ?_ GE101.out) | exact HB.out))) : w.heap.size ≤ gb102)); have n4_ := Aside0.mk ((by rw [hg]; exact (below_size (by repeat (first | (with_reducible first | exact HB.out | apply below_alloc | apply pw_below_drewN | apply below_drew1 | refine below_set ?_ GE101.out) | exact HB.out))) : w.heap.size ≤ gb102)); have n5_ := Aside0.mk ((by rw [hg]; exact Nat.ne_of_lt (blk_lt (g := gb101) (o := .cells #[.int .i64 a0_0, .int .i64 a0_1, .bool a0_2, .bool a0_3, .int .i64 a0_4, .int .i64 a0_5, .int .i64 a0_6, .int .u32 a0_7, .int .u32 a0_8, .slice A0_9 l0_9.length c0_9, .slice A0_10 l0_10.length c0_10] 45 (0, 0)) (by (with_reducible repeat (first | refine blk_drewN ?_ _ | refine blk_drew ?_ | refine blk_alloc ?_ _)); exact BK101.out)) : gb101 ≠ gb102)); have n6_ := Aside0.mk ((by rw [hg]; exact Nat.ne_of_gt (blk_lt (g := gb101) (o := .cells #[.int .i64 a0_0, .int .i64 a0_1, .bool a0_2, .bool a0_3, .int .i64 a0_4, .int .i64 a0_5, .int .i64 a0_6, .int .u32 a0_7, .int .u32 a0_8, .slice A0_9 l0_9.length c0_9, .slice A0_10 l0_10.length c0_10] 45 (0, 0)) (by (with_reducible repeat (first | refine blk_drewN ?_ _ | refine blk_drew ?_ | refine blk_alloc ?_ _)); exact BK101.out)) : gb102 ≠ gb101)); clear BK101; clear HB; have BK101 := n0_; have HB := n1_; have BK102 := n2_; have GW102 := n3_; have GE102 := n4_; have NB101_102 := n5_; have NB102_101 := n6_; clear n0_ n1_ n2_ n3_ n4_ n5_ n6_; clear hb hbox hg; have hnb31 := NB101_102.out; have hnc31 := NB102_101.out; have hcz32_0 : w30.cell? ⟨gb101, 0, none⟩ = some (.int .i64 a0_0) := (blk_cell BK101.out 0).trans rfl; have hcz32_1 : w30.cell? ⟨gb101, 1, none⟩ = some (.int .i64 a0_1) := (blk_cell BK101.out 1).trans rfl; have hcz32_2 : w30.cell? ⟨gb101, 2, none⟩ = some (.bool a0_2) := (blk_cell BK101.out 2).trans rfl; have hcz32_3 : w30.cell? ⟨gb101, 3, none⟩ = some (.bool a0_3) := (blk_cell BK101.out 3).trans rfl; have hcz32_4 : w30.cell? ⟨gb101, 4, none⟩ = some (.int .i64 a0_4) := (blk_cell BK101.out 4).trans rfl; have hcz32_5 : w30.cell? ⟨gb101, 5, none⟩ = some (.int .i64 a0_5) := (blk_cell BK101.out 5).trans rfl; have hcz32_6 : w30.cell? ⟨gb101, 6, none⟩ = some (.int .i64 a0_6) := (blk_cell BK101.out 6).trans rfl; have hcz32_7 : w30.cell? ⟨gb101, 7, none⟩ = some (.int .u32 a0_7) := (blk_cell BK101.out 7).trans rfl; have hcz32_8 : w30.cell? ⟨gb101, 8, none⟩ = some (.int .u32 a0_8) := (blk_cell BK101.out 8).trans rfl; have hcz32_9 : w30.cell? ⟨gb101, 9, none⟩ = some (.slice A0_9 l0_9.length c0_9) := (blk_cell BK101.out 9).trans rfl; have hcz32_10 : w30.cell? ⟨gb101, 10, none⟩ = some (.slice A0_10 l0_10.length c0_10) := (blk_cell BK101.out 10).trans rfl; have hfz32_0 := blk_frozen BK101.out 0; have hfz32_1 := blk_frozen BK101.out 1; have hfz32_2 := blk_frozen BK101.out 2; have hfz32_3 := blk_frozen BK101.out 3; have hfz32_4 := blk_frozen BK101.out 4; have hfz32_5 := blk_frozen BK101.out 5; have hfz32_6 := blk_frozen BK101.out 6; have hfz32_7 := blk_frozen BK101.out 7; have hfz32_8 := blk_frozen BK101.out 8; have hfz32_9 := blk_frozen BK101.out 9; have hfz32_10 := blk_frozen BK101.out 10; have hcz33_0 : w30.cell? ⟨gb102, 0, none⟩ = some (.int .i64 a1_0) := (blk_cell BK102.out 0).trans rfl; have hcz33_1 : w30.cell? ⟨gb102, 1, none⟩ = some (.int .i64 a1_1) := (blk_cell BK102.out 1).trans rfl; have hcz33_2 : w30.cell? ⟨gb102, 2, none⟩ = some (.bool a1_2) := (blk_cell BK102.out 2).trans rfl; have hcz33_3 : w30.cell? ⟨gb102, 3, none⟩ = some (.bool a1_3) := (blk_cell BK102.out 3).trans rfl; have hcz33_4 : w30.cell? ⟨gb102, 4, none⟩ = some (.int .i64 a1_4) := (blk_cell BK102.out 4).trans rfl; have hcz33_5 : w30.cell? ⟨gb102, 5, none⟩ = some (.int .i64 a1_5) := (blk_cell BK102.out 5).trans rfl; have hcz33_6 : w30.cell? ⟨gb102, 6, none⟩ = some (.int .i64 a1_6) := (blk_cell BK102.out 6).trans rfl; have hcz33_7 : w30.cell? ⟨gb102, 7, none⟩ = some (.int .u32 a1_7) := (blk_cell BK102.out 7).trans rfl; have hcz33_8 : w30.cell? ⟨gb102, 8, none⟩ = some (.int .u32 a1_8) := (blk_cell BK102.out 8).trans rfl; have hcz33_9 : w30.cell? ⟨gb102, 9, none⟩ = some (.slice A1_9 l1_9.length c1_9) := (blk_cell BK102.out 9).trans rfl; have hcz33_10 : w30.cell? ⟨gb102, 10, none⟩ = some (.slice A1_10 l1_10.length c1_10) := (blk_cell BK102.out 10).trans rfl; have hfz33_0 := blk_frozen BK102.out 0; have hfz33_1 := blk_frozen BK102.out 1; have hfz33_2 := blk_frozen BK102.out 2; have hfz33_3 := blk_frozen BK102.out 3; have hfz33_4 := blk_frozen BK102.out 4; have hfz33_5 := blk_frozen BK102.out 5; have hfz33_6 := blk_frozen BK102.out 6; have hfz33_7 := blk_frozen BK102.out 7; have hfz33_8 := blk_frozen BK102.out 8; have hfz33_9 := blk_frozen BK102.out 9; have hfz33_10 := blk_frozen BK102.out 10))
                    go_ret
                    exact ⟨by first | rfl | (simp [errW_none, errW_some] <;> rfl) | (simp [*, errW_none, errW_some] <;> rfl), by repeat (first | (with_reducible first | exact HB.out | apply below_alloc | apply pw_below_drewN | apply below_drew1 | refine below_set ?_ GE101.out | refine below_set ?_ GE102.out) | exact HB.out)⟩
                · rw [if_neg c10] at H
                  have c10b0 : (a0_7 == a1_7) = false := beq_eq_false_iff_ne.mpr c10
                  have c10b1 : (a0_7 != a1_7) = true := bne_iff_ne.mpr c10
                  obtain rfl := Option.some.inj H
                  go_enter Try.func26, Try.ntmps26
                  go_wp2_with (first | ((with_reducible refine gate_dst (N := 2) rfl ?_); refine box_event ?hg (N := 2) ?hd (cs := #[.int .i64 a0_0, .int .i64 a0_1, .bool a0_2, .bool a0_3, .int .i64 a0_4, .int .i64 a0_5, .int .i64 a0_6, .int .u32 a0_7, .int .u32 a0_8, .slice A0_9 l0_9.length c0_9, .slice A0_10 l0_10.length c0_10]) (t := 45) ?hr ?_; (case hd => rfl); (case hg => rfl); (case hr => first | (go_simp; done) | (go_simp; rfl)); intro gb101 hg w34 hbox hb; have n0_ := Aside0.mk (below_step (by repeat (first | (with_reducible first | exact HB.out | apply below_alloc | apply pw_below_drewN | apply below_drew1) | exact HB.out)) hb); have n1_ := Aside0.mk (hbox); have n2_ := Aside0.mk ((by rw [hg]; exact (below_size (by repeat (first | (with_reducible first | exact HB.out | apply below_alloc | apply pw_below_drewN | apply below_drew1) | exact HB.out))) : w.heap.size ≤ gb101)); have n3_ := Aside0.mk ((by rw [hg]; exact (below_size (by repeat (first | (with_reducible first | exact HB.out | apply below_alloc | apply pw_below_drewN | apply below_drew1) | exact HB.out))) : w.heap.size ≤ gb101)); clear HB; have HB := n0_; have BK101 := n1_; have GW101 := n2_; have GE101 := n3_; clear n0_ n1_ n2_ n3_; clear hb hbox hg) | ((with_reducible refine gate_dst (N := 3) rfl ?_); refine box_event ?hg (N := 3) ?hd (cs := #[.int .i64 a1_0, .int .i64 a1_1, .bool a1_2, .bool a1_3, .int .i64 a1_4, .int .i64 a1_5, .int .i64 a1_6, .int .u32 a1_7, .int .u32 a1_8, .slice A1_9 l1_9.length c1_9, .slice A1_10 l1_10.length c1_10]) (t := 45) ?hr ?_; (case hd => rfl); (case hg => rfl); (case hr => first | (go_simp; done) | (go_simp; rfl)); intro gb102 hg w35 hbox hb; have n0_ := Aside0.mk (blk_below (g := gb101) (o := .cells #[.int .i64 a0_0, .int .i64 a0_1, .bool a0_2, .bool a0_3, .int .i64 a0_4, .int .i64 a0_5, .int .i64 a0_6, .int .u32 a0_7, .int .u32 a0_8, .slice A0_9 l0_9.length c0_9, .slice A0_10 l0_10.length c0_10] 45 (0, 0)) (by (with_reducible repeat (first | refine blk_drewN ?_ _ | refine blk_drew ?_ | refine blk_alloc ?_ _)); exact BK101.out) hb); have n1_ := Aside0.mk (below_step (by repeat (first | (with_reducible first | exact HB.out | apply below_alloc | apply pw_below_drewN | apply below_drew1 | refine below_set ?_ GE101.out) | exact HB.out)) hb); have n2_ := Aside0.mk (hbox); have n3_ := Aside0.mk ((by rw [hg]; exact (below_size (by repeat (first | (with_reducible first | exact HB.out | apply below_alloc | apply pw_below_drewN | apply below_drew1 | refine below_set ?_ GE101.out) | exact HB.out))) : w.heap.size ≤ gb102)); have n4_ := Aside0.mk ((by rw [hg]; exact (below_size (by repeat (first | (with_reducible first | exact HB.out | apply below_alloc | apply pw_below_drewN | apply below_drew1 | refine below_set ?_ GE101.out) | exact HB.out))) : w.heap.size ≤ gb102)); have n5_ := Aside0.mk ((by rw [hg]; exact Nat.ne_of_lt (blk_lt (g := gb101) (o := .cells #[.int .i64 a0_0, .int .i64 a0_1, .bool a0_2, .bool a0_3, .int .i64 a0_4, .int .i64 a0_5, .int .i64 a0_6, .int .u32 a0_7, .int .u32 a0_8, .slice A0_9 l0_9.length c0_9, .slice A0_10 l0_10.length c0_10] 45 (0, 0)) (by (with_reducible repeat (first | refine blk_drewN ?_ _ | refine blk_drew ?_ | refine blk_alloc ?_ _)); exact BK101.out)) : gb101 ≠ gb102)); have n6_ := Aside0.mk ((by rw [hg]; exact Nat.ne_of_gt (blk_lt (g := gb101) (o := .cells #[.int .i64 a0_0, .int .i64 a0_1, .bool a0_2, .bool a0_3, .int .i64 a0_4, .int .i64 a0_5, .int .i64 a0_6, .int .u32 a0_7, .int .u32 a0_8, .slice A0_9 l0_9.length c0_9, .slice A0_10 l0_10.length c0_10] 45 (0, 0)) (by (with_reducible repeat (first | refine blk_drewN ?_ _ | refine blk_drew ?_ | refine blk_alloc ?_ _)); exact BK101.out)) : gb102 ≠ gb101)); clear BK101; clear HB; have BK101 := n0_; have HB := n1_; have BK102 := n2_; have GW102 := n3_; have GE102 := n4_; have NB101_102 := n5_; have NB102_101 := n6_; clear n0_ n1_ n2_ n3_ n4_ n5_ n6_; clear hb hbox hg; have hnb36 := NB101_102.out; have hnc36 := NB102_101.out; have hcz37_0 : w35.cell? ⟨gb101, 0, none⟩ = some (.int .i64 a0_0) := (blk_cell BK101.out 0).trans rfl; have hcz37_1 : w35.cell? ⟨gb101, 1, none⟩ = some (.int .i64 a0_1) := (blk_cell BK101.out 1).trans rfl; have hcz37_2 : w35.cell? ⟨gb101, 2, none⟩ = some (.bool a0_2) := (blk_cell BK101.out 2).trans rfl; have hcz37_3 : w35.cell? ⟨gb101, 3, none⟩ = some (.bool a0_3) := (blk_cell BK101.out 3).trans rfl; have hcz37_4 : w35.cell? ⟨gb101, 4, none⟩ = some (.int .i64 a0_4) := (blk_cell BK101.out 4).trans rfl; have hcz37_5 : w35.cell? ⟨gb101, 5, none⟩ = some (.int .i64 a0_5) := (blk_cell BK101.out 5).trans rfl; have hcz37_6 : w35.cell? ⟨gb101, 6, none⟩ = some (.int .i64 a0_6) := (blk_cell BK101.out 6).trans rfl; have hcz37_7 : w35.cell? ⟨gb101, 7, none⟩ = some (.int .u32 a0_7) := (blk_cell BK101.out 7).trans rfl; have hcz37_8 : w35.cell? ⟨gb101, 8, none⟩ = some (.int .u32 a0_8) := (blk_cell BK101.out 8).trans rfl; have hcz37_9 : w35.cell? ⟨gb101, 9, none⟩ = some (.slice A0_9 l0_9.length c0_9) := (blk_cell BK101.out 9).trans rfl; have hcz37_10 : w35.cell? ⟨gb101, 10, none⟩ = some (.slice A0_10 l0_10.length c0_10) := (blk_cell BK101.out 10).trans rfl; have hfz37_0 := blk_frozen BK101.out 0; have hfz37_1 := blk_frozen BK101.out 1; have hfz37_2 := blk_frozen BK101.out 2; have hfz37_3 := blk_frozen BK101.out 3; have hfz37_4 := blk_frozen BK101.out 4; have hfz37_5 := blk_frozen BK101.out 5; have hfz37_6 := blk_frozen BK101.out 6; have hfz37_7 := blk_frozen BK101.out 7; have hfz37_8 := blk_frozen BK101.out 8; have hfz37_9 := blk_frozen BK101.out 9; have hfz37_10 := blk_frozen BK101.out 10; have hcz38_0 : w35.cell? ⟨gb102, 0, none⟩ = some (.int .i64 a1_0) := (blk_cell BK102.out 0).trans rfl; have hcz38_1 : w35.cell? ⟨gb102, 1, none⟩ = some (.int .i64 a1_1) := (blk_cell BK102.out 1).trans rfl; have hcz38_2 : w35.cell? ⟨gb102, 2, none⟩ = some (.bool a1_2) := (blk_cell BK102.out 2).trans rfl; have hcz38_3 : w35.cell? ⟨gb102, 3, none⟩ = some (.bool a1_3) := (blk_cell BK102.out 3).trans rfl; have hcz38_4 : w35.cell? ⟨gb102, 4, none⟩ = some (.int .i64 a1_4) := (blk_cell BK102.out 4).trans rfl; have hcz38_5 : w35.cell? ⟨gb102, 5, none⟩ = some (.int .i64 a1_5) := (blk_cell BK102.out 5).trans rfl; have hcz38_6 : w35.cell? ⟨gb102, 6, none⟩ = some (.int .i64 a1_6) := (blk_cell BK102.out 6).trans rfl; have hcz38_7 : w35.cell? ⟨gb102, 7, none⟩ = some (.int .u32 a1_7) := (blk_cell BK102.out 7).trans rfl; have hcz38_8 : w35.cell? ⟨gb102, 8, none⟩ = some (.int .u32 a1_8) := (blk_cell BK102.out 8).trans rfl; have hcz38_9 : w35.cell? ⟨gb102, 9, none⟩ = some (.slice A1_9 l1_9.length c1_9) := (blk_cell BK102.out 9).trans rfl; have hcz38_10 : w35.cell? ⟨gb102, 10, none⟩ = some (.slice A1_10 l1_10.length c1_10) := (blk_cell BK102.out 10).trans rfl; have hfz38_0 := blk_frozen BK102.out 0; have hfz38_1 := blk_frozen BK102.out 1; have hfz38_2 := blk_frozen BK102.out 2; have hfz38_3 := blk_frozen BK102.out 3; have hfz38_4 := blk_frozen BK102.out 4; have hfz38_5 := blk_frozen BK102.out 5; have hfz38_6 := blk_frozen BK102.out 6; have hfz38_7 := blk_frozen BK102.out 7; have hfz38_8 := blk_frozen BK102.out 8; have hfz38_9 := blk_frozen BK102.out 9; have hfz38_10 := blk_frozen BK102.out 10))
                  go_ret
                  exact ⟨by first | rfl | (simp [errW_none, errW_some] <;> rfl) | (simp [*, errW_none, errW_some] <;> rfl), by repeat (first | (with_reducible first | exact HB.out | apply below_alloc | apply pw_below_drewN | apply below_drew1 | refine below_set ?_ GE101.out | refine below_set ?_ GE102.out) | exact HB.out)⟩
              · rw [if_neg c9] at H
                have c9b0 : (a0_6 == a1_6) = false := beq_eq_false_iff_ne.mpr c9
                have c9b1 : (a0_6 != a1_6) = true := bne_iff_ne.mpr c9
                obtain rfl := Option.some.inj H
                go_enter Try.func26, Try.ntmps26
                go_wp2_with (first | ((with_reducible refine gate_dst (N := 2) rfl ?_); refine box_event ?hg (N := 2) ?hd (cs := #[.int .i64 a0_0, .int .i64 a0_1, .bool a0_2, .bool a0_3, .int .i64 a0_4, .int .i64 a0_5, .int .i64 a0_6, .int .u32 a0_7, .int .u32 a0_8, .slice A0_9 l0_9.length c0_9, .slice A0_10 l0_10.length c0_10]) (t := 45) ?hr ?_; (case hd => rfl); (case hg => rfl); (case hr => first | (go_simp; done) | (go_simp; rfl)); intro gb101 hg w39 hbox hb; have n0_ := Aside0.mk (below_step (by repeat (first | (with_reducible first | exact HB.out | apply below_alloc | apply pw_below_drewN | apply below_drew1) | exact HB.out)) hb); have n1_ := Aside0.mk (hbox); have n2_ := Aside0.mk ((by rw [hg]; exact (below_size (by repeat (first | (with_reducible first | exact HB.out | apply below_alloc | apply pw_below_drewN | apply below_drew1) | exact HB.out))) : w.heap.size ≤ gb101)); have n3_ := Aside0.mk ((by rw [hg]; exact (below_size (by repeat (first | (with_reducible first | exact HB.out | apply below_alloc | apply pw_below_drewN | apply below_drew1) | exact HB.out))) : w.heap.size ≤ gb101)); clear HB; have HB := n0_; have BK101 := n1_; have GW101 := n2_; have GE101 := n3_; clear n0_ n1_ n2_ n3_; clear hb hbox hg) | ((with_reducible refine gate_dst (N := 3) rfl ?_); refine box_event ?hg (N := 3) ?hd (cs := #[.int .i64 a1_0, .int .i64 a1_1, .bool a1_2, .bool a1_3, .int .i64 a1_4, .int .i64 a1_5, .int .i64 a1_6, .int .u32 a1_7, .int .u32 a1_8, .slice A1_9 l1_9.length c1_9, .slice A1_10 l1_10.length c1_10]) (t := 45) ?hr ?_; (case hd => rfl); (case hg => rfl); (case hr => first | (go_simp; done) | (go_simp; rfl)); intro gb102 hg w40 hbox hb; have n0_ := Aside0.mk (blk_below (g := gb101) (o := .cells #[.int .i64 a0_0, .int .i64 a0_1, .bool a0_2, .bool a0_3, .int .i64 a0_4, .int .i64 a0_5, .int .i64 a0_6, .int .u32 a0_7, .int .u32 a0_8, .slice A0_9 l0_9.length c0_9, .slice A0_10 l0_10.length c0_10] 45 (0, 0)) (by (with_reducible repeat (first | refine blk_drewN ?_ _ | refine blk_drew ?_ | refine blk_alloc ?_ _)); exact BK101.out) hb); have n1_ := Aside0.mk (below_step (by repeat (first | (with_reducible first | exact HB.out | apply below_alloc | apply pw_below_drewN | apply below_drew1 | refine below_set ?_ GE101.out) | exact HB.out)) hb); have n2_ := Aside0.mk (hbox); have n3_ := Aside0.mk ((by rw [hg]; exact (below_size (by repeat (first | (with_reducible first | exact HB.out | apply below_alloc | apply pw_below_drewN | apply below_drew1 | refine below_set ?_ GE101.out) | exact HB.out))) : w.heap.size ≤ gb102)); have n4_ := Aside0.mk ((by rw [hg]; exact (below_size (by repeat (first | (with_reducible first | exact HB.out | apply below_alloc | apply pw_below_drewN | apply below_drew1 | refine below_set ?_ GE101.out) | exact HB.out))) : w.heap.size ≤ gb102)); have n5_ := Aside0.mk ((by rw [hg]; exact Nat.ne_of_lt (blk_lt (g := gb101) (o := .cells #[.int .i64 a0_0, .int .i64 a0_1, .bool a0_2, .bool a0_3, .int .i64 a0_4, .int .i64 a0_5, .int .i64 a0_6, .int .u32 a0_7, .int .u32 a0_8, .slice A0_9 l0_9.length c0_9, .slice A0_10 l0_10.length c0_10] 45 (0, 0)) (by (with_reducible repeat (first | refine blk_drewN ?_ _ | refine blk_drew ?_ | refine blk_alloc ?_ _)); exact BK101.out)) : gb101 ≠ gb102)); have n6_ := Aside0.mk ((by rw [hg]; exact Nat.ne_of_gt (blk_lt (g := gb101) (o := .cells #[.int .i64 a0_0, .int .i64 a0_1, .bool a0_2, .bool a0_3, .int .i64 a0_4, .int .i64 a0_5, .int .i64 a0_6, .int .u32 a0_7, .int .u32 a0_8, .slice A0_9 l0_9.length c0_9, .slice A0_10 l0_10.length c0_10] 45 (0, 0)) (by (with_reducible repeat (first | refine blk_drewN ?_ _ | refine blk_drew ?_ | refine blk_alloc ?_ _)); exact BK101.out)) : gb102 ≠ gb101)); clear BK101; clear HB; have BK101 := n0_; have HB := n1_; have BK102 := n2_; have GW102 := n3_; have GE102 := n4_; have NB101_102 := n5_; have NB102_101 := n6_; clear n0_ n1_ n2_ n3_ n4_ n5_ n6_; clear hb hbox hg; have hnb41 := NB101_102.out; have hnc41 := NB102_101.out; have hcz42_0 : w40.cell? ⟨gb101, 0, none⟩ = some (.int .i64 a0_0) := (blk_cell BK101.out 0).trans rfl; have hcz42_1 : w40.cell? ⟨gb101, 1, none⟩ = some (.int .i64 a0_1) := (blk_cell BK101.out 1).trans rfl; have hcz42_2 : w40.cell? ⟨gb101, 2, none⟩ = some (.bool a0_2) := (blk_cell BK101.out 2).trans rfl; have hcz42_3 : w40.cell? ⟨gb101, 3, none⟩ = some (.bool a0_3) := (blk_cell BK101.out 3).trans rfl; have hcz42_4 : w40.cell? ⟨gb101, 4, none⟩ = some (.int .i64 a0_4) := (blk_cell BK101.out 4).trans rfl; have hcz42_5 : w40.cell? ⟨gb101, 5, none⟩ = some (.int .i64 a0_5) := (blk_cell BK101.out 5).trans rfl; have hcz42_6 : w40.cell? ⟨gb101, 6, none⟩ = some (.int .i64 a0_6) := (blk_cell BK101.out 6).trans rfl; have hcz42_7 : w40.cell? ⟨gb101, 7, none⟩ = some (.int .u32 a0_7) := (blk_cell BK101.out 7).trans rfl; have hcz42_8 : w40.cell? ⟨gb101, 8, none⟩ = some (.int .u32 a0_8) := (blk_cell BK101.out 8).trans rfl; have hcz42_9 : w40.cell? ⟨gb101, 9, none⟩ = some (.slice A0_9 l0_9.length c0_9) := (blk_cell BK101.out 9).trans rfl; have hcz42_10 : w40.cell? ⟨gb101, 10, none⟩ = some (.slice A0_10 l0_10.length c0_10) := (blk_cell BK101.out 10).trans rfl; have hfz42_0 := blk_frozen BK101.out 0; have hfz42_1 := blk_frozen BK101.out 1; have hfz42_2 := blk_frozen BK101.out 2; have hfz42_3 := blk_frozen BK101.out 3; have hfz42_4 := blk_frozen BK101.out 4; have hfz42_5 := blk_frozen BK101.out 5; have hfz42_6 := blk_frozen BK101.out 6; have hfz42_7 := blk_frozen BK101.out 7; have hfz42_8 := blk_frozen BK101.out 8; have hfz42_9 := blk_frozen BK101.out 9; have hfz42_10 := blk_frozen BK101.out 10; have hcz43_0 : w40.cell? ⟨gb102, 0, none⟩ = some (.int .i64 a1_0) := (blk_cell BK102.out 0).trans rfl; have hcz43_1 : w40.cell? ⟨gb102, 1, none⟩ = some (.int .i64 a1_1) := (blk_cell BK102.out 1).trans rfl; have hcz43_2 : w40.cell? ⟨gb102, 2, none⟩ = some (.bool a1_2) := (blk_cell BK102.out 2).trans rfl; have hcz43_3 : w40.cell? ⟨gb102, 3, none⟩ = some (.bool a1_3) := (blk_cell BK102.out 3).trans rfl; have hcz43_4 : w40.cell? ⟨gb102, 4, none⟩ = some (.int .i64 a1_4) := (blk_cell BK102.out 4).trans rfl; have hcz43_5 : w40.cell? ⟨gb102, 5, none⟩ = some (.int .i64 a1_5) := (blk_cell BK102.out 5).trans rfl; have hcz43_6 : w40.cell? ⟨gb102, 6, none⟩ = some (.int .i64 a1_6) := (blk_cell BK102.out 6).trans rfl; have hcz43_7 : w40.cell? ⟨gb102, 7, none⟩ = some (.int .u32 a1_7) := (blk_cell BK102.out 7).trans rfl; have hcz43_8 : w40.cell? ⟨gb102, 8, none⟩ = some (.int .u32 a1_8) := (blk_cell BK102.out 8).trans rfl; have hcz43_9 : w40.cell? ⟨gb102, 9, none⟩ = some (.slice A1_9 l1_9.length c1_9) := (blk_cell BK102.out 9).trans rfl; have hcz43_10 : w40.cell? ⟨gb102, 10, none⟩ = some (.slice A1_10 l1_10.length c1_10) := (blk_cell BK102.out 10).trans rfl; have hfz43_0 := blk_frozen BK102.out 0; have hfz43_1 := blk_frozen BK102.out 1; have hfz43_2 := blk_frozen BK102.out 2; have hfz43_3 := blk_frozen BK102.out 3; have hfz43_4 := blk_frozen BK102.out 4; have hfz43_5 := blk_frozen BK102.out 5; have hfz43_6 := blk_frozen BK102.out 6; have hfz43_7 := blk_frozen BK102.out 7; have hfz43_8 := blk_frozen BK102.out 8; have hfz43_9 := blk_frozen BK102.out 9; have hfz43_10 := blk_frozen BK102.out 10))
                go_ret
                exact ⟨by first | rfl | (simp [errW_none, errW_some] <;> rfl) | (simp [*, errW_none, errW_some] <;> rfl), by repeat (first | (with_reducible first | exact HB.out | apply below_alloc | apply pw_below_drewN | apply below_drew1 | refine below_set ?_ GE101.out | refine below_set ?_ GE102.out) | exact HB.out)⟩
            · rw [if_neg c8] at H
              have c8b0 : (a0_5 == a1_5) = false := beq_eq_false_iff_ne.mpr c8
              have c8b1 : (a0_5 != a1_5) = true := bne_iff_ne.mpr c8
              obtain rfl := Option.some.inj H
              go_enter Try.func26, Try.ntmps26
              go_wp2_with (first | ((with_reducible refine gate_dst (N := 2) rfl ?_); refine box_event ?hg (N := 2) ?hd (cs := #[.int .i64 a0_0, .int .i64 a0_1, .bool a0_2, .bool a0_3, .int .i64 a0_4, .int .i64 a0_5, .int .i64 a0_6, .int .u32 a0_7, .int .u32 a0_8, .slice A0_9 l0_9.length c0_9, .slice A0_10 l0_10.length c0_10]) (t := 45) ?hr ?_; (case hd => rfl); (case hg => rfl); (case hr => first | (go_simp; done) | (go_simp; rfl)); intro gb101 hg w44 hbox hb; have n0_ := Aside0.mk (below_step (by repeat (first | (with_reducible first | exact HB.out | apply below_alloc | apply pw_below_drewN | apply below_drew1) | exact HB.out)) hb); have n1_ := Aside0.mk (hbox); have n2_ := Aside0.mk ((by rw [hg]; exact (below_size (by repeat (first | (with_reducible first | exact HB.out | apply below_alloc | apply pw_below_drewN | apply below_drew1) | exact HB.out))) : w.heap.size ≤ gb101)); have n3_ := Aside0.mk ((by rw [hg]; exact (below_size (by repeat (first | (with_reducible first | exact HB.out | apply below_alloc | apply pw_below_drewN | apply below_drew1) | exact HB.out))) : w.heap.size ≤ gb101)); clear HB; have HB := n0_; have BK101 := n1_; have GW101 := n2_; have GE101 := n3_; clear n0_ n1_ n2_ n3_; clear hb hbox hg) | ((with_reducible refine gate_dst (N := 3) rfl ?_); refine box_event ?hg (N := 3) ?hd (cs := #[.int .i64 a1_0, .int .i64 a1_1, .bool a1_2, .bool a1_3, .int .i64 a1_4, .int .i64 a1_5, .int .i64 a1_6, .int .u32 a1_7, .int .u32 a1_8, .slice A1_9 l1_9.length c1_9, .slice A1_10 l1_10.length c1_10]) (t := 45) ?hr ?_; (case hd => rfl); (case hg => rfl); (case hr => first | (go_simp; done) | (go_simp; rfl)); intro gb102 hg w45 hbox hb; have n0_ := Aside0.mk (blk_below (g := gb101) (o := .cells #[.int .i64 a0_0, .int .i64 a0_1, .bool a0_2, .bool a0_3, .int .i64 a0_4, .int .i64 a0_5, .int .i64 a0_6, .int .u32 a0_7, .int .u32 a0_8, .slice A0_9 l0_9.length c0_9, .slice A0_10 l0_10.length c0_10] 45 (0, 0)) (by (with_reducible repeat (first | refine blk_drewN ?_ _ | refine blk_drew ?_ | refine blk_alloc ?_ _)); exact BK101.out) hb); have n1_ := Aside0.mk (below_step (by repeat (first | (with_reducible first | exact HB.out | apply below_alloc | apply pw_below_drewN | apply below_drew1 | refine below_set ?_ GE101.out) | exact HB.out)) hb); have n2_ := Aside0.mk (hbox); have n3_ := Aside0.mk ((by rw [hg]; exact (below_size (by repeat (first | (with_reducible first | exact HB.out | apply below_alloc | apply pw_below_drewN | apply below_drew1 | refine below_set ?_ GE101.out) | exact HB.out))) : w.heap.size ≤ gb102)); have n4_ := Aside0.mk ((by rw [hg]; exact (below_size (by repeat (first | (with_reducible first | exact HB.out | apply below_alloc | apply pw_below_drewN | apply below_drew1 | refine below_set ?_ GE101.out) | exact HB.out))) : w.heap.size ≤ gb102)); have n5_ := Aside0.mk ((by rw [hg]; exact Nat.ne_of_lt (blk_lt (g := gb101) (o := .cells #[.int .i64 a0_0, .int .i64 a0_1, .bool a0_2, .bool a0_3, .int .i64 a0_4, .int .i64 a0_5, .int .i64 a0_6, .int .u32 a0_7, .int .u32 a0_8, .slice A0_9 l0_9.length c0_9, .slice A0_10 l0_10.length c0_10] 45 (0, 0)) (by (with_reducible repeat (first | refine blk_drewN ?_ _ | refine blk_drew ?_ | refine blk_alloc ?_ _)); exact BK101.out)) : gb101 ≠ gb102)); have n6_ := Aside0.mk ((by rw [hg]; exact Nat.ne_of_gt (blk_lt (g := gb101) (o := .cells #[.int .i64 a0_0, .int .i64 a0_1, .bool a0_2, .bool a0_3, .int .i64 a0_4, .int .i64 a0_5, .int .i64 a0_6, .int .u32 a0_7, .int .u32 a0_8, .slice A0_9 l0_9.length c0_9, .slice A0_10 l0_10.length c0_10] 45 (0, 0)) (by (with_reducible repeat (first | refine blk_drewN ?_ _ | refine blk_drew ?_ | refine blk_alloc ?_ _)); exact BK101.out)) : gb102 ≠ gb101)); clear BK101; clear HB; have BK101 := n0_; have HB := n1_; have BK102 := n2_; have GW102 := n3_; have GE102 := n4_; have NB101_102 := n5_; have NB102_101 := n6_; clear n0_ n1_ n2_ n3_ n4_ n5_ n6_; clear hb hbox hg; have hnb46 := NB101_102.out; have hnc46 := NB102_101.out; have hcz47_0 : w45.cell? ⟨gb101, 0, none⟩ = some (.int .i64 a0_0) := (blk_cell BK101.out 0).trans rfl; have hcz47_1 : w45.cell? ⟨gb101, 1, none⟩ = some (.int .i64 a0_1) := (blk_cell BK101.out 1).trans rfl; have hcz47_2 : w45.cell? ⟨gb101, 2, none⟩ = some (.bool a0_2) := (blk_cell BK101.out 2).trans rfl; have hcz47_3 : w45.cell? ⟨gb101, 3, none⟩ = some (.bool a0_3) := (blk_cell BK101.out 3).trans rfl; have hcz47_4 : w45.cell? ⟨gb101, 4, none⟩ = some (.int .i64 a0_4) := (blk_cell BK101.out 4).trans rfl; have hcz47_5 : w45.cell? ⟨gb101, 5, none⟩ = some (.int .i64 a0_5) := (blk_cell BK101.out 5).trans rfl; have hcz47_6 : w45.cell? ⟨gb101, 6, none⟩ = some (.int .i64 a0_6) := (blk_cell BK101.out 6).trans rfl; have hcz47_7 : w45.cell? ⟨gb101, 7, none⟩ = some (.int .u32 a0_7) := (blk_cell BK101.out 7).trans rfl; have hcz47_8 : w45.cell? ⟨gb101, 8, none⟩ = some (.int .u32 a0_8) := (blk_cell BK101.out 8).trans rfl; have hcz47_9 : w45.cell? ⟨gb101, 9, none⟩ = some (.slice A0_9 l0_9.length c0_9) := (blk_cell BK101.out 9).trans rfl; have hcz47_10 : w45.cell? ⟨gb101, 10, none⟩ = some (.slice A0_10 l0_10.length c0_10) := (blk_cell BK101.out 10).trans rfl; have hfz47_0 := blk_frozen BK101.out 0; have hfz47_1 := blk_frozen BK101.out 1; have hfz47_2 := blk_frozen BK101.out 2; have hfz47_3 := blk_frozen BK101.out 3; have hfz47_4 := blk_frozen BK101.out 4; have hfz47_5 := blk_frozen BK101.out 5; have hfz47_6 := blk_frozen BK101.out 6; have hfz47_7 := blk_frozen BK101.out 7; have hfz47_8 := blk_frozen BK101.out 8; have hfz47_9 := blk_frozen BK101.out 9; have hfz47_10 := blk_frozen BK101.out 10; have hcz48_0 : w45.cell? ⟨gb102, 0, none⟩ = some (.int .i64 a1_0) := (blk_cell BK102.out 0).trans rfl; have hcz48_1 : w45.cell? ⟨gb102, 1, none⟩ = some (.int .i64 a1_1) := (blk_cell BK102.out 1).trans rfl; have hcz48_2 : w45.cell? ⟨gb102, 2, none⟩ = some (.bool a1_2) := (blk_cell BK102.out 2).trans rfl; have hcz48_3 : w45.cell? ⟨gb102, 3, none⟩ = some (.bool a1_3) := (blk_cell BK102.out 3).trans rfl; have hcz48_4 : w45.cell? ⟨gb102, 4, none⟩ = some (.int .i64 a1_4) := (blk_cell BK102.out 4).trans rfl; have hcz48_5 : w45.cell? ⟨gb102, 5, none⟩ = some (.int .i64 a1_5) := (blk_cell BK102.out 5).trans rfl; have hcz48_6 : w45.cell? ⟨gb102, 6, none⟩ = some (.int .i64 a1_6) := (blk_cell BK102.out 6).trans rfl; have hcz48_7 : w45.cell? ⟨gb102, 7, none⟩ = some (.int .u32 a1_7) := (blk_cell BK102.out 7).trans rfl; have hcz48_8 : w45.cell? ⟨gb102, 8, none⟩ = some (.int .u32 a1_8) := (blk_cell BK102.out 8).trans rfl; have hcz48_9 : w45.cell? ⟨gb102, 9, none⟩ = some (.slice A1_9 l1_9.length c1_9) := (blk_cell BK102.out 9).trans rfl; have hcz48_10 : w45.cell? ⟨gb102, 10, none⟩ = some (.slice A1_10 l1_10.length c1_10) := (blk_cell BK102.out 10).trans rfl; have hfz48_0 := blk_frozen BK102.out 0; have hfz48_1 := blk_frozen BK102.out 1; have hfz48_2 := blk_frozen BK102.out 2; have hfz48_3 := blk_frozen BK102.out 3; have hfz48_4 := blk_frozen BK102.out 4; have hfz48_5 := blk_frozen BK102.out 5; have hfz48_6 := blk_frozen BK102.out 6; have hfz48_7 := blk_frozen BK102.out 7; have hfz48_8 := blk_frozen BK102.out 8; have hfz48_9 := blk_frozen BK102.out 9; have hfz48_10 := blk_frozen BK102.out 10))
              go_ret
              exact ⟨by first | rfl | (simp [errW_none, errW_some] <;> rfl) | (simp [*, errW_none, errW_some] <;> rfl), by repeat (first | (with_reducible first | exact HB.out | apply below_alloc | apply pw_below_drewN | apply below_drew1 | refine below_set ?_ GE101.out | refine below_set ?_ GE102.out) | exact HB.out)⟩
          · rw [if_neg c7] at H
            have c7b0 : (a0_4 == a1_4) = false := beq_eq_false_iff_ne.mpr c7
            have c7b1 : (a0_4 != a1_4) = true := bne_iff_ne.mpr c7
            obtain rfl := Option.some.inj H
            go_enter Try.func26, Try.ntmps26
            go_wp2_with (first | ((with_reducible refine gate_dst (N := 2) rfl ?_); refine box_event ?hg (N := 2) ?hd (cs := #[.int .i64 a0_0, .int .i64 a0_1, .bool a0_2, .bool a0_3, .int .i64 a0_4, .int .i64 a0_5, .int .i64 a0_6, .int .u32 a0_7, .int .u32 a0_8, .slice A0_9 l0_9.length c0_9, .slice A0_10 l0_10.length c0_10]) (t := 45) ?hr ?_; (case hd => rfl); (case hg => rfl); (case hr => first | (go_simp; done) | (go_simp; rfl)); intro gb101 hg w49 hbox hb; have n0_ := Aside0.mk (below_step (by repeat (first | (with_reducible first | exact HB.out | apply below_alloc | apply pw_below_drewN | apply below_drew1) | exact HB.out)) hb); have n1_ := Aside0.mk (hbox); have n2_ := Aside0.mk ((by rw [hg]; exact (below_size (by repeat (first | (with_reducible first | exact HB.out | apply below_alloc | apply pw_below_drewN | apply below_drew1) | exact HB.out))) : w.heap.size ≤ gb101)); have n3_ := Aside0.mk ((by rw [hg]; exact (below_size (by repeat (first | (with_reducible first | exact HB.out | apply below_alloc | apply pw_below_drewN | apply below_drew1) | exact HB.out))) : w.heap.size ≤ gb101)); clear HB; have HB := n0_; have BK101 := n1_; have GW101 := n2_; have GE101 := n3_; clear n0_ n1_ n2_ n3_; clear hb hbox hg) | ((with_reducible refine gate_dst (N := 3) rfl ?_); refine box_event ?hg (N := 3) ?hd (cs := #[.int .i64 a1_0, .int .i64 a1_1, .bool a1_2, .bool a1_3, .int .i64 a1_4, .int .i64 a1_5, .int .i64 a1_6, .int .u32 a1_7, .int .u32 a1_8, .slice A1_9 l1_9.length c1_9, .slice A1_10 l1_10.length c1_10]) (t := 45) ?hr ?_; (case hd => rfl); (case hg => rfl); (case hr => first | (go_simp; done) | (go_simp; rfl)); intro gb102 hg w50 hbox hb; have n0_ := Aside0.mk (blk_below (g := gb101) (o := .cells #[.int .i64 a0_0, .int .i64 a0_1, .bool a0_2, .bool a0_3, .int .i64 a0_4, .int .i64 a0_5, .int .i64 a0_6, .int .u32 a0_7, .int .u32 a0_8, .slice A0_9 l0_9.length c0_9, .slice A0_10 l0_10.length c0_10] 45 (0, 0)) (by (with_reducible repeat (first | refine blk_drewN ?_ _ | refine blk_drew ?_ | refine blk_alloc ?_ _)); exact BK101.out) hb); have n1_ := Aside0.mk (below_step (by repeat (first | (with_reducible first | exact HB.out | apply below_alloc | apply pw_below_drewN | apply below_drew1 | refine below_set ?_ GE101.out) | exact HB.out)) hb); have n2_ := Aside0.mk (hbox); have n3_ := Aside0.mk ((by rw [hg]; exact (below_size (by repeat (first | (with_reducible first | exact HB.out | apply below_alloc | apply pw_below_drewN | apply below_drew1 | refine below_set ?_ GE101.out) | exact HB.out))) : w.heap.size ≤ gb102)); have n4_ := Aside0.mk ((by rw [hg]; exact (below_size (by repeat (first | (with_reducible first | exact HB.out | apply below_alloc | apply pw_below_drewN | apply below_drew1 | refine below_set ?_ GE101.out) | exact HB.out))) : w.heap.size ≤ gb102)); have n5_ := Aside0.mk ((by rw [hg]; exact Nat.ne_of_lt (blk_lt (g := gb101) (o := .cells #[.int .i64 a0_0, .int .i64 a0_1, .bool a0_2, .bool a0_3, .int .i64 a0_4, .int .i64 a0_5, .int .i64 a0_6, .int .u32 a0_7, .int .u32 a0_8, .slice A0_9 l0_9.length c0_9, .slice A0_10 l0_10.length c0_10] 45 (0, 0)) (by (with_reducible repeat (first | refine blk_drewN ?_ _ | refine blk_drew ?_ | refine blk_alloc ?_ _)); exact BK101.out)) : gb101 ≠ gb102)); have n6_ := Aside0.mk ((by rw [hg]; exact Nat.ne_of_gt (blk_lt (g := gb101) (o := .cells #[.int .i64 a0_0, .int .i64 a0_1, .bool a0_2, .bool a0_3, .int .i64 a0_4, .int .i64 a0_5, .int .i64 a0_6, .int .u32 a0_7, .int .u32 a0_8, .slice A0_9 l0_9.length c0_9, .slice A0_10 l0_10.length c0_10] 45 (0, 0)) (by (with_reducible repeat (first | refine blk_drewN ?_ _ | refine blk_drew ?_ | refine blk_alloc ?_ _)); exact BK101.out)) : gb102 ≠ gb101)); clear BK101; clear HB; have BK101 := n0_; have HB := n1_; have BK102 := n2_; have GW102 := n3_; have GE102 := n4_; have NB101_102 := n5_; have NB102_101 := n6_; clear n0_ n1_ n2_ n3_ n4_ n5_ n6_; clear hb hbox hg; have hnb51 := NB101_102.out; have hnc51 := NB102_101.out; have hcz52_0 : w50.cell? ⟨gb101, 0, none⟩ = some (.int .i64 a0_0) := (blk_cell BK101.out 0).trans rfl; have hcz52_1 : w50.cell? ⟨gb101, 1, none⟩ = some (.int .i64 a0_1) := (blk_cell BK101.out 1).trans rfl; have hcz52_2 : w50.cell? ⟨gb101, 2, none⟩ = some (.bool a0_2) := (blk_cell BK101.out 2).trans rfl; have hcz52_3 : w50.cell? ⟨gb101, 3, none⟩ = some (.bool a0_3) := (blk_cell BK101.out 3).trans rfl; have hcz52_4 : w50.cell? ⟨gb101, 4, none⟩ = some (.int .i64 a0_4) := (blk_cell BK101.out 4).trans rfl; have hcz52_5 : w50.cell? ⟨gb101, 5, none⟩ = some (.int .i64 a0_5) := (blk_cell BK101.out 5).trans rfl; have hcz52_6 : w50.cell? ⟨gb101, 6, none⟩ = some (.int .i64 a0_6) := (blk_cell BK101.out 6).trans rfl; have hcz52_7 : w50.cell? ⟨gb101, 7, none⟩ = some (.int .u32 a0_7) := (blk_cell BK101.out 7).trans rfl; have hcz52_8 : w50.cell? ⟨gb101, 8, none⟩ = some (.int .u32 a0_8) := (blk_cell BK101.out 8).trans rfl; have hcz52_9 : w50.cell? ⟨gb101, 9, none⟩ = some (.slice A0_9 l0_9.length c0_9) := (blk_cell BK101.out 9).trans rfl; have hcz52_10 : w50.cell? ⟨gb101, 10, none⟩ = some (.slice A0_10 l0_10.length c0_10) := (blk_cell BK101.out 10).trans rfl; have hfz52_0 := blk_frozen BK101.out 0; have hfz52_1 := blk_frozen BK101.out 1; have hfz52_2 := blk_frozen BK101.out 2; have hfz52_3 := blk_frozen BK101.out 3; have hfz52_4 := blk_frozen BK101.out 4; have hfz52_5 := blk_frozen BK101.out 5; have hfz52_6 := blk_frozen BK101.out 6; have hfz52_7 := blk_frozen BK101.out 7; have hfz52_8 := blk_frozen BK101.out 8; have hfz52_9 := blk_frozen BK101.out 9; have hfz52_10 := blk_frozen BK101.out 10; have hcz53_0 : w50.cell? ⟨gb102, 0, none⟩ = some (.int .i64 a1_0) := (blk_cell BK102.out 0).trans rfl; have hcz53_1 : w50.cell? ⟨gb102, 1, none⟩ = some (.int .i64 a1_1) := (blk_cell BK102.out 1).trans rfl; have hcz53_2 : w50.cell? ⟨gb102, 2, none⟩ = some (.bool a1_2) := (blk_cell BK102.out 2).trans rfl; have hcz53_3 : w50.cell? ⟨gb102, 3, none⟩ = some (.bool a1_3) := (blk_cell BK102.out 3).trans rfl; have hcz53_4 : w50.cell? ⟨gb102, 4, none⟩ = some (.int .i64 a1_4) := (blk_cell BK102.out 4).trans rfl; have hcz53_5 : w50.cell? ⟨gb102, 5, none⟩ = some (.int .i64 a1_5) := (blk_cell BK102.out 5).trans rfl; have hcz53_6 : w50.cell? ⟨gb102, 6, none⟩ = some (.int .i64 a1_6) := (blk_cell BK102.out 6).trans rfl; have hcz53_7 : w50.cell? ⟨gb102, 7, none⟩ = some (.int .u32 a1_7) := (blk_cell BK102.out 7).trans rfl; have hcz53_8 : w50.cell? ⟨gb102, 8, none⟩ = some (.int .u32 a1_8) := (blk_cell BK102.out 8).trans rfl; have hcz53_9 : w50.cell? ⟨gb102, 9, none⟩ = some (.slice A1_9 l1_9.length c1_9) := (blk_cell BK102.out 9).trans rfl; have hcz53_10 : w50.cell? ⟨gb102, 10, none⟩ = some (.slice A1_10 l1_10.length c1_10) := (blk_cell BK102.out 10).trans rfl; have hfz53_0 := blk_frozen BK102.out 0; have hfz53_1 := blk_frozen BK102.out 1; have hfz53_2 := blk_frozen BK102.out 2; have hfz53_3 := blk_frozen BK102.out 3; have hfz53_4 := blk_frozen BK102.out 4; have hfz53_5 := blk_frozen BK102.out 5; have hfz53_6 := blk_frozen BK102.out 6; have hfz53_7 := blk_frozen BK102.out 7; have hfz53_8 := blk_frozen BK102.out 8; have hfz53_9 := blk_frozen BK102.out 9; have hfz53_10 := blk_frozen BK102.out 10))
            go_ret
            exact ⟨by first | rfl | (simp [errW_none, errW_some] <;> rfl) | (simp [*, errW_none, errW_some] <;> rfl), by repeat (first | (with_reducible first | exact HB.out | apply below_alloc | apply pw_below_drewN | apply below_drew1 | refine below_set ?_ GE101.out | refine below_set ?_ GE102.out) | exact HB.out)⟩
        · rw [if_neg c6] at H
          have c6b0 : (a0_3 == a1_3) = false := by simpa using c6
          (try (have c6b1 : decide (a0_3 = a1_3) = false := by simpa using c6))
          (try (have c6b2 : (a0_3 == a1_3) = false := by simpa using c6))
          (try (have c6b3 : ¬ (a0_3 = a1_3) := by simpa using c6))
          clear c6
          obtain rfl := Option.some.inj H
          go_enter Try.func26, Try.ntmps26
          go_wp2_with (first | ((with_reducible refine gate_dst (N := 2) rfl ?_); refine box_event ?hg (N := 2) ?hd (cs := #[.int .i64 a0_0, .int .i64 a0_1, .bool a0_2, .bool a0_3, .int .i64 a0_4, .int .i64 a0_5, .int .i64 a0_6, .int .u32 a0_7, .int .u32 a0_8, .slice A0_9 l0_9.length c0_9, .slice A0_10 l0_10.length c0_10]) (t := 45) ?hr ?_; (case hd => rfl); (case hg => rfl); (case hr => first | (go_simp; done) | (go_simp; rfl)); intro gb101 hg w54 hbox hb; have n0_ := Aside0.mk (below_step (by repeat (first | (with_reducible first | exact HB.out | apply below_alloc | apply pw_below_drewN | apply below_drew1) | exact HB.out)) hb); have n1_ := Aside0.mk (hbox); have n2_ := Aside0.mk ((by rw [hg]; exact (below_size (by repeat (first | (with_reducible first | exact HB.out | apply below_alloc | apply pw_below_drewN | apply below_drew1) | exact HB.out))) : w.heap.size ≤ gb101)); have n3_ := Aside0.mk ((by rw [hg]; exact (below_size (by repeat (first | (with_reducible first | exact HB.out | apply below_alloc | apply pw_below_drewN | apply below_drew1) | exact HB.out))) : w.heap.size ≤ gb101)); clear HB; have HB := n0_; have BK101 := n1_; have GW101 := n2_; have GE101 := n3_; clear n0_ n1_ n2_ n3_; clear hb hbox hg) | ((with_reducible refine gate_dst (N := 3) rfl ?_); refine box_event ?hg (N := 3) ?hd (cs := #[.int .i64 a1_0, .int .i64 a1_1, .bool a1_2, .bool a1_3, .int .i64 a1_4, .int .i64 a1_5, .int .i64 a1_6, .int .u32 a1_7, .int .u32 a1_8, .slice A1_9 l1_9.length c1_9, .slice A1_10 l1_10.length c1_10]) (t := 45) ?hr ?_; (case hd => rfl); (case hg => rfl); (case hr => first | (go_simp; done) | (go_simp; rfl)); intro gb102 hg w55 hbox hb; have n0_ := Aside0.mk (blk_below (g := gb101) (o := .cells #[.int .i64 a0_0, .int .i64 a0_1, .bool a0_2, .bool a0_3, .int .i64 a0_4, .int .i64 a0_5, .int .i64 a0_6, .int .u32 a0_7, .int .u32 a0_8, .slice A0_9 l0_9.length c0_9, .slice A0_10 l0_10.length c0_10] 45 (0, 0)) (by (with_reducible repeat (first | refine blk_drewN ?_ _ | refine blk_drew ?_ | refine blk_alloc ?_ _)); exact BK101.out) hb); have n1_ := Aside0.mk (below_step (by repeat (first | (with_reducible first | exact HB.out | apply below_alloc | apply pw_below_drewN | apply below_drew1 | refine below_set ?_ GE101.out) | exact HB.out)) hb); have n2_ := Aside0.mk (hbox); have n3_ := Aside0.mk ((by rw [hg]; exact (below_size (by repeat (first | (with_reducible first | exact HB.out | apply below_alloc | apply pw_below_drewN | apply below_drew1 | refine below_set ?_ GE101.out) | exact HB.out))) : w.heap.size ≤ gb102)); have n4_ := Aside0.mk ((by rw [hg]; exact (below_size (by repeat (first | (with_reducible first | exact HB.out | apply below_alloc | apply pw_below_drewN | apply below_drew1 | refine below_set ?_ GE101.out) | exact HB.out))) : w.heap.size ≤ gb102)); have n5_ := Aside0.mk ((by rw [hg]; exact Nat.ne_of_lt (blk_lt (g := gb101) (o := .cells #[.int .i64 a0_0, .int .i64 a0_1, .bool a0_2, .bool a0_3, .int .i64 a0_4, .int .i64 a0_5, .int .i64 a0_6, .int .u32 a0_7, .int .u32 a0_8, .slice A0_9 l0_9.length c0_9, .slice A0_10 l0_10.length c0_10] 45 (0, 0)) (by (with_reducible repeat (first | refine blk_drewN ?_ _ | refine blk_drew ?_ | refine blk_alloc ?_ _)); exact BK101.out)) : gb101 ≠ gb102)); have n6_ := Aside0.mk ((by rw [hg]; exact Nat.ne_of_gt (blk_lt (g := gb101) (o := .cells #[.int .i64 a0_0, .int .i64 a0_1, .bool a0_2, .bool a0_3, .int .i64 a0_4, .int .i64 a0_5, .int .i64 a0_6, .int .u32 a0_7, .int .u32 a0_8, .slice A0_9 l0_9.length c0_9, .slice A0_10 l0_10.length c0_10] 45 (0, 0)) (by (with_reducible repeat (first | refine blk_drewN ?_ _ | refine blk_drew ?_ | refine blk_alloc ?_ _)); exact BK101.out)) : gb102 ≠ gb101)); clear BK101; clear HB; have BK101 := n0_; have HB := n1_; have BK102 := n2_; have GW102 := n3_; have GE102 := n4_; have NB101_102 := n5_; have NB102_101 := n6_; clear n0_ n1_ n2_ n3_ n4_ n5_ n6_; clear hb hbox hg; have hnb56 := NB101_102.out; have hnc56 := NB102_101.out; have hcz57_0 : w55.cell? ⟨gb101, 0, none⟩ = some (.int .i64 a0_0) := (blk_cell BK101.out 0).trans rfl; have hcz57_1 : w55.cell? ⟨gb101, 1, none⟩ = some (.int .i64 a0_1) := (blk_cell BK101.out 1).trans rfl; have hcz57_2 : w55.cell? ⟨gb101, 2, none⟩ = some (.bool a0_2) := (blk_cell BK101.out 2).trans rfl; have hcz57_3 : w55.cell? ⟨gb101, 3, none⟩ = some (.bool a0_3) := (blk_cell BK101.out 3).trans rfl; have hcz57_4 : w55.cell? ⟨gb101, 4, none⟩ = some (.int .i64 a0_4) := (blk_cell BK101.out 4).trans rfl; have hcz57_5 : w55.cell? ⟨gb101, 5, none⟩ = some (.int .i64 a0_5) := (blk_cell BK101.out 5).trans rfl; have hcz57_6 : w55.cell? ⟨gb101, 6, none⟩ = some (.int .i64 a0_6) := (blk_cell BK101.out 6).trans rfl; have hcz57_7 : w55.cell? ⟨gb101, 7, none⟩ = some (.int .u32 a0_7) := (blk_cell BK101.out 7).trans rfl; have hcz57_8 : w55.cell? ⟨gb101, 8, none⟩ = some (.int .u32 a0_8) := (blk_cell BK101.out 8).trans rfl; have hcz57_9 : w55.cell? ⟨gb101, 9, none⟩ = some (.slice A0_9 l0_9.length c0_9) := (blk_cell BK101.out 9).trans rfl; have hcz57_10 : w55.cell? ⟨gb101, 10, none⟩ = some (.slice A0_10 l0_10.length c0_10) := (blk_cell BK101.out 10).trans rfl; have hfz57_0 := blk_frozen BK101.out 0; have hfz57_1 := blk_frozen BK101.out 1; have hfz57_2 := blk_frozen BK101.out 2; have hfz57_3 := blk_frozen BK101.out 3; have hfz57_4 := blk_frozen BK101.out 4; have hfz57_5 := blk_frozen BK101.out 5; have hfz57_6 := blk_frozen BK101.out 6; have hfz57_7 := blk_frozen BK101.out 7; have hfz57_8 := blk_frozen BK101.out 8; have hfz57_9 := blk_frozen BK101.out 9; have hfz57_10 := blk_frozen BK101.out 10; have hcz58_0 : w55.cell? ⟨gb102, 0, none⟩ = some (.int .i64 a1_0) := (blk_cell BK102.out 0).trans rfl; have hcz58_1 : w55.cell? ⟨gb102, 1, none⟩ = some (.int .i64 a1_1) := (blk_cell BK102.out 1).trans rfl; have hcz58_2 : w55.cell? ⟨gb102, 2, none⟩ = some (.bool a1_2) := (blk_cell BK102.out 2).trans rfl; have hcz58_3 : w55.cell? ⟨gb102, 3, none⟩ = some (.bool a1_3) := (blk_cell BK102.out 3).trans rfl; have hcz58_4 : w55.cell? ⟨gb102, 4, none⟩ = some (.int .i64 a1_4) := (blk_cell BK102.out 4).trans rfl; have hcz58_5 : w55.cell? ⟨gb102, 5, none⟩ = some (.int .i64 a1_5) := (blk_cell BK102.out 5).trans rfl; have hcz58_6 : w55.cell? ⟨gb102, 6, none⟩ = some (.int .i64 a1_6) := (blk_cell BK102.out 6).trans rfl; have hcz58_7 : w55.cell? ⟨gb102, 7, none⟩ = some (.int .u32 a1_7) := (blk_cell BK102.out 7).trans rfl; have hcz58_8 : w55.cell? ⟨gb102, 8, none⟩ = some (.int .u32 a1_8) := (blk_cell BK102.out 8).trans rfl; have hcz58_9 : w55.cell? ⟨gb102, 9, none⟩ = some (.slice A1_9 l1_9.length c1_9) := (blk_cell BK102.out 9).trans rfl; have hcz58_10 : w55.cell? ⟨gb102, 10, none⟩ = some (.slice A1_10 l1_10.length c1_10) := (blk_cell BK102.out 10).trans rfl; have hfz58_0 := blk_frozen BK102.out 0; have hfz58_1 := blk_frozen BK102.out 1; have hfz58_2 := blk_frozen BK102.out 2; have hfz58_3 := blk_frozen BK102.out 3; have hfz58_4 := blk_frozen BK102.out 4; have hfz58_5 := blk_frozen BK102.out 5; have hfz58_6 := blk_frozen BK102.out 6; have hfz58_7 := blk_frozen BK102.out 7; have hfz58_8 := blk_frozen BK102.out 8; have hfz58_9 := blk_frozen BK102.out 9; have hfz58_10 := blk_frozen BK102.out 10))
          go_ret
          exact ⟨by first | rfl | (simp [errW_none, errW_some] <;> rfl) | (simp [*, errW_none, errW_some] <;> rfl), by repeat (first | (with_reducible first | exact HB.out | apply below_alloc | apply pw_below_drewN | apply below_drew1 | refine below_set ?_ GE101.out | refine below_set ?_ GE102.out) | exact HB.out)⟩
      · rw [if_neg c5] at H
        have c5b0 : (a0_2 == a1_2) = false := by simpa using c5
        (try (have c5b1 : decide (a0_2 = a1_2) = false := by simpa using c5))
        (try (have c5b2 : (a0_2 == a1_2) = false := by simpa using c5))
        (try (have c5b3 : ¬ (a0_2 = a1_2) := by simpa using c5))
        clear c5
        obtain rfl := Option.some.inj H
        go_enter Try.func26, Try.ntmps26
        go_wp2_with (first | ((with_reducible refine gate_dst (N := 2) rfl ?_); refine box_event ?hg (N := 2) ?hd (cs := #[.int .i64 a0_0, .int .i64 a0_1, .bool a0_2, .bool a0_3, .int .i64 a0_4, .int .i64 a0_5, .int .i64 a0_6, .int .u32 a0_7, .int .u32 a0_8, .slice A0_9 l0_9.length c0_9, .slice A0_10 l0_10.length c0_10]) (t := 45) ?hr ?_; (case hd => rfl); (case hg => rfl); (case hr => first | (go_simp; done) | (go_simp; rfl)); intro gb101 hg w59 hbox hb; have n0_ := Aside0.mk (below_step (by repeat (first | (with_reducible first | exact HB.out | apply below_alloc | apply pw_below_drewN | apply below_drew1) | exact HB.out)) hb); have n1_ := Aside0.mk (hbox); have n2_ := Aside0.mk ((by rw [hg]; exact (below_size (by repeat (first | (with_reducible first | exact HB.out | apply below_alloc | apply pw_below_drewN | apply below_drew1) | exact HB.out))) : w.heap.size ≤ gb101)); have n3_ := Aside0.mk ((by rw [hg]; exact (below_size (by repeat (first | (with_reducible first | exact HB.out | apply below_alloc | apply pw_below_drewN | apply below_drew1) | exact HB.out))) : w.heap.size ≤ gb101)); clear HB; have HB := n0_; have BK101 := n1_; have GW101 := n2_; have GE101 := n3_; clear n0_ n1_ n2_ n3_; clear hb hbox hg) | ((with_reducible refine gate_dst (N := 3) rfl ?_); refine box_event ?hg (N := 3) ?hd (cs := #[.int .i64 a1_0, .int .i64 a1_1, .bool a1_2, .bool a1_3, .int .i64 a1_4, .int .i64 a1_5, .int .i64 a1_6, .int .u32 a1_7, .int .u32 a1_8, .slice A1_9 l1_9.length c1_9, .slice A1_10 l1_10.length c1_10]) (t := 45) ?hr ?_; (case hd => rfl); (case hg => rfl); (case hr => first | (go_simp; done) | (go_simp; rfl)); intro gb102 hg w60 hbox hb; have n0_ := Aside0.mk (blk_below (g := gb101) (o := .cells #[.int .i64 a0_0, .int .i64 a0_1, .bool a0_2, .bool a0_3, .int .i64 a0_4, .int .i64 a0_5, .int .i64 a0_6, .int .u32 a0_7, .int .u32 a0_8, .slice A0_9 l0_9.length c0_9, .slice A0_10 l0_10.length c0_10] 45 (0, 0)) (by (with_reducible repeat (first | refine blk_drewN ?_ _ | refine blk_drew ?_ | refine blk_alloc ?_ _)); exact BK101.out) hb); have n1_ := Aside0.mk (below_step (by repeat (first | (with_reducible first | exact HB.out | apply below_alloc | apply pw_below_drewN | apply below_drew1 | refine below_set ?_ GE101.out) | exact HB.out)) hb); have n2_ := Aside0.mk (hbox); have n3_ := Aside0.mk ((by rw [hg]; exact (below_size (by repeat (first | (with_reducible first | exact HB.out | apply below_alloc | apply pw_below_drewN | apply below_drew1 | refine below_set ?_ GE101.out) | exact HB.out))) : w.heap.size ≤ gb102)); have n4_ := Aside0.mk ((by rw [hg]; exact (below_size (by repeat (first | (with_reducible first | exact HB.out | apply below_alloc | apply pw_below_drewN | apply below_drew1 | refine below_set ?_ GE101.out) | exact HB.out))) : w.heap.size ≤ gb102)); have n5_ := Aside0.mk ((by rw [hg]; exact Nat.ne_of_lt (blk_lt (g := gb101) (o := .cells #[.int .i64 a0_0, .int .i64 a0_1, .bool a0_2, .bool a0_3, .int .i64 a0_4, .int .i64 a0_5, .int .i64 a0_6, .int .u32 a0_7, .int .u32 a0_8, .slice A0_9 l0_9.length c0_9, .slice A0_10 l0_10.length c0_10] 45 (0, 0)) (by (with_reducible repeat (first | refine blk_drewN ?_ _ | refine blk_drew ?_ | refine blk_alloc ?_ _)); exact BK101.out)) : gb101 ≠ gb102)); have n6_ := Aside0.mk ((by rw [hg]; exact Nat.ne_of_gt (blk_lt (g := gb101) (o := .cells #[.int .i64 a0_0, .int .i64 a0_1, .bool a0_2, .bool a0_3, .int .i64 a0_4, .int .i64 a0_5, .int .i64 a0_6, .int .u32 a0_7, .int .u32 a0_8, .slice A0_9 l0_9.length c0_9, .slice A0_10 l0_10.length c0_10] 45 (0, 0)) (by (with_reducible repeat (first | refine blk_drewN ?_ _ | refine blk_drew ?_ | refine blk_alloc ?_ _)); exact BK101.out)) : gb102 ≠ gb101)); clear BK101; clear HB; have BK101 := n0_; have HB := n1_; have BK102 := n2_; have GW102 := n3_; have GE102 := n4_; have NB101_102 := n5_; have NB102_101 := n6_; clear n0_ n1_ n2_ n3_ n4_ n5_ n6_; clear hb hbox hg; have hnb61 := NB101_102.out; have hnc61 := NB102_101.out; have hcz62_0 : w60.cell? ⟨gb101, 0, none⟩ = some (.int .i64 a0_0) := (blk_cell BK101.out 0).trans rfl; have hcz62_1 : w60.cell? ⟨gb101, 1, none⟩ = some (.int .i64 a0_1) := (blk_cell BK101.out 1).trans rfl; have hcz62_2 : w60.cell? ⟨gb101, 2, none⟩ = some (.bool a0_2) := (blk_cell BK101.out 2).trans rfl; have hcz62_3 : w60.cell? ⟨gb101, 3, none⟩ = some (.bool a0_3) := (blk_cell BK101.out 3).trans rfl; have hcz62_4 : w60.cell? ⟨gb101, 4, none⟩ = some (.int .i64 a0_4) := (blk_cell BK101.out 4).trans rfl; have hcz62_5 : w60.cell? ⟨gb101, 5, none⟩ = some (.int .i64 a0_5) := (blk_cell BK101.out 5).trans rfl; have hcz62_6 : w60.cell? ⟨gb101, 6, none⟩ = some (.int .i64 a0_6) := (blk_cell BK101.out 6).trans rfl; have hcz62_7 : w60.cell? ⟨gb101, 7, none⟩ = some (.int .u32 a0_7) := (blk_cell BK101.out 7).trans rfl; have hcz62_8 : w60.cell? ⟨gb101, 8, none⟩ = some (.int .u32 a0_8) := (blk_cell BK101.out 8).trans rfl; have hcz62_9 : w60.cell? ⟨gb101, 9, none⟩ = some (.slice A0_9 l0_9.length c0_9) := (blk_cell BK101.out 9).trans rfl; have hcz62_10 : w60.cell? ⟨gb101, 10, none⟩ = some (.slice A0_10 l0_10.length c0_10) := (blk_cell BK101.out 10).trans rfl; have hfz62_0 := blk_frozen BK101.out 0; have hfz62_1 := blk_frozen BK101.out 1; have hfz62_2 := blk_frozen BK101.out 2; have hfz62_3 := blk_frozen BK101.out 3; have hfz62_4 := blk_frozen BK101.out 4; have hfz62_5 := blk_frozen BK101.out 5; have hfz62_6 := blk_frozen BK101.out 6; have hfz62_7 := blk_frozen BK101.out 7; have hfz62_8 := blk_frozen BK101.out 8; have hfz62_9 := blk_frozen BK101.out 9; have hfz62_10 := blk_frozen BK101.out 10; have hcz63_0 : w60.cell? ⟨gb102, 0, none⟩ = some (.int .i64 a1_0) := (blk_cell BK102.out 0).trans rfl; have hcz63_1 : w60.cell? ⟨gb102, 1, none⟩ = some (.int .i64 a1_1) := (blk_cell BK102.out 1).trans rfl; have hcz63_2 : w60.cell? ⟨gb102, 2, none⟩ = some (.bool a1_2) := (blk_cell BK102.out 2).trans rfl; have hcz63_3 : w60.cell? ⟨gb102, 3, none⟩ = some (.bool a1_3) := (blk_cell BK102.out 3).trans rfl; have hcz63_4 : w60.cell? ⟨gb102, 4, none⟩ = some (.int .i64 a1_4) := (blk_cell BK102.out 4).trans rfl; have hcz63_5 : w60.cell? ⟨gb102, 5, none⟩ = some (.int .i64 a1_5) := (blk_cell BK102.out 5).trans rfl; have hcz63_6 : w60.cell? ⟨gb102, 6, none⟩ = some (.int .i64 a1_6) := (blk_cell BK102.out 6).trans rfl; have hcz63_7 : w60.cell? ⟨gb102, 7, none⟩ = some (.int .u32 a1_7) := (blk_cell BK102.out 7).trans rfl; have hcz63_8 : w60.cell? ⟨gb102, 8, none⟩ = some (.int .u32 a1_8) := (blk_cell BK102.out 8).trans rfl; have hcz63_9 : w60.cell? ⟨gb102, 9, none⟩ = some (.slice A1_9 l1_9.length c1_9) := (blk_cell BK102.out 9).trans rfl; have hcz63_10 : w60.cell? ⟨gb102, 10, none⟩ = some (.slice A1_10 l1_10.length c1_10) := (blk_cell BK102.out 10).trans rfl; have hfz63_0 := blk_frozen BK102.out 0; have hfz63_1 := blk_frozen BK102.out 1; have hfz63_2 := blk_frozen BK102.out 2; have hfz63_3 := blk_frozen BK102.out 3; have hfz63_4 := blk_frozen BK102.out 4; have hfz63_5 := blk_frozen BK102.out 5; have hfz63_6 := blk_frozen BK102.out 6; have hfz63_7 := blk_frozen BK102.out 7; have hfz63_8 := blk_frozen BK102.out 8; have hfz63_9 := blk_frozen BK102.out 9; have hfz63_10 := blk_frozen BK102.out 10))
        go_ret
        exact ⟨by first | rfl | (simp [errW_none, errW_some] <;> rfl) | (simp [*, errW_none, errW_some] <;> rfl), by repeat (first | (with_reducible first | exact HB.out | apply below_alloc | apply pw_below_drewN | apply below_drew1 | refine below_set ?_ GE101.out | refine below_set ?_ GE102.out) | exact HB.out)⟩
    · rw [if_neg c4] at H
      have c4b0 : (a0_1 == a1_1) = false := beq_eq_false_iff_ne.mpr c4
      have c4b1 : (a0_1 != a1_1) = true := bne_iff_ne.mpr c4
      obtain rfl := Option.some.inj H
      go_enter Try.func26, Try.ntmps26
      go_wp2_with (first | ((with_reducible refine gate_dst (N := 2) rfl ?_); refine box_event ?hg (N := 2) ?hd (cs := #[.int .i64 a0_0, .int .i64 a0_1, .bool a0_2, .bool a0_3, .int .i64 a0_4, .int .i64 a0_5, .int .i64 a0_6, .int .u32 a0_7, .int .u32 a0_8, .slice A0_9 l0_9.length c0_9, .slice A0_10 l0_10.length c0_10]) (t := 45) ?hr ?_; (case hd => rfl); (case hg => rfl); (case hr => first | (go_simp; done) | (go_simp; rfl)); intro gb101 hg w64 hbox hb; have n0_ := Aside0.mk (below_step (by repeat (first | (with_reducible first | exact HB.out | apply below_alloc | apply pw_below_drewN | apply below_drew1) | exact HB.out)) hb); have n1_ := Aside0.mk (hbox); have n2_ := Aside0.mk ((by rw [hg]; exact (below_size (by repeat (first | (with_reducible first | exact HB.out | apply below_alloc | apply pw_below_drewN | apply below_drew1) | exact HB.out))) : w.heap.size ≤ gb101)); have n3_ := Aside0.mk ((by rw [hg]; exact (below_size (by repeat (first | (with_reducible first | exact HB.out | apply below_alloc | apply pw_below_drewN | apply below_drew1) | exact HB.out))) : w.heap.size ≤ gb101)); clear HB; have HB := n0_; have BK101 := n1_; have GW101 := n2_; have GE101 := n3_; clear n0_ n1_ n2_ n3_; clear hb hbox hg) | ((with_reducible refine gate_dst (N := 3) rfl ?_); refine box_event ?hg (N := 3) ?hd (cs := #[.int .i64 a1_0, .int .i64 a1_1, .bool a1_2, .bool a1_3, .int .i64 a1_4, .int .i64 a1_5, .int .i64 a1_6, .int .u32 a1_7, .int .u32 a1_8, .slice A1_9 l1_9.length c1_9, .slice A1_10 l1_10.length c1_10]) (t := 45) ?hr ?_; (case hd => rfl); (case hg => rfl); (case hr => first | (go_simp; done) | (go_simp; rfl)); intro gb102 hg w65 hbox hb; have n0_ := Aside0.mk (blk_below (g := gb101) (o := .cells #[.int .i64 a0_0, .int .i64 a0_1, .bool a0_2, .bool a0_3, .int .i64 a0_4, .int .i64 a0_5, .int .i64 a0_6, .int .u32 a0_7, .int .u32 a0_8, .slice A0_9 l0_9.length c0_9, .slice A0_10 l0_10.length c0_10] 45 (0, 0)) (by (with_reducible repeat (first | refine blk_drewN ?_ _ | refine blk_drew ?_ | refine blk_alloc ?_ _)); exact BK101.out) hb); have n1_ := Aside0.mk (below_step (by repeat (first | (with_reducible first | exact HB.out | apply below_alloc | apply pw_below_drewN | apply below_drew1 | refine below_set ?_ GE101.out) | exact HB.out)) hb); have n2_ := Aside0.mk (hbox); have n3_ := Aside0.mk ((by rw [hg]; exact (below_size (by repeat (first | (with_reducible first | exact HB.out | apply below_alloc | apply pw_below_drewN | apply below_drew1 | refine below_set ?_ GE101.out) | exact HB.out))) : w.heap.size ≤ gb102)); have n4_ := Aside0.mk ((by rw [hg]; exact (below_size (by repeat (first | (with_reducible first | exact HB.out | apply below_alloc | apply pw_below_drewN | apply below_drew1 | refine below_set ?_ GE101.out) | exact HB.out))) : w.heap.size ≤ gb102)); have n5_ := Aside0.mk ((by rw [hg]; exact Nat.ne_of_lt (blk_lt (g := gb101) (o := .cells #[.int .i64 a0_0, .int .i64 a0_1, .bool a0_2, .bool a0_3, .int .i64 a0_4, .int .i64 a0_5, .int .i64 a0_6, .int .u32 a0_7, .int .u32 a0_8, .slice A0_9 l0_9.length c0_9, .slice A0_10 l0_10.length c0_10] 45 (0, 0)) (by (with_reducible repeat (first | refine blk_drewN ?_ _ | refine blk_drew ?_ | refine blk_alloc ?_ _)); exact BK101.out)) : gb101 ≠ gb102)); have n6_ := Aside0.mk ((by rw [hg]; exact Nat.ne_of_gt (blk_lt (g := gb101) (o := .cells #[.int .i64 a0_0, .int .i64 a0_1, .bool a0_2, .bool a0_3, .int .i64 a0_4, .int .i64 a0_5, .int .i64 a0_6, .int .u32 a0_7, .int .u32 a0_8, .slice A0_9 l0_9.length c0_9, .slice A0_10 l0_10.length c0_10] 45 (0, 0)) (by (with_reducible repeat (first | refine blk_drewN ?_ _ | refine blk_drew ?_ | refine blk_alloc ?_ _)); exact BK101.out)) : gb102 ≠ gb101)); clear BK101; clear HB; have BK101 := n0_; have HB := n1_; have BK102 := n2_; have GW102 := n3_; have GE102 := n4_; have NB101_102 := n5_; have NB102_101 := n6_; clear n0_ n1_ n2_ n3_ n4_ n5_ n6_; clear hb hbox hg; have hnb66 := NB101_102.out; have hnc66 := NB102_101.out; have hcz67_0 : w65.cell? ⟨gb101, 0, none⟩ = some (.int .i64 a0_0) := (blk_cell BK101.out 0).trans rfl; have hcz67_1 : w65.cell? ⟨gb101, 1, none⟩ = some (.int .i64 a0_1) := (blk_cell BK101.out 1).trans rfl; have hcz67_2 : w65.cell? ⟨gb101, 2, none⟩ = some (.bool a0_2) := (blk_cell BK101.out 2).trans rfl; have hcz67_3 : w65.cell? ⟨gb101, 3, none⟩ = some (.bool a0_3) := (blk_cell BK101.out 3).trans rfl; have hcz67_4 : w65.cell? ⟨gb101, 4, none⟩ = some (.int .i64 a0_4) := (blk_cell BK101.out 4).trans rfl; have hcz67_5 : w65.cell? ⟨gb101, 5, none⟩ = some (.int .i64 a0_5) := (blk_cell BK101.out 5).trans rfl; have hcz67_6 : w65.cell? ⟨gb101, 6, none⟩ = some (.int .i64 a0_6) := (blk_cell BK101.out 6).trans rfl; have hcz67_7 : w65.cell? ⟨gb101, 7, none⟩ = some (.int .u32 a0_7) := (blk_cell BK101.out 7).trans rfl; have hcz67_8 : w65.cell? ⟨gb101, 8, none⟩ = some (.int .u32 a0_8) := (blk_cell BK101.out 8).trans rfl; have hcz67_9 : w65.cell? ⟨gb101, 9, none⟩ = some (.slice A0_9 l0_9.length c0_9) := (blk_cell BK101.out 9).trans rfl; have hcz67_10 : w65.cell? ⟨gb101, 10, none⟩ = some (.slice A0_10 l0_10.length c0_10) := (blk_cell BK101.out 10).trans rfl; have hfz67_0 := blk_frozen BK101.out 0; have hfz67_1 := blk_frozen BK101.out 1; have hfz67_2 := blk_frozen BK101.out 2; have hfz67_3 := blk_frozen BK101.out 3; have hfz67_4 := blk_frozen BK101.out 4; have hfz67_5 := blk_frozen BK101.out 5; have hfz67_6 := blk_frozen BK101.out 6; have hfz67_7 := blk_frozen BK101.out 7; have hfz67_8 := blk_frozen BK101.out 8; have hfz67_9 := blk_frozen BK101.out 9; have hfz67_10 := blk_frozen BK101.out 10; have hcz68_0 : w65.cell? ⟨gb102, 0, none⟩ = some (.int .i64 a1_0) := (blk_cell BK102.out 0).trans rfl; have hcz68_1 : w65.cell? ⟨gb102, 1, none⟩ = some (.int .i64 a1_1) := (blk_cell BK102.out 1).trans rfl; have hcz68_2 : w65.cell? ⟨gb102, 2, none⟩ = some (.bool a1_2) := (blk_cell BK102.out 2).trans rfl; have hcz68_3 : w65.cell? ⟨gb102, 3, none⟩ = some (.bool a1_3) := (blk_cell BK102.out 3).trans rfl; have hcz68_4 : w65.cell? ⟨gb102, 4, none⟩ = some (.int .i64 a1_4) := (blk_cell BK102.out 4).trans rfl; have hcz68_5 : w65.cell? ⟨gb102, 5, none⟩ = some (.int .i64 a1_5) := (blk_cell BK102.out 5).trans rfl; have hcz68_6 : w65.cell? ⟨gb102, 6, none⟩ = some (.int .i64 a1_6) := (blk_cell BK102.out 6).trans rfl; have hcz68_7 : w65.cell? ⟨gb102, 7, none⟩ = some (.int .u32 a1_7) := (blk_cell BK102.out 7).trans rfl; have hcz68_8 : w65.cell? ⟨gb102, 8, none⟩ = some (.int .u32 a1_8) := (blk_cell BK102.out 8).trans rfl; have hcz68_9 : w65.cell? ⟨gb102, 9, none⟩ = some (.slice A1_9 l1_9.length c1_9) := (blk_cell BK102.out 9).trans rfl; have hcz68_10 : w65.cell? ⟨gb102, 10, none⟩ = some (.slice A1_10 l1_10.length c1_10) := (blk_cell BK102.out 10).trans rfl; have hfz68_0 := blk_frozen BK102.out 0; have hfz68_1 := blk_frozen BK102.out 1; have hfz68_2 := blk_frozen BK102.out 2; have hfz68_3 := blk_frozen BK102.out 3; have hfz68_4 := blk_frozen BK102.out 4; have hfz68_5 := blk_frozen BK102.out 5; have hfz68_6 := blk_frozen BK102.out 6; have hfz68_7 := blk_frozen BK102.out 7; have hfz68_8 := blk_frozen BK102.out 8; have hfz68_9 := blk_frozen BK102.out 9; have hfz68_10 := blk_frozen BK102.out 10))
      go_ret
      exact ⟨by first | rfl | (simp [errW_none, errW_some] <;> rfl) | (simp [*, errW_none, errW_some] <;> rfl), by repeat (first | (with_reducible first | exact HB.out | apply below_alloc | apply pw_below_drewN | apply below_drew1 | refine below_set ?_ GE101.out | refine below_set ?_ GE102.out) | exact HB.out)⟩
  · rw [if_neg c3] at H
    have c3b0 : (a0_0 == a1_0) = false := beq_eq_false_iff_ne.mpr c3
    have c3b1 : (a0_0 != a1_0) = true := bne_iff_ne.mpr c3
    obtain rfl := Option.some.inj H
    go_enter Try.func26, Try.ntmps26
    go_wp2_with (first | ((with_reducible refine gate_dst (N := 2) rfl ?_); refine box_event ?hg (N := 2) ?hd (cs := #[.int .i64 a0_0, .int .i64 a0_1, .bool a0_2, .bool a0_3, .int .i64 a0_4, .int .i64 a0_5, .int .i64 a0_6, .int .u32 a0_7, .int .u32 a0_8, .slice A0_9 l0_9.length c0_9, .slice A0_10 l0_10.length c0_10]) (t := 45) ?hr ?_; (case hd => rfl); (case hg => rfl); (case hr => first | (go_simp; done) | (go_simp; rfl)); intro gb101 hg w69 hbox hb; have n0_ := Aside0.mk (below_step (by repeat (first | (with_reducible first | exact HB.out | apply below_alloc | apply pw_below_drewN | apply below_drew1) | exact HB.out)) hb); have n1_ := Aside0.mk (hbox); have n2_ := Aside0.mk ((by rw [hg]; exact (below_size (by repeat (first | (with_reducible first | exact HB.out | apply below_alloc | apply pw_below_drewN | apply below_drew1) | exact HB.out))) : w.heap.size ≤ gb101)); have n3_ := Aside0.mk ((by rw [hg]; exact (below_size (by repeat (first | (with_reducible first | exact HB.out | apply below_alloc | apply pw_below_drewN | apply below_drew1) | exact HB.out))) : w.heap.size ≤ gb101)); clear HB; have HB := n0_; have BK101 := n1_; have GW101 := n2_; have GE101 := n3_; clear n0_ n1_ n2_ n3_; clear hb hbox hg) | ((with_reducible refine gate_dst (N := 3) rfl ?_); refine box_event ?hg (N := 3) ?hd (cs := #[.int .i64 a1_0, .int .i64 a1_1, .bool a1_2, .bool a1_3, .int .i64 a1_4, .int .i64 a1_5, .int .i64 a1_6, .int .u32 a1_7, .int .u32 a1_8, .slice A1_9 l1_9.length c1_9, .slice A1_10 l1_10.length c1_10]) (t := 45) ?hr ?_; (case hd => rfl); (case hg => rfl); (case hr => first | (go_simp; done) | (go_simp; rfl)); intro gb102 hg w70 hbox hb; have n0_ := Aside0.mk (blk_below (g := gb101) (o := .cells #[.int .i64 a0_0, .int .i64 a0_1, .bool a0_2, .bool a0_3, .int .i64 a0_4, .int .i64 a0_5, .int .i64 a0_6, .int .u32 a0_7, .int .u32 a0_8, .slice A0_9 l0_9.length c0_9, .slice A0_10 l0_10.length c0_10] 45 (0, 0)) (by (with_reducible repeat (first | refine blk_drewN ?_ _ | refine blk_drew ?_ | refine blk_alloc ?_ _)); exact BK101.out) hb); have n1_ := Aside0.mk (below_step (by repeat (first | (with_reducible first | exact HB.out | apply below_alloc | apply pw_below_drewN | apply below_drew1 | refine below_set ?_ GE101.out) | exact HB.out)) hb); have n2_ := Aside0.mk (hbox); have n3_ := Aside0.mk ((by rw [hg]; exact (below_size (by repeat (first | (with_reducible first | exact HB.out | apply below_alloc | apply pw_below_drewN | apply below_drew1 | refine below_set ?_ GE101.out) | exact HB.out))) : w.heap.size ≤ gb102)); have n4_ := Aside0.mk ((by rw [hg]; exact (below_size (by repeat (first | (with_reducible first | exact HB.out | apply below_alloc | apply pw_below_drewN | apply below_drew1 | refine below_set ?_ GE101.out) | exact HB.out))) : w.heap.size ≤ gb102)); have n5_ := Aside0.mk ((by rw [hg]; exact Nat.ne_of_lt (blk_lt (g := gb101) (o := .cells #[.int .i64 a0_0, .int .i64 a0_1, .bool a0_2, .bool a0_3, .int .i64 a0_4, .int .i64 a0_5, .int .i64 a0_6, .int .u32 a0_7, .int .u32 a0_8, .slice A0_9 l0_9.length c0_9, .slice A0_10 l0_10.length c0_10] 45 (0, 0)) (by (with_reducible repeat (first | refine blk_drewN ?_ _ | refine blk_drew ?_ | refine blk_alloc ?_ _)); exact BK101.out)) : gb101 ≠ gb102)); have n6_ := Aside0.mk ((by rw [hg]; exact Nat.ne_of_gt (blk_lt (g := gb101) (o := .cells #[.int .i64 a0_0, .int .i64 a0_1, .bool a0_2, .bool a0_3, .int .i64 a0_4, .int .i64 a0_5, .int .i64 a0_6, .int .u32 a0_7, .int .u32 a0_8, .slice A0_9 l0_9.length c0_9, .slice A0_10 l0_10.length c0_10] 45 (0, 0)) (by (with_reducible repeat (first | refine blk_drewN ?_ _ | refine blk_drew ?_ | refine blk_alloc ?_ _)); exact BK101.out)) : gb102 ≠ gb101)); clear BK101; clear HB; have BK101 := n0_; have HB := n1_; have BK102 := n2_; have GW102 := n3_; have GE102 := n4_; have NB101_102 := n5_; have NB102_101 := n6_; clear n0_ n1_ n2_ n3_ n4_ n5_ n6_; clear hb hbox hg; have hnb71 := NB101_102.out; have hnc71 := NB102_101.out; have hcz72_0 : w70.cell? ⟨gb101, 0, none⟩ = some (.int .i64 a0_0) := (blk_cell BK101.out 0).trans rfl; have hcz72_1 : w70.cell? ⟨gb101, 1, none⟩ = some (.int .i64 a0_1) := (blk_cell BK101.out 1).trans rfl; have hcz72_2 : w70.cell? ⟨gb101, 2, none⟩ = some (.bool a0_2) := (blk_cell BK101.out 2).trans rfl; have hcz72_3 : w70.cell? ⟨gb101, 3, none⟩ = some (.bool a0_3) := (blk_cell BK101.out 3).trans rfl; have hcz72_4 : w70.cell? ⟨gb101, 4, none⟩ = some (.int .i64 a0_4) := (blk_cell BK101.out 4).trans rfl; have hcz72_5 : w70.cell? ⟨gb101, 5, none⟩ = some (.int .i64 a0_5) := (blk_cell BK101.out 5).trans rfl; have hcz72_6 : w70.cell? ⟨gb101, 6, none⟩ = some (.int .i64 a0_6) := (blk_cell BK101.out 6).trans rfl; have hcz72_7 : w70.cell? ⟨gb101, 7, none⟩ = some (.int .u32 a0_7) := (blk_cell BK101.out 7).trans rfl; have hcz72_8 : w70.cell? ⟨gb101, 8, none⟩ = some (.int .u32 a0_8) := (blk_cell BK101.out 8).trans rfl; have hcz72_9 : w70.cell? ⟨gb101, 9, none⟩ = some (.slice A0_9 l0_9.length c0_9) := (blk_cell BK101.out 9).trans rfl; have hcz72_10 : w70.cell? ⟨gb101, 10, none⟩ = some (.slice A0_10 l0_10.length c0_10) := (blk_cell BK101.out 10).trans rfl; have hfz72_0 := blk_frozen BK101.out 0; have hfz72_1 := blk_frozen BK101.out 1; have hfz72_2 := blk_frozen BK101.out 2; have hfz72_3 := blk_frozen BK101.out 3; have hfz72_4 := blk_frozen BK101.out 4; have hfz72_5 := blk_frozen BK101.out 5; have hfz72_6 := blk_frozen BK101.out 6; have hfz72_7 := blk_frozen BK101.out 7; have hfz72_8 := blk_frozen BK101.out 8; have hfz72_9 := blk_frozen BK101.out 9; have hfz72_10 := blk_frozen BK101.out 10; have hcz73_0 : w70.cell? ⟨gb102, 0, none⟩ = some (.int .i64 a1_0) := (blk_cell BK102.out 0).trans rfl; have hcz73_1 : w70.cell? ⟨gb102, 1, none⟩ = some (.int .i64 a1_1) := (blk_cell BK102.out 1).trans rfl; have hcz73_2 : w70.cell? ⟨gb102, 2, none⟩ = some (.bool a1_2) := (blk_cell BK102.out 2).trans rfl; have hcz73_3 : w70.cell? ⟨gb102, 3, none⟩ = some (.bool a1_3) := (blk_cell BK102.out 3).trans rfl; have hcz73_4 : w70.cell? ⟨gb102, 4, none⟩ = some (.int .i64 a1_4) := (blk_cell BK102.out 4).trans rfl; have hcz73_5 : w70.cell? ⟨gb102, 5, none⟩ = some (.int .i64 a1_5) := (blk_cell BK102.out 5).trans rfl; have hcz73_6 : w70.cell? ⟨gb102, 6, none⟩ = some (.int .i64 a1_6) := (blk_cell BK102.out 6).trans rfl; have hcz73_7 : w70.cell? ⟨gb102, 7, none⟩ = some (.int .u32 a1_7) := (blk_cell BK102.out 7).trans rfl; have hcz73_8 : w70.cell? ⟨gb102, 8, none⟩ = some (.int .u32 a1_8) := (blk_cell BK102.out 8).trans rfl; have hcz73_9 : w70.cell? ⟨gb102, 9, none⟩ = some (.slice A1_9 l1_9.length c1_9) := (blk_cell BK102.out 9).trans rfl; have hcz73_10 : w70.cell? ⟨gb102, 10, none⟩ = some (.slice A1_10 l1_10.length c1_10) := (blk_cell BK102.out 10).trans rfl; have hfz73_0 := blk_frozen BK102.out 0; have hfz73_1 := blk_frozen BK102.out 1; have hfz73_2 := blk_frozen BK102.out 2; have hfz73_3 := blk_frozen BK102.out 3; have hfz73_4 := blk_frozen BK102.out 4; have hfz73_5 := blk_frozen BK102.out 5; have hfz73_6 := blk_frozen BK102.out 6; have hfz73_7 := blk_frozen BK102.out 7; have hfz73_8 := blk_frozen BK102.out 8; have hfz73_9 := blk_frozen BK102.out 9; have hfz73_10 := blk_frozen BK102.out 10))
    go_ret
    exact ⟨by first | rfl | (simp [errW_none, errW_some] <;> rfl) | (simp [*, errW_none, errW_some] <;> rfl), by repeat (first | (with_reducible first | exact HB.out | apply below_alloc | apply pw_below_drewN | apply below_drew1 | refine below_set ?_ GE101.out | refine below_set ?_ GE102.out) | exact HB.out)⟩

/-! ### ip_Header: function 27 -/
def ip_Header.f (l0 : List Int) : Option (Int) := if (l0.length : Int) = 0 then (some 0) else (if 0 < (l0.length : Int) then (some (wrap64 ((wrap64 (Go.bits .and .u8 (rd l0 0) 15)) * 4))) else (none))
set_option maxHeartbeats 8000000 in
set_option maxRecDepth 100000 in
theorem ip_Header.calls (A0 : Option Addr) (c0 : Nat) (l0 : List Int) (r : Int) (w : World) (hr0 : Kd.C (Kd.int .u8) w A0 l0.length l0) (hc0 : l0.length ≤ c0) (h : ip_Header.f l0 = some r) :
    Calls Try.prog 27 #[.slice A0 l0.length c0] w fun e w' => e = .returned (.int .i64 r) ∧ Drawn0 w w' := by
  have HR0 := Aside0.mk hr0
  have HC0 := Aside0.mk hc0
  clear hr0 hc0
  have H : (if (l0.length : Int) = 0 then (some 0) else (if 0 < (l0.length : Int) then (some (wrap64 ((wrap64 (Go.bits .and .u8 (rd l0 0) 15)) * 4))) else (none))) = some r := h
  clear h
  by_cases c2 : (l0.length : Int) = 0
  · rw [if_pos c2] at H
    have c2b0 : ((l0.length : Int) == 0) = true := beq_iff_eq.mpr c2
    have c2b1 : ((l0.length : Int) != 0) = false := bne_eq_false_iff_eq.mpr c2
    clear c2
    obtain rfl := Option.some.inj H
    go_enter Try.func27, Try.ntmps27
    go_wp2
    go_ret
    exact ⟨by first | rfl | (simp; done) | (simp [*]; done), by repeat (first | exact Drawn0.refl _ | apply Drawn0.step)⟩
  · rw [if_neg c2] at H
    have c2b0 : ((l0.length : Int) == 0) = false := beq_eq_false_iff_ne.mpr c2
    have c2b1 : ((l0.length : Int) != 0) = true := bne_iff_ne.mpr c2
    have c2b2 : ¬ (l0 = []) := fun h_ => c2 (by rw [h_]; rfl)
    by_cases c3 : 0 < (l0.length : Int)
    · rw [if_pos c3] at H
      have c3b0 : decide (0 < (l0.length : Int)) = true := decide_eq_true c3
      have c3b1 : decide (0 < l0.length) = true := decide_eq_true (by omega)
      clear c3
      obtain rfl := Option.some.inj H
      have p103 : 0 ≤ (0 : Int) := (by omega)
      have q103 : 0 < (l0.length : Int) := of_decide_eq_true (by first | (with_reducible assumption) | assumption)
      obtain ⟨ad103, e103, hx103_0⟩ := Kd.at_int HR0.out 0 p103 q103
      cases e103
      have qi103 : (0 < l0.length) = True := eq_true (by omega)
      (try rw [show ((0 : Int)).toNat = 0 from rfl] at hx103_0)
      (try rw [Addr.add_zero'] at hx103_0)
      replace p103 := eq_true p103
      replace q103 := eq_true q103
      go_enter Try.func27, Try.ntmps27
      go_wp2
      go_ret
      exact ⟨by first | rfl | (simp; done) | (simp [*]; done), by repeat (first | exact Drawn0.refl _ | apply Drawn0.step)⟩
    · rw [if_neg c3] at H
      exact absurd H (by simp)

/-! ### word_at: function 58 -/
def word_at.f (l0 : List Int) (a1 : Int) (a2 : Int) : Option (Int) := if a1 < (wrap64 (-a2)) then (some 0) else (if a1 ≥ (wrap64 ((l0.length : Int) - a2)) then (some 0) else (if 0 ≤ (wrap64 (a1 + a2)) then (if (wrap64 (a1 + a2)) < (l0.length : Int) then (some (rd l0 (wrap64 (a1 + a2)))) else (none)) else (none)))
set_option maxHeartbeats 8000000 in
set_option maxRecDepth 100000 in
theorem word_at.calls (A0 : Option Addr) (c0 : Nat) (l0 : List Int) (a1 : Int) (a2 : Int) (r : Int) (w : World) (hr0 : Kd.C (Kd.int .u8) w A0 l0.length l0) (hc0 : l0.length ≤ c0) (h : word_at.f l0 a1 a2 = some r) :
    Calls Try.prog 58 #[.slice A0 l0.length c0, .int .i64 a1, .int .i64 a2] w fun e w' => e = .returned (.int .u8 r) ∧ Drawn0 w w' := by
  have HR0 := Aside0.mk hr0
  have HC0 := Aside0.mk hc0
  clear hr0 hc0
  have H : (if a1 < (wrap64 (-a2)) then (some 0) else (if a1 ≥ (wrap64 ((l0.length : Int) - a2)) then (some 0) else (if 0 ≤ (wrap64 (a1 + a2)) then (if (wrap64 (a1 + a2)) < (l0.length : Int) then (some (rd l0 (wrap64 (a1 + a2)))) else (none)) else (none)))) = some r := h
  clear h
  by_cases c4 : a1 < (wrap64 (-a2))
  · rw [if_pos c4] at H
    have c4b0 : decide (a1 < (wrap64 (-a2))) = true := decide_eq_true c4
    clear c4
    obtain rfl := Option.some.inj H
    go_enter Try.func58, Try.ntmps58
    go_wp2
    go_ret
    exact ⟨by first | rfl | (simp; done) | (simp [*]; done), by repeat (first | exact Drawn0.refl _ | apply Drawn0.step)⟩
  · rw [if_neg c4] at H
    have c4b0 : decide (a1 < (wrap64 (-a2))) = false := decide_eq_false c4
    clear c4
    by_cases c5 : a1 ≥ (wrap64 ((l0.length : Int) - a2))
    · rw [if_pos c5] at H
      have c5b0 : decide ((wrap64 ((l0.length : Int) - a2)) ≤ a1) = true := decide_eq_true c5
      clear c5
      obtain rfl := Option.some.inj H
      go_enter Try.func58, Try.ntmps58
      go_wp2
      go_ret
      exact ⟨by first | rfl | (simp; done) | (simp [*]; done), by repeat (first | exact Drawn0.refl _ | apply Drawn0.step)⟩
    · rw [if_neg c5] at H
      have c5b0 : decide ((wrap64 ((l0.length : Int) - a2)) ≤ a1) = false := decide_eq_false c5
      clear c5
      obtain ⟨ji6, hji6⟩ : ∃ j_ : Int, (wrap64 (a1 + a2)) = j_ := ⟨_, rfl⟩
      replace H : (if 0 ≤ (ji6) then (if (ji6) < (l0.length : Int) then (some (rd l0 (ji6))) else (none)) else (none)) = some r := by first | (rw [hji6] at H; exact H) | (simp only [hji6] at H ⊢; exact H)
      have hji6w : (IntKind.i64.wrap (a1 + a2)) = ji6 := (i64_w _).trans hji6
      by_cases c7 : 0 ≤ (ji6)
      · rw [if_pos c7] at H
        have c7b0 : decide (0 ≤ (ji6)) = true := decide_eq_true c7
        clear c7
        by_cases c8 : (ji6) < (l0.length : Int)
        · rw [if_pos c8] at H
          have c8b0 : decide ((ji6) < (l0.length : Int)) = true := decide_eq_true c8
          clear c8
          obtain rfl := Option.some.inj H
          have p104 : 0 ≤ ((ji6) : Int) := of_decide_eq_true (by first | (with_reducible assumption) | assumption)
          have q104 : (ji6) < (l0.length : Int) := of_decide_eq_true (by first | (with_reducible assumption) | assumption)
          obtain ⟨ad104, e104, hx104_0⟩ := Kd.at_int HR0.out (ji6) p104 q104
          cases e104
          replace p104 := eq_true p104
          replace q104 := eq_true q104
          go_enter Try.func58, Try.ntmps58
          go_wp2
          go_ret
          exact ⟨by first | rfl | (simp; done) | (simp only [← hji6] <;> (first | rfl | simp)) | (simp [*]; done), by repeat (first | exact Drawn0.refl _ | apply Drawn0.step)⟩
        · rw [if_neg c8] at H
          exact absurd H (by simp)
      · rw [if_neg c7] at H
        exact absurd H (by simp)

/-! ### word_Get16: function 41 -/
def word_Get16.f (l0 : List Int) (a1 : Int) : Option (Int) := (word_at.f l0 a1 0).bind fun t105 => ((word_at.f l0 a1 1).bind fun t106 => (some (Go.bits .or .i64 (wrap64 ((wrap64 (t105)) * 256)) (wrap64 (t106)))))
set_option maxHeartbeats 8000000 in
set_option maxRecDepth 100000 in
theorem word_Get16.calls (A0 : Option Addr) (c0 : Nat) (l0 : List Int) (a1 : Int) (r : Int) (w : World) (hr0 : Kd.C (Kd.int .u8) w A0 l0.length l0) (hc0 : l0.length ≤ c0) (h : word_Get16.f l0 a1 = some r) :
    Calls Try.prog 41 #[.slice A0 l0.length c0, .int .i64 a1] w fun e w' => e = .returned (.int .i64 r) ∧ Drawn0 w w' := by
  have HR0 := Aside0.mk hr0
  have HC0 := Aside0.mk hc0
  clear hr0 hc0
  have H : ((word_at.f l0 a1 0).bind fun t105 => ((word_at.f l0 a1 1).bind fun t106 => (some (Go.bits .or .i64 (wrap64 ((wrap64 (t105)) * 256)) (wrap64 (t106)))))) = some r := h
  clear h
  replace H := Option.bind_eq_some_iff.mp H
  obtain ⟨t105, A30, H⟩ := H
  replace H : ((word_at.f l0 a1 1).bind fun t106 => (some (Go.bits .or .i64 (wrap64 ((wrap64 (t105)) * 256)) (wrap64 (t106))))) = some r := H
  have A3 := Aside0.mk A30
  clear A30
  replace H := Option.bind_eq_some_iff.mp H
  obtain ⟨t106, A40, H⟩ := H
  replace H : (some (Go.bits .or .i64 (wrap64 ((wrap64 (t105)) * 256)) (wrap64 (t106)))) = some r := H
  have A4 := Aside0.mk A40
  clear A40
  obtain rfl := Option.some.inj H
  go_enter Try.func41, Try.ntmps41
  go_wp2_with (first | ((with_reducible refine gate_callee (f := 58) rfl ?_); refine goesL_ (some 7) rfl rfl Try.func58 (by kernel_rfl) rfl #[.slice A0 l0.length c0, .int .i64 a1, .int .i64 0] rfl (by (try simp only [List.map_toArray, List.map_cons, List.map_nil]); first | done | rfl | (simp only [List.length_drop, List.length_take]; rfl)) ?_; (with_reducible refine (word_at.calls _ _ l0 a1 0 t105 _ ?side1 ?side2 A3.out).mono ?_); (case side1 => repeat (first | exact HR0.out | (with_reducible refine Kd.C_alloc ?_ _) | (with_reducible refine Kd.C_drewN ?_ _) | (with_reducible refine Kd.C_drew ?_))); (case side2 => exact HC0.out); rintro e w' ⟨rfl, ⟨nd, rfl⟩⟩; refine ⟨_, rfl, ?_⟩) | ((with_reducible refine gate_callee (f := 58) rfl ?_); refine goesL_ (some 12) rfl rfl Try.func58 (by kernel_rfl) rfl #[.slice A0 l0.length c0, .int .i64 a1, .int .i64 1] rfl (by (try simp only [List.map_toArray, List.map_cons, List.map_nil]); first | done | rfl | (simp only [List.length_drop, List.length_take]; rfl)) ?_; (with_reducible refine (word_at.calls _ _ l0 a1 1 t106 _ ?side1 ?side2 A4.out).mono ?_); (case side1 => repeat (first | exact HR0.out | (with_reducible refine Kd.C_alloc ?_ _) | (with_reducible refine Kd.C_drewN ?_ _) | (with_reducible refine Kd.C_drew ?_))); (case side2 => exact HC0.out); rintro e w' ⟨rfl, ⟨nd, rfl⟩⟩; refine ⟨_, rfl, ?_⟩))
  go_ret
  exact ⟨by first | rfl | (simp; done) | (simp [*]; done), by repeat (first | exact Drawn0.refl _ | apply Drawn0.step)⟩

/-! ### bytes_Clone: function 42 -/
def bytes_Clone.f (l0 : List Int) : Option (List Int) := (some (([] : List Int) : List Int)).bind fun y107 => (if y107.length + l0.length < 140737488355328 then (some (y107 ++ l0)) else (none))
set_option maxHeartbeats 8000000 in
set_option maxRecDepth 100000 in
theorem bytes_Clone.calls (A0 : Option Addr) (c0 : Nat) (l0 : List Int) (r : List Int) (w : World) (hr0 : Kd.C (Kd.int .u8) w A0 l0.length l0) (hc0 : l0.length ≤ c0) (h : bytes_Clone.f l0 = some r) :
    Calls Try.prog 42 #[.slice A0 l0.length c0] w fun e w' => ∃ v0_ : Value, e = .returned (v0_) ∧ Kd.R (Kd.int .u8) 5 w' w.heap.size (fun _ => True) v0_ r ∧ Below w.heap.size w w' := by
  have HR0 := Aside0.mk hr0
  have HC0 := Aside0.mk hc0
  clear hr0 hc0
  have HB := Aside0.mk (Below.refl w.heap.size w)
  have H : ((some (([] : List Int) : List Int)).bind fun y107 => (if y107.length + l0.length < 140737488355328 then (some (y107 ++ l0)) else (none))) = some r := h
  clear h
  obtain ⟨y107, hy107⟩ : ∃ y_ : List Int, y_ = (([] : List Int)) := ⟨_, rfl⟩
  replace H : (if y107.length + l0.length < 140737488355328 then (some (y107 ++ l0)) else (none)) = some r := by first | (rw [hy107]; with_reducible exact H) | (have H2_ := (Option.bind_some _ _).symm.trans H; rw [hy107]; with_reducible exact H2_) | (have H2_ := (Option.bind_some _ _).symm.trans H; with_reducible exact H2_) | with_reducible exact H | (rw [hy107]; exact H) | exact H
  have Ny107 := Aside0.mk hy107
  clear hy107
  by_cases c2 : y107.length + l0.length < 140737488355328
  · rw [if_pos c2] at H
    have LMc2 := Aside0.mk c2
    clear c2
    obtain ⟨y110, hy110⟩ : ∃ y_ : List Int, y_ = (y107 ++ l0) := ⟨_, rfl⟩
    replace H : (some y110) = some r := by first | (rw [hy110]; with_reducible exact H) | (have H2_ := (Option.bind_some _ _).symm.trans H; rw [hy110]; with_reducible exact H2_) | (have H2_ := (Option.bind_some _ _).symm.trans H; with_reducible exact H2_) | with_reducible exact H | (rw [hy110]; exact H) | exact H
    have Ny110 := Aside0.mk hy110
    clear hy110
    obtain rfl := Option.some.inj H
    rcases A0 with _ | ad0
    · obtain ⟨hn0, hl0⟩ := C_none HR0.out
      have hq0 := run_isNil (P := Try.prog) Try.underlying24 none l0.length c0
      rw [hn0] at hq0 ⊢
      have hr0 : y110 = [] := by rw [Ny110.out, Ny107.out, hl0]; rfl
      rw [hr0]
      clear hn0 hl0 hr0
      go_enter Try.func42, Try.ntmps42
      go_wp2
      go_ret
      exact ⟨_, rfl, Kd.R_nil _ _ _ _ _, HB.out⟩
    · have hq0 := run_isNil (P := Try.prog) Try.underlying24 (some ad0) l0.length c0
      go_enter Try.func42, Try.ntmps42
      go_wp2_with (first | ((with_reducible refine gate_dst (N := 5) rfl ?_); refine Kd.R_lit (Kd.int .u8) _ 5 ?hg (N := 5) ?hd (xs := ([] : List Int)) (inner := []) (ok := fun _ => True) (okp := fun _ => True) ?hr ?hp (fun _ hk => hk) trivial (Below.refl _ _) (Nat.le_refl _) (by simp) ?_; (case hd => rfl); (case hg => rfl); (case hr => first | (go_simp; done) | (go_simp; rfl)); (case hp => exact (Reps.none _ _)); intro v108 w3 ho4 hb hg_ hnew_; clear hg_ hnew_; (first | rw [← Ny107.out] at ho4 | (simp only [Int.reduceToNat] at ho4; rw [← Ny107.out] at ho4)); have n0_ := Aside0.mk (Kd.R_lower ho4 (below_size (by repeat (first | (with_reducible first | exact HB.out | apply below_alloc | apply pw_below_drewN | apply below_drew1) | exact HB.out)))); have n1_ := Aside0.mk (below_step (by repeat (first | (with_reducible first | exact HB.out | apply below_alloc | apply pw_below_drewN | apply below_drew1) | exact HB.out)) hb); clear HB; have HO109 := n0_; have HB := n1_; clear n0_ n1_; clear hb ho4) | ((with_reducible refine gate_builtin (b := .append) (xs := #[.tmp 5, .tmp 6]) rfl ?_); at_builtin; refine Kd.R_append_rows (Kd.int .u8) (w0 := w) w.heap.size rfl (.tmp 5) (.tmp 6) 24 5 (.int .u8 0) 1 rfl Try.underlying24 info5 rfl (by decide) (by omega) v108 y107 l0 _ _ _ (fun _ => True) (fun _ => False) rfl rfl ?aO ?aR (fun _ _ h => h) (fun _ h => h.elim) ?aF ?aB ?aS ?aL ?_; (case aR => repeat (first | exact (Kd.C_below HR0.out HB.out) | (with_reducible refine Kd.C_alloc ?_ _) | (with_reducible refine Kd.C_drewN ?_ _) | (with_reducible refine Kd.C_drew ?_))); (case aB => exact (by repeat (first | (with_reducible first | exact HB.out | apply below_alloc | apply pw_below_drewN | apply below_drew1) | exact HB.out))); (case aF => exact (fun _ _ => trivial)); (case aO => exact (by (with_reducible repeat (first | apply Kd.R_alloc | apply Kd.R_drewN | apply Kd.R_drew)); exact HO109.out)); (case aS => exact (below_size (by repeat (first | (with_reducible first | exact HB.out | apply below_alloc | apply pw_below_drewN | apply below_drew1) | exact HB.out)))); (case aL => have := LMc2.out; omega); intro v111 w5 ho hb hg hat; rw [← Ny110.out] at ho; have n0_ := Aside0.mk (hb); have n1_ := Aside0.mk (ho); clear HB; clear HO109; have HB := n0_; have HO112 := n1_; clear n0_ n1_; clear ho hb hg hat))
      go_ret
      exact ⟨_, by first | rfl | (simp [errW_none, errW_some] <;> rfl) | (simp [*, errW_none, errW_some] <;> rfl), by (with_reducible repeat (first | apply Kd.R_alloc | apply Kd.R_drewN | apply Kd.R_drew)); exact HO112.out, by repeat (first | (with_reducible first | exact HB.out | apply below_alloc | apply pw_below_drewN | apply below_drew1) | exact HB.out)⟩
  · rw [if_neg c2] at H
    exact absurd H (by simp)

/-! ### sum_folded: function 57 -/
def sum_folded.l0 : Nat → Int → Option (Int)
  | 0, _ => none
  | k + 1, x0 => if x0 > 65535 then (sum_folded.l0 k (IntKind.u64.wrap ((x0 / 65536) + (Go.bits .and .u64 x0 65535)))) else (some x0)
def sum_folded.f (k : Nat) (a0 : Int) : Option (Int) := sum_folded.l0 k a0
theorem sum_folded.mono_l : ∀ k, (∀ y0, LeO (sum_folded.l0 k y0) (sum_folded.l0 (k + 1) y0))
  | 0 => fun _ r h => by simp [sum_folded.l0] at h
  | k + 1 => by
    have ih0 := sum_folded.mono_l k
    · intro y0
      unfold sum_folded.l0
      repeat' first
      | (with_reducible exact ih0 _)
      | (with_reducible exact LeO.refl _)
      | (with_reducible exact LeO.none _)
      | (with_reducible refine LeO.ite ?_ ?_)
      | (with_reducible refine LeO.bind ?_ (fun _ => ?_))
      | exact ih0 _
      | exact LeO.none _
      | refine LeO.ite ?_ ?_
      | refine LeO.bind ?_ (fun _ => ?_)
theorem sum_folded.mono : ∀ a0 k, LeO (sum_folded.f k a0) (sum_folded.f (k + 1) a0) := by
  intro a0 k
  have ih0 := sum_folded.mono_l k
  unfold sum_folded.f
  repeat' first
      | (with_reducible exact ih0 _)
      | (with_reducible exact LeO.refl _)
      | (with_reducible exact LeO.none _)
      | (with_reducible refine LeO.ite ?_ ?_)
      | (with_reducible refine LeO.bind ?_ (fun _ => ?_))
      | exact ih0 _
      | exact LeO.none _
      | refine LeO.ite ?_ ?_
      | refine LeO.bind ?_ (fun _ => ?_)
set_option maxHeartbeats 8000000 in
set_option maxRecDepth 100000 in
theorem sum_folded.calls (k : Nat) (a0 : Int) (r : Int) (w : World) (h : sum_folded.f k a0 = some r) :
    Calls Try.prog 57 #[.int .u64 a0] w fun e w' => e = .returned (.int .u64 r) ∧ Drawn0 w w' := by
  have H : (sum_folded.l0 k a0) = some r := h
  clear h
  have H' := Aside0.mk H
  clear H
  go_enter Try.func57, Try.ntmps57
  go_wp2
  go_loopg [0] k (fun kq v0 w' => ∃ (x0_1 : Int), v0 = .int .u64 x0_1 ∧ Aside0 (sum_folded.l0 kq x0_1 = some r) ∧ Aside0 (kq ≤ k) ∧ Drawn0 w w')
  case atStart => exact ⟨(a0), (by first | rfl | (simp; done) | (simp [*]; done)), H', ⟨Nat.le_refl _⟩, by repeat (first | exact Drawn0.refl _ | apply Drawn0.step)⟩
  case round =>
    clear H'
    obtain ⟨x0_1, rfl, HA, HK1, ⟨m1, rfl⟩⟩ := hrel
    cases gk with
    | zero => exact absurd HA.out (by simp [sum_folded.l0])
    | succ k1 =>
      have H := HA.out
      clear HA
      simp only [sum_folded.l0] at H
      by_cases c2 : x0_1 > 65535
      · rw [if_pos c2] at H
        have c2b0 : decide (65535 < x0_1) = true := decide_eq_true c2
        clear c2
        have H' := Aside0.mk H
        clear H
        go_wp2
        go_roundg k1
        case measure => have := HK1.out; omega
        case rel => exact ⟨(IntKind.u64.wrap ((x0_1 / 65536) + (Go.bits .and .u64 x0_1 65535))), (by first | rfl | (simp; done) | (simp [*]; done)), H', ⟨by have := HK1.out; omega⟩, by repeat (first | exact Drawn0.refl _ | apply Drawn0.step)⟩
      · rw [if_neg c2] at H
        have c2b0 : decide (65535 < x0_1) = false := decide_eq_false c2
        clear c2
        obtain rfl := Option.some.inj H
        go_wp2
        go_ret
        exact ⟨by first | rfl | (simp; done) | (simp [*]; done), by repeat (first | exact Drawn0.refl _ | apply Drawn0.step)⟩

/-! ### sum_Of: function 39 -/
mutual
def sum_Of.l0 : Nat → Int → Bool → List (List Int) → Int → Int → Option (Int)
  | 0, _, _, _, _, _ => none
  | k + 1, x3, x4, x9, x10, x11 => if x11 < x10 then (if 0 ≤ x11 then (if x11 < (x9.length : Int) then (sum_Of.l1 k x3 x4 x9 x10 x11 (rd_L1 x9 x11) ((rd_L1 x9 x11).length : Int) 0) else (none)) else (none)) else ((sum_folded.f k x3).bind fun t113 => (some (wrap64 (IntKind.u64.wrap (65535 - t113)))))
def sum_Of.l1 : Nat → Int → Bool → List (List Int) → Int → Int → List Int → Int → Int → Option (Int)
  | 0, _, _, _, _, _, _, _, _ => none
  | k + 1, x3, x4, x9, x10, x11, x15, x16, x17 => if x17 < x16 then (if 0 ≤ x17 then (if x17 < (x15.length : Int) then (if x4 = true then (sum_Of.l1 k (IntKind.u64.wrap (x3 + (IntKind.u64.wrap (rd x15 x17)))) (!x4) x9 x10 x11 x15 x16 (wrap64 (x17 + 1))) else (sum_Of.l1 k (IntKind.u64.wrap (x3 + (IntKind.u64.wrap ((IntKind.u64.wrap (rd x15 x17)) * 256)))) (!x4) x9 x10 x11 x15 x16 (wrap64 (x17 + 1)))) else (none)) else (none)) else (sum_Of.l0 k x3 x4 x9 x10 (wrap64 (x11 + 1)))
end
def sum_Of.f (k : Nat) (l0 : List (List Int)) : Option (Int) := sum_Of.l0 k 0 false l0 (l0.length : Int) 0
theorem sum_Of.mono_l : ∀ k, (∀ y0 y1 y2 y3 y4, LeO (sum_Of.l0 k y0 y1 y2 y3 y4) (sum_Of.l0 (k + 1) y0 y1 y2 y3 y4)) ∧ (∀ y0 y1 y2 y3 y4 y5 y6 y7, LeO (sum_Of.l1 k y0 y1 y2 y3 y4 y5 y6 y7) (sum_Of.l1 (k + 1) y0 y1 y2 y3 y4 y5 y6 y7))
  | 0 => ⟨fun _ _ _ _ _ r h => by simp [sum_Of.l0] at h, fun _ _ _ _ _ _ _ _ r h => by simp [sum_Of.l1] at h⟩
  | k + 1 => by
    obtain ⟨ih0, ih1⟩ := sum_Of.mono_l k
    refine ⟨?_, ?_⟩
    · intro y0 y1 y2 y3 y4
      unfold sum_Of.l0
      repeat' first
      | (with_reducible exact ih0 _ _ _ _ _)
      | (with_reducible exact ih1 _ _ _ _ _ _ _ _)
      | (with_reducible exact sum_folded.mono _ _)
      | (with_reducible exact LeO.refl _)
      | (with_reducible exact LeO.none _)
      | (with_reducible refine LeO.ite ?_ ?_)
      | (with_reducible refine LeO.bind ?_ (fun _ => ?_))
      | exact ih0 _ _ _ _ _
      | exact ih1 _ _ _ _ _ _ _ _
      | exact sum_folded.mono _ _
      | exact LeO.none _
      | refine LeO.ite ?_ ?_
      | refine LeO.bind ?_ (fun _ => ?_)
    · intro y0 y1 y2 y3 y4 y5 y6 y7
      unfold sum_Of.l1
      repeat' first
      | (with_reducible exact ih0 _ _ _ _ _)
      | (with_reducible exact ih1 _ _ _ _ _ _ _ _)
      | (with_reducible exact sum_folded.mono _ _)
      | (with_reducible exact LeO.refl _)
      | (with_reducible exact LeO.none _)
      | (with_reducible refine LeO.ite ?_ ?_)
      | (with_reducible refine LeO.bind ?_ (fun _ => ?_))
      | exact ih0 _ _ _ _ _
      | exact ih1 _ _ _ _ _ _ _ _
      | exact sum_folded.mono _ _
      | exact LeO.none _
      | refine LeO.ite ?_ ?_
      | refine LeO.bind ?_ (fun _ => ?_)
theorem sum_Of.mono : ∀ a0 k, LeO (sum_Of.f k a0) (sum_Of.f (k + 1) a0) := by
  intro a0 k
  obtain ⟨ih0, ih1⟩ := sum_Of.mono_l k
  unfold sum_Of.f
  repeat' first
      | (with_reducible exact ih0 _ _ _ _ _)
      | (with_reducible exact ih1 _ _ _ _ _ _ _ _)
      | (with_reducible exact sum_folded.mono _ _)
      | (with_reducible exact LeO.refl _)
      | (with_reducible exact LeO.none _)
      | (with_reducible refine LeO.ite ?_ ?_)
      | (with_reducible refine LeO.bind ?_ (fun _ => ?_))
      | exact ih0 _ _ _ _ _
      | exact ih1 _ _ _ _ _ _ _ _
      | exact sum_folded.mono _ _
      | exact LeO.none _
      | refine LeO.ite ?_ ?_
      | refine LeO.bind ?_ (fun _ => ?_)
set_option maxHeartbeats 8000000 in
set_option maxRecDepth 100000 in
theorem sum_Of.calls (k : Nat) (A0 : Option Addr) (c0 : Nat) (l0 : List (List Int)) (r : Int) (w : World) (hr0 : Kd.C (Kd.slice 5 (Kd.int .u8)) w A0 l0.length l0) (hc0 : l0.length ≤ c0) (h : sum_Of.f k l0 = some r) :
    Calls Try.prog 39 #[.slice A0 l0.length c0] w fun e w' => e = .returned (.int .i64 r) ∧ Drawn0 w w' := by
  have HR0 := Aside0.mk hr0
  have HC0 := Aside0.mk hc0
  clear hr0 hc0
  have H : (sum_Of.l0 k 0 false l0 (l0.length : Int) 0) = some r := h
  clear h
  have H' := Aside0.mk H
  clear H
  go_enter Try.func39, Try.ntmps39
  go_wp2
  go_loopg [3, 4, 11] k (fun kq v3 v4 v11 w' => ∃ (x3_1 : Int) (x4_1 : Bool) (x11_1 : Int), v3 = .int .u64 x3_1 ∧ v4 = .bool x4_1 ∧ v11 = .int .i64 x11_1 ∧ Aside0 (sum_Of.l0 kq x3_1 x4_1 l0 (l0.length : Int) x11_1 = some r) ∧ Aside0 (kq ≤ k) ∧ Drawn0 w w')
  case atStart => exact ⟨(0), (false), (0), (by first | rfl | (simp; done) | (simp [*]; done)), (by first | rfl | (simp; done) | (simp [*]; done)), (by first | rfl | (simp; done) | (simp [*]; done)), H', ⟨Nat.le_refl _⟩, by repeat (first | exact Drawn0.refl _ | apply Drawn0.step)⟩
  case round =>
    clear H'
    obtain ⟨x3_1, x4_1, x11_1, rfl, rfl, rfl, HA, HK1, ⟨m1, rfl⟩⟩ := hrel
    cases gk with
    | zero => exact absurd HA.out (by simp [sum_Of.l0])
    | succ k1 =>
      have H := HA.out
      clear HA
      simp only [sum_Of.l0] at H
      by_cases c2 : x11_1 < (l0.length : Int)
      · rw [if_pos c2] at H
        have c2b0 : decide (x11_1 < (l0.length : Int)) = true := decide_eq_true c2
        clear c2
        by_cases c3 : 0 ≤ x11_1
        · rw [if_pos c3] at H
          have c3b0 : decide (0 ≤ x11_1) = true := decide_eq_true c3
          clear c3
          by_cases c4 : x11_1 < (l0.length : Int)
          · rw [if_pos c4] at H
            have c4b0 : decide (x11_1 < (l0.length : Int)) = true := decide_eq_true c4
            clear c4
            have H' := Aside0.mk H
            clear H
            have p114 : 0 ≤ (x11_1 : Int) := of_decide_eq_true (by first | (with_reducible assumption) | assumption)
            have q114 : x11_1 < (l0.length : Int) := of_decide_eq_true (by first | (with_reducible assumption) | assumption)
            obtain ⟨ad114, A114_0, c114_0, e114, hx114_0, hl114_0, hi114_0⟩ := at_L1 HR0.out x11_1 p114 q114
            cases e114
            have HR114_0 := Aside0.mk hi114_0
            have HC114_0 := Aside0.mk hl114_0
            clear hi114_0 hl114_0
            replace p114 := eq_true p114
            replace q114 := eq_true q114
            go_wp2
            go_loopg [3, 4, 17] k1 (fun kq v3 v4 v17 w' => ∃ (x3_2 : Int) (x4_2 : Bool) (x17_2 : Int), v3 = .int .u64 x3_2 ∧ v4 = .bool x4_2 ∧ v17 = .int .i64 x17_2 ∧ Aside0 (sum_Of.l1 kq x3_2 x4_2 l0 (l0.length : Int) x11_1 (rd_L1 l0 x11_1) ((rd_L1 l0 x11_1).length : Int) x17_2 = some r) ∧ Aside0 (kq ≤ k1) ∧ Drawn0 w w')
            case atStart => exact ⟨(x3_1), (x4_1), (0), (by first | rfl | (simp; done) | (simp [*]; done)), (by first | rfl | (simp; done) | (simp [*]; done)), (by first | rfl | (simp; done) | (simp [*]; done)), H', ⟨Nat.le_refl _⟩, by repeat (first | exact Drawn0.refl _ | apply Drawn0.step)⟩
            case round =>
              clear H'
              try clear c1
              try clear p1
              try clear q1
              try clear hx1
              try clear c2
              try clear c2b0
              try clear p2
              try clear c3
              try clear c3b0
              try clear c4
              try clear c4b0
              try clear hx114_0
              try clear p114
              try clear q114
              obtain ⟨x3_2, x4_2, x17_2, rfl, rfl, rfl, HA, HK2, ⟨m2, rfl⟩⟩ := hrel
              cases gk with
              | zero => exact absurd HA.out (by simp [sum_Of.l1])
              | succ k2 =>
                have H := HA.out
                clear HA
                simp only [sum_Of.l1] at H
                by_cases c5 : x17_2 < ((rd_L1 l0 x11_1).length : Int)
                · rw [if_pos c5] at H
                  have c5b0 : decide (x17_2 < ((rd_L1 l0 x11_1).length : Int)) = true := decide_eq_true c5
                  clear c5
                  by_cases c6 : 0 ≤ x17_2
                  · rw [if_pos c6] at H
                    have c6b0 : decide (0 ≤ x17_2) = true := decide_eq_true c6
                    clear c6
                    by_cases c7 : x17_2 < ((rd_L1 l0 x11_1).length : Int)
                    · rw [if_pos c7] at H
                      have c7b0 : decide (x17_2 < ((rd_L1 l0 x11_1).length : Int)) = true := decide_eq_true c7
                      clear c7
                      by_cases c8 : x4_2 = true
                      · subst c8
                        have H1 : (sum_Of.l1 k2 (IntKind.u64.wrap (x3_2 + (IntKind.u64.wrap (rd (rd_L1 l0 x11_1) x17_2)))) (!true) l0 (l0.length : Int) x11_1 (rd_L1 l0 x11_1) ((rd_L1 l0 x11_1).length : Int) (wrap64 (x17_2 + 1))) = some r := by rw [if_pos rfl] at H; exact H
                        clear H
                        have H := H1
                        clear H1
                        have H' := Aside0.mk H
                        clear H
                        have p115 : 0 ≤ (x17_2 : Int) := of_decide_eq_true (by first | (with_reducible assumption) | assumption)
                        have q115 : x17_2 < ((rd_L1 l0 x11_1).length : Int) := of_decide_eq_true (by first | (with_reducible assumption) | assumption)
                        obtain ⟨ad115, e115, hx115_0⟩ := Kd.at_int HR114_0.out x17_2 p115 q115
                        cases e115
                        replace p115 := eq_true p115
                        replace q115 := eq_true q115
                        go_wp2
                        go_roundg k2
                        case measure => have := HK1.out; have := HK2.out; omega
                        case rel => exact ⟨(IntKind.u64.wrap (x3_2 + (IntKind.u64.wrap (rd (rd_L1 l0 x11_1) x17_2)))), (!true), (wrap64 (x17_2 + 1)), (by first | rfl | (simp; done) | (simp [*]; done)), (by first | rfl | (simp; done) | (simp [*]; done)), (by first | rfl | (simp; done) | (simp [*]; done)), H', ⟨by have := HK1.out; have := HK2.out; omega⟩, by repeat (first | exact Drawn0.refl _ | apply Drawn0.step)⟩
                      · replace c8 := Bool.eq_false_iff.mpr c8
                        subst c8
                        have H1 : (sum_Of.l1 k2 (IntKind.u64.wrap (x3_2 + (IntKind.u64.wrap ((IntKind.u64.wrap (rd (rd_L1 l0 x11_1) x17_2)) * 256)))) (!false) l0 (l0.length : Int) x11_1 (rd_L1 l0 x11_1) ((rd_L1 l0 x11_1).length : Int) (wrap64 (x17_2 + 1))) = some r := by rw [if_neg (show ¬ (false = true) by decide)] at H; exact H
                        clear H
                        have H := H1
                        clear H1
                        have H' := Aside0.mk H
                        clear H
                        have p115 : 0 ≤ (x17_2 : Int) := of_decide_eq_true (by first | (with_reducible assumption) | assumption)
                        have q115 : x17_2 < ((rd_L1 l0 x11_1).length : Int) := of_decide_eq_true (by first | (with_reducible assumption) | assumption)
                        obtain ⟨ad115, e115, hx115_0⟩ := Kd.at_int HR114_0.out x17_2 p115 q115
                        cases e115
                        replace p115 := eq_true p115
                        replace q115 := eq_true q115
                        go_wp2
                        go_roundg k2
                        case measure => have := HK1.out; have := HK2.out; omega
                        case rel => exact ⟨(IntKind.u64.wrap (x3_2 + (IntKind.u64.wrap ((IntKind.u64.wrap (rd (rd_L1 l0 x11_1) x17_2)) * 256)))), (!false), (wrap64 (x17_2 + 1)), (by first | rfl | (simp; done) | (simp [*]; done)), (by first | rfl | (simp; done) | (simp [*]; done)), (by first | rfl | (simp; done) | (simp [*]; done)), H', ⟨by have := HK1.out; have := HK2.out; omega⟩, by repeat (first | exact Drawn0.refl _ | apply Drawn0.step)⟩
                    · rw [if_neg c7] at H
                      exact absurd H (by simp)
                  · rw [if_neg c6] at H
                    exact absurd H (by simp)
                · rw [if_neg c5] at H
                  have c5b0 : decide (x17_2 < ((rd_L1 l0 x11_1).length : Int)) = false := decide_eq_false c5
                  clear c5
                  have H' := Aside0.mk H
                  clear H
                  go_wp2
                  go_roundg k2
                  case measure => have := HK1.out; have := HK2.out; omega
                  case rel => exact ⟨(x3_2), (x4_2), (wrap64 (x11_1 + 1)), (by first | rfl | (simp; done) | (simp [*]; done)), (by first | rfl | (simp; done) | (simp [*]; done)), (by first | rfl | (simp; done) | (simp [*]; done)), H', ⟨by have := HK1.out; have := HK2.out; omega⟩, by repeat (first | exact Drawn0.refl _ | apply Drawn0.step)⟩
          · rw [if_neg c4] at H
            exact absurd H (by simp)
        · rw [if_neg c3] at H
          exact absurd H (by simp)
      · rw [if_neg c2] at H
        have c2b0 : decide (x11_1 < (l0.length : Int)) = false := decide_eq_false c2
        clear c2
        replace H := Option.bind_eq_some_iff.mp H
        obtain ⟨t113, A90, H⟩ := H
        replace H : (some (wrap64 (IntKind.u64.wrap (65535 - t113)))) = some r := H
        have A9 := Aside0.mk A90
        clear A90
        obtain rfl := Option.some.inj H
        go_wp2_with (first | ((with_reducible refine gate_callee (f := 57) rfl ?_); refine goesL_ (some 36) rfl rfl Try.func57 (by kernel_rfl) rfl #[.int .u64 x3_1] rfl (by (try simp only [List.map_toArray, List.map_cons, List.map_nil]); first | done | rfl | (simp only [List.length_drop, List.length_take]; rfl)) ?_; (with_reducible refine (sum_folded.calls k1 x3_1 t113 _ A9.out).mono ?_); rintro e w' ⟨rfl, ⟨nd, rfl⟩⟩; refine ⟨_, rfl, ?_⟩))
        go_ret
        exact ⟨by first | rfl | (simp; done) | (simp [*]; done), by repeat (first | exact Drawn0.refl _ | apply Drawn0.step)⟩

/-! ### sum_Right: function 61 -/
def sum_Right.f (k : Nat) (l0 : List Int) : Option (Bool) := (sum_Of.f k (([l0] : List (List Int)))).bind fun t119 => (some (t119 == 0))
theorem sum_Right.mono : ∀ a0 k, LeO (sum_Right.f k a0) (sum_Right.f (k + 1) a0) := by
  intro a0 k
  unfold sum_Right.f
  repeat' first
      | (with_reducible exact sum_Of.mono _ _)
      | (with_reducible exact LeO.refl _)
      | (with_reducible exact LeO.none _)
      | (with_reducible refine LeO.ite ?_ ?_)
      | (with_reducible refine LeO.bind ?_ (fun _ => ?_))
      | exact sum_Of.mono _ _
      | exact LeO.none _
      | refine LeO.ite ?_ ?_
      | refine LeO.bind ?_ (fun _ => ?_)
set_option maxHeartbeats 8000000 in
set_option maxRecDepth 100000 in
theorem sum_Right.calls (k : Nat) (P0_ : Nat → Prop) (A0 : Option Addr) (c0 : Nat) (l0 : List Int) (r : Bool) (w : World) (hs0 : Kd.V (Kd.int .u8) 5 w w.heap.size (fun k_ => P0_ k_) (.slice A0 l0.length c0) l0) (h : sum_Right.f k l0 = some r) :
    Calls Try.prog 61 #[.slice A0 l0.length c0] w fun e w' => e = .returned (.bool r) ∧ Below w.heap.size w w' := by
  have HO0 := Aside0.mk (show Kd.V (Kd.int .u8) 5 w w.heap.size (fun k_ => (P0_ k_ ∨ w.heap.size ≤ k_)) (.slice A0 l0.length c0) l0 from Kd.V_mono hs0 (fun k_ hk => .inl hk))
  have HB := Aside0.mk (Below.refl w.heap.size w)
  have H : ((sum_Of.f k (([l0] : List (List Int)))).bind fun t119 => (some (t119 == 0))) = some r := h
  clear h
  obtain ⟨y116, hy116⟩ : ∃ y_ : List (List Int), y_ = (([l0] : List (List Int))) := ⟨_, rfl⟩
  replace H : ((sum_Of.f k y116).bind fun t119 => (some (t119 == 0))) = some r := by first | (rw [hy116]; with_reducible exact H) | (have H2_ := (Option.bind_some _ _).symm.trans H; rw [hy116]; with_reducible exact H2_) | (have H2_ := (Option.bind_some _ _).symm.trans H; with_reducible exact H2_) | with_reducible exact H | (rw [hy116]; exact H) | exact H
  have Ny116 := Aside0.mk hy116
  clear hy116
  replace H := Option.bind_eq_some_iff.mp H
  obtain ⟨t119, A20, H⟩ := H
  replace H : (some (t119 == 0)) = some r := H
  have A2 := Aside0.mk A20
  clear A20
  obtain rfl := Option.some.inj H
  go_enter Try.func61, Try.ntmps61
  go_wp2_with (first | ((with_reducible refine gate_dst (N := 4) rfl ?_); refine Kd.N_lit (Kd.slice 5 (Kd.int .u8)) _ 24 ?hg (N' := 4) ?hd (xs := ([l0] : List (List Int))) (inner := [.slice A0 l0.length c0]) (ok := (fun k_ => (P0_ k_ ∨ w.heap.size ≤ k_))) (okp := (fun k_ => (P0_ k_ ∨ w.heap.size ≤ k_))) ?hr ?hp (fun _ hk => hk) ((show ∀ k_, w.heap.size ≤ k_ → (fun k_ => (P0_ k_ ∨ w.heap.size ≤ k_)) k_ from fun k_ hk => (.inr (Nat.le_trans (below_size (by repeat (first | (with_reducible first | exact HB.out | apply below_alloc | apply pw_below_drewN | apply below_drew1) | exact HB.out))) hk))) _ (Nat.le_refl _)) (Below.refl _ _) (Nat.le_refl _) (by simp) ?_; (case hd => rfl); (case hg => rfl); (case hr => first | (go_simp; done) | (go_simp; rfl)); (case hp => exact (Reps.one (show Kd.FK (Kd.slice 5 (Kd.int .u8)) _ _ l0 [.slice A0 l0.length c0] from (by first | exact Kd.FK_slice_mk (Kd.V_reads' (e := 0) (base := 0) (Kd.V_mono (ok' := (fun k_ => (P0_ k_ ∨ w.heap.size ≤ k_))) (HO0.out) (fun k_ hk => hk))).2.1 (Kd.V_F (e := 0) (base := 0) (Kd.V_mono (ok' := (fun k_ => (P0_ k_ ∨ w.heap.size ≤ k_))) (HO0.out) (fun k_ hk => hk))) | exact FK_slice_of (Kd.V_reads' (e := 0) (base := 0) (Kd.V_mono (ok' := (fun k_ => (P0_ k_ ∨ w.heap.size ≤ k_))) (HO0.out) (fun k_ hk => hk))).1 (Kd.V_reads' (e := 0) (base := 0) (Kd.V_mono (ok' := (fun k_ => (P0_ k_ ∨ w.heap.size ≤ k_))) (HO0.out) (fun k_ hk => hk))).2.1 (Kd.V_F (e := 0) (base := 0) (Kd.V_mono (ok' := (fun k_ => (P0_ k_ ∨ w.heap.size ≤ k_))) (HO0.out) (fun k_ hk => hk))))) (Reps.none _ _))); intro v117 w3 ho4 hb hg_ hnew_; clear hg_ hnew_; (first | rw [← Ny116.out] at ho4 | (simp only [Int.reduceToNat] at ho4; rw [← Ny116.out] at ho4)); have n0_ := Aside0.mk (Kd.V_elder' (by (with_reducible repeat (first | apply Kd.V_alloc | apply Kd.V_drewN | apply Kd.V_drew)); exact HO0.out) (Kd.N_base ho4) hb); have n1_ := Aside0.mk (Kd.N_lower ho4 (below_size (by repeat (first | (with_reducible first | exact HB.out | apply below_alloc | apply pw_below_drewN | apply below_drew1) | exact HB.out)))); have n2_ := Aside0.mk (below_step (by repeat (first | (with_reducible first | exact HB.out | apply below_alloc | apply pw_below_drewN | apply below_drew1) | exact HB.out)) hb); clear HO0; clear HB; have HO0 := n0_; have HO118 := n1_; have HB := n2_; clear n0_ n1_ n2_; clear hb ho4; obtain ⟨Ao5, co5, eo5⟩ := Kd.N_slice HO118.out; subst eo5) | ((with_reducible refine gate_callee (f := 39) rfl ?_); refine goesL_ (some 5) rfl rfl Try.func39 (by kernel_rfl) rfl #[.slice Ao5 y116.length co5] rfl (by (try simp only [List.map_toArray, List.map_cons, List.map_nil]); first | done | rfl | (simp only [List.length_drop, List.length_take]; rfl)) ?_; (with_reducible refine (sum_Of.calls k _ _ y116 t119 _ ?side1 ?side2 A2.out).mono ?_); (case side1 => repeat (first | exact (Kd.N_reads' HO118.out).2.2 | (with_reducible refine Kd.C_alloc ?_ _) | (with_reducible refine Kd.C_drewN ?_ _) | (with_reducible refine Kd.C_drew ?_))); (case side2 => exact (Kd.N_reads' HO118.out).2.1); rintro e w' ⟨rfl, ⟨nd, rfl⟩⟩; refine ⟨_, rfl, ?_⟩))
  go_ret
  exact ⟨by first | rfl | (simp [errW_none, errW_some] <;> rfl) | (simp [*, errW_none, errW_some] <;> rfl), by repeat (first | (with_reducible first | exact HB.out | apply below_alloc | apply pw_below_drewN | apply below_drew1) | exact HB.out)⟩

end Go.Proofs.Ytbpnienknijogaa.QIpBuilds
