-- written by myprint.py, a program of this session's over the kit's printer
import Derived.Test.YtbpnienknijogaaQUdpTellsx0
import Derived.Test.YtbpnienknijogaaQUdpTellsx2
import Derived.Test.YtbpnienknijogaaQUdpTellsx3
import Derived.Test.YtbpnienknijogaaQUdpTellsx4
import Derived.Test.YtbpnienknijogaaQUdpTellsx5
import Derived.Test.YtbpnienknijogaaQUdpTellsx6
namespace Go.Proofs.Ytbpnienknijogaa.QUdpTells
open Go.RowKit Go.Proofs.YtbpnienknijogaaW.PrintWords Go.Proofs.YtbpnienknijogaaW.PrintLast Go.Proofs.YtbpnienknijogaaW.PrintMore
attribute [local go_sem] max2_int min2_int max_two min_two max_three min_three max_four min_four   -- for this text's walks alone
set_option linter.unusedVariables false
set_option linter.unusedSimpArgs false

/-! ### castellanlaw6_UdpTells: function 6 -/
def castellanlaw6_UdpTells.j0 : Nat → List Int → Int → Int → Bool → Int → Int → List Int → Int → Int → List Int → Option (Bool)
  | 0, _, _, _, _, _, _, _, _, _, _ => none
  | k + 1, x0, x1, x2, x33, x298000, x298001, x298002, x299000, x299001, x299002 => if x33 = true then (some true) else ((udp_Parse.f x0).bind fun bt299 => ((castellanref6_Parse.f x0).bind fun bt306 => ((udp_Build.f k x1 x2 x298000 x298001 x298002).bind fun bt313 => ((castellanref6_Build.f k x1 x2 x298000 x298001 x298002).bind fun bt317 => ((castellanref6_Same.f bt299.1 bt299.2.1 bt299.2.2.1 bt306.1 bt306.2.1 bt306.2.2.1).bind fun t321 => (if t321 = true then (if bt299.2.2.2 = bt306.2.2.2 then (if (strOfNums bt313.1).toList = (strOfNums bt317.1).toList then (if bt313.2 = bt317.2 then ((udp_Same.f x298000 x298001 x298002 x299000 x299001 x299002).bind fun t322 => ((castellanref6_Same.f x298000 x298001 x298002 x299000 x299001 x299002).bind fun t323 => (if (t322 == t323) = true then ((castellanlaw6_known.f k).bind fun t324 => (some t324)) else (some false)))) else (some false)) else (some false)) else (some false)) else (some false)))))))
def castellanlaw6_UdpTells.f (k : Nat) (l0 : List Int) (a1 : Int) (a2 : Int) (a3_0 : Int) (a3_1 : Int) (l3_2 : List Int) (a4_0 : Int) (a4_1 : Int) (l4_2 : List Int) : Option (Bool) := if (l0.length : Int) > 2000 then (castellanlaw6_UdpTells.j0 k l0 a1 a2 true a3_0 a3_1 l3_2 a4_0 a4_1 l4_2) else (if (l3_2.length : Int) > 1500 then (castellanlaw6_UdpTells.j0 k l0 a1 a2 true a3_0 a3_1 l3_2 a4_0 a4_1 l4_2) else (castellanlaw6_UdpTells.j0 k l0 a1 a2 (decide ((l4_2.length : Int) > 1500)) a3_0 a3_1 l3_2 a4_0 a4_1 l4_2))
theorem castellanlaw6_UdpTells.mono_l : ∀ k, (∀ y0 y1 y2 y3 y4 y5 y6 y7 y8 y9, LeO (castellanlaw6_UdpTells.j0 k y0 y1 y2 y3 y4 y5 y6 y7 y8 y9) (castellanlaw6_UdpTells.j0 (k + 1) y0 y1 y2 y3 y4 y5 y6 y7 y8 y9))
  | 0 => fun _ _ _ _ _ _ _ _ _ _ r h => by simp [castellanlaw6_UdpTells.j0] at h
  | k + 1 => by
    have ih0 := castellanlaw6_UdpTells.mono_l k
    · intro y0 y1 y2 y3 y4 y5 y6 y7 y8 y9
      unfold castellanlaw6_UdpTells.j0
      repeat' first
      | (with_reducible exact ih0 _ _ _ _ _ _ _ _ _ _)
      | (with_reducible exact castellanlaw6_known.mono _)
      | (with_reducible exact castellanref6_Build.mono _ _ _ _ _ _)
      | (with_reducible exact udp_Build.mono _ _ _ _ _ _)
      | (with_reducible exact LeO.refl _)
      | (with_reducible exact LeO.none _)
      | (with_reducible refine LeO.ite ?_ ?_)
      | (with_reducible refine LeO.bind ?_ (fun _ => ?_))
      | exact ih0 _ _ _ _ _ _ _ _ _ _
      | exact castellanlaw6_known.mono _
      | exact castellanref6_Build.mono _ _ _ _ _ _
      | exact udp_Build.mono _ _ _ _ _ _
      | exact LeO.none _
      | refine LeO.ite ?_ ?_
      | refine LeO.bind ?_ (fun _ => ?_)
theorem castellanlaw6_UdpTells.mono : ∀ a0 a1 a2 a3 a4 a5 a6 a7 a8 k, LeO (castellanlaw6_UdpTells.f k a0 a1 a2 a3 a4 a5 a6 a7 a8) (castellanlaw6_UdpTells.f (k + 1) a0 a1 a2 a3 a4 a5 a6 a7 a8) := by
  intro a0 a1 a2 a3 a4 a5 a6 a7 a8 k
  have ih0 := castellanlaw6_UdpTells.mono_l k
  unfold castellanlaw6_UdpTells.f
  repeat' first
      | (with_reducible exact ih0 _ _ _ _ _ _ _ _ _ _)
      | (with_reducible exact castellanlaw6_known.mono _)
      | (with_reducible exact castellanref6_Build.mono _ _ _ _ _ _)
      | (with_reducible exact udp_Build.mono _ _ _ _ _ _)
      | (with_reducible exact LeO.refl _)
      | (with_reducible exact LeO.none _)
      | (with_reducible refine LeO.ite ?_ ?_)
      | (with_reducible refine LeO.bind ?_ (fun _ => ?_))
      | exact ih0 _ _ _ _ _ _ _ _ _ _
      | exact castellanlaw6_known.mono _
      | exact castellanref6_Build.mono _ _ _ _ _ _
      | exact udp_Build.mono _ _ _ _ _ _
      | exact LeO.none _
      | refine LeO.ite ?_ ?_
      | refine LeO.bind ?_ (fun _ => ?_)
def castellanlaw6_UdpTells.T7 : Bool × List (List Nat × List Nat) := (true, [([], []), ([], []), ([0, 1], [0, 1]), ([2, 2], [2]), ([3], [3]), ([3], [3]), ([4, 5, 3], [3, 4, 5]), ([3, 6], [3, 6]), ([7, 3], [7]), ([8], [8]), ([9, 8], [8, 9]), ([8], [8]), ([11, 8], [8, 11]), ([10, 12, 8], [8, 10, 12]), ([8, 13], [8, 13]), ([14, 8], [14]), ([15], [15]), ([15], [15]), ([16, 17, 15], [15, 16, 17]), ([15, 18], [15, 18]), ([19, 15], [19]), ([20], [20]), ([20], [20]), ([21, 22, 20, 20], [20, 21, 22]), ([20], [20]), ([20], [20]), ([24, 25, 23, 20], [20, 24, 25]), ([23, 26, 20], [20, 23, 26]), ([20, 27], [20, 27]), ([28, 26], [28]), ([29, 29], [29]), ([29, 30], [29, 30]), ([31, 30, 0, 1, 2, 3, 4, 5, 6, 7, 8, 9, 10, 11, 12, 13, 14, 15, 16, 17, 18, 19, 20, 21, 22, 23, 24, 25, 26, 27, 28, 29, 30, 31], [31])])
def castellanlaw6_UdpTells.B7 : List Nat := [0, 0, 3, 7, 15, 15, 63, 127, 255, 511, 1023, 511, 2559, 8191, 16383, 32767, 65535, 65535, 262143, 524287, 1048575, 2097151, 2097151, 8388607, 2097151, 2097151, 67108863, 134217727, 268435455, 536870911, 1073741823, 2147483647, 4294967295]
theorem castellanlaw6_UdpTells.tab7 : rtab .any (opsOf Try.f6 7) = castellanlaw6_UdpTells.T7 := by kernel_rfl
theorem castellanlaw6_UdpTells.bits7 : waitsOk castellanlaw6_UdpTells.T7.2 castellanlaw6_UdpTells.B7 = true := by kernel_rfl
set_option maxHeartbeats 8000000 in
set_option maxRecDepth 100000 in
theorem castellanlaw6_UdpTells.calls (k : Nat) (A0 : Option Addr) (c0 : Nat) (l0 : List Int) (a1 : Int) (a2 : Int) (a3_0 : Int) (a3_1 : Int) (A3_2 : Option Addr) (c3_2 : Nat) (l3_2 : List Int) (a4_0 : Int) (a4_1 : Int) (A4_2 : Option Addr) (c4_2 : Nat) (l4_2 : List Int) (r : Bool) (w : World) (hr0 : Kd.C (Kd.int .u8) w A0 l0.length l0) (hc0 : l0.length ≤ c0) (hr3_2 : Kd.C (Kd.int .u8) w A3_2 l3_2.length l3_2) (hc3_2 : l3_2.length ≤ c3_2) (hr4_2 : Kd.C (Kd.int .u8) w A4_2 l4_2.length l4_2) (hc4_2 : l4_2.length ≤ c4_2) (hrt : r = true) (h : castellanlaw6_UdpTells.f k l0 a1 a2 a3_0 a3_1 l3_2 a4_0 a4_1 l4_2 = some r) :
    Calls Try.prog 6 #[.slice A0 l0.length c0, .int .u32 a1, .int .u32 a2, .agg #[.int .i64 a3_0, .int .i64 a3_1, .slice A3_2 l3_2.length c3_2], .agg #[.int .i64 a4_0, .int .i64 a4_1, .slice A4_2 l4_2.length c4_2]] w fun e w' => e = .returned (.bool r) ∧ Below w.heap.size w w' := by
  have hu26 := Try.underlying26
  have HRT := Aside0.mk hrt
  clear hrt
  have HR0 := Aside0.mk hr0
  have HC0 := Aside0.mk hc0
  clear hr0 hc0
  have HR3_2 := Aside0.mk hr3_2
  have HC3_2 := Aside0.mk hc3_2
  clear hr3_2 hc3_2
  have HR4_2 := Aside0.mk hr4_2
  have HC4_2 := Aside0.mk hc4_2
  clear hr4_2 hc4_2
  have HB := Aside0.mk (Below.refl w.heap.size w)
  have H : (if (l0.length : Int) > 2000 then (castellanlaw6_UdpTells.j0 k l0 a1 a2 true a3_0 a3_1 l3_2 a4_0 a4_1 l4_2) else (if (l3_2.length : Int) > 1500 then (castellanlaw6_UdpTells.j0 k l0 a1 a2 true a3_0 a3_1 l3_2 a4_0 a4_1 l4_2) else (castellanlaw6_UdpTells.j0 k l0 a1 a2 (decide ((l4_2.length : Int) > 1500)) a3_0 a3_1 l3_2 a4_0 a4_1 l4_2))) = some r := h
  clear h
  have HC6 := Aside0.mk H
  clear H
  go_enter Try.func6, Try.ntmps6
  go_upto_region 1 with (first | ((with_reducible refine gate_dst (N := 8) rfl ?_); (try (refine gate_guard (by rfl) ?_; dsimp only)); refine box_event ?hg (N := 8) ?hd (cs := #[.int .i64 a3_0, .int .i64 a3_1, .slice A3_2 l3_2.length c3_2]) (t := 26) ?hr ?_; (case hd => rfl); (case hg => rfl); (case hr => first | (go_simp; done) | (go_simp; rfl)); intro gb297 hg w7 hbox hb; have n0_ := Aside0.mk (below_step (by repeat (first | (with_reducible first | exact HB.out | apply below_alloc | apply pw_below_drewN | apply below_drew1) | exact HB.out)) hb); have n1_ := Aside0.mk (hbox); have n2_ := Aside0.mk ((by rw [hg]; exact (below_size (by repeat (first | (with_reducible first | exact HB.out | apply below_alloc | apply pw_below_drewN | apply below_drew1) | exact HB.out))) : w.heap.size ≤ gb297)); have n3_ := Aside0.mk ((by rw [hg]; exact (below_size (by repeat (first | (with_reducible first | exact HB.out | apply below_alloc | apply pw_below_drewN | apply below_drew1) | exact HB.out))) : w.heap.size ≤ gb297)); clear HB; have HB := n0_; have BK297 := n1_; have GW297 := n2_; have GE297 := n3_; clear n0_ n1_ n2_ n3_; clear hb hbox hg) | ((with_reducible refine gate_dst (N := 9) rfl ?_); (try (refine gate_guard (by rfl) ?_; dsimp only)); refine box_event ?hg (N := 9) ?hd (cs := #[.int .i64 a4_0, .int .i64 a4_1, .slice A4_2 l4_2.length c4_2]) (t := 26) ?hr ?_; (case hd => rfl); (case hg => rfl); (case hr => first | (go_simp; done) | (go_simp; rfl)); intro gb298 hg w8 hbox hb; have n0_ := Aside0.mk (blk_below (g := gb297) (o := .cells #[.int .i64 a3_0, .int .i64 a3_1, .slice A3_2 l3_2.length c3_2] 26 (0, 0)) (by (with_reducible repeat (first | refine blk_drewN ?_ _ | refine blk_drew ?_ | refine blk_alloc ?_ _)); exact BK297.out) hb); have n1_ := Aside0.mk (below_step (by repeat (first | (with_reducible first | exact HB.out | apply below_alloc | apply pw_below_drewN | apply below_drew1 | refine below_set ?_ GE297.out) | exact HB.out)) hb); have n2_ := Aside0.mk (hbox); have n3_ := Aside0.mk ((by rw [hg]; exact (below_size (by repeat (first | (with_reducible first | exact HB.out | apply below_alloc | apply pw_below_drewN | apply below_drew1 | refine below_set ?_ GE297.out) | exact HB.out))) : w.heap.size ≤ gb298)); have n4_ := Aside0.mk ((by rw [hg]; exact (below_size (by repeat (first | (with_reducible first | exact HB.out | apply below_alloc | apply pw_below_drewN | apply below_drew1 | refine below_set ?_ GE297.out) | exact HB.out))) : w.heap.size ≤ gb298)); have n5_ := Aside0.mk ((by rw [hg]; exact Nat.ne_of_lt (blk_lt (g := gb297) (o := .cells #[.int .i64 a3_0, .int .i64 a3_1, .slice A3_2 l3_2.length c3_2] 26 (0, 0)) (by (with_reducible repeat (first | refine blk_drewN ?_ _ | refine blk_drew ?_ | refine blk_alloc ?_ _)); exact BK297.out)) : gb297 ≠ gb298)); have n6_ := Aside0.mk ((by rw [hg]; exact Nat.ne_of_gt (blk_lt (g := gb297) (o := .cells #[.int .i64 a3_0, .int .i64 a3_1, .slice A3_2 l3_2.length c3_2] 26 (0, 0)) (by (with_reducible repeat (first | refine blk_drewN ?_ _ | refine blk_drew ?_ | refine blk_alloc ?_ _)); exact BK297.out)) : gb298 ≠ gb297)); clear BK297; clear HB; have BK297 := n0_; have HB := n1_; have BK298 := n2_; have GW298 := n3_; have GE298 := n4_; have NB297_298 := n5_; have NB298_297 := n6_; clear n0_ n1_ n2_ n3_ n4_ n5_ n6_; clear hb hbox hg))
  (try simp only [Act.put, List.setIfInBounds_toArray, List.set_cons_zero, List.set_cons_succ])
  go_cut [33] (fun v33 wc => ∃ (kq : Nat) (x33_5 : Bool), v33 = .bool x33_5 ∧ Aside0 (castellanlaw6_UdpTells.j0 kq l0 a1 a2 x33_5 a3_0 a3_1 l3_2 a4_0 a4_1 l4_2 = some r) ∧ Aside0 (kq ≤ k) ∧ Aside0 (wc.heap[gb297]? = some (.cells #[.int .i64 a3_0, .int .i64 a3_1, (.slice A3_2 l3_2.length c3_2)] 26 (0, 0))) ∧ Aside0 (wc.heap[gb298]? = some (.cells #[.int .i64 a4_0, .int .i64 a4_1, (.slice A4_2 l4_2.length c4_2)] 26 (0, 0))) ∧ Aside0 (Below w.heap.size w wc))
  case first =>
    have H := HC6.out
    clear HC6
    by_cases c9 : (l0.length : Int) > 2000
    · rw [if_pos c9] at H
      have c9b0 : decide (2000 < (l0.length : Int)) = true := decide_eq_true c9
      have c9b1 : decide (2000 < l0.length) = true := decide_eq_true (by omega)
      clear c9
      (first | rw [c9b0] | (simp only [i64_w, i32_w]; rw [c9b0]) | skip)
      have H' := Aside0.mk H
      clear H
      go_wp2
      go_meet
      case rel => exact ⟨_, (true), (by first | rfl | (simp; done) | (simp [*]; done)), H', ⟨by first | omega | exact Nat.le_refl _⟩, ⟨by (with_reducible repeat (first | refine blk_drewN ?_ _ | refine blk_drew ?_ | refine blk_alloc ?_ _)); exact BK297.out⟩, ⟨by (with_reducible repeat (first | refine blk_drewN ?_ _ | refine blk_drew ?_ | refine blk_alloc ?_ _)); exact BK298.out⟩, ⟨by repeat (first | (with_reducible first | exact HB.out | apply below_alloc | apply pw_below_drewN | apply below_drew1 | refine below_set ?_ GE297.out | refine below_set ?_ GE298.out) | exact HB.out)⟩⟩
    · rw [if_neg c9] at H
      have c9b0 : decide (2000 < (l0.length : Int)) = false := decide_eq_false c9
      have c9b1 : decide (2000 < l0.length) = false := decide_eq_false (by omega)
      clear c9
      (first | rw [c9b0] | (simp only [i64_w, i32_w]; rw [c9b0]) | skip)
      by_cases c10 : (l3_2.length : Int) > 1500
      · rw [if_pos c10] at H
        have c10b0 : decide (1500 < (l3_2.length : Int)) = true := decide_eq_true c10
        have c10b1 : decide (1500 < l3_2.length) = true := decide_eq_true (by omega)
        clear c10
        have H' := Aside0.mk H
        clear H
        have hnb11 := NB297_298.out
        have hnc11 := NB298_297.out
        have hcz12_0 : w8.cell? ⟨gb297, 0, none⟩ = some (.int .i64 a3_0) := (blk_cell BK297.out 0).trans rfl
        have hcz12_1 : w8.cell? ⟨gb297, 1, none⟩ = some (.int .i64 a3_1) := (blk_cell BK297.out 1).trans rfl
        have hcz12_2 : w8.cell? ⟨gb297, 2, none⟩ = some (.slice A3_2 l3_2.length c3_2) := (blk_cell BK297.out 2).trans rfl
        have hfz12_0 := blk_frozen BK297.out 0
        have hfz12_1 := blk_frozen BK297.out 1
        have hfz12_2 := blk_frozen BK297.out 2
        go_wp2
        go_meet
        case rel => exact ⟨_, (true), (by first | rfl | (simp; done) | (simp [*]; done)), H', ⟨by first | omega | exact Nat.le_refl _⟩, ⟨by (with_reducible repeat (first | refine blk_drewN ?_ _ | refine blk_drew ?_ | refine blk_alloc ?_ _)); exact BK297.out⟩, ⟨by (with_reducible repeat (first | refine blk_drewN ?_ _ | refine blk_drew ?_ | refine blk_alloc ?_ _)); exact BK298.out⟩, ⟨by repeat (first | (with_reducible first | exact HB.out | apply below_alloc | apply pw_below_drewN | apply below_drew1 | refine below_set ?_ GE297.out | refine below_set ?_ GE298.out) | exact HB.out)⟩⟩
      · rw [if_neg c10] at H
        have c10b0 : decide (1500 < (l3_2.length : Int)) = false := decide_eq_false c10
        have c10b1 : decide (1500 < l3_2.length) = false := decide_eq_false (by omega)
        clear c10
        have H' := Aside0.mk H
        clear H
        have hnb13 := NB297_298.out
        have hnc13 := NB298_297.out
        have hcz14_0 : w8.cell? ⟨gb297, 0, none⟩ = some (.int .i64 a3_0) := (blk_cell BK297.out 0).trans rfl
        have hcz14_1 : w8.cell? ⟨gb297, 1, none⟩ = some (.int .i64 a3_1) := (blk_cell BK297.out 1).trans rfl
        have hcz14_2 : w8.cell? ⟨gb297, 2, none⟩ = some (.slice A3_2 l3_2.length c3_2) := (blk_cell BK297.out 2).trans rfl
        have hfz14_0 := blk_frozen BK297.out 0
        have hfz14_1 := blk_frozen BK297.out 1
        have hfz14_2 := blk_frozen BK297.out 2
        have hcz15_0 : w8.cell? ⟨gb298, 0, none⟩ = some (.int .i64 a4_0) := (blk_cell BK298.out 0).trans rfl
        have hcz15_1 : w8.cell? ⟨gb298, 1, none⟩ = some (.int .i64 a4_1) := (blk_cell BK298.out 1).trans rfl
        have hcz15_2 : w8.cell? ⟨gb298, 2, none⟩ = some (.slice A4_2 l4_2.length c4_2) := (blk_cell BK298.out 2).trans rfl
        have hfz15_0 := blk_frozen BK298.out 0
        have hfz15_1 := blk_frozen BK298.out 1
        have hfz15_2 := blk_frozen BK298.out 2
        go_wp2
        go_meet
        case rel => exact ⟨_, (decide ((l4_2.length : Int) > 1500)), (by first | rfl | (simp; done) | (simp [*]; done)), H', ⟨by first | omega | exact Nat.le_refl _⟩, ⟨by (with_reducible repeat (first | refine blk_drewN ?_ _ | refine blk_drew ?_ | refine blk_alloc ?_ _)); exact BK297.out⟩, ⟨by (with_reducible repeat (first | refine blk_drewN ?_ _ | refine blk_drew ?_ | refine blk_alloc ?_ _)); exact BK298.out⟩, ⟨by repeat (first | (with_reducible first | exact HB.out | apply below_alloc | apply pw_below_drewN | apply below_drew1 | refine below_set ?_ GE297.out | refine below_set ?_ GE298.out) | exact HB.out)⟩⟩
  case rest =>
    clear HC6
    try clear c1
    try clear p2
    try clear c3
    try clear c4
    try clear c6
    try clear c9
    try clear c9b0
    try clear c9b1
    try clear c10
    try clear c10b0
    try clear c10b1
    try clear c11
    try clear c13
    try clear hcz12_0
    try clear hcz12_1
    try clear hcz12_2
    try clear hcz14_0
    try clear hcz14_1
    try clear hcz14_2
    try clear hcz15_0
    try clear hcz15_1
    try clear hcz15_2
    try clear hfz12_0
    try clear hfz12_1
    try clear hfz12_2
    try clear hfz14_0
    try clear hfz14_1
    try clear hfz14_2
    try clear hfz15_0
    try clear hfz15_1
    try clear hfz15_2
    obtain ⟨kq, x33_5, rfl, HA, HJ5, BK297, BK298, HB⟩ := hcut
    cases kq with
    | zero => exact absurd HA.out (by simp [castellanlaw6_UdpTells.j0])
    | succ kj5 =>
      have H := HA.out
      clear HA
      simp only [castellanlaw6_UdpTells.j0] at H
      by_cases c16 : x33_5 = true
      · subst c16
        have H1 : (some true) = some r := by rw [if_pos rfl] at H; exact H
        clear H
        have H := H1
        clear H1
        obtain rfl := Option.some.inj H
        go_wp2
        go_ret
        exact ⟨by first | rfl | (simp [errW_none, errW_some] <;> rfl) | (simp [*, errW_none, errW_some] <;> rfl), by repeat (first | (with_reducible first | exact HB.out | apply below_alloc | apply pw_below_drewN | apply below_drew1 | refine below_set ?_ GE297.out | refine below_set ?_ GE298.out) | exact HB.out)⟩
      · replace c16 := Bool.eq_false_iff.mpr c16
        subst c16
        have H1 : ((udp_Parse.f l0).bind fun bt299 => ((castellanref6_Parse.f l0).bind fun bt306 => ((udp_Build.f kj5 a1 a2 a3_0 a3_1 l3_2).bind fun bt313 => ((castellanref6_Build.f kj5 a1 a2 a3_0 a3_1 l3_2).bind fun bt317 => ((castellanref6_Same.f bt299.1 bt299.2.1 bt299.2.2.1 bt306.1 bt306.2.1 bt306.2.2.1).bind fun t321 => (if t321 = true then (if bt299.2.2.2 = bt306.2.2.2 then (if (strOfNums bt313.1).toList = (strOfNums bt317.1).toList then (if bt313.2 = bt317.2 then ((udp_Same.f a3_0 a3_1 l3_2 a4_0 a4_1 l4_2).bind fun t322 => ((castellanref6_Same.f a3_0 a3_1 l3_2 a4_0 a4_1 l4_2).bind fun t323 => (if (t322 == t323) = true then ((castellanlaw6_known.f kj5).bind fun t324 => (some t324)) else (some false)))) else (some false)) else (some false)) else (some false)) else (some false))))))) = some r := by rw [if_neg (show ¬ (false = true) by decide)] at H; exact H
        clear H
        have H := H1
        clear H1
        replace H := Option.bind_eq_some_iff.mp H
        obtain ⟨⟨t299, t300, t301, t304⟩, A170, H⟩ := H
        replace H : ((castellanref6_Parse.f l0).bind fun bt306 => ((udp_Build.f kj5 a1 a2 a3_0 a3_1 l3_2).bind fun bt313 => ((castellanref6_Build.f kj5 a1 a2 a3_0 a3_1 l3_2).bind fun bt317 => ((castellanref6_Same.f t299 t300 t301 bt306.1 bt306.2.1 bt306.2.2.1).bind fun t321 => (if t321 = true then (if t304 = bt306.2.2.2 then (if (strOfNums bt313.1).toList = (strOfNums bt317.1).toList then (if bt313.2 = bt317.2 then ((udp_Same.f a3_0 a3_1 l3_2 a4_0 a4_1 l4_2).bind fun t322 => ((castellanref6_Same.f a3_0 a3_1 l3_2 a4_0 a4_1 l4_2).bind fun t323 => (if (t322 == t323) = true then ((castellanlaw6_known.f kj5).bind fun t324 => (some t324)) else (some false)))) else (some false)) else (some false)) else (some false)) else (some false)))))) = some r := H
        have A17 := Aside0.mk A170
        clear A170
        replace H := Option.bind_eq_some_iff.mp H
        obtain ⟨⟨t306, t307, t308, t311⟩, A180, H⟩ := H
        replace H : ((udp_Build.f kj5 a1 a2 a3_0 a3_1 l3_2).bind fun bt313 => ((castellanref6_Build.f kj5 a1 a2 a3_0 a3_1 l3_2).bind fun bt317 => ((castellanref6_Same.f t299 t300 t301 t306 t307 t308).bind fun t321 => (if t321 = true then (if t304 = t311 then (if (strOfNums bt313.1).toList = (strOfNums bt317.1).toList then (if bt313.2 = bt317.2 then ((udp_Same.f a3_0 a3_1 l3_2 a4_0 a4_1 l4_2).bind fun t322 => ((castellanref6_Same.f a3_0 a3_1 l3_2 a4_0 a4_1 l4_2).bind fun t323 => (if (t322 == t323) = true then ((castellanlaw6_known.f kj5).bind fun t324 => (some t324)) else (some false)))) else (some false)) else (some false)) else (some false)) else (some false))))) = some r := H
        have A18 := Aside0.mk A180
        clear A180
        replace H := Option.bind_eq_some_iff.mp H
        obtain ⟨⟨t313, t316⟩, A190, H⟩ := H
        replace H : ((castellanref6_Build.f kj5 a1 a2 a3_0 a3_1 l3_2).bind fun bt317 => ((castellanref6_Same.f t299 t300 t301 t306 t307 t308).bind fun t321 => (if t321 = true then (if t304 = t311 then (if (strOfNums t313).toList = (strOfNums bt317.1).toList then (if t316 = bt317.2 then ((udp_Same.f a3_0 a3_1 l3_2 a4_0 a4_1 l4_2).bind fun t322 => ((castellanref6_Same.f a3_0 a3_1 l3_2 a4_0 a4_1 l4_2).bind fun t323 => (if (t322 == t323) = true then ((castellanlaw6_known.f kj5).bind fun t324 => (some t324)) else (some false)))) else (some false)) else (some false)) else (some false)) else (some false)))) = some r := H
        have A19 := Aside0.mk A190
        clear A190
        replace H := Option.bind_eq_some_iff.mp H
        obtain ⟨⟨t317, t320⟩, A200, H⟩ := H
        replace H : ((castellanref6_Same.f t299 t300 t301 t306 t307 t308).bind fun t321 => (if t321 = true then (if t304 = t311 then (if (strOfNums t313).toList = (strOfNums t317).toList then (if t316 = t320 then ((udp_Same.f a3_0 a3_1 l3_2 a4_0 a4_1 l4_2).bind fun t322 => ((castellanref6_Same.f a3_0 a3_1 l3_2 a4_0 a4_1 l4_2).bind fun t323 => (if (t322 == t323) = true then ((castellanlaw6_known.f kj5).bind fun t324 => (some t324)) else (some false)))) else (some false)) else (some false)) else (some false)) else (some false))) = some r := H
        have A20 := Aside0.mk A200
        clear A200
        replace H := Option.bind_eq_some_iff.mp H
        obtain ⟨t321, A210, H⟩ := H
        replace H : (if t321 = true then (if t304 = t311 then (if (strOfNums t313).toList = (strOfNums t317).toList then (if t316 = t320 then ((udp_Same.f a3_0 a3_1 l3_2 a4_0 a4_1 l4_2).bind fun t322 => ((castellanref6_Same.f a3_0 a3_1 l3_2 a4_0 a4_1 l4_2).bind fun t323 => (if (t322 == t323) = true then ((castellanlaw6_known.f kj5).bind fun t324 => (some t324)) else (some false)))) else (some false)) else (some false)) else (some false)) else (some false)) = some r := H
        have A21 := Aside0.mk A210
        clear A210
        by_cases c22 : t321 = true
        · subst c22
          have H1 : (if t304 = t311 then (if (strOfNums t313).toList = (strOfNums t317).toList then (if t316 = t320 then ((udp_Same.f a3_0 a3_1 l3_2 a4_0 a4_1 l4_2).bind fun t322 => ((castellanref6_Same.f a3_0 a3_1 l3_2 a4_0 a4_1 l4_2).bind fun t323 => (if (t322 == t323) = true then ((castellanlaw6_known.f kj5).bind fun t324 => (some t324)) else (some false)))) else (some false)) else (some false)) else (some false)) = some r := by rw [if_pos rfl] at H; exact H
          clear H
          have H := H1
          clear H1
          by_cases c23 : t304 = t311
          · rw [if_pos c23] at H
            have c23b0 : (t304 == t311) = true := beq_iff_eq.mpr c23
            have c23b1 : (t304 != t311) = false := bne_eq_false_iff_eq.mpr c23
            clear c23
            by_cases c24 : (strOfNums t313).toList = (strOfNums t317).toList
            · rw [if_pos c24] at H
              have c24b0 : ((strOfNums t313).toList == (strOfNums t317).toList) = true := beq_iff_eq.mpr c24
              have c24b1 : ((strOfNums t313).toList != (strOfNums t317).toList) = false := bne_eq_false_iff_eq.mpr c24
              clear c24
              by_cases c25 : t316 = t320
              · rw [if_pos c25] at H
                have c25b0 : (t316 == t320) = true := beq_iff_eq.mpr c25
                have c25b1 : (t316 != t320) = false := bne_eq_false_iff_eq.mpr c25
                clear c25
                replace H := Option.bind_eq_some_iff.mp H
                obtain ⟨t322, A260, H⟩ := H
                replace H : ((castellanref6_Same.f a3_0 a3_1 l3_2 a4_0 a4_1 l4_2).bind fun t323 => (if (t322 == t323) = true then ((castellanlaw6_known.f kj5).bind fun t324 => (some t324)) else (some false))) = some r := H
                have A26 := Aside0.mk A260
                clear A260
                replace H := Option.bind_eq_some_iff.mp H
                obtain ⟨t323, A270, H⟩ := H
                replace H : (if (t322 == t323) = true then ((castellanlaw6_known.f kj5).bind fun t324 => (some t324)) else (some false)) = some r := H
                have A27 := Aside0.mk A270
                clear A270
                by_cases c28 : (t322 == t323) = true
                · rw [if_pos c28] at H
                  have c28b0 : (t322 == t323) = true := c28
                  (try (have c28b1 : decide (t322 = t323) = true := by simpa using c28))
                  (try (have c28b2 : (t322 == t323) = true := by simpa using c28))
                  clear c28
                  replace H := Option.bind_eq_some_iff.mp H
                  obtain ⟨t324, A290, H⟩ := H
                  replace H : (some t324) = some r := H
                  have A29 := Aside0.mk A290
                  clear A290
                  obtain rfl := Option.some.inj H
                  try go_wp2_with (first | ((with_reducible refine gate_callee (f := 16) rfl ?_); refine goesL_ (some 36) rfl rfl Try.func16 (by kernel_rfl) rfl #[.slice A0 l0.length c0] rfl (by (try simp only [List.map_toArray, List.map_cons, List.map_nil]); first | done | rfl | (simp only [List.length_drop, List.length_take]; rfl)) ?_; (with_reducible refine (udp_Parse.calls _ _ l0 t299 t300 t301 t304 _ ?side1 ?side2 A17.out).mono ?_); (case side1 => repeat (first | exact (Kd.C_below HR0.out HB.out) | (with_reducible refine Kd.C_alloc ?_ _) | (with_reducible refine Kd.C_drewN ?_ _) | (with_reducible refine Kd.C_drew ?_))); (case side2 => exact HC0.out); rintro e w30 ⟨v302, rfl, ho0, hb⟩; refine ⟨_, rfl, ?_⟩; have n0_ := Aside0.mk (Kd.R_lower ho0 (below_size (by repeat (first | (with_reducible first | exact HB.out | apply below_alloc | apply pw_below_drewN | apply below_drew1 | refine below_set ?_ GE297.out | refine below_set ?_ GE298.out) | exact HB.out)))); have n1_ := Aside0.mk (blk_below (g := gb297) (o := .cells #[.int .i64 a3_0, .int .i64 a3_1, .slice A3_2 l3_2.length c3_2] 26 (0, 0)) (by (with_reducible repeat (first | refine blk_drewN ?_ _ | refine blk_drew ?_ | refine blk_alloc ?_ _)); exact BK297.out) hb); have n2_ := Aside0.mk (blk_below (g := gb298) (o := .cells #[.int .i64 a4_0, .int .i64 a4_1, .slice A4_2 l4_2.length c4_2] 26 (0, 0)) (by (with_reducible repeat (first | refine blk_drewN ?_ _ | refine blk_drew ?_ | refine blk_alloc ?_ _)); exact BK298.out) hb); have n3_ := Aside0.mk (below_step (by repeat (first | (with_reducible first | exact HB.out | apply below_alloc | apply pw_below_drewN | apply below_drew1 | refine below_set ?_ GE297.out | refine below_set ?_ GE298.out) | exact HB.out)) hb); clear BK297; clear BK298; clear HB; have HO303 := n0_; have BK297 := n1_; have BK298 := n2_; have HB := n3_; clear n0_ n1_ n2_ n3_; (try clear hb); (try clear hb2); (try clear hk); (try clear hi); (try clear ho0)) | ((with_reducible refine gate_dst (N := 11) rfl ?_); (try (refine gate_guard (by rfl) ?_; dsimp only)); refine box_event ?hg (N := 11) ?hd (cs := #[.int .i64 0, .int .i64 0, .slice none 0 0]) (t := 26) ?hr ?_; (case hd => rfl); (case hg => rfl); (case hr => first | (go_simp; done) | (go_simp; rfl)); intro gb305 hg w31 hbox hb; have n0_ := Aside0.mk (Kd.R_below (by (with_reducible repeat (first | apply Kd.R_alloc | apply Kd.R_drewN | apply Kd.R_drew)); exact HO303.out) hb); have n1_ := Aside0.mk (blk_below (g := gb297) (o := .cells #[.int .i64 a3_0, .int .i64 a3_1, .slice A3_2 l3_2.length c3_2] 26 (0, 0)) (by (with_reducible repeat (first | refine blk_drewN ?_ _ | refine blk_drew ?_ | refine blk_alloc ?_ _)); exact BK297.out) hb); have n2_ := Aside0.mk (blk_below (g := gb298) (o := .cells #[.int .i64 a4_0, .int .i64 a4_1, .slice A4_2 l4_2.length c4_2] 26 (0, 0)) (by (with_reducible repeat (first | refine blk_drewN ?_ _ | refine blk_drew ?_ | refine blk_alloc ?_ _)); exact BK298.out) hb); have n3_ := Aside0.mk (below_step (by repeat (first | (with_reducible first | exact HB.out | apply below_alloc | apply pw_below_drewN | apply below_drew1 | refine below_set ?_ GE297.out | refine below_set ?_ GE298.out) | exact HB.out)) hb); have n4_ := Aside0.mk (hbox); have n5_ := Aside0.mk ((by rw [hg]; exact (below_size (by repeat (first | (with_reducible first | exact HB.out | apply below_alloc | apply pw_below_drewN | apply below_drew1 | refine below_set ?_ GE297.out | refine below_set ?_ GE298.out) | exact HB.out))) : w.heap.size ≤ gb305)); have n6_ := Aside0.mk ((by rw [hg]; exact (below_size (by repeat (first | (with_reducible first | exact HB.out | apply below_alloc | apply pw_below_drewN | apply below_drew1 | refine below_set ?_ GE297.out | refine below_set ?_ GE298.out) | exact HB.out))) : w.heap.size ≤ gb305)); have n7_ := Aside0.mk ((by rw [hg]; exact Nat.ne_of_lt (blk_lt (g := gb297) (o := .cells #[.int .i64 a3_0, .int .i64 a3_1, .slice A3_2 l3_2.length c3_2] 26 (0, 0)) (by (with_reducible repeat (first | refine blk_drewN ?_ _ | refine blk_drew ?_ | refine blk_alloc ?_ _)); exact BK297.out)) : gb297 ≠ gb305)); have n8_ := Aside0.mk ((by rw [hg]; exact Nat.ne_of_gt (blk_lt (g := gb297) (o := .cells #[.int .i64 a3_0, .int .i64 a3_1, .slice A3_2 l3_2.length c3_2] 26 (0, 0)) (by (with_reducible repeat (first | refine blk_drewN ?_ _ | refine blk_drew ?_ | refine blk_alloc ?_ _)); exact BK297.out)) : gb305 ≠ gb297)); have n9_ := Aside0.mk ((by rw [hg]; exact Nat.ne_of_lt (blk_lt (g := gb298) (o := .cells #[.int .i64 a4_0, .int .i64 a4_1, .slice A4_2 l4_2.length c4_2] 26 (0, 0)) (by (with_reducible repeat (first | refine blk_drewN ?_ _ | refine blk_drew ?_ | refine blk_alloc ?_ _)); exact BK298.out)) : gb298 ≠ gb305)); have n10_ := Aside0.mk ((by rw [hg]; exact Nat.ne_of_gt (blk_lt (g := gb298) (o := .cells #[.int .i64 a4_0, .int .i64 a4_1, .slice A4_2 l4_2.length c4_2] 26 (0, 0)) (by (with_reducible repeat (first | refine blk_drewN ?_ _ | refine blk_drew ?_ | refine blk_alloc ?_ _)); exact BK298.out)) : gb305 ≠ gb298)); clear HO303; clear BK297; clear BK298; clear HB; have HO303 := n0_; have BK297 := n1_; have BK298 := n2_; have HB := n3_; have BK305 := n4_; have GW305 := n5_; have GE305 := n6_; have NB297_305 := n7_; have NB305_297 := n8_; have NB298_305 := n9_; have NB305_298 := n10_; clear n0_ n1_ n2_ n3_ n4_ n5_ n6_ n7_ n8_ n9_ n10_; clear hb hbox hg; have hnb32 := NB305_297.out; have hnc32 := NB297_305.out; have hnb33 := NB305_298.out; have hnc33 := NB298_305.out; have hcz34_0 : w31.cell? ⟨gb305, 0, none⟩ = some (.int .i64 0) := (blk_cell BK305.out 0).trans rfl; have hcz34_1 : w31.cell? ⟨gb305, 1, none⟩ = some (.int .i64 0) := (blk_cell BK305.out 1).trans rfl; have hcz34_2 : w31.cell? ⟨gb305, 2, none⟩ = some (.slice none 0 0) := (blk_cell BK305.out 2).trans rfl; have hfz34_0 := blk_frozen BK305.out 0; have hfz34_1 := blk_frozen BK305.out 1; have hfz34_2 := blk_frozen BK305.out 2; obtain ⟨Ao35, co35, eo35⟩ := Kd.R_slice HO303.out; subst eo35) | ((with_reducible refine gate_callee (f := 21) rfl ?_); refine goesL_ (some 41) rfl rfl Try.func21 (by kernel_rfl) rfl #[.slice A0 l0.length c0] rfl (by (try simp only [List.map_toArray, List.map_cons, List.map_nil]); first | done | rfl | (simp only [List.length_drop, List.length_take]; rfl)) ?_; (with_reducible refine (castellanref6_Parse.calls _ _ l0 t306 t307 t308 t311 _ ?side1 ?side2 A18.out).mono ?_); (case side1 => exact Kd.C_below HR0.out (by repeat (first | (with_reducible first | exact HB.out | apply below_alloc | apply pw_below_drewN | apply below_drew1 | refine below_set ?_ GE297.out | refine below_set ?_ GE298.out | refine below_set ?_ GE305.out) | exact HB.out))); (case side2 => exact HC0.out); rintro e w36 ⟨v309, rfl, ho0, hb⟩; refine ⟨_, rfl, ?_⟩; have n0_ := Aside0.mk (Kd.R_elder' (by (with_reducible repeat (first | apply Kd.R_alloc | apply Kd.R_drewN | apply Kd.R_drew)); exact (Kd.R_mono (Kd.R_far (p := ⟨gb305, 2, none⟩) (Kd.R_far (p := ⟨gb305, 1, none⟩) (Kd.R_far (p := ⟨gb305, 0, none⟩) (Kd.R_types HO303.out BK305.out (by decide)) (fun _ hk => hk.2) (.int .i64 t299)) (fun _ hk => hk.2) (.int .i64 t300)) (fun _ hk => hk.2) (.slice Ao35 t301.length co35)) (fun _ h_ => h_.1))) (Kd.R_base ho0) hb); have n1_ := Aside0.mk (Kd.R_lower (Kd.R_new' ho0 (Kd.R_lt (by (with_reducible repeat (first | apply Kd.R_alloc | apply Kd.R_drewN | apply Kd.R_drew)); exact (Kd.R_mono (Kd.R_far (p := ⟨gb305, 2, none⟩) (Kd.R_far (p := ⟨gb305, 1, none⟩) (Kd.R_far (p := ⟨gb305, 0, none⟩) (Kd.R_types HO303.out BK305.out (by decide)) (fun _ hk => hk.2) (.int .i64 t299)) (fun _ hk => hk.2) (.int .i64 t300)) (fun _ hk => hk.2) (.slice Ao35 t301.length co35)) (fun _ h_ => h_.1))))) (below_size (by repeat (first | (with_reducible first | exact HB.out | apply below_alloc | apply pw_below_drewN | apply below_drew1 | refine below_set ?_ GE297.out | refine below_set ?_ GE298.out | refine below_set ?_ GE305.out) | exact HB.out)))); have n2_ := Aside0.mk (blk_below (g := gb297) (o := .cells #[.int .i64 a3_0, .int .i64 a3_1, .slice A3_2 l3_2.length c3_2] 26 (0, 0)) (by (with_reducible repeat (first | refine blk_drewN ?_ _ | refine blk_drew ?_ | refine blk_alloc ?_ _)); refine blk_far ?_ NB297_305.out _; (with_reducible repeat (first | refine blk_drewN ?_ _ | refine blk_drew ?_ | refine blk_alloc ?_ _)); refine blk_far ?_ NB297_305.out _; (with_reducible repeat (first | refine blk_drewN ?_ _ | refine blk_drew ?_ | refine blk_alloc ?_ _)); refine blk_far ?_ NB297_305.out _; (with_reducible repeat (first | refine blk_drewN ?_ _ | refine blk_drew ?_ | refine blk_alloc ?_ _)); exact BK297.out) hb); have n3_ := Aside0.mk (blk_below (g := gb298) (o := .cells #[.int .i64 a4_0, .int .i64 a4_1, .slice A4_2 l4_2.length c4_2] 26 (0, 0)) (by (with_reducible repeat (first | refine blk_drewN ?_ _ | refine blk_drew ?_ | refine blk_alloc ?_ _)); refine blk_far ?_ NB298_305.out _; (with_reducible repeat (first | refine blk_drewN ?_ _ | refine blk_drew ?_ | refine blk_alloc ?_ _)); refine blk_far ?_ NB298_305.out _; (with_reducible repeat (first | refine blk_drewN ?_ _ | refine blk_drew ?_ | refine blk_alloc ?_ _)); refine blk_far ?_ NB298_305.out _; (with_reducible repeat (first | refine blk_drewN ?_ _ | refine blk_drew ?_ | refine blk_alloc ?_ _)); exact BK298.out) hb); have n4_ := Aside0.mk (blk_below (g := gb305) (o := .cells #[.int .i64 t299, .int .i64 t300, .slice Ao35 t301.length co35] 26 (0, 0)) (by (with_reducible repeat (first | refine blk_drewN ?_ _ | refine blk_drew ?_ | refine blk_alloc ?_ _)); refine blk_put (cs := #[.int .i64 t299, .int .i64 t300, .slice none 0 0]) ?_ 2 _ rfl; (with_reducible repeat (first | refine blk_drewN ?_ _ | refine blk_drew ?_ | refine blk_alloc ?_ _)); refine blk_put (cs := #[.int .i64 t299, .int .i64 0, .slice none 0 0]) ?_ 1 _ rfl; (with_reducible repeat (first | refine blk_drewN ?_ _ | refine blk_drew ?_ | refine blk_alloc ?_ _)); refine blk_put (cs := #[.int .i64 0, .int .i64 0, .slice none 0 0]) ?_ 0 _ rfl; (with_reducible repeat (first | refine blk_drewN ?_ _ | refine blk_drew ?_ | refine blk_alloc ?_ _)); exact BK305.out) hb); have n5_ := Aside0.mk (below_step (by repeat (first | (with_reducible first | exact HB.out | apply below_alloc | apply pw_below_drewN | apply below_drew1 | refine below_set ?_ GE297.out | refine below_set ?_ GE298.out | refine below_set ?_ GE305.out) | exact HB.out)) hb); clear HO303; clear BK297; clear BK298; clear BK305; clear HB; have HO303 := n0_; have HO310 := n1_; have BK297 := n2_; have BK298 := n3_; have BK305 := n4_; have HB := n5_; clear n0_ n1_ n2_ n3_ n4_ n5_; (try clear hb); (try clear hb2); (try clear hk); (try clear hi); (try clear ho0)) | ((with_reducible refine gate_dst (N := 13) rfl ?_); (try (refine gate_guard (by rfl) ?_; dsimp only)); refine box_event ?hg (N := 13) ?hd (cs := #[.int .i64 0, .int .i64 0, .slice none 0 0]) (t := 26) ?hr ?_; (case hd => rfl); (case hg => rfl); (case hr => first | (go_simp; done) | (go_simp; rfl)); intro gb312 hg w37 hbox hb; have n0_ := Aside0.mk (Kd.R_below (by (with_reducible repeat (first | apply Kd.R_alloc | apply Kd.R_drewN | apply Kd.R_drew)); exact HO303.out) hb); have n1_ := Aside0.mk (Kd.R_below (by (with_reducible repeat (first | apply Kd.R_alloc | apply Kd.R_drewN | apply Kd.R_drew)); exact HO310.out) hb); have n2_ := Aside0.mk (blk_below (g := gb297) (o := .cells #[.int .i64 a3_0, .int .i64 a3_1, .slice A3_2 l3_2.length c3_2] 26 (0, 0)) (by (with_reducible repeat (first | refine blk_drewN ?_ _ | refine blk_drew ?_ | refine blk_alloc ?_ _)); exact BK297.out) hb); have n3_ := Aside0.mk (blk_below (g := gb298) (o := .cells #[.int .i64 a4_0, .int .i64 a4_1, .slice A4_2 l4_2.length c4_2] 26 (0, 0)) (by (with_reducible repeat (first | refine blk_drewN ?_ _ | refine blk_drew ?_ | refine blk_alloc ?_ _)); exact BK298.out) hb); have n4_ := Aside0.mk (blk_below (g := gb305) (o := .cells #[.int .i64 t299, .int .i64 t300, .slice Ao35 t301.length co35] 26 (0, 0)) (by (with_reducible repeat (first | refine blk_drewN ?_ _ | refine blk_drew ?_ | refine blk_alloc ?_ _)); exact BK305.out) hb); have n5_ := Aside0.mk (below_step (by repeat (first | (with_reducible first | exact HB.out | apply below_alloc | apply pw_below_drewN | apply below_drew1 | refine below_set ?_ GE297.out | refine below_set ?_ GE298.out | refine below_set ?_ GE305.out) | exact HB.out)) hb); have n6_ := Aside0.mk (hbox); have n7_ := Aside0.mk ((by rw [hg]; exact (below_size (by repeat (first | (with_reducible first | exact HB.out | apply below_alloc | apply pw_below_drewN | apply below_drew1 | refine below_set ?_ GE297.out | refine below_set ?_ GE298.out | refine below_set ?_ GE305.out) | exact HB.out))) : w.heap.size ≤ gb312)); have n8_ := Aside0.mk ((by rw [hg]; exact (below_size (by repeat (first | (with_reducible first | exact HB.out | apply below_alloc | apply pw_below_drewN | apply below_drew1 | refine below_set ?_ GE297.out | refine below_set ?_ GE298.out | refine below_set ?_ GE305.out) | exact HB.out))) : w.heap.size ≤ gb312)); have n9_ := Aside0.mk ((by rw [hg]; exact Nat.ne_of_lt (blk_lt (g := gb297) (o := .cells #[.int .i64 a3_0, .int .i64 a3_1, .slice A3_2 l3_2.length c3_2] 26 (0, 0)) (by (with_reducible repeat (first | refine blk_drewN ?_ _ | refine blk_drew ?_ | refine blk_alloc ?_ _)); exact BK297.out)) : gb297 ≠ gb312)); have n10_ := Aside0.mk ((by rw [hg]; exact Nat.ne_of_gt (blk_lt (g := gb297) (o := .cells #[.int .i64 a3_0, .int .i64 a3_1, .slice A3_2 l3_2.length c3_2] 26 (0, 0)) (by (with_reducible repeat (first | refine blk_drewN ?_ _ | refine blk_drew ?_ | refine blk_alloc ?_ _)); exact BK297.out)) : gb312 ≠ gb297)); have n11_ := Aside0.mk ((by rw [hg]; exact Nat.ne_of_lt (blk_lt (g := gb298) (o := .cells #[.int .i64 a4_0, .int .i64 a4_1, .slice A4_2 l4_2.length c4_2] 26 (0, 0)) (by (with_reducible repeat (first | refine blk_drewN ?_ _ | refine blk_drew ?_ | refine blk_alloc ?_ _)); exact BK298.out)) : gb298 ≠ gb312)); have n12_ := Aside0.mk ((by rw [hg]; exact Nat.ne_of_gt (blk_lt (g := gb298) (o := .cells #[.int .i64 a4_0, .int .i64 a4_1, .slice A4_2 l4_2.length c4_2] 26 (0, 0)) (by (with_reducible repeat (first | refine blk_drewN ?_ _ | refine blk_drew ?_ | refine blk_alloc ?_ _)); exact BK298.out)) : gb312 ≠ gb298)); have n13_ := Aside0.mk ((by rw [hg]; exact Nat.ne_of_lt (blk_lt (g := gb305) (o := .cells #[.int .i64 t299, .int .i64 t300, .slice Ao35 t301.length co35] 26 (0, 0)) (by (with_reducible repeat (first | refine blk_drewN ?_ _ | refine blk_drew ?_ | refine blk_alloc ?_ _)); exact BK305.out)) : gb305 ≠ gb312)); have n14_ := Aside0.mk ((by rw [hg]; exact Nat.ne_of_gt (blk_lt (g := gb305) (o := .cells #[.int .i64 t299, .int .i64 t300, .slice Ao35 t301.length co35] 26 (0, 0)) (by (with_reducible repeat (first | refine blk_drewN ?_ _ | refine blk_drew ?_ | refine blk_alloc ?_ _)); exact BK305.out)) : gb312 ≠ gb305)); clear HO303; clear HO310; clear BK297; clear BK298; clear BK305; clear HB; have HO303 := n0_; have HO310 := n1_; have BK297 := n2_; have BK298 := n3_; have BK305 := n4_; have HB := n5_; have BK312 := n6_; have GW312 := n7_; have GE312 := n8_; have NB297_312 := n9_; have NB312_297 := n10_; have NB298_312 := n11_; have NB312_298 := n12_; have NB305_312 := n13_; have NB312_305 := n14_; clear n0_ n1_ n2_ n3_ n4_ n5_ n6_ n7_ n8_ n9_ n10_ n11_ n12_ n13_ n14_; clear hb hbox hg; have hnb38 := NB312_297.out; have hnc38 := NB297_312.out; have hnb39 := NB312_298.out; have hnc39 := NB298_312.out; have hnb40 := NB312_305.out; have hnc40 := NB305_312.out; have hcz41_0 : w37.cell? ⟨gb312, 0, none⟩ = some (.int .i64 0) := (blk_cell BK312.out 0).trans rfl; have hcz41_1 : w37.cell? ⟨gb312, 1, none⟩ = some (.int .i64 0) := (blk_cell BK312.out 1).trans rfl; have hcz41_2 : w37.cell? ⟨gb312, 2, none⟩ = some (.slice none 0 0) := (blk_cell BK312.out 2).trans rfl; have hfz41_0 := blk_frozen BK312.out 0; have hfz41_1 := blk_frozen BK312.out 1; have hfz41_2 := blk_frozen BK312.out 2; obtain ⟨Ao42, co42, eo42⟩ := Kd.R_slice HO310.out; subst eo42) | ((with_reducible refine gate_store (t := 26) (p := 13) rfl ?_); refine store_event (t := 26) (p := 13) (v := ?vo_w43) (w1 := (((w37.setCell ⟨gb312, 0, none⟩ (.int .i64 t306)).setCell ⟨gb312, 1, none⟩ (.int .i64 t307)).setCell ⟨gb312, 2, none⟩ (.slice Ao42 t308.length co42))) ?hg ?ho ?hn ?hr ?_; (case ho => rfl); (case hg => rfl); (case hn => rfl); (case hr => first | (go_simp; done) | (go_simp; rfl)); intro w43 hw; have n0_ : Aside0 (Kd.R (Kd.int .u8) 5 w43 w.heap.size (fun k_ => some k_ ≠ (.slice Ao42 t308.length co42 : Value).ownBlock) (.slice Ao35 t301.length co35) t301) := ⟨(by rw [hw]; exact (by (with_reducible repeat (first | apply Kd.R_alloc | apply Kd.R_drewN | apply Kd.R_drew)); exact Kd.R_mono (Kd.R_far (p := ⟨gb312, 2, none⟩) (Kd.R_far (p := ⟨gb312, 1, none⟩) (Kd.R_far (p := ⟨gb312, 0, none⟩) (Kd.R_types HO303.out BK312.out (by decide)) (fun _ hk => hk.2) (.int .i64 t306)) (fun _ hk => hk.2) (.int .i64 t307)) (fun _ hk => hk.2) (.slice Ao42 t308.length co42)) (fun _ hk => hk.1.2)))⟩; have n1_ : Aside0 (Kd.R (Kd.int .u8) 5 w43 w.heap.size (fun k_ => some k_ ≠ (.slice Ao35 t301.length co35 : Value).ownBlock) (.slice Ao42 t308.length co42) t308) := ⟨(by rw [hw]; exact (by (with_reducible repeat (first | apply Kd.R_alloc | apply Kd.R_drewN | apply Kd.R_drew)); exact Kd.R_mono (Kd.R_far (p := ⟨gb312, 2, none⟩) (Kd.R_far (p := ⟨gb312, 1, none⟩) (Kd.R_far (p := ⟨gb312, 0, none⟩) (Kd.R_types HO310.out BK312.out (by decide)) (fun _ hk => hk.2) (.int .i64 t306)) (fun _ hk => hk.2) (.int .i64 t307)) (fun _ hk => hk.2) (.slice Ao42 t308.length co42)) (fun _ hk => hk.1.2)))⟩; have n2_ : Aside0 (w43.heap[gb297]? = some (.cells #[.int .i64 a3_0, .int .i64 a3_1, .slice A3_2 l3_2.length c3_2] 26 (0, 0))) := ⟨(by rw [hw]; exact (by (with_reducible repeat (first | refine blk_drewN ?_ _ | refine blk_drew ?_ | refine blk_alloc ?_ _)); refine blk_far ?_ NB297_312.out _; (with_reducible repeat (first | refine blk_drewN ?_ _ | refine blk_drew ?_ | refine blk_alloc ?_ _)); refine blk_far ?_ NB297_312.out _; (with_reducible repeat (first | refine blk_drewN ?_ _ | refine blk_drew ?_ | refine blk_alloc ?_ _)); refine blk_far ?_ NB297_312.out _; (with_reducible repeat (first | refine blk_drewN ?_ _ | refine blk_drew ?_ | refine blk_alloc ?_ _)); exact BK297.out))⟩; have n3_ : Aside0 (w43.heap[gb298]? = some (.cells #[.int .i64 a4_0, .int .i64 a4_1, .slice A4_2 l4_2.length c4_2] 26 (0, 0))) := ⟨(by rw [hw]; exact (by (with_reducible repeat (first | refine blk_drewN ?_ _ | refine blk_drew ?_ | refine blk_alloc ?_ _)); refine blk_far ?_ NB298_312.out _; (with_reducible repeat (first | refine blk_drewN ?_ _ | refine blk_drew ?_ | refine blk_alloc ?_ _)); refine blk_far ?_ NB298_312.out _; (with_reducible repeat (first | refine blk_drewN ?_ _ | refine blk_drew ?_ | refine blk_alloc ?_ _)); refine blk_far ?_ NB298_312.out _; (with_reducible repeat (first | refine blk_drewN ?_ _ | refine blk_drew ?_ | refine blk_alloc ?_ _)); exact BK298.out))⟩; have n4_ : Aside0 (w43.heap[gb305]? = some (.cells #[.int .i64 t299, .int .i64 t300, .slice Ao35 t301.length co35] 26 (0, 0))) := ⟨(by rw [hw]; exact (by (with_reducible repeat (first | refine blk_drewN ?_ _ | refine blk_drew ?_ | refine blk_alloc ?_ _)); refine blk_far ?_ NB305_312.out _; (with_reducible repeat (first | refine blk_drewN ?_ _ | refine blk_drew ?_ | refine blk_alloc ?_ _)); refine blk_far ?_ NB305_312.out _; (with_reducible repeat (first | refine blk_drewN ?_ _ | refine blk_drew ?_ | refine blk_alloc ?_ _)); refine blk_far ?_ NB305_312.out _; (with_reducible repeat (first | refine blk_drewN ?_ _ | refine blk_drew ?_ | refine blk_alloc ?_ _)); exact BK305.out))⟩; have n5_ : Aside0 (w43.heap[gb312]? = some (.cells #[.int .i64 t306, .int .i64 t307, .slice Ao42 t308.length co42] 26 (0, 0))) := ⟨(by rw [hw]; exact (by (with_reducible repeat (first | refine blk_drewN ?_ _ | refine blk_drew ?_ | refine blk_alloc ?_ _)); refine blk_put (cs := #[.int .i64 t306, .int .i64 t307, .slice none 0 0]) ?_ 2 _ rfl; (with_reducible repeat (first | refine blk_drewN ?_ _ | refine blk_drew ?_ | refine blk_alloc ?_ _)); refine blk_put (cs := #[.int .i64 t306, .int .i64 0, .slice none 0 0]) ?_ 1 _ rfl; (with_reducible repeat (first | refine blk_drewN ?_ _ | refine blk_drew ?_ | refine blk_alloc ?_ _)); refine blk_put (cs := #[.int .i64 0, .int .i64 0, .slice none 0 0]) ?_ 0 _ rfl; (with_reducible repeat (first | refine blk_drewN ?_ _ | refine blk_drew ?_ | refine blk_alloc ?_ _)); exact BK312.out))⟩; have n6_ : Aside0 (Below w.heap.size w w43) := ⟨(by rw [hw]; exact (by repeat (first | (with_reducible first | exact HB.out | apply below_alloc | apply pw_below_drewN | apply below_drew1 | refine below_set ?_ GE297.out | refine below_set ?_ GE298.out | refine below_set ?_ GE305.out | refine below_set ?_ GE312.out) | exact HB.out)))⟩; clear hw; clear HO303; clear HO310; clear BK297; clear BK298; clear BK305; clear BK312; clear HB; have HO303 := n0_; have HO310 := n1_; have BK297 := n2_; have BK298 := n3_; have BK305 := n4_; have BK312 := n5_; have HB := n6_; clear n0_ n1_ n2_ n3_ n4_ n5_ n6_; have hnb44 := NB297_298.out; have hnc44 := NB298_297.out; have hcz45_0 : w43.cell? ⟨gb297, 0, none⟩ = some (.int .i64 a3_0) := (blk_cell BK297.out 0).trans rfl; have hcz45_1 : w43.cell? ⟨gb297, 1, none⟩ = some (.int .i64 a3_1) := (blk_cell BK297.out 1).trans rfl; have hcz45_2 : w43.cell? ⟨gb297, 2, none⟩ = some (.slice A3_2 l3_2.length c3_2) := (blk_cell BK297.out 2).trans rfl; have hfz45_0 := blk_frozen BK297.out 0; have hfz45_1 := blk_frozen BK297.out 1; have hfz45_2 := blk_frozen BK297.out 2) | ((with_reducible refine gate_callee (f := 15) rfl ?_); refine goesL_ (some 48) rfl rfl Try.func15 (by kernel_rfl) rfl #[.int .u32 a1, .int .u32 a2, .agg #[.int .i64 a3_0, .int .i64 a3_1, .slice A3_2 l3_2.length c3_2]] rfl (by (try simp only [List.map_toArray, List.map_cons, List.map_nil]); first | done | rfl | (simp only [List.length_drop, List.length_take]; rfl)) ?_; (with_reducible refine (udp_Build.calls kj5 a1 a2 a3_0 a3_1 (fun k_ => k_ < w.heap.size) _ _ l3_2 t313 t316 _ ?side1 A19.out).mono ?_); (case side1 => exact Kd.V_mk HC3_2.out (Kd.F_below (Kd.C_F (Kd.heap_int .u8) HR3_2.out) (by repeat (first | (with_reducible first | exact HB.out | apply below_alloc | apply pw_below_drewN | apply below_drew1 | refine below_set ?_ GE297.out | refine below_set ?_ GE298.out | refine below_set ?_ GE305.out | refine below_set ?_ GE312.out) | exact HB.out)))); rintro e w46 ⟨v314, rfl, ho0, hb⟩; refine ⟨_, rfl, ?_⟩; have n0_ := Aside0.mk (Kd.R_elder' (by (with_reducible repeat (first | apply Kd.R_alloc | apply Kd.R_drewN | apply Kd.R_drew)); exact HO303.out) (Kd.R_base ho0) hb); have n1_ := Aside0.mk (Kd.R_elder' (by (with_reducible repeat (first | apply Kd.R_alloc | apply Kd.R_drewN | apply Kd.R_drew)); exact HO310.out) (Kd.R_base ho0) hb); have n2_ := Aside0.mk (Kd.R_lower (Kd.R_new' (Kd.R_new' (Kd.R_mono (ok' := fun k_ => True) ho0 (fun _ hk_ => trivial)) (Kd.R_lt (by (with_reducible repeat (first | apply Kd.R_alloc | apply Kd.R_drewN | apply Kd.R_drew)); exact HO303.out))) (Kd.R_lt (by (with_reducible repeat (first | apply Kd.R_alloc | apply Kd.R_drewN | apply Kd.R_drew)); exact HO310.out))) (below_size (by repeat (first | (with_reducible first | exact HB.out | apply below_alloc | apply pw_below_drewN | apply below_drew1 | refine below_set ?_ GE297.out | refine below_set ?_ GE298.out | refine below_set ?_ GE305.out | refine below_set ?_ GE312.out) | exact HB.out)))); have n3_ := Aside0.mk (blk_below (g := gb297) (o := .cells #[.int .i64 a3_0, .int .i64 a3_1, .slice A3_2 l3_2.length c3_2] 26 (0, 0)) (by (with_reducible repeat (first | refine blk_drewN ?_ _ | refine blk_drew ?_ | refine blk_alloc ?_ _)); exact BK297.out) hb); have n4_ := Aside0.mk (blk_below (g := gb298) (o := .cells #[.int .i64 a4_0, .int .i64 a4_1, .slice A4_2 l4_2.length c4_2] 26 (0, 0)) (by (with_reducible repeat (first | refine blk_drewN ?_ _ | refine blk_drew ?_ | refine blk_alloc ?_ _)); exact BK298.out) hb); have n5_ := Aside0.mk (blk_below (g := gb305) (o := .cells #[.int .i64 t299, .int .i64 t300, .slice Ao35 t301.length co35] 26 (0, 0)) (by (with_reducible repeat (first | refine blk_drewN ?_ _ | refine blk_drew ?_ | refine blk_alloc ?_ _)); exact BK305.out) hb); have n6_ := Aside0.mk (blk_below (g := gb312) (o := .cells #[.int .i64 t306, .int .i64 t307, .slice Ao42 t308.length co42] 26 (0, 0)) (by (with_reducible repeat (first | refine blk_drewN ?_ _ | refine blk_drew ?_ | refine blk_alloc ?_ _)); exact BK312.out) hb); have n7_ := Aside0.mk (below_step (by repeat (first | (with_reducible first | exact HB.out | apply below_alloc | apply pw_below_drewN | apply below_drew1 | refine below_set ?_ GE297.out | refine below_set ?_ GE298.out | refine below_set ?_ GE305.out | refine below_set ?_ GE312.out) | exact HB.out)) hb); clear HO303; clear HO310; clear BK297; clear BK298; clear BK305; clear BK312; clear HB; have HO303 := n0_; have HO310 := n1_; have HO315 := n2_; have BK297 := n3_; have BK298 := n4_; have BK305 := n5_; have BK312 := n6_; have HB := n7_; clear n0_ n1_ n2_ n3_ n4_ n5_ n6_ n7_; (try clear hb); (try clear hb2); (try clear hk); (try clear hi); (try clear ho0); have hcz47_0 : w46.cell? ⟨gb297, 0, none⟩ = some (.int .i64 a3_0) := (blk_cell BK297.out 0).trans rfl; have hcz47_1 : w46.cell? ⟨gb297, 1, none⟩ = some (.int .i64 a3_1) := (blk_cell BK297.out 1).trans rfl; have hcz47_2 : w46.cell? ⟨gb297, 2, none⟩ = some (.slice A3_2 l3_2.length c3_2) := (blk_cell BK297.out 2).trans rfl; have hfz47_0 := blk_frozen BK297.out 0; have hfz47_1 := blk_frozen BK297.out 1; have hfz47_2 := blk_frozen BK297.out 2) | ((with_reducible refine gate_callee (f := 22) rfl ?_); refine goesL_ (some 55) rfl rfl Try.func22 (by kernel_rfl) rfl #[.int .u32 a1, .int .u32 a2, .agg #[.int .i64 a3_0, .int .i64 a3_1, .slice A3_2 l3_2.length c3_2]] rfl (by (try simp only [List.map_toArray, List.map_cons, List.map_nil]); first | done | rfl | (simp only [List.length_drop, List.length_take]; rfl)) ?_; (with_reducible refine (castellanref6_Build.calls kj5 a1 a2 a3_0 a3_1 _ _ l3_2 t317 t320 _ ?side1 ?side2 A20.out).mono ?_); (case side1 => repeat (first | exact (Kd.C_below HR3_2.out HB.out) | (with_reducible refine Kd.C_alloc ?_ _) | (with_reducible refine Kd.C_drewN ?_ _) | (with_reducible refine Kd.C_drew ?_))); (case side2 => exact HC3_2.out); rintro e w48 ⟨v318, rfl, ho0, hb⟩; refine ⟨_, rfl, ?_⟩; have n0_ := Aside0.mk (Kd.R_elder' (by (with_reducible repeat (first | apply Kd.R_alloc | apply Kd.R_drewN | apply Kd.R_drew)); exact HO303.out) (Kd.R_base ho0) hb); have n1_ := Aside0.mk (Kd.R_elder' (by (with_reducible repeat (first | apply Kd.R_alloc | apply Kd.R_drewN | apply Kd.R_drew)); exact HO310.out) (Kd.R_base ho0) hb); have n2_ := Aside0.mk (Kd.R_elder' (by (with_reducible repeat (first | apply Kd.R_alloc | apply Kd.R_drewN | apply Kd.R_drew)); exact HO315.out) (Kd.R_base ho0) hb); have n3_ := Aside0.mk (Kd.R_lower (Kd.R_new' (Kd.R_new' (Kd.R_new' ho0 (Kd.R_lt (by (with_reducible repeat (first | apply Kd.R_alloc | apply Kd.R_drewN | apply Kd.R_drew)); exact HO303.out))) (Kd.R_lt (by (with_reducible repeat (first | apply Kd.R_alloc | apply Kd.R_drewN | apply Kd.R_drew)); exact HO310.out))) (Kd.R_lt (by (with_reducible repeat (first | apply Kd.R_alloc | apply Kd.R_drewN | apply Kd.R_drew)); exact HO315.out))) (below_size (by repeat (first | (with_reducible first | exact HB.out | apply below_alloc | apply pw_below_drewN | apply below_drew1 | refine below_set ?_ GE297.out | refine below_set ?_ GE298.out | refine below_set ?_ GE305.out | refine below_set ?_ GE312.out) | exact HB.out)))); have n4_ := Aside0.mk (blk_below (g := gb297) (o := .cells #[.int .i64 a3_0, .int .i64 a3_1, .slice A3_2 l3_2.length c3_2] 26 (0, 0)) (by (with_reducible repeat (first | refine blk_drewN ?_ _ | refine blk_drew ?_ | refine blk_alloc ?_ _)); exact BK297.out) hb); have n5_ := Aside0.mk (blk_below (g := gb298) (o := .cells #[.int .i64 a4_0, .int .i64 a4_1, .slice A4_2 l4_2.length c4_2] 26 (0, 0)) (by (with_reducible repeat (first | refine blk_drewN ?_ _ | refine blk_drew ?_ | refine blk_alloc ?_ _)); exact BK298.out) hb); have n6_ := Aside0.mk (blk_below (g := gb305) (o := .cells #[.int .i64 t299, .int .i64 t300, .slice Ao35 t301.length co35] 26 (0, 0)) (by (with_reducible repeat (first | refine blk_drewN ?_ _ | refine blk_drew ?_ | refine blk_alloc ?_ _)); exact BK305.out) hb); have n7_ := Aside0.mk (blk_below (g := gb312) (o := .cells #[.int .i64 t306, .int .i64 t307, .slice Ao42 t308.length co42] 26 (0, 0)) (by (with_reducible repeat (first | refine blk_drewN ?_ _ | refine blk_drew ?_ | refine blk_alloc ?_ _)); exact BK312.out) hb); have n8_ := Aside0.mk (below_step (by repeat (first | (with_reducible first | exact HB.out | apply below_alloc | apply pw_below_drewN | apply below_drew1 | refine below_set ?_ GE297.out | refine below_set ?_ GE298.out | refine below_set ?_ GE305.out | refine below_set ?_ GE312.out) | exact HB.out)) hb); clear HO303; clear HO310; clear HO315; clear BK297; clear BK298; clear BK305; clear BK312; clear HB; have HO303 := n0_; have HO310 := n1_; have HO315 := n2_; have HO319 := n3_; have BK297 := n4_; have BK298 := n5_; have BK305 := n6_; have BK312 := n7_; have HB := n8_; clear n0_ n1_ n2_ n3_ n4_ n5_ n6_ n7_ n8_; (try clear hb); (try clear hb2); (try clear hk); (try clear hi); (try clear ho0); obtain ⟨Ao49, co49, eo49⟩ := Kd.R_slice HO315.out; subst eo49; obtain ⟨Ao50, co50, eo50⟩ := Kd.R_slice HO319.out; subst eo50))
                  have n0_ := Aside0.mk (Kd.R_drew HO303.out)
                  have n1_ := Aside0.mk (Kd.R_drew HO310.out)
                  have n2_ := Aside0.mk (Kd.R_drew HO315.out)
                  have n3_ := Aside0.mk (Kd.R_drew HO319.out)
                  have n4_ := Aside0.mk (blk_drew BK297.out)
                  have n5_ := Aside0.mk (blk_drew BK298.out)
                  have n6_ := Aside0.mk (blk_drew BK305.out)
                  have n7_ := Aside0.mk (blk_drew BK312.out)
                  have n8_ := Aside0.mk (below_drew1 HB.out)
                  clear HO303
                  clear HO310
                  clear HO315
                  clear HO319
                  clear BK297
                  clear BK298
                  clear BK305
                  clear BK312
                  clear HB
                  have HO303 := n0_
                  have HO310 := n1_
                  have HO315 := n2_
                  have HO319 := n3_
                  have BK297 := n4_
                  have BK298 := n5_
                  have BK305 := n6_
                  have BK312 := n7_
                  have HB := n8_
                  clear n0_ n1_ n2_ n3_ n4_ n5_ n6_ n7_ n8_
                  refine start_ (n := 33) (S := fun w' => True) (ds := []) #[false, false, false, false, false, false, false, false, false, false, false, false, false, false, false, false, false, false, false, false, false, false, false, false, false, false, false, false, false, false, false, false, false] (by kernel_rfl) rfl rfl trivial (fun hHeld => ?_); refine with_tabW castellanlaw6_UdpTells.tab7 castellanlaw6_UdpTells.bits7 (fun HT_ HW_ => ?_)
                  generalize w48.drew = w51 at HO303 HO310 HO315 HO319 BK297 BK298 BK305 BK312 HB hHeld ⊢
                  refine inv_at [0, 1, 2, 3, 4, 5, 6, 7, 8, 9, 10, 11, 12, 13, 14, 15, 16, 17, 18, 19, 20, 21, 22, 23, 24, 25, 26, 27, 28, 29, 30, 31, 32] (fun a0_ b a w' => a = putSel a0_ b [(0, 58, .agg #[.int .i64 t299, .int .i64 t300, .slice Ao35 t301.length co35]), (1, 59, .agg #[.int .i64 t306, .int .i64 t307, .slice Ao42 t308.length co42]), (2, 60, .bool true), (3, 61, .bool true), (4, 62, .int .i64 t304), (5, 63, .int .i64 t311), (6, 64, .bool (t304 == t311)), (7, 65, .bool (t304 == t311)), (8, 66, .bool (t304 == t311)), (9, 67, .slice Ao49 t313.length co49), (10, 68, .string (strOfNums t313)), (11, 69, .slice Ao50 t317.length co50), (12, 70, .string (strOfNums t317)), (13, 71, .bool ((strOfNums t313).toList == (strOfNums t317).toList)), (14, 72, .bool ((strOfNums t313).toList == (strOfNums t317).toList)), (15, 73, .bool ((strOfNums t313).toList == (strOfNums t317).toList)), (16, 74, .int .i64 t316), (17, 75, .int .i64 t320), (18, 76, .bool (t316 == t320)), (19, 77, .bool (t316 == t320)), (20, 78, .bool (t316 == t320)), (21, 79, .agg #[.int .i64 a3_0, .int .i64 a3_1, .slice A3_2 l3_2.length c3_2]), (22, 80, .agg #[.int .i64 a4_0, .int .i64 a4_1, .slice A4_2 l4_2.length c4_2]), (23, 81, .bool t322), (24, 82, .agg #[.int .i64 a3_0, .int .i64 a3_1, .slice A3_2 l3_2.length c3_2]), (25, 83, .agg #[.int .i64 a4_0, .int .i64 a4_1, .slice A4_2 l4_2.length c4_2]), (26, 84, .bool t323), (27, 85, .bool (t322 == t323)), (28, 86, .bool (t322 == t323)), (29, 87, .bool (t322 == t323)), (30, 88, .bool t324), (31, 89, .bool t324), (32, 10, .bool t324)] ∧ (Kd.R (Kd.int .u8) 5 w' w.heap.size (fun k_ => some k_ ≠ (.slice Ao42 t308.length co42 : Value).ownBlock ∧ some k_ ≠ (.slice Ao49 t313.length co49 : Value).ownBlock ∧ some k_ ≠ (.slice Ao50 t317.length co50 : Value).ownBlock) (.slice Ao35 t301.length co35) t301) ∧ (Kd.R (Kd.int .u8) 5 w' w.heap.size (fun k_ => some k_ ≠ (.slice Ao35 t301.length co35 : Value).ownBlock ∧ some k_ ≠ (.slice Ao49 t313.length co49 : Value).ownBlock ∧ some k_ ≠ (.slice Ao50 t317.length co50 : Value).ownBlock) (.slice Ao42 t308.length co42) t308) ∧ (Kd.R (Kd.int .u8) 5 w' w.heap.size (fun k_ => some k_ ≠ (.slice Ao35 t301.length co35 : Value).ownBlock ∧ some k_ ≠ (.slice Ao42 t308.length co42 : Value).ownBlock ∧ some k_ ≠ (.slice Ao50 t317.length co50 : Value).ownBlock) (.slice Ao49 t313.length co49) t313) ∧ (Kd.R (Kd.int .u8) 5 w' w.heap.size (fun k_ => some k_ ≠ (.slice Ao35 t301.length co35 : Value).ownBlock ∧ some k_ ≠ (.slice Ao42 t308.length co42 : Value).ownBlock ∧ some k_ ≠ (.slice Ao49 t313.length co49 : Value).ownBlock) (.slice Ao50 t317.length co50) t317) ∧ (w'.heap[gb297]? = some (.cells #[.int .i64 a3_0, .int .i64 a3_1, .slice A3_2 l3_2.length c3_2] 26 (0, 0))) ∧ (w'.heap[gb298]? = some (.cells #[.int .i64 a4_0, .int .i64 a4_1, .slice A4_2 l4_2.length c4_2] 26 (0, 0))) ∧ (w'.heap[gb305]? = some (.cells #[.int .i64 t299, .int .i64 t300, .slice Ao35 t301.length co35] 26 (0, 0))) ∧ (w'.heap[gb312]? = some (.cells #[.int .i64 t306, .int .i64 t307, .slice Ao42 t308.length co42] 26 (0, 0))) ∧ (Below w.heap.size w w')) HT_.out HW_.out (by kernel_rfl) (by kernel_rfl) ?_ ?_ ?_
                  · exact ⟨by simp only [putSel, Bool.false_eq_true, if_false], (by first | exact HO303.out | exact Kd.R_mono HO303.out (fun _ hk => by exact okw hk)), (by first | exact HO310.out | exact Kd.R_mono HO310.out (fun _ hk => by exact okw hk)), (by first | exact HO315.out | exact Kd.R_mono HO315.out (fun _ hk => by exact okw hk)), (by first | exact HO319.out | exact Kd.R_mono HO319.out (fun _ hk => by exact okw hk)), BK297.out, BK298.out, BK305.out, BK312.out, HB.out⟩
                  · skip
                    clear BK297 BK298 BK305 BK312 HB HO303 HO310 HO315 HO319
                    refine steps_cons ?_ ?_
                    · rintro b a w' ⟨ha, Q_HO303, Q_HO310, Q_HO315, Q_HO319, Q_BK297, Q_BK298, Q_BK305, Q_BK312, Q_HB⟩ hb_ hon hoff
                      refine ⟨_, rfl, fun K hK => ?_⟩
                      have e11 : a.tmps[11]? = some (.pointer (some ⟨gb305, 0, none⟩)) := by rw [ha]; exact (putSel_off rfl).trans rfl
                      replace ha := Aside0.mk ha
                      have HO303 := Aside0.mk Q_HO303
                      have HO310 := Aside0.mk Q_HO310
                      have HO315 := Aside0.mk Q_HO315
                      have HO319 := Aside0.mk Q_HO319
                      have BK297 := Aside0.mk Q_BK297
                      have BK298 := Aside0.mk Q_BK298
                      have BK305 := Aside0.mk Q_BK305
                      have BK312 := Aside0.mk Q_BK312
                      have HB := Aside0.mk Q_HB
                      have hc0_ : w'.cell? ⟨gb305, 0, none⟩ = some (.int .i64 t299) := (blk_cell BK305.out 0).trans rfl
                      have hc1_ : w'.cell? ⟨gb305, 1, none⟩ = some (.int .i64 t300) := (blk_cell BK305.out 1).trans rfl
                      have hc2_ : w'.cell? ⟨gb305, 2, none⟩ = some (.slice Ao35 t301.length co35) := (blk_cell BK305.out 2).trans rfl
                      refine value_ (w1 := w') (v := .agg #[.int .i64 t299, .int .i64 t300, .slice Ao35 t301.length co35]) (by rfl) rfl ?_ ?_
                      · go_simp
                        (try simp only [i64_w])
                        try rfl
                      refine hK.out _ _ ⟨(by rw [ha.out]; exact putSel_upk 0 hb_ rfl rfl rfl), Q_HO303, Q_HO310, Q_HO315, Q_HO319, Q_BK297, Q_BK298, Q_BK305, Q_BK312, Q_HB⟩
                    refine steps_cons ?_ ?_
                    · rintro b a w' ⟨ha, Q_HO303, Q_HO310, Q_HO315, Q_HO319, Q_BK297, Q_BK298, Q_BK305, Q_BK312, Q_HB⟩ hb_ hon hoff
                      refine ⟨_, rfl, fun K hK => ?_⟩
                      have e13 : a.tmps[13]? = some (.pointer (some ⟨gb312, 0, none⟩)) := by rw [ha]; exact (putSel_off rfl).trans rfl
                      replace ha := Aside0.mk ha
                      have HO303 := Aside0.mk Q_HO303
                      have HO310 := Aside0.mk Q_HO310
                      have HO315 := Aside0.mk Q_HO315
                      have HO319 := Aside0.mk Q_HO319
                      have BK297 := Aside0.mk Q_BK297
                      have BK298 := Aside0.mk Q_BK298
                      have BK305 := Aside0.mk Q_BK305
                      have BK312 := Aside0.mk Q_BK312
                      have HB := Aside0.mk Q_HB
                      have hc0_ : w'.cell? ⟨gb312, 0, none⟩ = some (.int .i64 t306) := (blk_cell BK312.out 0).trans rfl
                      have hc1_ : w'.cell? ⟨gb312, 1, none⟩ = some (.int .i64 t307) := (blk_cell BK312.out 1).trans rfl
                      have hc2_ : w'.cell? ⟨gb312, 2, none⟩ = some (.slice Ao42 t308.length co42) := (blk_cell BK312.out 2).trans rfl
                      refine value_ (w1 := w') (v := .agg #[.int .i64 t306, .int .i64 t307, .slice Ao42 t308.length co42]) (by rfl) rfl ?_ ?_
                      · go_simp
                        (try simp only [i64_w])
                        try rfl
                      refine hK.out _ _ ⟨(by rw [ha.out]; exact putSel_upk 1 hb_ rfl rfl rfl), Q_HO303, Q_HO310, Q_HO315, Q_HO319, Q_BK297, Q_BK298, Q_BK305, Q_BK312, Q_HB⟩
                    refine steps_cons ?_ ?_
                    · rintro b a w' ⟨ha, Q_HO303, Q_HO310, Q_HO315, Q_HO319, Q_BK297, Q_BK298, Q_BK305, Q_BK312, Q_HB⟩ hb_ hon hoff
                      refine ⟨_, rfl, fun K hK => ?_⟩
                      have e58 : a.tmps[58]? = some (.agg #[.int .i64 t299, .int .i64 t300, .slice Ao35 t301.length co35]) := by rw [ha]; exact putSel_on (e := (0, 58, .agg #[.int .i64 t299, .int .i64 t300, .slice Ao35 t301.length co35])) 0 rfl rfl (hon 0 (by kernel_rfl)) rfl
                      have e59 : a.tmps[59]? = some (.agg #[.int .i64 t306, .int .i64 t307, .slice Ao42 t308.length co42]) := by rw [ha]; exact putSel_on (e := (1, 59, .agg #[.int .i64 t306, .int .i64 t307, .slice Ao42 t308.length co42])) 1 rfl rfl (hon 1 (by kernel_rfl)) rfl
                      replace ha := Aside0.mk ha
                      have HO303 := Aside0.mk Q_HO303
                      have HO310 := Aside0.mk Q_HO310
                      have HO315 := Aside0.mk Q_HO315
                      have HO319 := Aside0.mk Q_HO319
                      have BK297 := Aside0.mk Q_BK297
                      have BK298 := Aside0.mk Q_BK298
                      have BK305 := Aside0.mk Q_BK305
                      have BK312 := Aside0.mk Q_BK312
                      have HB := Aside0.mk Q_HB
                      refine goes_ Try.func17 (by kernel_rfl) rfl #[.agg #[.int .i64 t299, .int .i64 t300, .slice Ao35 t301.length co35], .agg #[.int .i64 t306, .int .i64 t307, .slice Ao42 t308.length co42]] (by rfl) rfl rfl (by first | (simp only [List.map_toArray, List.map_cons, List.map_nil, Act.eval, Array.getD_eq_getD_getElem?, Option.getD_some, e58, e59]; done) | (simp only [List.map_toArray, List.map_cons, List.map_nil, Act.eval, Array.getD_eq_getD_getElem?, Option.getD_some, e58, e59]; rfl)) ?_
                      with_reducible refine (castellanref6_Same.calls t299 t300 _ _ t301 t306 t307 _ _ t308 true _ ?side1 ?side2 ?side3 ?side4 A21.out).mono ?_
                      (case side1 => repeat (first | exact (Kd.R_reads' HO303.out).2.2 | (with_reducible refine Kd.C_alloc ?_ _) | (with_reducible refine Kd.C_drewN ?_ _) | (with_reducible refine Kd.C_drew ?_)))
                      (case side2 => exact (Kd.R_reads' HO303.out).2.1)
                      (case side3 => repeat (first | exact (Kd.R_reads' HO310.out).2.2 | (with_reducible refine Kd.C_alloc ?_ _) | (with_reducible refine Kd.C_drewN ?_ _) | (with_reducible refine Kd.C_drew ?_)))
                      (case side4 => exact (Kd.R_reads' HO310.out).2.1)
                      rintro e w52 ⟨rfl, hb⟩
                      refine ⟨_, rfl, ?_⟩
                      have n0_ := Aside0.mk (Kd.R_below (by (with_reducible repeat (first | apply Kd.R_alloc | apply Kd.R_drewN | apply Kd.R_drew)); exact HO303.out) hb)
                      have n1_ := Aside0.mk (Kd.R_below (by (with_reducible repeat (first | apply Kd.R_alloc | apply Kd.R_drewN | apply Kd.R_drew)); exact HO310.out) hb)
                      have n2_ := Aside0.mk (Kd.R_below (by (with_reducible repeat (first | apply Kd.R_alloc | apply Kd.R_drewN | apply Kd.R_drew)); exact HO315.out) hb)
                      have n3_ := Aside0.mk (Kd.R_below (by (with_reducible repeat (first | apply Kd.R_alloc | apply Kd.R_drewN | apply Kd.R_drew)); exact HO319.out) hb)
                      have n4_ := Aside0.mk (blk_below (g := gb297) (o := .cells #[.int .i64 a3_0, .int .i64 a3_1, .slice A3_2 l3_2.length c3_2] 26 (0, 0)) (by (with_reducible repeat (first | refine blk_drewN ?_ _ | refine blk_drew ?_ | refine blk_alloc ?_ _)); exact BK297.out) hb)
                      have n5_ := Aside0.mk (blk_below (g := gb298) (o := .cells #[.int .i64 a4_0, .int .i64 a4_1, .slice A4_2 l4_2.length c4_2] 26 (0, 0)) (by (with_reducible repeat (first | refine blk_drewN ?_ _ | refine blk_drew ?_ | refine blk_alloc ?_ _)); exact BK298.out) hb)
                      have n6_ := Aside0.mk (blk_below (g := gb305) (o := .cells #[.int .i64 t299, .int .i64 t300, .slice Ao35 t301.length co35] 26 (0, 0)) (by (with_reducible repeat (first | refine blk_drewN ?_ _ | refine blk_drew ?_ | refine blk_alloc ?_ _)); exact BK305.out) hb)
                      have n7_ := Aside0.mk (blk_below (g := gb312) (o := .cells #[.int .i64 t306, .int .i64 t307, .slice Ao42 t308.length co42] 26 (0, 0)) (by (with_reducible repeat (first | refine blk_drewN ?_ _ | refine blk_drew ?_ | refine blk_alloc ?_ _)); exact BK312.out) hb)
                      have n8_ := Aside0.mk (below_step (by repeat (first | (with_reducible first | exact HB.out | apply below_alloc | apply pw_below_drewN | apply below_drew1 | refine below_set ?_ GE297.out | refine below_set ?_ GE298.out | refine below_set ?_ GE305.out | refine below_set ?_ GE312.out) | exact HB.out)) hb)
                      clear HO303
                      clear HO310
                      clear HO315
                      clear HO319
                      clear BK297
                      clear BK298
                      clear BK305
                      clear BK312
                      clear HB
                      have HO303 := n0_
                      have HO310 := n1_
                      have HO315 := n2_
                      have HO319 := n3_
                      have BK297 := n4_
                      have BK298 := n5_
                      have BK305 := n6_
                      have BK312 := n7_
                      have HB := n8_
                      clear n0_ n1_ n2_ n3_ n4_ n5_ n6_ n7_ n8_
                      (try clear hb)
                      (try clear hb2)
                      (try clear hk)
                      (try clear hi)
                      refine hK.out _ _ ⟨(by rw [ha.out]; exact putSel_upk 2 hb_ rfl rfl rfl), (by first | ((with_reducible repeat (first | apply Kd.R_alloc | apply Kd.R_drewN | apply Kd.R_drew)); exact Kd.R_mono HO303.out (fun _ hk => ⟨hk.1.1, ⟨hk.1.2, hk.2⟩⟩)) | ((with_reducible repeat (first | apply Kd.R_alloc | apply Kd.R_drewN | apply Kd.R_drew)); exact Kd.R_mono HO303.out (fun _ hk => by first | trivial | exact hk | exact hk.1 | exact hk.2 | exact hk.1.1 | exact okw hk))), (by first | ((with_reducible repeat (first | apply Kd.R_alloc | apply Kd.R_drewN | apply Kd.R_drew)); exact Kd.R_mono HO310.out (fun _ hk => ⟨hk.1.1, ⟨hk.1.2, hk.2⟩⟩)) | ((with_reducible repeat (first | apply Kd.R_alloc | apply Kd.R_drewN | apply Kd.R_drew)); exact Kd.R_mono HO310.out (fun _ hk => by first | trivial | exact hk | exact hk.1 | exact hk.2 | exact hk.1.1 | exact okw hk))), (by first | ((with_reducible repeat (first | apply Kd.R_alloc | apply Kd.R_drewN | apply Kd.R_drew)); exact Kd.R_mono HO315.out (fun _ hk => ⟨hk.1.1.2, ⟨hk.1.2, hk.2⟩⟩)) | ((with_reducible repeat (first | apply Kd.R_alloc | apply Kd.R_drewN | apply Kd.R_drew)); exact Kd.R_mono HO315.out (fun _ hk => by first | trivial | exact hk | exact hk.1 | exact hk.2 | exact hk.1.1 | exact okw hk))), (by first | ((with_reducible repeat (first | apply Kd.R_alloc | apply Kd.R_drewN | apply Kd.R_drew)); exact Kd.R_mono HO319.out (fun _ hk => ⟨hk.1.1.2, ⟨hk.1.2, hk.2⟩⟩)) | ((with_reducible repeat (first | apply Kd.R_alloc | apply Kd.R_drewN | apply Kd.R_drew)); exact Kd.R_mono HO319.out (fun _ hk => by first | trivial | exact hk | exact hk.1 | exact hk.2 | exact hk.1.1 | exact okw hk))), (by (with_reducible repeat (first | refine blk_drewN ?_ _ | refine blk_drew ?_ | refine blk_alloc ?_ _)); exact BK297.out), (by (with_reducible repeat (first | refine blk_drewN ?_ _ | refine blk_drew ?_ | refine blk_alloc ?_ _)); exact BK298.out), (by (with_reducible repeat (first | refine blk_drewN ?_ _ | refine blk_drew ?_ | refine blk_alloc ?_ _)); exact BK305.out), (by (with_reducible repeat (first | refine blk_drewN ?_ _ | refine blk_drew ?_ | refine blk_alloc ?_ _)); exact BK312.out), (by repeat (first | (with_reducible first | exact HB.out | apply below_alloc | apply pw_below_drewN | apply below_drew1 | refine below_set ?_ GE297.out | refine below_set ?_ GE298.out | refine below_set ?_ GE305.out | refine below_set ?_ GE312.out) | exact HB.out))⟩
                    refine steps_cons ?_ ?_
                    · rintro b a w' ⟨ha, Q_HO303, Q_HO310, Q_HO315, Q_HO319, Q_BK297, Q_BK298, Q_BK305, Q_BK312, Q_HB⟩ hb_ hon hoff
                      refine ⟨_, rfl, fun K hK => ?_⟩
                      have e60 : a.tmps[60]? = some (.bool true) := by rw [ha]; exact putSel_on (e := (2, 60, .bool true)) 2 rfl rfl (hon 2 (by kernel_rfl)) rfl
                      replace ha := Aside0.mk ha
                      have HO303 := Aside0.mk Q_HO303
                      have HO310 := Aside0.mk Q_HO310
                      have HO315 := Aside0.mk Q_HO315
                      have HO319 := Aside0.mk Q_HO319
                      have BK297 := Aside0.mk Q_BK297
                      have BK298 := Aside0.mk Q_BK298
                      have BK305 := Aside0.mk Q_BK305
                      have BK312 := Aside0.mk Q_BK312
                      have HB := Aside0.mk Q_HB
                      refine value_ (w1 := w') (v := .bool true) (by rfl) rfl ?_ ?_
                      · go_simp
                        (try simp only [i64_w])
                        try rfl
                      refine hK.out _ _ ⟨(by rw [ha.out]; exact putSel_upk 3 hb_ rfl rfl rfl), Q_HO303, Q_HO310, Q_HO315, Q_HO319, Q_BK297, Q_BK298, Q_BK305, Q_BK312, Q_HB⟩
                    refine steps_cons ?_ ?_
                    · rintro b a w' ⟨ha, Q_HO303, Q_HO310, Q_HO315, Q_HO319, Q_BK297, Q_BK298, Q_BK305, Q_BK312, Q_HB⟩ hb_ hon hoff
                      refine ⟨_, rfl, fun K hK => ?_⟩
                      have e12 : a.tmps[12]? = some (.int .i64 t304) := by rw [ha]; exact (putSel_off rfl).trans rfl
                      have e61 : a.tmps[61]? = some (.bool true) := by rw [ha]; exact putSel_on (e := (3, 61, .bool true)) 3 rfl rfl (hon 3 (by kernel_rfl)) rfl
                      replace ha := Aside0.mk ha
                      have HO303 := Aside0.mk Q_HO303
                      have HO310 := Aside0.mk Q_HO310
                      have HO315 := Aside0.mk Q_HO315
                      have HO319 := Aside0.mk Q_HO319
                      have BK297 := Aside0.mk Q_BK297
                      have BK298 := Aside0.mk Q_BK298
                      have BK305 := Aside0.mk Q_BK305
                      have BK312 := Aside0.mk Q_BK312
                      have HB := Aside0.mk Q_HB
                      refine value_ (w1 := w') (v := .int .i64 t304) (wanted_on rfl rfl rfl (e61.trans (by first | rfl | (simp [*]; done)))) rfl ?_ ?_
                      · go_simp
                        (try simp only [i64_w])
                        try rfl
                      refine hK.out _ _ ⟨(by rw [ha.out]; exact putSel_upk 4 hb_ rfl rfl rfl), Q_HO303, Q_HO310, Q_HO315, Q_HO319, Q_BK297, Q_BK298, Q_BK305, Q_BK312, Q_HB⟩
                    refine steps_cons ?_ ?_
                    · rintro b a w' ⟨ha, Q_HO303, Q_HO310, Q_HO315, Q_HO319, Q_BK297, Q_BK298, Q_BK305, Q_BK312, Q_HB⟩ hb_ hon hoff
                      refine ⟨_, rfl, fun K hK => ?_⟩
                      have e14 : a.tmps[14]? = some (.int .i64 t311) := by rw [ha]; exact (putSel_off rfl).trans rfl
                      have e61 : a.tmps[61]? = some (.bool true) := by rw [ha]; exact putSel_on (e := (3, 61, .bool true)) 3 rfl rfl (hon 3 (by kernel_rfl)) rfl
                      replace ha := Aside0.mk ha
                      have HO303 := Aside0.mk Q_HO303
                      have HO310 := Aside0.mk Q_HO310
                      have HO315 := Aside0.mk Q_HO315
                      have HO319 := Aside0.mk Q_HO319
                      have BK297 := Aside0.mk Q_BK297
                      have BK298 := Aside0.mk Q_BK298
                      have BK305 := Aside0.mk Q_BK305
                      have BK312 := Aside0.mk Q_BK312
                      have HB := Aside0.mk Q_HB
                      refine value_ (w1 := w') (v := .int .i64 t311) (wanted_on rfl rfl rfl (e61.trans (by first | rfl | (simp [*]; done)))) rfl ?_ ?_
                      · go_simp
                        (try simp only [i64_w])
                        try rfl
                      refine hK.out _ _ ⟨(by rw [ha.out]; exact putSel_upk 5 hb_ rfl rfl rfl), Q_HO303, Q_HO310, Q_HO315, Q_HO319, Q_BK297, Q_BK298, Q_BK305, Q_BK312, Q_HB⟩
                    refine steps_cons ?_ ?_
                    · rintro b a w' ⟨ha, Q_HO303, Q_HO310, Q_HO315, Q_HO319, Q_BK297, Q_BK298, Q_BK305, Q_BK312, Q_HB⟩ hb_ hon hoff
                      refine ⟨_, rfl, fun K hK => ?_⟩
                      have e62 : a.tmps[62]? = some (.int .i64 t304) := by rw [ha]; exact putSel_on (e := (4, 62, .int .i64 t304)) 4 rfl rfl (hon 4 (by kernel_rfl)) rfl
                      have e63 : a.tmps[63]? = some (.int .i64 t311) := by rw [ha]; exact putSel_on (e := (5, 63, .int .i64 t311)) 5 rfl rfl (hon 5 (by kernel_rfl)) rfl
                      have e61 : a.tmps[61]? = some (.bool true) := by rw [ha]; exact putSel_on (e := (3, 61, .bool true)) 3 rfl rfl (hon 3 (by kernel_rfl)) rfl
                      replace ha := Aside0.mk ha
                      have HO303 := Aside0.mk Q_HO303
                      have HO310 := Aside0.mk Q_HO310
                      have HO315 := Aside0.mk Q_HO315
                      have HO319 := Aside0.mk Q_HO319
                      have BK297 := Aside0.mk Q_BK297
                      have BK298 := Aside0.mk Q_BK298
                      have BK305 := Aside0.mk Q_BK305
                      have BK312 := Aside0.mk Q_BK312
                      have HB := Aside0.mk Q_HB
                      refine value_ (w1 := w') (v := .bool (t304 == t311)) (wanted_on rfl rfl rfl (e61.trans (by first | rfl | (simp [*]; done)))) rfl ?_ ?_
                      · go_simp
                        (try simp only [i64_w])
                        try rfl
                      refine hK.out _ _ ⟨(by rw [ha.out]; exact putSel_upk 6 hb_ rfl rfl rfl), Q_HO303, Q_HO310, Q_HO315, Q_HO319, Q_BK297, Q_BK298, Q_BK305, Q_BK312, Q_HB⟩
                    refine steps_cons ?_ ?_
                    · rintro b a w' ⟨ha, Q_HO303, Q_HO310, Q_HO315, Q_HO319, Q_BK297, Q_BK298, Q_BK305, Q_BK312, Q_HB⟩ hb_ hon hoff
                      refine ⟨_, rfl, fun K hK => ?_⟩
                      have e61 : a.tmps[61]? = some (.bool true) := by rw [ha]; exact putSel_on (e := (3, 61, .bool true)) 3 rfl rfl (hon 3 (by kernel_rfl)) rfl
                      have e64 : a.tmps[64]? = some (.bool (t304 == t311)) := by rw [ha]; exact putSel_on (e := (6, 64, .bool (t304 == t311))) 6 rfl rfl (hon 6 (by kernel_rfl)) rfl
                      replace ha := Aside0.mk ha
                      have HO303 := Aside0.mk Q_HO303
                      have HO310 := Aside0.mk Q_HO310
                      have HO315 := Aside0.mk Q_HO315
                      have HO319 := Aside0.mk Q_HO319
                      have BK297 := Aside0.mk Q_BK297
                      have BK298 := Aside0.mk Q_BK298
                      have BK305 := Aside0.mk Q_BK305
                      have BK312 := Aside0.mk Q_BK312
                      have HB := Aside0.mk Q_HB
                      refine value_ (w1 := w') (v := .bool (t304 == t311)) (by rfl) rfl ?_ ?_
                      · go_simp
                        (try simp only [i64_w])
                        try rfl
                      refine hK.out _ _ ⟨(by rw [ha.out]; exact putSel_upk 7 hb_ rfl rfl rfl), Q_HO303, Q_HO310, Q_HO315, Q_HO319, Q_BK297, Q_BK298, Q_BK305, Q_BK312, Q_HB⟩
                    refine steps_cons ?_ ?_
                    · rintro b a w' ⟨ha, Q_HO303, Q_HO310, Q_HO315, Q_HO319, Q_BK297, Q_BK298, Q_BK305, Q_BK312, Q_HB⟩ hb_ hon hoff
                      refine ⟨_, rfl, fun K hK => ?_⟩
                      have e65 : a.tmps[65]? = some (.bool (t304 == t311)) := by rw [ha]; exact putSel_on (e := (7, 65, .bool (t304 == t311))) 7 rfl rfl (hon 7 (by kernel_rfl)) rfl
                      replace ha := Aside0.mk ha
                      have HO303 := Aside0.mk Q_HO303
                      have HO310 := Aside0.mk Q_HO310
                      have HO315 := Aside0.mk Q_HO315
                      have HO319 := Aside0.mk Q_HO319
                      have BK297 := Aside0.mk Q_BK297
                      have BK298 := Aside0.mk Q_BK298
                      have BK305 := Aside0.mk Q_BK305
                      have BK312 := Aside0.mk Q_BK312
                      have HB := Aside0.mk Q_HB
                      refine value_ (w1 := w') (v := .bool (t304 == t311)) (by rfl) rfl ?_ ?_
                      · go_simp
                        (try simp only [i64_w])
                        try rfl
                      refine hK.out _ _ ⟨(by rw [ha.out]; exact putSel_upk 8 hb_ rfl rfl rfl), Q_HO303, Q_HO310, Q_HO315, Q_HO319, Q_BK297, Q_BK298, Q_BK305, Q_BK312, Q_HB⟩
                    refine steps_cons ?_ ?_
                    · rintro b a w' ⟨ha, Q_HO303, Q_HO310, Q_HO315, Q_HO319, Q_BK297, Q_BK298, Q_BK305, Q_BK312, Q_HB⟩ hb_ hon hoff
                      refine ⟨_, rfl, fun K hK => ?_⟩
                      have e15 : a.tmps[15]? = some (.slice Ao49 t313.length co49) := by rw [ha]; exact (putSel_off rfl).trans rfl
                      have e66 : a.tmps[66]? = some (.bool (t304 == t311)) := by rw [ha]; exact putSel_on (e := (8, 66, .bool (t304 == t311))) 8 rfl rfl (hon 8 (by kernel_rfl)) rfl
                      replace ha := Aside0.mk ha
                      have HO303 := Aside0.mk Q_HO303
                      have HO310 := Aside0.mk Q_HO310
                      have HO315 := Aside0.mk Q_HO315
                      have HO319 := Aside0.mk Q_HO319
                      have BK297 := Aside0.mk Q_BK297
                      have BK298 := Aside0.mk Q_BK298
                      have BK305 := Aside0.mk Q_BK305
                      have BK312 := Aside0.mk Q_BK312
                      have HB := Aside0.mk Q_HB
                      refine value_ (w1 := w') (v := .slice Ao49 t313.length co49) (wanted_on rfl rfl rfl (e66.trans (by first | rfl | (simp [*]; done)))) rfl ?_ ?_
                      · go_simp
                        (try simp only [i64_w])
                        try rfl
                      refine hK.out _ _ ⟨(by rw [ha.out]; exact putSel_upk 9 hb_ rfl rfl rfl), Q_HO303, Q_HO310, Q_HO315, Q_HO319, Q_BK297, Q_BK298, Q_BK305, Q_BK312, Q_HB⟩
                    refine steps_cons ?_ ?_
                    · rintro b a w' ⟨ha, Q_HO303, Q_HO310, Q_HO315, Q_HO319, Q_BK297, Q_BK298, Q_BK305, Q_BK312, Q_HB⟩ hb_ hon hoff
                      refine ⟨_, rfl, fun K hK => ?_⟩
                      have e67 : a.tmps[67]? = some (.slice Ao49 t313.length co49) := by rw [ha]; exact putSel_on (e := (9, 67, .slice Ao49 t313.length co49)) 9 rfl rfl (hon 9 (by kernel_rfl)) rfl
                      have e66 : a.tmps[66]? = some (.bool (t304 == t311)) := by rw [ha]; exact putSel_on (e := (8, 66, .bool (t304 == t311))) 8 rfl rfl (hon 8 (by kernel_rfl)) rfl
                      replace ha := Aside0.mk ha
                      have HO303 := Aside0.mk Q_HO303
                      have HO310 := Aside0.mk Q_HO310
                      have HO315 := Aside0.mk Q_HO315
                      have HO319 := Aside0.mk Q_HO319
                      have BK297 := Aside0.mk Q_BK297
                      have BK298 := Aside0.mk Q_BK298
                      have BK305 := Aside0.mk Q_BK305
                      have BK312 := Aside0.mk Q_BK312
                      have HB := Aside0.mk Q_HB
                      have hcv_ := Kd.C_string (P := Try.prog) (A := Ao49) (c := co49) Try.underlying24 Try.underlying5 Try.underlying9 (Kd.R_reads' HO315.out).2.2
                      refine value_ (w1 := w') (v := .string (strOfNums t313)) (wanted_on rfl rfl rfl (e66.trans (by first | rfl | (simp [*]; done)))) rfl ?_ ?_
                      · go_simp
                        (try simp only [i64_w])
                        try rfl
                      refine hK.out _ _ ⟨(by rw [ha.out]; exact putSel_upk 10 hb_ rfl rfl rfl), Q_HO303, Q_HO310, Q_HO315, Q_HO319, Q_BK297, Q_BK298, Q_BK305, Q_BK312, Q_HB⟩
                    refine steps_cons ?_ ?_
                    · rintro b a w' ⟨ha, Q_HO303, Q_HO310, Q_HO315, Q_HO319, Q_BK297, Q_BK298, Q_BK305, Q_BK312, Q_HB⟩ hb_ hon hoff
                      refine ⟨_, rfl, fun K hK => ?_⟩
                      have e17 : a.tmps[17]? = some (.slice Ao50 t317.length co50) := by rw [ha]; exact (putSel_off rfl).trans rfl
                      have e66 : a.tmps[66]? = some (.bool (t304 == t311)) := by rw [ha]; exact putSel_on (e := (8, 66, .bool (t304 == t311))) 8 rfl rfl (hon 8 (by kernel_rfl)) rfl
                      replace ha := Aside0.mk ha
                      have HO303 := Aside0.mk Q_HO303
                      have HO310 := Aside0.mk Q_HO310
                      have HO315 := Aside0.mk Q_HO315
                      have HO319 := Aside0.mk Q_HO319
                      have BK297 := Aside0.mk Q_BK297
                      have BK298 := Aside0.mk Q_BK298
                      have BK305 := Aside0.mk Q_BK305
                      have BK312 := Aside0.mk Q_BK312
                      have HB := Aside0.mk Q_HB
                      refine value_ (w1 := w') (v := .slice Ao50 t317.length co50) (wanted_on rfl rfl rfl (e66.trans (by first | rfl | (simp [*]; done)))) rfl ?_ ?_
                      · go_simp
                        (try simp only [i64_w])
                        try rfl
                      refine hK.out _ _ ⟨(by rw [ha.out]; exact putSel_upk 11 hb_ rfl rfl rfl), Q_HO303, Q_HO310, Q_HO315, Q_HO319, Q_BK297, Q_BK298, Q_BK305, Q_BK312, Q_HB⟩
                    refine steps_cons ?_ ?_
                    · rintro b a w' ⟨ha, Q_HO303, Q_HO310, Q_HO315, Q_HO319, Q_BK297, Q_BK298, Q_BK305, Q_BK312, Q_HB⟩ hb_ hon hoff
                      refine ⟨_, rfl, fun K hK => ?_⟩
                      have e69 : a.tmps[69]? = some (.slice Ao50 t317.length co50) := by rw [ha]; exact putSel_on (e := (11, 69, .slice Ao50 t317.length co50)) 11 rfl rfl (hon 11 (by kernel_rfl)) rfl
                      have e66 : a.tmps[66]? = some (.bool (t304 == t311)) := by rw [ha]; exact putSel_on (e := (8, 66, .bool (t304 == t311))) 8 rfl rfl (hon 8 (by kernel_rfl)) rfl
                      replace ha := Aside0.mk ha
                      have HO303 := Aside0.mk Q_HO303
                      have HO310 := Aside0.mk Q_HO310
                      have HO315 := Aside0.mk Q_HO315
                      have HO319 := Aside0.mk Q_HO319
                      have BK297 := Aside0.mk Q_BK297
                      have BK298 := Aside0.mk Q_BK298
                      have BK305 := Aside0.mk Q_BK305
                      have BK312 := Aside0.mk Q_BK312
                      have HB := Aside0.mk Q_HB
                      have hcv_ := Kd.C_string (P := Try.prog) (A := Ao50) (c := co50) Try.underlying24 Try.underlying5 Try.underlying9 (Kd.R_reads' HO319.out).2.2
                      refine value_ (w1 := w') (v := .string (strOfNums t317)) (wanted_on rfl rfl rfl (e66.trans (by first | rfl | (simp [*]; done)))) rfl ?_ ?_
                      · go_simp
                        (try simp only [i64_w])
                        try rfl
                      refine hK.out _ _ ⟨(by rw [ha.out]; exact putSel_upk 12 hb_ rfl rfl rfl), Q_HO303, Q_HO310, Q_HO315, Q_HO319, Q_BK297, Q_BK298, Q_BK305, Q_BK312, Q_HB⟩
                    refine steps_cons ?_ ?_
                    · rintro b a w' ⟨ha, Q_HO303, Q_HO310, Q_HO315, Q_HO319, Q_BK297, Q_BK298, Q_BK305, Q_BK312, Q_HB⟩ hb_ hon hoff
                      refine ⟨_, rfl, fun K hK => ?_⟩
                      have e68 : a.tmps[68]? = some (.string (strOfNums t313)) := by rw [ha]; exact putSel_on (e := (10, 68, .string (strOfNums t313))) 10 rfl rfl (hon 10 (by kernel_rfl)) rfl
                      have e70 : a.tmps[70]? = some (.string (strOfNums t317)) := by rw [ha]; exact putSel_on (e := (12, 70, .string (strOfNums t317))) 12 rfl rfl (hon 12 (by kernel_rfl)) rfl
                      have e66 : a.tmps[66]? = some (.bool (t304 == t311)) := by rw [ha]; exact putSel_on (e := (8, 66, .bool (t304 == t311))) 8 rfl rfl (hon 8 (by kernel_rfl)) rfl
                      replace ha := Aside0.mk ha
                      have HO303 := Aside0.mk Q_HO303
                      have HO310 := Aside0.mk Q_HO310
                      have HO315 := Aside0.mk Q_HO315
                      have HO319 := Aside0.mk Q_HO319
                      have BK297 := Aside0.mk Q_BK297
                      have BK298 := Aside0.mk Q_BK298
                      have BK305 := Aside0.mk Q_BK305
                      have BK312 := Aside0.mk Q_BK312
                      have HB := Aside0.mk Q_HB
                      refine value_ (w1 := w') (v := .bool ((strOfNums t313).toList == (strOfNums t317).toList)) (wanted_on rfl rfl rfl (e66.trans (by first | rfl | (simp [*]; done)))) rfl ?_ ?_
                      · go_simp
                        (try simp only [i64_w])
                        try rfl
                      refine hK.out _ _ ⟨(by rw [ha.out]; exact putSel_upk 13 hb_ rfl rfl rfl), Q_HO303, Q_HO310, Q_HO315, Q_HO319, Q_BK297, Q_BK298, Q_BK305, Q_BK312, Q_HB⟩
                    refine steps_cons ?_ ?_
                    · rintro b a w' ⟨ha, Q_HO303, Q_HO310, Q_HO315, Q_HO319, Q_BK297, Q_BK298, Q_BK305, Q_BK312, Q_HB⟩ hb_ hon hoff
                      refine ⟨_, rfl, fun K hK => ?_⟩
                      have e66 : a.tmps[66]? = some (.bool (t304 == t311)) := by rw [ha]; exact putSel_on (e := (8, 66, .bool (t304 == t311))) 8 rfl rfl (hon 8 (by kernel_rfl)) rfl
                      have e71 : a.tmps[71]? = some (.bool ((strOfNums t313).toList == (strOfNums t317).toList)) := by rw [ha]; exact putSel_on (e := (13, 71, .bool ((strOfNums t313).toList == (strOfNums t317).toList))) 13 rfl rfl (hon 13 (by kernel_rfl)) rfl
                      replace ha := Aside0.mk ha
                      have HO303 := Aside0.mk Q_HO303
                      have HO310 := Aside0.mk Q_HO310
                      have HO315 := Aside0.mk Q_HO315
                      have HO319 := Aside0.mk Q_HO319
                      have BK297 := Aside0.mk Q_BK297
                      have BK298 := Aside0.mk Q_BK298
                      have BK305 := Aside0.mk Q_BK305
                      have BK312 := Aside0.mk Q_BK312
                      have HB := Aside0.mk Q_HB
                      refine value_ (w1 := w') (v := .bool ((strOfNums t313).toList == (strOfNums t317).toList)) (by rfl) rfl ?_ ?_
                      · go_simp
                        (try simp only [i64_w])
                        try rfl
                      refine hK.out _ _ ⟨(by rw [ha.out]; exact putSel_upk 14 hb_ rfl rfl rfl), Q_HO303, Q_HO310, Q_HO315, Q_HO319, Q_BK297, Q_BK298, Q_BK305, Q_BK312, Q_HB⟩
                    refine steps_cons ?_ ?_
                    · rintro b a w' ⟨ha, Q_HO303, Q_HO310, Q_HO315, Q_HO319, Q_BK297, Q_BK298, Q_BK305, Q_BK312, Q_HB⟩ hb_ hon hoff
                      refine ⟨_, rfl, fun K hK => ?_⟩
                      have e72 : a.tmps[72]? = some (.bool ((strOfNums t313).toList == (strOfNums t317).toList)) := by rw [ha]; exact putSel_on (e := (14, 72, .bool ((strOfNums t313).toList == (strOfNums t317).toList))) 14 rfl rfl (hon 14 (by kernel_rfl)) rfl
                      replace ha := Aside0.mk ha
                      have HO303 := Aside0.mk Q_HO303
                      have HO310 := Aside0.mk Q_HO310
                      have HO315 := Aside0.mk Q_HO315
                      have HO319 := Aside0.mk Q_HO319
                      have BK297 := Aside0.mk Q_BK297
                      have BK298 := Aside0.mk Q_BK298
                      have BK305 := Aside0.mk Q_BK305
                      have BK312 := Aside0.mk Q_BK312
                      have HB := Aside0.mk Q_HB
                      refine value_ (w1 := w') (v := .bool ((strOfNums t313).toList == (strOfNums t317).toList)) (by rfl) rfl ?_ ?_
                      · go_simp
                        (try simp only [i64_w])
                        try rfl
                      refine hK.out _ _ ⟨(by rw [ha.out]; exact putSel_upk 15 hb_ rfl rfl rfl), Q_HO303, Q_HO310, Q_HO315, Q_HO319, Q_BK297, Q_BK298, Q_BK305, Q_BK312, Q_HB⟩
                    refine steps_cons ?_ ?_
                    · rintro b a w' ⟨ha, Q_HO303, Q_HO310, Q_HO315, Q_HO319, Q_BK297, Q_BK298, Q_BK305, Q_BK312, Q_HB⟩ hb_ hon hoff
                      refine ⟨_, rfl, fun K hK => ?_⟩
                      have e16 : a.tmps[16]? = some (.int .i64 t316) := by rw [ha]; exact (putSel_off rfl).trans rfl
                      have e73 : a.tmps[73]? = some (.bool ((strOfNums t313).toList == (strOfNums t317).toList)) := by rw [ha]; exact putSel_on (e := (15, 73, .bool ((strOfNums t313).toList == (strOfNums t317).toList))) 15 rfl rfl (hon 15 (by kernel_rfl)) rfl
                      replace ha := Aside0.mk ha
                      have HO303 := Aside0.mk Q_HO303
                      have HO310 := Aside0.mk Q_HO310
                      have HO315 := Aside0.mk Q_HO315
                      have HO319 := Aside0.mk Q_HO319
                      have BK297 := Aside0.mk Q_BK297
                      have BK298 := Aside0.mk Q_BK298
                      have BK305 := Aside0.mk Q_BK305
                      have BK312 := Aside0.mk Q_BK312
                      have HB := Aside0.mk Q_HB
                      refine value_ (w1 := w') (v := .int .i64 t316) (wanted_on rfl rfl rfl (e73.trans (by first | rfl | (simp [*]; done)))) rfl ?_ ?_
                      · go_simp
                        (try simp only [i64_w])
                        try rfl
                      refine hK.out _ _ ⟨(by rw [ha.out]; exact putSel_upk 16 hb_ rfl rfl rfl), Q_HO303, Q_HO310, Q_HO315, Q_HO319, Q_BK297, Q_BK298, Q_BK305, Q_BK312, Q_HB⟩
                    refine steps_cons ?_ ?_
                    · rintro b a w' ⟨ha, Q_HO303, Q_HO310, Q_HO315, Q_HO319, Q_BK297, Q_BK298, Q_BK305, Q_BK312, Q_HB⟩ hb_ hon hoff
                      refine ⟨_, rfl, fun K hK => ?_⟩
                      have e18 : a.tmps[18]? = some (.int .i64 t320) := by rw [ha]; exact (putSel_off rfl).trans rfl
                      have e73 : a.tmps[73]? = some (.bool ((strOfNums t313).toList == (strOfNums t317).toList)) := by rw [ha]; exact putSel_on (e := (15, 73, .bool ((strOfNums t313).toList == (strOfNums t317).toList))) 15 rfl rfl (hon 15 (by kernel_rfl)) rfl
                      replace ha := Aside0.mk ha
                      have HO303 := Aside0.mk Q_HO303
                      have HO310 := Aside0.mk Q_HO310
                      have HO315 := Aside0.mk Q_HO315
                      have HO319 := Aside0.mk Q_HO319
                      have BK297 := Aside0.mk Q_BK297
                      have BK298 := Aside0.mk Q_BK298
                      have BK305 := Aside0.mk Q_BK305
                      have BK312 := Aside0.mk Q_BK312
                      have HB := Aside0.mk Q_HB
                      refine value_ (w1 := w') (v := .int .i64 t320) (wanted_on rfl rfl rfl (e73.trans (by first | rfl | (simp [*]; done)))) rfl ?_ ?_
                      · go_simp
                        (try simp only [i64_w])
                        try rfl
                      refine hK.out _ _ ⟨(by rw [ha.out]; exact putSel_upk 17 hb_ rfl rfl rfl), Q_HO303, Q_HO310, Q_HO315, Q_HO319, Q_BK297, Q_BK298, Q_BK305, Q_BK312, Q_HB⟩
                    refine steps_cons ?_ ?_
                    · rintro b a w' ⟨ha, Q_HO303, Q_HO310, Q_HO315, Q_HO319, Q_BK297, Q_BK298, Q_BK305, Q_BK312, Q_HB⟩ hb_ hon hoff
                      refine ⟨_, rfl, fun K hK => ?_⟩
                      have e74 : a.tmps[74]? = some (.int .i64 t316) := by rw [ha]; exact putSel_on (e := (16, 74, .int .i64 t316)) 16 rfl rfl (hon 16 (by kernel_rfl)) rfl
                      have e75 : a.tmps[75]? = some (.int .i64 t320) := by rw [ha]; exact putSel_on (e := (17, 75, .int .i64 t320)) 17 rfl rfl (hon 17 (by kernel_rfl)) rfl
                      have e73 : a.tmps[73]? = some (.bool ((strOfNums t313).toList == (strOfNums t317).toList)) := by rw [ha]; exact putSel_on (e := (15, 73, .bool ((strOfNums t313).toList == (strOfNums t317).toList))) 15 rfl rfl (hon 15 (by kernel_rfl)) rfl
                      replace ha := Aside0.mk ha
                      have HO303 := Aside0.mk Q_HO303
                      have HO310 := Aside0.mk Q_HO310
                      have HO315 := Aside0.mk Q_HO315
                      have HO319 := Aside0.mk Q_HO319
                      have BK297 := Aside0.mk Q_BK297
                      have BK298 := Aside0.mk Q_BK298
                      have BK305 := Aside0.mk Q_BK305
                      have BK312 := Aside0.mk Q_BK312
                      have HB := Aside0.mk Q_HB
                      refine value_ (w1 := w') (v := .bool (t316 == t320)) (wanted_on rfl rfl rfl (e73.trans (by first | rfl | (simp [*]; done)))) rfl ?_ ?_
                      · go_simp
                        (try simp only [i64_w])
                        try rfl
                      refine hK.out _ _ ⟨(by rw [ha.out]; exact putSel_upk 18 hb_ rfl rfl rfl), Q_HO303, Q_HO310, Q_HO315, Q_HO319, Q_BK297, Q_BK298, Q_BK305, Q_BK312, Q_HB⟩
                    refine steps_cons ?_ ?_
                    · rintro b a w' ⟨ha, Q_HO303, Q_HO310, Q_HO315, Q_HO319, Q_BK297, Q_BK298, Q_BK305, Q_BK312, Q_HB⟩ hb_ hon hoff
                      refine ⟨_, rfl, fun K hK => ?_⟩
                      have e73 : a.tmps[73]? = some (.bool ((strOfNums t313).toList == (strOfNums t317).toList)) := by rw [ha]; exact putSel_on (e := (15, 73, .bool ((strOfNums t313).toList == (strOfNums t317).toList))) 15 rfl rfl (hon 15 (by kernel_rfl)) rfl
                      have e76 : a.tmps[76]? = some (.bool (t316 == t320)) := by rw [ha]; exact putSel_on (e := (18, 76, .bool (t316 == t320))) 18 rfl rfl (hon 18 (by kernel_rfl)) rfl
                      replace ha := Aside0.mk ha
                      have HO303 := Aside0.mk Q_HO303
                      have HO310 := Aside0.mk Q_HO310
                      have HO315 := Aside0.mk Q_HO315
                      have HO319 := Aside0.mk Q_HO319
                      have BK297 := Aside0.mk Q_BK297
                      have BK298 := Aside0.mk Q_BK298
                      have BK305 := Aside0.mk Q_BK305
                      have BK312 := Aside0.mk Q_BK312
                      have HB := Aside0.mk Q_HB
                      refine value_ (w1 := w') (v := .bool (t316 == t320)) (by rfl) rfl ?_ ?_
                      · go_simp
                        (try simp only [i64_w])
                        try rfl
                      refine hK.out _ _ ⟨(by rw [ha.out]; exact putSel_upk 19 hb_ rfl rfl rfl), Q_HO303, Q_HO310, Q_HO315, Q_HO319, Q_BK297, Q_BK298, Q_BK305, Q_BK312, Q_HB⟩
                    refine steps_cons ?_ ?_
                    · rintro b a w' ⟨ha, Q_HO303, Q_HO310, Q_HO315, Q_HO319, Q_BK297, Q_BK298, Q_BK305, Q_BK312, Q_HB⟩ hb_ hon hoff
                      refine ⟨_, rfl, fun K hK => ?_⟩
                      have e77 : a.tmps[77]? = some (.bool (t316 == t320)) := by rw [ha]; exact putSel_on (e := (19, 77, .bool (t316 == t320))) 19 rfl rfl (hon 19 (by kernel_rfl)) rfl
                      replace ha := Aside0.mk ha
                      have HO303 := Aside0.mk Q_HO303
                      have HO310 := Aside0.mk Q_HO310
                      have HO315 := Aside0.mk Q_HO315
                      have HO319 := Aside0.mk Q_HO319
                      have BK297 := Aside0.mk Q_BK297
                      have BK298 := Aside0.mk Q_BK298
                      have BK305 := Aside0.mk Q_BK305
                      have BK312 := Aside0.mk Q_BK312
                      have HB := Aside0.mk Q_HB
                      refine value_ (w1 := w') (v := .bool (t316 == t320)) (by rfl) rfl ?_ ?_
                      · go_simp
                        (try simp only [i64_w])
                        try rfl
                      refine hK.out _ _ ⟨(by rw [ha.out]; exact putSel_upk 20 hb_ rfl rfl rfl), Q_HO303, Q_HO310, Q_HO315, Q_HO319, Q_BK297, Q_BK298, Q_BK305, Q_BK312, Q_HB⟩
                    refine steps_cons ?_ ?_
                    · rintro b a w' ⟨ha, Q_HO303, Q_HO310, Q_HO315, Q_HO319, Q_BK297, Q_BK298, Q_BK305, Q_BK312, Q_HB⟩ hb_ hon hoff
                      refine ⟨_, rfl, fun K hK => ?_⟩
                      have e8 : a.tmps[8]? = some (.pointer (some ⟨gb297, 0, none⟩)) := by rw [ha]; exact (putSel_off rfl).trans rfl
                      have e78 : a.tmps[78]? = some (.bool (t316 == t320)) := by rw [ha]; exact putSel_on (e := (20, 78, .bool (t316 == t320))) 20 rfl rfl (hon 20 (by kernel_rfl)) rfl
                      replace ha := Aside0.mk ha
                      have HO303 := Aside0.mk Q_HO303
                      have HO310 := Aside0.mk Q_HO310
                      have HO315 := Aside0.mk Q_HO315
                      have HO319 := Aside0.mk Q_HO319
                      have BK297 := Aside0.mk Q_BK297
                      have BK298 := Aside0.mk Q_BK298
                      have BK305 := Aside0.mk Q_BK305
                      have BK312 := Aside0.mk Q_BK312
                      have HB := Aside0.mk Q_HB
                      have hc0_ : w'.cell? ⟨gb297, 0, none⟩ = some (.int .i64 a3_0) := (blk_cell BK297.out 0).trans rfl
                      have hc1_ : w'.cell? ⟨gb297, 1, none⟩ = some (.int .i64 a3_1) := (blk_cell BK297.out 1).trans rfl
                      have hc2_ : w'.cell? ⟨gb297, 2, none⟩ = some (.slice A3_2 l3_2.length c3_2) := (blk_cell BK297.out 2).trans rfl
                      refine value_ (w1 := w') (v := .agg #[.int .i64 a3_0, .int .i64 a3_1, .slice A3_2 l3_2.length c3_2]) (wanted_on rfl rfl rfl (e78.trans (by first | rfl | (simp [*]; done)))) rfl ?_ ?_
                      · go_simp
                        (try simp only [i64_w])
                        try rfl
                      refine hK.out _ _ ⟨(by rw [ha.out]; exact putSel_upk 21 hb_ rfl rfl rfl), Q_HO303, Q_HO310, Q_HO315, Q_HO319, Q_BK297, Q_BK298, Q_BK305, Q_BK312, Q_HB⟩
                    refine steps_cons ?_ ?_
                    · rintro b a w' ⟨ha, Q_HO303, Q_HO310, Q_HO315, Q_HO319, Q_BK297, Q_BK298, Q_BK305, Q_BK312, Q_HB⟩ hb_ hon hoff
                      refine ⟨_, rfl, fun K hK => ?_⟩
                      have e9 : a.tmps[9]? = some (.pointer (some ⟨gb298, 0, none⟩)) := by rw [ha]; exact (putSel_off rfl).trans rfl
                      have e78 : a.tmps[78]? = some (.bool (t316 == t320)) := by rw [ha]; exact putSel_on (e := (20, 78, .bool (t316 == t320))) 20 rfl rfl (hon 20 (by kernel_rfl)) rfl
                      replace ha := Aside0.mk ha
                      have HO303 := Aside0.mk Q_HO303
                      have HO310 := Aside0.mk Q_HO310
                      have HO315 := Aside0.mk Q_HO315
                      have HO319 := Aside0.mk Q_HO319
                      have BK297 := Aside0.mk Q_BK297
                      have BK298 := Aside0.mk Q_BK298
                      have BK305 := Aside0.mk Q_BK305
                      have BK312 := Aside0.mk Q_BK312
                      have HB := Aside0.mk Q_HB
                      have hc0_ : w'.cell? ⟨gb298, 0, none⟩ = some (.int .i64 a4_0) := (blk_cell BK298.out 0).trans rfl
                      have hc1_ : w'.cell? ⟨gb298, 1, none⟩ = some (.int .i64 a4_1) := (blk_cell BK298.out 1).trans rfl
                      have hc2_ : w'.cell? ⟨gb298, 2, none⟩ = some (.slice A4_2 l4_2.length c4_2) := (blk_cell BK298.out 2).trans rfl
                      refine value_ (w1 := w') (v := .agg #[.int .i64 a4_0, .int .i64 a4_1, .slice A4_2 l4_2.length c4_2]) (wanted_on rfl rfl rfl (e78.trans (by first | rfl | (simp [*]; done)))) rfl ?_ ?_
                      · go_simp
                        (try simp only [i64_w])
                        try rfl
                      refine hK.out _ _ ⟨(by rw [ha.out]; exact putSel_upk 22 hb_ rfl rfl rfl), Q_HO303, Q_HO310, Q_HO315, Q_HO319, Q_BK297, Q_BK298, Q_BK305, Q_BK312, Q_HB⟩
                    refine steps_cons ?_ ?_
                    · rintro b a w' ⟨ha, Q_HO303, Q_HO310, Q_HO315, Q_HO319, Q_BK297, Q_BK298, Q_BK305, Q_BK312, Q_HB⟩ hb_ hon hoff
                      refine ⟨_, rfl, fun K hK => ?_⟩
                      have e79 : a.tmps[79]? = some (.agg #[.int .i64 a3_0, .int .i64 a3_1, .slice A3_2 l3_2.length c3_2]) := by rw [ha]; exact putSel_on (e := (21, 79, .agg #[.int .i64 a3_0, .int .i64 a3_1, .slice A3_2 l3_2.length c3_2])) 21 rfl rfl (hon 21 (by kernel_rfl)) rfl
                      have e80 : a.tmps[80]? = some (.agg #[.int .i64 a4_0, .int .i64 a4_1, .slice A4_2 l4_2.length c4_2]) := by rw [ha]; exact putSel_on (e := (22, 80, .agg #[.int .i64 a4_0, .int .i64 a4_1, .slice A4_2 l4_2.length c4_2])) 22 rfl rfl (hon 22 (by kernel_rfl)) rfl
                      have e78 : a.tmps[78]? = some (.bool (t316 == t320)) := by rw [ha]; exact putSel_on (e := (20, 78, .bool (t316 == t320))) 20 rfl rfl (hon 20 (by kernel_rfl)) rfl
                      replace ha := Aside0.mk ha
                      have HO303 := Aside0.mk Q_HO303
                      have HO310 := Aside0.mk Q_HO310
                      have HO315 := Aside0.mk Q_HO315
                      have HO319 := Aside0.mk Q_HO319
                      have BK297 := Aside0.mk Q_BK297
                      have BK298 := Aside0.mk Q_BK298
                      have BK305 := Aside0.mk Q_BK305
                      have BK312 := Aside0.mk Q_BK312
                      have HB := Aside0.mk Q_HB
                      refine goes_ Try.func23 (by kernel_rfl) rfl #[.agg #[.int .i64 a3_0, .int .i64 a3_1, .slice A3_2 l3_2.length c3_2], .agg #[.int .i64 a4_0, .int .i64 a4_1, .slice A4_2 l4_2.length c4_2]] (wanted_on rfl rfl rfl (e78.trans (by first | rfl | (simp [*]; done)))) rfl rfl (by first | (simp only [List.map_toArray, List.map_cons, List.map_nil, Act.eval, Array.getD_eq_getD_getElem?, Option.getD_some, e79, e80, e78]; done) | (simp only [List.map_toArray, List.map_cons, List.map_nil, Act.eval, Array.getD_eq_getD_getElem?, Option.getD_some, e79, e80, e78]; rfl)) ?_
                      with_reducible refine (udp_Same.calls a3_0 a3_1 _ _ l3_2 a4_0 a4_1 _ _ l4_2 t322 _ ?side1 ?side2 ?side3 ?side4 A26.out).mono ?_
                      (case side1 => repeat (first | exact (Kd.C_below HR3_2.out HB.out) | (with_reducible refine Kd.C_alloc ?_ _) | (with_reducible refine Kd.C_drewN ?_ _) | (with_reducible refine Kd.C_drew ?_)))
                      (case side2 => exact HC3_2.out)
                      (case side3 => repeat (first | exact (Kd.C_below HR4_2.out HB.out) | (with_reducible refine Kd.C_alloc ?_ _) | (with_reducible refine Kd.C_drewN ?_ _) | (with_reducible refine Kd.C_drew ?_)))
                      (case side4 => exact HC4_2.out)
                      rintro e w54 ⟨rfl, hb⟩
                      refine ⟨_, rfl, ?_⟩
                      have n0_ := Aside0.mk (Kd.R_below (by (with_reducible repeat (first | apply Kd.R_alloc | apply Kd.R_drewN | apply Kd.R_drew)); exact HO303.out) hb)
                      have n1_ := Aside0.mk (Kd.R_below (by (with_reducible repeat (first | apply Kd.R_alloc | apply Kd.R_drewN | apply Kd.R_drew)); exact HO310.out) hb)
                      have n2_ := Aside0.mk (Kd.R_below (by (with_reducible repeat (first | apply Kd.R_alloc | apply Kd.R_drewN | apply Kd.R_drew)); exact HO315.out) hb)
                      have n3_ := Aside0.mk (Kd.R_below (by (with_reducible repeat (first | apply Kd.R_alloc | apply Kd.R_drewN | apply Kd.R_drew)); exact HO319.out) hb)
                      have n4_ := Aside0.mk (blk_below (g := gb297) (o := .cells #[.int .i64 a3_0, .int .i64 a3_1, .slice A3_2 l3_2.length c3_2] 26 (0, 0)) (by (with_reducible repeat (first | refine blk_drewN ?_ _ | refine blk_drew ?_ | refine blk_alloc ?_ _)); exact BK297.out) hb)
                      have n5_ := Aside0.mk (blk_below (g := gb298) (o := .cells #[.int .i64 a4_0, .int .i64 a4_1, .slice A4_2 l4_2.length c4_2] 26 (0, 0)) (by (with_reducible repeat (first | refine blk_drewN ?_ _ | refine blk_drew ?_ | refine blk_alloc ?_ _)); exact BK298.out) hb)
                      have n6_ := Aside0.mk (blk_below (g := gb305) (o := .cells #[.int .i64 t299, .int .i64 t300, .slice Ao35 t301.length co35] 26 (0, 0)) (by (with_reducible repeat (first | refine blk_drewN ?_ _ | refine blk_drew ?_ | refine blk_alloc ?_ _)); exact BK305.out) hb)
                      have n7_ := Aside0.mk (blk_below (g := gb312) (o := .cells #[.int .i64 t306, .int .i64 t307, .slice Ao42 t308.length co42] 26 (0, 0)) (by (with_reducible repeat (first | refine blk_drewN ?_ _ | refine blk_drew ?_ | refine blk_alloc ?_ _)); exact BK312.out) hb)
                      have n8_ := Aside0.mk (below_step (by repeat (first | (with_reducible first | exact HB.out | apply below_alloc | apply pw_below_drewN | apply below_drew1 | refine below_set ?_ GE297.out | refine below_set ?_ GE298.out | refine below_set ?_ GE305.out | refine below_set ?_ GE312.out) | exact HB.out)) hb)
                      clear HO303
                      clear HO310
                      clear HO315
                      clear HO319
                      clear BK297
                      clear BK298
                      clear BK305
                      clear BK312
                      clear HB
                      have HO303 := n0_
                      have HO310 := n1_
                      have HO315 := n2_
                      have HO319 := n3_
                      have BK297 := n4_
                      have BK298 := n5_
                      have BK305 := n6_
                      have BK312 := n7_
                      have HB := n8_
                      clear n0_ n1_ n2_ n3_ n4_ n5_ n6_ n7_ n8_
                      (try clear hb)
                      (try clear hb2)
                      (try clear hk)
                      (try clear hi)
                      refine hK.out _ _ ⟨(by rw [ha.out]; exact putSel_upk 23 hb_ rfl rfl rfl), (by first | ((with_reducible repeat (first | apply Kd.R_alloc | apply Kd.R_drewN | apply Kd.R_drew)); exact HO303.out) | ((with_reducible repeat (first | apply Kd.R_alloc | apply Kd.R_drewN | apply Kd.R_drew)); exact Kd.R_mono HO303.out (fun _ hk => by first | trivial | exact hk | exact hk.1 | exact hk.2 | exact hk.1.1 | exact okw hk))), (by first | ((with_reducible repeat (first | apply Kd.R_alloc | apply Kd.R_drewN | apply Kd.R_drew)); exact HO310.out) | ((with_reducible repeat (first | apply Kd.R_alloc | apply Kd.R_drewN | apply Kd.R_drew)); exact Kd.R_mono HO310.out (fun _ hk => by first | trivial | exact hk | exact hk.1 | exact hk.2 | exact hk.1.1 | exact okw hk))), (by first | ((with_reducible repeat (first | apply Kd.R_alloc | apply Kd.R_drewN | apply Kd.R_drew)); exact HO315.out) | ((with_reducible repeat (first | apply Kd.R_alloc | apply Kd.R_drewN | apply Kd.R_drew)); exact Kd.R_mono HO315.out (fun _ hk => by first | trivial | exact hk | exact hk.1 | exact hk.2 | exact hk.1.1 | exact okw hk))), (by first | ((with_reducible repeat (first | apply Kd.R_alloc | apply Kd.R_drewN | apply Kd.R_drew)); exact HO319.out) | ((with_reducible repeat (first | apply Kd.R_alloc | apply Kd.R_drewN | apply Kd.R_drew)); exact Kd.R_mono HO319.out (fun _ hk => by first | trivial | exact hk | exact hk.1 | exact hk.2 | exact hk.1.1 | exact okw hk))), (by (with_reducible repeat (first | refine blk_drewN ?_ _ | refine blk_drew ?_ | refine blk_alloc ?_ _)); exact BK297.out), (by (with_reducible repeat (first | refine blk_drewN ?_ _ | refine blk_drew ?_ | refine blk_alloc ?_ _)); exact BK298.out), (by (with_reducible repeat (first | refine blk_drewN ?_ _ | refine blk_drew ?_ | refine blk_alloc ?_ _)); exact BK305.out), (by (with_reducible repeat (first | refine blk_drewN ?_ _ | refine blk_drew ?_ | refine blk_alloc ?_ _)); exact BK312.out), (by repeat (first | (with_reducible first | exact HB.out | apply below_alloc | apply pw_below_drewN | apply below_drew1 | refine below_set ?_ GE297.out | refine below_set ?_ GE298.out | refine below_set ?_ GE305.out | refine below_set ?_ GE312.out) | exact HB.out))⟩
                    refine steps_cons ?_ ?_
                    · rintro b a w' ⟨ha, Q_HO303, Q_HO310, Q_HO315, Q_HO319, Q_BK297, Q_BK298, Q_BK305, Q_BK312, Q_HB⟩ hb_ hon hoff
                      refine ⟨_, rfl, fun K hK => ?_⟩
                      have e8 : a.tmps[8]? = some (.pointer (some ⟨gb297, 0, none⟩)) := by rw [ha]; exact (putSel_off rfl).trans rfl
                      have e78 : a.tmps[78]? = some (.bool (t316 == t320)) := by rw [ha]; exact putSel_on (e := (20, 78, .bool (t316 == t320))) 20 rfl rfl (hon 20 (by kernel_rfl)) rfl
                      replace ha := Aside0.mk ha
                      have HO303 := Aside0.mk Q_HO303
                      have HO310 := Aside0.mk Q_HO310
                      have HO315 := Aside0.mk Q_HO315
                      have HO319 := Aside0.mk Q_HO319
                      have BK297 := Aside0.mk Q_BK297
                      have BK298 := Aside0.mk Q_BK298
                      have BK305 := Aside0.mk Q_BK305
                      have BK312 := Aside0.mk Q_BK312
                      have HB := Aside0.mk Q_HB
                      have hc0_ : w'.cell? ⟨gb297, 0, none⟩ = some (.int .i64 a3_0) := (blk_cell BK297.out 0).trans rfl
                      have hc1_ : w'.cell? ⟨gb297, 1, none⟩ = some (.int .i64 a3_1) := (blk_cell BK297.out 1).trans rfl
                      have hc2_ : w'.cell? ⟨gb297, 2, none⟩ = some (.slice A3_2 l3_2.length c3_2) := (blk_cell BK297.out 2).trans rfl
                      refine value_ (w1 := w') (v := .agg #[.int .i64 a3_0, .int .i64 a3_1, .slice A3_2 l3_2.length c3_2]) (wanted_on rfl rfl rfl (e78.trans (by first | rfl | (simp [*]; done)))) rfl ?_ ?_
                      · go_simp
                        (try simp only [i64_w])
                        try rfl
                      refine hK.out _ _ ⟨(by rw [ha.out]; exact putSel_upk 24 hb_ rfl rfl rfl), Q_HO303, Q_HO310, Q_HO315, Q_HO319, Q_BK297, Q_BK298, Q_BK305, Q_BK312, Q_HB⟩
                    refine steps_cons ?_ ?_
                    · rintro b a w' ⟨ha, Q_HO303, Q_HO310, Q_HO315, Q_HO319, Q_BK297, Q_BK298, Q_BK305, Q_BK312, Q_HB⟩ hb_ hon hoff
                      refine ⟨_, rfl, fun K hK => ?_⟩
                      have e9 : a.tmps[9]? = some (.pointer (some ⟨gb298, 0, none⟩)) := by rw [ha]; exact (putSel_off rfl).trans rfl
                      have e78 : a.tmps[78]? = some (.bool (t316 == t320)) := by rw [ha]; exact putSel_on (e := (20, 78, .bool (t316 == t320))) 20 rfl rfl (hon 20 (by kernel_rfl)) rfl
                      replace ha := Aside0.mk ha
                      have HO303 := Aside0.mk Q_HO303
                      have HO310 := Aside0.mk Q_HO310
                      have HO315 := Aside0.mk Q_HO315
                      have HO319 := Aside0.mk Q_HO319
                      have BK297 := Aside0.mk Q_BK297
                      have BK298 := Aside0.mk Q_BK298
                      have BK305 := Aside0.mk Q_BK305
                      have BK312 := Aside0.mk Q_BK312
                      have HB := Aside0.mk Q_HB
                      have hc0_ : w'.cell? ⟨gb298, 0, none⟩ = some (.int .i64 a4_0) := (blk_cell BK298.out 0).trans rfl
                      have hc1_ : w'.cell? ⟨gb298, 1, none⟩ = some (.int .i64 a4_1) := (blk_cell BK298.out 1).trans rfl
                      have hc2_ : w'.cell? ⟨gb298, 2, none⟩ = some (.slice A4_2 l4_2.length c4_2) := (blk_cell BK298.out 2).trans rfl
                      refine value_ (w1 := w') (v := .agg #[.int .i64 a4_0, .int .i64 a4_1, .slice A4_2 l4_2.length c4_2]) (wanted_on rfl rfl rfl (e78.trans (by first | rfl | (simp [*]; done)))) rfl ?_ ?_
                      · go_simp
                        (try simp only [i64_w])
                        try rfl
                      refine hK.out _ _ ⟨(by rw [ha.out]; exact putSel_upk 25 hb_ rfl rfl rfl), Q_HO303, Q_HO310, Q_HO315, Q_HO319, Q_BK297, Q_BK298, Q_BK305, Q_BK312, Q_HB⟩
                    refine steps_cons ?_ ?_
                    · rintro b a w' ⟨ha, Q_HO303, Q_HO310, Q_HO315, Q_HO319, Q_BK297, Q_BK298, Q_BK305, Q_BK312, Q_HB⟩ hb_ hon hoff
                      refine ⟨_, rfl, fun K hK => ?_⟩
                      have e82 : a.tmps[82]? = some (.agg #[.int .i64 a3_0, .int .i64 a3_1, .slice A3_2 l3_2.length c3_2]) := by rw [ha]; exact putSel_on (e := (24, 82, .agg #[.int .i64 a3_0, .int .i64 a3_1, .slice A3_2 l3_2.length c3_2])) 24 rfl rfl (hon 24 (by kernel_rfl)) rfl
                      have e83 : a.tmps[83]? = some (.agg #[.int .i64 a4_0, .int .i64 a4_1, .slice A4_2 l4_2.length c4_2]) := by rw [ha]; exact putSel_on (e := (25, 83, .agg #[.int .i64 a4_0, .int .i64 a4_1, .slice A4_2 l4_2.length c4_2])) 25 rfl rfl (hon 25 (by kernel_rfl)) rfl
                      have e78 : a.tmps[78]? = some (.bool (t316 == t320)) := by rw [ha]; exact putSel_on (e := (20, 78, .bool (t316 == t320))) 20 rfl rfl (hon 20 (by kernel_rfl)) rfl
                      replace ha := Aside0.mk ha
                      have HO303 := Aside0.mk Q_HO303
                      have HO310 := Aside0.mk Q_HO310
                      have HO315 := Aside0.mk Q_HO315
                      have HO319 := Aside0.mk Q_HO319
                      have BK297 := Aside0.mk Q_BK297
                      have BK298 := Aside0.mk Q_BK298
                      have BK305 := Aside0.mk Q_BK305
                      have BK312 := Aside0.mk Q_BK312
                      have HB := Aside0.mk Q_HB
                      refine goes_ Try.func17 (by kernel_rfl) rfl #[.agg #[.int .i64 a3_0, .int .i64 a3_1, .slice A3_2 l3_2.length c3_2], .agg #[.int .i64 a4_0, .int .i64 a4_1, .slice A4_2 l4_2.length c4_2]] (wanted_on rfl rfl rfl (e78.trans (by first | rfl | (simp [*]; done)))) rfl rfl (by first | (simp only [List.map_toArray, List.map_cons, List.map_nil, Act.eval, Array.getD_eq_getD_getElem?, Option.getD_some, e82, e83, e78]; done) | (simp only [List.map_toArray, List.map_cons, List.map_nil, Act.eval, Array.getD_eq_getD_getElem?, Option.getD_some, e82, e83, e78]; rfl)) ?_
                      with_reducible refine (castellanref6_Same.calls a3_0 a3_1 _ _ l3_2 a4_0 a4_1 _ _ l4_2 t323 _ ?side1 ?side2 ?side3 ?side4 A27.out).mono ?_
                      (case side1 => repeat (first | exact (Kd.C_below HR3_2.out HB.out) | (with_reducible refine Kd.C_alloc ?_ _) | (with_reducible refine Kd.C_drewN ?_ _) | (with_reducible refine Kd.C_drew ?_)))
                      (case side2 => exact HC3_2.out)
                      (case side3 => repeat (first | exact (Kd.C_below HR4_2.out HB.out) | (with_reducible refine Kd.C_alloc ?_ _) | (with_reducible refine Kd.C_drewN ?_ _) | (with_reducible refine Kd.C_drew ?_)))
                      (case side4 => exact HC4_2.out)
                      rintro e w55 ⟨rfl, hb⟩
                      refine ⟨_, rfl, ?_⟩
                      have n0_ := Aside0.mk (Kd.R_below (by (with_reducible repeat (first | apply Kd.R_alloc | apply Kd.R_drewN | apply Kd.R_drew)); exact HO303.out) hb)
                      have n1_ := Aside0.mk (Kd.R_below (by (with_reducible repeat (first | apply Kd.R_alloc | apply Kd.R_drewN | apply Kd.R_drew)); exact HO310.out) hb)
                      have n2_ := Aside0.mk (Kd.R_below (by (with_reducible repeat (first | apply Kd.R_alloc | apply Kd.R_drewN | apply Kd.R_drew)); exact HO315.out) hb)
                      have n3_ := Aside0.mk (Kd.R_below (by (with_reducible repeat (first | apply Kd.R_alloc | apply Kd.R_drewN | apply Kd.R_drew)); exact HO319.out) hb)
                      have n4_ := Aside0.mk (blk_below (g := gb297) (o := .cells #[.int .i64 a3_0, .int .i64 a3_1, .slice A3_2 l3_2.length c3_2] 26 (0, 0)) (by (with_reducible repeat (first | refine blk_drewN ?_ _ | refine blk_drew ?_ | refine blk_alloc ?_ _)); exact BK297.out) hb)
                      have n5_ := Aside0.mk (blk_below (g := gb298) (o := .cells #[.int .i64 a4_0, .int .i64 a4_1, .slice A4_2 l4_2.length c4_2] 26 (0, 0)) (by (with_reducible repeat (first | refine blk_drewN ?_ _ | refine blk_drew ?_ | refine blk_alloc ?_ _)); exact BK298.out) hb)
                      have n6_ := Aside0.mk (blk_below (g := gb305) (o := .cells #[.int .i64 t299, .int .i64 t300, .slice Ao35 t301.length co35] 26 (0, 0)) (by (with_reducible repeat (first | refine blk_drewN ?_ _ | refine blk_drew ?_ | refine blk_alloc ?_ _)); exact BK305.out) hb)
                      have n7_ := Aside0.mk (blk_below (g := gb312) (o := .cells #[.int .i64 t306, .int .i64 t307, .slice Ao42 t308.length co42] 26 (0, 0)) (by (with_reducible repeat (first | refine blk_drewN ?_ _ | refine blk_drew ?_ | refine blk_alloc ?_ _)); exact BK312.out) hb)
                      have n8_ := Aside0.mk (below_step (by repeat (first | (with_reducible first | exact HB.out | apply below_alloc | apply pw_below_drewN | apply below_drew1 | refine below_set ?_ GE297.out | refine below_set ?_ GE298.out | refine below_set ?_ GE305.out | refine below_set ?_ GE312.out) | exact HB.out)) hb)
                      clear HO303
                      clear HO310
                      clear HO315
                      clear HO319
                      clear BK297
                      clear BK298
                      clear BK305
                      clear BK312
                      clear HB
                      have HO303 := n0_
                      have HO310 := n1_
                      have HO315 := n2_
                      have HO319 := n3_
                      have BK297 := n4_
                      have BK298 := n5_
                      have BK305 := n6_
                      have BK312 := n7_
                      have HB := n8_
                      clear n0_ n1_ n2_ n3_ n4_ n5_ n6_ n7_ n8_
                      (try clear hb)
                      (try clear hb2)
                      (try clear hk)
                      (try clear hi)
                      refine hK.out _ _ ⟨(by rw [ha.out]; exact putSel_upk 26 hb_ rfl rfl rfl), (by first | ((with_reducible repeat (first | apply Kd.R_alloc | apply Kd.R_drewN | apply Kd.R_drew)); exact HO303.out) | ((with_reducible repeat (first | apply Kd.R_alloc | apply Kd.R_drewN | apply Kd.R_drew)); exact Kd.R_mono HO303.out (fun _ hk => by first | trivial | exact hk | exact hk.1 | exact hk.2 | exact hk.1.1 | exact okw hk))), (by first | ((with_reducible repeat (first | apply Kd.R_alloc | apply Kd.R_drewN | apply Kd.R_drew)); exact HO310.out) | ((with_reducible repeat (first | apply Kd.R_alloc | apply Kd.R_drewN | apply Kd.R_drew)); exact Kd.R_mono HO310.out (fun _ hk => by first | trivial | exact hk | exact hk.1 | exact hk.2 | exact hk.1.1 | exact okw hk))), (by first | ((with_reducible repeat (first | apply Kd.R_alloc | apply Kd.R_drewN | apply Kd.R_drew)); exact HO315.out) | ((with_reducible repeat (first | apply Kd.R_alloc | apply Kd.R_drewN | apply Kd.R_drew)); exact Kd.R_mono HO315.out (fun _ hk => by first | trivial | exact hk | exact hk.1 | exact hk.2 | exact hk.1.1 | exact okw hk))), (by first | ((with_reducible repeat (first | apply Kd.R_alloc | apply Kd.R_drewN | apply Kd.R_drew)); exact HO319.out) | ((with_reducible repeat (first | apply Kd.R_alloc | apply Kd.R_drewN | apply Kd.R_drew)); exact Kd.R_mono HO319.out (fun _ hk => by first | trivial | exact hk | exact hk.1 | exact hk.2 | exact hk.1.1 | exact okw hk))), (by (with_reducible repeat (first | refine blk_drewN ?_ _ | refine blk_drew ?_ | refine blk_alloc ?_ _)); exact BK297.out), (by (with_reducible repeat (first | refine blk_drewN ?_ _ | refine blk_drew ?_ | refine blk_alloc ?_ _)); exact BK298.out), (by (with_reducible repeat (first | refine blk_drewN ?_ _ | refine blk_drew ?_ | refine blk_alloc ?_ _)); exact BK305.out), (by (with_reducible repeat (first | refine blk_drewN ?_ _ | refine blk_drew ?_ | refine blk_alloc ?_ _)); exact BK312.out), (by repeat (first | (with_reducible first | exact HB.out | apply below_alloc | apply pw_below_drewN | apply below_drew1 | refine below_set ?_ GE297.out | refine below_set ?_ GE298.out | refine below_set ?_ GE305.out | refine below_set ?_ GE312.out) | exact HB.out))⟩
                    refine steps_cons ?_ ?_
                    · rintro b a w' ⟨ha, Q_HO303, Q_HO310, Q_HO315, Q_HO319, Q_BK297, Q_BK298, Q_BK305, Q_BK312, Q_HB⟩ hb_ hon hoff
                      refine ⟨_, rfl, fun K hK => ?_⟩
                      have e81 : a.tmps[81]? = some (.bool t322) := by rw [ha]; exact putSel_on (e := (23, 81, .bool t322)) 23 rfl rfl (hon 23 (by kernel_rfl)) rfl
                      have e84 : a.tmps[84]? = some (.bool t323) := by rw [ha]; exact putSel_on (e := (26, 84, .bool t323)) 26 rfl rfl (hon 26 (by kernel_rfl)) rfl
                      have e78 : a.tmps[78]? = some (.bool (t316 == t320)) := by rw [ha]; exact putSel_on (e := (20, 78, .bool (t316 == t320))) 20 rfl rfl (hon 20 (by kernel_rfl)) rfl
                      replace ha := Aside0.mk ha
                      have HO303 := Aside0.mk Q_HO303
                      have HO310 := Aside0.mk Q_HO310
                      have HO315 := Aside0.mk Q_HO315
                      have HO319 := Aside0.mk Q_HO319
                      have BK297 := Aside0.mk Q_BK297
                      have BK298 := Aside0.mk Q_BK298
                      have BK305 := Aside0.mk Q_BK305
                      have BK312 := Aside0.mk Q_BK312
                      have HB := Aside0.mk Q_HB
                      refine value_ (w1 := w') (v := .bool (t322 == t323)) (wanted_on rfl rfl rfl (e78.trans (by first | rfl | (simp [*]; done)))) rfl ?_ ?_
                      · go_simp
                        (try simp only [i64_w])
                        try rfl
                      refine hK.out _ _ ⟨(by rw [ha.out]; exact putSel_upk 27 hb_ rfl rfl rfl), Q_HO303, Q_HO310, Q_HO315, Q_HO319, Q_BK297, Q_BK298, Q_BK305, Q_BK312, Q_HB⟩
                    refine steps_cons ?_ ?_
                    · rintro b a w' ⟨ha, Q_HO303, Q_HO310, Q_HO315, Q_HO319, Q_BK297, Q_BK298, Q_BK305, Q_BK312, Q_HB⟩ hb_ hon hoff
                      refine ⟨_, rfl, fun K hK => ?_⟩
                      have e78 : a.tmps[78]? = some (.bool (t316 == t320)) := by rw [ha]; exact putSel_on (e := (20, 78, .bool (t316 == t320))) 20 rfl rfl (hon 20 (by kernel_rfl)) rfl
                      have e85 : a.tmps[85]? = some (.bool (t322 == t323)) := by rw [ha]; exact putSel_on (e := (27, 85, .bool (t322 == t323))) 27 rfl rfl (hon 27 (by kernel_rfl)) rfl
                      replace ha := Aside0.mk ha
                      have HO303 := Aside0.mk Q_HO303
                      have HO310 := Aside0.mk Q_HO310
                      have HO315 := Aside0.mk Q_HO315
                      have HO319 := Aside0.mk Q_HO319
                      have BK297 := Aside0.mk Q_BK297
                      have BK298 := Aside0.mk Q_BK298
                      have BK305 := Aside0.mk Q_BK305
                      have BK312 := Aside0.mk Q_BK312
                      have HB := Aside0.mk Q_HB
                      refine value_ (w1 := w') (v := .bool (t322 == t323)) (by rfl) rfl ?_ ?_
                      · go_simp
                        (try simp only [i64_w])
                        try rfl
                      refine hK.out _ _ ⟨(by rw [ha.out]; exact putSel_upk 28 hb_ rfl rfl rfl), Q_HO303, Q_HO310, Q_HO315, Q_HO319, Q_BK297, Q_BK298, Q_BK305, Q_BK312, Q_HB⟩
                    refine steps_cons ?_ ?_
                    · rintro b a w' ⟨ha, Q_HO303, Q_HO310, Q_HO315, Q_HO319, Q_BK297, Q_BK298, Q_BK305, Q_BK312, Q_HB⟩ hb_ hon hoff
                      refine ⟨_, rfl, fun K hK => ?_⟩
                      have e86 : a.tmps[86]? = some (.bool (t322 == t323)) := by rw [ha]; exact putSel_on (e := (28, 86, .bool (t322 == t323))) 28 rfl rfl (hon 28 (by kernel_rfl)) rfl
                      replace ha := Aside0.mk ha
                      have HO303 := Aside0.mk Q_HO303
                      have HO310 := Aside0.mk Q_HO310
                      have HO315 := Aside0.mk Q_HO315
                      have HO319 := Aside0.mk Q_HO319
                      have BK297 := Aside0.mk Q_BK297
                      have BK298 := Aside0.mk Q_BK298
                      have BK305 := Aside0.mk Q_BK305
                      have BK312 := Aside0.mk Q_BK312
                      have HB := Aside0.mk Q_HB
                      refine value_ (w1 := w') (v := .bool (t322 == t323)) (by rfl) rfl ?_ ?_
                      · go_simp
                        (try simp only [i64_w])
                        try rfl
                      refine hK.out _ _ ⟨(by rw [ha.out]; exact putSel_upk 29 hb_ rfl rfl rfl), Q_HO303, Q_HO310, Q_HO315, Q_HO319, Q_BK297, Q_BK298, Q_BK305, Q_BK312, Q_HB⟩
                    refine steps_cons ?_ ?_
                    · rintro b a w' ⟨ha, Q_HO303, Q_HO310, Q_HO315, Q_HO319, Q_BK297, Q_BK298, Q_BK305, Q_BK312, Q_HB⟩ hb_ hon hoff
                      refine ⟨_, rfl, fun K hK => ?_⟩
                      have e87 : a.tmps[87]? = some (.bool (t322 == t323)) := by rw [ha]; exact putSel_on (e := (29, 87, .bool (t322 == t323))) 29 rfl rfl (hon 29 (by kernel_rfl)) rfl
                      replace ha := Aside0.mk ha
                      have HO303 := Aside0.mk Q_HO303
                      have HO310 := Aside0.mk Q_HO310
                      have HO315 := Aside0.mk Q_HO315
                      have HO319 := Aside0.mk Q_HO319
                      have BK297 := Aside0.mk Q_BK297
                      have BK298 := Aside0.mk Q_BK298
                      have BK305 := Aside0.mk Q_BK305
                      have BK312 := Aside0.mk Q_BK312
                      have HB := Aside0.mk Q_HB
                      refine goes_ Try.func20 (by kernel_rfl) rfl #[] (wanted_on rfl rfl rfl (e87.trans (by first | rfl | (simp [*]; done)))) rfl rfl (by first | (simp only [List.map_toArray, List.map_cons, List.map_nil, Act.eval, Array.getD_eq_getD_getElem?, Option.getD_some, e87]; done) | (simp only [List.map_toArray, List.map_cons, List.map_nil, Act.eval, Array.getD_eq_getD_getElem?, Option.getD_some, e87]; rfl)) ?_
                      with_reducible refine (castellanlaw6_known.calls kj5  t324 _ A29.out).mono ?_
                      rintro e w56 ⟨rfl, hb⟩
                      refine ⟨_, rfl, ?_⟩
                      have n0_ := Aside0.mk (Kd.R_below (by (with_reducible repeat (first | apply Kd.R_alloc | apply Kd.R_drewN | apply Kd.R_drew)); exact HO303.out) hb)
                      have n1_ := Aside0.mk (Kd.R_below (by (with_reducible repeat (first | apply Kd.R_alloc | apply Kd.R_drewN | apply Kd.R_drew)); exact HO310.out) hb)
                      have n2_ := Aside0.mk (Kd.R_below (by (with_reducible repeat (first | apply Kd.R_alloc | apply Kd.R_drewN | apply Kd.R_drew)); exact HO315.out) hb)
                      have n3_ := Aside0.mk (Kd.R_below (by (with_reducible repeat (first | apply Kd.R_alloc | apply Kd.R_drewN | apply Kd.R_drew)); exact HO319.out) hb)
                      have n4_ := Aside0.mk (blk_below (g := gb297) (o := .cells #[.int .i64 a3_0, .int .i64 a3_1, .slice A3_2 l3_2.length c3_2] 26 (0, 0)) (by (with_reducible repeat (first | refine blk_drewN ?_ _ | refine blk_drew ?_ | refine blk_alloc ?_ _)); exact BK297.out) hb)
                      have n5_ := Aside0.mk (blk_below (g := gb298) (o := .cells #[.int .i64 a4_0, .int .i64 a4_1, .slice A4_2 l4_2.length c4_2] 26 (0, 0)) (by (with_reducible repeat (first | refine blk_drewN ?_ _ | refine blk_drew ?_ | refine blk_alloc ?_ _)); exact BK298.out) hb)
                      have n6_ := Aside0.mk (blk_below (g := gb305) (o := .cells #[.int .i64 t299, .int .i64 t300, .slice Ao35 t301.length co35] 26 (0, 0)) (by (with_reducible repeat (first | refine blk_drewN ?_ _ | refine blk_drew ?_ | refine blk_alloc ?_ _)); exact BK305.out) hb)
                      have n7_ := Aside0.mk (blk_below (g := gb312) (o := .cells #[.int .i64 t306, .int .i64 t307, .slice Ao42 t308.length co42] 26 (0, 0)) (by (with_reducible repeat (first | refine blk_drewN ?_ _ | refine blk_drew ?_ | refine blk_alloc ?_ _)); exact BK312.out) hb)
                      have n8_ := Aside0.mk (below_step (by repeat (first | (with_reducible first | exact HB.out | apply below_alloc | apply pw_below_drewN | apply below_drew1 | refine below_set ?_ GE297.out | refine below_set ?_ GE298.out | refine below_set ?_ GE305.out | refine below_set ?_ GE312.out) | exact HB.out)) hb)
                      clear HO303
                      clear HO310
                      clear HO315
                      clear HO319
                      clear BK297
                      clear BK298
                      clear BK305
                      clear BK312
                      clear HB
                      have HO303 := n0_
                      have HO310 := n1_
                      have HO315 := n2_
                      have HO319 := n3_
                      have BK297 := n4_
                      have BK298 := n5_
                      have BK305 := n6_
                      have BK312 := n7_
                      have HB := n8_
                      clear n0_ n1_ n2_ n3_ n4_ n5_ n6_ n7_ n8_
                      (try clear hb)
                      (try clear hb2)
                      (try clear hk)
                      (try clear hi)
                      refine hK.out _ _ ⟨(by rw [ha.out]; exact putSel_upk 30 hb_ rfl rfl rfl), (by first | ((with_reducible repeat (first | apply Kd.R_alloc | apply Kd.R_drewN | apply Kd.R_drew)); exact HO303.out) | ((with_reducible repeat (first | apply Kd.R_alloc | apply Kd.R_drewN | apply Kd.R_drew)); exact Kd.R_mono HO303.out (fun _ hk => by first | trivial | exact hk | exact hk.1 | exact hk.2 | exact hk.1.1 | exact okw hk))), (by first | ((with_reducible repeat (first | apply Kd.R_alloc | apply Kd.R_drewN | apply Kd.R_drew)); exact HO310.out) | ((with_reducible repeat (first | apply Kd.R_alloc | apply Kd.R_drewN | apply Kd.R_drew)); exact Kd.R_mono HO310.out (fun _ hk => by first | trivial | exact hk | exact hk.1 | exact hk.2 | exact hk.1.1 | exact okw hk))), (by first | ((with_reducible repeat (first | apply Kd.R_alloc | apply Kd.R_drewN | apply Kd.R_drew)); exact HO315.out) | ((with_reducible repeat (first | apply Kd.R_alloc | apply Kd.R_drewN | apply Kd.R_drew)); exact Kd.R_mono HO315.out (fun _ hk => by first | trivial | exact hk | exact hk.1 | exact hk.2 | exact hk.1.1 | exact okw hk))), (by first | ((with_reducible repeat (first | apply Kd.R_alloc | apply Kd.R_drewN | apply Kd.R_drew)); exact HO319.out) | ((with_reducible repeat (first | apply Kd.R_alloc | apply Kd.R_drewN | apply Kd.R_drew)); exact Kd.R_mono HO319.out (fun _ hk => by first | trivial | exact hk | exact hk.1 | exact hk.2 | exact hk.1.1 | exact okw hk))), (by (with_reducible repeat (first | refine blk_drewN ?_ _ | refine blk_drew ?_ | refine blk_alloc ?_ _)); exact BK297.out), (by (with_reducible repeat (first | refine blk_drewN ?_ _ | refine blk_drew ?_ | refine blk_alloc ?_ _)); exact BK298.out), (by (with_reducible repeat (first | refine blk_drewN ?_ _ | refine blk_drew ?_ | refine blk_alloc ?_ _)); exact BK305.out), (by (with_reducible repeat (first | refine blk_drewN ?_ _ | refine blk_drew ?_ | refine blk_alloc ?_ _)); exact BK312.out), (by repeat (first | (with_reducible first | exact HB.out | apply below_alloc | apply pw_below_drewN | apply below_drew1 | refine below_set ?_ GE297.out | refine below_set ?_ GE298.out | refine below_set ?_ GE305.out | refine below_set ?_ GE312.out) | exact HB.out))⟩
                    refine steps_cons ?_ ?_
                    · rintro b a w' ⟨ha, Q_HO303, Q_HO310, Q_HO315, Q_HO319, Q_BK297, Q_BK298, Q_BK305, Q_BK312, Q_HB⟩ hb_ hon hoff
                      refine ⟨_, rfl, fun K hK => ?_⟩
                      have e87 : a.tmps[87]? = some (.bool (t322 == t323)) := by rw [ha]; exact putSel_on (e := (29, 87, .bool (t322 == t323))) 29 rfl rfl (hon 29 (by kernel_rfl)) rfl
                      have e88 : a.tmps[88]? = some (.bool t324) := by rw [ha]; exact putSel_on (e := (30, 88, .bool t324)) 30 rfl rfl (hon 30 (by kernel_rfl)) rfl
                      replace ha := Aside0.mk ha
                      have HO303 := Aside0.mk Q_HO303
                      have HO310 := Aside0.mk Q_HO310
                      have HO315 := Aside0.mk Q_HO315
                      have HO319 := Aside0.mk Q_HO319
                      have BK297 := Aside0.mk Q_BK297
                      have BK298 := Aside0.mk Q_BK298
                      have BK305 := Aside0.mk Q_BK305
                      have BK312 := Aside0.mk Q_BK312
                      have HB := Aside0.mk Q_HB
                      refine value_ (w1 := w') (v := .bool t324) (by rfl) rfl ?_ ?_
                      · go_simp
                        (try simp only [i64_w])
                        try rfl
                      refine hK.out _ _ ⟨(by rw [ha.out]; exact putSel_upk 31 hb_ rfl rfl rfl), Q_HO303, Q_HO310, Q_HO315, Q_HO319, Q_BK297, Q_BK298, Q_BK305, Q_BK312, Q_HB⟩
                    refine steps_cons ?_ ?_
                    · rintro b a w' ⟨ha, Q_HO303, Q_HO310, Q_HO315, Q_HO319, Q_BK297, Q_BK298, Q_BK305, Q_BK312, Q_HB⟩ hb_ hon hoff
                      refine ⟨_, rfl, fun K hK => ?_⟩
                      have e89 : a.tmps[89]? = some (.bool t324) := by rw [ha]; exact putSel_on (e := (31, 89, .bool t324)) 31 rfl rfl (hon 31 (by kernel_rfl)) rfl
                      replace ha := Aside0.mk ha
                      have HO303 := Aside0.mk Q_HO303
                      have HO310 := Aside0.mk Q_HO310
                      have HO315 := Aside0.mk Q_HO315
                      have HO319 := Aside0.mk Q_HO319
                      have BK297 := Aside0.mk Q_BK297
                      have BK298 := Aside0.mk Q_BK298
                      have BK305 := Aside0.mk Q_BK305
                      have BK312 := Aside0.mk Q_BK312
                      have HB := Aside0.mk Q_HB
                      refine value_ (w1 := w') (v := .bool t324) (by rfl) rfl ?_ ?_
                      · go_simp
                        (try simp only [i64_w])
                        try rfl
                      refine hK.out _ _ ⟨(by rw [ha.out]; exact putSel_upk 32 hb_ rfl rfl rfl), Q_HO303, Q_HO310, Q_HO315, Q_HO319, Q_BK297, Q_BK298, Q_BK305, Q_BK312, Q_HB⟩
                    exact steps_nil
                  rintro b a w56 hall ⟨ha, Q_HO303, Q_HO310, Q_HO315, Q_HO319, Q_BK297, Q_BK298, Q_BK305, Q_BK312, Q_HB⟩
                  clear BK297 BK298 BK305 BK312 HB HO303 HO310 HO315 HO319
                  have hb0_ := hall 0 (by kernel_rfl)
                  have hb1_ := hall 1 (by kernel_rfl)
                  have hb2_ := hall 2 (by kernel_rfl)
                  have hb3_ := hall 3 (by kernel_rfl)
                  have hb4_ := hall 4 (by kernel_rfl)
                  have hb5_ := hall 5 (by kernel_rfl)
                  have hb6_ := hall 6 (by kernel_rfl)
                  have hb7_ := hall 7 (by kernel_rfl)
                  have hb8_ := hall 8 (by kernel_rfl)
                  have hb9_ := hall 9 (by kernel_rfl)
                  have hb10_ := hall 10 (by kernel_rfl)
                  have hb11_ := hall 11 (by kernel_rfl)
                  have hb12_ := hall 12 (by kernel_rfl)
                  have hb13_ := hall 13 (by kernel_rfl)
                  have hb14_ := hall 14 (by kernel_rfl)
                  have hb15_ := hall 15 (by kernel_rfl)
                  have hb16_ := hall 16 (by kernel_rfl)
                  have hb17_ := hall 17 (by kernel_rfl)
                  have hb18_ := hall 18 (by kernel_rfl)
                  have hb19_ := hall 19 (by kernel_rfl)
                  have hb20_ := hall 20 (by kernel_rfl)
                  have hb21_ := hall 21 (by kernel_rfl)
                  have hb22_ := hall 22 (by kernel_rfl)
                  have hb23_ := hall 23 (by kernel_rfl)
                  have hb24_ := hall 24 (by kernel_rfl)
                  have hb25_ := hall 25 (by kernel_rfl)
                  have hb26_ := hall 26 (by kernel_rfl)
                  have hb27_ := hall 27 (by kernel_rfl)
                  have hb28_ := hall 28 (by kernel_rfl)
                  have hb29_ := hall 29 (by kernel_rfl)
                  have hb30_ := hall 30 (by kernel_rfl)
                  have hb31_ := hall 31 (by kernel_rfl)
                  have hb32_ := hall 32 (by kernel_rfl)
                  subst ha
                  simp only [putSel, hb0_, hb1_, hb2_, hb3_, hb4_, hb5_, hb6_, hb7_, hb8_, hb9_, hb10_, hb11_, hb12_, hb13_, hb14_, hb15_, hb16_, hb17_, hb18_, hb19_, hb20_, hb21_, hb22_, hb23_, hb24_, hb25_, hb26_, hb27_, hb28_, hb29_, hb30_, hb31_, hb32_, if_true, Act.put, List.setIfInBounds_toArray, List.set_cons_zero, List.set_cons_succ]
                  have HO303 := Aside0.mk Q_HO303
                  clear Q_HO303
                  have HO310 := Aside0.mk Q_HO310
                  clear Q_HO310
                  have HO315 := Aside0.mk Q_HO315
                  clear Q_HO315
                  have HO319 := Aside0.mk Q_HO319
                  clear Q_HO319
                  have BK297 := Aside0.mk Q_BK297
                  clear Q_BK297
                  have BK298 := Aside0.mk Q_BK298
                  clear Q_BK298
                  have BK305 := Aside0.mk Q_BK305
                  clear Q_BK305
                  have BK312 := Aside0.mk Q_BK312
                  clear Q_BK312
                  have HB := Aside0.mk Q_HB
                  clear Q_HB
                  clear hall hb0_ hb1_ hb2_ hb3_ hb4_ hb5_ hb6_ hb7_ hb8_ hb9_ hb10_ hb11_ hb12_ hb13_ hb14_ hb15_ hb16_ hb17_ hb18_ hb19_ hb20_ hb21_ hb22_ hb23_ hb24_ hb25_ hb26_ hb27_ hb28_ hb29_ hb30_ hb31_ hb32_
                  try go_wp2
                  go_ret
                  exact ⟨by first | rfl | (simp [errW_none, errW_some] <;> rfl) | (simp [*, errW_none, errW_some] <;> rfl), by repeat (first | (with_reducible first | exact HB.out | apply below_alloc | apply pw_below_drewN | apply below_drew1 | refine below_set ?_ GE297.out | refine below_set ?_ GE298.out | refine below_set ?_ GE305.out | refine below_set ?_ GE312.out) | exact HB.out)⟩
                · rw [if_neg c28] at H
                  have c28b0 : (t322 == t323) = false := by simpa using c28
                  (try (have c28b1 : decide (t322 = t323) = false := by simpa using c28))
                  (try (have c28b2 : (t322 == t323) = false := by simpa using c28))
                  (try (have c28b3 : ¬ (t322 = t323) := by simpa using c28))
                  clear c28
                  exact absurd (H.trans (congrArg some HRT.out)) (by simp)
              · rw [if_neg c25] at H
                have c25b0 : (t316 == t320) = false := beq_eq_false_iff_ne.mpr c25
                have c25b1 : (t316 != t320) = true := bne_iff_ne.mpr c25
                exact absurd (H.trans (congrArg some HRT.out)) (by simp)
            · rw [if_neg c24] at H
              have c24b0 : ((strOfNums t313).toList == (strOfNums t317).toList) = false := beq_eq_false_iff_ne.mpr c24
              have c24b1 : ((strOfNums t313).toList != (strOfNums t317).toList) = true := bne_iff_ne.mpr c24
              exact absurd (H.trans (congrArg some HRT.out)) (by simp)
          · rw [if_neg c23] at H
            have c23b0 : (t304 == t311) = false := beq_eq_false_iff_ne.mpr c23
            have c23b1 : (t304 != t311) = true := bne_iff_ne.mpr c23
            exact absurd (H.trans (congrArg some HRT.out)) (by simp)
        · replace c22 := Bool.eq_false_iff.mpr c22
          subst c22
          have H1 : (some false) = some r := by rw [if_neg (show ¬ (false = true) by decide)] at H; exact H
          clear H
          have H := H1
          clear H1
          exact absurd (H.trans (congrArg some HRT.out)) (by simp)

/-- THE ONE PURE STATEMENT of castellanlaw6_UdpTells: yours. -/
def castellanlaw6_UdpTells.Pure : Prop := ∀ (l0 : List Int) (a1 : Int) (a2 : Int) (a3_0 : Int) (a3_1 : Int) (l3_2 : List Int) (a4_0 : Int) (a4_1 : Int) (l4_2 : List Int), l0.length ≤ maxLen → l0.length * 1 ≤ 140737488351232 → (∀ x ∈ l0, (Lit.int .u8 x).wf = true) → (Lit.int .u32 a1).wf = true → (Lit.int .u32 a2).wf = true → (Lit.int .i64 a3_0).wf = true → (Lit.int .i64 a3_1).wf = true → l3_2.length ≤ maxLen → l3_2.length * 1 ≤ 140737488351232 → (∀ x ∈ l3_2, (Lit.int .u8 x).wf = true) → (Lit.int .i64 a4_0).wf = true → (Lit.int .i64 a4_1).wf = true → l4_2.length ≤ maxLen → l4_2.length * 1 ≤ 140737488351232 → (∀ x ∈ l4_2, (Lit.int .u8 x).wf = true) → ∃ k, castellanlaw6_UdpTells.f k l0 a1 a2 a3_0 a3_1 l3_2 a4_0 a4_1 l4_2 = some true
theorem castellanlaw6_UdpTells.walk (P : castellanlaw6_UdpTells.Pure) (a0 : Option Addr) (len0 cap0 : Nat) (z0 : List Int) (a1 : Int) (a2 : Int) (a3_0 : Int) (a3_1 : Int) (a3_2 : Option Addr) (len3_2 cap3_2 : Nat) (z3_2 : List Int) (a4_0 : Int) (a4_1 : Int) (a4_2 : Option Addr) (len4_2 cap4_2 : Nat) (z4_2 : List Int) (w : World) (w0 : (a0 = none ∧ len0 = 0 ∧ cap0 = 0 ∧ z0 = []) ∨ ∃ x, a0 = some x ∧ len0 ≤ cap0 ∧ cap0 ≤ maxLen ∧ z0.length = cap0 ∧ (∀ i, i < z0.length → w.cell? (x.add i) = some (.int .u8 (z0.getD i 0))) ∧ ∀ n ∈ z0, (Lit.int .u8 n).wf = true) (y0 : len0 * 1 ≤ 140737488351232) (w1 : (Lit.int .u32 a1).wf = true) (w2 : (Lit.int .u32 a2).wf = true) (w3_0 : (Lit.int .i64 a3_0).wf = true) (w3_1 : (Lit.int .i64 a3_1).wf = true) (w3_2 : (a3_2 = none ∧ len3_2 = 0 ∧ cap3_2 = 0 ∧ z3_2 = []) ∨ ∃ x, a3_2 = some x ∧ len3_2 ≤ cap3_2 ∧ cap3_2 ≤ maxLen ∧ z3_2.length = cap3_2 ∧ (∀ i, i < z3_2.length → w.cell? (x.add i) = some (.int .u8 (z3_2.getD i 0))) ∧ ∀ n ∈ z3_2, (Lit.int .u8 n).wf = true) (y3_2 : len3_2 * 1 ≤ 140737488351232) (w4_0 : (Lit.int .i64 a4_0).wf = true) (w4_1 : (Lit.int .i64 a4_1).wf = true) (w4_2 : (a4_2 = none ∧ len4_2 = 0 ∧ cap4_2 = 0 ∧ z4_2 = []) ∨ ∃ x, a4_2 = some x ∧ len4_2 ≤ cap4_2 ∧ cap4_2 ≤ maxLen ∧ z4_2.length = cap4_2 ∧ (∀ i, i < z4_2.length → w.cell? (x.add i) = some (.int .u8 (z4_2.getD i 0))) ∧ ∀ n ∈ z4_2, (Lit.int .u8 n).wf = true) (y4_2 : len4_2 * 1 ≤ 140737488351232) :
    Calls Try.prog 6 #[.slice a0 len0 cap0, .int .u32 a1, .int .u32 a2, .agg #[.int .i64 a3_0, .int .i64 a3_1, .slice a3_2 len3_2 cap3_2], .agg #[.int .i64 a4_0, .int .i64 a4_1, .slice a4_2 len4_2 cap4_2]] w fun e w' => e = .returned (.bool true) ∧ Below w.heap.size w w' := by
  obtain ⟨l0, rfl, hr0, hm0, hw0, hc0⟩ := ReadsInt.ofRowC w0
  obtain ⟨l3_2, rfl, hr3_2, hm3_2, hw3_2, hc3_2⟩ := ReadsInt.ofRowC w3_2
  obtain ⟨l4_2, rfl, hr4_2, hm4_2, hw4_2, hc4_2⟩ := ReadsInt.ofRowC w4_2
  obtain ⟨k, h⟩ := P l0 a1 a2 a3_0 a3_1 l3_2 a4_0 a4_1 l4_2 hm0 y0 hw0 w1 w2 w3_0 w3_1 hm3_2 y3_2 hw3_2 w4_0 w4_1 hm4_2 y4_2 hw4_2
  refine (castellanlaw6_UdpTells.calls k _ _ l0 a1 a2 a3_0 a3_1 _ _ l3_2 a4_0 a4_1 _ _ l4_2 true w (Kd.C_of_reads (d := (0 : Int)) (h1 := fun _ => rfl) hr0) hc0 (Kd.C_of_reads (d := (0 : Int)) (h1 := fun _ => rfl) hr3_2) hc3_2 (Kd.C_of_reads (d := (0 : Int)) (h1 := fun _ => rfl) hr4_2) hc4_2 rfl h).mono ?_
  rintro e w' ⟨rfl, hd⟩
  exact ⟨rfl, hd⟩

end Go.Proofs.Ytbpnienknijogaa.QUdpTells
