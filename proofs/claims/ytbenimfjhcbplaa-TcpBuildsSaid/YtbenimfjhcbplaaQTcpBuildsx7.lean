-- written by myprint.py, a program of this session's over the kit's printer
import Derived.Test.YtbenimfjhcbplaaQTcpBuildsx0
import Derived.Test.YtbenimfjhcbplaaQTcpBuildsx1
import Derived.Test.YtbenimfjhcbplaaQTcpBuildsx3
import Derived.Test.YtbenimfjhcbplaaQTcpBuildsx5
import Derived.Test.YtbenimfjhcbplaaQTcpBuildsx6
namespace Go.Proofs.Ytbenimfjhcbplaa.QTcpBuilds
open Go.RowKit Go.Proofs.YtbenimfjhcbplaaW.PrintWords Go.Proofs.YtbenimfjhcbplaaW.PrintLast Go.Proofs.YtbenimfjhcbplaaW.PrintMore
attribute [local go_sem] max2_int min2_int max_two min_two max_three min_three max_four min_four   -- for this text's walks alone
set_option linter.unusedVariables false
set_option linter.unusedSimpArgs false

/-! ### castellanlaw5_TcpBuilds: function 9 -/
def castellanlaw5_TcpBuilds.j0 : Nat → Int → Int → Bool → Int → Int → Int → Int → Int → Int → Int → List Int → List Int → Int → Int → Int → Int → Int → Int → Int → List Int → List Int → Option (Bool)
  | 0, _, _, _, _, _, _, _, _, _, _, _, _, _, _, _, _, _, _, _, _, _ => none
  | k + 1, x0, x1, x22, x322000, x322001, x322002, x322003, x322004, x322005, x322006, x322007, x322008, x323000, x323001, x323002, x323003, x323004, x323005, x323006, x323007, x323008 => if x22 = true then (some true) else ((tcp_Build.f k x0 x1 x322000 x322001 x322002 x322003 x322004 x322005 x322006 x322007 x322008).bind fun bt325 => ((castellanref5_Build.f k x0 x1 x322000 x322001 x322002 x322003 x322004 x322005 x322006 x322007 x322008).bind fun bt329 => ((tcp_Reset.f k x322000 x322001 x322002 x322003 x322004 x322005 x322006 x322007 x322008).bind fun bt333 => ((castellanref5_Reset.f x322000 x322001 x322002 x322003 x322004 x322005 x322006 x322007 x322008).bind fun bt348 => (if (strOfNums bt325.1).toList = (strOfNums bt329.1).toList then (if bt325.2 = bt329.2 then ((tcp_Same.f x322000 x322001 x322002 x322003 x322004 x322005 x322006 x322007 x322008 x323000 x323001 x323002 x323003 x323004 x323005 x323006 x323007 x323008).bind fun t363 => ((castellanref5_Same.f x322000 x322001 x322002 x322003 x322004 x322005 x322006 x322007 x322008 x323000 x323001 x323002 x323003 x323004 x323005 x323006 x323007 x323008).bind fun t364 => (if (t363 == t364) = true then ((castellanref5_Same.f bt333.1 bt333.2.1 bt333.2.2.1 bt333.2.2.2.1 bt333.2.2.2.2.1 bt333.2.2.2.2.2.1 bt333.2.2.2.2.2.2.1 bt333.2.2.2.2.2.2.2.1 bt333.2.2.2.2.2.2.2.2.1 bt348.1 bt348.2.1 bt348.2.2.1 bt348.2.2.2.1 bt348.2.2.2.2.1 bt348.2.2.2.2.2.1 bt348.2.2.2.2.2.2.1 bt348.2.2.2.2.2.2.2.1 bt348.2.2.2.2.2.2.2.2.1).bind fun t365 => (if t365 = true then (if (bt333.2.2.2.2.2.2.2.2.2 == bt348.2.2.2.2.2.2.2.2.2) = true then ((castellanlaw5_known.f k).bind fun t366 => (some t366)) else (some false)) else (some false))) else (some false)))) else (some false)) else (some false))))))
def castellanlaw5_TcpBuilds.f (k : Nat) (a0 : Int) (a1 : Int) (a2_0 : Int) (a2_1 : Int) (a2_2 : Int) (a2_3 : Int) (a2_4 : Int) (a2_5 : Int) (a2_6 : Int) (l2_7 : List Int) (l2_8 : List Int) (a3_0 : Int) (a3_1 : Int) (a3_2 : Int) (a3_3 : Int) (a3_4 : Int) (a3_5 : Int) (a3_6 : Int) (l3_7 : List Int) (l3_8 : List Int) : Option (Bool) := (castellanlaw5_long.f a2_0 a2_1 a2_2 a2_3 a2_4 a2_5 a2_6 l2_7 l2_8).bind fun t323 => (if t323 = true then (castellanlaw5_TcpBuilds.j0 k a0 a1 true a2_0 a2_1 a2_2 a2_3 a2_4 a2_5 a2_6 l2_7 l2_8 a3_0 a3_1 a3_2 a3_3 a3_4 a3_5 a3_6 l3_7 l3_8) else ((castellanlaw5_long.f a3_0 a3_1 a3_2 a3_3 a3_4 a3_5 a3_6 l3_7 l3_8).bind fun t324 => (castellanlaw5_TcpBuilds.j0 k a0 a1 t324 a2_0 a2_1 a2_2 a2_3 a2_4 a2_5 a2_6 l2_7 l2_8 a3_0 a3_1 a3_2 a3_3 a3_4 a3_5 a3_6 l3_7 l3_8)))
theorem castellanlaw5_TcpBuilds.mono_l : ∀ k, (∀ y0 y1 y2 y3 y4 y5 y6 y7 y8 y9 y10 y11 y12 y13 y14 y15 y16 y17 y18 y19 y20, LeO (castellanlaw5_TcpBuilds.j0 k y0 y1 y2 y3 y4 y5 y6 y7 y8 y9 y10 y11 y12 y13 y14 y15 y16 y17 y18 y19 y20) (castellanlaw5_TcpBuilds.j0 (k + 1) y0 y1 y2 y3 y4 y5 y6 y7 y8 y9 y10 y11 y12 y13 y14 y15 y16 y17 y18 y19 y20))
  | 0 => fun _ _ _ _ _ _ _ _ _ _ _ _ _ _ _ _ _ _ _ _ _ r h => by simp [castellanlaw5_TcpBuilds.j0] at h
  | k + 1 => by
    have ih0 := castellanlaw5_TcpBuilds.mono_l k
    · intro y0 y1 y2 y3 y4 y5 y6 y7 y8 y9 y10 y11 y12 y13 y14 y15 y16 y17 y18 y19 y20
      unfold castellanlaw5_TcpBuilds.j0
      repeat' first
      | (with_reducible exact ih0 _ _ _ _ _ _ _ _ _ _ _ _ _ _ _ _ _ _ _ _ _)
      | (with_reducible exact castellanlaw5_known.mono _)
      | (with_reducible exact castellanref5_Build.mono _ _ _ _ _ _ _ _ _ _ _ _)
      | (with_reducible exact tcp_Build.mono _ _ _ _ _ _ _ _ _ _ _ _)
      | (with_reducible exact tcp_Reset.mono _ _ _ _ _ _ _ _ _ _)
      | (with_reducible exact LeO.refl _)
      | (with_reducible exact LeO.none _)
      | (with_reducible refine LeO.ite ?_ ?_)
      | (with_reducible refine LeO.bind ?_ (fun _ => ?_))
      | exact ih0 _ _ _ _ _ _ _ _ _ _ _ _ _ _ _ _ _ _ _ _ _
      | exact castellanlaw5_known.mono _
      | exact castellanref5_Build.mono _ _ _ _ _ _ _ _ _ _ _ _
      | exact tcp_Build.mono _ _ _ _ _ _ _ _ _ _ _ _
      | exact tcp_Reset.mono _ _ _ _ _ _ _ _ _ _
      | exact LeO.none _
      | refine LeO.ite ?_ ?_
      | refine LeO.bind ?_ (fun _ => ?_)
theorem castellanlaw5_TcpBuilds.mono : ∀ a0 a1 a2 a3 a4 a5 a6 a7 a8 a9 a10 a11 a12 a13 a14 a15 a16 a17 a18 a19 k, LeO (castellanlaw5_TcpBuilds.f k a0 a1 a2 a3 a4 a5 a6 a7 a8 a9 a10 a11 a12 a13 a14 a15 a16 a17 a18 a19) (castellanlaw5_TcpBuilds.f (k + 1) a0 a1 a2 a3 a4 a5 a6 a7 a8 a9 a10 a11 a12 a13 a14 a15 a16 a17 a18 a19) := by
  intro a0 a1 a2 a3 a4 a5 a6 a7 a8 a9 a10 a11 a12 a13 a14 a15 a16 a17 a18 a19 k
  have ih0 := castellanlaw5_TcpBuilds.mono_l k
  unfold castellanlaw5_TcpBuilds.f
  repeat' first
      | (with_reducible exact ih0 _ _ _ _ _ _ _ _ _ _ _ _ _ _ _ _ _ _ _ _ _)
      | (with_reducible exact castellanlaw5_known.mono _)
      | (with_reducible exact castellanref5_Build.mono _ _ _ _ _ _ _ _ _ _ _ _)
      | (with_reducible exact tcp_Build.mono _ _ _ _ _ _ _ _ _ _ _ _)
      | (with_reducible exact tcp_Reset.mono _ _ _ _ _ _ _ _ _ _)
      | (with_reducible exact LeO.refl _)
      | (with_reducible exact LeO.none _)
      | (with_reducible refine LeO.ite ?_ ?_)
      | (with_reducible refine LeO.bind ?_ (fun _ => ?_))
      | exact ih0 _ _ _ _ _ _ _ _ _ _ _ _ _ _ _ _ _ _ _ _ _
      | exact castellanlaw5_known.mono _
      | exact castellanref5_Build.mono _ _ _ _ _ _ _ _ _ _ _ _
      | exact tcp_Build.mono _ _ _ _ _ _ _ _ _ _ _ _
      | exact tcp_Reset.mono _ _ _ _ _ _ _ _ _ _
      | exact LeO.none _
      | refine LeO.ite ?_ ?_
      | refine LeO.bind ?_ (fun _ => ?_)
def castellanlaw5_TcpBuilds.T7 : Bool × List (List Nat × List Nat) := (true, [([], []), ([0], [0]), ([], []), ([2], [2]), ([1, 3], [1, 3]), ([4], [4]), ([5], [5]), ([5], [5]), ([6, 7, 5], [5, 6, 7]), ([5, 8], [5, 8]), ([9, 5], [9]), ([10], [10]), ([10], [10]), ([11, 12, 10, 10], [10, 11, 12]), ([10], [10]), ([10], [10]), ([14, 15, 13, 10], [10, 14, 15]), ([13, 16, 10], [10, 13, 16]), ([10, 17], [10, 17]), ([18, 16], [18]), ([19], [19]), ([19], [19]), ([20, 21, 19, 19], [19, 20, 21]), ([19, 22], [19, 22]), ([23, 22], [23]), ([24], [24]), ([24], [24]), ([25, 26, 24], [24, 25, 26]), ([24, 27], [24, 27]), ([28, 24], [28]), ([29, 29], [29]), ([29, 30], [29, 30]), ([31, 30, 0, 1, 2, 3, 4, 5, 6, 7, 8, 9, 10, 11, 12, 13, 14, 15, 16, 17, 18, 19, 20, 21, 22, 23, 24, 25, 26, 27, 28, 29, 30, 31], [31])])
def castellanlaw5_TcpBuilds.B7 : List Nat := [0, 1, 0, 4, 15, 31, 63, 63, 255, 511, 1023, 2047, 2047, 8191, 2047, 2047, 65535, 131071, 262143, 524287, 1048575, 1048575, 4194303, 8388607, 16777215, 33554431, 33554431, 134217727, 268435455, 536870911, 1073741823, 2147483647, 4294967295]
theorem castellanlaw5_TcpBuilds.tab7 : rtab .any (opsOf Try.f9 7) = castellanlaw5_TcpBuilds.T7 := by kernel_rfl
theorem castellanlaw5_TcpBuilds.bits7 : waitsOk castellanlaw5_TcpBuilds.T7.2 castellanlaw5_TcpBuilds.B7 = true := by kernel_rfl
set_option maxHeartbeats 8000000 in
set_option maxRecDepth 100000 in
theorem castellanlaw5_TcpBuilds.calls (k : Nat) (a0 : Int) (a1 : Int) (a2_0 : Int) (a2_1 : Int) (a2_2 : Int) (a2_3 : Int) (a2_4 : Int) (a2_5 : Int) (a2_6 : Int) (A2_7 : Option Addr) (c2_7 : Nat) (l2_7 : List Int) (A2_8 : Option Addr) (c2_8 : Nat) (l2_8 : List Int) (a3_0 : Int) (a3_1 : Int) (a3_2 : Int) (a3_3 : Int) (a3_4 : Int) (a3_5 : Int) (a3_6 : Int) (A3_7 : Option Addr) (c3_7 : Nat) (l3_7 : List Int) (A3_8 : Option Addr) (c3_8 : Nat) (l3_8 : List Int) (r : Bool) (w : World) (hr2_7 : Kd.C (Kd.int .u8) w A2_7 l2_7.length l2_7) (hc2_7 : l2_7.length ≤ c2_7) (hr2_8 : Kd.C (Kd.int .u8) w A2_8 l2_8.length l2_8) (hc2_8 : l2_8.length ≤ c2_8) (hr3_7 : Kd.C (Kd.int .u8) w A3_7 l3_7.length l3_7) (hc3_7 : l3_7.length ≤ c3_7) (hr3_8 : Kd.C (Kd.int .u8) w A3_8 l3_8.length l3_8) (hc3_8 : l3_8.length ≤ c3_8) (hrt : r = true) (h : castellanlaw5_TcpBuilds.f k a0 a1 a2_0 a2_1 a2_2 a2_3 a2_4 a2_5 a2_6 l2_7 l2_8 a3_0 a3_1 a3_2 a3_3 a3_4 a3_5 a3_6 l3_7 l3_8 = some r) :
    Calls Try.prog 9 #[.int .u32 a0, .int .u32 a1, .agg #[.int .i64 a2_0, .int .i64 a2_1, .int .u32 a2_2, .int .u32 a2_3, .int .i64 a2_4, .int .i64 a2_5, .int .i64 a2_6, .slice A2_7 l2_7.length c2_7, .slice A2_8 l2_8.length c2_8], .agg #[.int .i64 a3_0, .int .i64 a3_1, .int .u32 a3_2, .int .u32 a3_3, .int .i64 a3_4, .int .i64 a3_5, .int .i64 a3_6, .slice A3_7 l3_7.length c3_7, .slice A3_8 l3_8.length c3_8]] w fun e w' => e = .returned (.bool r) ∧ Below w.heap.size w w' := by
  have hu27 := Try.underlying27
  have HRT := Aside0.mk hrt
  clear hrt
  have HR2_7 := Aside0.mk hr2_7
  have HC2_7 := Aside0.mk hc2_7
  clear hr2_7 hc2_7
  have HR2_8 := Aside0.mk hr2_8
  have HC2_8 := Aside0.mk hc2_8
  clear hr2_8 hc2_8
  have HR3_7 := Aside0.mk hr3_7
  have HC3_7 := Aside0.mk hc3_7
  clear hr3_7 hc3_7
  have HR3_8 := Aside0.mk hr3_8
  have HC3_8 := Aside0.mk hc3_8
  clear hr3_8 hc3_8
  have HB := Aside0.mk (Below.refl w.heap.size w)
  have H : ((castellanlaw5_long.f a2_0 a2_1 a2_2 a2_3 a2_4 a2_5 a2_6 l2_7 l2_8).bind fun t323 => (if t323 = true then (castellanlaw5_TcpBuilds.j0 k a0 a1 true a2_0 a2_1 a2_2 a2_3 a2_4 a2_5 a2_6 l2_7 l2_8 a3_0 a3_1 a3_2 a3_3 a3_4 a3_5 a3_6 l3_7 l3_8) else ((castellanlaw5_long.f a3_0 a3_1 a3_2 a3_3 a3_4 a3_5 a3_6 l3_7 l3_8).bind fun t324 => (castellanlaw5_TcpBuilds.j0 k a0 a1 t324 a2_0 a2_1 a2_2 a2_3 a2_4 a2_5 a2_6 l2_7 l2_8 a3_0 a3_1 a3_2 a3_3 a3_4 a3_5 a3_6 l3_7 l3_8)))) = some r := h
  clear h
  have HC5 := Aside0.mk H
  clear H
  go_enter Try.func9, Try.ntmps9
  go_upto_region 1 with (first | ((with_reducible refine gate_dst (N := 6) rfl ?_); refine box_event ?hg (N := 6) ?hd (cs := #[.int .i64 a2_0, .int .i64 a2_1, .int .u32 a2_2, .int .u32 a2_3, .int .i64 a2_4, .int .i64 a2_5, .int .i64 a2_6, .slice A2_7 l2_7.length c2_7, .slice A2_8 l2_8.length c2_8]) (t := 27) ?hr ?_; (case hd => rfl); (case hg => rfl); (case hr => first | (go_simp; done) | (go_simp; rfl)); intro gb321 hg w6 hbox hb; have n0_ := Aside0.mk (below_step (by repeat (first | (with_reducible first | exact HB.out | apply below_alloc | apply pw_below_drewN | apply below_drew1) | exact HB.out)) hb); have n1_ := Aside0.mk (hbox); have n2_ := Aside0.mk ((by rw [hg]; exact (below_size (by repeat (first | (with_reducible first | exact HB.out | apply below_alloc | apply pw_below_drewN | apply below_drew1) | exact HB.out))) : w.heap.size ≤ gb321)); have n3_ := Aside0.mk ((by rw [hg]; exact (below_size (by repeat (first | (with_reducible first | exact HB.out | apply below_alloc | apply pw_below_drewN | apply below_drew1) | exact HB.out))) : w.heap.size ≤ gb321)); clear HB; have HB := n0_; have BK321 := n1_; have GW321 := n2_; have GE321 := n3_; clear n0_ n1_ n2_ n3_; clear hb hbox hg) | ((with_reducible refine gate_dst (N := 7) rfl ?_); refine box_event ?hg (N := 7) ?hd (cs := #[.int .i64 a3_0, .int .i64 a3_1, .int .u32 a3_2, .int .u32 a3_3, .int .i64 a3_4, .int .i64 a3_5, .int .i64 a3_6, .slice A3_7 l3_7.length c3_7, .slice A3_8 l3_8.length c3_8]) (t := 27) ?hr ?_; (case hd => rfl); (case hg => rfl); (case hr => first | (go_simp; done) | (go_simp; rfl)); intro gb322 hg w7 hbox hb; have n0_ := Aside0.mk (blk_below (g := gb321) (o := .cells #[.int .i64 a2_0, .int .i64 a2_1, .int .u32 a2_2, .int .u32 a2_3, .int .i64 a2_4, .int .i64 a2_5, .int .i64 a2_6, .slice A2_7 l2_7.length c2_7, .slice A2_8 l2_8.length c2_8] 27 (0, 0)) (by (with_reducible repeat (first | refine blk_drewN ?_ _ | refine blk_drew ?_ | refine blk_alloc ?_ _)); exact BK321.out) hb); have n1_ := Aside0.mk (below_step (by repeat (first | (with_reducible first | exact HB.out | apply below_alloc | apply pw_below_drewN | apply below_drew1 | refine below_set ?_ GE321.out) | exact HB.out)) hb); have n2_ := Aside0.mk (hbox); have n3_ := Aside0.mk ((by rw [hg]; exact (below_size (by repeat (first | (with_reducible first | exact HB.out | apply below_alloc | apply pw_below_drewN | apply below_drew1 | refine below_set ?_ GE321.out) | exact HB.out))) : w.heap.size ≤ gb322)); have n4_ := Aside0.mk ((by rw [hg]; exact (below_size (by repeat (first | (with_reducible first | exact HB.out | apply below_alloc | apply pw_below_drewN | apply below_drew1 | refine below_set ?_ GE321.out) | exact HB.out))) : w.heap.size ≤ gb322)); have n5_ := Aside0.mk ((by rw [hg]; exact Nat.ne_of_lt (blk_lt (g := gb321) (o := .cells #[.int .i64 a2_0, .int .i64 a2_1, .int .u32 a2_2, .int .u32 a2_3, .int .i64 a2_4, .int .i64 a2_5, .int .i64 a2_6, .slice A2_7 l2_7.length c2_7, .slice A2_8 l2_8.length c2_8] 27 (0, 0)) (by (with_reducible repeat (first | refine blk_drewN ?_ _ | refine blk_drew ?_ | refine blk_alloc ?_ _)); exact BK321.out)) : gb321 ≠ gb322)); have n6_ := Aside0.mk ((by rw [hg]; exact Nat.ne_of_gt (blk_lt (g := gb321) (o := .cells #[.int .i64 a2_0, .int .i64 a2_1, .int .u32 a2_2, .int .u32 a2_3, .int .i64 a2_4, .int .i64 a2_5, .int .i64 a2_6, .slice A2_7 l2_7.length c2_7, .slice A2_8 l2_8.length c2_8] 27 (0, 0)) (by (with_reducible repeat (first | refine blk_drewN ?_ _ | refine blk_drew ?_ | refine blk_alloc ?_ _)); exact BK321.out)) : gb322 ≠ gb321)); clear BK321; clear HB; have BK321 := n0_; have HB := n1_; have BK322 := n2_; have GW322 := n3_; have GE322 := n4_; have NB321_322 := n5_; have NB322_321 := n6_; clear n0_ n1_ n2_ n3_ n4_ n5_ n6_; clear hb hbox hg))
  (try simp only [Act.put, List.setIfInBounds_toArray, List.set_cons_zero, List.set_cons_succ])
  go_cut [22] (fun v22 wc => ∃ (kq : Nat) (x22_4 : Bool), v22 = .bool x22_4 ∧ Aside0 (castellanlaw5_TcpBuilds.j0 kq a0 a1 x22_4 a2_0 a2_1 a2_2 a2_3 a2_4 a2_5 a2_6 l2_7 l2_8 a3_0 a3_1 a3_2 a3_3 a3_4 a3_5 a3_6 l3_7 l3_8 = some r) ∧ Aside0 (kq ≤ k) ∧ Aside0 (wc.heap[gb321]? = some (.cells #[.int .i64 a2_0, .int .i64 a2_1, .int .u32 a2_2, .int .u32 a2_3, .int .i64 a2_4, .int .i64 a2_5, .int .i64 a2_6, (.slice A2_7 l2_7.length c2_7), (.slice A2_8 l2_8.length c2_8)] 27 (0, 0))) ∧ Aside0 (wc.heap[gb322]? = some (.cells #[.int .i64 a3_0, .int .i64 a3_1, .int .u32 a3_2, .int .u32 a3_3, .int .i64 a3_4, .int .i64 a3_5, .int .i64 a3_6, (.slice A3_7 l3_7.length c3_7), (.slice A3_8 l3_8.length c3_8)] 27 (0, 0))) ∧ Aside0 (Below w.heap.size w wc))
  case first =>
    have H := HC5.out
    clear HC5
    replace H := Option.bind_eq_some_iff.mp H
    obtain ⟨t323, A80, H⟩ := H
    replace H : (if t323 = true then (castellanlaw5_TcpBuilds.j0 k a0 a1 true a2_0 a2_1 a2_2 a2_3 a2_4 a2_5 a2_6 l2_7 l2_8 a3_0 a3_1 a3_2 a3_3 a3_4 a3_5 a3_6 l3_7 l3_8) else ((castellanlaw5_long.f a3_0 a3_1 a3_2 a3_3 a3_4 a3_5 a3_6 l3_7 l3_8).bind fun t324 => (castellanlaw5_TcpBuilds.j0 k a0 a1 t324 a2_0 a2_1 a2_2 a2_3 a2_4 a2_5 a2_6 l2_7 l2_8 a3_0 a3_1 a3_2 a3_3 a3_4 a3_5 a3_6 l3_7 l3_8))) = some r := H
    have A8 := Aside0.mk A80
    clear A80
    by_cases c9 : t323 = true
    · subst c9
      have H1 : (castellanlaw5_TcpBuilds.j0 k a0 a1 true a2_0 a2_1 a2_2 a2_3 a2_4 a2_5 a2_6 l2_7 l2_8 a3_0 a3_1 a3_2 a3_3 a3_4 a3_5 a3_6 l3_7 l3_8) = some r := by rw [if_pos rfl] at H; exact H
      clear H
      have H := H1
      clear H1
      have H' := Aside0.mk H
      clear H
      have hnb10 := NB321_322.out
      have hnc10 := NB322_321.out
      have hcz11_0 : w7.cell? ⟨gb321, 0, none⟩ = some (.int .i64 a2_0) := (blk_cell BK321.out 0).trans rfl
      have hcz11_1 : w7.cell? ⟨gb321, 1, none⟩ = some (.int .i64 a2_1) := (blk_cell BK321.out 1).trans rfl
      have hcz11_2 : w7.cell? ⟨gb321, 2, none⟩ = some (.int .u32 a2_2) := (blk_cell BK321.out 2).trans rfl
      have hcz11_3 : w7.cell? ⟨gb321, 3, none⟩ = some (.int .u32 a2_3) := (blk_cell BK321.out 3).trans rfl
      have hcz11_4 : w7.cell? ⟨gb321, 4, none⟩ = some (.int .i64 a2_4) := (blk_cell BK321.out 4).trans rfl
      have hcz11_5 : w7.cell? ⟨gb321, 5, none⟩ = some (.int .i64 a2_5) := (blk_cell BK321.out 5).trans rfl
      have hcz11_6 : w7.cell? ⟨gb321, 6, none⟩ = some (.int .i64 a2_6) := (blk_cell BK321.out 6).trans rfl
      have hcz11_7 : w7.cell? ⟨gb321, 7, none⟩ = some (.slice A2_7 l2_7.length c2_7) := (blk_cell BK321.out 7).trans rfl
      have hcz11_8 : w7.cell? ⟨gb321, 8, none⟩ = some (.slice A2_8 l2_8.length c2_8) := (blk_cell BK321.out 8).trans rfl
      have hfz11_0 := blk_frozen BK321.out 0
      have hfz11_1 := blk_frozen BK321.out 1
      have hfz11_2 := blk_frozen BK321.out 2
      have hfz11_3 := blk_frozen BK321.out 3
      have hfz11_4 := blk_frozen BK321.out 4
      have hfz11_5 := blk_frozen BK321.out 5
      have hfz11_6 := blk_frozen BK321.out 6
      have hfz11_7 := blk_frozen BK321.out 7
      have hfz11_8 := blk_frozen BK321.out 8
      go_wp2_with (first | ((with_reducible refine gate_callee (f := 17) rfl ?_); refine goesL_ (some 18) rfl rfl Try.func17 (by kernel_rfl) rfl #[.agg #[.int .i64 a2_0, .int .i64 a2_1, .int .u32 a2_2, .int .u32 a2_3, .int .i64 a2_4, .int .i64 a2_5, .int .i64 a2_6, .slice A2_7 l2_7.length c2_7, .slice A2_8 l2_8.length c2_8]] rfl (by (try simp only [List.map_toArray, List.map_cons, List.map_nil]); first | done | rfl | (simp only [List.length_drop, List.length_take]; rfl)) ?_; (with_reducible refine (castellanlaw5_long.calls a2_0 a2_1 a2_2 a2_3 a2_4 a2_5 a2_6 _ _ l2_7 _ _ l2_8 true _ ?side1 ?side2 ?side3 ?side4 A8.out).mono ?_); (case side1 => repeat (first | exact (Kd.C_below HR2_7.out HB.out) | (with_reducible refine Kd.C_alloc ?_ _) | (with_reducible refine Kd.C_drewN ?_ _) | (with_reducible refine Kd.C_drew ?_))); (case side2 => exact HC2_7.out); (case side3 => repeat (first | exact (Kd.C_below HR2_8.out HB.out) | (with_reducible refine Kd.C_alloc ?_ _) | (with_reducible refine Kd.C_drewN ?_ _) | (with_reducible refine Kd.C_drew ?_))); (case side4 => exact HC2_8.out); rintro e w12 ⟨rfl, hb⟩; refine ⟨_, rfl, ?_⟩; have n0_ := Aside0.mk (blk_below (g := gb321) (o := .cells #[.int .i64 a2_0, .int .i64 a2_1, .int .u32 a2_2, .int .u32 a2_3, .int .i64 a2_4, .int .i64 a2_5, .int .i64 a2_6, .slice A2_7 l2_7.length c2_7, .slice A2_8 l2_8.length c2_8] 27 (0, 0)) (by (with_reducible repeat (first | refine blk_drewN ?_ _ | refine blk_drew ?_ | refine blk_alloc ?_ _)); exact BK321.out) hb); have n1_ := Aside0.mk (blk_below (g := gb322) (o := .cells #[.int .i64 a3_0, .int .i64 a3_1, .int .u32 a3_2, .int .u32 a3_3, .int .i64 a3_4, .int .i64 a3_5, .int .i64 a3_6, .slice A3_7 l3_7.length c3_7, .slice A3_8 l3_8.length c3_8] 27 (0, 0)) (by (with_reducible repeat (first | refine blk_drewN ?_ _ | refine blk_drew ?_ | refine blk_alloc ?_ _)); exact BK322.out) hb); have n2_ := Aside0.mk (below_step (by repeat (first | (with_reducible first | exact HB.out | apply below_alloc | apply pw_below_drewN | apply below_drew1 | refine below_set ?_ GE321.out | refine below_set ?_ GE322.out) | exact HB.out)) hb); clear BK321; clear BK322; clear HB; have BK321 := n0_; have BK322 := n1_; have HB := n2_; clear n0_ n1_ n2_; (try clear hb); (try clear hb2); (try clear hk); (try clear hi)))
      go_meet
      case rel => exact ⟨_, (true), (by first | rfl | (simp; done) | (simp [*]; done)), H', ⟨by first | omega | exact Nat.le_refl _⟩, ⟨by (with_reducible repeat (first | refine blk_drewN ?_ _ | refine blk_drew ?_ | refine blk_alloc ?_ _)); exact BK321.out⟩, ⟨by (with_reducible repeat (first | refine blk_drewN ?_ _ | refine blk_drew ?_ | refine blk_alloc ?_ _)); exact BK322.out⟩, ⟨by repeat (first | (with_reducible first | exact HB.out | apply below_alloc | apply pw_below_drewN | apply below_drew1 | refine below_set ?_ GE321.out | refine below_set ?_ GE322.out) | exact HB.out)⟩⟩
    · replace c9 := Bool.eq_false_iff.mpr c9
      subst c9
      have H1 : ((castellanlaw5_long.f a3_0 a3_1 a3_2 a3_3 a3_4 a3_5 a3_6 l3_7 l3_8).bind fun t324 => (castellanlaw5_TcpBuilds.j0 k a0 a1 t324 a2_0 a2_1 a2_2 a2_3 a2_4 a2_5 a2_6 l2_7 l2_8 a3_0 a3_1 a3_2 a3_3 a3_4 a3_5 a3_6 l3_7 l3_8)) = some r := by rw [if_neg (show ¬ (false = true) by decide)] at H; exact H
      clear H
      have H := H1
      clear H1
      replace H := Option.bind_eq_some_iff.mp H
      obtain ⟨t324, A130, H⟩ := H
      replace H : (castellanlaw5_TcpBuilds.j0 k a0 a1 t324 a2_0 a2_1 a2_2 a2_3 a2_4 a2_5 a2_6 l2_7 l2_8 a3_0 a3_1 a3_2 a3_3 a3_4 a3_5 a3_6 l3_7 l3_8) = some r := H
      have A13 := Aside0.mk A130
      clear A130
      have H' := Aside0.mk H
      clear H
      have hnb14 := NB321_322.out
      have hnc14 := NB322_321.out
      have hcz15_0 : w7.cell? ⟨gb321, 0, none⟩ = some (.int .i64 a2_0) := (blk_cell BK321.out 0).trans rfl
      have hcz15_1 : w7.cell? ⟨gb321, 1, none⟩ = some (.int .i64 a2_1) := (blk_cell BK321.out 1).trans rfl
      have hcz15_2 : w7.cell? ⟨gb321, 2, none⟩ = some (.int .u32 a2_2) := (blk_cell BK321.out 2).trans rfl
      have hcz15_3 : w7.cell? ⟨gb321, 3, none⟩ = some (.int .u32 a2_3) := (blk_cell BK321.out 3).trans rfl
      have hcz15_4 : w7.cell? ⟨gb321, 4, none⟩ = some (.int .i64 a2_4) := (blk_cell BK321.out 4).trans rfl
      have hcz15_5 : w7.cell? ⟨gb321, 5, none⟩ = some (.int .i64 a2_5) := (blk_cell BK321.out 5).trans rfl
      have hcz15_6 : w7.cell? ⟨gb321, 6, none⟩ = some (.int .i64 a2_6) := (blk_cell BK321.out 6).trans rfl
      have hcz15_7 : w7.cell? ⟨gb321, 7, none⟩ = some (.slice A2_7 l2_7.length c2_7) := (blk_cell BK321.out 7).trans rfl
      have hcz15_8 : w7.cell? ⟨gb321, 8, none⟩ = some (.slice A2_8 l2_8.length c2_8) := (blk_cell BK321.out 8).trans rfl
      have hfz15_0 := blk_frozen BK321.out 0
      have hfz15_1 := blk_frozen BK321.out 1
      have hfz15_2 := blk_frozen BK321.out 2
      have hfz15_3 := blk_frozen BK321.out 3
      have hfz15_4 := blk_frozen BK321.out 4
      have hfz15_5 := blk_frozen BK321.out 5
      have hfz15_6 := blk_frozen BK321.out 6
      have hfz15_7 := blk_frozen BK321.out 7
      have hfz15_8 := blk_frozen BK321.out 8
      go_wp2_with (first | ((with_reducible refine gate_callee (f := 17) rfl ?_); refine goesL_ (some 18) rfl rfl Try.func17 (by kernel_rfl) rfl #[.agg #[.int .i64 a2_0, .int .i64 a2_1, .int .u32 a2_2, .int .u32 a2_3, .int .i64 a2_4, .int .i64 a2_5, .int .i64 a2_6, .slice A2_7 l2_7.length c2_7, .slice A2_8 l2_8.length c2_8]] rfl (by (try simp only [List.map_toArray, List.map_cons, List.map_nil]); first | done | rfl | (simp only [List.length_drop, List.length_take]; rfl)) ?_; (with_reducible refine (castellanlaw5_long.calls a2_0 a2_1 a2_2 a2_3 a2_4 a2_5 a2_6 _ _ l2_7 _ _ l2_8 false _ ?side1 ?side2 ?side3 ?side4 A8.out).mono ?_); (case side1 => repeat (first | exact (Kd.C_below HR2_7.out HB.out) | (with_reducible refine Kd.C_alloc ?_ _) | (with_reducible refine Kd.C_drewN ?_ _) | (with_reducible refine Kd.C_drew ?_))); (case side2 => exact HC2_7.out); (case side3 => repeat (first | exact (Kd.C_below HR2_8.out HB.out) | (with_reducible refine Kd.C_alloc ?_ _) | (with_reducible refine Kd.C_drewN ?_ _) | (with_reducible refine Kd.C_drew ?_))); (case side4 => exact HC2_8.out); rintro e w16 ⟨rfl, hb⟩; refine ⟨_, rfl, ?_⟩; have n0_ := Aside0.mk (blk_below (g := gb321) (o := .cells #[.int .i64 a2_0, .int .i64 a2_1, .int .u32 a2_2, .int .u32 a2_3, .int .i64 a2_4, .int .i64 a2_5, .int .i64 a2_6, .slice A2_7 l2_7.length c2_7, .slice A2_8 l2_8.length c2_8] 27 (0, 0)) (by (with_reducible repeat (first | refine blk_drewN ?_ _ | refine blk_drew ?_ | refine blk_alloc ?_ _)); exact BK321.out) hb); have n1_ := Aside0.mk (blk_below (g := gb322) (o := .cells #[.int .i64 a3_0, .int .i64 a3_1, .int .u32 a3_2, .int .u32 a3_3, .int .i64 a3_4, .int .i64 a3_5, .int .i64 a3_6, .slice A3_7 l3_7.length c3_7, .slice A3_8 l3_8.length c3_8] 27 (0, 0)) (by (with_reducible repeat (first | refine blk_drewN ?_ _ | refine blk_drew ?_ | refine blk_alloc ?_ _)); exact BK322.out) hb); have n2_ := Aside0.mk (below_step (by repeat (first | (with_reducible first | exact HB.out | apply below_alloc | apply pw_below_drewN | apply below_drew1 | refine below_set ?_ GE321.out | refine below_set ?_ GE322.out) | exact HB.out)) hb); clear BK321; clear BK322; clear HB; have BK321 := n0_; have BK322 := n1_; have HB := n2_; clear n0_ n1_ n2_; (try clear hb); (try clear hb2); (try clear hk); (try clear hi); have hcz17_0 : w16.cell? ⟨gb322, 0, none⟩ = some (.int .i64 a3_0) := (blk_cell BK322.out 0).trans rfl; have hcz17_1 : w16.cell? ⟨gb322, 1, none⟩ = some (.int .i64 a3_1) := (blk_cell BK322.out 1).trans rfl; have hcz17_2 : w16.cell? ⟨gb322, 2, none⟩ = some (.int .u32 a3_2) := (blk_cell BK322.out 2).trans rfl; have hcz17_3 : w16.cell? ⟨gb322, 3, none⟩ = some (.int .u32 a3_3) := (blk_cell BK322.out 3).trans rfl; have hcz17_4 : w16.cell? ⟨gb322, 4, none⟩ = some (.int .i64 a3_4) := (blk_cell BK322.out 4).trans rfl; have hcz17_5 : w16.cell? ⟨gb322, 5, none⟩ = some (.int .i64 a3_5) := (blk_cell BK322.out 5).trans rfl; have hcz17_6 : w16.cell? ⟨gb322, 6, none⟩ = some (.int .i64 a3_6) := (blk_cell BK322.out 6).trans rfl; have hcz17_7 : w16.cell? ⟨gb322, 7, none⟩ = some (.slice A3_7 l3_7.length c3_7) := (blk_cell BK322.out 7).trans rfl; have hcz17_8 : w16.cell? ⟨gb322, 8, none⟩ = some (.slice A3_8 l3_8.length c3_8) := (blk_cell BK322.out 8).trans rfl; have hfz17_0 := blk_frozen BK322.out 0; have hfz17_1 := blk_frozen BK322.out 1; have hfz17_2 := blk_frozen BK322.out 2; have hfz17_3 := blk_frozen BK322.out 3; have hfz17_4 := blk_frozen BK322.out 4; have hfz17_5 := blk_frozen BK322.out 5; have hfz17_6 := blk_frozen BK322.out 6; have hfz17_7 := blk_frozen BK322.out 7; have hfz17_8 := blk_frozen BK322.out 8) | (go_at_call 17; (with_reducible refine (castellanlaw5_long.calls a3_0 a3_1 a3_2 a3_3 a3_4 a3_5 a3_6 _ _ l3_7 _ _ l3_8 t324 _ ?side1 ?side2 ?side3 ?side4 A13.out).mono ?_); (case side1 => repeat (first | exact (Kd.C_below HR3_7.out HB.out) | (with_reducible refine Kd.C_alloc ?_ _) | (with_reducible refine Kd.C_drewN ?_ _) | (with_reducible refine Kd.C_drew ?_))); (case side2 => exact HC3_7.out); (case side3 => repeat (first | exact (Kd.C_below HR3_8.out HB.out) | (with_reducible refine Kd.C_alloc ?_ _) | (with_reducible refine Kd.C_drewN ?_ _) | (with_reducible refine Kd.C_drew ?_))); (case side4 => exact HC3_8.out); rintro e w18 ⟨rfl, hb⟩; have n0_ := Aside0.mk (blk_below (g := gb321) (o := .cells #[.int .i64 a2_0, .int .i64 a2_1, .int .u32 a2_2, .int .u32 a2_3, .int .i64 a2_4, .int .i64 a2_5, .int .i64 a2_6, .slice A2_7 l2_7.length c2_7, .slice A2_8 l2_8.length c2_8] 27 (0, 0)) (by (with_reducible repeat (first | refine blk_drewN ?_ _ | refine blk_drew ?_ | refine blk_alloc ?_ _)); exact BK321.out) hb); have n1_ := Aside0.mk (blk_below (g := gb322) (o := .cells #[.int .i64 a3_0, .int .i64 a3_1, .int .u32 a3_2, .int .u32 a3_3, .int .i64 a3_4, .int .i64 a3_5, .int .i64 a3_6, .slice A3_7 l3_7.length c3_7, .slice A3_8 l3_8.length c3_8] 27 (0, 0)) (by (with_reducible repeat (first | refine blk_drewN ?_ _ | refine blk_drew ?_ | refine blk_alloc ?_ _)); exact BK322.out) hb); have n2_ := Aside0.mk (below_step (by repeat (first | (with_reducible first | exact HB.out | apply below_alloc | apply pw_below_drewN | apply below_drew1 | refine below_set ?_ GE321.out | refine below_set ?_ GE322.out) | exact HB.out)) hb); clear BK321; clear BK322; clear HB; have BK321 := n0_; have BK322 := n1_; have HB := n2_; clear n0_ n1_ n2_; (try clear hb); (try clear hb2); (try clear hk); (try clear hi)))
      go_meet
      case rel => exact ⟨_, (t324), (by first | rfl | (simp; done) | (simp [*]; done)), H', ⟨by first | omega | exact Nat.le_refl _⟩, ⟨by (with_reducible repeat (first | refine blk_drewN ?_ _ | refine blk_drew ?_ | refine blk_alloc ?_ _)); exact BK321.out⟩, ⟨by (with_reducible repeat (first | refine blk_drewN ?_ _ | refine blk_drew ?_ | refine blk_alloc ?_ _)); exact BK322.out⟩, ⟨by repeat (first | (with_reducible first | exact HB.out | apply below_alloc | apply pw_below_drewN | apply below_drew1 | refine below_set ?_ GE321.out | refine below_set ?_ GE322.out) | exact HB.out)⟩⟩
  case rest =>
    clear HC5
    try clear c1
    try clear c2
    try clear p2
    try clear c3
    try clear c9
    try clear c10
    try clear c14
    try clear c17
    try clear hcz11_0
    try clear hcz11_1
    try clear hcz11_2
    try clear hcz11_3
    try clear hcz11_4
    try clear hcz11_5
    try clear hcz11_6
    try clear hcz11_7
    try clear hcz11_8
    try clear hcz15_0
    try clear hcz15_1
    try clear hcz15_2
    try clear hcz15_3
    try clear hcz15_4
    try clear hcz15_5
    try clear hcz15_6
    try clear hcz15_7
    try clear hcz15_8
    try clear hcz17_0
    try clear hcz17_1
    try clear hcz17_2
    try clear hcz17_3
    try clear hcz17_4
    try clear hcz17_5
    try clear hcz17_6
    try clear hcz17_7
    try clear hcz17_8
    try clear hfz11_0
    try clear hfz11_1
    try clear hfz11_2
    try clear hfz11_3
    try clear hfz11_4
    try clear hfz11_5
    try clear hfz11_6
    try clear hfz11_7
    try clear hfz11_8
    try clear hfz15_0
    try clear hfz15_1
    try clear hfz15_2
    try clear hfz15_3
    try clear hfz15_4
    try clear hfz15_5
    try clear hfz15_6
    try clear hfz15_7
    try clear hfz15_8
    try clear hfz17_0
    try clear hfz17_1
    try clear hfz17_2
    try clear hfz17_3
    try clear hfz17_4
    try clear hfz17_5
    try clear hfz17_6
    try clear hfz17_7
    try clear hfz17_8
    obtain ⟨kq, x22_4, rfl, HA, HJ4, BK321, BK322, HB⟩ := hcut
    cases kq with
    | zero => exact absurd HA.out (by simp [castellanlaw5_TcpBuilds.j0])
    | succ kj4 =>
      have H := HA.out
      clear HA
      simp only [castellanlaw5_TcpBuilds.j0] at H
      by_cases c19 : x22_4 = true
      · subst c19
        have H1 : (some true) = some r := by rw [if_pos rfl] at H; exact H
        clear H
        have H := H1
        clear H1
        obtain rfl := Option.some.inj H
        go_wp2
        go_ret
        exact ⟨by first | rfl | (simp [errW_none, errW_some] <;> rfl) | (simp [*, errW_none, errW_some] <;> rfl), by repeat (first | (with_reducible first | exact HB.out | apply below_alloc | apply pw_below_drewN | apply below_drew1 | refine below_set ?_ GE321.out | refine below_set ?_ GE322.out) | exact HB.out)⟩
      · replace c19 := Bool.eq_false_iff.mpr c19
        subst c19
        have H1 : ((tcp_Build.f kj4 a0 a1 a2_0 a2_1 a2_2 a2_3 a2_4 a2_5 a2_6 l2_7 l2_8).bind fun bt325 => ((castellanref5_Build.f kj4 a0 a1 a2_0 a2_1 a2_2 a2_3 a2_4 a2_5 a2_6 l2_7 l2_8).bind fun bt329 => ((tcp_Reset.f kj4 a2_0 a2_1 a2_2 a2_3 a2_4 a2_5 a2_6 l2_7 l2_8).bind fun bt333 => ((castellanref5_Reset.f a2_0 a2_1 a2_2 a2_3 a2_4 a2_5 a2_6 l2_7 l2_8).bind fun bt348 => (if (strOfNums bt325.1).toList = (strOfNums bt329.1).toList then (if bt325.2 = bt329.2 then ((tcp_Same.f a2_0 a2_1 a2_2 a2_3 a2_4 a2_5 a2_6 l2_7 l2_8 a3_0 a3_1 a3_2 a3_3 a3_4 a3_5 a3_6 l3_7 l3_8).bind fun t363 => ((castellanref5_Same.f a2_0 a2_1 a2_2 a2_3 a2_4 a2_5 a2_6 l2_7 l2_8 a3_0 a3_1 a3_2 a3_3 a3_4 a3_5 a3_6 l3_7 l3_8).bind fun t364 => (if (t363 == t364) = true then ((castellanref5_Same.f bt333.1 bt333.2.1 bt333.2.2.1 bt333.2.2.2.1 bt333.2.2.2.2.1 bt333.2.2.2.2.2.1 bt333.2.2.2.2.2.2.1 bt333.2.2.2.2.2.2.2.1 bt333.2.2.2.2.2.2.2.2.1 bt348.1 bt348.2.1 bt348.2.2.1 bt348.2.2.2.1 bt348.2.2.2.2.1 bt348.2.2.2.2.2.1 bt348.2.2.2.2.2.2.1 bt348.2.2.2.2.2.2.2.1 bt348.2.2.2.2.2.2.2.2.1).bind fun t365 => (if t365 = true then (if (bt333.2.2.2.2.2.2.2.2.2 == bt348.2.2.2.2.2.2.2.2.2) = true then ((castellanlaw5_known.f kj4).bind fun t366 => (some t366)) else (some false)) else (some false))) else (some false)))) else (some false)) else (some false)))))) = some r := by rw [if_neg (show ¬ (false = true) by decide)] at H; exact H
        clear H
        have H := H1
        clear H1
        replace H := Option.bind_eq_some_iff.mp H
        obtain ⟨⟨t325, t328⟩, A200, H⟩ := H
        replace H : ((castellanref5_Build.f kj4 a0 a1 a2_0 a2_1 a2_2 a2_3 a2_4 a2_5 a2_6 l2_7 l2_8).bind fun bt329 => ((tcp_Reset.f kj4 a2_0 a2_1 a2_2 a2_3 a2_4 a2_5 a2_6 l2_7 l2_8).bind fun bt333 => ((castellanref5_Reset.f a2_0 a2_1 a2_2 a2_3 a2_4 a2_5 a2_6 l2_7 l2_8).bind fun bt348 => (if (strOfNums t325).toList = (strOfNums bt329.1).toList then (if t328 = bt329.2 then ((tcp_Same.f a2_0 a2_1 a2_2 a2_3 a2_4 a2_5 a2_6 l2_7 l2_8 a3_0 a3_1 a3_2 a3_3 a3_4 a3_5 a3_6 l3_7 l3_8).bind fun t363 => ((castellanref5_Same.f a2_0 a2_1 a2_2 a2_3 a2_4 a2_5 a2_6 l2_7 l2_8 a3_0 a3_1 a3_2 a3_3 a3_4 a3_5 a3_6 l3_7 l3_8).bind fun t364 => (if (t363 == t364) = true then ((castellanref5_Same.f bt333.1 bt333.2.1 bt333.2.2.1 bt333.2.2.2.1 bt333.2.2.2.2.1 bt333.2.2.2.2.2.1 bt333.2.2.2.2.2.2.1 bt333.2.2.2.2.2.2.2.1 bt333.2.2.2.2.2.2.2.2.1 bt348.1 bt348.2.1 bt348.2.2.1 bt348.2.2.2.1 bt348.2.2.2.2.1 bt348.2.2.2.2.2.1 bt348.2.2.2.2.2.2.1 bt348.2.2.2.2.2.2.2.1 bt348.2.2.2.2.2.2.2.2.1).bind fun t365 => (if t365 = true then (if (bt333.2.2.2.2.2.2.2.2.2 == bt348.2.2.2.2.2.2.2.2.2) = true then ((castellanlaw5_known.f kj4).bind fun t366 => (some t366)) else (some false)) else (some false))) else (some false)))) else (some false)) else (some false))))) = some r := H
        have A20 := Aside0.mk A200
        clear A200
        replace H := Option.bind_eq_some_iff.mp H
        obtain ⟨⟨t329, t332⟩, A210, H⟩ := H
        replace H : ((tcp_Reset.f kj4 a2_0 a2_1 a2_2 a2_3 a2_4 a2_5 a2_6 l2_7 l2_8).bind fun bt333 => ((castellanref5_Reset.f a2_0 a2_1 a2_2 a2_3 a2_4 a2_5 a2_6 l2_7 l2_8).bind fun bt348 => (if (strOfNums t325).toList = (strOfNums t329).toList then (if t328 = t332 then ((tcp_Same.f a2_0 a2_1 a2_2 a2_3 a2_4 a2_5 a2_6 l2_7 l2_8 a3_0 a3_1 a3_2 a3_3 a3_4 a3_5 a3_6 l3_7 l3_8).bind fun t363 => ((castellanref5_Same.f a2_0 a2_1 a2_2 a2_3 a2_4 a2_5 a2_6 l2_7 l2_8 a3_0 a3_1 a3_2 a3_3 a3_4 a3_5 a3_6 l3_7 l3_8).bind fun t364 => (if (t363 == t364) = true then ((castellanref5_Same.f bt333.1 bt333.2.1 bt333.2.2.1 bt333.2.2.2.1 bt333.2.2.2.2.1 bt333.2.2.2.2.2.1 bt333.2.2.2.2.2.2.1 bt333.2.2.2.2.2.2.2.1 bt333.2.2.2.2.2.2.2.2.1 bt348.1 bt348.2.1 bt348.2.2.1 bt348.2.2.2.1 bt348.2.2.2.2.1 bt348.2.2.2.2.2.1 bt348.2.2.2.2.2.2.1 bt348.2.2.2.2.2.2.2.1 bt348.2.2.2.2.2.2.2.2.1).bind fun t365 => (if t365 = true then (if (bt333.2.2.2.2.2.2.2.2.2 == bt348.2.2.2.2.2.2.2.2.2) = true then ((castellanlaw5_known.f kj4).bind fun t366 => (some t366)) else (some false)) else (some false))) else (some false)))) else (some false)) else (some false)))) = some r := H
        have A21 := Aside0.mk A210
        clear A210
        replace H := Option.bind_eq_some_iff.mp H
        obtain ⟨⟨t333, t334, t335, t336, t337, t338, t339, t340, t343, t346⟩, A220, H⟩ := H
        replace H : ((castellanref5_Reset.f a2_0 a2_1 a2_2 a2_3 a2_4 a2_5 a2_6 l2_7 l2_8).bind fun bt348 => (if (strOfNums t325).toList = (strOfNums t329).toList then (if t328 = t332 then ((tcp_Same.f a2_0 a2_1 a2_2 a2_3 a2_4 a2_5 a2_6 l2_7 l2_8 a3_0 a3_1 a3_2 a3_3 a3_4 a3_5 a3_6 l3_7 l3_8).bind fun t363 => ((castellanref5_Same.f a2_0 a2_1 a2_2 a2_3 a2_4 a2_5 a2_6 l2_7 l2_8 a3_0 a3_1 a3_2 a3_3 a3_4 a3_5 a3_6 l3_7 l3_8).bind fun t364 => (if (t363 == t364) = true then ((castellanref5_Same.f t333 t334 t335 t336 t337 t338 t339 t340 t343 bt348.1 bt348.2.1 bt348.2.2.1 bt348.2.2.2.1 bt348.2.2.2.2.1 bt348.2.2.2.2.2.1 bt348.2.2.2.2.2.2.1 bt348.2.2.2.2.2.2.2.1 bt348.2.2.2.2.2.2.2.2.1).bind fun t365 => (if t365 = true then (if (t346 == bt348.2.2.2.2.2.2.2.2.2) = true then ((castellanlaw5_known.f kj4).bind fun t366 => (some t366)) else (some false)) else (some false))) else (some false)))) else (some false)) else (some false))) = some r := H
        have A22 := Aside0.mk A220
        clear A220
        replace H := Option.bind_eq_some_iff.mp H
        obtain ⟨⟨t348, t349, t350, t351, t352, t353, t354, t355, t358, t361⟩, A230, H⟩ := H
        replace H : (if (strOfNums t325).toList = (strOfNums t329).toList then (if t328 = t332 then ((tcp_Same.f a2_0 a2_1 a2_2 a2_3 a2_4 a2_5 a2_6 l2_7 l2_8 a3_0 a3_1 a3_2 a3_3 a3_4 a3_5 a3_6 l3_7 l3_8).bind fun t363 => ((castellanref5_Same.f a2_0 a2_1 a2_2 a2_3 a2_4 a2_5 a2_6 l2_7 l2_8 a3_0 a3_1 a3_2 a3_3 a3_4 a3_5 a3_6 l3_7 l3_8).bind fun t364 => (if (t363 == t364) = true then ((castellanref5_Same.f t333 t334 t335 t336 t337 t338 t339 t340 t343 t348 t349 t350 t351 t352 t353 t354 t355 t358).bind fun t365 => (if t365 = true then (if (t346 == t361) = true then ((castellanlaw5_known.f kj4).bind fun t366 => (some t366)) else (some false)) else (some false))) else (some false)))) else (some false)) else (some false)) = some r := H
        have A23 := Aside0.mk A230
        clear A230
        by_cases c24 : (strOfNums t325).toList = (strOfNums t329).toList
        · rw [if_pos c24] at H
          have c24b0 : ((strOfNums t325).toList == (strOfNums t329).toList) = true := beq_iff_eq.mpr c24
          have c24b1 : ((strOfNums t325).toList != (strOfNums t329).toList) = false := bne_eq_false_iff_eq.mpr c24
          clear c24
          by_cases c25 : t328 = t332
          · rw [if_pos c25] at H
            have c25b0 : (t328 == t332) = true := beq_iff_eq.mpr c25
            have c25b1 : (t328 != t332) = false := bne_eq_false_iff_eq.mpr c25
            clear c25
            replace H := Option.bind_eq_some_iff.mp H
            obtain ⟨t363, A260, H⟩ := H
            replace H : ((castellanref5_Same.f a2_0 a2_1 a2_2 a2_3 a2_4 a2_5 a2_6 l2_7 l2_8 a3_0 a3_1 a3_2 a3_3 a3_4 a3_5 a3_6 l3_7 l3_8).bind fun t364 => (if (t363 == t364) = true then ((castellanref5_Same.f t333 t334 t335 t336 t337 t338 t339 t340 t343 t348 t349 t350 t351 t352 t353 t354 t355 t358).bind fun t365 => (if t365 = true then (if (t346 == t361) = true then ((castellanlaw5_known.f kj4).bind fun t366 => (some t366)) else (some false)) else (some false))) else (some false))) = some r := H
            have A26 := Aside0.mk A260
            clear A260
            replace H := Option.bind_eq_some_iff.mp H
            obtain ⟨t364, A270, H⟩ := H
            replace H : (if (t363 == t364) = true then ((castellanref5_Same.f t333 t334 t335 t336 t337 t338 t339 t340 t343 t348 t349 t350 t351 t352 t353 t354 t355 t358).bind fun t365 => (if t365 = true then (if (t346 == t361) = true then ((castellanlaw5_known.f kj4).bind fun t366 => (some t366)) else (some false)) else (some false))) else (some false)) = some r := H
            have A27 := Aside0.mk A270
            clear A270
            by_cases c28 : (t363 == t364) = true
            · rw [if_pos c28] at H
              have c28b0 : (t363 == t364) = true := c28
              (try (have c28b1 : decide (t363 = t364) = true := by simpa using c28))
              (try (have c28b2 : (t363 == t364) = true := by simpa using c28))
              clear c28
              replace H := Option.bind_eq_some_iff.mp H
              obtain ⟨t365, A290, H⟩ := H
              replace H : (if t365 = true then (if (t346 == t361) = true then ((castellanlaw5_known.f kj4).bind fun t366 => (some t366)) else (some false)) else (some false)) = some r := H
              have A29 := Aside0.mk A290
              clear A290
              by_cases c30 : t365 = true
              · subst c30
                have H1 : (if (t346 == t361) = true then ((castellanlaw5_known.f kj4).bind fun t366 => (some t366)) else (some false)) = some r := by rw [if_pos rfl] at H; exact H
                clear H
                have H := H1
                clear H1
                by_cases c31 : (t346 == t361) = true
                · rw [if_pos c31] at H
                  have c31b0 : (t346 == t361) = true := c31
                  (try (have c31b1 : decide (t346 = t361) = true := by simpa using c31))
                  (try (have c31b2 : (t346 == t361) = true := by simpa using c31))
                  clear c31
                  replace H := Option.bind_eq_some_iff.mp H
                  obtain ⟨t366, A320, H⟩ := H
                  replace H : (some t366) = some r := H
                  have A32 := Aside0.mk A320
                  clear A320
                  obtain rfl := Option.some.inj H
                  have hnb33 := NB321_322.out
                  have hnc33 := NB322_321.out
                  have hcz34_0 : wc.cell? ⟨gb321, 0, none⟩ = some (.int .i64 a2_0) := (blk_cell BK321.out 0).trans rfl
                  have hcz34_1 : wc.cell? ⟨gb321, 1, none⟩ = some (.int .i64 a2_1) := (blk_cell BK321.out 1).trans rfl
                  have hcz34_2 : wc.cell? ⟨gb321, 2, none⟩ = some (.int .u32 a2_2) := (blk_cell BK321.out 2).trans rfl
                  have hcz34_3 : wc.cell? ⟨gb321, 3, none⟩ = some (.int .u32 a2_3) := (blk_cell BK321.out 3).trans rfl
                  have hcz34_4 : wc.cell? ⟨gb321, 4, none⟩ = some (.int .i64 a2_4) := (blk_cell BK321.out 4).trans rfl
                  have hcz34_5 : wc.cell? ⟨gb321, 5, none⟩ = some (.int .i64 a2_5) := (blk_cell BK321.out 5).trans rfl
                  have hcz34_6 : wc.cell? ⟨gb321, 6, none⟩ = some (.int .i64 a2_6) := (blk_cell BK321.out 6).trans rfl
                  have hcz34_7 : wc.cell? ⟨gb321, 7, none⟩ = some (.slice A2_7 l2_7.length c2_7) := (blk_cell BK321.out 7).trans rfl
                  have hcz34_8 : wc.cell? ⟨gb321, 8, none⟩ = some (.slice A2_8 l2_8.length c2_8) := (blk_cell BK321.out 8).trans rfl
                  have hfz34_0 := blk_frozen BK321.out 0
                  have hfz34_1 := blk_frozen BK321.out 1
                  have hfz34_2 := blk_frozen BK321.out 2
                  have hfz34_3 := blk_frozen BK321.out 3
                  have hfz34_4 := blk_frozen BK321.out 4
                  have hfz34_5 := blk_frozen BK321.out 5
                  have hfz34_6 := blk_frozen BK321.out 6
                  have hfz34_7 := blk_frozen BK321.out 7
                  have hfz34_8 := blk_frozen BK321.out 8
                  try go_wp2_with (first | ((with_reducible refine gate_callee (f := 25) rfl ?_); refine goesL_ (some 27) rfl rfl Try.func25 (by kernel_rfl) rfl #[.int .u32 a0, .int .u32 a1, .agg #[.int .i64 a2_0, .int .i64 a2_1, .int .u32 a2_2, .int .u32 a2_3, .int .i64 a2_4, .int .i64 a2_5, .int .i64 a2_6, .slice A2_7 l2_7.length c2_7, .slice A2_8 l2_8.length c2_8]] rfl (by (try simp only [List.map_toArray, List.map_cons, List.map_nil]); first | done | rfl | (simp only [List.length_drop, List.length_take]; rfl)) ?_; (with_reducible refine (tcp_Build.calls kj4 a0 a1 a2_0 a2_1 a2_2 a2_3 a2_4 a2_5 a2_6 (fun k_ => k_ < w.heap.size) _ _ l2_7 (fun k_ => k_ < w.heap.size) _ _ l2_8 t325 t328 _ ?side1 ?side2 A20.out).mono ?_); (case side1 => exact Kd.V_mk HC2_7.out (Kd.F_below (Kd.C_F (Kd.heap_int .u8) HR2_7.out) (by repeat (first | (with_reducible first | exact HB.out | apply below_alloc | apply pw_below_drewN | apply below_drew1 | refine below_set ?_ GE321.out | refine below_set ?_ GE322.out) | exact HB.out)))); (case side2 => exact Kd.V_mk HC2_8.out (Kd.F_below (Kd.C_F (Kd.heap_int .u8) HR2_8.out) (by repeat (first | (with_reducible first | exact HB.out | apply below_alloc | apply pw_below_drewN | apply below_drew1 | refine below_set ?_ GE321.out | refine below_set ?_ GE322.out) | exact HB.out)))); rintro e w35 ⟨v326, rfl, ho0, hb⟩; refine ⟨_, rfl, ?_⟩; have n0_ := Aside0.mk (Kd.R_lower (Kd.R_mono (ok' := fun k_ => True) ho0 (fun _ hk_ => trivial)) (below_size (by repeat (first | (with_reducible first | exact HB.out | apply below_alloc | apply pw_below_drewN | apply below_drew1 | refine below_set ?_ GE321.out | refine below_set ?_ GE322.out) | exact HB.out)))); have n1_ := Aside0.mk (blk_below (g := gb321) (o := .cells #[.int .i64 a2_0, .int .i64 a2_1, .int .u32 a2_2, .int .u32 a2_3, .int .i64 a2_4, .int .i64 a2_5, .int .i64 a2_6, .slice A2_7 l2_7.length c2_7, .slice A2_8 l2_8.length c2_8] 27 (0, 0)) (by (with_reducible repeat (first | refine blk_drewN ?_ _ | refine blk_drew ?_ | refine blk_alloc ?_ _)); exact BK321.out) hb); have n2_ := Aside0.mk (blk_below (g := gb322) (o := .cells #[.int .i64 a3_0, .int .i64 a3_1, .int .u32 a3_2, .int .u32 a3_3, .int .i64 a3_4, .int .i64 a3_5, .int .i64 a3_6, .slice A3_7 l3_7.length c3_7, .slice A3_8 l3_8.length c3_8] 27 (0, 0)) (by (with_reducible repeat (first | refine blk_drewN ?_ _ | refine blk_drew ?_ | refine blk_alloc ?_ _)); exact BK322.out) hb); have n3_ := Aside0.mk (below_step (by repeat (first | (with_reducible first | exact HB.out | apply below_alloc | apply pw_below_drewN | apply below_drew1 | refine below_set ?_ GE321.out | refine below_set ?_ GE322.out) | exact HB.out)) hb); clear BK321; clear BK322; clear HB; have HO327 := n0_; have BK321 := n1_; have BK322 := n2_; have HB := n3_; clear n0_ n1_ n2_ n3_; (try clear hb); (try clear hb2); (try clear hk); (try clear hi); (try clear ho0); have hcz36_0 : w35.cell? ⟨gb321, 0, none⟩ = some (.int .i64 a2_0) := (blk_cell BK321.out 0).trans rfl; have hcz36_1 : w35.cell? ⟨gb321, 1, none⟩ = some (.int .i64 a2_1) := (blk_cell BK321.out 1).trans rfl; have hcz36_2 : w35.cell? ⟨gb321, 2, none⟩ = some (.int .u32 a2_2) := (blk_cell BK321.out 2).trans rfl; have hcz36_3 : w35.cell? ⟨gb321, 3, none⟩ = some (.int .u32 a2_3) := (blk_cell BK321.out 3).trans rfl; have hcz36_4 : w35.cell? ⟨gb321, 4, none⟩ = some (.int .i64 a2_4) := (blk_cell BK321.out 4).trans rfl; have hcz36_5 : w35.cell? ⟨gb321, 5, none⟩ = some (.int .i64 a2_5) := (blk_cell BK321.out 5).trans rfl; have hcz36_6 : w35.cell? ⟨gb321, 6, none⟩ = some (.int .i64 a2_6) := (blk_cell BK321.out 6).trans rfl; have hcz36_7 : w35.cell? ⟨gb321, 7, none⟩ = some (.slice A2_7 l2_7.length c2_7) := (blk_cell BK321.out 7).trans rfl; have hcz36_8 : w35.cell? ⟨gb321, 8, none⟩ = some (.slice A2_8 l2_8.length c2_8) := (blk_cell BK321.out 8).trans rfl; have hfz36_0 := blk_frozen BK321.out 0; have hfz36_1 := blk_frozen BK321.out 1; have hfz36_2 := blk_frozen BK321.out 2; have hfz36_3 := blk_frozen BK321.out 3; have hfz36_4 := blk_frozen BK321.out 4; have hfz36_5 := blk_frozen BK321.out 5; have hfz36_6 := blk_frozen BK321.out 6; have hfz36_7 := blk_frozen BK321.out 7; have hfz36_8 := blk_frozen BK321.out 8) | ((with_reducible refine gate_callee (f := 26) rfl ?_); refine goesL_ (some 34) rfl rfl Try.func26 (by kernel_rfl) rfl #[.int .u32 a0, .int .u32 a1, .agg #[.int .i64 a2_0, .int .i64 a2_1, .int .u32 a2_2, .int .u32 a2_3, .int .i64 a2_4, .int .i64 a2_5, .int .i64 a2_6, .slice A2_7 l2_7.length c2_7, .slice A2_8 l2_8.length c2_8]] rfl (by (try simp only [List.map_toArray, List.map_cons, List.map_nil]); first | done | rfl | (simp only [List.length_drop, List.length_take]; rfl)) ?_; (with_reducible refine (castellanref5_Build.calls kj4 a0 a1 a2_0 a2_1 a2_2 a2_3 a2_4 a2_5 a2_6 _ _ l2_7 _ _ l2_8 t329 t332 _ ?side1 ?side2 ?side3 ?side4 A21.out).mono ?_); (case side1 => repeat (first | exact (Kd.C_below HR2_7.out HB.out) | (with_reducible refine Kd.C_alloc ?_ _) | (with_reducible refine Kd.C_drewN ?_ _) | (with_reducible refine Kd.C_drew ?_))); (case side2 => exact HC2_7.out); (case side3 => repeat (first | exact (Kd.C_below HR2_8.out HB.out) | (with_reducible refine Kd.C_alloc ?_ _) | (with_reducible refine Kd.C_drewN ?_ _) | (with_reducible refine Kd.C_drew ?_))); (case side4 => exact HC2_8.out); rintro e w37 ⟨v330, rfl, ho0, hb⟩; refine ⟨_, rfl, ?_⟩; have n0_ := Aside0.mk (Kd.R_elder' (by (with_reducible repeat (first | apply Kd.R_alloc | apply Kd.R_drewN | apply Kd.R_drew)); exact HO327.out) (Kd.R_base ho0) hb); have n1_ := Aside0.mk (Kd.R_lower (Kd.R_new' ho0 (Kd.R_lt (by (with_reducible repeat (first | apply Kd.R_alloc | apply Kd.R_drewN | apply Kd.R_drew)); exact HO327.out))) (below_size (by repeat (first | (with_reducible first | exact HB.out | apply below_alloc | apply pw_below_drewN | apply below_drew1 | refine below_set ?_ GE321.out | refine below_set ?_ GE322.out) | exact HB.out)))); have n2_ := Aside0.mk (blk_below (g := gb321) (o := .cells #[.int .i64 a2_0, .int .i64 a2_1, .int .u32 a2_2, .int .u32 a2_3, .int .i64 a2_4, .int .i64 a2_5, .int .i64 a2_6, .slice A2_7 l2_7.length c2_7, .slice A2_8 l2_8.length c2_8] 27 (0, 0)) (by (with_reducible repeat (first | refine blk_drewN ?_ _ | refine blk_drew ?_ | refine blk_alloc ?_ _)); exact BK321.out) hb); have n3_ := Aside0.mk (blk_below (g := gb322) (o := .cells #[.int .i64 a3_0, .int .i64 a3_1, .int .u32 a3_2, .int .u32 a3_3, .int .i64 a3_4, .int .i64 a3_5, .int .i64 a3_6, .slice A3_7 l3_7.length c3_7, .slice A3_8 l3_8.length c3_8] 27 (0, 0)) (by (with_reducible repeat (first | refine blk_drewN ?_ _ | refine blk_drew ?_ | refine blk_alloc ?_ _)); exact BK322.out) hb); have n4_ := Aside0.mk (below_step (by repeat (first | (with_reducible first | exact HB.out | apply below_alloc | apply pw_below_drewN | apply below_drew1 | refine below_set ?_ GE321.out | refine below_set ?_ GE322.out) | exact HB.out)) hb); clear HO327; clear BK321; clear BK322; clear HB; have HO327 := n0_; have HO331 := n1_; have BK321 := n2_; have BK322 := n3_; have HB := n4_; clear n0_ n1_ n2_ n3_ n4_; (try clear hb); (try clear hb2); (try clear hk); (try clear hi); (try clear ho0); have hcz38_0 : w37.cell? ⟨gb321, 0, none⟩ = some (.int .i64 a2_0) := (blk_cell BK321.out 0).trans rfl; have hcz38_1 : w37.cell? ⟨gb321, 1, none⟩ = some (.int .i64 a2_1) := (blk_cell BK321.out 1).trans rfl; have hcz38_2 : w37.cell? ⟨gb321, 2, none⟩ = some (.int .u32 a2_2) := (blk_cell BK321.out 2).trans rfl; have hcz38_3 : w37.cell? ⟨gb321, 3, none⟩ = some (.int .u32 a2_3) := (blk_cell BK321.out 3).trans rfl; have hcz38_4 : w37.cell? ⟨gb321, 4, none⟩ = some (.int .i64 a2_4) := (blk_cell BK321.out 4).trans rfl; have hcz38_5 : w37.cell? ⟨gb321, 5, none⟩ = some (.int .i64 a2_5) := (blk_cell BK321.out 5).trans rfl; have hcz38_6 : w37.cell? ⟨gb321, 6, none⟩ = some (.int .i64 a2_6) := (blk_cell BK321.out 6).trans rfl; have hcz38_7 : w37.cell? ⟨gb321, 7, none⟩ = some (.slice A2_7 l2_7.length c2_7) := (blk_cell BK321.out 7).trans rfl; have hcz38_8 : w37.cell? ⟨gb321, 8, none⟩ = some (.slice A2_8 l2_8.length c2_8) := (blk_cell BK321.out 8).trans rfl; have hfz38_0 := blk_frozen BK321.out 0; have hfz38_1 := blk_frozen BK321.out 1; have hfz38_2 := blk_frozen BK321.out 2; have hfz38_3 := blk_frozen BK321.out 3; have hfz38_4 := blk_frozen BK321.out 4; have hfz38_5 := blk_frozen BK321.out 5; have hfz38_6 := blk_frozen BK321.out 6; have hfz38_7 := blk_frozen BK321.out 7; have hfz38_8 := blk_frozen BK321.out 8) | ((with_reducible refine gate_callee (f := 18) rfl ?_); refine goesL_ (some 39) rfl rfl Try.func18 (by kernel_rfl) rfl #[.agg #[.int .i64 a2_0, .int .i64 a2_1, .int .u32 a2_2, .int .u32 a2_3, .int .i64 a2_4, .int .i64 a2_5, .int .i64 a2_6, .slice A2_7 l2_7.length c2_7, .slice A2_8 l2_8.length c2_8]] rfl (by (try simp only [List.map_toArray, List.map_cons, List.map_nil]); first | done | rfl | (simp only [List.length_drop, List.length_take]; rfl)) ?_; (with_reducible refine (tcp_Reset.calls kj4 a2_0 a2_1 a2_2 a2_3 a2_4 a2_5 a2_6 _ _ l2_7 _ _ l2_8 t333 t334 t335 t336 t337 t338 t339 t340 t343 t346 _ ?side1 ?side2 ?side3 ?side4 A22.out).mono ?_); (case side1 => repeat (first | exact (Kd.C_below HR2_7.out HB.out) | (with_reducible refine Kd.C_alloc ?_ _) | (with_reducible refine Kd.C_drewN ?_ _) | (with_reducible refine Kd.C_drew ?_))); (case side2 => exact HC2_7.out); (case side3 => repeat (first | exact (Kd.C_below HR2_8.out HB.out) | (with_reducible refine Kd.C_alloc ?_ _) | (with_reducible refine Kd.C_drewN ?_ _) | (with_reducible refine Kd.C_drew ?_))); (case side4 => exact HC2_8.out); rintro e w39 ⟨v341, v344, rfl, ho0, ho1, hb⟩; refine ⟨_, rfl, ?_⟩; have n0_ := Aside0.mk (Kd.R_mono (Kd.R_told (Kd.R_told (Kd.R_old (by (with_reducible repeat (first | apply Kd.R_alloc | apply Kd.R_drewN | apply Kd.R_drew)); exact HO327.out) hb) (Kd.R_base ho0)) (Kd.R_base ho1)) (fun _ h_ => h_.1)); have n1_ := Aside0.mk (Kd.R_mono (Kd.R_told (Kd.R_told (Kd.R_old (by (with_reducible repeat (first | apply Kd.R_alloc | apply Kd.R_drewN | apply Kd.R_drew)); exact HO331.out) hb) (Kd.R_base ho0)) (Kd.R_base ho1)) (fun _ h_ => h_.1)); have n2_ := Aside0.mk (Kd.R_lower (Kd.R_new' (Kd.R_new' ho0 (Kd.R_lt (by (with_reducible repeat (first | apply Kd.R_alloc | apply Kd.R_drewN | apply Kd.R_drew)); exact HO327.out))) (Kd.R_lt (by (with_reducible repeat (first | apply Kd.R_alloc | apply Kd.R_drewN | apply Kd.R_drew)); exact HO331.out))) (below_size (by repeat (first | (with_reducible first | exact HB.out | apply below_alloc | apply pw_below_drewN | apply below_drew1 | refine below_set ?_ GE321.out | refine below_set ?_ GE322.out) | exact HB.out)))); have n3_ := Aside0.mk (Kd.R_lower (Kd.R_new' (Kd.R_new' ho1 (Kd.R_lt (by (with_reducible repeat (first | apply Kd.R_alloc | apply Kd.R_drewN | apply Kd.R_drew)); exact HO327.out))) (Kd.R_lt (by (with_reducible repeat (first | apply Kd.R_alloc | apply Kd.R_drewN | apply Kd.R_drew)); exact HO331.out))) (below_size (by repeat (first | (with_reducible first | exact HB.out | apply below_alloc | apply pw_below_drewN | apply below_drew1 | refine below_set ?_ GE321.out | refine below_set ?_ GE322.out) | exact HB.out)))); have n4_ := Aside0.mk (blk_below (g := gb321) (o := .cells #[.int .i64 a2_0, .int .i64 a2_1, .int .u32 a2_2, .int .u32 a2_3, .int .i64 a2_4, .int .i64 a2_5, .int .i64 a2_6, .slice A2_7 l2_7.length c2_7, .slice A2_8 l2_8.length c2_8] 27 (0, 0)) (by (with_reducible repeat (first | refine blk_drewN ?_ _ | refine blk_drew ?_ | refine blk_alloc ?_ _)); exact BK321.out) hb); have n5_ := Aside0.mk (blk_below (g := gb322) (o := .cells #[.int .i64 a3_0, .int .i64 a3_1, .int .u32 a3_2, .int .u32 a3_3, .int .i64 a3_4, .int .i64 a3_5, .int .i64 a3_6, .slice A3_7 l3_7.length c3_7, .slice A3_8 l3_8.length c3_8] 27 (0, 0)) (by (with_reducible repeat (first | refine blk_drewN ?_ _ | refine blk_drew ?_ | refine blk_alloc ?_ _)); exact BK322.out) hb); have n6_ := Aside0.mk (below_step (by repeat (first | (with_reducible first | exact HB.out | apply below_alloc | apply pw_below_drewN | apply below_drew1 | refine below_set ?_ GE321.out | refine below_set ?_ GE322.out) | exact HB.out)) hb); clear HO327; clear HO331; clear BK321; clear BK322; clear HB; have HO327 := n0_; have HO331 := n1_; have HO342 := n2_; have HO345 := n3_; have BK321 := n4_; have BK322 := n5_; have HB := n6_; clear n0_ n1_ n2_ n3_ n4_ n5_ n6_; (try clear hb); (try clear hb2); (try clear hk); (try clear hi); (try clear ho0); (try clear ho1)) | ((with_reducible refine gate_dst (N := 13) rfl ?_); refine box_event ?hg (N := 13) ?hd (cs := #[.int .i64 0, .int .i64 0, .int .u32 0, .int .u32 0, .int .i64 0, .int .i64 0, .int .i64 0, .slice none 0 0, .slice none 0 0]) (t := 27) ?hr ?_; (case hd => rfl); (case hg => rfl); (case hr => first | (go_simp; done) | (go_simp; rfl)); intro gb347 hg w40 hbox hb; have n0_ := Aside0.mk (Kd.R_below (by (with_reducible repeat (first | apply Kd.R_alloc | apply Kd.R_drewN | apply Kd.R_drew)); exact HO327.out) hb); have n1_ := Aside0.mk (Kd.R_below (by (with_reducible repeat (first | apply Kd.R_alloc | apply Kd.R_drewN | apply Kd.R_drew)); exact HO331.out) hb); have n2_ := Aside0.mk (Kd.R_below (by (with_reducible repeat (first | apply Kd.R_alloc | apply Kd.R_drewN | apply Kd.R_drew)); exact HO342.out) hb); have n3_ := Aside0.mk (Kd.R_below (by (with_reducible repeat (first | apply Kd.R_alloc | apply Kd.R_drewN | apply Kd.R_drew)); exact HO345.out) hb); have n4_ := Aside0.mk (blk_below (g := gb321) (o := .cells #[.int .i64 a2_0, .int .i64 a2_1, .int .u32 a2_2, .int .u32 a2_3, .int .i64 a2_4, .int .i64 a2_5, .int .i64 a2_6, .slice A2_7 l2_7.length c2_7, .slice A2_8 l2_8.length c2_8] 27 (0, 0)) (by (with_reducible repeat (first | refine blk_drewN ?_ _ | refine blk_drew ?_ | refine blk_alloc ?_ _)); exact BK321.out) hb); have n5_ := Aside0.mk (blk_below (g := gb322) (o := .cells #[.int .i64 a3_0, .int .i64 a3_1, .int .u32 a3_2, .int .u32 a3_3, .int .i64 a3_4, .int .i64 a3_5, .int .i64 a3_6, .slice A3_7 l3_7.length c3_7, .slice A3_8 l3_8.length c3_8] 27 (0, 0)) (by (with_reducible repeat (first | refine blk_drewN ?_ _ | refine blk_drew ?_ | refine blk_alloc ?_ _)); exact BK322.out) hb); have n6_ := Aside0.mk (below_step (by repeat (first | (with_reducible first | exact HB.out | apply below_alloc | apply pw_below_drewN | apply below_drew1 | refine below_set ?_ GE321.out | refine below_set ?_ GE322.out) | exact HB.out)) hb); have n7_ := Aside0.mk (hbox); have n8_ := Aside0.mk ((by rw [hg]; exact (below_size (by repeat (first | (with_reducible first | exact HB.out | apply below_alloc | apply pw_below_drewN | apply below_drew1 | refine below_set ?_ GE321.out | refine below_set ?_ GE322.out) | exact HB.out))) : w.heap.size ≤ gb347)); have n9_ := Aside0.mk ((by rw [hg]; exact (below_size (by repeat (first | (with_reducible first | exact HB.out | apply below_alloc | apply pw_below_drewN | apply below_drew1 | refine below_set ?_ GE321.out | refine below_set ?_ GE322.out) | exact HB.out))) : w.heap.size ≤ gb347)); have n10_ := Aside0.mk ((by rw [hg]; exact Nat.ne_of_lt (blk_lt (g := gb321) (o := .cells #[.int .i64 a2_0, .int .i64 a2_1, .int .u32 a2_2, .int .u32 a2_3, .int .i64 a2_4, .int .i64 a2_5, .int .i64 a2_6, .slice A2_7 l2_7.length c2_7, .slice A2_8 l2_8.length c2_8] 27 (0, 0)) (by (with_reducible repeat (first | refine blk_drewN ?_ _ | refine blk_drew ?_ | refine blk_alloc ?_ _)); exact BK321.out)) : gb321 ≠ gb347)); have n11_ := Aside0.mk ((by rw [hg]; exact Nat.ne_of_gt (blk_lt (g := gb321) (o := .cells #[.int .i64 a2_0, .int .i64 a2_1, .int .u32 a2_2, .int .u32 a2_3, .int .i64 a2_4, .int .i64 a2_5, .int .i64 a2_6, .slice A2_7 l2_7.length c2_7, .slice A2_8 l2_8.length c2_8] 27 (0, 0)) (by (with_reducible repeat (first | refine blk_drewN ?_ _ | refine blk_drew ?_ | refine blk_alloc ?_ _)); exact BK321.out)) : gb347 ≠ gb321)); have n12_ := Aside0.mk ((by rw [hg]; exact Nat.ne_of_lt (blk_lt (g := gb322) (o := .cells #[.int .i64 a3_0, .int .i64 a3_1, .int .u32 a3_2, .int .u32 a3_3, .int .i64 a3_4, .int .i64 a3_5, .int .i64 a3_6, .slice A3_7 l3_7.length c3_7, .slice A3_8 l3_8.length c3_8] 27 (0, 0)) (by (with_reducible repeat (first | refine blk_drewN ?_ _ | refine blk_drew ?_ | refine blk_alloc ?_ _)); exact BK322.out)) : gb322 ≠ gb347)); have n13_ := Aside0.mk ((by rw [hg]; exact Nat.ne_of_gt (blk_lt (g := gb322) (o := .cells #[.int .i64 a3_0, .int .i64 a3_1, .int .u32 a3_2, .int .u32 a3_3, .int .i64 a3_4, .int .i64 a3_5, .int .i64 a3_6, .slice A3_7 l3_7.length c3_7, .slice A3_8 l3_8.length c3_8] 27 (0, 0)) (by (with_reducible repeat (first | refine blk_drewN ?_ _ | refine blk_drew ?_ | refine blk_alloc ?_ _)); exact BK322.out)) : gb347 ≠ gb322)); clear HO327; clear HO331; clear HO342; clear HO345; clear BK321; clear BK322; clear HB; have HO327 := n0_; have HO331 := n1_; have HO342 := n2_; have HO345 := n3_; have BK321 := n4_; have BK322 := n5_; have HB := n6_; have BK347 := n7_; have GW347 := n8_; have GE347 := n9_; have NB321_347 := n10_; have NB347_321 := n11_; have NB322_347 := n12_; have NB347_322 := n13_; clear n0_ n1_ n2_ n3_ n4_ n5_ n6_ n7_ n8_ n9_ n10_ n11_ n12_ n13_; clear hb hbox hg; have hnb41 := NB347_321.out; have hnc41 := NB321_347.out; have hnb42 := NB347_322.out; have hnc42 := NB322_347.out; have hcz43_0 : w40.cell? ⟨gb347, 0, none⟩ = some (.int .i64 0) := (blk_cell BK347.out 0).trans rfl; have hcz43_1 : w40.cell? ⟨gb347, 1, none⟩ = some (.int .i64 0) := (blk_cell BK347.out 1).trans rfl; have hcz43_2 : w40.cell? ⟨gb347, 2, none⟩ = some (.int .u32 0) := (blk_cell BK347.out 2).trans rfl; have hcz43_3 : w40.cell? ⟨gb347, 3, none⟩ = some (.int .u32 0) := (blk_cell BK347.out 3).trans rfl; have hcz43_4 : w40.cell? ⟨gb347, 4, none⟩ = some (.int .i64 0) := (blk_cell BK347.out 4).trans rfl; have hcz43_5 : w40.cell? ⟨gb347, 5, none⟩ = some (.int .i64 0) := (blk_cell BK347.out 5).trans rfl; have hcz43_6 : w40.cell? ⟨gb347, 6, none⟩ = some (.int .i64 0) := (blk_cell BK347.out 6).trans rfl; have hcz43_7 : w40.cell? ⟨gb347, 7, none⟩ = some (.slice none 0 0) := (blk_cell BK347.out 7).trans rfl; have hcz43_8 : w40.cell? ⟨gb347, 8, none⟩ = some (.slice none 0 0) := (blk_cell BK347.out 8).trans rfl; have hfz43_0 := blk_frozen BK347.out 0; have hfz43_1 := blk_frozen BK347.out 1; have hfz43_2 := blk_frozen BK347.out 2; have hfz43_3 := blk_frozen BK347.out 3; have hfz43_4 := blk_frozen BK347.out 4; have hfz43_5 := blk_frozen BK347.out 5; have hfz43_6 := blk_frozen BK347.out 6; have hfz43_7 := blk_frozen BK347.out 7; have hfz43_8 := blk_frozen BK347.out 8; obtain ⟨Ao44, co44, eo44⟩ := Kd.R_slice HO342.out; subst eo44; obtain ⟨Ao45, co45, eo45⟩ := Kd.R_slice HO345.out; subst eo45; have hcz46_0 : w40.cell? ⟨gb321, 0, none⟩ = some (.int .i64 a2_0) := (blk_cell BK321.out 0).trans rfl; have hcz46_1 : w40.cell? ⟨gb321, 1, none⟩ = some (.int .i64 a2_1) := (blk_cell BK321.out 1).trans rfl; have hcz46_2 : w40.cell? ⟨gb321, 2, none⟩ = some (.int .u32 a2_2) := (blk_cell BK321.out 2).trans rfl; have hcz46_3 : w40.cell? ⟨gb321, 3, none⟩ = some (.int .u32 a2_3) := (blk_cell BK321.out 3).trans rfl; have hcz46_4 : w40.cell? ⟨gb321, 4, none⟩ = some (.int .i64 a2_4) := (blk_cell BK321.out 4).trans rfl; have hcz46_5 : w40.cell? ⟨gb321, 5, none⟩ = some (.int .i64 a2_5) := (blk_cell BK321.out 5).trans rfl; have hcz46_6 : w40.cell? ⟨gb321, 6, none⟩ = some (.int .i64 a2_6) := (blk_cell BK321.out 6).trans rfl; have hcz46_7 : w40.cell? ⟨gb321, 7, none⟩ = some (.slice A2_7 l2_7.length c2_7) := (blk_cell BK321.out 7).trans rfl; have hcz46_8 : w40.cell? ⟨gb321, 8, none⟩ = some (.slice A2_8 l2_8.length c2_8) := (blk_cell BK321.out 8).trans rfl; have hfz46_0 := blk_frozen BK321.out 0; have hfz46_1 := blk_frozen BK321.out 1; have hfz46_2 := blk_frozen BK321.out 2; have hfz46_3 := blk_frozen BK321.out 3; have hfz46_4 := blk_frozen BK321.out 4; have hfz46_5 := blk_frozen BK321.out 5; have hfz46_6 := blk_frozen BK321.out 6; have hfz46_7 := blk_frozen BK321.out 7; have hfz46_8 := blk_frozen BK321.out 8) | ((with_reducible refine gate_callee (f := 27) rfl ?_); refine goesL_ (some 44) rfl rfl Try.func27 (by kernel_rfl) rfl #[.agg #[.int .i64 a2_0, .int .i64 a2_1, .int .u32 a2_2, .int .u32 a2_3, .int .i64 a2_4, .int .i64 a2_5, .int .i64 a2_6, .slice A2_7 l2_7.length c2_7, .slice A2_8 l2_8.length c2_8]] rfl (by (try simp only [List.map_toArray, List.map_cons, List.map_nil]); first | done | rfl | (simp only [List.length_drop, List.length_take]; rfl)) ?_; (with_reducible refine (castellanref5_Reset.calls a2_0 a2_1 a2_2 a2_3 a2_4 a2_5 a2_6 _ _ l2_7 _ _ l2_8 t348 t349 t350 t351 t352 t353 t354 t355 t358 t361 _ ?side1 ?side2 ?side3 ?side4 A23.out).mono ?_); (case side1 => exact Kd.C_below HR2_7.out (by repeat (first | (with_reducible first | exact HB.out | apply below_alloc | apply pw_below_drewN | apply below_drew1 | refine below_set ?_ GE321.out | refine below_set ?_ GE322.out | refine below_set ?_ GE347.out) | exact HB.out))); (case side2 => exact HC2_7.out); (case side3 => exact Kd.C_below HR2_8.out (by repeat (first | (with_reducible first | exact HB.out | apply below_alloc | apply pw_below_drewN | apply below_drew1 | refine below_set ?_ GE321.out | refine below_set ?_ GE322.out | refine below_set ?_ GE347.out) | exact HB.out))); (case side4 => exact HC2_8.out); rintro e w47 ⟨v356, v359, rfl, ho0, ho1, hb⟩; refine ⟨_, rfl, ?_⟩; have n0_ := Aside0.mk (Kd.R_mono (Kd.R_told (Kd.R_told (Kd.R_old (by (with_reducible repeat (first | apply Kd.R_alloc | apply Kd.R_drewN | apply Kd.R_drew)); exact (Kd.R_mono (Kd.R_far (p := ⟨gb347, 8, none⟩) (Kd.R_far (p := ⟨gb347, 7, none⟩) (Kd.R_far (p := ⟨gb347, 6, none⟩) (Kd.R_far (p := ⟨gb347, 5, none⟩) (Kd.R_far (p := ⟨gb347, 4, none⟩) (Kd.R_far (p := ⟨gb347, 3, none⟩) (Kd.R_far (p := ⟨gb347, 2, none⟩) (Kd.R_far (p := ⟨gb347, 1, none⟩) (Kd.R_far (p := ⟨gb347, 0, none⟩) (Kd.R_types HO327.out BK347.out (by decide)) (fun _ hk => hk.2) (.int .i64 t333)) (fun _ hk => hk.2) (.int .i64 t334)) (fun _ hk => hk.2) (.int .u32 t335)) (fun _ hk => hk.2) (.int .u32 t336)) (fun _ hk => hk.2) (.int .i64 t337)) (fun _ hk => hk.2) (.int .i64 t338)) (fun _ hk => hk.2) (.int .i64 t339)) (fun _ hk => hk.2) (.slice Ao44 t340.length co44)) (fun _ hk => hk.2) (.slice Ao45 t343.length co45)) (fun _ h_ => h_.1))) hb) (Kd.R_base ho0)) (Kd.R_base ho1)) (fun _ h_ => h_.1)); have n1_ := Aside0.mk (Kd.R_mono (Kd.R_told (Kd.R_told (Kd.R_old (by (with_reducible repeat (first | apply Kd.R_alloc | apply Kd.R_drewN | apply Kd.R_drew)); exact (Kd.R_mono (Kd.R_far (p := ⟨gb347, 8, none⟩) (Kd.R_far (p := ⟨gb347, 7, none⟩) (Kd.R_far (p := ⟨gb347, 6, none⟩) (Kd.R_far (p := ⟨gb347, 5, none⟩) (Kd.R_far (p := ⟨gb347, 4, none⟩) (Kd.R_far (p := ⟨gb347, 3, none⟩) (Kd.R_far (p := ⟨gb347, 2, none⟩) (Kd.R_far (p := ⟨gb347, 1, none⟩) (Kd.R_far (p := ⟨gb347, 0, none⟩) (Kd.R_types HO331.out BK347.out (by decide)) (fun _ hk => hk.2) (.int .i64 t333)) (fun _ hk => hk.2) (.int .i64 t334)) (fun _ hk => hk.2) (.int .u32 t335)) (fun _ hk => hk.2) (.int .u32 t336)) (fun _ hk => hk.2) (.int .i64 t337)) (fun _ hk => hk.2) (.int .i64 t338)) (fun _ hk => hk.2) (.int .i64 t339)) (fun _ hk => hk.2) (.slice Ao44 t340.length co44)) (fun _ hk => hk.2) (.slice Ao45 t343.length co45)) (fun _ h_ => h_.1))) hb) (Kd.R_base ho0)) (Kd.R_base ho1)) (fun _ h_ => h_.1)); have n2_ := Aside0.mk (Kd.R_mono (Kd.R_told (Kd.R_told (Kd.R_old (by (with_reducible repeat (first | apply Kd.R_alloc | apply Kd.R_drewN | apply Kd.R_drew)); exact (Kd.R_mono (Kd.R_far (p := ⟨gb347, 8, none⟩) (Kd.R_far (p := ⟨gb347, 7, none⟩) (Kd.R_far (p := ⟨gb347, 6, none⟩) (Kd.R_far (p := ⟨gb347, 5, none⟩) (Kd.R_far (p := ⟨gb347, 4, none⟩) (Kd.R_far (p := ⟨gb347, 3, none⟩) (Kd.R_far (p := ⟨gb347, 2, none⟩) (Kd.R_far (p := ⟨gb347, 1, none⟩) (Kd.R_far (p := ⟨gb347, 0, none⟩) (Kd.R_types HO342.out BK347.out (by decide)) (fun _ hk => hk.2) (.int .i64 t333)) (fun _ hk => hk.2) (.int .i64 t334)) (fun _ hk => hk.2) (.int .u32 t335)) (fun _ hk => hk.2) (.int .u32 t336)) (fun _ hk => hk.2) (.int .i64 t337)) (fun _ hk => hk.2) (.int .i64 t338)) (fun _ hk => hk.2) (.int .i64 t339)) (fun _ hk => hk.2) (.slice Ao44 t340.length co44)) (fun _ hk => hk.2) (.slice Ao45 t343.length co45)) (fun _ h_ => h_.1))) hb) (Kd.R_base ho0)) (Kd.R_base ho1)) (fun _ h_ => h_.1)); have n3_ := Aside0.mk (Kd.R_mono (Kd.R_told (Kd.R_told (Kd.R_old (by (with_reducible repeat (first | apply Kd.R_alloc | apply Kd.R_drewN | apply Kd.R_drew)); exact (Kd.R_mono (Kd.R_far (p := ⟨gb347, 8, none⟩) (Kd.R_far (p := ⟨gb347, 7, none⟩) (Kd.R_far (p := ⟨gb347, 6, none⟩) (Kd.R_far (p := ⟨gb347, 5, none⟩) (Kd.R_far (p := ⟨gb347, 4, none⟩) (Kd.R_far (p := ⟨gb347, 3, none⟩) (Kd.R_far (p := ⟨gb347, 2, none⟩) (Kd.R_far (p := ⟨gb347, 1, none⟩) (Kd.R_far (p := ⟨gb347, 0, none⟩) (Kd.R_types HO345.out BK347.out (by decide)) (fun _ hk => hk.2) (.int .i64 t333)) (fun _ hk => hk.2) (.int .i64 t334)) (fun _ hk => hk.2) (.int .u32 t335)) (fun _ hk => hk.2) (.int .u32 t336)) (fun _ hk => hk.2) (.int .i64 t337)) (fun _ hk => hk.2) (.int .i64 t338)) (fun _ hk => hk.2) (.int .i64 t339)) (fun _ hk => hk.2) (.slice Ao44 t340.length co44)) (fun _ hk => hk.2) (.slice Ao45 t343.length co45)) (fun _ h_ => h_.1))) hb) (Kd.R_base ho0)) (Kd.R_base ho1)) (fun _ h_ => h_.1)); have n4_ := Aside0.mk (Kd.R_lower (Kd.R_new' (Kd.R_new' (Kd.R_new' (Kd.R_new' ho0 (Kd.R_lt (by (with_reducible repeat (first | apply Kd.R_alloc | apply Kd.R_drewN | apply Kd.R_drew)); exact (Kd.R_mono (Kd.R_far (p := ⟨gb347, 8, none⟩) (Kd.R_far (p := ⟨gb347, 7, none⟩) (Kd.R_far (p := ⟨gb347, 6, none⟩) (Kd.R_far (p := ⟨gb347, 5, none⟩) (Kd.R_far (p := ⟨gb347, 4, none⟩) (Kd.R_far (p := ⟨gb347, 3, none⟩) (Kd.R_far (p := ⟨gb347, 2, none⟩) (Kd.R_far (p := ⟨gb347, 1, none⟩) (Kd.R_far (p := ⟨gb347, 0, none⟩) (Kd.R_types HO327.out BK347.out (by decide)) (fun _ hk => hk.2) (.int .i64 t333)) (fun _ hk => hk.2) (.int .i64 t334)) (fun _ hk => hk.2) (.int .u32 t335)) (fun _ hk => hk.2) (.int .u32 t336)) (fun _ hk => hk.2) (.int .i64 t337)) (fun _ hk => hk.2) (.int .i64 t338)) (fun _ hk => hk.2) (.int .i64 t339)) (fun _ hk => hk.2) (.slice Ao44 t340.length co44)) (fun _ hk => hk.2) (.slice Ao45 t343.length co45)) (fun _ h_ => h_.1))))) (Kd.R_lt (by (with_reducible repeat (first | apply Kd.R_alloc | apply Kd.R_drewN | apply Kd.R_drew)); exact (Kd.R_mono (Kd.R_far (p := ⟨gb347, 8, none⟩) (Kd.R_far (p := ⟨gb347, 7, none⟩) (Kd.R_far (p := ⟨gb347, 6, none⟩) (Kd.R_far (p := ⟨gb347, 5, none⟩) (Kd.R_far (p := ⟨gb347, 4, none⟩) (Kd.R_far (p := ⟨gb347, 3, none⟩) (Kd.R_far (p := ⟨gb347, 2, none⟩) (Kd.R_far (p := ⟨gb347, 1, none⟩) (Kd.R_far (p := ⟨gb347, 0, none⟩) (Kd.R_types HO331.out BK347.out (by decide)) (fun _ hk => hk.2) (.int .i64 t333)) (fun _ hk => hk.2) (.int .i64 t334)) (fun _ hk => hk.2) (.int .u32 t335)) (fun _ hk => hk.2) (.int .u32 t336)) (fun _ hk => hk.2) (.int .i64 t337)) (fun _ hk => hk.2) (.int .i64 t338)) (fun _ hk => hk.2) (.int .i64 t339)) (fun _ hk => hk.2) (.slice Ao44 t340.length co44)) (fun _ hk => hk.2) (.slice Ao45 t343.length co45)) (fun _ h_ => h_.1))))) (Kd.R_lt (by (with_reducible repeat (first | apply Kd.R_alloc | apply Kd.R_drewN | apply Kd.R_drew)); exact (Kd.R_mono (Kd.R_far (p := ⟨gb347, 8, none⟩) (Kd.R_far (p := ⟨gb347, 7, none⟩) (Kd.R_far (p := ⟨gb347, 6, none⟩) (Kd.R_far (p := ⟨gb347, 5, none⟩) (Kd.R_far (p := ⟨gb347, 4, none⟩) (Kd.R_far (p := ⟨gb347, 3, none⟩) (Kd.R_far (p := ⟨gb347, 2, none⟩) (Kd.R_far (p := ⟨gb347, 1, none⟩) (Kd.R_far (p := ⟨gb347, 0, none⟩) (Kd.R_types HO342.out BK347.out (by decide)) (fun _ hk => hk.2) (.int .i64 t333)) (fun _ hk => hk.2) (.int .i64 t334)) (fun _ hk => hk.2) (.int .u32 t335)) (fun _ hk => hk.2) (.int .u32 t336)) (fun _ hk => hk.2) (.int .i64 t337)) (fun _ hk => hk.2) (.int .i64 t338)) (fun _ hk => hk.2) (.int .i64 t339)) (fun _ hk => hk.2) (.slice Ao44 t340.length co44)) (fun _ hk => hk.2) (.slice Ao45 t343.length co45)) (fun _ h_ => h_.1))))) (Kd.R_lt (by (with_reducible repeat (first | apply Kd.R_alloc | apply Kd.R_drewN | apply Kd.R_drew)); exact (Kd.R_mono (Kd.R_far (p := ⟨gb347, 8, none⟩) (Kd.R_far (p := ⟨gb347, 7, none⟩) (Kd.R_far (p := ⟨gb347, 6, none⟩) (Kd.R_far (p := ⟨gb347, 5, none⟩) (Kd.R_far (p := ⟨gb347, 4, none⟩) (Kd.R_far (p := ⟨gb347, 3, none⟩) (Kd.R_far (p := ⟨gb347, 2, none⟩) (Kd.R_far (p := ⟨gb347, 1, none⟩) (Kd.R_far (p := ⟨gb347, 0, none⟩) (Kd.R_types HO345.out BK347.out (by decide)) (fun _ hk => hk.2) (.int .i64 t333)) (fun _ hk => hk.2) (.int .i64 t334)) (fun _ hk => hk.2) (.int .u32 t335)) (fun _ hk => hk.2) (.int .u32 t336)) (fun _ hk => hk.2) (.int .i64 t337)) (fun _ hk => hk.2) (.int .i64 t338)) (fun _ hk => hk.2) (.int .i64 t339)) (fun _ hk => hk.2) (.slice Ao44 t340.length co44)) (fun _ hk => hk.2) (.slice Ao45 t343.length co45)) (fun _ h_ => h_.1))))) (below_size (by repeat (first | (with_reducible first | exact HB.out | apply below_alloc | apply pw_below_drewN | apply below_drew1 | refine below_set ?_ GE321.out | refine below_set ?_ GE322.out | refine below_set ?_ GE347.out) | exact HB.out)))); have n5_ := Aside0.mk (Kd.R_lower (Kd.R_new' (Kd.R_new' (Kd.R_new' (Kd.R_new' ho1 (Kd.R_lt (by (with_reducible repeat (first | apply Kd.R_alloc | apply Kd.R_drewN | apply Kd.R_drew)); exact (Kd.R_mono (Kd.R_far (p := ⟨gb347, 8, none⟩) (Kd.R_far (p := ⟨gb347, 7, none⟩) (Kd.R_far (p := ⟨gb347, 6, none⟩) (Kd.R_far (p := ⟨gb347, 5, none⟩) (Kd.R_far (p := ⟨gb347, 4, none⟩) (Kd.R_far (p := ⟨gb347, 3, none⟩) (Kd.R_far (p := ⟨gb347, 2, none⟩) (Kd.R_far (p := ⟨gb347, 1, none⟩) (Kd.R_far (p := ⟨gb347, 0, none⟩) (Kd.R_types HO327.out BK347.out (by decide)) (fun _ hk => hk.2) (.int .i64 t333)) (fun _ hk => hk.2) (.int .i64 t334)) (fun _ hk => hk.2) (.int .u32 t335)) (fun _ hk => hk.2) (.int .u32 t336)) (fun _ hk => hk.2) (.int .i64 t337)) (fun _ hk => hk.2) (.int .i64 t338)) (fun _ hk => hk.2) (.int .i64 t339)) (fun _ hk => hk.2) (.slice Ao44 t340.length co44)) (fun _ hk => hk.2) (.slice Ao45 t343.length co45)) (fun _ h_ => h_.1))))) (Kd.R_lt (by (with_reducible repeat (first | apply Kd.R_alloc | apply Kd.R_drewN | apply Kd.R_drew)); exact (Kd.R_mono (Kd.R_far (p := ⟨gb347, 8, none⟩) (Kd.R_far (p := ⟨gb347, 7, none⟩) (Kd.R_far (p := ⟨gb347, 6, none⟩) (Kd.R_far (p := ⟨gb347, 5, none⟩) (Kd.R_far (p := ⟨gb347, 4, none⟩) (Kd.R_far (p := ⟨gb347, 3, none⟩) (Kd.R_far (p := ⟨gb347, 2, none⟩) (Kd.R_far (p := ⟨gb347, 1, none⟩) (Kd.R_far (p := ⟨gb347, 0, none⟩) (Kd.R_types HO331.out BK347.out (by decide)) (fun _ hk => hk.2) (.int .i64 t333)) (fun _ hk => hk.2) (.int .i64 t334)) (fun _ hk => hk.2) (.int .u32 t335)) (fun _ hk => hk.2) (.int .u32 t336)) (fun _ hk => hk.2) (.int .i64 t337)) (fun _ hk => hk.2) (.int .i64 t338)) (fun _ hk => hk.2) (.int .i64 t339)) (fun _ hk => hk.2) (.slice Ao44 t340.length co44)) (fun _ hk => hk.2) (.slice Ao45 t343.length co45)) (fun _ h_ => h_.1))))) (Kd.R_lt (by (with_reducible repeat (first | apply Kd.R_alloc | apply Kd.R_drewN | apply Kd.R_drew)); exact (Kd.R_mono (Kd.R_far (p := ⟨gb347, 8, none⟩) (Kd.R_far (p := ⟨gb347, 7, none⟩) (Kd.R_far (p := ⟨gb347, 6, none⟩) (Kd.R_far (p := ⟨gb347, 5, none⟩) (Kd.R_far (p := ⟨gb347, 4, none⟩) (Kd.R_far (p := ⟨gb347, 3, none⟩) (Kd.R_far (p := ⟨gb347, 2, none⟩) (Kd.R_far (p := ⟨gb347, 1, none⟩) (Kd.R_far (p := ⟨gb347, 0, none⟩) (Kd.R_types HO342.out BK347.out (by decide)) (fun _ hk => hk.2) (.int .i64 t333)) (fun _ hk => hk.2) (.int .i64 t334)) (fun _ hk => hk.2) (.int .u32 t335)) (fun _ hk => hk.2) (.int .u32 t336)) (fun _ hk => hk.2) (.int .i64 t337)) (fun _ hk => hk.2) (.int .i64 t338)) (fun _ hk => hk.2) (.int .i64 t339)) (fun _ hk => hk.2) (.slice Ao44 t340.length co44)) (fun _ hk => hk.2) (.slice Ao45 t343.length co45)) (fun _ h_ => h_.1))))) (Kd.R_lt (by (with_reducible repeat (first | apply Kd.R_alloc | apply Kd.R_drewN | apply Kd.R_drew)); exact (Kd.R_mono (Kd.R_far (p := ⟨gb347, 8, none⟩) (Kd.R_far (p := ⟨gb347, 7, none⟩) (Kd.R_far (p := ⟨gb347, 6, none⟩) (Kd.R_far (p := ⟨gb347, 5, none⟩) (Kd.R_far (p := ⟨gb347, 4, none⟩) (Kd.R_far (p := ⟨gb347, 3, none⟩) (Kd.R_far (p := ⟨gb347, 2, none⟩) (Kd.R_far (p := ⟨gb347, 1, none⟩) (Kd.R_far (p := ⟨gb347, 0, none⟩) (Kd.R_types HO345.out BK347.out (by decide)) (fun _ hk => hk.2) (.int .i64 t333)) (fun _ hk => hk.2) (.int .i64 t334)) (fun _ hk => hk.2) (.int .u32 t335)) (fun _ hk => hk.2) (.int .u32 t336)) (fun _ hk => hk.2) (.int .i64 t337)) (fun _ hk => hk.2) (.int .i64 t338)) (fun _ hk => hk.2) (.int .i64 t339)) (fun _ hk => hk.2) (.slice Ao44 t340.length co44)) (fun _ hk => hk.2) (.slice Ao45 t343.length co45)) (fun _ h_ => h_.1))))) (below_size (by repeat (first | (with_reducible first | exact HB.out | apply below_alloc | apply pw_below_drewN | apply below_drew1 | refine below_set ?_ GE321.out | refine below_set ?_ GE322.out | refine below_set ?_ GE347.out) | exact HB.out)))); have n6_ := Aside0.mk (blk_below (g := gb321) (o := .cells #[.int .i64 a2_0, .int .i64 a2_1, .int .u32 a2_2, .int .u32 a2_3, .int .i64 a2_4, .int .i64 a2_5, .int .i64 a2_6, .slice A2_7 l2_7.length c2_7, .slice A2_8 l2_8.length c2_8] 27 (0, 0)) (by (with_reducible repeat (first | refine blk_drewN ?_ _ | refine blk_drew ?_ | refine blk_alloc ?_ _)); refine blk_far ?_ NB321_347.out _; (with_reducible repeat (first | refine blk_drewN ?_ _ | refine blk_drew ?_ | refine blk_alloc ?_ _)); refine blk_far ?_ NB321_347.out _; (with_reducible repeat (first | refine blk_drewN ?_ _ | refine blk_drew ?_ | refine blk_alloc ?_ _)); refine blk_far ?_ NB321_347.out _; (with_reducible repeat (first | refine blk_drewN ?_ _ | refine blk_drew ?_ | refine blk_alloc ?_ _)); refine blk_far ?_ NB321_347.out _; (with_reducible repeat (first | refine blk_drewN ?_ _ | refine blk_drew ?_ | refine blk_alloc ?_ _)); refine blk_far ?_ NB321_347.out _; (with_reducible repeat (first | refine blk_drewN ?_ _ | refine blk_drew ?_ | refine blk_alloc ?_ _)); refine blk_far ?_ NB321_347.out _; (with_reducible repeat (first | refine blk_drewN ?_ _ | refine blk_drew ?_ | refine blk_alloc ?_ _)); refine blk_far ?_ NB321_347.out _; (with_reducible repeat (first | refine blk_drewN ?_ _ | refine blk_drew ?_ | refine blk_alloc ?_ _)); refine blk_far ?_ NB321_347.out _; (with_reducible repeat (first | refine blk_drewN ?_ _ | refine blk_drew ?_ | refine blk_alloc ?_ _)); refine blk_far ?_ NB321_347.out _; (with_reducible repeat (first | refine blk_drewN ?_ _ | refine blk_drew ?_ | refine blk_alloc ?_ _)); exact BK321.out) hb); have n7_ := Aside0.mk (blk_below (g := gb322) (o := .cells #[.int .i64 a3_0, .int .i64 a3_1, .int .u32 a3_2, .int .u32 a3_3, .int .i64 a3_4, .int .i64 a3_5, .int .i64 a3_6, .slice A3_7 l3_7.length c3_7, .slice A3_8 l3_8.length c3_8] 27 (0, 0)) (by (with_reducible repeat (first | refine blk_drewN ?_ _ | refine blk_drew ?_ | refine blk_alloc ?_ _)); refine blk_far ?_ NB322_347.out _; (with_reducible repeat (first | refine blk_drewN ?_ _ | refine blk_drew ?_ | refine blk_alloc ?_ _)); refine blk_far ?_ NB322_347.out _; (with_reducible repeat (first | refine blk_drewN ?_ _ | refine blk_drew ?_ | refine blk_alloc ?_ _)); refine blk_far ?_ NB322_347.out _; (with_reducible repeat (first | refine blk_drewN ?_ _ | refine blk_drew ?_ | refine blk_alloc ?_ _)); refine blk_far ?_ NB322_347.out _; (with_reducible repeat (first | refine blk_drewN ?_ _ | refine blk_drew ?_ | refine blk_alloc ?_ _)); refine blk_far ?_ NB322_347.out _; (with_reducible repeat (first | refine blk_drewN ?_ _ | refine blk_drew ?_ | refine blk_alloc ?_ _)); refine blk_far ?_ NB322_347.out _; (with_reducible repeat (first | refine blk_drewN ?_ _ | refine blk_drew ?_ | refine blk_alloc ?_ _)); refine blk_far ?_ NB322_347.out _; (with_reducible repeat (first | refine blk_drewN ?_ _ | refine blk_drew ?_ | refine blk_alloc ?_ _)); refine blk_far ?_ NB322_347.out _; (with_reducible repeat (first | refine blk_drewN ?_ _ | refine blk_drew ?_ | refine blk_alloc ?_ _)); refine blk_far ?_ NB322_347.out _; (with_reducible repeat (first | refine blk_drewN ?_ _ | refine blk_drew ?_ | refine blk_alloc ?_ _)); exact BK322.out) hb); have n8_ := Aside0.mk (blk_below (g := gb347) (o := .cells #[.int .i64 t333, .int .i64 t334, .int .u32 t335, .int .u32 t336, .int .i64 t337, .int .i64 t338, .int .i64 t339, .slice Ao44 t340.length co44, .slice Ao45 t343.length co45] 27 (0, 0)) (by (with_reducible repeat (first | refine blk_drewN ?_ _ | refine blk_drew ?_ | refine blk_alloc ?_ _)); refine blk_put (cs := #[.int .i64 t333, .int .i64 t334, .int .u32 t335, .int .u32 t336, .int .i64 t337, .int .i64 t338, .int .i64 t339, .slice Ao44 t340.length co44, .slice none 0 0]) ?_ 8 _ rfl; (with_reducible repeat (first | refine blk_drewN ?_ _ | refine blk_drew ?_ | refine blk_alloc ?_ _)); refine blk_put (cs := #[.int .i64 t333, .int .i64 t334, .int .u32 t335, .int .u32 t336, .int .i64 t337, .int .i64 t338, .int .i64 t339, .slice none 0 0, .slice none 0 0]) ?_ 7 _ rfl; (with_reducible repeat (first | refine blk_drewN ?_ _ | refine blk_drew ?_ | refine blk_alloc ?_ _)); refine blk_put (cs := #[.int .i64 t333, .int .i64 t334, .int .u32 t335, .int .u32 t336, .int .i64 t337, .int .i64 t338, .int .i64 0, .slice none 0 0, .slice none 0 0]) ?_ 6 _ rfl; (with_reducible repeat (first | refine blk_drewN ?_ _ | refine blk_drew ?_ | refine blk_alloc ?_ _)); refine blk_put (cs := #[.int .i64 t333, .int .i64 t334, .int .u32 t335, .int .u32 t336, .int .i64 t337, .int .i64 0, .int .i64 0, .slice none 0 0, .slice none 0 0]) ?_ 5 _ rfl; (with_reducible repeat (first | refine blk_drewN ?_ _ | refine blk_drew ?_ | refine blk_alloc ?_ _)); refine blk_put (cs := #[.int .i64 t333, .int .i64 t334, .int .u32 t335, .int .u32 t336, .int .i64 0, .int .i64 0, .int .i64 0, .slice none 0 0, .slice none 0 0]) ?_ 4 _ rfl; (with_reducible repeat (first | refine blk_drewN ?_ _ | refine blk_drew ?_ | refine blk_alloc ?_ _)); refine blk_put (cs := #[.int .i64 t333, .int .i64 t334, .int .u32 t335, .int .u32 0, .int .i64 0, .int .i64 0, .int .i64 0, .slice none 0 0, .slice none 0 0]) ?_ 3 _ rfl; (with_reducible repeat (first | refine blk_drewN ?_ _ | refine blk_drew ?_ | refine blk_alloc ?_ _)); refine blk_put (cs := #[.int .i64 t333, .int .i64 t334, .int .u32 0, .int .u32 0, .int .i64 0, .int .i64 0, .int .i64 0, .slice none 0 0, .slice none 0 0]) ?_ 2 _ rfl; (with_reducible repeat (first | refine blk_drewN ?_ _ | refine blk_drew ?_ | refine blk_alloc ?_ _)); refine blk_put (cs := #[.int .i64 t333, .int .i64 0, .int .u32 0, .int .u32 0, .int .i64 0, .int .i64 0, .int .i64 0, .slice none 0 0, .slice none 0 0]) ?_ 1 _ rfl; (with_reducible repeat (first | refine blk_drewN ?_ _ | refine blk_drew ?_ | refine blk_alloc ?_ _)); refine blk_put (cs := #[.int .i64 0, .int .i64 0, .int .u32 0, .int .u32 0, .int .i64 0, .int .i64 0, .int .i64 0, .slice none 0 0, .slice none 0 0]) ?_ 0 _ rfl; (with_reducible repeat (first | refine blk_drewN ?_ _ | refine blk_drew ?_ | refine blk_alloc ?_ _)); exact BK347.out) hb); have n9_ := Aside0.mk (below_step (by repeat (first | (with_reducible first | exact HB.out | apply below_alloc | apply pw_below_drewN | apply below_drew1 | refine below_set ?_ GE321.out | refine below_set ?_ GE322.out | refine below_set ?_ GE347.out) | exact HB.out)) hb); clear HO327; clear HO331; clear HO342; clear HO345; clear BK321; clear BK322; clear BK347; clear HB; have HO327 := n0_; have HO331 := n1_; have HO342 := n2_; have HO345 := n3_; have HO357 := n4_; have HO360 := n5_; have BK321 := n6_; have BK322 := n7_; have BK347 := n8_; have HB := n9_; clear n0_ n1_ n2_ n3_ n4_ n5_ n6_ n7_ n8_ n9_; (try clear hb); (try clear hb2); (try clear hk); (try clear hi); (try clear ho0); (try clear ho1)) | ((with_reducible refine gate_dst (N := 15) rfl ?_); refine box_event ?hg (N := 15) ?hd (cs := #[.int .i64 0, .int .i64 0, .int .u32 0, .int .u32 0, .int .i64 0, .int .i64 0, .int .i64 0, .slice none 0 0, .slice none 0 0]) (t := 27) ?hr ?_; (case hd => rfl); (case hg => rfl); (case hr => first | (go_simp; done) | (go_simp; rfl)); intro gb362 hg w48 hbox hb; have n0_ := Aside0.mk (Kd.R_below (by (with_reducible repeat (first | apply Kd.R_alloc | apply Kd.R_drewN | apply Kd.R_drew)); exact HO327.out) hb); have n1_ := Aside0.mk (Kd.R_below (by (with_reducible repeat (first | apply Kd.R_alloc | apply Kd.R_drewN | apply Kd.R_drew)); exact HO331.out) hb); have n2_ := Aside0.mk (Kd.R_below (by (with_reducible repeat (first | apply Kd.R_alloc | apply Kd.R_drewN | apply Kd.R_drew)); exact HO342.out) hb); have n3_ := Aside0.mk (Kd.R_below (by (with_reducible repeat (first | apply Kd.R_alloc | apply Kd.R_drewN | apply Kd.R_drew)); exact HO345.out) hb); have n4_ := Aside0.mk (Kd.R_below (by (with_reducible repeat (first | apply Kd.R_alloc | apply Kd.R_drewN | apply Kd.R_drew)); exact HO357.out) hb); have n5_ := Aside0.mk (Kd.R_below (by (with_reducible repeat (first | apply Kd.R_alloc | apply Kd.R_drewN | apply Kd.R_drew)); exact HO360.out) hb); have n6_ := Aside0.mk (blk_below (g := gb321) (o := .cells #[.int .i64 a2_0, .int .i64 a2_1, .int .u32 a2_2, .int .u32 a2_3, .int .i64 a2_4, .int .i64 a2_5, .int .i64 a2_6, .slice A2_7 l2_7.length c2_7, .slice A2_8 l2_8.length c2_8] 27 (0, 0)) (by (with_reducible repeat (first | refine blk_drewN ?_ _ | refine blk_drew ?_ | refine blk_alloc ?_ _)); exact BK321.out) hb); have n7_ := Aside0.mk (blk_below (g := gb322) (o := .cells #[.int .i64 a3_0, .int .i64 a3_1, .int .u32 a3_2, .int .u32 a3_3, .int .i64 a3_4, .int .i64 a3_5, .int .i64 a3_6, .slice A3_7 l3_7.length c3_7, .slice A3_8 l3_8.length c3_8] 27 (0, 0)) (by (with_reducible repeat (first | refine blk_drewN ?_ _ | refine blk_drew ?_ | refine blk_alloc ?_ _)); exact BK322.out) hb); have n8_ := Aside0.mk (blk_below (g := gb347) (o := .cells #[.int .i64 t333, .int .i64 t334, .int .u32 t335, .int .u32 t336, .int .i64 t337, .int .i64 t338, .int .i64 t339, .slice Ao44 t340.length co44, .slice Ao45 t343.length co45] 27 (0, 0)) (by (with_reducible repeat (first | refine blk_drewN ?_ _ | refine blk_drew ?_ | refine blk_alloc ?_ _)); exact BK347.out) hb); have n9_ := Aside0.mk (below_step (by repeat (first | (with_reducible first | exact HB.out | apply below_alloc | apply pw_below_drewN | apply below_drew1 | refine below_set ?_ GE321.out | refine below_set ?_ GE322.out | refine below_set ?_ GE347.out) | exact HB.out)) hb); have n10_ := Aside0.mk (hbox); have n11_ := Aside0.mk ((by rw [hg]; exact (below_size (by repeat (first | (with_reducible first | exact HB.out | apply below_alloc | apply pw_below_drewN | apply below_drew1 | refine below_set ?_ GE321.out | refine below_set ?_ GE322.out | refine below_set ?_ GE347.out) | exact HB.out))) : w.heap.size ≤ gb362)); have n12_ := Aside0.mk ((by rw [hg]; exact (below_size (by repeat (first | (with_reducible first | exact HB.out | apply below_alloc | apply pw_below_drewN | apply below_drew1 | refine below_set ?_ GE321.out | refine below_set ?_ GE322.out | refine below_set ?_ GE347.out) | exact HB.out))) : w.heap.size ≤ gb362)); have n13_ := Aside0.mk ((by rw [hg]; exact Nat.ne_of_lt (blk_lt (g := gb321) (o := .cells #[.int .i64 a2_0, .int .i64 a2_1, .int .u32 a2_2, .int .u32 a2_3, .int .i64 a2_4, .int .i64 a2_5, .int .i64 a2_6, .slice A2_7 l2_7.length c2_7, .slice A2_8 l2_8.length c2_8] 27 (0, 0)) (by (with_reducible repeat (first | refine blk_drewN ?_ _ | refine blk_drew ?_ | refine blk_alloc ?_ _)); exact BK321.out)) : gb321 ≠ gb362)); have n14_ := Aside0.mk ((by rw [hg]; exact Nat.ne_of_gt (blk_lt (g := gb321) (o := .cells #[.int .i64 a2_0, .int .i64 a2_1, .int .u32 a2_2, .int .u32 a2_3, .int .i64 a2_4, .int .i64 a2_5, .int .i64 a2_6, .slice A2_7 l2_7.length c2_7, .slice A2_8 l2_8.length c2_8] 27 (0, 0)) (by (with_reducible repeat (first | refine blk_drewN ?_ _ | refine blk_drew ?_ | refine blk_alloc ?_ _)); exact BK321.out)) : gb362 ≠ gb321)); have n15_ := Aside0.mk ((by rw [hg]; exact Nat.ne_of_lt (blk_lt (g := gb322) (o := .cells #[.int .i64 a3_0, .int .i64 a3_1, .int .u32 a3_2, .int .u32 a3_3, .int .i64 a3_4, .int .i64 a3_5, .int .i64 a3_6, .slice A3_7 l3_7.length c3_7, .slice A3_8 l3_8.length c3_8] 27 (0, 0)) (by (with_reducible repeat (first | refine blk_drewN ?_ _ | refine blk_drew ?_ | refine blk_alloc ?_ _)); exact BK322.out)) : gb322 ≠ gb362)); have n16_ := Aside0.mk ((by rw [hg]; exact Nat.ne_of_gt (blk_lt (g := gb322) (o := .cells #[.int .i64 a3_0, .int .i64 a3_1, .int .u32 a3_2, .int .u32 a3_3, .int .i64 a3_4, .int .i64 a3_5, .int .i64 a3_6, .slice A3_7 l3_7.length c3_7, .slice A3_8 l3_8.length c3_8] 27 (0, 0)) (by (with_reducible repeat (first | refine blk_drewN ?_ _ | refine blk_drew ?_ | refine blk_alloc ?_ _)); exact BK322.out)) : gb362 ≠ gb322)); have n17_ := Aside0.mk ((by rw [hg]; exact Nat.ne_of_lt (blk_lt (g := gb347) (o := .cells #[.int .i64 t333, .int .i64 t334, .int .u32 t335, .int .u32 t336, .int .i64 t337, .int .i64 t338, .int .i64 t339, .slice Ao44 t340.length co44, .slice Ao45 t343.length co45] 27 (0, 0)) (by (with_reducible repeat (first | refine blk_drewN ?_ _ | refine blk_drew ?_ | refine blk_alloc ?_ _)); exact BK347.out)) : gb347 ≠ gb362)); have n18_ := Aside0.mk ((by rw [hg]; exact Nat.ne_of_gt (blk_lt (g := gb347) (o := .cells #[.int .i64 t333, .int .i64 t334, .int .u32 t335, .int .u32 t336, .int .i64 t337, .int .i64 t338, .int .i64 t339, .slice Ao44 t340.length co44, .slice Ao45 t343.length co45] 27 (0, 0)) (by (with_reducible repeat (first | refine blk_drewN ?_ _ | refine blk_drew ?_ | refine blk_alloc ?_ _)); exact BK347.out)) : gb362 ≠ gb347)); clear HO327; clear HO331; clear HO342; clear HO345; clear HO357; clear HO360; clear BK321; clear BK322; clear BK347; clear HB; have HO327 := n0_; have HO331 := n1_; have HO342 := n2_; have HO345 := n3_; have HO357 := n4_; have HO360 := n5_; have BK321 := n6_; have BK322 := n7_; have BK347 := n8_; have HB := n9_; have BK362 := n10_; have GW362 := n11_; have GE362 := n12_; have NB321_362 := n13_; have NB362_321 := n14_; have NB322_362 := n15_; have NB362_322 := n16_; have NB347_362 := n17_; have NB362_347 := n18_; clear n0_ n1_ n2_ n3_ n4_ n5_ n6_ n7_ n8_ n9_ n10_ n11_ n12_ n13_ n14_ n15_ n16_ n17_ n18_; clear hb hbox hg; have hnb49 := NB362_321.out; have hnc49 := NB321_362.out; have hnb50 := NB362_322.out; have hnc50 := NB322_362.out; have hnb51 := NB362_347.out; have hnc51 := NB347_362.out; have hcz52_0 : w48.cell? ⟨gb362, 0, none⟩ = some (.int .i64 0) := (blk_cell BK362.out 0).trans rfl; have hcz52_1 : w48.cell? ⟨gb362, 1, none⟩ = some (.int .i64 0) := (blk_cell BK362.out 1).trans rfl; have hcz52_2 : w48.cell? ⟨gb362, 2, none⟩ = some (.int .u32 0) := (blk_cell BK362.out 2).trans rfl; have hcz52_3 : w48.cell? ⟨gb362, 3, none⟩ = some (.int .u32 0) := (blk_cell BK362.out 3).trans rfl; have hcz52_4 : w48.cell? ⟨gb362, 4, none⟩ = some (.int .i64 0) := (blk_cell BK362.out 4).trans rfl; have hcz52_5 : w48.cell? ⟨gb362, 5, none⟩ = some (.int .i64 0) := (blk_cell BK362.out 5).trans rfl; have hcz52_6 : w48.cell? ⟨gb362, 6, none⟩ = some (.int .i64 0) := (blk_cell BK362.out 6).trans rfl; have hcz52_7 : w48.cell? ⟨gb362, 7, none⟩ = some (.slice none 0 0) := (blk_cell BK362.out 7).trans rfl; have hcz52_8 : w48.cell? ⟨gb362, 8, none⟩ = some (.slice none 0 0) := (blk_cell BK362.out 8).trans rfl; have hfz52_0 := blk_frozen BK362.out 0; have hfz52_1 := blk_frozen BK362.out 1; have hfz52_2 := blk_frozen BK362.out 2; have hfz52_3 := blk_frozen BK362.out 3; have hfz52_4 := blk_frozen BK362.out 4; have hfz52_5 := blk_frozen BK362.out 5; have hfz52_6 := blk_frozen BK362.out 6; have hfz52_7 := blk_frozen BK362.out 7; have hfz52_8 := blk_frozen BK362.out 8; obtain ⟨Ao53, co53, eo53⟩ := Kd.R_slice HO357.out; subst eo53; obtain ⟨Ao54, co54, eo54⟩ := Kd.R_slice HO360.out; subst eo54; obtain ⟨Ao55, co55, eo55⟩ := Kd.R_slice HO327.out; subst eo55; obtain ⟨Ao56, co56, eo56⟩ := Kd.R_slice HO331.out; subst eo56))
                  have n0_ : Aside0 (Kd.R (Kd.int .u8) 5 (((((((((w48.setCell ⟨gb362, 0, none⟩ (.int .i64 t348)).setCell ⟨gb362, 1, none⟩ (.int .i64 t349)).setCell ⟨gb362, 2, none⟩ (.int .u32 t350)).setCell ⟨gb362, 3, none⟩ (.int .u32 t351)).setCell ⟨gb362, 4, none⟩ (.int .i64 t352)).setCell ⟨gb362, 5, none⟩ (.int .i64 t353)).setCell ⟨gb362, 6, none⟩ (.int .i64 t354)).setCell ⟨gb362, 7, none⟩ (.slice Ao53 t355.length co53)).setCell ⟨gb362, 8, none⟩ (.slice Ao54 t358.length co54)) w.heap.size (fun k_ => some k_ ≠ (.slice Ao56 t329.length co56 : Value).ownBlock ∧ some k_ ≠ (.slice Ao44 t340.length co44 : Value).ownBlock ∧ some k_ ≠ (.slice Ao45 t343.length co45 : Value).ownBlock ∧ some k_ ≠ (.slice Ao53 t355.length co53 : Value).ownBlock ∧ some k_ ≠ (.slice Ao54 t358.length co54 : Value).ownBlock) (.slice Ao55 t325.length co55) t325) := ⟨by (with_reducible repeat (first | apply Kd.R_alloc | apply Kd.R_drewN | apply Kd.R_drew)); exact Kd.R_mono (Kd.R_far (p := ⟨gb362, 8, none⟩) (Kd.R_far (p := ⟨gb362, 7, none⟩) (Kd.R_far (p := ⟨gb362, 6, none⟩) (Kd.R_far (p := ⟨gb362, 5, none⟩) (Kd.R_far (p := ⟨gb362, 4, none⟩) (Kd.R_far (p := ⟨gb362, 3, none⟩) (Kd.R_far (p := ⟨gb362, 2, none⟩) (Kd.R_far (p := ⟨gb362, 1, none⟩) (Kd.R_far (p := ⟨gb362, 0, none⟩) (Kd.R_types HO327.out BK362.out (by decide)) (fun _ hk => hk.2) (.int .i64 t348)) (fun _ hk => hk.2) (.int .i64 t349)) (fun _ hk => hk.2) (.int .u32 t350)) (fun _ hk => hk.2) (.int .u32 t351)) (fun _ hk => hk.2) (.int .i64 t352)) (fun _ hk => hk.2) (.int .i64 t353)) (fun _ hk => hk.2) (.int .i64 t354)) (fun _ hk => hk.2) (.slice Ao53 t355.length co53)) (fun _ hk => hk.2) (.slice Ao54 t358.length co54)) (fun _ hk => ⟨hk.1.1.1.1.1.2, ⟨hk.1.1.1.1.2, ⟨hk.1.1.1.2, ⟨hk.1.1.2, hk.1.2⟩⟩⟩⟩)⟩
                  have n1_ : Aside0 (Kd.R (Kd.int .u8) 5 (((((((((w48.setCell ⟨gb362, 0, none⟩ (.int .i64 t348)).setCell ⟨gb362, 1, none⟩ (.int .i64 t349)).setCell ⟨gb362, 2, none⟩ (.int .u32 t350)).setCell ⟨gb362, 3, none⟩ (.int .u32 t351)).setCell ⟨gb362, 4, none⟩ (.int .i64 t352)).setCell ⟨gb362, 5, none⟩ (.int .i64 t353)).setCell ⟨gb362, 6, none⟩ (.int .i64 t354)).setCell ⟨gb362, 7, none⟩ (.slice Ao53 t355.length co53)).setCell ⟨gb362, 8, none⟩ (.slice Ao54 t358.length co54)) w.heap.size (fun k_ => some k_ ≠ (.slice Ao55 t325.length co55 : Value).ownBlock ∧ some k_ ≠ (.slice Ao44 t340.length co44 : Value).ownBlock ∧ some k_ ≠ (.slice Ao45 t343.length co45 : Value).ownBlock ∧ some k_ ≠ (.slice Ao53 t355.length co53 : Value).ownBlock ∧ some k_ ≠ (.slice Ao54 t358.length co54 : Value).ownBlock) (.slice Ao56 t329.length co56) t329) := ⟨by (with_reducible repeat (first | apply Kd.R_alloc | apply Kd.R_drewN | apply Kd.R_drew)); exact Kd.R_mono (Kd.R_far (p := ⟨gb362, 8, none⟩) (Kd.R_far (p := ⟨gb362, 7, none⟩) (Kd.R_far (p := ⟨gb362, 6, none⟩) (Kd.R_far (p := ⟨gb362, 5, none⟩) (Kd.R_far (p := ⟨gb362, 4, none⟩) (Kd.R_far (p := ⟨gb362, 3, none⟩) (Kd.R_far (p := ⟨gb362, 2, none⟩) (Kd.R_far (p := ⟨gb362, 1, none⟩) (Kd.R_far (p := ⟨gb362, 0, none⟩) (Kd.R_types HO331.out BK362.out (by decide)) (fun _ hk => hk.2) (.int .i64 t348)) (fun _ hk => hk.2) (.int .i64 t349)) (fun _ hk => hk.2) (.int .u32 t350)) (fun _ hk => hk.2) (.int .u32 t351)) (fun _ hk => hk.2) (.int .i64 t352)) (fun _ hk => hk.2) (.int .i64 t353)) (fun _ hk => hk.2) (.int .i64 t354)) (fun _ hk => hk.2) (.slice Ao53 t355.length co53)) (fun _ hk => hk.2) (.slice Ao54 t358.length co54)) (fun _ hk => ⟨hk.1.1.1.1.1.2, ⟨hk.1.1.1.1.2, ⟨hk.1.1.1.2, ⟨hk.1.1.2, hk.1.2⟩⟩⟩⟩)⟩
                  have n2_ : Aside0 (Kd.R (Kd.int .u8) 5 (((((((((w48.setCell ⟨gb362, 0, none⟩ (.int .i64 t348)).setCell ⟨gb362, 1, none⟩ (.int .i64 t349)).setCell ⟨gb362, 2, none⟩ (.int .u32 t350)).setCell ⟨gb362, 3, none⟩ (.int .u32 t351)).setCell ⟨gb362, 4, none⟩ (.int .i64 t352)).setCell ⟨gb362, 5, none⟩ (.int .i64 t353)).setCell ⟨gb362, 6, none⟩ (.int .i64 t354)).setCell ⟨gb362, 7, none⟩ (.slice Ao53 t355.length co53)).setCell ⟨gb362, 8, none⟩ (.slice Ao54 t358.length co54)) w.heap.size (fun k_ => some k_ ≠ (.slice Ao55 t325.length co55 : Value).ownBlock ∧ some k_ ≠ (.slice Ao56 t329.length co56 : Value).ownBlock ∧ some k_ ≠ (.slice Ao45 t343.length co45 : Value).ownBlock ∧ some k_ ≠ (.slice Ao53 t355.length co53 : Value).ownBlock ∧ some k_ ≠ (.slice Ao54 t358.length co54 : Value).ownBlock) (.slice Ao44 t340.length co44) t340) := ⟨by (with_reducible repeat (first | apply Kd.R_alloc | apply Kd.R_drewN | apply Kd.R_drew)); exact Kd.R_mono (Kd.R_far (p := ⟨gb362, 8, none⟩) (Kd.R_far (p := ⟨gb362, 7, none⟩) (Kd.R_far (p := ⟨gb362, 6, none⟩) (Kd.R_far (p := ⟨gb362, 5, none⟩) (Kd.R_far (p := ⟨gb362, 4, none⟩) (Kd.R_far (p := ⟨gb362, 3, none⟩) (Kd.R_far (p := ⟨gb362, 2, none⟩) (Kd.R_far (p := ⟨gb362, 1, none⟩) (Kd.R_far (p := ⟨gb362, 0, none⟩) (Kd.R_types HO342.out BK362.out (by decide)) (fun _ hk => hk.2) (.int .i64 t348)) (fun _ hk => hk.2) (.int .i64 t349)) (fun _ hk => hk.2) (.int .u32 t350)) (fun _ hk => hk.2) (.int .u32 t351)) (fun _ hk => hk.2) (.int .i64 t352)) (fun _ hk => hk.2) (.int .i64 t353)) (fun _ hk => hk.2) (.int .i64 t354)) (fun _ hk => hk.2) (.slice Ao53 t355.length co53)) (fun _ hk => hk.2) (.slice Ao54 t358.length co54)) (fun _ hk => ⟨hk.1.1.1.1.2, ⟨hk.1.1.1.2, ⟨hk.1.1.1.1.1, ⟨hk.1.1.2, hk.1.2⟩⟩⟩⟩)⟩
                  have n3_ : Aside0 (Kd.R (Kd.int .u8) 5 (((((((((w48.setCell ⟨gb362, 0, none⟩ (.int .i64 t348)).setCell ⟨gb362, 1, none⟩ (.int .i64 t349)).setCell ⟨gb362, 2, none⟩ (.int .u32 t350)).setCell ⟨gb362, 3, none⟩ (.int .u32 t351)).setCell ⟨gb362, 4, none⟩ (.int .i64 t352)).setCell ⟨gb362, 5, none⟩ (.int .i64 t353)).setCell ⟨gb362, 6, none⟩ (.int .i64 t354)).setCell ⟨gb362, 7, none⟩ (.slice Ao53 t355.length co53)).setCell ⟨gb362, 8, none⟩ (.slice Ao54 t358.length co54)) w.heap.size (fun k_ => some k_ ≠ (.slice Ao55 t325.length co55 : Value).ownBlock ∧ some k_ ≠ (.slice Ao56 t329.length co56 : Value).ownBlock ∧ some k_ ≠ (.slice Ao44 t340.length co44 : Value).ownBlock ∧ some k_ ≠ (.slice Ao53 t355.length co53 : Value).ownBlock ∧ some k_ ≠ (.slice Ao54 t358.length co54 : Value).ownBlock) (.slice Ao45 t343.length co45) t343) := ⟨by (with_reducible repeat (first | apply Kd.R_alloc | apply Kd.R_drewN | apply Kd.R_drew)); exact Kd.R_mono (Kd.R_far (p := ⟨gb362, 8, none⟩) (Kd.R_far (p := ⟨gb362, 7, none⟩) (Kd.R_far (p := ⟨gb362, 6, none⟩) (Kd.R_far (p := ⟨gb362, 5, none⟩) (Kd.R_far (p := ⟨gb362, 4, none⟩) (Kd.R_far (p := ⟨gb362, 3, none⟩) (Kd.R_far (p := ⟨gb362, 2, none⟩) (Kd.R_far (p := ⟨gb362, 1, none⟩) (Kd.R_far (p := ⟨gb362, 0, none⟩) (Kd.R_types HO345.out BK362.out (by decide)) (fun _ hk => hk.2) (.int .i64 t348)) (fun _ hk => hk.2) (.int .i64 t349)) (fun _ hk => hk.2) (.int .u32 t350)) (fun _ hk => hk.2) (.int .u32 t351)) (fun _ hk => hk.2) (.int .i64 t352)) (fun _ hk => hk.2) (.int .i64 t353)) (fun _ hk => hk.2) (.int .i64 t354)) (fun _ hk => hk.2) (.slice Ao53 t355.length co53)) (fun _ hk => hk.2) (.slice Ao54 t358.length co54)) (fun _ hk => ⟨hk.1.1.1.1.2, ⟨hk.1.1.1.2, ⟨hk.1.1.1.1.1, ⟨hk.1.1.2, hk.1.2⟩⟩⟩⟩)⟩
                  have n4_ : Aside0 (Kd.R (Kd.int .u8) 5 (((((((((w48.setCell ⟨gb362, 0, none⟩ (.int .i64 t348)).setCell ⟨gb362, 1, none⟩ (.int .i64 t349)).setCell ⟨gb362, 2, none⟩ (.int .u32 t350)).setCell ⟨gb362, 3, none⟩ (.int .u32 t351)).setCell ⟨gb362, 4, none⟩ (.int .i64 t352)).setCell ⟨gb362, 5, none⟩ (.int .i64 t353)).setCell ⟨gb362, 6, none⟩ (.int .i64 t354)).setCell ⟨gb362, 7, none⟩ (.slice Ao53 t355.length co53)).setCell ⟨gb362, 8, none⟩ (.slice Ao54 t358.length co54)) w.heap.size (fun k_ => some k_ ≠ (.slice Ao55 t325.length co55 : Value).ownBlock ∧ some k_ ≠ (.slice Ao56 t329.length co56 : Value).ownBlock ∧ some k_ ≠ (.slice Ao44 t340.length co44 : Value).ownBlock ∧ some k_ ≠ (.slice Ao45 t343.length co45 : Value).ownBlock ∧ some k_ ≠ (.slice Ao54 t358.length co54 : Value).ownBlock) (.slice Ao53 t355.length co53) t355) := ⟨by (with_reducible repeat (first | apply Kd.R_alloc | apply Kd.R_drewN | apply Kd.R_drew)); exact Kd.R_mono (Kd.R_far (p := ⟨gb362, 8, none⟩) (Kd.R_far (p := ⟨gb362, 7, none⟩) (Kd.R_far (p := ⟨gb362, 6, none⟩) (Kd.R_far (p := ⟨gb362, 5, none⟩) (Kd.R_far (p := ⟨gb362, 4, none⟩) (Kd.R_far (p := ⟨gb362, 3, none⟩) (Kd.R_far (p := ⟨gb362, 2, none⟩) (Kd.R_far (p := ⟨gb362, 1, none⟩) (Kd.R_far (p := ⟨gb362, 0, none⟩) (Kd.R_types HO357.out BK362.out (by decide)) (fun _ hk => hk.2) (.int .i64 t348)) (fun _ hk => hk.2) (.int .i64 t349)) (fun _ hk => hk.2) (.int .u32 t350)) (fun _ hk => hk.2) (.int .u32 t351)) (fun _ hk => hk.2) (.int .i64 t352)) (fun _ hk => hk.2) (.int .i64 t353)) (fun _ hk => hk.2) (.int .i64 t354)) (fun _ hk => hk.2) (.slice Ao53 t355.length co53)) (fun _ hk => hk.2) (.slice Ao54 t358.length co54)) (fun _ hk => ⟨hk.1.1.1.1.2, ⟨hk.1.1.1.2, ⟨hk.1.1.2, ⟨hk.1.2, hk.1.1.1.1.1⟩⟩⟩⟩)⟩
                  have n5_ : Aside0 (Kd.R (Kd.int .u8) 5 (((((((((w48.setCell ⟨gb362, 0, none⟩ (.int .i64 t348)).setCell ⟨gb362, 1, none⟩ (.int .i64 t349)).setCell ⟨gb362, 2, none⟩ (.int .u32 t350)).setCell ⟨gb362, 3, none⟩ (.int .u32 t351)).setCell ⟨gb362, 4, none⟩ (.int .i64 t352)).setCell ⟨gb362, 5, none⟩ (.int .i64 t353)).setCell ⟨gb362, 6, none⟩ (.int .i64 t354)).setCell ⟨gb362, 7, none⟩ (.slice Ao53 t355.length co53)).setCell ⟨gb362, 8, none⟩ (.slice Ao54 t358.length co54)) w.heap.size (fun k_ => some k_ ≠ (.slice Ao55 t325.length co55 : Value).ownBlock ∧ some k_ ≠ (.slice Ao56 t329.length co56 : Value).ownBlock ∧ some k_ ≠ (.slice Ao44 t340.length co44 : Value).ownBlock ∧ some k_ ≠ (.slice Ao45 t343.length co45 : Value).ownBlock ∧ some k_ ≠ (.slice Ao53 t355.length co53 : Value).ownBlock) (.slice Ao54 t358.length co54) t358) := ⟨by (with_reducible repeat (first | apply Kd.R_alloc | apply Kd.R_drewN | apply Kd.R_drew)); exact Kd.R_mono (Kd.R_far (p := ⟨gb362, 8, none⟩) (Kd.R_far (p := ⟨gb362, 7, none⟩) (Kd.R_far (p := ⟨gb362, 6, none⟩) (Kd.R_far (p := ⟨gb362, 5, none⟩) (Kd.R_far (p := ⟨gb362, 4, none⟩) (Kd.R_far (p := ⟨gb362, 3, none⟩) (Kd.R_far (p := ⟨gb362, 2, none⟩) (Kd.R_far (p := ⟨gb362, 1, none⟩) (Kd.R_far (p := ⟨gb362, 0, none⟩) (Kd.R_types HO360.out BK362.out (by decide)) (fun _ hk => hk.2) (.int .i64 t348)) (fun _ hk => hk.2) (.int .i64 t349)) (fun _ hk => hk.2) (.int .u32 t350)) (fun _ hk => hk.2) (.int .u32 t351)) (fun _ hk => hk.2) (.int .i64 t352)) (fun _ hk => hk.2) (.int .i64 t353)) (fun _ hk => hk.2) (.int .i64 t354)) (fun _ hk => hk.2) (.slice Ao53 t355.length co53)) (fun _ hk => hk.2) (.slice Ao54 t358.length co54)) (fun _ hk => ⟨hk.1.1.1.1.2, ⟨hk.1.1.1.2, ⟨hk.1.1.2, ⟨hk.1.2, hk.1.1.1.1.1⟩⟩⟩⟩)⟩
                  have n6_ : Aside0 ((((((((((w48.setCell ⟨gb362, 0, none⟩ (.int .i64 t348)).setCell ⟨gb362, 1, none⟩ (.int .i64 t349)).setCell ⟨gb362, 2, none⟩ (.int .u32 t350)).setCell ⟨gb362, 3, none⟩ (.int .u32 t351)).setCell ⟨gb362, 4, none⟩ (.int .i64 t352)).setCell ⟨gb362, 5, none⟩ (.int .i64 t353)).setCell ⟨gb362, 6, none⟩ (.int .i64 t354)).setCell ⟨gb362, 7, none⟩ (.slice Ao53 t355.length co53)).setCell ⟨gb362, 8, none⟩ (.slice Ao54 t358.length co54)).heap[gb321]? = some (.cells #[.int .i64 a2_0, .int .i64 a2_1, .int .u32 a2_2, .int .u32 a2_3, .int .i64 a2_4, .int .i64 a2_5, .int .i64 a2_6, .slice A2_7 l2_7.length c2_7, .slice A2_8 l2_8.length c2_8] 27 (0, 0))) := ⟨by (with_reducible repeat (first | refine blk_drewN ?_ _ | refine blk_drew ?_ | refine blk_alloc ?_ _)); refine blk_far ?_ NB321_362.out _; (with_reducible repeat (first | refine blk_drewN ?_ _ | refine blk_drew ?_ | refine blk_alloc ?_ _)); refine blk_far ?_ NB321_362.out _; (with_reducible repeat (first | refine blk_drewN ?_ _ | refine blk_drew ?_ | refine blk_alloc ?_ _)); refine blk_far ?_ NB321_362.out _; (with_reducible repeat (first | refine blk_drewN ?_ _ | refine blk_drew ?_ | refine blk_alloc ?_ _)); refine blk_far ?_ NB321_362.out _; (with_reducible repeat (first | refine blk_drewN ?_ _ | refine blk_drew ?_ | refine blk_alloc ?_ _)); refine blk_far ?_ NB321_362.out _; (with_reducible repeat (first | refine blk_drewN ?_ _ | refine blk_drew ?_ | refine blk_alloc ?_ _)); refine blk_far ?_ NB321_362.out _; (with_reducible repeat (first | refine blk_drewN ?_ _ | refine blk_drew ?_ | refine blk_alloc ?_ _)); refine blk_far ?_ NB321_362.out _; (with_reducible repeat (first | refine blk_drewN ?_ _ | refine blk_drew ?_ | refine blk_alloc ?_ _)); refine blk_far ?_ NB321_362.out _; (with_reducible repeat (first | refine blk_drewN ?_ _ | refine blk_drew ?_ | refine blk_alloc ?_ _)); refine blk_far ?_ NB321_362.out _; (with_reducible repeat (first | refine blk_drewN ?_ _ | refine blk_drew ?_ | refine blk_alloc ?_ _)); exact BK321.out⟩
                  have n7_ : Aside0 ((((((((((w48.setCell ⟨gb362, 0, none⟩ (.int .i64 t348)).setCell ⟨gb362, 1, none⟩ (.int .i64 t349)).setCell ⟨gb362, 2, none⟩ (.int .u32 t350)).setCell ⟨gb362, 3, none⟩ (.int .u32 t351)).setCell ⟨gb362, 4, none⟩ (.int .i64 t352)).setCell ⟨gb362, 5, none⟩ (.int .i64 t353)).setCell ⟨gb362, 6, none⟩ (.int .i64 t354)).setCell ⟨gb362, 7, none⟩ (.slice Ao53 t355.length co53)).setCell ⟨gb362, 8, none⟩ (.slice Ao54 t358.length co54)).heap[gb322]? = some (.cells #[.int .i64 a3_0, .int .i64 a3_1, .int .u32 a3_2, .int .u32 a3_3, .int .i64 a3_4, .int .i64 a3_5, .int .i64 a3_6, .slice A3_7 l3_7.length c3_7, .slice A3_8 l3_8.length c3_8] 27 (0, 0))) := ⟨by (with_reducible repeat (first | refine blk_drewN ?_ _ | refine blk_drew ?_ | refine blk_alloc ?_ _)); refine blk_far ?_ NB322_362.out _; (with_reducible repeat (first | refine blk_drewN ?_ _ | refine blk_drew ?_ | refine blk_alloc ?_ _)); refine blk_far ?_ NB322_362.out _; (with_reducible repeat (first | refine blk_drewN ?_ _ | refine blk_drew ?_ | refine blk_alloc ?_ _)); refine blk_far ?_ NB322_362.out _; (with_reducible repeat (first | refine blk_drewN ?_ _ | refine blk_drew ?_ | refine blk_alloc ?_ _)); refine blk_far ?_ NB322_362.out _; (with_reducible repeat (first | refine blk_drewN ?_ _ | refine blk_drew ?_ | refine blk_alloc ?_ _)); refine blk_far ?_ NB322_362.out _; (with_reducible repeat (first | refine blk_drewN ?_ _ | refine blk_drew ?_ | refine blk_alloc ?_ _)); refine blk_far ?_ NB322_362.out _; (with_reducible repeat (first | refine blk_drewN ?_ _ | refine blk_drew ?_ | refine blk_alloc ?_ _)); refine blk_far ?_ NB322_362.out _; (with_reducible repeat (first | refine blk_drewN ?_ _ | refine blk_drew ?_ | refine blk_alloc ?_ _)); refine blk_far ?_ NB322_362.out _; (with_reducible repeat (first | refine blk_drewN ?_ _ | refine blk_drew ?_ | refine blk_alloc ?_ _)); refine blk_far ?_ NB322_362.out _; (with_reducible repeat (first | refine blk_drewN ?_ _ | refine blk_drew ?_ | refine blk_alloc ?_ _)); exact BK322.out⟩
                  have n8_ : Aside0 ((((((((((w48.setCell ⟨gb362, 0, none⟩ (.int .i64 t348)).setCell ⟨gb362, 1, none⟩ (.int .i64 t349)).setCell ⟨gb362, 2, none⟩ (.int .u32 t350)).setCell ⟨gb362, 3, none⟩ (.int .u32 t351)).setCell ⟨gb362, 4, none⟩ (.int .i64 t352)).setCell ⟨gb362, 5, none⟩ (.int .i64 t353)).setCell ⟨gb362, 6, none⟩ (.int .i64 t354)).setCell ⟨gb362, 7, none⟩ (.slice Ao53 t355.length co53)).setCell ⟨gb362, 8, none⟩ (.slice Ao54 t358.length co54)).heap[gb347]? = some (.cells #[.int .i64 t333, .int .i64 t334, .int .u32 t335, .int .u32 t336, .int .i64 t337, .int .i64 t338, .int .i64 t339, .slice Ao44 t340.length co44, .slice Ao45 t343.length co45] 27 (0, 0))) := ⟨by (with_reducible repeat (first | refine blk_drewN ?_ _ | refine blk_drew ?_ | refine blk_alloc ?_ _)); refine blk_far ?_ NB347_362.out _; (with_reducible repeat (first | refine blk_drewN ?_ _ | refine blk_drew ?_ | refine blk_alloc ?_ _)); refine blk_far ?_ NB347_362.out _; (with_reducible repeat (first | refine blk_drewN ?_ _ | refine blk_drew ?_ | refine blk_alloc ?_ _)); refine blk_far ?_ NB347_362.out _; (with_reducible repeat (first | refine blk_drewN ?_ _ | refine blk_drew ?_ | refine blk_alloc ?_ _)); refine blk_far ?_ NB347_362.out _; (with_reducible repeat (first | refine blk_drewN ?_ _ | refine blk_drew ?_ | refine blk_alloc ?_ _)); refine blk_far ?_ NB347_362.out _; (with_reducible repeat (first | refine blk_drewN ?_ _ | refine blk_drew ?_ | refine blk_alloc ?_ _)); refine blk_far ?_ NB347_362.out _; (with_reducible repeat (first | refine blk_drewN ?_ _ | refine blk_drew ?_ | refine blk_alloc ?_ _)); refine blk_far ?_ NB347_362.out _; (with_reducible repeat (first | refine blk_drewN ?_ _ | refine blk_drew ?_ | refine blk_alloc ?_ _)); refine blk_far ?_ NB347_362.out _; (with_reducible repeat (first | refine blk_drewN ?_ _ | refine blk_drew ?_ | refine blk_alloc ?_ _)); refine blk_far ?_ NB347_362.out _; (with_reducible repeat (first | refine blk_drewN ?_ _ | refine blk_drew ?_ | refine blk_alloc ?_ _)); exact BK347.out⟩
                  have n9_ : Aside0 ((((((((((w48.setCell ⟨gb362, 0, none⟩ (.int .i64 t348)).setCell ⟨gb362, 1, none⟩ (.int .i64 t349)).setCell ⟨gb362, 2, none⟩ (.int .u32 t350)).setCell ⟨gb362, 3, none⟩ (.int .u32 t351)).setCell ⟨gb362, 4, none⟩ (.int .i64 t352)).setCell ⟨gb362, 5, none⟩ (.int .i64 t353)).setCell ⟨gb362, 6, none⟩ (.int .i64 t354)).setCell ⟨gb362, 7, none⟩ (.slice Ao53 t355.length co53)).setCell ⟨gb362, 8, none⟩ (.slice Ao54 t358.length co54)).heap[gb362]? = some (.cells #[.int .i64 t348, .int .i64 t349, .int .u32 t350, .int .u32 t351, .int .i64 t352, .int .i64 t353, .int .i64 t354, .slice Ao53 t355.length co53, .slice Ao54 t358.length co54] 27 (0, 0))) := ⟨by (with_reducible repeat (first | refine blk_drewN ?_ _ | refine blk_drew ?_ | refine blk_alloc ?_ _)); refine blk_put (cs := #[.int .i64 t348, .int .i64 t349, .int .u32 t350, .int .u32 t351, .int .i64 t352, .int .i64 t353, .int .i64 t354, .slice Ao53 t355.length co53, .slice none 0 0]) ?_ 8 _ rfl; (with_reducible repeat (first | refine blk_drewN ?_ _ | refine blk_drew ?_ | refine blk_alloc ?_ _)); refine blk_put (cs := #[.int .i64 t348, .int .i64 t349, .int .u32 t350, .int .u32 t351, .int .i64 t352, .int .i64 t353, .int .i64 t354, .slice none 0 0, .slice none 0 0]) ?_ 7 _ rfl; (with_reducible repeat (first | refine blk_drewN ?_ _ | refine blk_drew ?_ | refine blk_alloc ?_ _)); refine blk_put (cs := #[.int .i64 t348, .int .i64 t349, .int .u32 t350, .int .u32 t351, .int .i64 t352, .int .i64 t353, .int .i64 0, .slice none 0 0, .slice none 0 0]) ?_ 6 _ rfl; (with_reducible repeat (first | refine blk_drewN ?_ _ | refine blk_drew ?_ | refine blk_alloc ?_ _)); refine blk_put (cs := #[.int .i64 t348, .int .i64 t349, .int .u32 t350, .int .u32 t351, .int .i64 t352, .int .i64 0, .int .i64 0, .slice none 0 0, .slice none 0 0]) ?_ 5 _ rfl; (with_reducible repeat (first | refine blk_drewN ?_ _ | refine blk_drew ?_ | refine blk_alloc ?_ _)); refine blk_put (cs := #[.int .i64 t348, .int .i64 t349, .int .u32 t350, .int .u32 t351, .int .i64 0, .int .i64 0, .int .i64 0, .slice none 0 0, .slice none 0 0]) ?_ 4 _ rfl; (with_reducible repeat (first | refine blk_drewN ?_ _ | refine blk_drew ?_ | refine blk_alloc ?_ _)); refine blk_put (cs := #[.int .i64 t348, .int .i64 t349, .int .u32 t350, .int .u32 0, .int .i64 0, .int .i64 0, .int .i64 0, .slice none 0 0, .slice none 0 0]) ?_ 3 _ rfl; (with_reducible repeat (first | refine blk_drewN ?_ _ | refine blk_drew ?_ | refine blk_alloc ?_ _)); refine blk_put (cs := #[.int .i64 t348, .int .i64 t349, .int .u32 0, .int .u32 0, .int .i64 0, .int .i64 0, .int .i64 0, .slice none 0 0, .slice none 0 0]) ?_ 2 _ rfl; (with_reducible repeat (first | refine blk_drewN ?_ _ | refine blk_drew ?_ | refine blk_alloc ?_ _)); refine blk_put (cs := #[.int .i64 t348, .int .i64 0, .int .u32 0, .int .u32 0, .int .i64 0, .int .i64 0, .int .i64 0, .slice none 0 0, .slice none 0 0]) ?_ 1 _ rfl; (with_reducible repeat (first | refine blk_drewN ?_ _ | refine blk_drew ?_ | refine blk_alloc ?_ _)); refine blk_put (cs := #[.int .i64 0, .int .i64 0, .int .u32 0, .int .u32 0, .int .i64 0, .int .i64 0, .int .i64 0, .slice none 0 0, .slice none 0 0]) ?_ 0 _ rfl; (with_reducible repeat (first | refine blk_drewN ?_ _ | refine blk_drew ?_ | refine blk_alloc ?_ _)); exact BK362.out⟩
                  have n10_ : Aside0 (Below w.heap.size w (((((((((w48.setCell ⟨gb362, 0, none⟩ (.int .i64 t348)).setCell ⟨gb362, 1, none⟩ (.int .i64 t349)).setCell ⟨gb362, 2, none⟩ (.int .u32 t350)).setCell ⟨gb362, 3, none⟩ (.int .u32 t351)).setCell ⟨gb362, 4, none⟩ (.int .i64 t352)).setCell ⟨gb362, 5, none⟩ (.int .i64 t353)).setCell ⟨gb362, 6, none⟩ (.int .i64 t354)).setCell ⟨gb362, 7, none⟩ (.slice Ao53 t355.length co53)).setCell ⟨gb362, 8, none⟩ (.slice Ao54 t358.length co54))) := ⟨by repeat (first | (with_reducible first | exact HB.out | apply below_alloc | apply pw_below_drewN | apply below_drew1 | refine below_set ?_ GE321.out | refine below_set ?_ GE322.out | refine below_set ?_ GE347.out | refine below_set ?_ GE362.out) | exact HB.out)⟩
                  (try clear HO327)
                  (try clear HO331)
                  (try clear HO342)
                  (try clear HO345)
                  (try clear HO357)
                  (try clear HO360)
                  (try clear BK321)
                  (try clear BK322)
                  (try clear BK347)
                  (try clear BK362)
                  (try clear HB)
                  generalize (((((((((w48.setCell ⟨gb362, 0, none⟩ (.int .i64 t348)).setCell ⟨gb362, 1, none⟩ (.int .i64 t349)).setCell ⟨gb362, 2, none⟩ (.int .u32 t350)).setCell ⟨gb362, 3, none⟩ (.int .u32 t351)).setCell ⟨gb362, 4, none⟩ (.int .i64 t352)).setCell ⟨gb362, 5, none⟩ (.int .i64 t353)).setCell ⟨gb362, 6, none⟩ (.int .i64 t354)).setCell ⟨gb362, 7, none⟩ (.slice Ao53 t355.length co53)).setCell ⟨gb362, 8, none⟩ (.slice Ao54 t358.length co54)) = w57 at n0_ n1_ n2_ n3_ n4_ n5_ n6_ n7_ n8_ n9_ n10_ ⊢
                  have HO327 := n0_
                  have HO331 := n1_
                  have HO342 := n2_
                  have HO345 := n3_
                  have HO357 := n4_
                  have HO360 := n5_
                  have BK321 := n6_
                  have BK322 := n7_
                  have BK347 := n8_
                  have BK362 := n9_
                  have HB := n10_
                  clear n0_ n1_ n2_ n3_ n4_ n5_ n6_ n7_ n8_ n9_ n10_
                  have n0_ := Aside0.mk (Kd.R_drew HO327.out)
                  have n1_ := Aside0.mk (Kd.R_drew HO331.out)
                  have n2_ := Aside0.mk (Kd.R_drew HO342.out)
                  have n3_ := Aside0.mk (Kd.R_drew HO345.out)
                  have n4_ := Aside0.mk (Kd.R_drew HO357.out)
                  have n5_ := Aside0.mk (Kd.R_drew HO360.out)
                  have n6_ := Aside0.mk (blk_drew BK321.out)
                  have n7_ := Aside0.mk (blk_drew BK322.out)
                  have n8_ := Aside0.mk (blk_drew BK347.out)
                  have n9_ := Aside0.mk (blk_drew BK362.out)
                  have n10_ := Aside0.mk (below_drew1 HB.out)
                  clear HO327
                  clear HO331
                  clear HO342
                  clear HO345
                  clear HO357
                  clear HO360
                  clear BK321
                  clear BK322
                  clear BK347
                  clear BK362
                  clear HB
                  have HO327 := n0_
                  have HO331 := n1_
                  have HO342 := n2_
                  have HO345 := n3_
                  have HO357 := n4_
                  have HO360 := n5_
                  have BK321 := n6_
                  have BK322 := n7_
                  have BK347 := n8_
                  have BK362 := n9_
                  have HB := n10_
                  clear n0_ n1_ n2_ n3_ n4_ n5_ n6_ n7_ n8_ n9_ n10_
                  refine start_ (n := 33) (S := fun w' => True) (ds := []) #[false, false, false, false, false, false, false, false, false, false, false, false, false, false, false, false, false, false, false, false, false, false, false, false, false, false, false, false, false, false, false, false, false] (by kernel_rfl) rfl rfl trivial (fun hHeld => ?_); refine with_tabW castellanlaw5_TcpBuilds.tab7 castellanlaw5_TcpBuilds.bits7 (fun HT_ HW_ => ?_)
                  generalize w57.drew = w58 at HO327 HO331 HO342 HO345 HO357 HO360 BK321 BK322 BK347 BK362 HB hHeld ⊢
                  refine pure_ (i := 0) (N := some 47) (v := ?_) (a' := ?_) #[true, false, false, false, false, false, false, false, false, false, false, false, false, false, false, false, false, false, false, false, false, false, false, false, false, false, false, false, false, false, false, false, false] rfl rfl (any_of HT_.out (by kernel_rfl)) (fun _ _ _ h => h) (Or.inl ⟨by rfl, ?_⟩) ?_ ?_
                  rotate_left
                  · intro w'
                    go_simp
                    with_reducible rfl
                  rotate_left
                  · simp only [Act.put, List.setIfInBounds_toArray, List.set_cons_zero, List.set_cons_succ, i64_w, i32_w]
                    rfl
                  refine pure_ (i := 2) (N := some 49) (v := ?_) (a' := ?_) #[true, false, true, false, false, false, false, false, false, false, false, false, false, false, false, false, false, false, false, false, false, false, false, false, false, false, false, false, false, false, false, false, false] rfl rfl (any_of HT_.out (by kernel_rfl)) (fun _ _ _ h => h) (Or.inl ⟨by rfl, ?_⟩) ?_ ?_
                  rotate_left
                  · intro w'
                    go_simp
                    with_reducible rfl
                  rotate_left
                  · simp only [Act.put, List.setIfInBounds_toArray, List.set_cons_zero, List.set_cons_succ, i64_w, i32_w]
                    rfl
                  refine inv_at [1, 3, 4, 5, 6, 7, 8, 9, 10, 11, 12, 13, 14, 15, 16, 17, 18, 19, 20, 21, 22, 23, 24, 25, 26, 27, 28, 29, 30, 31, 32] (fun a0_ b a w' => a = putSel a0_ b [(1, 48, .string (strOfNums t325)), (3, 50, .string (strOfNums t329)), (4, 51, .bool ((strOfNums t325).toList == (strOfNums t329).toList)), (5, 52, .bool ((strOfNums t325).toList == (strOfNums t329).toList)), (6, 53, .int .i64 t328), (7, 54, .int .i64 t332), (8, 55, .bool (t328 == t332)), (9, 56, .bool (t328 == t332)), (10, 57, .bool (t328 == t332)), (11, 58, .agg #[.int .i64 a2_0, .int .i64 a2_1, .int .u32 a2_2, .int .u32 a2_3, .int .i64 a2_4, .int .i64 a2_5, .int .i64 a2_6, .slice A2_7 l2_7.length c2_7, .slice A2_8 l2_8.length c2_8]), (12, 59, .agg #[.int .i64 a3_0, .int .i64 a3_1, .int .u32 a3_2, .int .u32 a3_3, .int .i64 a3_4, .int .i64 a3_5, .int .i64 a3_6, .slice A3_7 l3_7.length c3_7, .slice A3_8 l3_8.length c3_8]), (13, 60, .bool t363), (14, 61, .agg #[.int .i64 a2_0, .int .i64 a2_1, .int .u32 a2_2, .int .u32 a2_3, .int .i64 a2_4, .int .i64 a2_5, .int .i64 a2_6, .slice A2_7 l2_7.length c2_7, .slice A2_8 l2_8.length c2_8]), (15, 62, .agg #[.int .i64 a3_0, .int .i64 a3_1, .int .u32 a3_2, .int .u32 a3_3, .int .i64 a3_4, .int .i64 a3_5, .int .i64 a3_6, .slice A3_7 l3_7.length c3_7, .slice A3_8 l3_8.length c3_8]), (16, 63, .bool t364), (17, 64, .bool (t363 == t364)), (18, 65, .bool (t363 == t364)), (19, 66, .bool (t363 == t364)), (20, 67, .agg #[.int .i64 t333, .int .i64 t334, .int .u32 t335, .int .u32 t336, .int .i64 t337, .int .i64 t338, .int .i64 t339, .slice Ao44 t340.length co44, .slice Ao45 t343.length co45]), (21, 68, .agg #[.int .i64 t348, .int .i64 t349, .int .u32 t350, .int .u32 t351, .int .i64 t352, .int .i64 t353, .int .i64 t354, .slice Ao53 t355.length co53, .slice Ao54 t358.length co54]), (22, 69, .bool true), (23, 70, .bool true), (24, 71, .bool true), (25, 72, .bool t346), (26, 73, .bool t361), (27, 74, .bool (t346 == t361)), (28, 75, .bool (t346 == t361)), (29, 76, .bool (t346 == t361)), (30, 77, .bool t366), (31, 78, .bool t366), (32, 8, .bool t366)] ∧ (Kd.R (Kd.int .u8) 5 w' w.heap.size (fun k_ => some k_ ≠ (.slice Ao56 t329.length co56 : Value).ownBlock ∧ some k_ ≠ (.slice Ao44 t340.length co44 : Value).ownBlock ∧ some k_ ≠ (.slice Ao45 t343.length co45 : Value).ownBlock ∧ some k_ ≠ (.slice Ao53 t355.length co53 : Value).ownBlock ∧ some k_ ≠ (.slice Ao54 t358.length co54 : Value).ownBlock) (.slice Ao55 t325.length co55) t325) ∧ (Kd.R (Kd.int .u8) 5 w' w.heap.size (fun k_ => some k_ ≠ (.slice Ao55 t325.length co55 : Value).ownBlock ∧ some k_ ≠ (.slice Ao44 t340.length co44 : Value).ownBlock ∧ some k_ ≠ (.slice Ao45 t343.length co45 : Value).ownBlock ∧ some k_ ≠ (.slice Ao53 t355.length co53 : Value).ownBlock ∧ some k_ ≠ (.slice Ao54 t358.length co54 : Value).ownBlock) (.slice Ao56 t329.length co56) t329) ∧ (Kd.R (Kd.int .u8) 5 w' w.heap.size (fun k_ => some k_ ≠ (.slice Ao55 t325.length co55 : Value).ownBlock ∧ some k_ ≠ (.slice Ao56 t329.length co56 : Value).ownBlock ∧ some k_ ≠ (.slice Ao45 t343.length co45 : Value).ownBlock ∧ some k_ ≠ (.slice Ao53 t355.length co53 : Value).ownBlock ∧ some k_ ≠ (.slice Ao54 t358.length co54 : Value).ownBlock) (.slice Ao44 t340.length co44) t340) ∧ (Kd.R (Kd.int .u8) 5 w' w.heap.size (fun k_ => some k_ ≠ (.slice Ao55 t325.length co55 : Value).ownBlock ∧ some k_ ≠ (.slice Ao56 t329.length co56 : Value).ownBlock ∧ some k_ ≠ (.slice Ao44 t340.length co44 : Value).ownBlock ∧ some k_ ≠ (.slice Ao53 t355.length co53 : Value).ownBlock ∧ some k_ ≠ (.slice Ao54 t358.length co54 : Value).ownBlock) (.slice Ao45 t343.length co45) t343) ∧ (Kd.R (Kd.int .u8) 5 w' w.heap.size (fun k_ => some k_ ≠ (.slice Ao55 t325.length co55 : Value).ownBlock ∧ some k_ ≠ (.slice Ao56 t329.length co56 : Value).ownBlock ∧ some k_ ≠ (.slice Ao44 t340.length co44 : Value).ownBlock ∧ some k_ ≠ (.slice Ao45 t343.length co45 : Value).ownBlock ∧ some k_ ≠ (.slice Ao54 t358.length co54 : Value).ownBlock) (.slice Ao53 t355.length co53) t355) ∧ (Kd.R (Kd.int .u8) 5 w' w.heap.size (fun k_ => some k_ ≠ (.slice Ao55 t325.length co55 : Value).ownBlock ∧ some k_ ≠ (.slice Ao56 t329.length co56 : Value).ownBlock ∧ some k_ ≠ (.slice Ao44 t340.length co44 : Value).ownBlock ∧ some k_ ≠ (.slice Ao45 t343.length co45 : Value).ownBlock ∧ some k_ ≠ (.slice Ao53 t355.length co53 : Value).ownBlock) (.slice Ao54 t358.length co54) t358) ∧ (w'.heap[gb321]? = some (.cells #[.int .i64 a2_0, .int .i64 a2_1, .int .u32 a2_2, .int .u32 a2_3, .int .i64 a2_4, .int .i64 a2_5, .int .i64 a2_6, .slice A2_7 l2_7.length c2_7, .slice A2_8 l2_8.length c2_8] 27 (0, 0))) ∧ (w'.heap[gb322]? = some (.cells #[.int .i64 a3_0, .int .i64 a3_1, .int .u32 a3_2, .int .u32 a3_3, .int .i64 a3_4, .int .i64 a3_5, .int .i64 a3_6, .slice A3_7 l3_7.length c3_7, .slice A3_8 l3_8.length c3_8] 27 (0, 0))) ∧ (w'.heap[gb347]? = some (.cells #[.int .i64 t333, .int .i64 t334, .int .u32 t335, .int .u32 t336, .int .i64 t337, .int .i64 t338, .int .i64 t339, .slice Ao44 t340.length co44, .slice Ao45 t343.length co45] 27 (0, 0))) ∧ (w'.heap[gb362]? = some (.cells #[.int .i64 t348, .int .i64 t349, .int .u32 t350, .int .u32 t351, .int .i64 t352, .int .i64 t353, .int .i64 t354, .slice Ao53 t355.length co53, .slice Ao54 t358.length co54] 27 (0, 0))) ∧ (Below w.heap.size w w')) HT_.out HW_.out (by kernel_rfl) (by kernel_rfl) ?_ ?_ ?_
                  · exact ⟨by simp only [putSel, Bool.false_eq_true, if_false], (by first | exact HO327.out | exact Kd.R_mono HO327.out (fun _ hk => by exact okw hk)), (by first | exact HO331.out | exact Kd.R_mono HO331.out (fun _ hk => by exact okw hk)), (by first | exact HO342.out | exact Kd.R_mono HO342.out (fun _ hk => by exact okw hk)), (by first | exact HO345.out | exact Kd.R_mono HO345.out (fun _ hk => by exact okw hk)), (by first | exact HO357.out | exact Kd.R_mono HO357.out (fun _ hk => by exact okw hk)), (by first | exact HO360.out | exact Kd.R_mono HO360.out (fun _ hk => by exact okw hk)), BK321.out, BK322.out, BK347.out, BK362.out, HB.out⟩
                  · skip
                    clear BK321 BK322 BK347 BK362 HB HO327 HO331 HO342 HO345 HO357 HO360
                    refine steps_cons ?_ ?_
                    · rintro b a w' ⟨ha, Q_HO327, Q_HO331, Q_HO342, Q_HO345, Q_HO357, Q_HO360, Q_BK321, Q_BK322, Q_BK347, Q_BK362, Q_HB⟩ hb_ hon hoff
                      refine ⟨_, rfl, fun K hK => ?_⟩
                      have e47 : a.tmps[47]? = some (.slice Ao55 t325.length co55) := by rw [ha]; exact (putSel_off rfl).trans rfl
                      replace ha := Aside0.mk ha
                      have HO327 := Aside0.mk Q_HO327
                      have HO331 := Aside0.mk Q_HO331
                      have HO342 := Aside0.mk Q_HO342
                      have HO345 := Aside0.mk Q_HO345
                      have HO357 := Aside0.mk Q_HO357
                      have HO360 := Aside0.mk Q_HO360
                      have BK321 := Aside0.mk Q_BK321
                      have BK322 := Aside0.mk Q_BK322
                      have BK347 := Aside0.mk Q_BK347
                      have BK362 := Aside0.mk Q_BK362
                      have HB := Aside0.mk Q_HB
                      have hcv_ := Kd.C_string (P := Try.prog) (A := Ao55) (c := co55) Try.underlying25 Try.underlying5 Try.underlying9 (Kd.R_reads' HO327.out).2.2
                      refine value_ (w1 := w') (v := .string (strOfNums t325)) (by rfl) rfl ?_ ?_
                      · go_simp
                        (try simp only [i64_w])
                        try rfl
                      refine hK.out _ _ ⟨(by rw [ha.out]; exact putSel_upk 0 hb_ rfl rfl rfl), Q_HO327, Q_HO331, Q_HO342, Q_HO345, Q_HO357, Q_HO360, Q_BK321, Q_BK322, Q_BK347, Q_BK362, Q_HB⟩
                    refine steps_cons ?_ ?_
                    · rintro b a w' ⟨ha, Q_HO327, Q_HO331, Q_HO342, Q_HO345, Q_HO357, Q_HO360, Q_BK321, Q_BK322, Q_BK347, Q_BK362, Q_HB⟩ hb_ hon hoff
                      refine ⟨_, rfl, fun K hK => ?_⟩
                      have e49 : a.tmps[49]? = some (.slice Ao56 t329.length co56) := by rw [ha]; exact (putSel_off rfl).trans rfl
                      replace ha := Aside0.mk ha
                      have HO327 := Aside0.mk Q_HO327
                      have HO331 := Aside0.mk Q_HO331
                      have HO342 := Aside0.mk Q_HO342
                      have HO345 := Aside0.mk Q_HO345
                      have HO357 := Aside0.mk Q_HO357
                      have HO360 := Aside0.mk Q_HO360
                      have BK321 := Aside0.mk Q_BK321
                      have BK322 := Aside0.mk Q_BK322
                      have BK347 := Aside0.mk Q_BK347
                      have BK362 := Aside0.mk Q_BK362
                      have HB := Aside0.mk Q_HB
                      have hcv_ := Kd.C_string (P := Try.prog) (A := Ao56) (c := co56) Try.underlying25 Try.underlying5 Try.underlying9 (Kd.R_reads' HO331.out).2.2
                      refine value_ (w1 := w') (v := .string (strOfNums t329)) (by rfl) rfl ?_ ?_
                      · go_simp
                        (try simp only [i64_w])
                        try rfl
                      refine hK.out _ _ ⟨(by rw [ha.out]; exact putSel_upk 1 hb_ rfl rfl rfl), Q_HO327, Q_HO331, Q_HO342, Q_HO345, Q_HO357, Q_HO360, Q_BK321, Q_BK322, Q_BK347, Q_BK362, Q_HB⟩
                    refine steps_cons ?_ ?_
                    · rintro b a w' ⟨ha, Q_HO327, Q_HO331, Q_HO342, Q_HO345, Q_HO357, Q_HO360, Q_BK321, Q_BK322, Q_BK347, Q_BK362, Q_HB⟩ hb_ hon hoff
                      refine ⟨_, rfl, fun K hK => ?_⟩
                      have e48 : a.tmps[48]? = some (.string (strOfNums t325)) := by rw [ha]; exact putSel_on (e := (1, 48, .string (strOfNums t325))) 0 rfl rfl (hon 1 (by kernel_rfl)) rfl
                      have e50 : a.tmps[50]? = some (.string (strOfNums t329)) := by rw [ha]; exact putSel_on (e := (3, 50, .string (strOfNums t329))) 1 rfl rfl (hon 3 (by kernel_rfl)) rfl
                      replace ha := Aside0.mk ha
                      have HO327 := Aside0.mk Q_HO327
                      have HO331 := Aside0.mk Q_HO331
                      have HO342 := Aside0.mk Q_HO342
                      have HO345 := Aside0.mk Q_HO345
                      have HO357 := Aside0.mk Q_HO357
                      have HO360 := Aside0.mk Q_HO360
                      have BK321 := Aside0.mk Q_BK321
                      have BK322 := Aside0.mk Q_BK322
                      have BK347 := Aside0.mk Q_BK347
                      have BK362 := Aside0.mk Q_BK362
                      have HB := Aside0.mk Q_HB
                      refine value_ (w1 := w') (v := .bool ((strOfNums t325).toList == (strOfNums t329).toList)) (by rfl) rfl ?_ ?_
                      · go_simp
                        (try simp only [i64_w])
                        try rfl
                      refine hK.out _ _ ⟨(by rw [ha.out]; exact putSel_upk 2 hb_ rfl rfl rfl), Q_HO327, Q_HO331, Q_HO342, Q_HO345, Q_HO357, Q_HO360, Q_BK321, Q_BK322, Q_BK347, Q_BK362, Q_HB⟩
                    refine steps_cons ?_ ?_
                    · rintro b a w' ⟨ha, Q_HO327, Q_HO331, Q_HO342, Q_HO345, Q_HO357, Q_HO360, Q_BK321, Q_BK322, Q_BK347, Q_BK362, Q_HB⟩ hb_ hon hoff
                      refine ⟨_, rfl, fun K hK => ?_⟩
                      have e51 : a.tmps[51]? = some (.bool ((strOfNums t325).toList == (strOfNums t329).toList)) := by rw [ha]; exact putSel_on (e := (4, 51, .bool ((strOfNums t325).toList == (strOfNums t329).toList))) 2 rfl rfl (hon 4 (by kernel_rfl)) rfl
                      replace ha := Aside0.mk ha
                      have HO327 := Aside0.mk Q_HO327
                      have HO331 := Aside0.mk Q_HO331
                      have HO342 := Aside0.mk Q_HO342
                      have HO345 := Aside0.mk Q_HO345
                      have HO357 := Aside0.mk Q_HO357
                      have HO360 := Aside0.mk Q_HO360
                      have BK321 := Aside0.mk Q_BK321
                      have BK322 := Aside0.mk Q_BK322
                      have BK347 := Aside0.mk Q_BK347
                      have BK362 := Aside0.mk Q_BK362
                      have HB := Aside0.mk Q_HB
                      refine value_ (w1 := w') (v := .bool ((strOfNums t325).toList == (strOfNums t329).toList)) (by rfl) rfl ?_ ?_
                      · go_simp
                        (try simp only [i64_w])
                        try rfl
                      refine hK.out _ _ ⟨(by rw [ha.out]; exact putSel_upk 3 hb_ rfl rfl rfl), Q_HO327, Q_HO331, Q_HO342, Q_HO345, Q_HO357, Q_HO360, Q_BK321, Q_BK322, Q_BK347, Q_BK362, Q_HB⟩
                    refine steps_cons ?_ ?_
                    · rintro b a w' ⟨ha, Q_HO327, Q_HO331, Q_HO342, Q_HO345, Q_HO357, Q_HO360, Q_BK321, Q_BK322, Q_BK347, Q_BK362, Q_HB⟩ hb_ hon hoff
                      refine ⟨_, rfl, fun K hK => ?_⟩
                      have e10 : a.tmps[10]? = some (.int .i64 t328) := by rw [ha]; exact (putSel_off rfl).trans rfl
                      have e52 : a.tmps[52]? = some (.bool ((strOfNums t325).toList == (strOfNums t329).toList)) := by rw [ha]; exact putSel_on (e := (5, 52, .bool ((strOfNums t325).toList == (strOfNums t329).toList))) 3 rfl rfl (hon 5 (by kernel_rfl)) rfl
                      replace ha := Aside0.mk ha
                      have HO327 := Aside0.mk Q_HO327
                      have HO331 := Aside0.mk Q_HO331
                      have HO342 := Aside0.mk Q_HO342
                      have HO345 := Aside0.mk Q_HO345
                      have HO357 := Aside0.mk Q_HO357
                      have HO360 := Aside0.mk Q_HO360
                      have BK321 := Aside0.mk Q_BK321
                      have BK322 := Aside0.mk Q_BK322
                      have BK347 := Aside0.mk Q_BK347
                      have BK362 := Aside0.mk Q_BK362
                      have HB := Aside0.mk Q_HB
                      refine value_ (w1 := w') (v := .int .i64 t328) (wanted_on rfl rfl rfl (e52.trans (by first | rfl | (simp [*]; done)))) rfl ?_ ?_
                      · go_simp
                        (try simp only [i64_w])
                        try rfl
                      refine hK.out _ _ ⟨(by rw [ha.out]; exact putSel_upk 4 hb_ rfl rfl rfl), Q_HO327, Q_HO331, Q_HO342, Q_HO345, Q_HO357, Q_HO360, Q_BK321, Q_BK322, Q_BK347, Q_BK362, Q_HB⟩
                    refine steps_cons ?_ ?_
                    · rintro b a w' ⟨ha, Q_HO327, Q_HO331, Q_HO342, Q_HO345, Q_HO357, Q_HO360, Q_BK321, Q_BK322, Q_BK347, Q_BK362, Q_HB⟩ hb_ hon hoff
                      refine ⟨_, rfl, fun K hK => ?_⟩
                      have e12 : a.tmps[12]? = some (.int .i64 t332) := by rw [ha]; exact (putSel_off rfl).trans rfl
                      have e52 : a.tmps[52]? = some (.bool ((strOfNums t325).toList == (strOfNums t329).toList)) := by rw [ha]; exact putSel_on (e := (5, 52, .bool ((strOfNums t325).toList == (strOfNums t329).toList))) 3 rfl rfl (hon 5 (by kernel_rfl)) rfl
                      replace ha := Aside0.mk ha
                      have HO327 := Aside0.mk Q_HO327
                      have HO331 := Aside0.mk Q_HO331
                      have HO342 := Aside0.mk Q_HO342
                      have HO345 := Aside0.mk Q_HO345
                      have HO357 := Aside0.mk Q_HO357
                      have HO360 := Aside0.mk Q_HO360
                      have BK321 := Aside0.mk Q_BK321
                      have BK322 := Aside0.mk Q_BK322
                      have BK347 := Aside0.mk Q_BK347
                      have BK362 := Aside0.mk Q_BK362
                      have HB := Aside0.mk Q_HB
                      refine value_ (w1 := w') (v := .int .i64 t332) (wanted_on rfl rfl rfl (e52.trans (by first | rfl | (simp [*]; done)))) rfl ?_ ?_
                      · go_simp
                        (try simp only [i64_w])
                        try rfl
                      refine hK.out _ _ ⟨(by rw [ha.out]; exact putSel_upk 5 hb_ rfl rfl rfl), Q_HO327, Q_HO331, Q_HO342, Q_HO345, Q_HO357, Q_HO360, Q_BK321, Q_BK322, Q_BK347, Q_BK362, Q_HB⟩
                    refine steps_cons ?_ ?_
                    · rintro b a w' ⟨ha, Q_HO327, Q_HO331, Q_HO342, Q_HO345, Q_HO357, Q_HO360, Q_BK321, Q_BK322, Q_BK347, Q_BK362, Q_HB⟩ hb_ hon hoff
                      refine ⟨_, rfl, fun K hK => ?_⟩
                      have e53 : a.tmps[53]? = some (.int .i64 t328) := by rw [ha]; exact putSel_on (e := (6, 53, .int .i64 t328)) 4 rfl rfl (hon 6 (by kernel_rfl)) rfl
                      have e54 : a.tmps[54]? = some (.int .i64 t332) := by rw [ha]; exact putSel_on (e := (7, 54, .int .i64 t332)) 5 rfl rfl (hon 7 (by kernel_rfl)) rfl
                      have e52 : a.tmps[52]? = some (.bool ((strOfNums t325).toList == (strOfNums t329).toList)) := by rw [ha]; exact putSel_on (e := (5, 52, .bool ((strOfNums t325).toList == (strOfNums t329).toList))) 3 rfl rfl (hon 5 (by kernel_rfl)) rfl
                      replace ha := Aside0.mk ha
                      have HO327 := Aside0.mk Q_HO327
                      have HO331 := Aside0.mk Q_HO331
                      have HO342 := Aside0.mk Q_HO342
                      have HO345 := Aside0.mk Q_HO345
                      have HO357 := Aside0.mk Q_HO357
                      have HO360 := Aside0.mk Q_HO360
                      have BK321 := Aside0.mk Q_BK321
                      have BK322 := Aside0.mk Q_BK322
                      have BK347 := Aside0.mk Q_BK347
                      have BK362 := Aside0.mk Q_BK362
                      have HB := Aside0.mk Q_HB
                      refine value_ (w1 := w') (v := .bool (t328 == t332)) (wanted_on rfl rfl rfl (e52.trans (by first | rfl | (simp [*]; done)))) rfl ?_ ?_
                      · go_simp
                        (try simp only [i64_w])
                        try rfl
                      refine hK.out _ _ ⟨(by rw [ha.out]; exact putSel_upk 6 hb_ rfl rfl rfl), Q_HO327, Q_HO331, Q_HO342, Q_HO345, Q_HO357, Q_HO360, Q_BK321, Q_BK322, Q_BK347, Q_BK362, Q_HB⟩
                    refine steps_cons ?_ ?_
                    · rintro b a w' ⟨ha, Q_HO327, Q_HO331, Q_HO342, Q_HO345, Q_HO357, Q_HO360, Q_BK321, Q_BK322, Q_BK347, Q_BK362, Q_HB⟩ hb_ hon hoff
                      refine ⟨_, rfl, fun K hK => ?_⟩
                      have e52 : a.tmps[52]? = some (.bool ((strOfNums t325).toList == (strOfNums t329).toList)) := by rw [ha]; exact putSel_on (e := (5, 52, .bool ((strOfNums t325).toList == (strOfNums t329).toList))) 3 rfl rfl (hon 5 (by kernel_rfl)) rfl
                      have e55 : a.tmps[55]? = some (.bool (t328 == t332)) := by rw [ha]; exact putSel_on (e := (8, 55, .bool (t328 == t332))) 6 rfl rfl (hon 8 (by kernel_rfl)) rfl
                      replace ha := Aside0.mk ha
                      have HO327 := Aside0.mk Q_HO327
                      have HO331 := Aside0.mk Q_HO331
                      have HO342 := Aside0.mk Q_HO342
                      have HO345 := Aside0.mk Q_HO345
                      have HO357 := Aside0.mk Q_HO357
                      have HO360 := Aside0.mk Q_HO360
                      have BK321 := Aside0.mk Q_BK321
                      have BK322 := Aside0.mk Q_BK322
                      have BK347 := Aside0.mk Q_BK347
                      have BK362 := Aside0.mk Q_BK362
                      have HB := Aside0.mk Q_HB
                      refine value_ (w1 := w') (v := .bool (t328 == t332)) (by rfl) rfl ?_ ?_
                      · go_simp
                        (try simp only [i64_w])
                        try rfl
                      refine hK.out _ _ ⟨(by rw [ha.out]; exact putSel_upk 7 hb_ rfl rfl rfl), Q_HO327, Q_HO331, Q_HO342, Q_HO345, Q_HO357, Q_HO360, Q_BK321, Q_BK322, Q_BK347, Q_BK362, Q_HB⟩
                    refine steps_cons ?_ ?_
                    · rintro b a w' ⟨ha, Q_HO327, Q_HO331, Q_HO342, Q_HO345, Q_HO357, Q_HO360, Q_BK321, Q_BK322, Q_BK347, Q_BK362, Q_HB⟩ hb_ hon hoff
                      refine ⟨_, rfl, fun K hK => ?_⟩
                      have e56 : a.tmps[56]? = some (.bool (t328 == t332)) := by rw [ha]; exact putSel_on (e := (9, 56, .bool (t328 == t332))) 7 rfl rfl (hon 9 (by kernel_rfl)) rfl
                      replace ha := Aside0.mk ha
                      have HO327 := Aside0.mk Q_HO327
                      have HO331 := Aside0.mk Q_HO331
                      have HO342 := Aside0.mk Q_HO342
                      have HO345 := Aside0.mk Q_HO345
                      have HO357 := Aside0.mk Q_HO357
                      have HO360 := Aside0.mk Q_HO360
                      have BK321 := Aside0.mk Q_BK321
                      have BK322 := Aside0.mk Q_BK322
                      have BK347 := Aside0.mk Q_BK347
                      have BK362 := Aside0.mk Q_BK362
                      have HB := Aside0.mk Q_HB
                      refine value_ (w1 := w') (v := .bool (t328 == t332)) (by rfl) rfl ?_ ?_
                      · go_simp
                        (try simp only [i64_w])
                        try rfl
                      refine hK.out _ _ ⟨(by rw [ha.out]; exact putSel_upk 8 hb_ rfl rfl rfl), Q_HO327, Q_HO331, Q_HO342, Q_HO345, Q_HO357, Q_HO360, Q_BK321, Q_BK322, Q_BK347, Q_BK362, Q_HB⟩
                    refine steps_cons ?_ ?_
                    · rintro b a w' ⟨ha, Q_HO327, Q_HO331, Q_HO342, Q_HO345, Q_HO357, Q_HO360, Q_BK321, Q_BK322, Q_BK347, Q_BK362, Q_HB⟩ hb_ hon hoff
                      refine ⟨_, rfl, fun K hK => ?_⟩
                      have e6 : a.tmps[6]? = some (.pointer (some ⟨gb321, 0, none⟩)) := by rw [ha]; exact (putSel_off rfl).trans rfl
                      have e57 : a.tmps[57]? = some (.bool (t328 == t332)) := by rw [ha]; exact putSel_on (e := (10, 57, .bool (t328 == t332))) 8 rfl rfl (hon 10 (by kernel_rfl)) rfl
                      replace ha := Aside0.mk ha
                      have HO327 := Aside0.mk Q_HO327
                      have HO331 := Aside0.mk Q_HO331
                      have HO342 := Aside0.mk Q_HO342
                      have HO345 := Aside0.mk Q_HO345
                      have HO357 := Aside0.mk Q_HO357
                      have HO360 := Aside0.mk Q_HO360
                      have BK321 := Aside0.mk Q_BK321
                      have BK322 := Aside0.mk Q_BK322
                      have BK347 := Aside0.mk Q_BK347
                      have BK362 := Aside0.mk Q_BK362
                      have HB := Aside0.mk Q_HB
                      have hc0_ : w'.cell? ⟨gb321, 0, none⟩ = some (.int .i64 a2_0) := (blk_cell BK321.out 0).trans rfl
                      have hc1_ : w'.cell? ⟨gb321, 1, none⟩ = some (.int .i64 a2_1) := (blk_cell BK321.out 1).trans rfl
                      have hc2_ : w'.cell? ⟨gb321, 2, none⟩ = some (.int .u32 a2_2) := (blk_cell BK321.out 2).trans rfl
                      have hc3_ : w'.cell? ⟨gb321, 3, none⟩ = some (.int .u32 a2_3) := (blk_cell BK321.out 3).trans rfl
                      have hc4_ : w'.cell? ⟨gb321, 4, none⟩ = some (.int .i64 a2_4) := (blk_cell BK321.out 4).trans rfl
                      have hc5_ : w'.cell? ⟨gb321, 5, none⟩ = some (.int .i64 a2_5) := (blk_cell BK321.out 5).trans rfl
                      have hc6_ : w'.cell? ⟨gb321, 6, none⟩ = some (.int .i64 a2_6) := (blk_cell BK321.out 6).trans rfl
                      have hc7_ : w'.cell? ⟨gb321, 7, none⟩ = some (.slice A2_7 l2_7.length c2_7) := (blk_cell BK321.out 7).trans rfl
                      have hc8_ : w'.cell? ⟨gb321, 8, none⟩ = some (.slice A2_8 l2_8.length c2_8) := (blk_cell BK321.out 8).trans rfl
                      refine value_ (w1 := w') (v := .agg #[.int .i64 a2_0, .int .i64 a2_1, .int .u32 a2_2, .int .u32 a2_3, .int .i64 a2_4, .int .i64 a2_5, .int .i64 a2_6, .slice A2_7 l2_7.length c2_7, .slice A2_8 l2_8.length c2_8]) (wanted_on rfl rfl rfl (e57.trans (by first | rfl | (simp [*]; done)))) rfl ?_ ?_
                      · go_simp
                        (try simp only [i64_w])
                        try rfl
                      refine hK.out _ _ ⟨(by rw [ha.out]; exact putSel_upk 9 hb_ rfl rfl rfl), Q_HO327, Q_HO331, Q_HO342, Q_HO345, Q_HO357, Q_HO360, Q_BK321, Q_BK322, Q_BK347, Q_BK362, Q_HB⟩
                    refine steps_cons ?_ ?_
                    · rintro b a w' ⟨ha, Q_HO327, Q_HO331, Q_HO342, Q_HO345, Q_HO357, Q_HO360, Q_BK321, Q_BK322, Q_BK347, Q_BK362, Q_HB⟩ hb_ hon hoff
                      refine ⟨_, rfl, fun K hK => ?_⟩
                      have e7 : a.tmps[7]? = some (.pointer (some ⟨gb322, 0, none⟩)) := by rw [ha]; exact (putSel_off rfl).trans rfl
                      have e57 : a.tmps[57]? = some (.bool (t328 == t332)) := by rw [ha]; exact putSel_on (e := (10, 57, .bool (t328 == t332))) 8 rfl rfl (hon 10 (by kernel_rfl)) rfl
                      replace ha := Aside0.mk ha
                      have HO327 := Aside0.mk Q_HO327
                      have HO331 := Aside0.mk Q_HO331
                      have HO342 := Aside0.mk Q_HO342
                      have HO345 := Aside0.mk Q_HO345
                      have HO357 := Aside0.mk Q_HO357
                      have HO360 := Aside0.mk Q_HO360
                      have BK321 := Aside0.mk Q_BK321
                      have BK322 := Aside0.mk Q_BK322
                      have BK347 := Aside0.mk Q_BK347
                      have BK362 := Aside0.mk Q_BK362
                      have HB := Aside0.mk Q_HB
                      have hc0_ : w'.cell? ⟨gb322, 0, none⟩ = some (.int .i64 a3_0) := (blk_cell BK322.out 0).trans rfl
                      have hc1_ : w'.cell? ⟨gb322, 1, none⟩ = some (.int .i64 a3_1) := (blk_cell BK322.out 1).trans rfl
                      have hc2_ : w'.cell? ⟨gb322, 2, none⟩ = some (.int .u32 a3_2) := (blk_cell BK322.out 2).trans rfl
                      have hc3_ : w'.cell? ⟨gb322, 3, none⟩ = some (.int .u32 a3_3) := (blk_cell BK322.out 3).trans rfl
                      have hc4_ : w'.cell? ⟨gb322, 4, none⟩ = some (.int .i64 a3_4) := (blk_cell BK322.out 4).trans rfl
                      have hc5_ : w'.cell? ⟨gb322, 5, none⟩ = some (.int .i64 a3_5) := (blk_cell BK322.out 5).trans rfl
                      have hc6_ : w'.cell? ⟨gb322, 6, none⟩ = some (.int .i64 a3_6) := (blk_cell BK322.out 6).trans rfl
                      have hc7_ : w'.cell? ⟨gb322, 7, none⟩ = some (.slice A3_7 l3_7.length c3_7) := (blk_cell BK322.out 7).trans rfl
                      have hc8_ : w'.cell? ⟨gb322, 8, none⟩ = some (.slice A3_8 l3_8.length c3_8) := (blk_cell BK322.out 8).trans rfl
                      refine value_ (w1 := w') (v := .agg #[.int .i64 a3_0, .int .i64 a3_1, .int .u32 a3_2, .int .u32 a3_3, .int .i64 a3_4, .int .i64 a3_5, .int .i64 a3_6, .slice A3_7 l3_7.length c3_7, .slice A3_8 l3_8.length c3_8]) (wanted_on rfl rfl rfl (e57.trans (by first | rfl | (simp [*]; done)))) rfl ?_ ?_
                      · go_simp
                        (try simp only [i64_w])
                        try rfl
                      refine hK.out _ _ ⟨(by rw [ha.out]; exact putSel_upk 10 hb_ rfl rfl rfl), Q_HO327, Q_HO331, Q_HO342, Q_HO345, Q_HO357, Q_HO360, Q_BK321, Q_BK322, Q_BK347, Q_BK362, Q_HB⟩
                    refine steps_cons ?_ ?_
                    · rintro b a w' ⟨ha, Q_HO327, Q_HO331, Q_HO342, Q_HO345, Q_HO357, Q_HO360, Q_BK321, Q_BK322, Q_BK347, Q_BK362, Q_HB⟩ hb_ hon hoff
                      refine ⟨_, rfl, fun K hK => ?_⟩
                      have e58 : a.tmps[58]? = some (.agg #[.int .i64 a2_0, .int .i64 a2_1, .int .u32 a2_2, .int .u32 a2_3, .int .i64 a2_4, .int .i64 a2_5, .int .i64 a2_6, .slice A2_7 l2_7.length c2_7, .slice A2_8 l2_8.length c2_8]) := by rw [ha]; exact putSel_on (e := (11, 58, .agg #[.int .i64 a2_0, .int .i64 a2_1, .int .u32 a2_2, .int .u32 a2_3, .int .i64 a2_4, .int .i64 a2_5, .int .i64 a2_6, .slice A2_7 l2_7.length c2_7, .slice A2_8 l2_8.length c2_8])) 9 rfl rfl (hon 11 (by kernel_rfl)) rfl
                      have e59 : a.tmps[59]? = some (.agg #[.int .i64 a3_0, .int .i64 a3_1, .int .u32 a3_2, .int .u32 a3_3, .int .i64 a3_4, .int .i64 a3_5, .int .i64 a3_6, .slice A3_7 l3_7.length c3_7, .slice A3_8 l3_8.length c3_8]) := by rw [ha]; exact putSel_on (e := (12, 59, .agg #[.int .i64 a3_0, .int .i64 a3_1, .int .u32 a3_2, .int .u32 a3_3, .int .i64 a3_4, .int .i64 a3_5, .int .i64 a3_6, .slice A3_7 l3_7.length c3_7, .slice A3_8 l3_8.length c3_8])) 10 rfl rfl (hon 12 (by kernel_rfl)) rfl
                      have e57 : a.tmps[57]? = some (.bool (t328 == t332)) := by rw [ha]; exact putSel_on (e := (10, 57, .bool (t328 == t332))) 8 rfl rfl (hon 10 (by kernel_rfl)) rfl
                      replace ha := Aside0.mk ha
                      have HO327 := Aside0.mk Q_HO327
                      have HO331 := Aside0.mk Q_HO331
                      have HO342 := Aside0.mk Q_HO342
                      have HO345 := Aside0.mk Q_HO345
                      have HO357 := Aside0.mk Q_HO357
                      have HO360 := Aside0.mk Q_HO360
                      have BK321 := Aside0.mk Q_BK321
                      have BK322 := Aside0.mk Q_BK322
                      have BK347 := Aside0.mk Q_BK347
                      have BK362 := Aside0.mk Q_BK362
                      have HB := Aside0.mk Q_HB
                      refine goes_ Try.func28 (by kernel_rfl) rfl #[.agg #[.int .i64 a2_0, .int .i64 a2_1, .int .u32 a2_2, .int .u32 a2_3, .int .i64 a2_4, .int .i64 a2_5, .int .i64 a2_6, .slice A2_7 l2_7.length c2_7, .slice A2_8 l2_8.length c2_8], .agg #[.int .i64 a3_0, .int .i64 a3_1, .int .u32 a3_2, .int .u32 a3_3, .int .i64 a3_4, .int .i64 a3_5, .int .i64 a3_6, .slice A3_7 l3_7.length c3_7, .slice A3_8 l3_8.length c3_8]] (wanted_on rfl rfl rfl (e57.trans (by first | rfl | (simp [*]; done)))) rfl rfl (by first | (simp only [List.map_toArray, List.map_cons, List.map_nil, Act.eval, Array.getD_eq_getD_getElem?, Option.getD_some, e58, e59, e57]; done) | (simp only [List.map_toArray, List.map_cons, List.map_nil, Act.eval, Array.getD_eq_getD_getElem?, Option.getD_some, e58, e59, e57]; rfl)) ?_
                      with_reducible refine (tcp_Same.calls a2_0 a2_1 a2_2 a2_3 a2_4 a2_5 a2_6 _ _ l2_7 _ _ l2_8 a3_0 a3_1 a3_2 a3_3 a3_4 a3_5 a3_6 _ _ l3_7 _ _ l3_8 t363 _ ?side1 ?side2 ?side3 ?side4 ?side5 ?side6 ?side7 ?side8 A26.out).mono ?_
                      (case side1 => repeat (first | exact (Kd.C_below HR2_7.out HB.out) | (with_reducible refine Kd.C_alloc ?_ _) | (with_reducible refine Kd.C_drewN ?_ _) | (with_reducible refine Kd.C_drew ?_)))
                      (case side2 => exact HC2_7.out)
                      (case side3 => repeat (first | exact (Kd.C_below HR2_8.out HB.out) | (with_reducible refine Kd.C_alloc ?_ _) | (with_reducible refine Kd.C_drewN ?_ _) | (with_reducible refine Kd.C_drew ?_)))
                      (case side4 => exact HC2_8.out)
                      (case side5 => repeat (first | exact (Kd.C_below HR3_7.out HB.out) | (with_reducible refine Kd.C_alloc ?_ _) | (with_reducible refine Kd.C_drewN ?_ _) | (with_reducible refine Kd.C_drew ?_)))
                      (case side6 => exact HC3_7.out)
                      (case side7 => repeat (first | exact (Kd.C_below HR3_8.out HB.out) | (with_reducible refine Kd.C_alloc ?_ _) | (with_reducible refine Kd.C_drewN ?_ _) | (with_reducible refine Kd.C_drew ?_)))
                      (case side8 => exact HC3_8.out)
                      rintro e w59 ⟨rfl, hb⟩
                      refine ⟨_, rfl, ?_⟩
                      have n0_ := Aside0.mk (Kd.R_below (by (with_reducible repeat (first | apply Kd.R_alloc | apply Kd.R_drewN | apply Kd.R_drew)); exact HO327.out) hb)
                      have n1_ := Aside0.mk (Kd.R_below (by (with_reducible repeat (first | apply Kd.R_alloc | apply Kd.R_drewN | apply Kd.R_drew)); exact HO331.out) hb)
                      have n2_ := Aside0.mk (Kd.R_below (by (with_reducible repeat (first | apply Kd.R_alloc | apply Kd.R_drewN | apply Kd.R_drew)); exact HO342.out) hb)
                      have n3_ := Aside0.mk (Kd.R_below (by (with_reducible repeat (first | apply Kd.R_alloc | apply Kd.R_drewN | apply Kd.R_drew)); exact HO345.out) hb)
                      have n4_ := Aside0.mk (Kd.R_below (by (with_reducible repeat (first | apply Kd.R_alloc | apply Kd.R_drewN | apply Kd.R_drew)); exact HO357.out) hb)
                      have n5_ := Aside0.mk (Kd.R_below (by (with_reducible repeat (first | apply Kd.R_alloc | apply Kd.R_drewN | apply Kd.R_drew)); exact HO360.out) hb)
                      have n6_ := Aside0.mk (blk_below (g := gb321) (o := .cells #[.int .i64 a2_0, .int .i64 a2_1, .int .u32 a2_2, .int .u32 a2_3, .int .i64 a2_4, .int .i64 a2_5, .int .i64 a2_6, .slice A2_7 l2_7.length c2_7, .slice A2_8 l2_8.length c2_8] 27 (0, 0)) (by (with_reducible repeat (first | refine blk_drewN ?_ _ | refine blk_drew ?_ | refine blk_alloc ?_ _)); exact BK321.out) hb)
                      have n7_ := Aside0.mk (blk_below (g := gb322) (o := .cells #[.int .i64 a3_0, .int .i64 a3_1, .int .u32 a3_2, .int .u32 a3_3, .int .i64 a3_4, .int .i64 a3_5, .int .i64 a3_6, .slice A3_7 l3_7.length c3_7, .slice A3_8 l3_8.length c3_8] 27 (0, 0)) (by (with_reducible repeat (first | refine blk_drewN ?_ _ | refine blk_drew ?_ | refine blk_alloc ?_ _)); exact BK322.out) hb)
                      have n8_ := Aside0.mk (blk_below (g := gb347) (o := .cells #[.int .i64 t333, .int .i64 t334, .int .u32 t335, .int .u32 t336, .int .i64 t337, .int .i64 t338, .int .i64 t339, .slice Ao44 t340.length co44, .slice Ao45 t343.length co45] 27 (0, 0)) (by (with_reducible repeat (first | refine blk_drewN ?_ _ | refine blk_drew ?_ | refine blk_alloc ?_ _)); exact BK347.out) hb)
                      have n9_ := Aside0.mk (blk_below (g := gb362) (o := .cells #[.int .i64 t348, .int .i64 t349, .int .u32 t350, .int .u32 t351, .int .i64 t352, .int .i64 t353, .int .i64 t354, .slice Ao53 t355.length co53, .slice Ao54 t358.length co54] 27 (0, 0)) (by (with_reducible repeat (first | refine blk_drewN ?_ _ | refine blk_drew ?_ | refine blk_alloc ?_ _)); exact BK362.out) hb)
                      have n10_ := Aside0.mk (below_step (by repeat (first | (with_reducible first | exact HB.out | apply below_alloc | apply pw_below_drewN | apply below_drew1 | refine below_set ?_ GE321.out | refine below_set ?_ GE322.out | refine below_set ?_ GE347.out | refine below_set ?_ GE362.out) | exact HB.out)) hb)
                      clear HO327
                      clear HO331
                      clear HO342
                      clear HO345
                      clear HO357
                      clear HO360
                      clear BK321
                      clear BK322
                      clear BK347
                      clear BK362
                      clear HB
                      have HO327 := n0_
                      have HO331 := n1_
                      have HO342 := n2_
                      have HO345 := n3_
                      have HO357 := n4_
                      have HO360 := n5_
                      have BK321 := n6_
                      have BK322 := n7_
                      have BK347 := n8_
                      have BK362 := n9_
                      have HB := n10_
                      clear n0_ n1_ n2_ n3_ n4_ n5_ n6_ n7_ n8_ n9_ n10_
                      (try clear hb)
                      (try clear hb2)
                      (try clear hk)
                      (try clear hi)
                      refine hK.out _ _ ⟨(by rw [ha.out]; exact putSel_upk 11 hb_ rfl rfl rfl), (by first | ((with_reducible repeat (first | apply Kd.R_alloc | apply Kd.R_drewN | apply Kd.R_drew)); exact HO327.out) | ((with_reducible repeat (first | apply Kd.R_alloc | apply Kd.R_drewN | apply Kd.R_drew)); exact Kd.R_mono HO327.out (fun _ hk => by first | trivial | exact hk | exact hk.1 | exact hk.2 | exact hk.1.1 | exact okw hk))), (by first | ((with_reducible repeat (first | apply Kd.R_alloc | apply Kd.R_drewN | apply Kd.R_drew)); exact HO331.out) | ((with_reducible repeat (first | apply Kd.R_alloc | apply Kd.R_drewN | apply Kd.R_drew)); exact Kd.R_mono HO331.out (fun _ hk => by first | trivial | exact hk | exact hk.1 | exact hk.2 | exact hk.1.1 | exact okw hk))), (by first | ((with_reducible repeat (first | apply Kd.R_alloc | apply Kd.R_drewN | apply Kd.R_drew)); exact HO342.out) | ((with_reducible repeat (first | apply Kd.R_alloc | apply Kd.R_drewN | apply Kd.R_drew)); exact Kd.R_mono HO342.out (fun _ hk => by first | trivial | exact hk | exact hk.1 | exact hk.2 | exact hk.1.1 | exact okw hk))), (by first | ((with_reducible repeat (first | apply Kd.R_alloc | apply Kd.R_drewN | apply Kd.R_drew)); exact HO345.out) | ((with_reducible repeat (first | apply Kd.R_alloc | apply Kd.R_drewN | apply Kd.R_drew)); exact Kd.R_mono HO345.out (fun _ hk => by first | trivial | exact hk | exact hk.1 | exact hk.2 | exact hk.1.1 | exact okw hk))), (by first | ((with_reducible repeat (first | apply Kd.R_alloc | apply Kd.R_drewN | apply Kd.R_drew)); exact HO357.out) | ((with_reducible repeat (first | apply Kd.R_alloc | apply Kd.R_drewN | apply Kd.R_drew)); exact Kd.R_mono HO357.out (fun _ hk => by first | trivial | exact hk | exact hk.1 | exact hk.2 | exact hk.1.1 | exact okw hk))), (by first | ((with_reducible repeat (first | apply Kd.R_alloc | apply Kd.R_drewN | apply Kd.R_drew)); exact HO360.out) | ((with_reducible repeat (first | apply Kd.R_alloc | apply Kd.R_drewN | apply Kd.R_drew)); exact Kd.R_mono HO360.out (fun _ hk => by first | trivial | exact hk | exact hk.1 | exact hk.2 | exact hk.1.1 | exact okw hk))), (by (with_reducible repeat (first | refine blk_drewN ?_ _ | refine blk_drew ?_ | refine blk_alloc ?_ _)); exact BK321.out), (by (with_reducible repeat (first | refine blk_drewN ?_ _ | refine blk_drew ?_ | refine blk_alloc ?_ _)); exact BK322.out), (by (with_reducible repeat (first | refine blk_drewN ?_ _ | refine blk_drew ?_ | refine blk_alloc ?_ _)); exact BK347.out), (by (with_reducible repeat (first | refine blk_drewN ?_ _ | refine blk_drew ?_ | refine blk_alloc ?_ _)); exact BK362.out), (by repeat (first | (with_reducible first | exact HB.out | apply below_alloc | apply pw_below_drewN | apply below_drew1 | refine below_set ?_ GE321.out | refine below_set ?_ GE322.out | refine below_set ?_ GE347.out | refine below_set ?_ GE362.out) | exact HB.out))⟩
                    refine steps_cons ?_ ?_
                    · rintro b a w' ⟨ha, Q_HO327, Q_HO331, Q_HO342, Q_HO345, Q_HO357, Q_HO360, Q_BK321, Q_BK322, Q_BK347, Q_BK362, Q_HB⟩ hb_ hon hoff
                      refine ⟨_, rfl, fun K hK => ?_⟩
                      have e6 : a.tmps[6]? = some (.pointer (some ⟨gb321, 0, none⟩)) := by rw [ha]; exact (putSel_off rfl).trans rfl
                      have e57 : a.tmps[57]? = some (.bool (t328 == t332)) := by rw [ha]; exact putSel_on (e := (10, 57, .bool (t328 == t332))) 8 rfl rfl (hon 10 (by kernel_rfl)) rfl
                      replace ha := Aside0.mk ha
                      have HO327 := Aside0.mk Q_HO327
                      have HO331 := Aside0.mk Q_HO331
                      have HO342 := Aside0.mk Q_HO342
                      have HO345 := Aside0.mk Q_HO345
                      have HO357 := Aside0.mk Q_HO357
                      have HO360 := Aside0.mk Q_HO360
                      have BK321 := Aside0.mk Q_BK321
                      have BK322 := Aside0.mk Q_BK322
                      have BK347 := Aside0.mk Q_BK347
                      have BK362 := Aside0.mk Q_BK362
                      have HB := Aside0.mk Q_HB
                      have hc0_ : w'.cell? ⟨gb321, 0, none⟩ = some (.int .i64 a2_0) := (blk_cell BK321.out 0).trans rfl
                      have hc1_ : w'.cell? ⟨gb321, 1, none⟩ = some (.int .i64 a2_1) := (blk_cell BK321.out 1).trans rfl
                      have hc2_ : w'.cell? ⟨gb321, 2, none⟩ = some (.int .u32 a2_2) := (blk_cell BK321.out 2).trans rfl
                      have hc3_ : w'.cell? ⟨gb321, 3, none⟩ = some (.int .u32 a2_3) := (blk_cell BK321.out 3).trans rfl
                      have hc4_ : w'.cell? ⟨gb321, 4, none⟩ = some (.int .i64 a2_4) := (blk_cell BK321.out 4).trans rfl
                      have hc5_ : w'.cell? ⟨gb321, 5, none⟩ = some (.int .i64 a2_5) := (blk_cell BK321.out 5).trans rfl
                      have hc6_ : w'.cell? ⟨gb321, 6, none⟩ = some (.int .i64 a2_6) := (blk_cell BK321.out 6).trans rfl
                      have hc7_ : w'.cell? ⟨gb321, 7, none⟩ = some (.slice A2_7 l2_7.length c2_7) := (blk_cell BK321.out 7).trans rfl
                      have hc8_ : w'.cell? ⟨gb321, 8, none⟩ = some (.slice A2_8 l2_8.length c2_8) := (blk_cell BK321.out 8).trans rfl
                      refine value_ (w1 := w') (v := .agg #[.int .i64 a2_0, .int .i64 a2_1, .int .u32 a2_2, .int .u32 a2_3, .int .i64 a2_4, .int .i64 a2_5, .int .i64 a2_6, .slice A2_7 l2_7.length c2_7, .slice A2_8 l2_8.length c2_8]) (wanted_on rfl rfl rfl (e57.trans (by first | rfl | (simp [*]; done)))) rfl ?_ ?_
                      · go_simp
                        (try simp only [i64_w])
                        try rfl
                      refine hK.out _ _ ⟨(by rw [ha.out]; exact putSel_upk 12 hb_ rfl rfl rfl), Q_HO327, Q_HO331, Q_HO342, Q_HO345, Q_HO357, Q_HO360, Q_BK321, Q_BK322, Q_BK347, Q_BK362, Q_HB⟩
                    refine steps_cons ?_ ?_
                    · rintro b a w' ⟨ha, Q_HO327, Q_HO331, Q_HO342, Q_HO345, Q_HO357, Q_HO360, Q_BK321, Q_BK322, Q_BK347, Q_BK362, Q_HB⟩ hb_ hon hoff
                      refine ⟨_, rfl, fun K hK => ?_⟩
                      have e7 : a.tmps[7]? = some (.pointer (some ⟨gb322, 0, none⟩)) := by rw [ha]; exact (putSel_off rfl).trans rfl
                      have e57 : a.tmps[57]? = some (.bool (t328 == t332)) := by rw [ha]; exact putSel_on (e := (10, 57, .bool (t328 == t332))) 8 rfl rfl (hon 10 (by kernel_rfl)) rfl
                      replace ha := Aside0.mk ha
                      have HO327 := Aside0.mk Q_HO327
                      have HO331 := Aside0.mk Q_HO331
                      have HO342 := Aside0.mk Q_HO342
                      have HO345 := Aside0.mk Q_HO345
                      have HO357 := Aside0.mk Q_HO357
                      have HO360 := Aside0.mk Q_HO360
                      have BK321 := Aside0.mk Q_BK321
                      have BK322 := Aside0.mk Q_BK322
                      have BK347 := Aside0.mk Q_BK347
                      have BK362 := Aside0.mk Q_BK362
                      have HB := Aside0.mk Q_HB
                      have hc0_ : w'.cell? ⟨gb322, 0, none⟩ = some (.int .i64 a3_0) := (blk_cell BK322.out 0).trans rfl
                      have hc1_ : w'.cell? ⟨gb322, 1, none⟩ = some (.int .i64 a3_1) := (blk_cell BK322.out 1).trans rfl
                      have hc2_ : w'.cell? ⟨gb322, 2, none⟩ = some (.int .u32 a3_2) := (blk_cell BK322.out 2).trans rfl
                      have hc3_ : w'.cell? ⟨gb322, 3, none⟩ = some (.int .u32 a3_3) := (blk_cell BK322.out 3).trans rfl
                      have hc4_ : w'.cell? ⟨gb322, 4, none⟩ = some (.int .i64 a3_4) := (blk_cell BK322.out 4).trans rfl
                      have hc5_ : w'.cell? ⟨gb322, 5, none⟩ = some (.int .i64 a3_5) := (blk_cell BK322.out 5).trans rfl
                      have hc6_ : w'.cell? ⟨gb322, 6, none⟩ = some (.int .i64 a3_6) := (blk_cell BK322.out 6).trans rfl
                      have hc7_ : w'.cell? ⟨gb322, 7, none⟩ = some (.slice A3_7 l3_7.length c3_7) := (blk_cell BK322.out 7).trans rfl
                      have hc8_ : w'.cell? ⟨gb322, 8, none⟩ = some (.slice A3_8 l3_8.length c3_8) := (blk_cell BK322.out 8).trans rfl
                      refine value_ (w1 := w') (v := .agg #[.int .i64 a3_0, .int .i64 a3_1, .int .u32 a3_2, .int .u32 a3_3, .int .i64 a3_4, .int .i64 a3_5, .int .i64 a3_6, .slice A3_7 l3_7.length c3_7, .slice A3_8 l3_8.length c3_8]) (wanted_on rfl rfl rfl (e57.trans (by first | rfl | (simp [*]; done)))) rfl ?_ ?_
                      · go_simp
                        (try simp only [i64_w])
                        try rfl
                      refine hK.out _ _ ⟨(by rw [ha.out]; exact putSel_upk 13 hb_ rfl rfl rfl), Q_HO327, Q_HO331, Q_HO342, Q_HO345, Q_HO357, Q_HO360, Q_BK321, Q_BK322, Q_BK347, Q_BK362, Q_HB⟩
                    refine steps_cons ?_ ?_
                    · rintro b a w' ⟨ha, Q_HO327, Q_HO331, Q_HO342, Q_HO345, Q_HO357, Q_HO360, Q_BK321, Q_BK322, Q_BK347, Q_BK362, Q_HB⟩ hb_ hon hoff
                      refine ⟨_, rfl, fun K hK => ?_⟩
                      have e61 : a.tmps[61]? = some (.agg #[.int .i64 a2_0, .int .i64 a2_1, .int .u32 a2_2, .int .u32 a2_3, .int .i64 a2_4, .int .i64 a2_5, .int .i64 a2_6, .slice A2_7 l2_7.length c2_7, .slice A2_8 l2_8.length c2_8]) := by rw [ha]; exact putSel_on (e := (14, 61, .agg #[.int .i64 a2_0, .int .i64 a2_1, .int .u32 a2_2, .int .u32 a2_3, .int .i64 a2_4, .int .i64 a2_5, .int .i64 a2_6, .slice A2_7 l2_7.length c2_7, .slice A2_8 l2_8.length c2_8])) 12 rfl rfl (hon 14 (by kernel_rfl)) rfl
                      have e62 : a.tmps[62]? = some (.agg #[.int .i64 a3_0, .int .i64 a3_1, .int .u32 a3_2, .int .u32 a3_3, .int .i64 a3_4, .int .i64 a3_5, .int .i64 a3_6, .slice A3_7 l3_7.length c3_7, .slice A3_8 l3_8.length c3_8]) := by rw [ha]; exact putSel_on (e := (15, 62, .agg #[.int .i64 a3_0, .int .i64 a3_1, .int .u32 a3_2, .int .u32 a3_3, .int .i64 a3_4, .int .i64 a3_5, .int .i64 a3_6, .slice A3_7 l3_7.length c3_7, .slice A3_8 l3_8.length c3_8])) 13 rfl rfl (hon 15 (by kernel_rfl)) rfl
                      have e57 : a.tmps[57]? = some (.bool (t328 == t332)) := by rw [ha]; exact putSel_on (e := (10, 57, .bool (t328 == t332))) 8 rfl rfl (hon 10 (by kernel_rfl)) rfl
                      replace ha := Aside0.mk ha
                      have HO327 := Aside0.mk Q_HO327
                      have HO331 := Aside0.mk Q_HO331
                      have HO342 := Aside0.mk Q_HO342
                      have HO345 := Aside0.mk Q_HO345
                      have HO357 := Aside0.mk Q_HO357
                      have HO360 := Aside0.mk Q_HO360
                      have BK321 := Aside0.mk Q_BK321
                      have BK322 := Aside0.mk Q_BK322
                      have BK347 := Aside0.mk Q_BK347
                      have BK362 := Aside0.mk Q_BK362
                      have HB := Aside0.mk Q_HB
                      refine goes_ Try.func23 (by kernel_rfl) rfl #[.agg #[.int .i64 a2_0, .int .i64 a2_1, .int .u32 a2_2, .int .u32 a2_3, .int .i64 a2_4, .int .i64 a2_5, .int .i64 a2_6, .slice A2_7 l2_7.length c2_7, .slice A2_8 l2_8.length c2_8], .agg #[.int .i64 a3_0, .int .i64 a3_1, .int .u32 a3_2, .int .u32 a3_3, .int .i64 a3_4, .int .i64 a3_5, .int .i64 a3_6, .slice A3_7 l3_7.length c3_7, .slice A3_8 l3_8.length c3_8]] (wanted_on rfl rfl rfl (e57.trans (by first | rfl | (simp [*]; done)))) rfl rfl (by first | (simp only [List.map_toArray, List.map_cons, List.map_nil, Act.eval, Array.getD_eq_getD_getElem?, Option.getD_some, e61, e62, e57]; done) | (simp only [List.map_toArray, List.map_cons, List.map_nil, Act.eval, Array.getD_eq_getD_getElem?, Option.getD_some, e61, e62, e57]; rfl)) ?_
                      with_reducible refine (castellanref5_Same.calls a2_0 a2_1 a2_2 a2_3 a2_4 a2_5 a2_6 _ _ l2_7 _ _ l2_8 a3_0 a3_1 a3_2 a3_3 a3_4 a3_5 a3_6 _ _ l3_7 _ _ l3_8 t364 _ ?side1 ?side2 ?side3 ?side4 ?side5 ?side6 ?side7 ?side8 A27.out).mono ?_
                      (case side1 => repeat (first | exact (Kd.C_below HR2_7.out HB.out) | (with_reducible refine Kd.C_alloc ?_ _) | (with_reducible refine Kd.C_drewN ?_ _) | (with_reducible refine Kd.C_drew ?_)))
                      (case side2 => exact HC2_7.out)
                      (case side3 => repeat (first | exact (Kd.C_below HR2_8.out HB.out) | (with_reducible refine Kd.C_alloc ?_ _) | (with_reducible refine Kd.C_drewN ?_ _) | (with_reducible refine Kd.C_drew ?_)))
                      (case side4 => exact HC2_8.out)
                      (case side5 => repeat (first | exact (Kd.C_below HR3_7.out HB.out) | (with_reducible refine Kd.C_alloc ?_ _) | (with_reducible refine Kd.C_drewN ?_ _) | (with_reducible refine Kd.C_drew ?_)))
                      (case side6 => exact HC3_7.out)
                      (case side7 => repeat (first | exact (Kd.C_below HR3_8.out HB.out) | (with_reducible refine Kd.C_alloc ?_ _) | (with_reducible refine Kd.C_drewN ?_ _) | (with_reducible refine Kd.C_drew ?_)))
                      (case side8 => exact HC3_8.out)
                      rintro e w61 ⟨rfl, hb⟩
                      refine ⟨_, rfl, ?_⟩
                      have n0_ := Aside0.mk (Kd.R_below (by (with_reducible repeat (first | apply Kd.R_alloc | apply Kd.R_drewN | apply Kd.R_drew)); exact HO327.out) hb)
                      have n1_ := Aside0.mk (Kd.R_below (by (with_reducible repeat (first | apply Kd.R_alloc | apply Kd.R_drewN | apply Kd.R_drew)); exact HO331.out) hb)
                      have n2_ := Aside0.mk (Kd.R_below (by (with_reducible repeat (first | apply Kd.R_alloc | apply Kd.R_drewN | apply Kd.R_drew)); exact HO342.out) hb)
                      have n3_ := Aside0.mk (Kd.R_below (by (with_reducible repeat (first | apply Kd.R_alloc | apply Kd.R_drewN | apply Kd.R_drew)); exact HO345.out) hb)
                      have n4_ := Aside0.mk (Kd.R_below (by (with_reducible repeat (first | apply Kd.R_alloc | apply Kd.R_drewN | apply Kd.R_drew)); exact HO357.out) hb)
                      have n5_ := Aside0.mk (Kd.R_below (by (with_reducible repeat (first | apply Kd.R_alloc | apply Kd.R_drewN | apply Kd.R_drew)); exact HO360.out) hb)
                      have n6_ := Aside0.mk (blk_below (g := gb321) (o := .cells #[.int .i64 a2_0, .int .i64 a2_1, .int .u32 a2_2, .int .u32 a2_3, .int .i64 a2_4, .int .i64 a2_5, .int .i64 a2_6, .slice A2_7 l2_7.length c2_7, .slice A2_8 l2_8.length c2_8] 27 (0, 0)) (by (with_reducible repeat (first | refine blk_drewN ?_ _ | refine blk_drew ?_ | refine blk_alloc ?_ _)); exact BK321.out) hb)
                      have n7_ := Aside0.mk (blk_below (g := gb322) (o := .cells #[.int .i64 a3_0, .int .i64 a3_1, .int .u32 a3_2, .int .u32 a3_3, .int .i64 a3_4, .int .i64 a3_5, .int .i64 a3_6, .slice A3_7 l3_7.length c3_7, .slice A3_8 l3_8.length c3_8] 27 (0, 0)) (by (with_reducible repeat (first | refine blk_drewN ?_ _ | refine blk_drew ?_ | refine blk_alloc ?_ _)); exact BK322.out) hb)
                      have n8_ := Aside0.mk (blk_below (g := gb347) (o := .cells #[.int .i64 t333, .int .i64 t334, .int .u32 t335, .int .u32 t336, .int .i64 t337, .int .i64 t338, .int .i64 t339, .slice Ao44 t340.length co44, .slice Ao45 t343.length co45] 27 (0, 0)) (by (with_reducible repeat (first | refine blk_drewN ?_ _ | refine blk_drew ?_ | refine blk_alloc ?_ _)); exact BK347.out) hb)
                      have n9_ := Aside0.mk (blk_below (g := gb362) (o := .cells #[.int .i64 t348, .int .i64 t349, .int .u32 t350, .int .u32 t351, .int .i64 t352, .int .i64 t353, .int .i64 t354, .slice Ao53 t355.length co53, .slice Ao54 t358.length co54] 27 (0, 0)) (by (with_reducible repeat (first | refine blk_drewN ?_ _ | refine blk_drew ?_ | refine blk_alloc ?_ _)); exact BK362.out) hb)
                      have n10_ := Aside0.mk (below_step (by repeat (first | (with_reducible first | exact HB.out | apply below_alloc | apply pw_below_drewN | apply below_drew1 | refine below_set ?_ GE321.out | refine below_set ?_ GE322.out | refine below_set ?_ GE347.out | refine below_set ?_ GE362.out) | exact HB.out)) hb)
                      clear HO327
                      clear HO331
                      clear HO342
                      clear HO345
                      clear HO357
                      clear HO360
                      clear BK321
                      clear BK322
                      clear BK347
                      clear BK362
                      clear HB
                      have HO327 := n0_
                      have HO331 := n1_
                      have HO342 := n2_
                      have HO345 := n3_
                      have HO357 := n4_
                      have HO360 := n5_
                      have BK321 := n6_
                      have BK322 := n7_
                      have BK347 := n8_
                      have BK362 := n9_
                      have HB := n10_
                      clear n0_ n1_ n2_ n3_ n4_ n5_ n6_ n7_ n8_ n9_ n10_
                      (try clear hb)
                      (try clear hb2)
                      (try clear hk)
                      (try clear hi)
                      refine hK.out _ _ ⟨(by rw [ha.out]; exact putSel_upk 14 hb_ rfl rfl rfl), (by first | ((with_reducible repeat (first | apply Kd.R_alloc | apply Kd.R_drewN | apply Kd.R_drew)); exact HO327.out) | ((with_reducible repeat (first | apply Kd.R_alloc | apply Kd.R_drewN | apply Kd.R_drew)); exact Kd.R_mono HO327.out (fun _ hk => by first | trivial | exact hk | exact hk.1 | exact hk.2 | exact hk.1.1 | exact okw hk))), (by first | ((with_reducible repeat (first | apply Kd.R_alloc | apply Kd.R_drewN | apply Kd.R_drew)); exact HO331.out) | ((with_reducible repeat (first | apply Kd.R_alloc | apply Kd.R_drewN | apply Kd.R_drew)); exact Kd.R_mono HO331.out (fun _ hk => by first | trivial | exact hk | exact hk.1 | exact hk.2 | exact hk.1.1 | exact okw hk))), (by first | ((with_reducible repeat (first | apply Kd.R_alloc | apply Kd.R_drewN | apply Kd.R_drew)); exact HO342.out) | ((with_reducible repeat (first | apply Kd.R_alloc | apply Kd.R_drewN | apply Kd.R_drew)); exact Kd.R_mono HO342.out (fun _ hk => by first | trivial | exact hk | exact hk.1 | exact hk.2 | exact hk.1.1 | exact okw hk))), (by first | ((with_reducible repeat (first | apply Kd.R_alloc | apply Kd.R_drewN | apply Kd.R_drew)); exact HO345.out) | ((with_reducible repeat (first | apply Kd.R_alloc | apply Kd.R_drewN | apply Kd.R_drew)); exact Kd.R_mono HO345.out (fun _ hk => by first | trivial | exact hk | exact hk.1 | exact hk.2 | exact hk.1.1 | exact okw hk))), (by first | ((with_reducible repeat (first | apply Kd.R_alloc | apply Kd.R_drewN | apply Kd.R_drew)); exact HO357.out) | ((with_reducible repeat (first | apply Kd.R_alloc | apply Kd.R_drewN | apply Kd.R_drew)); exact Kd.R_mono HO357.out (fun _ hk => by first | trivial | exact hk | exact hk.1 | exact hk.2 | exact hk.1.1 | exact okw hk))), (by first | ((with_reducible repeat (first | apply Kd.R_alloc | apply Kd.R_drewN | apply Kd.R_drew)); exact HO360.out) | ((with_reducible repeat (first | apply Kd.R_alloc | apply Kd.R_drewN | apply Kd.R_drew)); exact Kd.R_mono HO360.out (fun _ hk => by first | trivial | exact hk | exact hk.1 | exact hk.2 | exact hk.1.1 | exact okw hk))), (by (with_reducible repeat (first | refine blk_drewN ?_ _ | refine blk_drew ?_ | refine blk_alloc ?_ _)); exact BK321.out), (by (with_reducible repeat (first | refine blk_drewN ?_ _ | refine blk_drew ?_ | refine blk_alloc ?_ _)); exact BK322.out), (by (with_reducible repeat (first | refine blk_drewN ?_ _ | refine blk_drew ?_ | refine blk_alloc ?_ _)); exact BK347.out), (by (with_reducible repeat (first | refine blk_drewN ?_ _ | refine blk_drew ?_ | refine blk_alloc ?_ _)); exact BK362.out), (by repeat (first | (with_reducible first | exact HB.out | apply below_alloc | apply pw_below_drewN | apply below_drew1 | refine below_set ?_ GE321.out | refine below_set ?_ GE322.out | refine below_set ?_ GE347.out | refine below_set ?_ GE362.out) | exact HB.out))⟩
                    refine steps_cons ?_ ?_
                    · rintro b a w' ⟨ha, Q_HO327, Q_HO331, Q_HO342, Q_HO345, Q_HO357, Q_HO360, Q_BK321, Q_BK322, Q_BK347, Q_BK362, Q_HB⟩ hb_ hon hoff
                      refine ⟨_, rfl, fun K hK => ?_⟩
                      have e60 : a.tmps[60]? = some (.bool t363) := by rw [ha]; exact putSel_on (e := (13, 60, .bool t363)) 11 rfl rfl (hon 13 (by kernel_rfl)) rfl
                      have e63 : a.tmps[63]? = some (.bool t364) := by rw [ha]; exact putSel_on (e := (16, 63, .bool t364)) 14 rfl rfl (hon 16 (by kernel_rfl)) rfl
                      have e57 : a.tmps[57]? = some (.bool (t328 == t332)) := by rw [ha]; exact putSel_on (e := (10, 57, .bool (t328 == t332))) 8 rfl rfl (hon 10 (by kernel_rfl)) rfl
                      replace ha := Aside0.mk ha
                      have HO327 := Aside0.mk Q_HO327
                      have HO331 := Aside0.mk Q_HO331
                      have HO342 := Aside0.mk Q_HO342
                      have HO345 := Aside0.mk Q_HO345
                      have HO357 := Aside0.mk Q_HO357
                      have HO360 := Aside0.mk Q_HO360
                      have BK321 := Aside0.mk Q_BK321
                      have BK322 := Aside0.mk Q_BK322
                      have BK347 := Aside0.mk Q_BK347
                      have BK362 := Aside0.mk Q_BK362
                      have HB := Aside0.mk Q_HB
                      refine value_ (w1 := w') (v := .bool (t363 == t364)) (wanted_on rfl rfl rfl (e57.trans (by first | rfl | (simp [*]; done)))) rfl ?_ ?_
                      · go_simp
                        (try simp only [i64_w])
                        try rfl
                      refine hK.out _ _ ⟨(by rw [ha.out]; exact putSel_upk 15 hb_ rfl rfl rfl), Q_HO327, Q_HO331, Q_HO342, Q_HO345, Q_HO357, Q_HO360, Q_BK321, Q_BK322, Q_BK347, Q_BK362, Q_HB⟩
                    refine steps_cons ?_ ?_
                    · rintro b a w' ⟨ha, Q_HO327, Q_HO331, Q_HO342, Q_HO345, Q_HO357, Q_HO360, Q_BK321, Q_BK322, Q_BK347, Q_BK362, Q_HB⟩ hb_ hon hoff
                      refine ⟨_, rfl, fun K hK => ?_⟩
                      have e57 : a.tmps[57]? = some (.bool (t328 == t332)) := by rw [ha]; exact putSel_on (e := (10, 57, .bool (t328 == t332))) 8 rfl rfl (hon 10 (by kernel_rfl)) rfl
                      have e64 : a.tmps[64]? = some (.bool (t363 == t364)) := by rw [ha]; exact putSel_on (e := (17, 64, .bool (t363 == t364))) 15 rfl rfl (hon 17 (by kernel_rfl)) rfl
                      replace ha := Aside0.mk ha
                      have HO327 := Aside0.mk Q_HO327
                      have HO331 := Aside0.mk Q_HO331
                      have HO342 := Aside0.mk Q_HO342
                      have HO345 := Aside0.mk Q_HO345
                      have HO357 := Aside0.mk Q_HO357
                      have HO360 := Aside0.mk Q_HO360
                      have BK321 := Aside0.mk Q_BK321
                      have BK322 := Aside0.mk Q_BK322
                      have BK347 := Aside0.mk Q_BK347
                      have BK362 := Aside0.mk Q_BK362
                      have HB := Aside0.mk Q_HB
                      refine value_ (w1 := w') (v := .bool (t363 == t364)) (by rfl) rfl ?_ ?_
                      · go_simp
                        (try simp only [i64_w])
                        try rfl
                      refine hK.out _ _ ⟨(by rw [ha.out]; exact putSel_upk 16 hb_ rfl rfl rfl), Q_HO327, Q_HO331, Q_HO342, Q_HO345, Q_HO357, Q_HO360, Q_BK321, Q_BK322, Q_BK347, Q_BK362, Q_HB⟩
                    refine steps_cons ?_ ?_
                    · rintro b a w' ⟨ha, Q_HO327, Q_HO331, Q_HO342, Q_HO345, Q_HO357, Q_HO360, Q_BK321, Q_BK322, Q_BK347, Q_BK362, Q_HB⟩ hb_ hon hoff
                      refine ⟨_, rfl, fun K hK => ?_⟩
                      have e65 : a.tmps[65]? = some (.bool (t363 == t364)) := by rw [ha]; exact putSel_on (e := (18, 65, .bool (t363 == t364))) 16 rfl rfl (hon 18 (by kernel_rfl)) rfl
                      replace ha := Aside0.mk ha
                      have HO327 := Aside0.mk Q_HO327
                      have HO331 := Aside0.mk Q_HO331
                      have HO342 := Aside0.mk Q_HO342
                      have HO345 := Aside0.mk Q_HO345
                      have HO357 := Aside0.mk Q_HO357
                      have HO360 := Aside0.mk Q_HO360
                      have BK321 := Aside0.mk Q_BK321
                      have BK322 := Aside0.mk Q_BK322
                      have BK347 := Aside0.mk Q_BK347
                      have BK362 := Aside0.mk Q_BK362
                      have HB := Aside0.mk Q_HB
                      refine value_ (w1 := w') (v := .bool (t363 == t364)) (by rfl) rfl ?_ ?_
                      · go_simp
                        (try simp only [i64_w])
                        try rfl
                      refine hK.out _ _ ⟨(by rw [ha.out]; exact putSel_upk 17 hb_ rfl rfl rfl), Q_HO327, Q_HO331, Q_HO342, Q_HO345, Q_HO357, Q_HO360, Q_BK321, Q_BK322, Q_BK347, Q_BK362, Q_HB⟩
                    refine steps_cons ?_ ?_
                    · rintro b a w' ⟨ha, Q_HO327, Q_HO331, Q_HO342, Q_HO345, Q_HO357, Q_HO360, Q_BK321, Q_BK322, Q_BK347, Q_BK362, Q_HB⟩ hb_ hon hoff
                      refine ⟨_, rfl, fun K hK => ?_⟩
                      have e13 : a.tmps[13]? = some (.pointer (some ⟨gb347, 0, none⟩)) := by rw [ha]; exact (putSel_off rfl).trans rfl
                      have e66 : a.tmps[66]? = some (.bool (t363 == t364)) := by rw [ha]; exact putSel_on (e := (19, 66, .bool (t363 == t364))) 17 rfl rfl (hon 19 (by kernel_rfl)) rfl
                      replace ha := Aside0.mk ha
                      have HO327 := Aside0.mk Q_HO327
                      have HO331 := Aside0.mk Q_HO331
                      have HO342 := Aside0.mk Q_HO342
                      have HO345 := Aside0.mk Q_HO345
                      have HO357 := Aside0.mk Q_HO357
                      have HO360 := Aside0.mk Q_HO360
                      have BK321 := Aside0.mk Q_BK321
                      have BK322 := Aside0.mk Q_BK322
                      have BK347 := Aside0.mk Q_BK347
                      have BK362 := Aside0.mk Q_BK362
                      have HB := Aside0.mk Q_HB
                      have hc0_ : w'.cell? ⟨gb347, 0, none⟩ = some (.int .i64 t333) := (blk_cell BK347.out 0).trans rfl
                      have hc1_ : w'.cell? ⟨gb347, 1, none⟩ = some (.int .i64 t334) := (blk_cell BK347.out 1).trans rfl
                      have hc2_ : w'.cell? ⟨gb347, 2, none⟩ = some (.int .u32 t335) := (blk_cell BK347.out 2).trans rfl
                      have hc3_ : w'.cell? ⟨gb347, 3, none⟩ = some (.int .u32 t336) := (blk_cell BK347.out 3).trans rfl
                      have hc4_ : w'.cell? ⟨gb347, 4, none⟩ = some (.int .i64 t337) := (blk_cell BK347.out 4).trans rfl
                      have hc5_ : w'.cell? ⟨gb347, 5, none⟩ = some (.int .i64 t338) := (blk_cell BK347.out 5).trans rfl
                      have hc6_ : w'.cell? ⟨gb347, 6, none⟩ = some (.int .i64 t339) := (blk_cell BK347.out 6).trans rfl
                      have hc7_ : w'.cell? ⟨gb347, 7, none⟩ = some (.slice Ao44 t340.length co44) := (blk_cell BK347.out 7).trans rfl
                      have hc8_ : w'.cell? ⟨gb347, 8, none⟩ = some (.slice Ao45 t343.length co45) := (blk_cell BK347.out 8).trans rfl
                      refine value_ (w1 := w') (v := .agg #[.int .i64 t333, .int .i64 t334, .int .u32 t335, .int .u32 t336, .int .i64 t337, .int .i64 t338, .int .i64 t339, .slice Ao44 t340.length co44, .slice Ao45 t343.length co45]) (wanted_on rfl rfl rfl (e66.trans (by first | rfl | (simp [*]; done)))) rfl ?_ ?_
                      · go_simp
                        (try simp only [i64_w])
                        try rfl
                      refine hK.out _ _ ⟨(by rw [ha.out]; exact putSel_upk 18 hb_ rfl rfl rfl), Q_HO327, Q_HO331, Q_HO342, Q_HO345, Q_HO357, Q_HO360, Q_BK321, Q_BK322, Q_BK347, Q_BK362, Q_HB⟩
                    refine steps_cons ?_ ?_
                    · rintro b a w' ⟨ha, Q_HO327, Q_HO331, Q_HO342, Q_HO345, Q_HO357, Q_HO360, Q_BK321, Q_BK322, Q_BK347, Q_BK362, Q_HB⟩ hb_ hon hoff
                      refine ⟨_, rfl, fun K hK => ?_⟩
                      have e15 : a.tmps[15]? = some (.pointer (some ⟨gb362, 0, none⟩)) := by rw [ha]; exact (putSel_off rfl).trans rfl
                      have e66 : a.tmps[66]? = some (.bool (t363 == t364)) := by rw [ha]; exact putSel_on (e := (19, 66, .bool (t363 == t364))) 17 rfl rfl (hon 19 (by kernel_rfl)) rfl
                      replace ha := Aside0.mk ha
                      have HO327 := Aside0.mk Q_HO327
                      have HO331 := Aside0.mk Q_HO331
                      have HO342 := Aside0.mk Q_HO342
                      have HO345 := Aside0.mk Q_HO345
                      have HO357 := Aside0.mk Q_HO357
                      have HO360 := Aside0.mk Q_HO360
                      have BK321 := Aside0.mk Q_BK321
                      have BK322 := Aside0.mk Q_BK322
                      have BK347 := Aside0.mk Q_BK347
                      have BK362 := Aside0.mk Q_BK362
                      have HB := Aside0.mk Q_HB
                      have hc0_ : w'.cell? ⟨gb362, 0, none⟩ = some (.int .i64 t348) := (blk_cell BK362.out 0).trans rfl
                      have hc1_ : w'.cell? ⟨gb362, 1, none⟩ = some (.int .i64 t349) := (blk_cell BK362.out 1).trans rfl
                      have hc2_ : w'.cell? ⟨gb362, 2, none⟩ = some (.int .u32 t350) := (blk_cell BK362.out 2).trans rfl
                      have hc3_ : w'.cell? ⟨gb362, 3, none⟩ = some (.int .u32 t351) := (blk_cell BK362.out 3).trans rfl
                      have hc4_ : w'.cell? ⟨gb362, 4, none⟩ = some (.int .i64 t352) := (blk_cell BK362.out 4).trans rfl
                      have hc5_ : w'.cell? ⟨gb362, 5, none⟩ = some (.int .i64 t353) := (blk_cell BK362.out 5).trans rfl
                      have hc6_ : w'.cell? ⟨gb362, 6, none⟩ = some (.int .i64 t354) := (blk_cell BK362.out 6).trans rfl
                      have hc7_ : w'.cell? ⟨gb362, 7, none⟩ = some (.slice Ao53 t355.length co53) := (blk_cell BK362.out 7).trans rfl
                      have hc8_ : w'.cell? ⟨gb362, 8, none⟩ = some (.slice Ao54 t358.length co54) := (blk_cell BK362.out 8).trans rfl
                      refine value_ (w1 := w') (v := .agg #[.int .i64 t348, .int .i64 t349, .int .u32 t350, .int .u32 t351, .int .i64 t352, .int .i64 t353, .int .i64 t354, .slice Ao53 t355.length co53, .slice Ao54 t358.length co54]) (wanted_on rfl rfl rfl (e66.trans (by first | rfl | (simp [*]; done)))) rfl ?_ ?_
                      · go_simp
                        (try simp only [i64_w])
                        try rfl
                      refine hK.out _ _ ⟨(by rw [ha.out]; exact putSel_upk 19 hb_ rfl rfl rfl), Q_HO327, Q_HO331, Q_HO342, Q_HO345, Q_HO357, Q_HO360, Q_BK321, Q_BK322, Q_BK347, Q_BK362, Q_HB⟩
                    refine steps_cons ?_ ?_
                    · rintro b a w' ⟨ha, Q_HO327, Q_HO331, Q_HO342, Q_HO345, Q_HO357, Q_HO360, Q_BK321, Q_BK322, Q_BK347, Q_BK362, Q_HB⟩ hb_ hon hoff
                      refine ⟨_, rfl, fun K hK => ?_⟩
                      have e67 : a.tmps[67]? = some (.agg #[.int .i64 t333, .int .i64 t334, .int .u32 t335, .int .u32 t336, .int .i64 t337, .int .i64 t338, .int .i64 t339, .slice Ao44 t340.length co44, .slice Ao45 t343.length co45]) := by rw [ha]; exact putSel_on (e := (20, 67, .agg #[.int .i64 t333, .int .i64 t334, .int .u32 t335, .int .u32 t336, .int .i64 t337, .int .i64 t338, .int .i64 t339, .slice Ao44 t340.length co44, .slice Ao45 t343.length co45])) 18 rfl rfl (hon 20 (by kernel_rfl)) rfl
                      have e68 : a.tmps[68]? = some (.agg #[.int .i64 t348, .int .i64 t349, .int .u32 t350, .int .u32 t351, .int .i64 t352, .int .i64 t353, .int .i64 t354, .slice Ao53 t355.length co53, .slice Ao54 t358.length co54]) := by rw [ha]; exact putSel_on (e := (21, 68, .agg #[.int .i64 t348, .int .i64 t349, .int .u32 t350, .int .u32 t351, .int .i64 t352, .int .i64 t353, .int .i64 t354, .slice Ao53 t355.length co53, .slice Ao54 t358.length co54])) 19 rfl rfl (hon 21 (by kernel_rfl)) rfl
                      have e66 : a.tmps[66]? = some (.bool (t363 == t364)) := by rw [ha]; exact putSel_on (e := (19, 66, .bool (t363 == t364))) 17 rfl rfl (hon 19 (by kernel_rfl)) rfl
                      replace ha := Aside0.mk ha
                      have HO327 := Aside0.mk Q_HO327
                      have HO331 := Aside0.mk Q_HO331
                      have HO342 := Aside0.mk Q_HO342
                      have HO345 := Aside0.mk Q_HO345
                      have HO357 := Aside0.mk Q_HO357
                      have HO360 := Aside0.mk Q_HO360
                      have BK321 := Aside0.mk Q_BK321
                      have BK322 := Aside0.mk Q_BK322
                      have BK347 := Aside0.mk Q_BK347
                      have BK362 := Aside0.mk Q_BK362
                      have HB := Aside0.mk Q_HB
                      refine goes_ Try.func23 (by kernel_rfl) rfl #[.agg #[.int .i64 t333, .int .i64 t334, .int .u32 t335, .int .u32 t336, .int .i64 t337, .int .i64 t338, .int .i64 t339, .slice Ao44 t340.length co44, .slice Ao45 t343.length co45], .agg #[.int .i64 t348, .int .i64 t349, .int .u32 t350, .int .u32 t351, .int .i64 t352, .int .i64 t353, .int .i64 t354, .slice Ao53 t355.length co53, .slice Ao54 t358.length co54]] (wanted_on rfl rfl rfl (e66.trans (by first | rfl | (simp [*]; done)))) rfl rfl (by first | (simp only [List.map_toArray, List.map_cons, List.map_nil, Act.eval, Array.getD_eq_getD_getElem?, Option.getD_some, e67, e68, e66]; done) | (simp only [List.map_toArray, List.map_cons, List.map_nil, Act.eval, Array.getD_eq_getD_getElem?, Option.getD_some, e67, e68, e66]; rfl)) ?_
                      with_reducible refine (castellanref5_Same.calls t333 t334 t335 t336 t337 t338 t339 _ _ t340 _ _ t343 t348 t349 t350 t351 t352 t353 t354 _ _ t355 _ _ t358 true _ ?side1 ?side2 ?side3 ?side4 ?side5 ?side6 ?side7 ?side8 A29.out).mono ?_
                      (case side1 => repeat (first | exact (Kd.R_reads' HO342.out).2.2 | (with_reducible refine Kd.C_alloc ?_ _) | (with_reducible refine Kd.C_drewN ?_ _) | (with_reducible refine Kd.C_drew ?_)))
                      (case side2 => exact (Kd.R_reads' HO342.out).2.1)
                      (case side3 => repeat (first | exact (Kd.R_reads' HO345.out).2.2 | (with_reducible refine Kd.C_alloc ?_ _) | (with_reducible refine Kd.C_drewN ?_ _) | (with_reducible refine Kd.C_drew ?_)))
                      (case side4 => exact (Kd.R_reads' HO345.out).2.1)
                      (case side5 => repeat (first | exact (Kd.R_reads' HO357.out).2.2 | (with_reducible refine Kd.C_alloc ?_ _) | (with_reducible refine Kd.C_drewN ?_ _) | (with_reducible refine Kd.C_drew ?_)))
                      (case side6 => exact (Kd.R_reads' HO357.out).2.1)
                      (case side7 => repeat (first | exact (Kd.R_reads' HO360.out).2.2 | (with_reducible refine Kd.C_alloc ?_ _) | (with_reducible refine Kd.C_drewN ?_ _) | (with_reducible refine Kd.C_drew ?_)))
                      (case side8 => exact (Kd.R_reads' HO360.out).2.1)
                      rintro e w62 ⟨rfl, hb⟩
                      refine ⟨_, rfl, ?_⟩
                      have n0_ := Aside0.mk (Kd.R_below (by (with_reducible repeat (first | apply Kd.R_alloc | apply Kd.R_drewN | apply Kd.R_drew)); exact HO327.out) hb)
                      have n1_ := Aside0.mk (Kd.R_below (by (with_reducible repeat (first | apply Kd.R_alloc | apply Kd.R_drewN | apply Kd.R_drew)); exact HO331.out) hb)
                      have n2_ := Aside0.mk (Kd.R_below (by (with_reducible repeat (first | apply Kd.R_alloc | apply Kd.R_drewN | apply Kd.R_drew)); exact HO342.out) hb)
                      have n3_ := Aside0.mk (Kd.R_below (by (with_reducible repeat (first | apply Kd.R_alloc | apply Kd.R_drewN | apply Kd.R_drew)); exact HO345.out) hb)
                      have n4_ := Aside0.mk (Kd.R_below (by (with_reducible repeat (first | apply Kd.R_alloc | apply Kd.R_drewN | apply Kd.R_drew)); exact HO357.out) hb)
                      have n5_ := Aside0.mk (Kd.R_below (by (with_reducible repeat (first | apply Kd.R_alloc | apply Kd.R_drewN | apply Kd.R_drew)); exact HO360.out) hb)
                      have n6_ := Aside0.mk (blk_below (g := gb321) (o := .cells #[.int .i64 a2_0, .int .i64 a2_1, .int .u32 a2_2, .int .u32 a2_3, .int .i64 a2_4, .int .i64 a2_5, .int .i64 a2_6, .slice A2_7 l2_7.length c2_7, .slice A2_8 l2_8.length c2_8] 27 (0, 0)) (by (with_reducible repeat (first | refine blk_drewN ?_ _ | refine blk_drew ?_ | refine blk_alloc ?_ _)); exact BK321.out) hb)
                      have n7_ := Aside0.mk (blk_below (g := gb322) (o := .cells #[.int .i64 a3_0, .int .i64 a3_1, .int .u32 a3_2, .int .u32 a3_3, .int .i64 a3_4, .int .i64 a3_5, .int .i64 a3_6, .slice A3_7 l3_7.length c3_7, .slice A3_8 l3_8.length c3_8] 27 (0, 0)) (by (with_reducible repeat (first | refine blk_drewN ?_ _ | refine blk_drew ?_ | refine blk_alloc ?_ _)); exact BK322.out) hb)
                      have n8_ := Aside0.mk (blk_below (g := gb347) (o := .cells #[.int .i64 t333, .int .i64 t334, .int .u32 t335, .int .u32 t336, .int .i64 t337, .int .i64 t338, .int .i64 t339, .slice Ao44 t340.length co44, .slice Ao45 t343.length co45] 27 (0, 0)) (by (with_reducible repeat (first | refine blk_drewN ?_ _ | refine blk_drew ?_ | refine blk_alloc ?_ _)); exact BK347.out) hb)
                      have n9_ := Aside0.mk (blk_below (g := gb362) (o := .cells #[.int .i64 t348, .int .i64 t349, .int .u32 t350, .int .u32 t351, .int .i64 t352, .int .i64 t353, .int .i64 t354, .slice Ao53 t355.length co53, .slice Ao54 t358.length co54] 27 (0, 0)) (by (with_reducible repeat (first | refine blk_drewN ?_ _ | refine blk_drew ?_ | refine blk_alloc ?_ _)); exact BK362.out) hb)
                      have n10_ := Aside0.mk (below_step (by repeat (first | (with_reducible first | exact HB.out | apply below_alloc | apply pw_below_drewN | apply below_drew1 | refine below_set ?_ GE321.out | refine below_set ?_ GE322.out | refine below_set ?_ GE347.out | refine below_set ?_ GE362.out) | exact HB.out)) hb)
                      clear HO327
                      clear HO331
                      clear HO342
                      clear HO345
                      clear HO357
                      clear HO360
                      clear BK321
                      clear BK322
                      clear BK347
                      clear BK362
                      clear HB
                      have HO327 := n0_
                      have HO331 := n1_
                      have HO342 := n2_
                      have HO345 := n3_
                      have HO357 := n4_
                      have HO360 := n5_
                      have BK321 := n6_
                      have BK322 := n7_
                      have BK347 := n8_
                      have BK362 := n9_
                      have HB := n10_
                      clear n0_ n1_ n2_ n3_ n4_ n5_ n6_ n7_ n8_ n9_ n10_
                      (try clear hb)
                      (try clear hb2)
                      (try clear hk)
                      (try clear hi)
                      refine hK.out _ _ ⟨(by rw [ha.out]; exact putSel_upk 20 hb_ rfl rfl rfl), (by first | ((with_reducible repeat (first | apply Kd.R_alloc | apply Kd.R_drewN | apply Kd.R_drew)); exact HO327.out) | ((with_reducible repeat (first | apply Kd.R_alloc | apply Kd.R_drewN | apply Kd.R_drew)); exact Kd.R_mono HO327.out (fun _ hk => by first | trivial | exact hk | exact hk.1 | exact hk.2 | exact hk.1.1 | exact okw hk))), (by first | ((with_reducible repeat (first | apply Kd.R_alloc | apply Kd.R_drewN | apply Kd.R_drew)); exact HO331.out) | ((with_reducible repeat (first | apply Kd.R_alloc | apply Kd.R_drewN | apply Kd.R_drew)); exact Kd.R_mono HO331.out (fun _ hk => by first | trivial | exact hk | exact hk.1 | exact hk.2 | exact hk.1.1 | exact okw hk))), (by first | ((with_reducible repeat (first | apply Kd.R_alloc | apply Kd.R_drewN | apply Kd.R_drew)); exact HO342.out) | ((with_reducible repeat (first | apply Kd.R_alloc | apply Kd.R_drewN | apply Kd.R_drew)); exact Kd.R_mono HO342.out (fun _ hk => by first | trivial | exact hk | exact hk.1 | exact hk.2 | exact hk.1.1 | exact okw hk))), (by first | ((with_reducible repeat (first | apply Kd.R_alloc | apply Kd.R_drewN | apply Kd.R_drew)); exact HO345.out) | ((with_reducible repeat (first | apply Kd.R_alloc | apply Kd.R_drewN | apply Kd.R_drew)); exact Kd.R_mono HO345.out (fun _ hk => by first | trivial | exact hk | exact hk.1 | exact hk.2 | exact hk.1.1 | exact okw hk))), (by first | ((with_reducible repeat (first | apply Kd.R_alloc | apply Kd.R_drewN | apply Kd.R_drew)); exact HO357.out) | ((with_reducible repeat (first | apply Kd.R_alloc | apply Kd.R_drewN | apply Kd.R_drew)); exact Kd.R_mono HO357.out (fun _ hk => by first | trivial | exact hk | exact hk.1 | exact hk.2 | exact hk.1.1 | exact okw hk))), (by first | ((with_reducible repeat (first | apply Kd.R_alloc | apply Kd.R_drewN | apply Kd.R_drew)); exact HO360.out) | ((with_reducible repeat (first | apply Kd.R_alloc | apply Kd.R_drewN | apply Kd.R_drew)); exact Kd.R_mono HO360.out (fun _ hk => by first | trivial | exact hk | exact hk.1 | exact hk.2 | exact hk.1.1 | exact okw hk))), (by (with_reducible repeat (first | refine blk_drewN ?_ _ | refine blk_drew ?_ | refine blk_alloc ?_ _)); exact BK321.out), (by (with_reducible repeat (first | refine blk_drewN ?_ _ | refine blk_drew ?_ | refine blk_alloc ?_ _)); exact BK322.out), (by (with_reducible repeat (first | refine blk_drewN ?_ _ | refine blk_drew ?_ | refine blk_alloc ?_ _)); exact BK347.out), (by (with_reducible repeat (first | refine blk_drewN ?_ _ | refine blk_drew ?_ | refine blk_alloc ?_ _)); exact BK362.out), (by repeat (first | (with_reducible first | exact HB.out | apply below_alloc | apply pw_below_drewN | apply below_drew1 | refine below_set ?_ GE321.out | refine below_set ?_ GE322.out | refine below_set ?_ GE347.out | refine below_set ?_ GE362.out) | exact HB.out))⟩
                    refine steps_cons ?_ ?_
                    · rintro b a w' ⟨ha, Q_HO327, Q_HO331, Q_HO342, Q_HO345, Q_HO357, Q_HO360, Q_BK321, Q_BK322, Q_BK347, Q_BK362, Q_HB⟩ hb_ hon hoff
                      refine ⟨_, rfl, fun K hK => ?_⟩
                      have e66 : a.tmps[66]? = some (.bool (t363 == t364)) := by rw [ha]; exact putSel_on (e := (19, 66, .bool (t363 == t364))) 17 rfl rfl (hon 19 (by kernel_rfl)) rfl
                      have e69 : a.tmps[69]? = some (.bool true) := by rw [ha]; exact putSel_on (e := (22, 69, .bool true)) 20 rfl rfl (hon 22 (by kernel_rfl)) rfl
                      replace ha := Aside0.mk ha
                      have HO327 := Aside0.mk Q_HO327
                      have HO331 := Aside0.mk Q_HO331
                      have HO342 := Aside0.mk Q_HO342
                      have HO345 := Aside0.mk Q_HO345
                      have HO357 := Aside0.mk Q_HO357
                      have HO360 := Aside0.mk Q_HO360
                      have BK321 := Aside0.mk Q_BK321
                      have BK322 := Aside0.mk Q_BK322
                      have BK347 := Aside0.mk Q_BK347
                      have BK362 := Aside0.mk Q_BK362
                      have HB := Aside0.mk Q_HB
                      refine value_ (w1 := w') (v := .bool true) (by rfl) rfl ?_ ?_
                      · go_simp
                        (try simp only [i64_w])
                        try rfl
                      refine hK.out _ _ ⟨(by rw [ha.out]; exact putSel_upk 21 hb_ rfl rfl rfl), Q_HO327, Q_HO331, Q_HO342, Q_HO345, Q_HO357, Q_HO360, Q_BK321, Q_BK322, Q_BK347, Q_BK362, Q_HB⟩
                    refine steps_cons ?_ ?_
                    · rintro b a w' ⟨ha, Q_HO327, Q_HO331, Q_HO342, Q_HO345, Q_HO357, Q_HO360, Q_BK321, Q_BK322, Q_BK347, Q_BK362, Q_HB⟩ hb_ hon hoff
                      refine ⟨_, rfl, fun K hK => ?_⟩
                      have e70 : a.tmps[70]? = some (.bool true) := by rw [ha]; exact putSel_on (e := (23, 70, .bool true)) 21 rfl rfl (hon 23 (by kernel_rfl)) rfl
                      replace ha := Aside0.mk ha
                      have HO327 := Aside0.mk Q_HO327
                      have HO331 := Aside0.mk Q_HO331
                      have HO342 := Aside0.mk Q_HO342
                      have HO345 := Aside0.mk Q_HO345
                      have HO357 := Aside0.mk Q_HO357
                      have HO360 := Aside0.mk Q_HO360
                      have BK321 := Aside0.mk Q_BK321
                      have BK322 := Aside0.mk Q_BK322
                      have BK347 := Aside0.mk Q_BK347
                      have BK362 := Aside0.mk Q_BK362
                      have HB := Aside0.mk Q_HB
                      refine value_ (w1 := w') (v := .bool true) (by rfl) rfl ?_ ?_
                      · go_simp
                        (try simp only [i64_w])
                        try rfl
                      refine hK.out _ _ ⟨(by rw [ha.out]; exact putSel_upk 22 hb_ rfl rfl rfl), Q_HO327, Q_HO331, Q_HO342, Q_HO345, Q_HO357, Q_HO360, Q_BK321, Q_BK322, Q_BK347, Q_BK362, Q_HB⟩
                    refine steps_cons ?_ ?_
                    · rintro b a w' ⟨ha, Q_HO327, Q_HO331, Q_HO342, Q_HO345, Q_HO357, Q_HO360, Q_BK321, Q_BK322, Q_BK347, Q_BK362, Q_HB⟩ hb_ hon hoff
                      refine ⟨_, rfl, fun K hK => ?_⟩
                      have e14 : a.tmps[14]? = some (.bool t346) := by rw [ha]; exact (putSel_off rfl).trans rfl
                      have e71 : a.tmps[71]? = some (.bool true) := by rw [ha]; exact putSel_on (e := (24, 71, .bool true)) 22 rfl rfl (hon 24 (by kernel_rfl)) rfl
                      replace ha := Aside0.mk ha
                      have HO327 := Aside0.mk Q_HO327
                      have HO331 := Aside0.mk Q_HO331
                      have HO342 := Aside0.mk Q_HO342
                      have HO345 := Aside0.mk Q_HO345
                      have HO357 := Aside0.mk Q_HO357
                      have HO360 := Aside0.mk Q_HO360
                      have BK321 := Aside0.mk Q_BK321
                      have BK322 := Aside0.mk Q_BK322
                      have BK347 := Aside0.mk Q_BK347
                      have BK362 := Aside0.mk Q_BK362
                      have HB := Aside0.mk Q_HB
                      refine value_ (w1 := w') (v := .bool t346) (wanted_on rfl rfl rfl (e71.trans (by first | rfl | (simp [*]; done)))) rfl ?_ ?_
                      · go_simp
                        (try simp only [i64_w])
                        try rfl
                      refine hK.out _ _ ⟨(by rw [ha.out]; exact putSel_upk 23 hb_ rfl rfl rfl), Q_HO327, Q_HO331, Q_HO342, Q_HO345, Q_HO357, Q_HO360, Q_BK321, Q_BK322, Q_BK347, Q_BK362, Q_HB⟩
                    refine steps_cons ?_ ?_
                    · rintro b a w' ⟨ha, Q_HO327, Q_HO331, Q_HO342, Q_HO345, Q_HO357, Q_HO360, Q_BK321, Q_BK322, Q_BK347, Q_BK362, Q_HB⟩ hb_ hon hoff
                      refine ⟨_, rfl, fun K hK => ?_⟩
                      have e16 : a.tmps[16]? = some (.bool t361) := by rw [ha]; exact (putSel_off rfl).trans rfl
                      have e71 : a.tmps[71]? = some (.bool true) := by rw [ha]; exact putSel_on (e := (24, 71, .bool true)) 22 rfl rfl (hon 24 (by kernel_rfl)) rfl
                      replace ha := Aside0.mk ha
                      have HO327 := Aside0.mk Q_HO327
                      have HO331 := Aside0.mk Q_HO331
                      have HO342 := Aside0.mk Q_HO342
                      have HO345 := Aside0.mk Q_HO345
                      have HO357 := Aside0.mk Q_HO357
                      have HO360 := Aside0.mk Q_HO360
                      have BK321 := Aside0.mk Q_BK321
                      have BK322 := Aside0.mk Q_BK322
                      have BK347 := Aside0.mk Q_BK347
                      have BK362 := Aside0.mk Q_BK362
                      have HB := Aside0.mk Q_HB
                      refine value_ (w1 := w') (v := .bool t361) (wanted_on rfl rfl rfl (e71.trans (by first | rfl | (simp [*]; done)))) rfl ?_ ?_
                      · go_simp
                        (try simp only [i64_w])
                        try rfl
                      refine hK.out _ _ ⟨(by rw [ha.out]; exact putSel_upk 24 hb_ rfl rfl rfl), Q_HO327, Q_HO331, Q_HO342, Q_HO345, Q_HO357, Q_HO360, Q_BK321, Q_BK322, Q_BK347, Q_BK362, Q_HB⟩
                    refine steps_cons ?_ ?_
                    · rintro b a w' ⟨ha, Q_HO327, Q_HO331, Q_HO342, Q_HO345, Q_HO357, Q_HO360, Q_BK321, Q_BK322, Q_BK347, Q_BK362, Q_HB⟩ hb_ hon hoff
                      refine ⟨_, rfl, fun K hK => ?_⟩
                      have e72 : a.tmps[72]? = some (.bool t346) := by rw [ha]; exact putSel_on (e := (25, 72, .bool t346)) 23 rfl rfl (hon 25 (by kernel_rfl)) rfl
                      have e73 : a.tmps[73]? = some (.bool t361) := by rw [ha]; exact putSel_on (e := (26, 73, .bool t361)) 24 rfl rfl (hon 26 (by kernel_rfl)) rfl
                      have e71 : a.tmps[71]? = some (.bool true) := by rw [ha]; exact putSel_on (e := (24, 71, .bool true)) 22 rfl rfl (hon 24 (by kernel_rfl)) rfl
                      replace ha := Aside0.mk ha
                      have HO327 := Aside0.mk Q_HO327
                      have HO331 := Aside0.mk Q_HO331
                      have HO342 := Aside0.mk Q_HO342
                      have HO345 := Aside0.mk Q_HO345
                      have HO357 := Aside0.mk Q_HO357
                      have HO360 := Aside0.mk Q_HO360
                      have BK321 := Aside0.mk Q_BK321
                      have BK322 := Aside0.mk Q_BK322
                      have BK347 := Aside0.mk Q_BK347
                      have BK362 := Aside0.mk Q_BK362
                      have HB := Aside0.mk Q_HB
                      refine value_ (w1 := w') (v := .bool (t346 == t361)) (wanted_on rfl rfl rfl (e71.trans (by first | rfl | (simp [*]; done)))) rfl ?_ ?_
                      · go_simp
                        (try simp only [i64_w])
                        try rfl
                      refine hK.out _ _ ⟨(by rw [ha.out]; exact putSel_upk 25 hb_ rfl rfl rfl), Q_HO327, Q_HO331, Q_HO342, Q_HO345, Q_HO357, Q_HO360, Q_BK321, Q_BK322, Q_BK347, Q_BK362, Q_HB⟩
                    refine steps_cons ?_ ?_
                    · rintro b a w' ⟨ha, Q_HO327, Q_HO331, Q_HO342, Q_HO345, Q_HO357, Q_HO360, Q_BK321, Q_BK322, Q_BK347, Q_BK362, Q_HB⟩ hb_ hon hoff
                      refine ⟨_, rfl, fun K hK => ?_⟩
                      have e71 : a.tmps[71]? = some (.bool true) := by rw [ha]; exact putSel_on (e := (24, 71, .bool true)) 22 rfl rfl (hon 24 (by kernel_rfl)) rfl
                      have e74 : a.tmps[74]? = some (.bool (t346 == t361)) := by rw [ha]; exact putSel_on (e := (27, 74, .bool (t346 == t361))) 25 rfl rfl (hon 27 (by kernel_rfl)) rfl
                      replace ha := Aside0.mk ha
                      have HO327 := Aside0.mk Q_HO327
                      have HO331 := Aside0.mk Q_HO331
                      have HO342 := Aside0.mk Q_HO342
                      have HO345 := Aside0.mk Q_HO345
                      have HO357 := Aside0.mk Q_HO357
                      have HO360 := Aside0.mk Q_HO360
                      have BK321 := Aside0.mk Q_BK321
                      have BK322 := Aside0.mk Q_BK322
                      have BK347 := Aside0.mk Q_BK347
                      have BK362 := Aside0.mk Q_BK362
                      have HB := Aside0.mk Q_HB
                      refine value_ (w1 := w') (v := .bool (t346 == t361)) (by rfl) rfl ?_ ?_
                      · go_simp
                        (try simp only [i64_w])
                        try rfl
                      refine hK.out _ _ ⟨(by rw [ha.out]; exact putSel_upk 26 hb_ rfl rfl rfl), Q_HO327, Q_HO331, Q_HO342, Q_HO345, Q_HO357, Q_HO360, Q_BK321, Q_BK322, Q_BK347, Q_BK362, Q_HB⟩
                    refine steps_cons ?_ ?_
                    · rintro b a w' ⟨ha, Q_HO327, Q_HO331, Q_HO342, Q_HO345, Q_HO357, Q_HO360, Q_BK321, Q_BK322, Q_BK347, Q_BK362, Q_HB⟩ hb_ hon hoff
                      refine ⟨_, rfl, fun K hK => ?_⟩
                      have e75 : a.tmps[75]? = some (.bool (t346 == t361)) := by rw [ha]; exact putSel_on (e := (28, 75, .bool (t346 == t361))) 26 rfl rfl (hon 28 (by kernel_rfl)) rfl
                      replace ha := Aside0.mk ha
                      have HO327 := Aside0.mk Q_HO327
                      have HO331 := Aside0.mk Q_HO331
                      have HO342 := Aside0.mk Q_HO342
                      have HO345 := Aside0.mk Q_HO345
                      have HO357 := Aside0.mk Q_HO357
                      have HO360 := Aside0.mk Q_HO360
                      have BK321 := Aside0.mk Q_BK321
                      have BK322 := Aside0.mk Q_BK322
                      have BK347 := Aside0.mk Q_BK347
                      have BK362 := Aside0.mk Q_BK362
                      have HB := Aside0.mk Q_HB
                      refine value_ (w1 := w') (v := .bool (t346 == t361)) (by rfl) rfl ?_ ?_
                      · go_simp
                        (try simp only [i64_w])
                        try rfl
                      refine hK.out _ _ ⟨(by rw [ha.out]; exact putSel_upk 27 hb_ rfl rfl rfl), Q_HO327, Q_HO331, Q_HO342, Q_HO345, Q_HO357, Q_HO360, Q_BK321, Q_BK322, Q_BK347, Q_BK362, Q_HB⟩
                    refine steps_cons ?_ ?_
                    · rintro b a w' ⟨ha, Q_HO327, Q_HO331, Q_HO342, Q_HO345, Q_HO357, Q_HO360, Q_BK321, Q_BK322, Q_BK347, Q_BK362, Q_HB⟩ hb_ hon hoff
                      refine ⟨_, rfl, fun K hK => ?_⟩
                      have e76 : a.tmps[76]? = some (.bool (t346 == t361)) := by rw [ha]; exact putSel_on (e := (29, 76, .bool (t346 == t361))) 27 rfl rfl (hon 29 (by kernel_rfl)) rfl
                      replace ha := Aside0.mk ha
                      have HO327 := Aside0.mk Q_HO327
                      have HO331 := Aside0.mk Q_HO331
                      have HO342 := Aside0.mk Q_HO342
                      have HO345 := Aside0.mk Q_HO345
                      have HO357 := Aside0.mk Q_HO357
                      have HO360 := Aside0.mk Q_HO360
                      have BK321 := Aside0.mk Q_BK321
                      have BK322 := Aside0.mk Q_BK322
                      have BK347 := Aside0.mk Q_BK347
                      have BK362 := Aside0.mk Q_BK362
                      have HB := Aside0.mk Q_HB
                      refine goes_ Try.func19 (by kernel_rfl) rfl #[] (wanted_on rfl rfl rfl (e76.trans (by first | rfl | (simp [*]; done)))) rfl rfl (by first | (simp only [List.map_toArray, List.map_cons, List.map_nil, Act.eval, Array.getD_eq_getD_getElem?, Option.getD_some, e76]; done) | (simp only [List.map_toArray, List.map_cons, List.map_nil, Act.eval, Array.getD_eq_getD_getElem?, Option.getD_some, e76]; rfl)) ?_
                      with_reducible refine (castellanlaw5_known.calls kj4  t366 _ A32.out).mono ?_
                      rintro e w63 ⟨rfl, hb⟩
                      refine ⟨_, rfl, ?_⟩
                      have n0_ := Aside0.mk (Kd.R_below (by (with_reducible repeat (first | apply Kd.R_alloc | apply Kd.R_drewN | apply Kd.R_drew)); exact HO327.out) hb)
                      have n1_ := Aside0.mk (Kd.R_below (by (with_reducible repeat (first | apply Kd.R_alloc | apply Kd.R_drewN | apply Kd.R_drew)); exact HO331.out) hb)
                      have n2_ := Aside0.mk (Kd.R_below (by (with_reducible repeat (first | apply Kd.R_alloc | apply Kd.R_drewN | apply Kd.R_drew)); exact HO342.out) hb)
                      have n3_ := Aside0.mk (Kd.R_below (by (with_reducible repeat (first | apply Kd.R_alloc | apply Kd.R_drewN | apply Kd.R_drew)); exact HO345.out) hb)
                      have n4_ := Aside0.mk (Kd.R_below (by (with_reducible repeat (first | apply Kd.R_alloc | apply Kd.R_drewN | apply Kd.R_drew)); exact HO357.out) hb)
                      have n5_ := Aside0.mk (Kd.R_below (by (with_reducible repeat (first | apply Kd.R_alloc | apply Kd.R_drewN | apply Kd.R_drew)); exact HO360.out) hb)
                      have n6_ := Aside0.mk (blk_below (g := gb321) (o := .cells #[.int .i64 a2_0, .int .i64 a2_1, .int .u32 a2_2, .int .u32 a2_3, .int .i64 a2_4, .int .i64 a2_5, .int .i64 a2_6, .slice A2_7 l2_7.length c2_7, .slice A2_8 l2_8.length c2_8] 27 (0, 0)) (by (with_reducible repeat (first | refine blk_drewN ?_ _ | refine blk_drew ?_ | refine blk_alloc ?_ _)); exact BK321.out) hb)
                      have n7_ := Aside0.mk (blk_below (g := gb322) (o := .cells #[.int .i64 a3_0, .int .i64 a3_1, .int .u32 a3_2, .int .u32 a3_3, .int .i64 a3_4, .int .i64 a3_5, .int .i64 a3_6, .slice A3_7 l3_7.length c3_7, .slice A3_8 l3_8.length c3_8] 27 (0, 0)) (by (with_reducible repeat (first | refine blk_drewN ?_ _ | refine blk_drew ?_ | refine blk_alloc ?_ _)); exact BK322.out) hb)
                      have n8_ := Aside0.mk (blk_below (g := gb347) (o := .cells #[.int .i64 t333, .int .i64 t334, .int .u32 t335, .int .u32 t336, .int .i64 t337, .int .i64 t338, .int .i64 t339, .slice Ao44 t340.length co44, .slice Ao45 t343.length co45] 27 (0, 0)) (by (with_reducible repeat (first | refine blk_drewN ?_ _ | refine blk_drew ?_ | refine blk_alloc ?_ _)); exact BK347.out) hb)
                      have n9_ := Aside0.mk (blk_below (g := gb362) (o := .cells #[.int .i64 t348, .int .i64 t349, .int .u32 t350, .int .u32 t351, .int .i64 t352, .int .i64 t353, .int .i64 t354, .slice Ao53 t355.length co53, .slice Ao54 t358.length co54] 27 (0, 0)) (by (with_reducible repeat (first | refine blk_drewN ?_ _ | refine blk_drew ?_ | refine blk_alloc ?_ _)); exact BK362.out) hb)
                      have n10_ := Aside0.mk (below_step (by repeat (first | (with_reducible first | exact HB.out | apply below_alloc | apply pw_below_drewN | apply below_drew1 | refine below_set ?_ GE321.out | refine below_set ?_ GE322.out | refine below_set ?_ GE347.out | refine below_set ?_ GE362.out) | exact HB.out)) hb)
                      clear HO327
                      clear HO331
                      clear HO342
                      clear HO345
                      clear HO357
                      clear HO360
                      clear BK321
                      clear BK322
                      clear BK347
                      clear BK362
                      clear HB
                      have HO327 := n0_
                      have HO331 := n1_
                      have HO342 := n2_
                      have HO345 := n3_
                      have HO357 := n4_
                      have HO360 := n5_
                      have BK321 := n6_
                      have BK322 := n7_
                      have BK347 := n8_
                      have BK362 := n9_
                      have HB := n10_
                      clear n0_ n1_ n2_ n3_ n4_ n5_ n6_ n7_ n8_ n9_ n10_
                      (try clear hb)
                      (try clear hb2)
                      (try clear hk)
                      (try clear hi)
                      refine hK.out _ _ ⟨(by rw [ha.out]; exact putSel_upk 28 hb_ rfl rfl rfl), (by first | ((with_reducible repeat (first | apply Kd.R_alloc | apply Kd.R_drewN | apply Kd.R_drew)); exact HO327.out) | ((with_reducible repeat (first | apply Kd.R_alloc | apply Kd.R_drewN | apply Kd.R_drew)); exact Kd.R_mono HO327.out (fun _ hk => by first | trivial | exact hk | exact hk.1 | exact hk.2 | exact hk.1.1 | exact okw hk))), (by first | ((with_reducible repeat (first | apply Kd.R_alloc | apply Kd.R_drewN | apply Kd.R_drew)); exact HO331.out) | ((with_reducible repeat (first | apply Kd.R_alloc | apply Kd.R_drewN | apply Kd.R_drew)); exact Kd.R_mono HO331.out (fun _ hk => by first | trivial | exact hk | exact hk.1 | exact hk.2 | exact hk.1.1 | exact okw hk))), (by first | ((with_reducible repeat (first | apply Kd.R_alloc | apply Kd.R_drewN | apply Kd.R_drew)); exact HO342.out) | ((with_reducible repeat (first | apply Kd.R_alloc | apply Kd.R_drewN | apply Kd.R_drew)); exact Kd.R_mono HO342.out (fun _ hk => by first | trivial | exact hk | exact hk.1 | exact hk.2 | exact hk.1.1 | exact okw hk))), (by first | ((with_reducible repeat (first | apply Kd.R_alloc | apply Kd.R_drewN | apply Kd.R_drew)); exact HO345.out) | ((with_reducible repeat (first | apply Kd.R_alloc | apply Kd.R_drewN | apply Kd.R_drew)); exact Kd.R_mono HO345.out (fun _ hk => by first | trivial | exact hk | exact hk.1 | exact hk.2 | exact hk.1.1 | exact okw hk))), (by first | ((with_reducible repeat (first | apply Kd.R_alloc | apply Kd.R_drewN | apply Kd.R_drew)); exact HO357.out) | ((with_reducible repeat (first | apply Kd.R_alloc | apply Kd.R_drewN | apply Kd.R_drew)); exact Kd.R_mono HO357.out (fun _ hk => by first | trivial | exact hk | exact hk.1 | exact hk.2 | exact hk.1.1 | exact okw hk))), (by first | ((with_reducible repeat (first | apply Kd.R_alloc | apply Kd.R_drewN | apply Kd.R_drew)); exact HO360.out) | ((with_reducible repeat (first | apply Kd.R_alloc | apply Kd.R_drewN | apply Kd.R_drew)); exact Kd.R_mono HO360.out (fun _ hk => by first | trivial | exact hk | exact hk.1 | exact hk.2 | exact hk.1.1 | exact okw hk))), (by (with_reducible repeat (first | refine blk_drewN ?_ _ | refine blk_drew ?_ | refine blk_alloc ?_ _)); exact BK321.out), (by (with_reducible repeat (first | refine blk_drewN ?_ _ | refine blk_drew ?_ | refine blk_alloc ?_ _)); exact BK322.out), (by (with_reducible repeat (first | refine blk_drewN ?_ _ | refine blk_drew ?_ | refine blk_alloc ?_ _)); exact BK347.out), (by (with_reducible repeat (first | refine blk_drewN ?_ _ | refine blk_drew ?_ | refine blk_alloc ?_ _)); exact BK362.out), (by repeat (first | (with_reducible first | exact HB.out | apply below_alloc | apply pw_below_drewN | apply below_drew1 | refine below_set ?_ GE321.out | refine below_set ?_ GE322.out | refine below_set ?_ GE347.out | refine below_set ?_ GE362.out) | exact HB.out))⟩
                    refine steps_cons ?_ ?_
                    · rintro b a w' ⟨ha, Q_HO327, Q_HO331, Q_HO342, Q_HO345, Q_HO357, Q_HO360, Q_BK321, Q_BK322, Q_BK347, Q_BK362, Q_HB⟩ hb_ hon hoff
                      refine ⟨_, rfl, fun K hK => ?_⟩
                      have e76 : a.tmps[76]? = some (.bool (t346 == t361)) := by rw [ha]; exact putSel_on (e := (29, 76, .bool (t346 == t361))) 27 rfl rfl (hon 29 (by kernel_rfl)) rfl
                      have e77 : a.tmps[77]? = some (.bool t366) := by rw [ha]; exact putSel_on (e := (30, 77, .bool t366)) 28 rfl rfl (hon 30 (by kernel_rfl)) rfl
                      replace ha := Aside0.mk ha
                      have HO327 := Aside0.mk Q_HO327
                      have HO331 := Aside0.mk Q_HO331
                      have HO342 := Aside0.mk Q_HO342
                      have HO345 := Aside0.mk Q_HO345
                      have HO357 := Aside0.mk Q_HO357
                      have HO360 := Aside0.mk Q_HO360
                      have BK321 := Aside0.mk Q_BK321
                      have BK322 := Aside0.mk Q_BK322
                      have BK347 := Aside0.mk Q_BK347
                      have BK362 := Aside0.mk Q_BK362
                      have HB := Aside0.mk Q_HB
                      refine value_ (w1 := w') (v := .bool t366) (by rfl) rfl ?_ ?_
                      · go_simp
                        (try simp only [i64_w])
                        try rfl
                      refine hK.out _ _ ⟨(by rw [ha.out]; exact putSel_upk 29 hb_ rfl rfl rfl), Q_HO327, Q_HO331, Q_HO342, Q_HO345, Q_HO357, Q_HO360, Q_BK321, Q_BK322, Q_BK347, Q_BK362, Q_HB⟩
                    refine steps_cons ?_ ?_
                    · rintro b a w' ⟨ha, Q_HO327, Q_HO331, Q_HO342, Q_HO345, Q_HO357, Q_HO360, Q_BK321, Q_BK322, Q_BK347, Q_BK362, Q_HB⟩ hb_ hon hoff
                      refine ⟨_, rfl, fun K hK => ?_⟩
                      have e78 : a.tmps[78]? = some (.bool t366) := by rw [ha]; exact putSel_on (e := (31, 78, .bool t366)) 29 rfl rfl (hon 31 (by kernel_rfl)) rfl
                      replace ha := Aside0.mk ha
                      have HO327 := Aside0.mk Q_HO327
                      have HO331 := Aside0.mk Q_HO331
                      have HO342 := Aside0.mk Q_HO342
                      have HO345 := Aside0.mk Q_HO345
                      have HO357 := Aside0.mk Q_HO357
                      have HO360 := Aside0.mk Q_HO360
                      have BK321 := Aside0.mk Q_BK321
                      have BK322 := Aside0.mk Q_BK322
                      have BK347 := Aside0.mk Q_BK347
                      have BK362 := Aside0.mk Q_BK362
                      have HB := Aside0.mk Q_HB
                      refine value_ (w1 := w') (v := .bool t366) (by rfl) rfl ?_ ?_
                      · go_simp
                        (try simp only [i64_w])
                        try rfl
                      refine hK.out _ _ ⟨(by rw [ha.out]; exact putSel_upk 30 hb_ rfl rfl rfl), Q_HO327, Q_HO331, Q_HO342, Q_HO345, Q_HO357, Q_HO360, Q_BK321, Q_BK322, Q_BK347, Q_BK362, Q_HB⟩
                    exact steps_nil
                  rintro b a w63 hall ⟨ha, Q_HO327, Q_HO331, Q_HO342, Q_HO345, Q_HO357, Q_HO360, Q_BK321, Q_BK322, Q_BK347, Q_BK362, Q_HB⟩
                  clear BK321 BK322 BK347 BK362 HB HO327 HO331 HO342 HO345 HO357 HO360
                  have hb1_ := hall 1 (by kernel_rfl)
                  have hb3_ := hall 3 (by kernel_rfl)
                  have hb4_ := hall 4 (by kernel_rfl)
                  have hb5_ := hall 5 (by kernel_rfl)
                  have hb6_ := hall 6 (by kernel_rfl)
                  have hb7_ := hall 7 (by kernel_rfl)
                  have hb8_ := hall 8 (by kernel_rfl)
                  have hb9_ := hall 9 (by kernel_rfl)
                  have hb10_ := hall 10 (by kernel_rfl)
                  have hb11_ := hall 11 (by kernel_rfl)
                  have hb12_ := hall 12 (by kernel_rfl)
                  have hb13_ := hall 13 (by kernel_rfl)
                  have hb14_ := hall 14 (by kernel_rfl)
                  have hb15_ := hall 15 (by kernel_rfl)
                  have hb16_ := hall 16 (by kernel_rfl)
                  have hb17_ := hall 17 (by kernel_rfl)
                  have hb18_ := hall 18 (by kernel_rfl)
                  have hb19_ := hall 19 (by kernel_rfl)
                  have hb20_ := hall 20 (by kernel_rfl)
                  have hb21_ := hall 21 (by kernel_rfl)
                  have hb22_ := hall 22 (by kernel_rfl)
                  have hb23_ := hall 23 (by kernel_rfl)
                  have hb24_ := hall 24 (by kernel_rfl)
                  have hb25_ := hall 25 (by kernel_rfl)
                  have hb26_ := hall 26 (by kernel_rfl)
                  have hb27_ := hall 27 (by kernel_rfl)
                  have hb28_ := hall 28 (by kernel_rfl)
                  have hb29_ := hall 29 (by kernel_rfl)
                  have hb30_ := hall 30 (by kernel_rfl)
                  have hb31_ := hall 31 (by kernel_rfl)
                  have hb32_ := hall 32 (by kernel_rfl)
                  subst ha
                  simp only [putSel, hb1_, hb3_, hb4_, hb5_, hb6_, hb7_, hb8_, hb9_, hb10_, hb11_, hb12_, hb13_, hb14_, hb15_, hb16_, hb17_, hb18_, hb19_, hb20_, hb21_, hb22_, hb23_, hb24_, hb25_, hb26_, hb27_, hb28_, hb29_, hb30_, hb31_, hb32_, if_true, Act.put, List.setIfInBounds_toArray, List.set_cons_zero, List.set_cons_succ]
                  have HO327 := Aside0.mk Q_HO327
                  clear Q_HO327
                  have HO331 := Aside0.mk Q_HO331
                  clear Q_HO331
                  have HO342 := Aside0.mk Q_HO342
                  clear Q_HO342
                  have HO345 := Aside0.mk Q_HO345
                  clear Q_HO345
                  have HO357 := Aside0.mk Q_HO357
                  clear Q_HO357
                  have HO360 := Aside0.mk Q_HO360
                  clear Q_HO360
                  have BK321 := Aside0.mk Q_BK321
                  clear Q_BK321
                  have BK322 := Aside0.mk Q_BK322
                  clear Q_BK322
                  have BK347 := Aside0.mk Q_BK347
                  clear Q_BK347
                  have BK362 := Aside0.mk Q_BK362
                  clear Q_BK362
                  have HB := Aside0.mk Q_HB
                  clear Q_HB
                  clear hall hb1_ hb3_ hb4_ hb5_ hb6_ hb7_ hb8_ hb9_ hb10_ hb11_ hb12_ hb13_ hb14_ hb15_ hb16_ hb17_ hb18_ hb19_ hb20_ hb21_ hb22_ hb23_ hb24_ hb25_ hb26_ hb27_ hb28_ hb29_ hb30_ hb31_ hb32_
                  try go_wp2
                  go_ret
                  exact ⟨by first | rfl | (simp [errW_none, errW_some] <;> rfl) | (simp [*, errW_none, errW_some] <;> rfl), by repeat (first | (with_reducible first | exact HB.out | apply below_alloc | apply pw_below_drewN | apply below_drew1 | refine below_set ?_ GE321.out | refine below_set ?_ GE322.out | refine below_set ?_ GE347.out | refine below_set ?_ GE362.out) | exact HB.out)⟩
                · rw [if_neg c31] at H
                  have c31b0 : (t346 == t361) = false := by simpa using c31
                  (try (have c31b1 : decide (t346 = t361) = false := by simpa using c31))
                  (try (have c31b2 : (t346 == t361) = false := by simpa using c31))
                  (try (have c31b3 : ¬ (t346 = t361) := by simpa using c31))
                  clear c31
                  exact absurd (H.trans (congrArg some HRT.out)) (by simp)
              · replace c30 := Bool.eq_false_iff.mpr c30
                subst c30
                have H1 : (some false) = some r := by rw [if_neg (show ¬ (false = true) by decide)] at H; exact H
                clear H
                have H := H1
                clear H1
                exact absurd (H.trans (congrArg some HRT.out)) (by simp)
            · rw [if_neg c28] at H
              have c28b0 : (t363 == t364) = false := by simpa using c28
              (try (have c28b1 : decide (t363 = t364) = false := by simpa using c28))
              (try (have c28b2 : (t363 == t364) = false := by simpa using c28))
              (try (have c28b3 : ¬ (t363 = t364) := by simpa using c28))
              clear c28
              exact absurd (H.trans (congrArg some HRT.out)) (by simp)
          · rw [if_neg c25] at H
            have c25b0 : (t328 == t332) = false := beq_eq_false_iff_ne.mpr c25
            have c25b1 : (t328 != t332) = true := bne_iff_ne.mpr c25
            exact absurd (H.trans (congrArg some HRT.out)) (by simp)
        · rw [if_neg c24] at H
          have c24b0 : ((strOfNums t325).toList == (strOfNums t329).toList) = false := beq_eq_false_iff_ne.mpr c24
          have c24b1 : ((strOfNums t325).toList != (strOfNums t329).toList) = true := bne_iff_ne.mpr c24
          exact absurd (H.trans (congrArg some HRT.out)) (by simp)

/-- THE ONE PURE STATEMENT of castellanlaw5_TcpBuilds: yours. -/
def castellanlaw5_TcpBuilds.Pure : Prop := ∀ (a0 : Int) (a1 : Int) (a2_0 : Int) (a2_1 : Int) (a2_2 : Int) (a2_3 : Int) (a2_4 : Int) (a2_5 : Int) (a2_6 : Int) (l2_7 : List Int) (l2_8 : List Int) (a3_0 : Int) (a3_1 : Int) (a3_2 : Int) (a3_3 : Int) (a3_4 : Int) (a3_5 : Int) (a3_6 : Int) (l3_7 : List Int) (l3_8 : List Int), (Lit.int .u32 a0).wf = true → (Lit.int .u32 a1).wf = true → (Lit.int .i64 a2_0).wf = true → (Lit.int .i64 a2_1).wf = true → (Lit.int .u32 a2_2).wf = true → (Lit.int .u32 a2_3).wf = true → (Lit.int .i64 a2_4).wf = true → (Lit.int .i64 a2_5).wf = true → (Lit.int .i64 a2_6).wf = true → l2_7.length ≤ maxLen → l2_7.length * 1 ≤ 140737488351232 → (∀ x ∈ l2_7, (Lit.int .u8 x).wf = true) → l2_8.length ≤ maxLen → l2_8.length * 1 ≤ 140737488351232 → (∀ x ∈ l2_8, (Lit.int .u8 x).wf = true) → (Lit.int .i64 a3_0).wf = true → (Lit.int .i64 a3_1).wf = true → (Lit.int .u32 a3_2).wf = true → (Lit.int .u32 a3_3).wf = true → (Lit.int .i64 a3_4).wf = true → (Lit.int .i64 a3_5).wf = true → (Lit.int .i64 a3_6).wf = true → l3_7.length ≤ maxLen → l3_7.length * 1 ≤ 140737488351232 → (∀ x ∈ l3_7, (Lit.int .u8 x).wf = true) → l3_8.length ≤ maxLen → l3_8.length * 1 ≤ 140737488351232 → (∀ x ∈ l3_8, (Lit.int .u8 x).wf = true) → ∃ k, castellanlaw5_TcpBuilds.f k a0 a1 a2_0 a2_1 a2_2 a2_3 a2_4 a2_5 a2_6 l2_7 l2_8 a3_0 a3_1 a3_2 a3_3 a3_4 a3_5 a3_6 l3_7 l3_8 = some true
theorem castellanlaw5_TcpBuilds.walk (P : castellanlaw5_TcpBuilds.Pure) (a0 : Int) (a1 : Int) (a2_0 : Int) (a2_1 : Int) (a2_2 : Int) (a2_3 : Int) (a2_4 : Int) (a2_5 : Int) (a2_6 : Int) (a2_7 : Option Addr) (len2_7 cap2_7 : Nat) (z2_7 : List Int) (a2_8 : Option Addr) (len2_8 cap2_8 : Nat) (z2_8 : List Int) (a3_0 : Int) (a3_1 : Int) (a3_2 : Int) (a3_3 : Int) (a3_4 : Int) (a3_5 : Int) (a3_6 : Int) (a3_7 : Option Addr) (len3_7 cap3_7 : Nat) (z3_7 : List Int) (a3_8 : Option Addr) (len3_8 cap3_8 : Nat) (z3_8 : List Int) (w : World) (w0 : (Lit.int .u32 a0).wf = true) (w1 : (Lit.int .u32 a1).wf = true) (w2_0 : (Lit.int .i64 a2_0).wf = true) (w2_1 : (Lit.int .i64 a2_1).wf = true) (w2_2 : (Lit.int .u32 a2_2).wf = true) (w2_3 : (Lit.int .u32 a2_3).wf = true) (w2_4 : (Lit.int .i64 a2_4).wf = true) (w2_5 : (Lit.int .i64 a2_5).wf = true) (w2_6 : (Lit.int .i64 a2_6).wf = true) (w2_7 : (a2_7 = none ∧ len2_7 = 0 ∧ cap2_7 = 0 ∧ z2_7 = []) ∨ ∃ x, a2_7 = some x ∧ len2_7 ≤ cap2_7 ∧ cap2_7 ≤ maxLen ∧ z2_7.length = cap2_7 ∧ (∀ i, i < z2_7.length → w.cell? (x.add i) = some (.int .u8 (z2_7.getD i 0))) ∧ ∀ n ∈ z2_7, (Lit.int .u8 n).wf = true) (y2_7 : len2_7 * 1 ≤ 140737488351232) (w2_8 : (a2_8 = none ∧ len2_8 = 0 ∧ cap2_8 = 0 ∧ z2_8 = []) ∨ ∃ x, a2_8 = some x ∧ len2_8 ≤ cap2_8 ∧ cap2_8 ≤ maxLen ∧ z2_8.length = cap2_8 ∧ (∀ i, i < z2_8.length → w.cell? (x.add i) = some (.int .u8 (z2_8.getD i 0))) ∧ ∀ n ∈ z2_8, (Lit.int .u8 n).wf = true) (y2_8 : len2_8 * 1 ≤ 140737488351232) (w3_0 : (Lit.int .i64 a3_0).wf = true) (w3_1 : (Lit.int .i64 a3_1).wf = true) (w3_2 : (Lit.int .u32 a3_2).wf = true) (w3_3 : (Lit.int .u32 a3_3).wf = true) (w3_4 : (Lit.int .i64 a3_4).wf = true) (w3_5 : (Lit.int .i64 a3_5).wf = true) (w3_6 : (Lit.int .i64 a3_6).wf = true) (w3_7 : (a3_7 = none ∧ len3_7 = 0 ∧ cap3_7 = 0 ∧ z3_7 = []) ∨ ∃ x, a3_7 = some x ∧ len3_7 ≤ cap3_7 ∧ cap3_7 ≤ maxLen ∧ z3_7.length = cap3_7 ∧ (∀ i, i < z3_7.length → w.cell? (x.add i) = some (.int .u8 (z3_7.getD i 0))) ∧ ∀ n ∈ z3_7, (Lit.int .u8 n).wf = true) (y3_7 : len3_7 * 1 ≤ 140737488351232) (w3_8 : (a3_8 = none ∧ len3_8 = 0 ∧ cap3_8 = 0 ∧ z3_8 = []) ∨ ∃ x, a3_8 = some x ∧ len3_8 ≤ cap3_8 ∧ cap3_8 ≤ maxLen ∧ z3_8.length = cap3_8 ∧ (∀ i, i < z3_8.length → w.cell? (x.add i) = some (.int .u8 (z3_8.getD i 0))) ∧ ∀ n ∈ z3_8, (Lit.int .u8 n).wf = true) (y3_8 : len3_8 * 1 ≤ 140737488351232) :
    Calls Try.prog 9 #[.int .u32 a0, .int .u32 a1, .agg #[.int .i64 a2_0, .int .i64 a2_1, .int .u32 a2_2, .int .u32 a2_3, .int .i64 a2_4, .int .i64 a2_5, .int .i64 a2_6, .slice a2_7 len2_7 cap2_7, .slice a2_8 len2_8 cap2_8], .agg #[.int .i64 a3_0, .int .i64 a3_1, .int .u32 a3_2, .int .u32 a3_3, .int .i64 a3_4, .int .i64 a3_5, .int .i64 a3_6, .slice a3_7 len3_7 cap3_7, .slice a3_8 len3_8 cap3_8]] w fun e w' => e = .returned (.bool true) ∧ Below w.heap.size w w' := by
  obtain ⟨l2_7, rfl, hr2_7, hm2_7, hw2_7, hc2_7⟩ := ReadsInt.ofRowC w2_7
  obtain ⟨l2_8, rfl, hr2_8, hm2_8, hw2_8, hc2_8⟩ := ReadsInt.ofRowC w2_8
  obtain ⟨l3_7, rfl, hr3_7, hm3_7, hw3_7, hc3_7⟩ := ReadsInt.ofRowC w3_7
  obtain ⟨l3_8, rfl, hr3_8, hm3_8, hw3_8, hc3_8⟩ := ReadsInt.ofRowC w3_8
  obtain ⟨k, h⟩ := P a0 a1 a2_0 a2_1 a2_2 a2_3 a2_4 a2_5 a2_6 l2_7 l2_8 a3_0 a3_1 a3_2 a3_3 a3_4 a3_5 a3_6 l3_7 l3_8 w0 w1 w2_0 w2_1 w2_2 w2_3 w2_4 w2_5 w2_6 hm2_7 y2_7 hw2_7 hm2_8 y2_8 hw2_8 w3_0 w3_1 w3_2 w3_3 w3_4 w3_5 w3_6 hm3_7 y3_7 hw3_7 hm3_8 y3_8 hw3_8
  refine (castellanlaw5_TcpBuilds.calls k a0 a1 a2_0 a2_1 a2_2 a2_3 a2_4 a2_5 a2_6 _ _ l2_7 _ _ l2_8 a3_0 a3_1 a3_2 a3_3 a3_4 a3_5 a3_6 _ _ l3_7 _ _ l3_8 true w (Kd.C_of_reads (d := (0 : Int)) (h1 := fun _ => rfl) hr2_7) hc2_7 (Kd.C_of_reads (d := (0 : Int)) (h1 := fun _ => rfl) hr2_8) hc2_8 (Kd.C_of_reads (d := (0 : Int)) (h1 := fun _ => rfl) hr3_7) hc3_7 (Kd.C_of_reads (d := (0 : Int)) (h1 := fun _ => rfl) hr3_8) hc3_8 rfl h).mono ?_
  rintro e w' ⟨rfl, hd⟩
  exact ⟨rfl, hd⟩

end Go.Proofs.Ytbenimfjhcbplaa.QTcpBuilds
