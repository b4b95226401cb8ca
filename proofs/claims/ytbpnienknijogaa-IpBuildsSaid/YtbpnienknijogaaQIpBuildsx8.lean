-- written by myprint.py, a program of this session's over the kit's printer
import Derived.Test.YtbpnienknijogaaQIpBuildsx0
import Derived.Test.YtbpnienknijogaaQIpBuildsx1
import Derived.Test.YtbpnienknijogaaQIpBuildsx4
import Derived.Test.YtbpnienknijogaaQIpBuildsx5
import Derived.Test.YtbpnienknijogaaQIpBuildsx6
import Derived.Test.YtbpnienknijogaaQIpBuildsx7
namespace Go.Proofs.Ytbpnienknijogaa.QIpBuilds
open Go.RowKit Go.Proofs.YtbpnienknijogaaW.PrintWords Go.Proofs.YtbpnienknijogaaW.PrintLast Go.Proofs.YtbpnienknijogaaW.PrintMore
attribute [local go_sem] max2_int min2_int max_two min_two max_three min_three max_four min_four   -- for this text's walks alone
set_option linter.unusedVariables false
set_option linter.unusedSimpArgs false

/-! ### castellanlaw4_IpBuilds: function 12 -/
def castellanlaw4_IpBuilds.j0 : Nat → Bool → Int → Int → Bool → Bool → Int → Int → Int → Int → Int → List Int → List Int → Int → Int → Bool → Bool → Int → Int → Int → Int → Int → List Int → List Int → Option (Bool)
  | 0, _, _, _, _, _, _, _, _, _, _, _, _, _, _, _, _, _, _, _, _, _, _, _ => none
  | k + 1, x14, x299000, x299001, x299002, x299003, x299004, x299005, x299006, x299007, x299008, x299009, x299010, x300000, x300001, x300002, x300003, x300004, x300005, x300006, x300007, x300008, x300009, x300010 => if x14 = true then (some true) else ((ip_Build.f k x299000 x299001 x299002 x299003 x299004 x299005 x299006 x299007 x299008 x299009 x299010).bind fun bt302 => ((castellanref4_Build.f k x299000 x299001 x299002 x299003 x299004 x299005 x299006 x299007 x299008 x299009 x299010).bind fun bt306 => (if (strOfNums bt302.1).toList = (strOfNums bt306.1).toList then (if bt302.2 = bt306.2 then ((ip_Same.f x299000 x299001 x299002 x299003 x299004 x299005 x299006 x299007 x299008 x299009 x299010 x300000 x300001 x300002 x300003 x300004 x300005 x300006 x300007 x300008 x300009 x300010).bind fun t310 => ((castellanref4_Same.f x299000 x299001 x299002 x299003 x299004 x299005 x299006 x299007 x299008 x299009 x299010 x300000 x300001 x300002 x300003 x300004 x300005 x300006 x300007 x300008 x300009 x300010).bind fun t311 => (if (t310 == t311) = true then ((ip_Same.f x299000 x299001 x299002 x299003 x299004 x299005 x299006 x299007 x299008 x299009 x299010 x299000 x299001 x299002 x299003 x299004 x299005 x299006 x299007 x299008 x299009 x299010).bind fun t312 => (if t312 = true then ((castellanlaw4_known.f k).bind fun t313 => (some t313)) else (some false))) else (some false)))) else (some false)) else (some false))))
def castellanlaw4_IpBuilds.f (k : Nat) (a0_0 : Int) (a0_1 : Int) (a0_2 : Bool) (a0_3 : Bool) (a0_4 : Int) (a0_5 : Int) (a0_6 : Int) (a0_7 : Int) (a0_8 : Int) (l0_9 : List Int) (l0_10 : List Int) (a1_0 : Int) (a1_1 : Int) (a1_2 : Bool) (a1_3 : Bool) (a1_4 : Int) (a1_5 : Int) (a1_6 : Int) (a1_7 : Int) (a1_8 : Int) (l1_9 : List Int) (l1_10 : List Int) : Option (Bool) := (castellanlaw4_long.f a0_0 a0_1 a0_2 a0_3 a0_4 a0_5 a0_6 a0_7 a0_8 l0_9 l0_10).bind fun t300 => (if t300 = true then (castellanlaw4_IpBuilds.j0 k true a0_0 a0_1 a0_2 a0_3 a0_4 a0_5 a0_6 a0_7 a0_8 l0_9 l0_10 a1_0 a1_1 a1_2 a1_3 a1_4 a1_5 a1_6 a1_7 a1_8 l1_9 l1_10) else ((castellanlaw4_long.f a1_0 a1_1 a1_2 a1_3 a1_4 a1_5 a1_6 a1_7 a1_8 l1_9 l1_10).bind fun t301 => (castellanlaw4_IpBuilds.j0 k t301 a0_0 a0_1 a0_2 a0_3 a0_4 a0_5 a0_6 a0_7 a0_8 l0_9 l0_10 a1_0 a1_1 a1_2 a1_3 a1_4 a1_5 a1_6 a1_7 a1_8 l1_9 l1_10)))
theorem castellanlaw4_IpBuilds.mono_l : ∀ k, (∀ y0 y1 y2 y3 y4 y5 y6 y7 y8 y9 y10 y11 y12 y13 y14 y15 y16 y17 y18 y19 y20 y21 y22, LeO (castellanlaw4_IpBuilds.j0 k y0 y1 y2 y3 y4 y5 y6 y7 y8 y9 y10 y11 y12 y13 y14 y15 y16 y17 y18 y19 y20 y21 y22) (castellanlaw4_IpBuilds.j0 (k + 1) y0 y1 y2 y3 y4 y5 y6 y7 y8 y9 y10 y11 y12 y13 y14 y15 y16 y17 y18 y19 y20 y21 y22))
  | 0 => fun _ _ _ _ _ _ _ _ _ _ _ _ _ _ _ _ _ _ _ _ _ _ _ r h => by simp [castellanlaw4_IpBuilds.j0] at h
  | k + 1 => by
    have ih0 := castellanlaw4_IpBuilds.mono_l k
    · intro y0 y1 y2 y3 y4 y5 y6 y7 y8 y9 y10 y11 y12 y13 y14 y15 y16 y17 y18 y19 y20 y21 y22
      unfold castellanlaw4_IpBuilds.j0
      repeat' first
      | (with_reducible exact ih0 _ _ _ _ _ _ _ _ _ _ _ _ _ _ _ _ _ _ _ _ _ _ _)
      | (with_reducible exact castellanlaw4_known.mono _)
      | (with_reducible exact castellanref4_Build.mono _ _ _ _ _ _ _ _ _ _ _ _)
      | (with_reducible exact ip_Build.mono _ _ _ _ _ _ _ _ _ _ _ _)
      | (with_reducible exact LeO.refl _)
      | (with_reducible exact LeO.none _)
      | (with_reducible refine LeO.ite ?_ ?_)
      | (with_reducible refine LeO.bind ?_ (fun _ => ?_))
      | exact ih0 _ _ _ _ _ _ _ _ _ _ _ _ _ _ _ _ _ _ _ _ _ _ _
      | exact castellanlaw4_known.mono _
      | exact castellanref4_Build.mono _ _ _ _ _ _ _ _ _ _ _ _
      | exact ip_Build.mono _ _ _ _ _ _ _ _ _ _ _ _
      | exact LeO.none _
      | refine LeO.ite ?_ ?_
      | refine LeO.bind ?_ (fun _ => ?_)
theorem castellanlaw4_IpBuilds.mono : ∀ a0 a1 a2 a3 a4 a5 a6 a7 a8 a9 a10 a11 a12 a13 a14 a15 a16 a17 a18 a19 a20 a21 k, LeO (castellanlaw4_IpBuilds.f k a0 a1 a2 a3 a4 a5 a6 a7 a8 a9 a10 a11 a12 a13 a14 a15 a16 a17 a18 a19 a20 a21) (castellanlaw4_IpBuilds.f (k + 1) a0 a1 a2 a3 a4 a5 a6 a7 a8 a9 a10 a11 a12 a13 a14 a15 a16 a17 a18 a19 a20 a21) := by
  intro a0 a1 a2 a3 a4 a5 a6 a7 a8 a9 a10 a11 a12 a13 a14 a15 a16 a17 a18 a19 a20 a21 k
  have ih0 := castellanlaw4_IpBuilds.mono_l k
  unfold castellanlaw4_IpBuilds.f
  repeat' first
      | (with_reducible exact ih0 _ _ _ _ _ _ _ _ _ _ _ _ _ _ _ _ _ _ _ _ _ _ _)
      | (with_reducible exact castellanlaw4_known.mono _)
      | (with_reducible exact castellanref4_Build.mono _ _ _ _ _ _ _ _ _ _ _ _)
      | (with_reducible exact ip_Build.mono _ _ _ _ _ _ _ _ _ _ _ _)
      | (with_reducible exact LeO.refl _)
      | (with_reducible exact LeO.none _)
      | (with_reducible refine LeO.ite ?_ ?_)
      | (with_reducible refine LeO.bind ?_ (fun _ => ?_))
      | exact ih0 _ _ _ _ _ _ _ _ _ _ _ _ _ _ _ _ _ _ _ _ _ _ _
      | exact castellanlaw4_known.mono _
      | exact castellanref4_Build.mono _ _ _ _ _ _ _ _ _ _ _ _
      | exact ip_Build.mono _ _ _ _ _ _ _ _ _ _ _ _
      | exact LeO.none _
      | refine LeO.ite ?_ ?_
      | refine LeO.bind ?_ (fun _ => ?_)
def castellanlaw4_IpBuilds.T5 : Bool × List (List Nat × List Nat) := (true, [([], []), ([0], [0]), ([], []), ([2], [2]), ([1, 3], [1, 3]), ([4], [4]), ([5], [5]), ([5], [5]), ([6, 7, 5], [5, 6, 7]), ([5, 8], [5, 8]), ([9, 5], [9]), ([10], [10]), ([10], [10]), ([11, 12, 10, 10], [10, 11, 12]), ([10], [10]), ([10], [10]), ([14, 15, 13, 10], [10, 14, 15]), ([13, 16, 10], [10, 13, 16]), ([10, 17], [10, 17]), ([18, 16], [18]), ([19], [19]), ([19], [19]), ([20, 21, 19, 19], [19, 20, 21]), ([19, 22], [19, 22]), ([23, 22], [23]), ([24, 24], [24]), ([24, 25], [24, 25]), ([26, 25, 0, 1, 2, 3, 4, 5, 6, 7, 8, 9, 10, 11, 12, 13, 14, 15, 16, 17, 18, 19, 20, 21, 22, 23, 24, 25, 26], [26])])
def castellanlaw4_IpBuilds.B5 : List Nat := [0, 1, 0, 4, 15, 31, 63, 63, 255, 511, 1023, 2047, 2047, 8191, 2047, 2047, 65535, 131071, 262143, 524287, 1048575, 1048575, 4194303, 8388607, 16777215, 33554431, 67108863, 134217727]
theorem castellanlaw4_IpBuilds.tab5 : rtab .any (opsOf Try.f12 5) = castellanlaw4_IpBuilds.T5 := by kernel_rfl
theorem castellanlaw4_IpBuilds.bits5 : waitsOk castellanlaw4_IpBuilds.T5.2 castellanlaw4_IpBuilds.B5 = true := by kernel_rfl
set_option maxHeartbeats 8000000 in
set_option maxRecDepth 100000 in
theorem castellanlaw4_IpBuilds.calls (k : Nat) (a0_0 : Int) (a0_1 : Int) (a0_2 : Bool) (a0_3 : Bool) (a0_4 : Int) (a0_5 : Int) (a0_6 : Int) (a0_7 : Int) (a0_8 : Int) (A0_9 : Option Addr) (c0_9 : Nat) (l0_9 : List Int) (A0_10 : Option Addr) (c0_10 : Nat) (l0_10 : List Int) (a1_0 : Int) (a1_1 : Int) (a1_2 : Bool) (a1_3 : Bool) (a1_4 : Int) (a1_5 : Int) (a1_6 : Int) (a1_7 : Int) (a1_8 : Int) (A1_9 : Option Addr) (c1_9 : Nat) (l1_9 : List Int) (A1_10 : Option Addr) (c1_10 : Nat) (l1_10 : List Int) (r : Bool) (w : World) (hr0_9 : Kd.C (Kd.int .u8) w A0_9 l0_9.length l0_9) (hc0_9 : l0_9.length ≤ c0_9) (hr0_10 : Kd.C (Kd.int .u8) w A0_10 l0_10.length l0_10) (hc0_10 : l0_10.length ≤ c0_10) (hr1_9 : Kd.C (Kd.int .u8) w A1_9 l1_9.length l1_9) (hc1_9 : l1_9.length ≤ c1_9) (hr1_10 : Kd.C (Kd.int .u8) w A1_10 l1_10.length l1_10) (hc1_10 : l1_10.length ≤ c1_10) (hrt : r = true) (h : castellanlaw4_IpBuilds.f k a0_0 a0_1 a0_2 a0_3 a0_4 a0_5 a0_6 a0_7 a0_8 l0_9 l0_10 a1_0 a1_1 a1_2 a1_3 a1_4 a1_5 a1_6 a1_7 a1_8 l1_9 l1_10 = some r) :
    Calls Try.prog 12 #[.agg #[.int .i64 a0_0, .int .i64 a0_1, .bool a0_2, .bool a0_3, .int .i64 a0_4, .int .i64 a0_5, .int .i64 a0_6, .int .u32 a0_7, .int .u32 a0_8, .slice A0_9 l0_9.length c0_9, .slice A0_10 l0_10.length c0_10], .agg #[.int .i64 a1_0, .int .i64 a1_1, .bool a1_2, .bool a1_3, .int .i64 a1_4, .int .i64 a1_5, .int .i64 a1_6, .int .u32 a1_7, .int .u32 a1_8, .slice A1_9 l1_9.length c1_9, .slice A1_10 l1_10.length c1_10]] w fun e w' => e = .returned (.bool r) ∧ Below w.heap.size w w' := by
  have hu45 := Try.underlying45
  have HRT := Aside0.mk hrt
  clear hrt
  have HR0_9 := Aside0.mk hr0_9
  have HC0_9 := Aside0.mk hc0_9
  clear hr0_9 hc0_9
  have HR0_10 := Aside0.mk hr0_10
  have HC0_10 := Aside0.mk hc0_10
  clear hr0_10 hc0_10
  have HR1_9 := Aside0.mk hr1_9
  have HC1_9 := Aside0.mk hc1_9
  clear hr1_9 hc1_9
  have HR1_10 := Aside0.mk hr1_10
  have HC1_10 := Aside0.mk hc1_10
  clear hr1_10 hc1_10
  have HB := Aside0.mk (Below.refl w.heap.size w)
  have H : ((castellanlaw4_long.f a0_0 a0_1 a0_2 a0_3 a0_4 a0_5 a0_6 a0_7 a0_8 l0_9 l0_10).bind fun t300 => (if t300 = true then (castellanlaw4_IpBuilds.j0 k true a0_0 a0_1 a0_2 a0_3 a0_4 a0_5 a0_6 a0_7 a0_8 l0_9 l0_10 a1_0 a1_1 a1_2 a1_3 a1_4 a1_5 a1_6 a1_7 a1_8 l1_9 l1_10) else ((castellanlaw4_long.f a1_0 a1_1 a1_2 a1_3 a1_4 a1_5 a1_6 a1_7 a1_8 l1_9 l1_10).bind fun t301 => (castellanlaw4_IpBuilds.j0 k t301 a0_0 a0_1 a0_2 a0_3 a0_4 a0_5 a0_6 a0_7 a0_8 l0_9 l0_10 a1_0 a1_1 a1_2 a1_3 a1_4 a1_5 a1_6 a1_7 a1_8 l1_9 l1_10)))) = some r := h
  clear h
  have HC3 := Aside0.mk H
  clear H
  go_enter Try.func12, Try.ntmps12
  go_upto_region 1 with (first | ((with_reducible refine gate_dst (N := 2) rfl ?_); refine box_event ?hg (N := 2) ?hd (cs := #[.int .i64 a0_0, .int .i64 a0_1, .bool a0_2, .bool a0_3, .int .i64 a0_4, .int .i64 a0_5, .int .i64 a0_6, .int .u32 a0_7, .int .u32 a0_8, .slice A0_9 l0_9.length c0_9, .slice A0_10 l0_10.length c0_10]) (t := 45) ?hr ?_; (case hd => rfl); (case hg => rfl); (case hr => first | (go_simp; done) | (go_simp; rfl)); intro gb298 hg w4 hbox hb; have n0_ := Aside0.mk (below_step (by repeat (first | (with_reducible first | exact HB.out | apply below_alloc | apply pw_below_drewN | apply below_drew1) | exact HB.out)) hb); have n1_ := Aside0.mk (hbox); have n2_ := Aside0.mk ((by rw [hg]; exact (below_size (by repeat (first | (with_reducible first | exact HB.out | apply below_alloc | apply pw_below_drewN | apply below_drew1) | exact HB.out))) : w.heap.size ≤ gb298)); have n3_ := Aside0.mk ((by rw [hg]; exact (below_size (by repeat (first | (with_reducible first | exact HB.out | apply below_alloc | apply pw_below_drewN | apply below_drew1) | exact HB.out))) : w.heap.size ≤ gb298)); clear HB; have HB := n0_; have BK298 := n1_; have GW298 := n2_; have GE298 := n3_; clear n0_ n1_ n2_ n3_; clear hb hbox hg) | ((with_reducible refine gate_dst (N := 3) rfl ?_); refine box_event ?hg (N := 3) ?hd (cs := #[.int .i64 a1_0, .int .i64 a1_1, .bool a1_2, .bool a1_3, .int .i64 a1_4, .int .i64 a1_5, .int .i64 a1_6, .int .u32 a1_7, .int .u32 a1_8, .slice A1_9 l1_9.length c1_9, .slice A1_10 l1_10.length c1_10]) (t := 45) ?hr ?_; (case hd => rfl); (case hg => rfl); (case hr => first | (go_simp; done) | (go_simp; rfl)); intro gb299 hg w5 hbox hb; have n0_ := Aside0.mk (blk_below (g := gb298) (o := .cells #[.int .i64 a0_0, .int .i64 a0_1, .bool a0_2, .bool a0_3, .int .i64 a0_4, .int .i64 a0_5, .int .i64 a0_6, .int .u32 a0_7, .int .u32 a0_8, .slice A0_9 l0_9.length c0_9, .slice A0_10 l0_10.length c0_10] 45 (0, 0)) (by (with_reducible repeat (first | refine blk_drewN ?_ _ | refine blk_drew ?_ | refine blk_alloc ?_ _)); exact BK298.out) hb); have n1_ := Aside0.mk (below_step (by repeat (first | (with_reducible first | exact HB.out | apply below_alloc | apply pw_below_drewN | apply below_drew1 | refine below_set ?_ GE298.out) | exact HB.out)) hb); have n2_ := Aside0.mk (hbox); have n3_ := Aside0.mk ((by rw [hg]; exact (below_size (by repeat (first | (with_reducible first | exact HB.out | apply below_alloc | apply pw_below_drewN | apply below_drew1 | refine below_set ?_ GE298.out) | exact HB.out))) : w.heap.size ≤ gb299)); have n4_ := Aside0.mk ((by rw [hg]; exact (below_size (by repeat (first | (with_reducible first | exact HB.out | apply below_alloc | apply pw_below_drewN | apply below_drew1 | refine below_set ?_ GE298.out) | exact HB.out))) : w.heap.size ≤ gb299)); have n5_ := Aside0.mk ((by rw [hg]; exact Nat.ne_of_lt (blk_lt (g := gb298) (o := .cells #[.int .i64 a0_0, .int .i64 a0_1, .bool a0_2, .bool a0_3, .int .i64 a0_4, .int .i64 a0_5, .int .i64 a0_6, .int .u32 a0_7, .int .u32 a0_8, .slice A0_9 l0_9.length c0_9, .slice A0_10 l0_10.length c0_10] 45 (0, 0)) (by (with_reducible repeat (first | refine blk_drewN ?_ _ | refine blk_drew ?_ | refine blk_alloc ?_ _)); exact BK298.out)) : gb298 ≠ gb299)); have n6_ := Aside0.mk ((by rw [hg]; exact Nat.ne_of_gt (blk_lt (g := gb298) (o := .cells #[.int .i64 a0_0, .int .i64 a0_1, .bool a0_2, .bool a0_3, .int .i64 a0_4, .int .i64 a0_5, .int .i64 a0_6, .int .u32 a0_7, .int .u32 a0_8, .slice A0_9 l0_9.length c0_9, .slice A0_10 l0_10.length c0_10] 45 (0, 0)) (by (with_reducible repeat (first | refine blk_drewN ?_ _ | refine blk_drew ?_ | refine blk_alloc ?_ _)); exact BK298.out)) : gb299 ≠ gb298)); clear BK298; clear HB; have BK298 := n0_; have HB := n1_; have BK299 := n2_; have GW299 := n3_; have GE299 := n4_; have NB298_299 := n5_; have NB299_298 := n6_; clear n0_ n1_ n2_ n3_ n4_ n5_ n6_; clear hb hbox hg))
  (try simp only [Act.put, List.setIfInBounds_toArray, List.set_cons_zero, List.set_cons_succ])
  go_cut [14] (fun v14 wc => ∃ (kq : Nat) (x14_2 : Bool), v14 = .bool x14_2 ∧ Aside0 (castellanlaw4_IpBuilds.j0 kq x14_2 a0_0 a0_1 a0_2 a0_3 a0_4 a0_5 a0_6 a0_7 a0_8 l0_9 l0_10 a1_0 a1_1 a1_2 a1_3 a1_4 a1_5 a1_6 a1_7 a1_8 l1_9 l1_10 = some r) ∧ Aside0 (kq ≤ k) ∧ Aside0 (wc.heap[gb298]? = some (.cells #[.int .i64 a0_0, .int .i64 a0_1, .bool a0_2, .bool a0_3, .int .i64 a0_4, .int .i64 a0_5, .int .i64 a0_6, .int .u32 a0_7, .int .u32 a0_8, (.slice A0_9 l0_9.length c0_9), (.slice A0_10 l0_10.length c0_10)] 45 (0, 0))) ∧ Aside0 (wc.heap[gb299]? = some (.cells #[.int .i64 a1_0, .int .i64 a1_1, .bool a1_2, .bool a1_3, .int .i64 a1_4, .int .i64 a1_5, .int .i64 a1_6, .int .u32 a1_7, .int .u32 a1_8, (.slice A1_9 l1_9.length c1_9), (.slice A1_10 l1_10.length c1_10)] 45 (0, 0))) ∧ Aside0 (Below w.heap.size w wc))
  case first =>
    have H := HC3.out
    clear HC3
    replace H := Option.bind_eq_some_iff.mp H
    obtain ⟨t300, A60, H⟩ := H
    replace H : (if t300 = true then (castellanlaw4_IpBuilds.j0 k true a0_0 a0_1 a0_2 a0_3 a0_4 a0_5 a0_6 a0_7 a0_8 l0_9 l0_10 a1_0 a1_1 a1_2 a1_3 a1_4 a1_5 a1_6 a1_7 a1_8 l1_9 l1_10) else ((castellanlaw4_long.f a1_0 a1_1 a1_2 a1_3 a1_4 a1_5 a1_6 a1_7 a1_8 l1_9 l1_10).bind fun t301 => (castellanlaw4_IpBuilds.j0 k t301 a0_0 a0_1 a0_2 a0_3 a0_4 a0_5 a0_6 a0_7 a0_8 l0_9 l0_10 a1_0 a1_1 a1_2 a1_3 a1_4 a1_5 a1_6 a1_7 a1_8 l1_9 l1_10))) = some r := H
    have A6 := Aside0.mk A60
    clear A60
    by_cases c7 : t300 = true
    · subst c7
      have H1 : (castellanlaw4_IpBuilds.j0 k true a0_0 a0_1 a0_2 a0_3 a0_4 a0_5 a0_6 a0_7 a0_8 l0_9 l0_10 a1_0 a1_1 a1_2 a1_3 a1_4 a1_5 a1_6 a1_7 a1_8 l1_9 l1_10) = some r := by rw [if_pos rfl] at H; exact H
      clear H
      have H := H1
      clear H1
      have H' := Aside0.mk H
      clear H
      have hnb8 := NB298_299.out
      have hnc8 := NB299_298.out
      have hcz9_0 : w5.cell? ⟨gb298, 0, none⟩ = some (.int .i64 a0_0) := (blk_cell BK298.out 0).trans rfl
      have hcz9_1 : w5.cell? ⟨gb298, 1, none⟩ = some (.int .i64 a0_1) := (blk_cell BK298.out 1).trans rfl
      have hcz9_2 : w5.cell? ⟨gb298, 2, none⟩ = some (.bool a0_2) := (blk_cell BK298.out 2).trans rfl
      have hcz9_3 : w5.cell? ⟨gb298, 3, none⟩ = some (.bool a0_3) := (blk_cell BK298.out 3).trans rfl
      have hcz9_4 : w5.cell? ⟨gb298, 4, none⟩ = some (.int .i64 a0_4) := (blk_cell BK298.out 4).trans rfl
      have hcz9_5 : w5.cell? ⟨gb298, 5, none⟩ = some (.int .i64 a0_5) := (blk_cell BK298.out 5).trans rfl
      have hcz9_6 : w5.cell? ⟨gb298, 6, none⟩ = some (.int .i64 a0_6) := (blk_cell BK298.out 6).trans rfl
      have hcz9_7 : w5.cell? ⟨gb298, 7, none⟩ = some (.int .u32 a0_7) := (blk_cell BK298.out 7).trans rfl
      have hcz9_8 : w5.cell? ⟨gb298, 8, none⟩ = some (.int .u32 a0_8) := (blk_cell BK298.out 8).trans rfl
      have hcz9_9 : w5.cell? ⟨gb298, 9, none⟩ = some (.slice A0_9 l0_9.length c0_9) := (blk_cell BK298.out 9).trans rfl
      have hcz9_10 : w5.cell? ⟨gb298, 10, none⟩ = some (.slice A0_10 l0_10.length c0_10) := (blk_cell BK298.out 10).trans rfl
      have hfz9_0 := blk_frozen BK298.out 0
      have hfz9_1 := blk_frozen BK298.out 1
      have hfz9_2 := blk_frozen BK298.out 2
      have hfz9_3 := blk_frozen BK298.out 3
      have hfz9_4 := blk_frozen BK298.out 4
      have hfz9_5 := blk_frozen BK298.out 5
      have hfz9_6 := blk_frozen BK298.out 6
      have hfz9_7 := blk_frozen BK298.out 7
      have hfz9_8 := blk_frozen BK298.out 8
      have hfz9_9 := blk_frozen BK298.out 9
      have hfz9_10 := blk_frozen BK298.out 10
      go_wp2_with (first | ((with_reducible refine gate_callee (f := 30) rfl ?_); refine goesL_ (some 10) rfl rfl Try.func30 (by kernel_rfl) rfl #[.agg #[.int .i64 a0_0, .int .i64 a0_1, .bool a0_2, .bool a0_3, .int .i64 a0_4, .int .i64 a0_5, .int .i64 a0_6, .int .u32 a0_7, .int .u32 a0_8, .slice A0_9 l0_9.length c0_9, .slice A0_10 l0_10.length c0_10]] rfl (by (try simp only [List.map_toArray, List.map_cons, List.map_nil]); first | done | rfl | (simp only [List.length_drop, List.length_take]; rfl)) ?_; (with_reducible refine (castellanlaw4_long.calls a0_0 a0_1 a0_2 a0_3 a0_4 a0_5 a0_6 a0_7 a0_8 _ _ l0_9 _ _ l0_10 true _ ?side1 ?side2 ?side3 ?side4 A6.out).mono ?_); (case side1 => repeat (first | exact (Kd.C_below HR0_9.out HB.out) | (with_reducible refine Kd.C_alloc ?_ _) | (with_reducible refine Kd.C_drewN ?_ _) | (with_reducible refine Kd.C_drew ?_))); (case side2 => exact HC0_9.out); (case side3 => repeat (first | exact (Kd.C_below HR0_10.out HB.out) | (with_reducible refine Kd.C_alloc ?_ _) | (with_reducible refine Kd.C_drewN ?_ _) | (with_reducible refine Kd.C_drew ?_))); (case side4 => exact HC0_10.out); rintro e w10 ⟨rfl, hb⟩; refine ⟨_, rfl, ?_⟩; have n0_ := Aside0.mk (blk_below (g := gb298) (o := .cells #[.int .i64 a0_0, .int .i64 a0_1, .bool a0_2, .bool a0_3, .int .i64 a0_4, .int .i64 a0_5, .int .i64 a0_6, .int .u32 a0_7, .int .u32 a0_8, .slice A0_9 l0_9.length c0_9, .slice A0_10 l0_10.length c0_10] 45 (0, 0)) (by (with_reducible repeat (first | refine blk_drewN ?_ _ | refine blk_drew ?_ | refine blk_alloc ?_ _)); exact BK298.out) hb); have n1_ := Aside0.mk (blk_below (g := gb299) (o := .cells #[.int .i64 a1_0, .int .i64 a1_1, .bool a1_2, .bool a1_3, .int .i64 a1_4, .int .i64 a1_5, .int .i64 a1_6, .int .u32 a1_7, .int .u32 a1_8, .slice A1_9 l1_9.length c1_9, .slice A1_10 l1_10.length c1_10] 45 (0, 0)) (by (with_reducible repeat (first | refine blk_drewN ?_ _ | refine blk_drew ?_ | refine blk_alloc ?_ _)); exact BK299.out) hb); have n2_ := Aside0.mk (below_step (by repeat (first | (with_reducible first | exact HB.out | apply below_alloc | apply pw_below_drewN | apply below_drew1 | refine below_set ?_ GE298.out | refine below_set ?_ GE299.out) | exact HB.out)) hb); clear BK298; clear BK299; clear HB; have BK298 := n0_; have BK299 := n1_; have HB := n2_; clear n0_ n1_ n2_; (try clear hb); (try clear hb2); (try clear hk); (try clear hi)))
      go_meet
      case rel => exact ⟨_, (true), (by first | rfl | (simp; done) | (simp [*]; done)), H', ⟨by first | omega | exact Nat.le_refl _⟩, ⟨by (with_reducible repeat (first | refine blk_drewN ?_ _ | refine blk_drew ?_ | refine blk_alloc ?_ _)); exact BK298.out⟩, ⟨by (with_reducible repeat (first | refine blk_drewN ?_ _ | refine blk_drew ?_ | refine blk_alloc ?_ _)); exact BK299.out⟩, ⟨by repeat (first | (with_reducible first | exact HB.out | apply below_alloc | apply pw_below_drewN | apply below_drew1 | refine below_set ?_ GE298.out | refine below_set ?_ GE299.out) | exact HB.out)⟩⟩
    · replace c7 := Bool.eq_false_iff.mpr c7
      subst c7
      have H1 : ((castellanlaw4_long.f a1_0 a1_1 a1_2 a1_3 a1_4 a1_5 a1_6 a1_7 a1_8 l1_9 l1_10).bind fun t301 => (castellanlaw4_IpBuilds.j0 k t301 a0_0 a0_1 a0_2 a0_3 a0_4 a0_5 a0_6 a0_7 a0_8 l0_9 l0_10 a1_0 a1_1 a1_2 a1_3 a1_4 a1_5 a1_6 a1_7 a1_8 l1_9 l1_10)) = some r := by rw [if_neg (show ¬ (false = true) by decide)] at H; exact H
      clear H
      have H := H1
      clear H1
      replace H := Option.bind_eq_some_iff.mp H
      obtain ⟨t301, A110, H⟩ := H
      replace H : (castellanlaw4_IpBuilds.j0 k t301 a0_0 a0_1 a0_2 a0_3 a0_4 a0_5 a0_6 a0_7 a0_8 l0_9 l0_10 a1_0 a1_1 a1_2 a1_3 a1_4 a1_5 a1_6 a1_7 a1_8 l1_9 l1_10) = some r := H
      have A11 := Aside0.mk A110
      clear A110
      have H' := Aside0.mk H
      clear H
      have hnb12 := NB298_299.out
      have hnc12 := NB299_298.out
      have hcz13_0 : w5.cell? ⟨gb298, 0, none⟩ = some (.int .i64 a0_0) := (blk_cell BK298.out 0).trans rfl
      have hcz13_1 : w5.cell? ⟨gb298, 1, none⟩ = some (.int .i64 a0_1) := (blk_cell BK298.out 1).trans rfl
      have hcz13_2 : w5.cell? ⟨gb298, 2, none⟩ = some (.bool a0_2) := (blk_cell BK298.out 2).trans rfl
      have hcz13_3 : w5.cell? ⟨gb298, 3, none⟩ = some (.bool a0_3) := (blk_cell BK298.out 3).trans rfl
      have hcz13_4 : w5.cell? ⟨gb298, 4, none⟩ = some (.int .i64 a0_4) := (blk_cell BK298.out 4).trans rfl
      have hcz13_5 : w5.cell? ⟨gb298, 5, none⟩ = some (.int .i64 a0_5) := (blk_cell BK298.out 5).trans rfl
      have hcz13_6 : w5.cell? ⟨gb298, 6, none⟩ = some (.int .i64 a0_6) := (blk_cell BK298.out 6).trans rfl
      have hcz13_7 : w5.cell? ⟨gb298, 7, none⟩ = some (.int .u32 a0_7) := (blk_cell BK298.out 7).trans rfl
      have hcz13_8 : w5.cell? ⟨gb298, 8, none⟩ = some (.int .u32 a0_8) := (blk_cell BK298.out 8).trans rfl
      have hcz13_9 : w5.cell? ⟨gb298, 9, none⟩ = some (.slice A0_9 l0_9.length c0_9) := (blk_cell BK298.out 9).trans rfl
      have hcz13_10 : w5.cell? ⟨gb298, 10, none⟩ = some (.slice A0_10 l0_10.length c0_10) := (blk_cell BK298.out 10).trans rfl
      have hfz13_0 := blk_frozen BK298.out 0
      have hfz13_1 := blk_frozen BK298.out 1
      have hfz13_2 := blk_frozen BK298.out 2
      have hfz13_3 := blk_frozen BK298.out 3
      have hfz13_4 := blk_frozen BK298.out 4
      have hfz13_5 := blk_frozen BK298.out 5
      have hfz13_6 := blk_frozen BK298.out 6
      have hfz13_7 := blk_frozen BK298.out 7
      have hfz13_8 := blk_frozen BK298.out 8
      have hfz13_9 := blk_frozen BK298.out 9
      have hfz13_10 := blk_frozen BK298.out 10
      go_wp2_with (first | ((with_reducible refine gate_callee (f := 30) rfl ?_); refine goesL_ (some 10) rfl rfl Try.func30 (by kernel_rfl) rfl #[.agg #[.int .i64 a0_0, .int .i64 a0_1, .bool a0_2, .bool a0_3, .int .i64 a0_4, .int .i64 a0_5, .int .i64 a0_6, .int .u32 a0_7, .int .u32 a0_8, .slice A0_9 l0_9.length c0_9, .slice A0_10 l0_10.length c0_10]] rfl (by (try simp only [List.map_toArray, List.map_cons, List.map_nil]); first | done | rfl | (simp only [List.length_drop, List.length_take]; rfl)) ?_; (with_reducible refine (castellanlaw4_long.calls a0_0 a0_1 a0_2 a0_3 a0_4 a0_5 a0_6 a0_7 a0_8 _ _ l0_9 _ _ l0_10 false _ ?side1 ?side2 ?side3 ?side4 A6.out).mono ?_); (case side1 => repeat (first | exact (Kd.C_below HR0_9.out HB.out) | (with_reducible refine Kd.C_alloc ?_ _) | (with_reducible refine Kd.C_drewN ?_ _) | (with_reducible refine Kd.C_drew ?_))); (case side2 => exact HC0_9.out); (case side3 => repeat (first | exact (Kd.C_below HR0_10.out HB.out) | (with_reducible refine Kd.C_alloc ?_ _) | (with_reducible refine Kd.C_drewN ?_ _) | (with_reducible refine Kd.C_drew ?_))); (case side4 => exact HC0_10.out); rintro e w14 ⟨rfl, hb⟩; refine ⟨_, rfl, ?_⟩; have n0_ := Aside0.mk (blk_below (g := gb298) (o := .cells #[.int .i64 a0_0, .int .i64 a0_1, .bool a0_2, .bool a0_3, .int .i64 a0_4, .int .i64 a0_5, .int .i64 a0_6, .int .u32 a0_7, .int .u32 a0_8, .slice A0_9 l0_9.length c0_9, .slice A0_10 l0_10.length c0_10] 45 (0, 0)) (by (with_reducible repeat (first | refine blk_drewN ?_ _ | refine blk_drew ?_ | refine blk_alloc ?_ _)); exact BK298.out) hb); have n1_ := Aside0.mk (blk_below (g := gb299) (o := .cells #[.int .i64 a1_0, .int .i64 a1_1, .bool a1_2, .bool a1_3, .int .i64 a1_4, .int .i64 a1_5, .int .i64 a1_6, .int .u32 a1_7, .int .u32 a1_8, .slice A1_9 l1_9.length c1_9, .slice A1_10 l1_10.length c1_10] 45 (0, 0)) (by (with_reducible repeat (first | refine blk_drewN ?_ _ | refine blk_drew ?_ | refine blk_alloc ?_ _)); exact BK299.out) hb); have n2_ := Aside0.mk (below_step (by repeat (first | (with_reducible first | exact HB.out | apply below_alloc | apply pw_below_drewN | apply below_drew1 | refine below_set ?_ GE298.out | refine below_set ?_ GE299.out) | exact HB.out)) hb); clear BK298; clear BK299; clear HB; have BK298 := n0_; have BK299 := n1_; have HB := n2_; clear n0_ n1_ n2_; (try clear hb); (try clear hb2); (try clear hk); (try clear hi); have hcz15_0 : w14.cell? ⟨gb299, 0, none⟩ = some (.int .i64 a1_0) := (blk_cell BK299.out 0).trans rfl; have hcz15_1 : w14.cell? ⟨gb299, 1, none⟩ = some (.int .i64 a1_1) := (blk_cell BK299.out 1).trans rfl; have hcz15_2 : w14.cell? ⟨gb299, 2, none⟩ = some (.bool a1_2) := (blk_cell BK299.out 2).trans rfl; have hcz15_3 : w14.cell? ⟨gb299, 3, none⟩ = some (.bool a1_3) := (blk_cell BK299.out 3).trans rfl; have hcz15_4 : w14.cell? ⟨gb299, 4, none⟩ = some (.int .i64 a1_4) := (blk_cell BK299.out 4).trans rfl; have hcz15_5 : w14.cell? ⟨gb299, 5, none⟩ = some (.int .i64 a1_5) := (blk_cell BK299.out 5).trans rfl; have hcz15_6 : w14.cell? ⟨gb299, 6, none⟩ = some (.int .i64 a1_6) := (blk_cell BK299.out 6).trans rfl; have hcz15_7 : w14.cell? ⟨gb299, 7, none⟩ = some (.int .u32 a1_7) := (blk_cell BK299.out 7).trans rfl; have hcz15_8 : w14.cell? ⟨gb299, 8, none⟩ = some (.int .u32 a1_8) := (blk_cell BK299.out 8).trans rfl; have hcz15_9 : w14.cell? ⟨gb299, 9, none⟩ = some (.slice A1_9 l1_9.length c1_9) := (blk_cell BK299.out 9).trans rfl; have hcz15_10 : w14.cell? ⟨gb299, 10, none⟩ = some (.slice A1_10 l1_10.length c1_10) := (blk_cell BK299.out 10).trans rfl; have hfz15_0 := blk_frozen BK299.out 0; have hfz15_1 := blk_frozen BK299.out 1; have hfz15_2 := blk_frozen BK299.out 2; have hfz15_3 := blk_frozen BK299.out 3; have hfz15_4 := blk_frozen BK299.out 4; have hfz15_5 := blk_frozen BK299.out 5; have hfz15_6 := blk_frozen BK299.out 6; have hfz15_7 := blk_frozen BK299.out 7; have hfz15_8 := blk_frozen BK299.out 8; have hfz15_9 := blk_frozen BK299.out 9; have hfz15_10 := blk_frozen BK299.out 10) | (go_at_call 30; (with_reducible refine (castellanlaw4_long.calls a1_0 a1_1 a1_2 a1_3 a1_4 a1_5 a1_6 a1_7 a1_8 _ _ l1_9 _ _ l1_10 t301 _ ?side1 ?side2 ?side3 ?side4 A11.out).mono ?_); (case side1 => repeat (first | exact (Kd.C_below HR1_9.out HB.out) | (with_reducible refine Kd.C_alloc ?_ _) | (with_reducible refine Kd.C_drewN ?_ _) | (with_reducible refine Kd.C_drew ?_))); (case side2 => exact HC1_9.out); (case side3 => repeat (first | exact (Kd.C_below HR1_10.out HB.out) | (with_reducible refine Kd.C_alloc ?_ _) | (with_reducible refine Kd.C_drewN ?_ _) | (with_reducible refine Kd.C_drew ?_))); (case side4 => exact HC1_10.out); rintro e w16 ⟨rfl, hb⟩; have n0_ := Aside0.mk (blk_below (g := gb298) (o := .cells #[.int .i64 a0_0, .int .i64 a0_1, .bool a0_2, .bool a0_3, .int .i64 a0_4, .int .i64 a0_5, .int .i64 a0_6, .int .u32 a0_7, .int .u32 a0_8, .slice A0_9 l0_9.length c0_9, .slice A0_10 l0_10.length c0_10] 45 (0, 0)) (by (with_reducible repeat (first | refine blk_drewN ?_ _ | refine blk_drew ?_ | refine blk_alloc ?_ _)); exact BK298.out) hb); have n1_ := Aside0.mk (blk_below (g := gb299) (o := .cells #[.int .i64 a1_0, .int .i64 a1_1, .bool a1_2, .bool a1_3, .int .i64 a1_4, .int .i64 a1_5, .int .i64 a1_6, .int .u32 a1_7, .int .u32 a1_8, .slice A1_9 l1_9.length c1_9, .slice A1_10 l1_10.length c1_10] 45 (0, 0)) (by (with_reducible repeat (first | refine blk_drewN ?_ _ | refine blk_drew ?_ | refine blk_alloc ?_ _)); exact BK299.out) hb); have n2_ := Aside0.mk (below_step (by repeat (first | (with_reducible first | exact HB.out | apply below_alloc | apply pw_below_drewN | apply below_drew1 | refine below_set ?_ GE298.out | refine below_set ?_ GE299.out) | exact HB.out)) hb); clear BK298; clear BK299; clear HB; have BK298 := n0_; have BK299 := n1_; have HB := n2_; clear n0_ n1_ n2_; (try clear hb); (try clear hb2); (try clear hk); (try clear hi)))
      go_meet
      case rel => exact ⟨_, (t301), (by first | rfl | (simp; done) | (simp [*]; done)), H', ⟨by first | omega | exact Nat.le_refl _⟩, ⟨by (with_reducible repeat (first | refine blk_drewN ?_ _ | refine blk_drew ?_ | refine blk_alloc ?_ _)); exact BK298.out⟩, ⟨by (with_reducible repeat (first | refine blk_drewN ?_ _ | refine blk_drew ?_ | refine blk_alloc ?_ _)); exact BK299.out⟩, ⟨by repeat (first | (with_reducible first | exact HB.out | apply below_alloc | apply pw_below_drewN | apply below_drew1 | refine below_set ?_ GE298.out | refine below_set ?_ GE299.out) | exact HB.out)⟩⟩
  case rest =>
    clear HC3
    try clear c1
    try clear p2
    try clear c3
    try clear c7
    try clear c8
    try clear c12
    try clear hcz13_0
    try clear hcz13_1
    try clear hcz13_10
    try clear hcz13_2
    try clear hcz13_3
    try clear hcz13_4
    try clear hcz13_5
    try clear hcz13_6
    try clear hcz13_7
    try clear hcz13_8
    try clear hcz13_9
    try clear hcz15_0
    try clear hcz15_1
    try clear hcz15_10
    try clear hcz15_2
    try clear hcz15_3
    try clear hcz15_4
    try clear hcz15_5
    try clear hcz15_6
    try clear hcz15_7
    try clear hcz15_8
    try clear hcz15_9
    try clear hcz9_0
    try clear hcz9_1
    try clear hcz9_10
    try clear hcz9_2
    try clear hcz9_3
    try clear hcz9_4
    try clear hcz9_5
    try clear hcz9_6
    try clear hcz9_7
    try clear hcz9_8
    try clear hcz9_9
    try clear hfz13_0
    try clear hfz13_1
    try clear hfz13_10
    try clear hfz13_2
    try clear hfz13_3
    try clear hfz13_4
    try clear hfz13_5
    try clear hfz13_6
    try clear hfz13_7
    try clear hfz13_8
    try clear hfz13_9
    try clear hfz15_0
    try clear hfz15_1
    try clear hfz15_10
    try clear hfz15_2
    try clear hfz15_3
    try clear hfz15_4
    try clear hfz15_5
    try clear hfz15_6
    try clear hfz15_7
    try clear hfz15_8
    try clear hfz15_9
    try clear hfz9_0
    try clear hfz9_1
    try clear hfz9_10
    try clear hfz9_2
    try clear hfz9_3
    try clear hfz9_4
    try clear hfz9_5
    try clear hfz9_6
    try clear hfz9_7
    try clear hfz9_8
    try clear hfz9_9
    obtain ⟨kq, x14_2, rfl, HA, HJ2, BK298, BK299, HB⟩ := hcut
    cases kq with
    | zero => exact absurd HA.out (by simp [castellanlaw4_IpBuilds.j0])
    | succ kj2 =>
      have H := HA.out
      clear HA
      simp only [castellanlaw4_IpBuilds.j0] at H
      by_cases c17 : x14_2 = true
      · subst c17
        have H1 : (some true) = some r := by rw [if_pos rfl] at H; exact H
        clear H
        have H := H1
        clear H1
        obtain rfl := Option.some.inj H
        go_wp2
        go_ret
        exact ⟨by first | rfl | (simp [errW_none, errW_some] <;> rfl) | (simp [*, errW_none, errW_some] <;> rfl), by repeat (first | (with_reducible first | exact HB.out | apply below_alloc | apply pw_below_drewN | apply below_drew1 | refine below_set ?_ GE298.out | refine below_set ?_ GE299.out) | exact HB.out)⟩
      · replace c17 := Bool.eq_false_iff.mpr c17
        subst c17
        have H1 : ((ip_Build.f kj2 a0_0 a0_1 a0_2 a0_3 a0_4 a0_5 a0_6 a0_7 a0_8 l0_9 l0_10).bind fun bt302 => ((castellanref4_Build.f kj2 a0_0 a0_1 a0_2 a0_3 a0_4 a0_5 a0_6 a0_7 a0_8 l0_9 l0_10).bind fun bt306 => (if (strOfNums bt302.1).toList = (strOfNums bt306.1).toList then (if bt302.2 = bt306.2 then ((ip_Same.f a0_0 a0_1 a0_2 a0_3 a0_4 a0_5 a0_6 a0_7 a0_8 l0_9 l0_10 a1_0 a1_1 a1_2 a1_3 a1_4 a1_5 a1_6 a1_7 a1_8 l1_9 l1_10).bind fun t310 => ((castellanref4_Same.f a0_0 a0_1 a0_2 a0_3 a0_4 a0_5 a0_6 a0_7 a0_8 l0_9 l0_10 a1_0 a1_1 a1_2 a1_3 a1_4 a1_5 a1_6 a1_7 a1_8 l1_9 l1_10).bind fun t311 => (if (t310 == t311) = true then ((ip_Same.f a0_0 a0_1 a0_2 a0_3 a0_4 a0_5 a0_6 a0_7 a0_8 l0_9 l0_10 a0_0 a0_1 a0_2 a0_3 a0_4 a0_5 a0_6 a0_7 a0_8 l0_9 l0_10).bind fun t312 => (if t312 = true then ((castellanlaw4_known.f kj2).bind fun t313 => (some t313)) else (some false))) else (some false)))) else (some false)) else (some false)))) = some r := by rw [if_neg (show ¬ (false = true) by decide)] at H; exact H
        clear H
        have H := H1
        clear H1
        replace H := Option.bind_eq_some_iff.mp H
        obtain ⟨⟨t302, t305⟩, A180, H⟩ := H
        replace H : ((castellanref4_Build.f kj2 a0_0 a0_1 a0_2 a0_3 a0_4 a0_5 a0_6 a0_7 a0_8 l0_9 l0_10).bind fun bt306 => (if (strOfNums t302).toList = (strOfNums bt306.1).toList then (if t305 = bt306.2 then ((ip_Same.f a0_0 a0_1 a0_2 a0_3 a0_4 a0_5 a0_6 a0_7 a0_8 l0_9 l0_10 a1_0 a1_1 a1_2 a1_3 a1_4 a1_5 a1_6 a1_7 a1_8 l1_9 l1_10).bind fun t310 => ((castellanref4_Same.f a0_0 a0_1 a0_2 a0_3 a0_4 a0_5 a0_6 a0_7 a0_8 l0_9 l0_10 a1_0 a1_1 a1_2 a1_3 a1_4 a1_5 a1_6 a1_7 a1_8 l1_9 l1_10).bind fun t311 => (if (t310 == t311) = true then ((ip_Same.f a0_0 a0_1 a0_2 a0_3 a0_4 a0_5 a0_6 a0_7 a0_8 l0_9 l0_10 a0_0 a0_1 a0_2 a0_3 a0_4 a0_5 a0_6 a0_7 a0_8 l0_9 l0_10).bind fun t312 => (if t312 = true then ((castellanlaw4_known.f kj2).bind fun t313 => (some t313)) else (some false))) else (some false)))) else (some false)) else (some false))) = some r := H
        have A18 := Aside0.mk A180
        clear A180
        replace H := Option.bind_eq_some_iff.mp H
        obtain ⟨⟨t306, t309⟩, A190, H⟩ := H
        replace H : (if (strOfNums t302).toList = (strOfNums t306).toList then (if t305 = t309 then ((ip_Same.f a0_0 a0_1 a0_2 a0_3 a0_4 a0_5 a0_6 a0_7 a0_8 l0_9 l0_10 a1_0 a1_1 a1_2 a1_3 a1_4 a1_5 a1_6 a1_7 a1_8 l1_9 l1_10).bind fun t310 => ((castellanref4_Same.f a0_0 a0_1 a0_2 a0_3 a0_4 a0_5 a0_6 a0_7 a0_8 l0_9 l0_10 a1_0 a1_1 a1_2 a1_3 a1_4 a1_5 a1_6 a1_7 a1_8 l1_9 l1_10).bind fun t311 => (if (t310 == t311) = true then ((ip_Same.f a0_0 a0_1 a0_2 a0_3 a0_4 a0_5 a0_6 a0_7 a0_8 l0_9 l0_10 a0_0 a0_1 a0_2 a0_3 a0_4 a0_5 a0_6 a0_7 a0_8 l0_9 l0_10).bind fun t312 => (if t312 = true then ((castellanlaw4_known.f kj2).bind fun t313 => (some t313)) else (some false))) else (some false)))) else (some false)) else (some false)) = some r := H
        have A19 := Aside0.mk A190
        clear A190
        by_cases c20 : (strOfNums t302).toList = (strOfNums t306).toList
        · rw [if_pos c20] at H
          have c20b0 : ((strOfNums t302).toList == (strOfNums t306).toList) = true := beq_iff_eq.mpr c20
          have c20b1 : ((strOfNums t302).toList != (strOfNums t306).toList) = false := bne_eq_false_iff_eq.mpr c20
          clear c20
          by_cases c21 : t305 = t309
          · rw [if_pos c21] at H
            have c21b0 : (t305 == t309) = true := beq_iff_eq.mpr c21
            have c21b1 : (t305 != t309) = false := bne_eq_false_iff_eq.mpr c21
            clear c21
            replace H := Option.bind_eq_some_iff.mp H
            obtain ⟨t310, A220, H⟩ := H
            replace H : ((castellanref4_Same.f a0_0 a0_1 a0_2 a0_3 a0_4 a0_5 a0_6 a0_7 a0_8 l0_9 l0_10 a1_0 a1_1 a1_2 a1_3 a1_4 a1_5 a1_6 a1_7 a1_8 l1_9 l1_10).bind fun t311 => (if (t310 == t311) = true then ((ip_Same.f a0_0 a0_1 a0_2 a0_3 a0_4 a0_5 a0_6 a0_7 a0_8 l0_9 l0_10 a0_0 a0_1 a0_2 a0_3 a0_4 a0_5 a0_6 a0_7 a0_8 l0_9 l0_10).bind fun t312 => (if t312 = true then ((castellanlaw4_known.f kj2).bind fun t313 => (some t313)) else (some false))) else (some false))) = some r := H
            have A22 := Aside0.mk A220
            clear A220
            replace H := Option.bind_eq_some_iff.mp H
            obtain ⟨t311, A230, H⟩ := H
            replace H : (if (t310 == t311) = true then ((ip_Same.f a0_0 a0_1 a0_2 a0_3 a0_4 a0_5 a0_6 a0_7 a0_8 l0_9 l0_10 a0_0 a0_1 a0_2 a0_3 a0_4 a0_5 a0_6 a0_7 a0_8 l0_9 l0_10).bind fun t312 => (if t312 = true then ((castellanlaw4_known.f kj2).bind fun t313 => (some t313)) else (some false))) else (some false)) = some r := H
            have A23 := Aside0.mk A230
            clear A230
            by_cases c24 : (t310 == t311) = true
            · rw [if_pos c24] at H
              have c24b0 : (t310 == t311) = true := c24
              (try (have c24b1 : decide (t310 = t311) = true := by simpa using c24))
              (try (have c24b2 : (t310 == t311) = true := by simpa using c24))
              clear c24
              replace H := Option.bind_eq_some_iff.mp H
              obtain ⟨t312, A250, H⟩ := H
              replace H : (if t312 = true then ((castellanlaw4_known.f kj2).bind fun t313 => (some t313)) else (some false)) = some r := H
              have A25 := Aside0.mk A250
              clear A250
              by_cases c26 : t312 = true
              · subst c26
                have H1 : ((castellanlaw4_known.f kj2).bind fun t313 => (some t313)) = some r := by rw [if_pos rfl] at H; exact H
                clear H
                have H := H1
                clear H1
                replace H := Option.bind_eq_some_iff.mp H
                obtain ⟨t313, A270, H⟩ := H
                replace H : (some t313) = some r := H
                have A27 := Aside0.mk A270
                clear A270
                obtain rfl := Option.some.inj H
                have hnb28 := NB298_299.out
                have hnc28 := NB299_298.out
                have hcz29_0 : wc.cell? ⟨gb298, 0, none⟩ = some (.int .i64 a0_0) := (blk_cell BK298.out 0).trans rfl
                have hcz29_1 : wc.cell? ⟨gb298, 1, none⟩ = some (.int .i64 a0_1) := (blk_cell BK298.out 1).trans rfl
                have hcz29_2 : wc.cell? ⟨gb298, 2, none⟩ = some (.bool a0_2) := (blk_cell BK298.out 2).trans rfl
                have hcz29_3 : wc.cell? ⟨gb298, 3, none⟩ = some (.bool a0_3) := (blk_cell BK298.out 3).trans rfl
                have hcz29_4 : wc.cell? ⟨gb298, 4, none⟩ = some (.int .i64 a0_4) := (blk_cell BK298.out 4).trans rfl
                have hcz29_5 : wc.cell? ⟨gb298, 5, none⟩ = some (.int .i64 a0_5) := (blk_cell BK298.out 5).trans rfl
                have hcz29_6 : wc.cell? ⟨gb298, 6, none⟩ = some (.int .i64 a0_6) := (blk_cell BK298.out 6).trans rfl
                have hcz29_7 : wc.cell? ⟨gb298, 7, none⟩ = some (.int .u32 a0_7) := (blk_cell BK298.out 7).trans rfl
                have hcz29_8 : wc.cell? ⟨gb298, 8, none⟩ = some (.int .u32 a0_8) := (blk_cell BK298.out 8).trans rfl
                have hcz29_9 : wc.cell? ⟨gb298, 9, none⟩ = some (.slice A0_9 l0_9.length c0_9) := (blk_cell BK298.out 9).trans rfl
                have hcz29_10 : wc.cell? ⟨gb298, 10, none⟩ = some (.slice A0_10 l0_10.length c0_10) := (blk_cell BK298.out 10).trans rfl
                have hfz29_0 := blk_frozen BK298.out 0
                have hfz29_1 := blk_frozen BK298.out 1
                have hfz29_2 := blk_frozen BK298.out 2
                have hfz29_3 := blk_frozen BK298.out 3
                have hfz29_4 := blk_frozen BK298.out 4
                have hfz29_5 := blk_frozen BK298.out 5
                have hfz29_6 := blk_frozen BK298.out 6
                have hfz29_7 := blk_frozen BK298.out 7
                have hfz29_8 := blk_frozen BK298.out 8
                have hfz29_9 := blk_frozen BK298.out 9
                have hfz29_10 := blk_frozen BK298.out 10
                try go_wp2_with (first | ((with_reducible refine gate_callee (f := 32) rfl ?_); refine goesL_ (some 17) rfl rfl Try.func32 (by kernel_rfl) rfl #[.agg #[.int .i64 a0_0, .int .i64 a0_1, .bool a0_2, .bool a0_3, .int .i64 a0_4, .int .i64 a0_5, .int .i64 a0_6, .int .u32 a0_7, .int .u32 a0_8, .slice A0_9 l0_9.length c0_9, .slice A0_10 l0_10.length c0_10]] rfl (by (try simp only [List.map_toArray, List.map_cons, List.map_nil]); first | done | rfl | (simp only [List.length_drop, List.length_take]; rfl)) ?_; (with_reducible refine (ip_Build.calls kj2 a0_0 a0_1 a0_2 a0_3 a0_4 a0_5 a0_6 a0_7 a0_8 (fun k_ => k_ < w.heap.size) _ _ l0_9 _ _ l0_10 t302 t305 _ ?side1 ?side2 ?side3 A18.out).mono ?_); (case side1 => exact Kd.V_mk HC0_9.out (Kd.F_below (Kd.C_F (Kd.heap_int .u8) HR0_9.out) (by repeat (first | (with_reducible first | exact HB.out | apply below_alloc | apply pw_below_drewN | apply below_drew1 | refine below_set ?_ GE298.out | refine below_set ?_ GE299.out) | exact HB.out)))); (case side2 => repeat (first | exact (Kd.C_below HR0_10.out HB.out) | (with_reducible refine Kd.C_alloc ?_ _) | (with_reducible refine Kd.C_drewN ?_ _) | (with_reducible refine Kd.C_drew ?_))); (case side3 => exact HC0_10.out); rintro e w30 ⟨v303, rfl, ho0, hb⟩; refine ⟨_, rfl, ?_⟩; have n0_ := Aside0.mk (Kd.R_lower (Kd.R_mono (ok' := fun k_ => True) ho0 (fun _ hk_ => trivial)) (below_size (by repeat (first | (with_reducible first | exact HB.out | apply below_alloc | apply pw_below_drewN | apply below_drew1 | refine below_set ?_ GE298.out | refine below_set ?_ GE299.out) | exact HB.out)))); have n1_ := Aside0.mk (blk_below (g := gb298) (o := .cells #[.int .i64 a0_0, .int .i64 a0_1, .bool a0_2, .bool a0_3, .int .i64 a0_4, .int .i64 a0_5, .int .i64 a0_6, .int .u32 a0_7, .int .u32 a0_8, .slice A0_9 l0_9.length c0_9, .slice A0_10 l0_10.length c0_10] 45 (0, 0)) (by (with_reducible repeat (first | refine blk_drewN ?_ _ | refine blk_drew ?_ | refine blk_alloc ?_ _)); exact BK298.out) hb); have n2_ := Aside0.mk (blk_below (g := gb299) (o := .cells #[.int .i64 a1_0, .int .i64 a1_1, .bool a1_2, .bool a1_3, .int .i64 a1_4, .int .i64 a1_5, .int .i64 a1_6, .int .u32 a1_7, .int .u32 a1_8, .slice A1_9 l1_9.length c1_9, .slice A1_10 l1_10.length c1_10] 45 (0, 0)) (by (with_reducible repeat (first | refine blk_drewN ?_ _ | refine blk_drew ?_ | refine blk_alloc ?_ _)); exact BK299.out) hb); have n3_ := Aside0.mk (below_step (by repeat (first | (with_reducible first | exact HB.out | apply below_alloc | apply pw_below_drewN | apply below_drew1 | refine below_set ?_ GE298.out | refine below_set ?_ GE299.out) | exact HB.out)) hb); clear BK298; clear BK299; clear HB; have HO304 := n0_; have BK298 := n1_; have BK299 := n2_; have HB := n3_; clear n0_ n1_ n2_ n3_; (try clear hb); (try clear hb2); (try clear hk); (try clear hi); (try clear ho0); have hcz31_0 : w30.cell? ⟨gb298, 0, none⟩ = some (.int .i64 a0_0) := (blk_cell BK298.out 0).trans rfl; have hcz31_1 : w30.cell? ⟨gb298, 1, none⟩ = some (.int .i64 a0_1) := (blk_cell BK298.out 1).trans rfl; have hcz31_2 : w30.cell? ⟨gb298, 2, none⟩ = some (.bool a0_2) := (blk_cell BK298.out 2).trans rfl; have hcz31_3 : w30.cell? ⟨gb298, 3, none⟩ = some (.bool a0_3) := (blk_cell BK298.out 3).trans rfl; have hcz31_4 : w30.cell? ⟨gb298, 4, none⟩ = some (.int .i64 a0_4) := (blk_cell BK298.out 4).trans rfl; have hcz31_5 : w30.cell? ⟨gb298, 5, none⟩ = some (.int .i64 a0_5) := (blk_cell BK298.out 5).trans rfl; have hcz31_6 : w30.cell? ⟨gb298, 6, none⟩ = some (.int .i64 a0_6) := (blk_cell BK298.out 6).trans rfl; have hcz31_7 : w30.cell? ⟨gb298, 7, none⟩ = some (.int .u32 a0_7) := (blk_cell BK298.out 7).trans rfl; have hcz31_8 : w30.cell? ⟨gb298, 8, none⟩ = some (.int .u32 a0_8) := (blk_cell BK298.out 8).trans rfl; have hcz31_9 : w30.cell? ⟨gb298, 9, none⟩ = some (.slice A0_9 l0_9.length c0_9) := (blk_cell BK298.out 9).trans rfl; have hcz31_10 : w30.cell? ⟨gb298, 10, none⟩ = some (.slice A0_10 l0_10.length c0_10) := (blk_cell BK298.out 10).trans rfl; have hfz31_0 := blk_frozen BK298.out 0; have hfz31_1 := blk_frozen BK298.out 1; have hfz31_2 := blk_frozen BK298.out 2; have hfz31_3 := blk_frozen BK298.out 3; have hfz31_4 := blk_frozen BK298.out 4; have hfz31_5 := blk_frozen BK298.out 5; have hfz31_6 := blk_frozen BK298.out 6; have hfz31_7 := blk_frozen BK298.out 7; have hfz31_8 := blk_frozen BK298.out 8; have hfz31_9 := blk_frozen BK298.out 9; have hfz31_10 := blk_frozen BK298.out 10) | ((with_reducible refine gate_callee (f := 33) rfl ?_); refine goesL_ (some 22) rfl rfl Try.func33 (by kernel_rfl) rfl #[.agg #[.int .i64 a0_0, .int .i64 a0_1, .bool a0_2, .bool a0_3, .int .i64 a0_4, .int .i64 a0_5, .int .i64 a0_6, .int .u32 a0_7, .int .u32 a0_8, .slice A0_9 l0_9.length c0_9, .slice A0_10 l0_10.length c0_10]] rfl (by (try simp only [List.map_toArray, List.map_cons, List.map_nil]); first | done | rfl | (simp only [List.length_drop, List.length_take]; rfl)) ?_; (with_reducible refine (castellanref4_Build.calls kj2 a0_0 a0_1 a0_2 a0_3 a0_4 a0_5 a0_6 a0_7 a0_8 _ _ l0_9 _ _ l0_10 t306 t309 _ ?side1 ?side2 ?side3 ?side4 A19.out).mono ?_); (case side1 => repeat (first | exact (Kd.C_below HR0_9.out HB.out) | (with_reducible refine Kd.C_alloc ?_ _) | (with_reducible refine Kd.C_drewN ?_ _) | (with_reducible refine Kd.C_drew ?_))); (case side2 => exact HC0_9.out); (case side3 => repeat (first | exact (Kd.C_below HR0_10.out HB.out) | (with_reducible refine Kd.C_alloc ?_ _) | (with_reducible refine Kd.C_drewN ?_ _) | (with_reducible refine Kd.C_drew ?_))); (case side4 => exact HC0_10.out); rintro e w32 ⟨v307, rfl, ho0, hb⟩; refine ⟨_, rfl, ?_⟩; have n0_ := Aside0.mk (Kd.R_elder' (by (with_reducible repeat (first | apply Kd.R_alloc | apply Kd.R_drewN | apply Kd.R_drew)); exact HO304.out) (Kd.R_base ho0) hb); have n1_ := Aside0.mk (Kd.R_lower (Kd.R_new' ho0 (Kd.R_lt (by (with_reducible repeat (first | apply Kd.R_alloc | apply Kd.R_drewN | apply Kd.R_drew)); exact HO304.out))) (below_size (by repeat (first | (with_reducible first | exact HB.out | apply below_alloc | apply pw_below_drewN | apply below_drew1 | refine below_set ?_ GE298.out | refine below_set ?_ GE299.out) | exact HB.out)))); have n2_ := Aside0.mk (blk_below (g := gb298) (o := .cells #[.int .i64 a0_0, .int .i64 a0_1, .bool a0_2, .bool a0_3, .int .i64 a0_4, .int .i64 a0_5, .int .i64 a0_6, .int .u32 a0_7, .int .u32 a0_8, .slice A0_9 l0_9.length c0_9, .slice A0_10 l0_10.length c0_10] 45 (0, 0)) (by (with_reducible repeat (first | refine blk_drewN ?_ _ | refine blk_drew ?_ | refine blk_alloc ?_ _)); exact BK298.out) hb); have n3_ := Aside0.mk (blk_below (g := gb299) (o := .cells #[.int .i64 a1_0, .int .i64 a1_1, .bool a1_2, .bool a1_3, .int .i64 a1_4, .int .i64 a1_5, .int .i64 a1_6, .int .u32 a1_7, .int .u32 a1_8, .slice A1_9 l1_9.length c1_9, .slice A1_10 l1_10.length c1_10] 45 (0, 0)) (by (with_reducible repeat (first | refine blk_drewN ?_ _ | refine blk_drew ?_ | refine blk_alloc ?_ _)); exact BK299.out) hb); have n4_ := Aside0.mk (below_step (by repeat (first | (with_reducible first | exact HB.out | apply below_alloc | apply pw_below_drewN | apply below_drew1 | refine below_set ?_ GE298.out | refine below_set ?_ GE299.out) | exact HB.out)) hb); clear HO304; clear BK298; clear BK299; clear HB; have HO304 := n0_; have HO308 := n1_; have BK298 := n2_; have BK299 := n3_; have HB := n4_; clear n0_ n1_ n2_ n3_ n4_; (try clear hb); (try clear hb2); (try clear hk); (try clear hi); (try clear ho0); obtain ⟨Ao33, co33, eo33⟩ := Kd.R_slice HO304.out; subst eo33; obtain ⟨Ao34, co34, eo34⟩ := Kd.R_slice HO308.out; subst eo34))
                have n0_ := Aside0.mk (Kd.R_drew HO304.out)
                have n1_ := Aside0.mk (Kd.R_drew HO308.out)
                have n2_ := Aside0.mk (blk_drew BK298.out)
                have n3_ := Aside0.mk (blk_drew BK299.out)
                have n4_ := Aside0.mk (below_drew1 HB.out)
                clear HO304
                clear HO308
                clear BK298
                clear BK299
                clear HB
                have HO304 := n0_
                have HO308 := n1_
                have BK298 := n2_
                have BK299 := n3_
                have HB := n4_
                clear n0_ n1_ n2_ n3_ n4_
                refine start_ (n := 28) (S := fun w' => True) (ds := []) #[false, false, false, false, false, false, false, false, false, false, false, false, false, false, false, false, false, false, false, false, false, false, false, false, false, false, false, false] (by kernel_rfl) rfl rfl trivial (fun hHeld => ?_); refine with_tabW castellanlaw4_IpBuilds.tab5 castellanlaw4_IpBuilds.bits5 (fun HT_ HW_ => ?_)
                generalize w32.drew = w35 at HO304 HO308 BK298 BK299 HB hHeld ⊢
                refine pure_ (i := 0) (N := some 25) (v := ?_) (a' := ?_) #[true, false, false, false, false, false, false, false, false, false, false, false, false, false, false, false, false, false, false, false, false, false, false, false, false, false, false, false] rfl rfl (any_of HT_.out (by kernel_rfl)) (fun _ _ _ h => h) (Or.inl ⟨by rfl, ?_⟩) ?_ ?_
                rotate_left
                · intro w'
                  go_simp
                  with_reducible rfl
                rotate_left
                · simp only [Act.put, List.setIfInBounds_toArray, List.set_cons_zero, List.set_cons_succ, i64_w, i32_w]
                  rfl
                refine pure_ (i := 2) (N := some 27) (v := ?_) (a' := ?_) #[true, false, true, false, false, false, false, false, false, false, false, false, false, false, false, false, false, false, false, false, false, false, false, false, false, false, false, false] rfl rfl (any_of HT_.out (by kernel_rfl)) (fun _ _ _ h => h) (Or.inl ⟨by rfl, ?_⟩) ?_ ?_
                rotate_left
                · intro w'
                  go_simp
                  with_reducible rfl
                rotate_left
                · simp only [Act.put, List.setIfInBounds_toArray, List.set_cons_zero, List.set_cons_succ, i64_w, i32_w]
                  rfl
                refine inv_at [1, 3, 4, 5, 6, 7, 8, 9, 10, 11, 12, 13, 14, 15, 16, 17, 18, 19, 20, 21, 22, 23, 24, 25, 26, 27] (fun a0_ b a w' => a = putSel a0_ b [(1, 26, .string (strOfNums t302)), (3, 28, .string (strOfNums t306)), (4, 29, .bool ((strOfNums t302).toList == (strOfNums t306).toList)), (5, 30, .bool ((strOfNums t302).toList == (strOfNums t306).toList)), (6, 31, .int .i64 t305), (7, 32, .int .i64 t309), (8, 33, .bool (t305 == t309)), (9, 34, .bool (t305 == t309)), (10, 35, .bool (t305 == t309)), (11, 36, .agg #[.int .i64 a0_0, .int .i64 a0_1, .bool a0_2, .bool a0_3, .int .i64 a0_4, .int .i64 a0_5, .int .i64 a0_6, .int .u32 a0_7, .int .u32 a0_8, .slice A0_9 l0_9.length c0_9, .slice A0_10 l0_10.length c0_10]), (12, 37, .agg #[.int .i64 a1_0, .int .i64 a1_1, .bool a1_2, .bool a1_3, .int .i64 a1_4, .int .i64 a1_5, .int .i64 a1_6, .int .u32 a1_7, .int .u32 a1_8, .slice A1_9 l1_9.length c1_9, .slice A1_10 l1_10.length c1_10]), (13, 38, .bool t310), (14, 39, .agg #[.int .i64 a0_0, .int .i64 a0_1, .bool a0_2, .bool a0_3, .int .i64 a0_4, .int .i64 a0_5, .int .i64 a0_6, .int .u32 a0_7, .int .u32 a0_8, .slice A0_9 l0_9.length c0_9, .slice A0_10 l0_10.length c0_10]), (15, 40, .agg #[.int .i64 a1_0, .int .i64 a1_1, .bool a1_2, .bool a1_3, .int .i64 a1_4, .int .i64 a1_5, .int .i64 a1_6, .int .u32 a1_7, .int .u32 a1_8, .slice A1_9 l1_9.length c1_9, .slice A1_10 l1_10.length c1_10]), (16, 41, .bool t311), (17, 42, .bool (t310 == t311)), (18, 43, .bool (t310 == t311)), (19, 44, .bool (t310 == t311)), (20, 45, .agg #[.int .i64 a0_0, .int .i64 a0_1, .bool a0_2, .bool a0_3, .int .i64 a0_4, .int .i64 a0_5, .int .i64 a0_6, .int .u32 a0_7, .int .u32 a0_8, .slice A0_9 l0_9.length c0_9, .slice A0_10 l0_10.length c0_10]), (21, 46, .agg #[.int .i64 a0_0, .int .i64 a0_1, .bool a0_2, .bool a0_3, .int .i64 a0_4, .int .i64 a0_5, .int .i64 a0_6, .int .u32 a0_7, .int .u32 a0_8, .slice A0_9 l0_9.length c0_9, .slice A0_10 l0_10.length c0_10]), (22, 47, .bool true), (23, 48, .bool true), (24, 49, .bool true), (25, 50, .bool t313), (26, 51, .bool t313), (27, 4, .bool t313)] ∧ (Kd.R (Kd.int .u8) 5 w' w.heap.size (fun k_ => some k_ ≠ (.slice Ao34 t306.length co34 : Value).ownBlock) (.slice Ao33 t302.length co33) t302) ∧ (Kd.R (Kd.int .u8) 5 w' w.heap.size (fun k_ => some k_ ≠ (.slice Ao33 t302.length co33 : Value).ownBlock) (.slice Ao34 t306.length co34) t306) ∧ (w'.heap[gb298]? = some (.cells #[.int .i64 a0_0, .int .i64 a0_1, .bool a0_2, .bool a0_3, .int .i64 a0_4, .int .i64 a0_5, .int .i64 a0_6, .int .u32 a0_7, .int .u32 a0_8, .slice A0_9 l0_9.length c0_9, .slice A0_10 l0_10.length c0_10] 45 (0, 0))) ∧ (w'.heap[gb299]? = some (.cells #[.int .i64 a1_0, .int .i64 a1_1, .bool a1_2, .bool a1_3, .int .i64 a1_4, .int .i64 a1_5, .int .i64 a1_6, .int .u32 a1_7, .int .u32 a1_8, .slice A1_9 l1_9.length c1_9, .slice A1_10 l1_10.length c1_10] 45 (0, 0))) ∧ (Below w.heap.size w w')) HT_.out HW_.out (by kernel_rfl) (by kernel_rfl) ?_ ?_ ?_
                · exact ⟨by simp only [putSel, Bool.false_eq_true, if_false], (by first | exact HO304.out | exact Kd.R_mono HO304.out (fun _ hk => by exact okw hk)), (by first | exact HO308.out | exact Kd.R_mono HO308.out (fun _ hk => by exact okw hk)), BK298.out, BK299.out, HB.out⟩
                · skip
                  clear BK298 BK299 HB HO304 HO308
                  refine steps_cons ?_ ?_
                  · rintro b a w' ⟨ha, Q_HO304, Q_HO308, Q_BK298, Q_BK299, Q_HB⟩ hb_ hon hoff
                    refine ⟨_, rfl, fun K hK => ?_⟩
                    have e25 : a.tmps[25]? = some (.slice Ao33 t302.length co33) := by rw [ha]; exact (putSel_off rfl).trans rfl
                    replace ha := Aside0.mk ha
                    have HO304 := Aside0.mk Q_HO304
                    have HO308 := Aside0.mk Q_HO308
                    have BK298 := Aside0.mk Q_BK298
                    have BK299 := Aside0.mk Q_BK299
                    have HB := Aside0.mk Q_HB
                    have hcv_ := Kd.C_string (P := Try.prog) (A := Ao33) (c := co33) Try.underlying24 Try.underlying5 Try.underlying9 (Kd.R_reads' HO304.out).2.2
                    refine value_ (w1 := w') (v := .string (strOfNums t302)) (by rfl) rfl ?_ ?_
                    · go_simp
                      (try simp only [i64_w])
                      try rfl
                    refine hK.out _ _ ⟨(by rw [ha.out]; exact putSel_upk 0 hb_ rfl rfl rfl), Q_HO304, Q_HO308, Q_BK298, Q_BK299, Q_HB⟩
                  refine steps_cons ?_ ?_
                  · rintro b a w' ⟨ha, Q_HO304, Q_HO308, Q_BK298, Q_BK299, Q_HB⟩ hb_ hon hoff
                    refine ⟨_, rfl, fun K hK => ?_⟩
                    have e27 : a.tmps[27]? = some (.slice Ao34 t306.length co34) := by rw [ha]; exact (putSel_off rfl).trans rfl
                    replace ha := Aside0.mk ha
                    have HO304 := Aside0.mk Q_HO304
                    have HO308 := Aside0.mk Q_HO308
                    have BK298 := Aside0.mk Q_BK298
                    have BK299 := Aside0.mk Q_BK299
                    have HB := Aside0.mk Q_HB
                    have hcv_ := Kd.C_string (P := Try.prog) (A := Ao34) (c := co34) Try.underlying24 Try.underlying5 Try.underlying9 (Kd.R_reads' HO308.out).2.2
                    refine value_ (w1 := w') (v := .string (strOfNums t306)) (by rfl) rfl ?_ ?_
                    · go_simp
                      (try simp only [i64_w])
                      try rfl
                    refine hK.out _ _ ⟨(by rw [ha.out]; exact putSel_upk 1 hb_ rfl rfl rfl), Q_HO304, Q_HO308, Q_BK298, Q_BK299, Q_HB⟩
                  refine steps_cons ?_ ?_
                  · rintro b a w' ⟨ha, Q_HO304, Q_HO308, Q_BK298, Q_BK299, Q_HB⟩ hb_ hon hoff
                    refine ⟨_, rfl, fun K hK => ?_⟩
                    have e26 : a.tmps[26]? = some (.string (strOfNums t302)) := by rw [ha]; exact putSel_on (e := (1, 26, .string (strOfNums t302))) 0 rfl rfl (hon 1 (by kernel_rfl)) rfl
                    have e28 : a.tmps[28]? = some (.string (strOfNums t306)) := by rw [ha]; exact putSel_on (e := (3, 28, .string (strOfNums t306))) 1 rfl rfl (hon 3 (by kernel_rfl)) rfl
                    replace ha := Aside0.mk ha
                    have HO304 := Aside0.mk Q_HO304
                    have HO308 := Aside0.mk Q_HO308
                    have BK298 := Aside0.mk Q_BK298
                    have BK299 := Aside0.mk Q_BK299
                    have HB := Aside0.mk Q_HB
                    refine value_ (w1 := w') (v := .bool ((strOfNums t302).toList == (strOfNums t306).toList)) (by rfl) rfl ?_ ?_
                    · go_simp
                      (try simp only [i64_w])
                      try rfl
                    refine hK.out _ _ ⟨(by rw [ha.out]; exact putSel_upk 2 hb_ rfl rfl rfl), Q_HO304, Q_HO308, Q_BK298, Q_BK299, Q_HB⟩
                  refine steps_cons ?_ ?_
                  · rintro b a w' ⟨ha, Q_HO304, Q_HO308, Q_BK298, Q_BK299, Q_HB⟩ hb_ hon hoff
                    refine ⟨_, rfl, fun K hK => ?_⟩
                    have e29 : a.tmps[29]? = some (.bool ((strOfNums t302).toList == (strOfNums t306).toList)) := by rw [ha]; exact putSel_on (e := (4, 29, .bool ((strOfNums t302).toList == (strOfNums t306).toList))) 2 rfl rfl (hon 4 (by kernel_rfl)) rfl
                    replace ha := Aside0.mk ha
                    have HO304 := Aside0.mk Q_HO304
                    have HO308 := Aside0.mk Q_HO308
                    have BK298 := Aside0.mk Q_BK298
                    have BK299 := Aside0.mk Q_BK299
                    have HB := Aside0.mk Q_HB
                    refine value_ (w1 := w') (v := .bool ((strOfNums t302).toList == (strOfNums t306).toList)) (by rfl) rfl ?_ ?_
                    · go_simp
                      (try simp only [i64_w])
                      try rfl
                    refine hK.out _ _ ⟨(by rw [ha.out]; exact putSel_upk 3 hb_ rfl rfl rfl), Q_HO304, Q_HO308, Q_BK298, Q_BK299, Q_HB⟩
                  refine steps_cons ?_ ?_
                  · rintro b a w' ⟨ha, Q_HO304, Q_HO308, Q_BK298, Q_BK299, Q_HB⟩ hb_ hon hoff
                    refine ⟨_, rfl, fun K hK => ?_⟩
                    have e6 : a.tmps[6]? = some (.int .i64 t305) := by rw [ha]; exact (putSel_off rfl).trans rfl
                    have e30 : a.tmps[30]? = some (.bool ((strOfNums t302).toList == (strOfNums t306).toList)) := by rw [ha]; exact putSel_on (e := (5, 30, .bool ((strOfNums t302).toList == (strOfNums t306).toList))) 3 rfl rfl (hon 5 (by kernel_rfl)) rfl
                    replace ha := Aside0.mk ha
                    have HO304 := Aside0.mk Q_HO304
                    have HO308 := Aside0.mk Q_HO308
                    have BK298 := Aside0.mk Q_BK298
                    have BK299 := Aside0.mk Q_BK299
                    have HB := Aside0.mk Q_HB
                    refine value_ (w1 := w') (v := .int .i64 t305) (wanted_on rfl rfl rfl (e30.trans (by first | rfl | (simp [*]; done)))) rfl ?_ ?_
                    · go_simp
                      (try simp only [i64_w])
                      try rfl
                    refine hK.out _ _ ⟨(by rw [ha.out]; exact putSel_upk 4 hb_ rfl rfl rfl), Q_HO304, Q_HO308, Q_BK298, Q_BK299, Q_HB⟩
                  refine steps_cons ?_ ?_
                  · rintro b a w' ⟨ha, Q_HO304, Q_HO308, Q_BK298, Q_BK299, Q_HB⟩ hb_ hon hoff
                    refine ⟨_, rfl, fun K hK => ?_⟩
                    have e8 : a.tmps[8]? = some (.int .i64 t309) := by rw [ha]; exact (putSel_off rfl).trans rfl
                    have e30 : a.tmps[30]? = some (.bool ((strOfNums t302).toList == (strOfNums t306).toList)) := by rw [ha]; exact putSel_on (e := (5, 30, .bool ((strOfNums t302).toList == (strOfNums t306).toList))) 3 rfl rfl (hon 5 (by kernel_rfl)) rfl
                    replace ha := Aside0.mk ha
                    have HO304 := Aside0.mk Q_HO304
                    have HO308 := Aside0.mk Q_HO308
                    have BK298 := Aside0.mk Q_BK298
                    have BK299 := Aside0.mk Q_BK299
                    have HB := Aside0.mk Q_HB
                    refine value_ (w1 := w') (v := .int .i64 t309) (wanted_on rfl rfl rfl (e30.trans (by first | rfl | (simp [*]; done)))) rfl ?_ ?_
                    · go_simp
                      (try simp only [i64_w])
                      try rfl
                    refine hK.out _ _ ⟨(by rw [ha.out]; exact putSel_upk 5 hb_ rfl rfl rfl), Q_HO304, Q_HO308, Q_BK298, Q_BK299, Q_HB⟩
                  refine steps_cons ?_ ?_
                  · rintro b a w' ⟨ha, Q_HO304, Q_HO308, Q_BK298, Q_BK299, Q_HB⟩ hb_ hon hoff
                    refine ⟨_, rfl, fun K hK => ?_⟩
                    have e31 : a.tmps[31]? = some (.int .i64 t305) := by rw [ha]; exact putSel_on (e := (6, 31, .int .i64 t305)) 4 rfl rfl (hon 6 (by kernel_rfl)) rfl
                    have e32 : a.tmps[32]? = some (.int .i64 t309) := by rw [ha]; exact putSel_on (e := (7, 32, .int .i64 t309)) 5 rfl rfl (hon 7 (by kernel_rfl)) rfl
                    have e30 : a.tmps[30]? = some (.bool ((strOfNums t302).toList == (strOfNums t306).toList)) := by rw [ha]; exact putSel_on (e := (5, 30, .bool ((strOfNums t302).toList == (strOfNums t306).toList))) 3 rfl rfl (hon 5 (by kernel_rfl)) rfl
                    replace ha := Aside0.mk ha
                    have HO304 := Aside0.mk Q_HO304
                    have HO308 := Aside0.mk Q_HO308
                    have BK298 := Aside0.mk Q_BK298
                    have BK299 := Aside0.mk Q_BK299
                    have HB := Aside0.mk Q_HB
                    refine value_ (w1 := w') (v := .bool (t305 == t309)) (wanted_on rfl rfl rfl (e30.trans (by first | rfl | (simp [*]; done)))) rfl ?_ ?_
                    · go_simp
                      (try simp only [i64_w])
                      try rfl
                    refine hK.out _ _ ⟨(by rw [ha.out]; exact putSel_upk 6 hb_ rfl rfl rfl), Q_HO304, Q_HO308, Q_BK298, Q_BK299, Q_HB⟩
                  refine steps_cons ?_ ?_
                  · rintro b a w' ⟨ha, Q_HO304, Q_HO308, Q_BK298, Q_BK299, Q_HB⟩ hb_ hon hoff
                    refine ⟨_, rfl, fun K hK => ?_⟩
                    have e30 : a.tmps[30]? = some (.bool ((strOfNums t302).toList == (strOfNums t306).toList)) := by rw [ha]; exact putSel_on (e := (5, 30, .bool ((strOfNums t302).toList == (strOfNums t306).toList))) 3 rfl rfl (hon 5 (by kernel_rfl)) rfl
                    have e33 : a.tmps[33]? = some (.bool (t305 == t309)) := by rw [ha]; exact putSel_on (e := (8, 33, .bool (t305 == t309))) 6 rfl rfl (hon 8 (by kernel_rfl)) rfl
                    replace ha := Aside0.mk ha
                    have HO304 := Aside0.mk Q_HO304
                    have HO308 := Aside0.mk Q_HO308
                    have BK298 := Aside0.mk Q_BK298
                    have BK299 := Aside0.mk Q_BK299
                    have HB := Aside0.mk Q_HB
                    refine value_ (w1 := w') (v := .bool (t305 == t309)) (by rfl) rfl ?_ ?_
                    · go_simp
                      (try simp only [i64_w])
                      try rfl
                    refine hK.out _ _ ⟨(by rw [ha.out]; exact putSel_upk 7 hb_ rfl rfl rfl), Q_HO304, Q_HO308, Q_BK298, Q_BK299, Q_HB⟩
                  refine steps_cons ?_ ?_
                  · rintro b a w' ⟨ha, Q_HO304, Q_HO308, Q_BK298, Q_BK299, Q_HB⟩ hb_ hon hoff
                    refine ⟨_, rfl, fun K hK => ?_⟩
                    have e34 : a.tmps[34]? = some (.bool (t305 == t309)) := by rw [ha]; exact putSel_on (e := (9, 34, .bool (t305 == t309))) 7 rfl rfl (hon 9 (by kernel_rfl)) rfl
                    replace ha := Aside0.mk ha
                    have HO304 := Aside0.mk Q_HO304
                    have HO308 := Aside0.mk Q_HO308
                    have BK298 := Aside0.mk Q_BK298
                    have BK299 := Aside0.mk Q_BK299
                    have HB := Aside0.mk Q_HB
                    refine value_ (w1 := w') (v := .bool (t305 == t309)) (by rfl) rfl ?_ ?_
                    · go_simp
                      (try simp only [i64_w])
                      try rfl
                    refine hK.out _ _ ⟨(by rw [ha.out]; exact putSel_upk 8 hb_ rfl rfl rfl), Q_HO304, Q_HO308, Q_BK298, Q_BK299, Q_HB⟩
                  refine steps_cons ?_ ?_
                  · rintro b a w' ⟨ha, Q_HO304, Q_HO308, Q_BK298, Q_BK299, Q_HB⟩ hb_ hon hoff
                    refine ⟨_, rfl, fun K hK => ?_⟩
                    have e2 : a.tmps[2]? = some (.pointer (some ⟨gb298, 0, none⟩)) := by rw [ha]; exact (putSel_off rfl).trans rfl
                    have e35 : a.tmps[35]? = some (.bool (t305 == t309)) := by rw [ha]; exact putSel_on (e := (10, 35, .bool (t305 == t309))) 8 rfl rfl (hon 10 (by kernel_rfl)) rfl
                    replace ha := Aside0.mk ha
                    have HO304 := Aside0.mk Q_HO304
                    have HO308 := Aside0.mk Q_HO308
                    have BK298 := Aside0.mk Q_BK298
                    have BK299 := Aside0.mk Q_BK299
                    have HB := Aside0.mk Q_HB
                    have hc0_ : w'.cell? ⟨gb298, 0, none⟩ = some (.int .i64 a0_0) := (blk_cell BK298.out 0).trans rfl
                    have hc1_ : w'.cell? ⟨gb298, 1, none⟩ = some (.int .i64 a0_1) := (blk_cell BK298.out 1).trans rfl
                    have hc2_ : w'.cell? ⟨gb298, 2, none⟩ = some (.bool a0_2) := (blk_cell BK298.out 2).trans rfl
                    have hc3_ : w'.cell? ⟨gb298, 3, none⟩ = some (.bool a0_3) := (blk_cell BK298.out 3).trans rfl
                    have hc4_ : w'.cell? ⟨gb298, 4, none⟩ = some (.int .i64 a0_4) := (blk_cell BK298.out 4).trans rfl
                    have hc5_ : w'.cell? ⟨gb298, 5, none⟩ = some (.int .i64 a0_5) := (blk_cell BK298.out 5).trans rfl
                    have hc6_ : w'.cell? ⟨gb298, 6, none⟩ = some (.int .i64 a0_6) := (blk_cell BK298.out 6).trans rfl
                    have hc7_ : w'.cell? ⟨gb298, 7, none⟩ = some (.int .u32 a0_7) := (blk_cell BK298.out 7).trans rfl
                    have hc8_ : w'.cell? ⟨gb298, 8, none⟩ = some (.int .u32 a0_8) := (blk_cell BK298.out 8).trans rfl
                    have hc9_ : w'.cell? ⟨gb298, 9, none⟩ = some (.slice A0_9 l0_9.length c0_9) := (blk_cell BK298.out 9).trans rfl
                    have hc10_ : w'.cell? ⟨gb298, 10, none⟩ = some (.slice A0_10 l0_10.length c0_10) := (blk_cell BK298.out 10).trans rfl
                    refine value_ (w1 := w') (v := .agg #[.int .i64 a0_0, .int .i64 a0_1, .bool a0_2, .bool a0_3, .int .i64 a0_4, .int .i64 a0_5, .int .i64 a0_6, .int .u32 a0_7, .int .u32 a0_8, .slice A0_9 l0_9.length c0_9, .slice A0_10 l0_10.length c0_10]) (wanted_on rfl rfl rfl (e35.trans (by first | rfl | (simp [*]; done)))) rfl ?_ ?_
                    · go_simp
                      (try simp only [i64_w])
                      try rfl
                    refine hK.out _ _ ⟨(by rw [ha.out]; exact putSel_upk 9 hb_ rfl rfl rfl), Q_HO304, Q_HO308, Q_BK298, Q_BK299, Q_HB⟩
                  refine steps_cons ?_ ?_
                  · rintro b a w' ⟨ha, Q_HO304, Q_HO308, Q_BK298, Q_BK299, Q_HB⟩ hb_ hon hoff
                    refine ⟨_, rfl, fun K hK => ?_⟩
                    have e3 : a.tmps[3]? = some (.pointer (some ⟨gb299, 0, none⟩)) := by rw [ha]; exact (putSel_off rfl).trans rfl
                    have e35 : a.tmps[35]? = some (.bool (t305 == t309)) := by rw [ha]; exact putSel_on (e := (10, 35, .bool (t305 == t309))) 8 rfl rfl (hon 10 (by kernel_rfl)) rfl
                    replace ha := Aside0.mk ha
                    have HO304 := Aside0.mk Q_HO304
                    have HO308 := Aside0.mk Q_HO308
                    have BK298 := Aside0.mk Q_BK298
                    have BK299 := Aside0.mk Q_BK299
                    have HB := Aside0.mk Q_HB
                    have hc0_ : w'.cell? ⟨gb299, 0, none⟩ = some (.int .i64 a1_0) := (blk_cell BK299.out 0).trans rfl
                    have hc1_ : w'.cell? ⟨gb299, 1, none⟩ = some (.int .i64 a1_1) := (blk_cell BK299.out 1).trans rfl
                    have hc2_ : w'.cell? ⟨gb299, 2, none⟩ = some (.bool a1_2) := (blk_cell BK299.out 2).trans rfl
                    have hc3_ : w'.cell? ⟨gb299, 3, none⟩ = some (.bool a1_3) := (blk_cell BK299.out 3).trans rfl
                    have hc4_ : w'.cell? ⟨gb299, 4, none⟩ = some (.int .i64 a1_4) := (blk_cell BK299.out 4).trans rfl
                    have hc5_ : w'.cell? ⟨gb299, 5, none⟩ = some (.int .i64 a1_5) := (blk_cell BK299.out 5).trans rfl
                    have hc6_ : w'.cell? ⟨gb299, 6, none⟩ = some (.int .i64 a1_6) := (blk_cell BK299.out 6).trans rfl
                    have hc7_ : w'.cell? ⟨gb299, 7, none⟩ = some (.int .u32 a1_7) := (blk_cell BK299.out 7).trans rfl
                    have hc8_ : w'.cell? ⟨gb299, 8, none⟩ = some (.int .u32 a1_8) := (blk_cell BK299.out 8).trans rfl
                    have hc9_ : w'.cell? ⟨gb299, 9, none⟩ = some (.slice A1_9 l1_9.length c1_9) := (blk_cell BK299.out 9).trans rfl
                    have hc10_ : w'.cell? ⟨gb299, 10, none⟩ = some (.slice A1_10 l1_10.length c1_10) := (blk_cell BK299.out 10).trans rfl
                    refine value_ (w1 := w') (v := .agg #[.int .i64 a1_0, .int .i64 a1_1, .bool a1_2, .bool a1_3, .int .i64 a1_4, .int .i64 a1_5, .int .i64 a1_6, .int .u32 a1_7, .int .u32 a1_8, .slice A1_9 l1_9.length c1_9, .slice A1_10 l1_10.length c1_10]) (wanted_on rfl rfl rfl (e35.trans (by first | rfl | (simp [*]; done)))) rfl ?_ ?_
                    · go_simp
                      (try simp only [i64_w])
                      try rfl
                    refine hK.out _ _ ⟨(by rw [ha.out]; exact putSel_upk 10 hb_ rfl rfl rfl), Q_HO304, Q_HO308, Q_BK298, Q_BK299, Q_HB⟩
                  refine steps_cons ?_ ?_
                  · rintro b a w' ⟨ha, Q_HO304, Q_HO308, Q_BK298, Q_BK299, Q_HB⟩ hb_ hon hoff
                    refine ⟨_, rfl, fun K hK => ?_⟩
                    have e36 : a.tmps[36]? = some (.agg #[.int .i64 a0_0, .int .i64 a0_1, .bool a0_2, .bool a0_3, .int .i64 a0_4, .int .i64 a0_5, .int .i64 a0_6, .int .u32 a0_7, .int .u32 a0_8, .slice A0_9 l0_9.length c0_9, .slice A0_10 l0_10.length c0_10]) := by rw [ha]; exact putSel_on (e := (11, 36, .agg #[.int .i64 a0_0, .int .i64 a0_1, .bool a0_2, .bool a0_3, .int .i64 a0_4, .int .i64 a0_5, .int .i64 a0_6, .int .u32 a0_7, .int .u32 a0_8, .slice A0_9 l0_9.length c0_9, .slice A0_10 l0_10.length c0_10])) 9 rfl rfl (hon 11 (by kernel_rfl)) rfl
                    have e37 : a.tmps[37]? = some (.agg #[.int .i64 a1_0, .int .i64 a1_1, .bool a1_2, .bool a1_3, .int .i64 a1_4, .int .i64 a1_5, .int .i64 a1_6, .int .u32 a1_7, .int .u32 a1_8, .slice A1_9 l1_9.length c1_9, .slice A1_10 l1_10.length c1_10]) := by rw [ha]; exact putSel_on (e := (12, 37, .agg #[.int .i64 a1_0, .int .i64 a1_1, .bool a1_2, .bool a1_3, .int .i64 a1_4, .int .i64 a1_5, .int .i64 a1_6, .int .u32 a1_7, .int .u32 a1_8, .slice A1_9 l1_9.length c1_9, .slice A1_10 l1_10.length c1_10])) 10 rfl rfl (hon 12 (by kernel_rfl)) rfl
                    have e35 : a.tmps[35]? = some (.bool (t305 == t309)) := by rw [ha]; exact putSel_on (e := (10, 35, .bool (t305 == t309))) 8 rfl rfl (hon 10 (by kernel_rfl)) rfl
                    replace ha := Aside0.mk ha
                    have HO304 := Aside0.mk Q_HO304
                    have HO308 := Aside0.mk Q_HO308
                    have BK298 := Aside0.mk Q_BK298
                    have BK299 := Aside0.mk Q_BK299
                    have HB := Aside0.mk Q_HB
                    refine goes_ Try.func34 (by kernel_rfl) rfl #[.agg #[.int .i64 a0_0, .int .i64 a0_1, .bool a0_2, .bool a0_3, .int .i64 a0_4, .int .i64 a0_5, .int .i64 a0_6, .int .u32 a0_7, .int .u32 a0_8, .slice A0_9 l0_9.length c0_9, .slice A0_10 l0_10.length c0_10], .agg #[.int .i64 a1_0, .int .i64 a1_1, .bool a1_2, .bool a1_3, .int .i64 a1_4, .int .i64 a1_5, .int .i64 a1_6, .int .u32 a1_7, .int .u32 a1_8, .slice A1_9 l1_9.length c1_9, .slice A1_10 l1_10.length c1_10]] (wanted_on rfl rfl rfl (e35.trans (by first | rfl | (simp [*]; done)))) rfl rfl (by first | (simp only [List.map_toArray, List.map_cons, List.map_nil, Act.eval, Array.getD_eq_getD_getElem?, Option.getD_some, e36, e37, e35]; done) | (simp only [List.map_toArray, List.map_cons, List.map_nil, Act.eval, Array.getD_eq_getD_getElem?, Option.getD_some, e36, e37, e35]; rfl)) ?_
                    with_reducible refine (ip_Same.calls a0_0 a0_1 a0_2 a0_3 a0_4 a0_5 a0_6 a0_7 a0_8 _ _ l0_9 _ _ l0_10 a1_0 a1_1 a1_2 a1_3 a1_4 a1_5 a1_6 a1_7 a1_8 _ _ l1_9 _ _ l1_10 t310 _ ?side1 ?side2 ?side3 ?side4 ?side5 ?side6 ?side7 ?side8 A22.out).mono ?_
                    (case side1 => repeat (first | exact (Kd.C_below HR0_9.out HB.out) | (with_reducible refine Kd.C_alloc ?_ _) | (with_reducible refine Kd.C_drewN ?_ _) | (with_reducible refine Kd.C_drew ?_)))
                    (case side2 => exact HC0_9.out)
                    (case side3 => repeat (first | exact (Kd.C_below HR0_10.out HB.out) | (with_reducible refine Kd.C_alloc ?_ _) | (with_reducible refine Kd.C_drewN ?_ _) | (with_reducible refine Kd.C_drew ?_)))
                    (case side4 => exact HC0_10.out)
                    (case side5 => repeat (first | exact (Kd.C_below HR1_9.out HB.out) | (with_reducible refine Kd.C_alloc ?_ _) | (with_reducible refine Kd.C_drewN ?_ _) | (with_reducible refine Kd.C_drew ?_)))
                    (case side6 => exact HC1_9.out)
                    (case side7 => repeat (first | exact (Kd.C_below HR1_10.out HB.out) | (with_reducible refine Kd.C_alloc ?_ _) | (with_reducible refine Kd.C_drewN ?_ _) | (with_reducible refine Kd.C_drew ?_)))
                    (case side8 => exact HC1_10.out)
                    rintro e w36 ⟨rfl, hb⟩
                    refine ⟨_, rfl, ?_⟩
                    have n0_ := Aside0.mk (Kd.R_below (by (with_reducible repeat (first | apply Kd.R_alloc | apply Kd.R_drewN | apply Kd.R_drew)); exact HO304.out) hb)
                    have n1_ := Aside0.mk (Kd.R_below (by (with_reducible repeat (first | apply Kd.R_alloc | apply Kd.R_drewN | apply Kd.R_drew)); exact HO308.out) hb)
                    have n2_ := Aside0.mk (blk_below (g := gb298) (o := .cells #[.int .i64 a0_0, .int .i64 a0_1, .bool a0_2, .bool a0_3, .int .i64 a0_4, .int .i64 a0_5, .int .i64 a0_6, .int .u32 a0_7, .int .u32 a0_8, .slice A0_9 l0_9.length c0_9, .slice A0_10 l0_10.length c0_10] 45 (0, 0)) (by (with_reducible repeat (first | refine blk_drewN ?_ _ | refine blk_drew ?_ | refine blk_alloc ?_ _)); exact BK298.out) hb)
                    have n3_ := Aside0.mk (blk_below (g := gb299) (o := .cells #[.int .i64 a1_0, .int .i64 a1_1, .bool a1_2, .bool a1_3, .int .i64 a1_4, .int .i64 a1_5, .int .i64 a1_6, .int .u32 a1_7, .int .u32 a1_8, .slice A1_9 l1_9.length c1_9, .slice A1_10 l1_10.length c1_10] 45 (0, 0)) (by (with_reducible repeat (first | refine blk_drewN ?_ _ | refine blk_drew ?_ | refine blk_alloc ?_ _)); exact BK299.out) hb)
                    have n4_ := Aside0.mk (below_step (by repeat (first | (with_reducible first | exact HB.out | apply below_alloc | apply pw_below_drewN | apply below_drew1 | refine below_set ?_ GE298.out | refine below_set ?_ GE299.out) | exact HB.out)) hb)
                    clear HO304
                    clear HO308
                    clear BK298
                    clear BK299
                    clear HB
                    have HO304 := n0_
                    have HO308 := n1_
                    have BK298 := n2_
                    have BK299 := n3_
                    have HB := n4_
                    clear n0_ n1_ n2_ n3_ n4_
                    (try clear hb)
                    (try clear hb2)
                    (try clear hk)
                    (try clear hi)
                    refine hK.out _ _ ⟨(by rw [ha.out]; exact putSel_upk 11 hb_ rfl rfl rfl), (by first | ((with_reducible repeat (first | apply Kd.R_alloc | apply Kd.R_drewN | apply Kd.R_drew)); exact Kd.R_mono HO304.out (fun _ hk => hk.2)) | ((with_reducible repeat (first | apply Kd.R_alloc | apply Kd.R_drewN | apply Kd.R_drew)); exact Kd.R_mono HO304.out (fun _ hk => by first | trivial | exact hk | exact hk.1 | exact hk.2 | exact hk.1.1 | exact okw hk))), (by first | ((with_reducible repeat (first | apply Kd.R_alloc | apply Kd.R_drewN | apply Kd.R_drew)); exact Kd.R_mono HO308.out (fun _ hk => hk.2)) | ((with_reducible repeat (first | apply Kd.R_alloc | apply Kd.R_drewN | apply Kd.R_drew)); exact Kd.R_mono HO308.out (fun _ hk => by first | trivial | exact hk | exact hk.1 | exact hk.2 | exact hk.1.1 | exact okw hk))), (by (with_reducible repeat (first | refine blk_drewN ?_ _ | refine blk_drew ?_ | refine blk_alloc ?_ _)); exact BK298.out), (by (with_reducible repeat (first | refine blk_drewN ?_ _ | refine blk_drew ?_ | refine blk_alloc ?_ _)); exact BK299.out), (by repeat (first | (with_reducible first | exact HB.out | apply below_alloc | apply pw_below_drewN | apply below_drew1 | refine below_set ?_ GE298.out | refine below_set ?_ GE299.out) | exact HB.out))⟩
                  refine steps_cons ?_ ?_
                  · rintro b a w' ⟨ha, Q_HO304, Q_HO308, Q_BK298, Q_BK299, Q_HB⟩ hb_ hon hoff
                    refine ⟨_, rfl, fun K hK => ?_⟩
                    have e2 : a.tmps[2]? = some (.pointer (some ⟨gb298, 0, none⟩)) := by rw [ha]; exact (putSel_off rfl).trans rfl
                    have e35 : a.tmps[35]? = some (.bool (t305 == t309)) := by rw [ha]; exact putSel_on (e := (10, 35, .bool (t305 == t309))) 8 rfl rfl (hon 10 (by kernel_rfl)) rfl
                    replace ha := Aside0.mk ha
                    have HO304 := Aside0.mk Q_HO304
                    have HO308 := Aside0.mk Q_HO308
                    have BK298 := Aside0.mk Q_BK298
                    have BK299 := Aside0.mk Q_BK299
                    have HB := Aside0.mk Q_HB
                    have hc0_ : w'.cell? ⟨gb298, 0, none⟩ = some (.int .i64 a0_0) := (blk_cell BK298.out 0).trans rfl
                    have hc1_ : w'.cell? ⟨gb298, 1, none⟩ = some (.int .i64 a0_1) := (blk_cell BK298.out 1).trans rfl
                    have hc2_ : w'.cell? ⟨gb298, 2, none⟩ = some (.bool a0_2) := (blk_cell BK298.out 2).trans rfl
                    have hc3_ : w'.cell? ⟨gb298, 3, none⟩ = some (.bool a0_3) := (blk_cell BK298.out 3).trans rfl
                    have hc4_ : w'.cell? ⟨gb298, 4, none⟩ = some (.int .i64 a0_4) := (blk_cell BK298.out 4).trans rfl
                    have hc5_ : w'.cell? ⟨gb298, 5, none⟩ = some (.int .i64 a0_5) := (blk_cell BK298.out 5).trans rfl
                    have hc6_ : w'.cell? ⟨gb298, 6, none⟩ = some (.int .i64 a0_6) := (blk_cell BK298.out 6).trans rfl
                    have hc7_ : w'.cell? ⟨gb298, 7, none⟩ = some (.int .u32 a0_7) := (blk_cell BK298.out 7).trans rfl
                    have hc8_ : w'.cell? ⟨gb298, 8, none⟩ = some (.int .u32 a0_8) := (blk_cell BK298.out 8).trans rfl
                    have hc9_ : w'.cell? ⟨gb298, 9, none⟩ = some (.slice A0_9 l0_9.length c0_9) := (blk_cell BK298.out 9).trans rfl
                    have hc10_ : w'.cell? ⟨gb298, 10, none⟩ = some (.slice A0_10 l0_10.length c0_10) := (blk_cell BK298.out 10).trans rfl
                    refine value_ (w1 := w') (v := .agg #[.int .i64 a0_0, .int .i64 a0_1, .bool a0_2, .bool a0_3, .int .i64 a0_4, .int .i64 a0_5, .int .i64 a0_6, .int .u32 a0_7, .int .u32 a0_8, .slice A0_9 l0_9.length c0_9, .slice A0_10 l0_10.length c0_10]) (wanted_on rfl rfl rfl (e35.trans (by first | rfl | (simp [*]; done)))) rfl ?_ ?_
                    · go_simp
                      (try simp only [i64_w])
                      try rfl
                    refine hK.out _ _ ⟨(by rw [ha.out]; exact putSel_upk 12 hb_ rfl rfl rfl), Q_HO304, Q_HO308, Q_BK298, Q_BK299, Q_HB⟩
                  refine steps_cons ?_ ?_
                  · rintro b a w' ⟨ha, Q_HO304, Q_HO308, Q_BK298, Q_BK299, Q_HB⟩ hb_ hon hoff
                    refine ⟨_, rfl, fun K hK => ?_⟩
                    have e3 : a.tmps[3]? = some (.pointer (some ⟨gb299, 0, none⟩)) := by rw [ha]; exact (putSel_off rfl).trans rfl
                    have e35 : a.tmps[35]? = some (.bool (t305 == t309)) := by rw [ha]; exact putSel_on (e := (10, 35, .bool (t305 == t309))) 8 rfl rfl (hon 10 (by kernel_rfl)) rfl
                    replace ha := Aside0.mk ha
                    have HO304 := Aside0.mk Q_HO304
                    have HO308 := Aside0.mk Q_HO308
                    have BK298 := Aside0.mk Q_BK298
                    have BK299 := Aside0.mk Q_BK299
                    have HB := Aside0.mk Q_HB
                    have hc0_ : w'.cell? ⟨gb299, 0, none⟩ = some (.int .i64 a1_0) := (blk_cell BK299.out 0).trans rfl
                    have hc1_ : w'.cell? ⟨gb299, 1, none⟩ = some (.int .i64 a1_1) := (blk_cell BK299.out 1).trans rfl
                    have hc2_ : w'.cell? ⟨gb299, 2, none⟩ = some (.bool a1_2) := (blk_cell BK299.out 2).trans rfl
                    have hc3_ : w'.cell? ⟨gb299, 3, none⟩ = some (.bool a1_3) := (blk_cell BK299.out 3).trans rfl
                    have hc4_ : w'.cell? ⟨gb299, 4, none⟩ = some (.int .i64 a1_4) := (blk_cell BK299.out 4).trans rfl
                    have hc5_ : w'.cell? ⟨gb299, 5, none⟩ = some (.int .i64 a1_5) := (blk_cell BK299.out 5).trans rfl
                    have hc6_ : w'.cell? ⟨gb299, 6, none⟩ = some (.int .i64 a1_6) := (blk_cell BK299.out 6).trans rfl
                    have hc7_ : w'.cell? ⟨gb299, 7, none⟩ = some (.int .u32 a1_7) := (blk_cell BK299.out 7).trans rfl
                    have hc8_ : w'.cell? ⟨gb299, 8, none⟩ = some (.int .u32 a1_8) := (blk_cell BK299.out 8).trans rfl
                    have hc9_ : w'.cell? ⟨gb299, 9, none⟩ = some (.slice A1_9 l1_9.length c1_9) := (blk_cell BK299.out 9).trans rfl
                    have hc10_ : w'.cell? ⟨gb299, 10, none⟩ = some (.slice A1_10 l1_10.length c1_10) := (blk_cell BK299.out 10).trans rfl
                    refine value_ (w1 := w') (v := .agg #[.int .i64 a1_0, .int .i64 a1_1, .bool a1_2, .bool a1_3, .int .i64 a1_4, .int .i64 a1_5, .int .i64 a1_6, .int .u32 a1_7, .int .u32 a1_8, .slice A1_9 l1_9.length c1_9, .slice A1_10 l1_10.length c1_10]) (wanted_on rfl rfl rfl (e35.trans (by first | rfl | (simp [*]; done)))) rfl ?_ ?_
                    · go_simp
                      (try simp only [i64_w])
                      try rfl
                    refine hK.out _ _ ⟨(by rw [ha.out]; exact putSel_upk 13 hb_ rfl rfl rfl), Q_HO304, Q_HO308, Q_BK298, Q_BK299, Q_HB⟩
                  refine steps_cons ?_ ?_
                  · rintro b a w' ⟨ha, Q_HO304, Q_HO308, Q_BK298, Q_BK299, Q_HB⟩ hb_ hon hoff
                    refine ⟨_, rfl, fun K hK => ?_⟩
                    have e39 : a.tmps[39]? = some (.agg #[.int .i64 a0_0, .int .i64 a0_1, .bool a0_2, .bool a0_3, .int .i64 a0_4, .int .i64 a0_5, .int .i64 a0_6, .int .u32 a0_7, .int .u32 a0_8, .slice A0_9 l0_9.length c0_9, .slice A0_10 l0_10.length c0_10]) := by rw [ha]; exact putSel_on (e := (14, 39, .agg #[.int .i64 a0_0, .int .i64 a0_1, .bool a0_2, .bool a0_3, .int .i64 a0_4, .int .i64 a0_5, .int .i64 a0_6, .int .u32 a0_7, .int .u32 a0_8, .slice A0_9 l0_9.length c0_9, .slice A0_10 l0_10.length c0_10])) 12 rfl rfl (hon 14 (by kernel_rfl)) rfl
                    have e40 : a.tmps[40]? = some (.agg #[.int .i64 a1_0, .int .i64 a1_1, .bool a1_2, .bool a1_3, .int .i64 a1_4, .int .i64 a1_5, .int .i64 a1_6, .int .u32 a1_7, .int .u32 a1_8, .slice A1_9 l1_9.length c1_9, .slice A1_10 l1_10.length c1_10]) := by rw [ha]; exact putSel_on (e := (15, 40, .agg #[.int .i64 a1_0, .int .i64 a1_1, .bool a1_2, .bool a1_3, .int .i64 a1_4, .int .i64 a1_5, .int .i64 a1_6, .int .u32 a1_7, .int .u32 a1_8, .slice A1_9 l1_9.length c1_9, .slice A1_10 l1_10.length c1_10])) 13 rfl rfl (hon 15 (by kernel_rfl)) rfl
                    have e35 : a.tmps[35]? = some (.bool (t305 == t309)) := by rw [ha]; exact putSel_on (e := (10, 35, .bool (t305 == t309))) 8 rfl rfl (hon 10 (by kernel_rfl)) rfl
                    replace ha := Aside0.mk ha
                    have HO304 := Aside0.mk Q_HO304
                    have HO308 := Aside0.mk Q_HO308
                    have BK298 := Aside0.mk Q_BK298
                    have BK299 := Aside0.mk Q_BK299
                    have HB := Aside0.mk Q_HB
                    refine goes_ Try.func26 (by kernel_rfl) rfl #[.agg #[.int .i64 a0_0, .int .i64 a0_1, .bool a0_2, .bool a0_3, .int .i64 a0_4, .int .i64 a0_5, .int .i64 a0_6, .int .u32 a0_7, .int .u32 a0_8, .slice A0_9 l0_9.length c0_9, .slice A0_10 l0_10.length c0_10], .agg #[.int .i64 a1_0, .int .i64 a1_1, .bool a1_2, .bool a1_3, .int .i64 a1_4, .int .i64 a1_5, .int .i64 a1_6, .int .u32 a1_7, .int .u32 a1_8, .slice A1_9 l1_9.length c1_9, .slice A1_10 l1_10.length c1_10]] (wanted_on rfl rfl rfl (e35.trans (by first | rfl | (simp [*]; done)))) rfl rfl (by first | (simp only [List.map_toArray, List.map_cons, List.map_nil, Act.eval, Array.getD_eq_getD_getElem?, Option.getD_some, e39, e40, e35]; done) | (simp only [List.map_toArray, List.map_cons, List.map_nil, Act.eval, Array.getD_eq_getD_getElem?, Option.getD_some, e39, e40, e35]; rfl)) ?_
                    with_reducible refine (castellanref4_Same.calls a0_0 a0_1 a0_2 a0_3 a0_4 a0_5 a0_6 a0_7 a0_8 _ _ l0_9 _ _ l0_10 a1_0 a1_1 a1_2 a1_3 a1_4 a1_5 a1_6 a1_7 a1_8 _ _ l1_9 _ _ l1_10 t311 _ ?side1 ?side2 ?side3 ?side4 ?side5 ?side6 ?side7 ?side8 A23.out).mono ?_
                    (case side1 => repeat (first | exact (Kd.C_below HR0_9.out HB.out) | (with_reducible refine Kd.C_alloc ?_ _) | (with_reducible refine Kd.C_drewN ?_ _) | (with_reducible refine Kd.C_drew ?_)))
                    (case side2 => exact HC0_9.out)
                    (case side3 => repeat (first | exact (Kd.C_below HR0_10.out HB.out) | (with_reducible refine Kd.C_alloc ?_ _) | (with_reducible refine Kd.C_drewN ?_ _) | (with_reducible refine Kd.C_drew ?_)))
                    (case side4 => exact HC0_10.out)
                    (case side5 => repeat (first | exact (Kd.C_below HR1_9.out HB.out) | (with_reducible refine Kd.C_alloc ?_ _) | (with_reducible refine Kd.C_drewN ?_ _) | (with_reducible refine Kd.C_drew ?_)))
                    (case side6 => exact HC1_9.out)
                    (case side7 => repeat (first | exact (Kd.C_below HR1_10.out HB.out) | (with_reducible refine Kd.C_alloc ?_ _) | (with_reducible refine Kd.C_drewN ?_ _) | (with_reducible refine Kd.C_drew ?_)))
                    (case side8 => exact HC1_10.out)
                    rintro e w38 ⟨rfl, hb⟩
                    refine ⟨_, rfl, ?_⟩
                    have n0_ := Aside0.mk (Kd.R_below (by (with_reducible repeat (first | apply Kd.R_alloc | apply Kd.R_drewN | apply Kd.R_drew)); exact HO304.out) hb)
                    have n1_ := Aside0.mk (Kd.R_below (by (with_reducible repeat (first | apply Kd.R_alloc | apply Kd.R_drewN | apply Kd.R_drew)); exact HO308.out) hb)
                    have n2_ := Aside0.mk (blk_below (g := gb298) (o := .cells #[.int .i64 a0_0, .int .i64 a0_1, .bool a0_2, .bool a0_3, .int .i64 a0_4, .int .i64 a0_5, .int .i64 a0_6, .int .u32 a0_7, .int .u32 a0_8, .slice A0_9 l0_9.length c0_9, .slice A0_10 l0_10.length c0_10] 45 (0, 0)) (by (with_reducible repeat (first | refine blk_drewN ?_ _ | refine blk_drew ?_ | refine blk_alloc ?_ _)); exact BK298.out) hb)
                    have n3_ := Aside0.mk (blk_below (g := gb299) (o := .cells #[.int .i64 a1_0, .int .i64 a1_1, .bool a1_2, .bool a1_3, .int .i64 a1_4, .int .i64 a1_5, .int .i64 a1_6, .int .u32 a1_7, .int .u32 a1_8, .slice A1_9 l1_9.length c1_9, .slice A1_10 l1_10.length c1_10] 45 (0, 0)) (by (with_reducible repeat (first | refine blk_drewN ?_ _ | refine blk_drew ?_ | refine blk_alloc ?_ _)); exact BK299.out) hb)
                    have n4_ := Aside0.mk (below_step (by repeat (first | (with_reducible first | exact HB.out | apply below_alloc | apply pw_below_drewN | apply below_drew1 | refine below_set ?_ GE298.out | refine below_set ?_ GE299.out) | exact HB.out)) hb)
                    clear HO304
                    clear HO308
                    clear BK298
                    clear BK299
                    clear HB
                    have HO304 := n0_
                    have HO308 := n1_
                    have BK298 := n2_
                    have BK299 := n3_
                    have HB := n4_
                    clear n0_ n1_ n2_ n3_ n4_
                    (try clear hb)
                    (try clear hb2)
                    (try clear hk)
                    (try clear hi)
                    refine hK.out _ _ ⟨(by rw [ha.out]; exact putSel_upk 14 hb_ rfl rfl rfl), (by first | ((with_reducible repeat (first | apply Kd.R_alloc | apply Kd.R_drewN | apply Kd.R_drew)); exact HO304.out) | ((with_reducible repeat (first | apply Kd.R_alloc | apply Kd.R_drewN | apply Kd.R_drew)); exact Kd.R_mono HO304.out (fun _ hk => by first | trivial | exact hk | exact hk.1 | exact hk.2 | exact hk.1.1 | exact okw hk))), (by first | ((with_reducible repeat (first | apply Kd.R_alloc | apply Kd.R_drewN | apply Kd.R_drew)); exact HO308.out) | ((with_reducible repeat (first | apply Kd.R_alloc | apply Kd.R_drewN | apply Kd.R_drew)); exact Kd.R_mono HO308.out (fun _ hk => by first | trivial | exact hk | exact hk.1 | exact hk.2 | exact hk.1.1 | exact okw hk))), (by (with_reducible repeat (first | refine blk_drewN ?_ _ | refine blk_drew ?_ | refine blk_alloc ?_ _)); exact BK298.out), (by (with_reducible repeat (first | refine blk_drewN ?_ _ | refine blk_drew ?_ | refine blk_alloc ?_ _)); exact BK299.out), (by repeat (first | (with_reducible first | exact HB.out | apply below_alloc | apply pw_below_drewN | apply below_drew1 | refine below_set ?_ GE298.out | refine below_set ?_ GE299.out) | exact HB.out))⟩
                  refine steps_cons ?_ ?_
                  · rintro b a w' ⟨ha, Q_HO304, Q_HO308, Q_BK298, Q_BK299, Q_HB⟩ hb_ hon hoff
                    refine ⟨_, rfl, fun K hK => ?_⟩
                    have e38 : a.tmps[38]? = some (.bool t310) := by rw [ha]; exact putSel_on (e := (13, 38, .bool t310)) 11 rfl rfl (hon 13 (by kernel_rfl)) rfl
                    have e41 : a.tmps[41]? = some (.bool t311) := by rw [ha]; exact putSel_on (e := (16, 41, .bool t311)) 14 rfl rfl (hon 16 (by kernel_rfl)) rfl
                    have e35 : a.tmps[35]? = some (.bool (t305 == t309)) := by rw [ha]; exact putSel_on (e := (10, 35, .bool (t305 == t309))) 8 rfl rfl (hon 10 (by kernel_rfl)) rfl
                    replace ha := Aside0.mk ha
                    have HO304 := Aside0.mk Q_HO304
                    have HO308 := Aside0.mk Q_HO308
                    have BK298 := Aside0.mk Q_BK298
                    have BK299 := Aside0.mk Q_BK299
                    have HB := Aside0.mk Q_HB
                    refine value_ (w1 := w') (v := .bool (t310 == t311)) (wanted_on rfl rfl rfl (e35.trans (by first | rfl | (simp [*]; done)))) rfl ?_ ?_
                    · go_simp
                      (try simp only [i64_w])
                      try rfl
                    refine hK.out _ _ ⟨(by rw [ha.out]; exact putSel_upk 15 hb_ rfl rfl rfl), Q_HO304, Q_HO308, Q_BK298, Q_BK299, Q_HB⟩
                  refine steps_cons ?_ ?_
                  · rintro b a w' ⟨ha, Q_HO304, Q_HO308, Q_BK298, Q_BK299, Q_HB⟩ hb_ hon hoff
                    refine ⟨_, rfl, fun K hK => ?_⟩
                    have e35 : a.tmps[35]? = some (.bool (t305 == t309)) := by rw [ha]; exact putSel_on (e := (10, 35, .bool (t305 == t309))) 8 rfl rfl (hon 10 (by kernel_rfl)) rfl
                    have e42 : a.tmps[42]? = some (.bool (t310 == t311)) := by rw [ha]; exact putSel_on (e := (17, 42, .bool (t310 == t311))) 15 rfl rfl (hon 17 (by kernel_rfl)) rfl
                    replace ha := Aside0.mk ha
                    have HO304 := Aside0.mk Q_HO304
                    have HO308 := Aside0.mk Q_HO308
                    have BK298 := Aside0.mk Q_BK298
                    have BK299 := Aside0.mk Q_BK299
                    have HB := Aside0.mk Q_HB
                    refine value_ (w1 := w') (v := .bool (t310 == t311)) (by rfl) rfl ?_ ?_
                    · go_simp
                      (try simp only [i64_w])
                      try rfl
                    refine hK.out _ _ ⟨(by rw [ha.out]; exact putSel_upk 16 hb_ rfl rfl rfl), Q_HO304, Q_HO308, Q_BK298, Q_BK299, Q_HB⟩
                  refine steps_cons ?_ ?_
                  · rintro b a w' ⟨ha, Q_HO304, Q_HO308, Q_BK298, Q_BK299, Q_HB⟩ hb_ hon hoff
                    refine ⟨_, rfl, fun K hK => ?_⟩
                    have e43 : a.tmps[43]? = some (.bool (t310 == t311)) := by rw [ha]; exact putSel_on (e := (18, 43, .bool (t310 == t311))) 16 rfl rfl (hon 18 (by kernel_rfl)) rfl
                    replace ha := Aside0.mk ha
                    have HO304 := Aside0.mk Q_HO304
                    have HO308 := Aside0.mk Q_HO308
                    have BK298 := Aside0.mk Q_BK298
                    have BK299 := Aside0.mk Q_BK299
                    have HB := Aside0.mk Q_HB
                    refine value_ (w1 := w') (v := .bool (t310 == t311)) (by rfl) rfl ?_ ?_
                    · go_simp
                      (try simp only [i64_w])
                      try rfl
                    refine hK.out _ _ ⟨(by rw [ha.out]; exact putSel_upk 17 hb_ rfl rfl rfl), Q_HO304, Q_HO308, Q_BK298, Q_BK299, Q_HB⟩
                  refine steps_cons ?_ ?_
                  · rintro b a w' ⟨ha, Q_HO304, Q_HO308, Q_BK298, Q_BK299, Q_HB⟩ hb_ hon hoff
                    refine ⟨_, rfl, fun K hK => ?_⟩
                    have e2 : a.tmps[2]? = some (.pointer (some ⟨gb298, 0, none⟩)) := by rw [ha]; exact (putSel_off rfl).trans rfl
                    have e44 : a.tmps[44]? = some (.bool (t310 == t311)) := by rw [ha]; exact putSel_on (e := (19, 44, .bool (t310 == t311))) 17 rfl rfl (hon 19 (by kernel_rfl)) rfl
                    replace ha := Aside0.mk ha
                    have HO304 := Aside0.mk Q_HO304
                    have HO308 := Aside0.mk Q_HO308
                    have BK298 := Aside0.mk Q_BK298
                    have BK299 := Aside0.mk Q_BK299
                    have HB := Aside0.mk Q_HB
                    have hc0_ : w'.cell? ⟨gb298, 0, none⟩ = some (.int .i64 a0_0) := (blk_cell BK298.out 0).trans rfl
                    have hc1_ : w'.cell? ⟨gb298, 1, none⟩ = some (.int .i64 a0_1) := (blk_cell BK298.out 1).trans rfl
                    have hc2_ : w'.cell? ⟨gb298, 2, none⟩ = some (.bool a0_2) := (blk_cell BK298.out 2).trans rfl
                    have hc3_ : w'.cell? ⟨gb298, 3, none⟩ = some (.bool a0_3) := (blk_cell BK298.out 3).trans rfl
                    have hc4_ : w'.cell? ⟨gb298, 4, none⟩ = some (.int .i64 a0_4) := (blk_cell BK298.out 4).trans rfl
                    have hc5_ : w'.cell? ⟨gb298, 5, none⟩ = some (.int .i64 a0_5) := (blk_cell BK298.out 5).trans rfl
                    have hc6_ : w'.cell? ⟨gb298, 6, none⟩ = some (.int .i64 a0_6) := (blk_cell BK298.out 6).trans rfl
                    have hc7_ : w'.cell? ⟨gb298, 7, none⟩ = some (.int .u32 a0_7) := (blk_cell BK298.out 7).trans rfl
                    have hc8_ : w'.cell? ⟨gb298, 8, none⟩ = some (.int .u32 a0_8) := (blk_cell BK298.out 8).trans rfl
                    have hc9_ : w'.cell? ⟨gb298, 9, none⟩ = some (.slice A0_9 l0_9.length c0_9) := (blk_cell BK298.out 9).trans rfl
                    have hc10_ : w'.cell? ⟨gb298, 10, none⟩ = some (.slice A0_10 l0_10.length c0_10) := (blk_cell BK298.out 10).trans rfl
                    refine value_ (w1 := w') (v := .agg #[.int .i64 a0_0, .int .i64 a0_1, .bool a0_2, .bool a0_3, .int .i64 a0_4, .int .i64 a0_5, .int .i64 a0_6, .int .u32 a0_7, .int .u32 a0_8, .slice A0_9 l0_9.length c0_9, .slice A0_10 l0_10.length c0_10]) (wanted_on rfl rfl rfl (e44.trans (by first | rfl | (simp [*]; done)))) rfl ?_ ?_
                    · go_simp
                      (try simp only [i64_w])
                      try rfl
                    refine hK.out _ _ ⟨(by rw [ha.out]; exact putSel_upk 18 hb_ rfl rfl rfl), Q_HO304, Q_HO308, Q_BK298, Q_BK299, Q_HB⟩
                  refine steps_cons ?_ ?_
                  · rintro b a w' ⟨ha, Q_HO304, Q_HO308, Q_BK298, Q_BK299, Q_HB⟩ hb_ hon hoff
                    refine ⟨_, rfl, fun K hK => ?_⟩
                    have e2 : a.tmps[2]? = some (.pointer (some ⟨gb298, 0, none⟩)) := by rw [ha]; exact (putSel_off rfl).trans rfl
                    have e44 : a.tmps[44]? = some (.bool (t310 == t311)) := by rw [ha]; exact putSel_on (e := (19, 44, .bool (t310 == t311))) 17 rfl rfl (hon 19 (by kernel_rfl)) rfl
                    replace ha := Aside0.mk ha
                    have HO304 := Aside0.mk Q_HO304
                    have HO308 := Aside0.mk Q_HO308
                    have BK298 := Aside0.mk Q_BK298
                    have BK299 := Aside0.mk Q_BK299
                    have HB := Aside0.mk Q_HB
                    have hc0_ : w'.cell? ⟨gb298, 0, none⟩ = some (.int .i64 a0_0) := (blk_cell BK298.out 0).trans rfl
                    have hc1_ : w'.cell? ⟨gb298, 1, none⟩ = some (.int .i64 a0_1) := (blk_cell BK298.out 1).trans rfl
                    have hc2_ : w'.cell? ⟨gb298, 2, none⟩ = some (.bool a0_2) := (blk_cell BK298.out 2).trans rfl
                    have hc3_ : w'.cell? ⟨gb298, 3, none⟩ = some (.bool a0_3) := (blk_cell BK298.out 3).trans rfl
                    have hc4_ : w'.cell? ⟨gb298, 4, none⟩ = some (.int .i64 a0_4) := (blk_cell BK298.out 4).trans rfl
                    have hc5_ : w'.cell? ⟨gb298, 5, none⟩ = some (.int .i64 a0_5) := (blk_cell BK298.out 5).trans rfl
                    have hc6_ : w'.cell? ⟨gb298, 6, none⟩ = some (.int .i64 a0_6) := (blk_cell BK298.out 6).trans rfl
                    have hc7_ : w'.cell? ⟨gb298, 7, none⟩ = some (.int .u32 a0_7) := (blk_cell BK298.out 7).trans rfl
                    have hc8_ : w'.cell? ⟨gb298, 8, none⟩ = some (.int .u32 a0_8) := (blk_cell BK298.out 8).trans rfl
                    have hc9_ : w'.cell? ⟨gb298, 9, none⟩ = some (.slice A0_9 l0_9.length c0_9) := (blk_cell BK298.out 9).trans rfl
                    have hc10_ : w'.cell? ⟨gb298, 10, none⟩ = some (.slice A0_10 l0_10.length c0_10) := (blk_cell BK298.out 10).trans rfl
                    refine value_ (w1 := w') (v := .agg #[.int .i64 a0_0, .int .i64 a0_1, .bool a0_2, .bool a0_3, .int .i64 a0_4, .int .i64 a0_5, .int .i64 a0_6, .int .u32 a0_7, .int .u32 a0_8, .slice A0_9 l0_9.length c0_9, .slice A0_10 l0_10.length c0_10]) (wanted_on rfl rfl rfl (e44.trans (by first | rfl | (simp [*]; done)))) rfl ?_ ?_
                    · go_simp
                      (try simp only [i64_w])
                      try rfl
                    refine hK.out _ _ ⟨(by rw [ha.out]; exact putSel_upk 19 hb_ rfl rfl rfl), Q_HO304, Q_HO308, Q_BK298, Q_BK299, Q_HB⟩
                  refine steps_cons ?_ ?_
                  · rintro b a w' ⟨ha, Q_HO304, Q_HO308, Q_BK298, Q_BK299, Q_HB⟩ hb_ hon hoff
                    refine ⟨_, rfl, fun K hK => ?_⟩
                    have e45 : a.tmps[45]? = some (.agg #[.int .i64 a0_0, .int .i64 a0_1, .bool a0_2, .bool a0_3, .int .i64 a0_4, .int .i64 a0_5, .int .i64 a0_6, .int .u32 a0_7, .int .u32 a0_8, .slice A0_9 l0_9.length c0_9, .slice A0_10 l0_10.length c0_10]) := by rw [ha]; exact putSel_on (e := (20, 45, .agg #[.int .i64 a0_0, .int .i64 a0_1, .bool a0_2, .bool a0_3, .int .i64 a0_4, .int .i64 a0_5, .int .i64 a0_6, .int .u32 a0_7, .int .u32 a0_8, .slice A0_9 l0_9.length c0_9, .slice A0_10 l0_10.length c0_10])) 18 rfl rfl (hon 20 (by kernel_rfl)) rfl
                    have e46 : a.tmps[46]? = some (.agg #[.int .i64 a0_0, .int .i64 a0_1, .bool a0_2, .bool a0_3, .int .i64 a0_4, .int .i64 a0_5, .int .i64 a0_6, .int .u32 a0_7, .int .u32 a0_8, .slice A0_9 l0_9.length c0_9, .slice A0_10 l0_10.length c0_10]) := by rw [ha]; exact putSel_on (e := (21, 46, .agg #[.int .i64 a0_0, .int .i64 a0_1, .bool a0_2, .bool a0_3, .int .i64 a0_4, .int .i64 a0_5, .int .i64 a0_6, .int .u32 a0_7, .int .u32 a0_8, .slice A0_9 l0_9.length c0_9, .slice A0_10 l0_10.length c0_10])) 19 rfl rfl (hon 21 (by kernel_rfl)) rfl
                    have e44 : a.tmps[44]? = some (.bool (t310 == t311)) := by rw [ha]; exact putSel_on (e := (19, 44, .bool (t310 == t311))) 17 rfl rfl (hon 19 (by kernel_rfl)) rfl
                    replace ha := Aside0.mk ha
                    have HO304 := Aside0.mk Q_HO304
                    have HO308 := Aside0.mk Q_HO308
                    have BK298 := Aside0.mk Q_BK298
                    have BK299 := Aside0.mk Q_BK299
                    have HB := Aside0.mk Q_HB
                    refine goes_ Try.func34 (by kernel_rfl) rfl #[.agg #[.int .i64 a0_0, .int .i64 a0_1, .bool a0_2, .bool a0_3, .int .i64 a0_4, .int .i64 a0_5, .int .i64 a0_6, .int .u32 a0_7, .int .u32 a0_8, .slice A0_9 l0_9.length c0_9, .slice A0_10 l0_10.length c0_10], .agg #[.int .i64 a0_0, .int .i64 a0_1, .bool a0_2, .bool a0_3, .int .i64 a0_4, .int .i64 a0_5, .int .i64 a0_6, .int .u32 a0_7, .int .u32 a0_8, .slice A0_9 l0_9.length c0_9, .slice A0_10 l0_10.length c0_10]] (wanted_on rfl rfl rfl (e44.trans (by first | rfl | (simp [*]; done)))) rfl rfl (by first | (simp only [List.map_toArray, List.map_cons, List.map_nil, Act.eval, Array.getD_eq_getD_getElem?, Option.getD_some, e45, e46, e44]; done) | (simp only [List.map_toArray, List.map_cons, List.map_nil, Act.eval, Array.getD_eq_getD_getElem?, Option.getD_some, e45, e46, e44]; rfl)) ?_
                    with_reducible refine (ip_Same.calls a0_0 a0_1 a0_2 a0_3 a0_4 a0_5 a0_6 a0_7 a0_8 _ _ l0_9 _ _ l0_10 a0_0 a0_1 a0_2 a0_3 a0_4 a0_5 a0_6 a0_7 a0_8 _ _ l0_9 _ _ l0_10 true _ ?side1 ?side2 ?side3 ?side4 ?side5 ?side6 ?side7 ?side8 A25.out).mono ?_
                    (case side1 => repeat (first | exact (Kd.C_below HR0_9.out HB.out) | (with_reducible refine Kd.C_alloc ?_ _) | (with_reducible refine Kd.C_drewN ?_ _) | (with_reducible refine Kd.C_drew ?_)))
                    (case side2 => exact HC0_9.out)
                    (case side3 => repeat (first | exact (Kd.C_below HR0_10.out HB.out) | (with_reducible refine Kd.C_alloc ?_ _) | (with_reducible refine Kd.C_drewN ?_ _) | (with_reducible refine Kd.C_drew ?_)))
                    (case side4 => exact HC0_10.out)
                    (case side5 => repeat (first | exact (Kd.C_below HR0_9.out HB.out) | (with_reducible refine Kd.C_alloc ?_ _) | (with_reducible refine Kd.C_drewN ?_ _) | (with_reducible refine Kd.C_drew ?_)))
                    (case side6 => exact HC0_9.out)
                    (case side7 => repeat (first | exact (Kd.C_below HR0_10.out HB.out) | (with_reducible refine Kd.C_alloc ?_ _) | (with_reducible refine Kd.C_drewN ?_ _) | (with_reducible refine Kd.C_drew ?_)))
                    (case side8 => exact HC0_10.out)
                    rintro e w39 ⟨rfl, hb⟩
                    refine ⟨_, rfl, ?_⟩
                    have n0_ := Aside0.mk (Kd.R_below (by (with_reducible repeat (first | apply Kd.R_alloc | apply Kd.R_drewN | apply Kd.R_drew)); exact HO304.out) hb)
                    have n1_ := Aside0.mk (Kd.R_below (by (with_reducible repeat (first | apply Kd.R_alloc | apply Kd.R_drewN | apply Kd.R_drew)); exact HO308.out) hb)
                    have n2_ := Aside0.mk (blk_below (g := gb298) (o := .cells #[.int .i64 a0_0, .int .i64 a0_1, .bool a0_2, .bool a0_3, .int .i64 a0_4, .int .i64 a0_5, .int .i64 a0_6, .int .u32 a0_7, .int .u32 a0_8, .slice A0_9 l0_9.length c0_9, .slice A0_10 l0_10.length c0_10] 45 (0, 0)) (by (with_reducible repeat (first | refine blk_drewN ?_ _ | refine blk_drew ?_ | refine blk_alloc ?_ _)); exact BK298.out) hb)
                    have n3_ := Aside0.mk (blk_below (g := gb299) (o := .cells #[.int .i64 a1_0, .int .i64 a1_1, .bool a1_2, .bool a1_3, .int .i64 a1_4, .int .i64 a1_5, .int .i64 a1_6, .int .u32 a1_7, .int .u32 a1_8, .slice A1_9 l1_9.length c1_9, .slice A1_10 l1_10.length c1_10] 45 (0, 0)) (by (with_reducible repeat (first | refine blk_drewN ?_ _ | refine blk_drew ?_ | refine blk_alloc ?_ _)); exact BK299.out) hb)
                    have n4_ := Aside0.mk (below_step (by repeat (first | (with_reducible first | exact HB.out | apply below_alloc | apply pw_below_drewN | apply below_drew1 | refine below_set ?_ GE298.out | refine below_set ?_ GE299.out) | exact HB.out)) hb)
                    clear HO304
                    clear HO308
                    clear BK298
                    clear BK299
                    clear HB
                    have HO304 := n0_
                    have HO308 := n1_
                    have BK298 := n2_
                    have BK299 := n3_
                    have HB := n4_
                    clear n0_ n1_ n2_ n3_ n4_
                    (try clear hb)
                    (try clear hb2)
                    (try clear hk)
                    (try clear hi)
                    refine hK.out _ _ ⟨(by rw [ha.out]; exact putSel_upk 20 hb_ rfl rfl rfl), (by first | ((with_reducible repeat (first | apply Kd.R_alloc | apply Kd.R_drewN | apply Kd.R_drew)); exact HO304.out) | ((with_reducible repeat (first | apply Kd.R_alloc | apply Kd.R_drewN | apply Kd.R_drew)); exact Kd.R_mono HO304.out (fun _ hk => by first | trivial | exact hk | exact hk.1 | exact hk.2 | exact hk.1.1 | exact okw hk))), (by first | ((with_reducible repeat (first | apply Kd.R_alloc | apply Kd.R_drewN | apply Kd.R_drew)); exact HO308.out) | ((with_reducible repeat (first | apply Kd.R_alloc | apply Kd.R_drewN | apply Kd.R_drew)); exact Kd.R_mono HO308.out (fun _ hk => by first | trivial | exact hk | exact hk.1 | exact hk.2 | exact hk.1.1 | exact okw hk))), (by (with_reducible repeat (first | refine blk_drewN ?_ _ | refine blk_drew ?_ | refine blk_alloc ?_ _)); exact BK298.out), (by (with_reducible repeat (first | refine blk_drewN ?_ _ | refine blk_drew ?_ | refine blk_alloc ?_ _)); exact BK299.out), (by repeat (first | (with_reducible first | exact HB.out | apply below_alloc | apply pw_below_drewN | apply below_drew1 | refine below_set ?_ GE298.out | refine below_set ?_ GE299.out) | exact HB.out))⟩
                  refine steps_cons ?_ ?_
                  · rintro b a w' ⟨ha, Q_HO304, Q_HO308, Q_BK298, Q_BK299, Q_HB⟩ hb_ hon hoff
                    refine ⟨_, rfl, fun K hK => ?_⟩
                    have e44 : a.tmps[44]? = some (.bool (t310 == t311)) := by rw [ha]; exact putSel_on (e := (19, 44, .bool (t310 == t311))) 17 rfl rfl (hon 19 (by kernel_rfl)) rfl
                    have e47 : a.tmps[47]? = some (.bool true) := by rw [ha]; exact putSel_on (e := (22, 47, .bool true)) 20 rfl rfl (hon 22 (by kernel_rfl)) rfl
                    replace ha := Aside0.mk ha
                    have HO304 := Aside0.mk Q_HO304
                    have HO308 := Aside0.mk Q_HO308
                    have BK298 := Aside0.mk Q_BK298
                    have BK299 := Aside0.mk Q_BK299
                    have HB := Aside0.mk Q_HB
                    refine value_ (w1 := w') (v := .bool true) (by rfl) rfl ?_ ?_
                    · go_simp
                      (try simp only [i64_w])
                      try rfl
                    refine hK.out _ _ ⟨(by rw [ha.out]; exact putSel_upk 21 hb_ rfl rfl rfl), Q_HO304, Q_HO308, Q_BK298, Q_BK299, Q_HB⟩
                  refine steps_cons ?_ ?_
                  · rintro b a w' ⟨ha, Q_HO304, Q_HO308, Q_BK298, Q_BK299, Q_HB⟩ hb_ hon hoff
                    refine ⟨_, rfl, fun K hK => ?_⟩
                    have e48 : a.tmps[48]? = some (.bool true) := by rw [ha]; exact putSel_on (e := (23, 48, .bool true)) 21 rfl rfl (hon 23 (by kernel_rfl)) rfl
                    replace ha := Aside0.mk ha
                    have HO304 := Aside0.mk Q_HO304
                    have HO308 := Aside0.mk Q_HO308
                    have BK298 := Aside0.mk Q_BK298
                    have BK299 := Aside0.mk Q_BK299
                    have HB := Aside0.mk Q_HB
                    refine value_ (w1 := w') (v := .bool true) (by rfl) rfl ?_ ?_
                    · go_simp
                      (try simp only [i64_w])
                      try rfl
                    refine hK.out _ _ ⟨(by rw [ha.out]; exact putSel_upk 22 hb_ rfl rfl rfl), Q_HO304, Q_HO308, Q_BK298, Q_BK299, Q_HB⟩
                  refine steps_cons ?_ ?_
                  · rintro b a w' ⟨ha, Q_HO304, Q_HO308, Q_BK298, Q_BK299, Q_HB⟩ hb_ hon hoff
                    refine ⟨_, rfl, fun K hK => ?_⟩
                    have e49 : a.tmps[49]? = some (.bool true) := by rw [ha]; exact putSel_on (e := (24, 49, .bool true)) 22 rfl rfl (hon 24 (by kernel_rfl)) rfl
                    replace ha := Aside0.mk ha
                    have HO304 := Aside0.mk Q_HO304
                    have HO308 := Aside0.mk Q_HO308
                    have BK298 := Aside0.mk Q_BK298
                    have BK299 := Aside0.mk Q_BK299
                    have HB := Aside0.mk Q_HB
                    refine goes_ Try.func29 (by kernel_rfl) rfl #[] (wanted_on rfl rfl rfl (e49.trans (by first | rfl | (simp [*]; done)))) rfl rfl (by first | (simp only [List.map_toArray, List.map_cons, List.map_nil, Act.eval, Array.getD_eq_getD_getElem?, Option.getD_some, e49]; done) | (simp only [List.map_toArray, List.map_cons, List.map_nil, Act.eval, Array.getD_eq_getD_getElem?, Option.getD_some, e49]; rfl)) ?_
                    with_reducible refine (castellanlaw4_known.calls kj2  t313 _ A27.out).mono ?_
                    rintro e w40 ⟨rfl, hb⟩
                    refine ⟨_, rfl, ?_⟩
                    have n0_ := Aside0.mk (Kd.R_below (by (with_reducible repeat (first | apply Kd.R_alloc | apply Kd.R_drewN | apply Kd.R_drew)); exact HO304.out) hb)
                    have n1_ := Aside0.mk (Kd.R_below (by (with_reducible repeat (first | apply Kd.R_alloc | apply Kd.R_drewN | apply Kd.R_drew)); exact HO308.out) hb)
                    have n2_ := Aside0.mk (blk_below (g := gb298) (o := .cells #[.int .i64 a0_0, .int .i64 a0_1, .bool a0_2, .bool a0_3, .int .i64 a0_4, .int .i64 a0_5, .int .i64 a0_6, .int .u32 a0_7, .int .u32 a0_8, .slice A0_9 l0_9.length c0_9, .slice A0_10 l0_10.length c0_10] 45 (0, 0)) (by (with_reducible repeat (first | refine blk_drewN ?_ _ | refine blk_drew ?_ | refine blk_alloc ?_ _)); exact BK298.out) hb)
                    have n3_ := Aside0.mk (blk_below (g := gb299) (o := .cells #[.int .i64 a1_0, .int .i64 a1_1, .bool a1_2, .bool a1_3, .int .i64 a1_4, .int .i64 a1_5, .int .i64 a1_6, .int .u32 a1_7, .int .u32 a1_8, .slice A1_9 l1_9.length c1_9, .slice A1_10 l1_10.length c1_10] 45 (0, 0)) (by (with_reducible repeat (first | refine blk_drewN ?_ _ | refine blk_drew ?_ | refine blk_alloc ?_ _)); exact BK299.out) hb)
                    have n4_ := Aside0.mk (below_step (by repeat (first | (with_reducible first | exact HB.out | apply below_alloc | apply pw_below_drewN | apply below_drew1 | refine below_set ?_ GE298.out | refine below_set ?_ GE299.out) | exact HB.out)) hb)
                    clear HO304
                    clear HO308
                    clear BK298
                    clear BK299
                    clear HB
                    have HO304 := n0_
                    have HO308 := n1_
                    have BK298 := n2_
                    have BK299 := n3_
                    have HB := n4_
                    clear n0_ n1_ n2_ n3_ n4_
                    (try clear hb)
                    (try clear hb2)
                    (try clear hk)
                    (try clear hi)
                    refine hK.out _ _ ⟨(by rw [ha.out]; exact putSel_upk 23 hb_ rfl rfl rfl), (by first | ((with_reducible repeat (first | apply Kd.R_alloc | apply Kd.R_drewN | apply Kd.R_drew)); exact HO304.out) | ((with_reducible repeat (first | apply Kd.R_alloc | apply Kd.R_drewN | apply Kd.R_drew)); exact Kd.R_mono HO304.out (fun _ hk => by first | trivial | exact hk | exact hk.1 | exact hk.2 | exact hk.1.1 | exact okw hk))), (by first | ((with_reducible repeat (first | apply Kd.R_alloc | apply Kd.R_drewN | apply Kd.R_drew)); exact HO308.out) | ((with_reducible repeat (first | apply Kd.R_alloc | apply Kd.R_drewN | apply Kd.R_drew)); exact Kd.R_mono HO308.out (fun _ hk => by first | trivial | exact hk | exact hk.1 | exact hk.2 | exact hk.1.1 | exact okw hk))), (by (with_reducible repeat (first | refine blk_drewN ?_ _ | refine blk_drew ?_ | refine blk_alloc ?_ _)); exact BK298.out), (by (with_reducible repeat (first | refine blk_drewN ?_ _ | refine blk_drew ?_ | refine blk_alloc ?_ _)); exact BK299.out), (by repeat (first | (with_reducible first | exact HB.out | apply below_alloc | apply pw_below_drewN | apply below_drew1 | refine below_set ?_ GE298.out | refine below_set ?_ GE299.out) | exact HB.out))⟩
                  refine steps_cons ?_ ?_
                  · rintro b a w' ⟨ha, Q_HO304, Q_HO308, Q_BK298, Q_BK299, Q_HB⟩ hb_ hon hoff
                    refine ⟨_, rfl, fun K hK => ?_⟩
                    have e49 : a.tmps[49]? = some (.bool true) := by rw [ha]; exact putSel_on (e := (24, 49, .bool true)) 22 rfl rfl (hon 24 (by kernel_rfl)) rfl
                    have e50 : a.tmps[50]? = some (.bool t313) := by rw [ha]; exact putSel_on (e := (25, 50, .bool t313)) 23 rfl rfl (hon 25 (by kernel_rfl)) rfl
                    replace ha := Aside0.mk ha
                    have HO304 := Aside0.mk Q_HO304
                    have HO308 := Aside0.mk Q_HO308
                    have BK298 := Aside0.mk Q_BK298
                    have BK299 := Aside0.mk Q_BK299
                    have HB := Aside0.mk Q_HB
                    refine value_ (w1 := w') (v := .bool t313) (by rfl) rfl ?_ ?_
                    · go_simp
                      (try simp only [i64_w])
                      try rfl
                    refine hK.out _ _ ⟨(by rw [ha.out]; exact putSel_upk 24 hb_ rfl rfl rfl), Q_HO304, Q_HO308, Q_BK298, Q_BK299, Q_HB⟩
                  refine steps_cons ?_ ?_
                  · rintro b a w' ⟨ha, Q_HO304, Q_HO308, Q_BK298, Q_BK299, Q_HB⟩ hb_ hon hoff
                    refine ⟨_, rfl, fun K hK => ?_⟩
                    have e51 : a.tmps[51]? = some (.bool t313) := by rw [ha]; exact putSel_on (e := (26, 51, .bool t313)) 24 rfl rfl (hon 26 (by kernel_rfl)) rfl
                    replace ha := Aside0.mk ha
                    have HO304 := Aside0.mk Q_HO304
                    have HO308 := Aside0.mk Q_HO308
                    have BK298 := Aside0.mk Q_BK298
                    have BK299 := Aside0.mk Q_BK299
                    have HB := Aside0.mk Q_HB
                    refine value_ (w1 := w') (v := .bool t313) (by rfl) rfl ?_ ?_
                    · go_simp
                      (try simp only [i64_w])
                      try rfl
                    refine hK.out _ _ ⟨(by rw [ha.out]; exact putSel_upk 25 hb_ rfl rfl rfl), Q_HO304, Q_HO308, Q_BK298, Q_BK299, Q_HB⟩
                  exact steps_nil
                rintro b a w40 hall ⟨ha, Q_HO304, Q_HO308, Q_BK298, Q_BK299, Q_HB⟩
                clear BK298 BK299 HB HO304 HO308
                have hb1_ := hall 1 (by kernel_rfl)
                have hb3_ := hall 3 (by kernel_rfl)
                have hb4_ := hall 4 (by kernel_rfl)
                have hb5_ := hall 5 (by kernel_rfl)
                have hb6_ := hall 6 (by kernel_rfl)
                have hb7_ := hall 7 (by kernel_rfl)
                have hb8_ := hall 8 (by kernel_rfl)
                have hb9_ := hall 9 (by kernel_rfl)
                have hb10_ := hall 10 (by kernel_rfl)
                have hb11_ := hall 11 (by kernel_rfl)
                have hb12_ := hall 12 (by kernel_rfl)
                have hb13_ := hall 13 (by kernel_rfl)
                have hb14_ := hall 14 (by kernel_rfl)
                have hb15_ := hall 15 (by kernel_rfl)
                have hb16_ := hall 16 (by kernel_rfl)
                have hb17_ := hall 17 (by kernel_rfl)
                have hb18_ := hall 18 (by kernel_rfl)
                have hb19_ := hall 19 (by kernel_rfl)
                have hb20_ := hall 20 (by kernel_rfl)
                have hb21_ := hall 21 (by kernel_rfl)
                have hb22_ := hall 22 (by kernel_rfl)
                have hb23_ := hall 23 (by kernel_rfl)
                have hb24_ := hall 24 (by kernel_rfl)
                have hb25_ := hall 25 (by kernel_rfl)
                have hb26_ := hall 26 (by kernel_rfl)
                have hb27_ := hall 27 (by kernel_rfl)
                subst ha
                simp only [putSel, hb1_, hb3_, hb4_, hb5_, hb6_, hb7_, hb8_, hb9_, hb10_, hb11_, hb12_, hb13_, hb14_, hb15_, hb16_, hb17_, hb18_, hb19_, hb20_, hb21_, hb22_, hb23_, hb24_, hb25_, hb26_, hb27_, if_true, Act.put, List.setIfInBounds_toArray, List.set_cons_zero, List.set_cons_succ]
                have HO304 := Aside0.mk Q_HO304
                clear Q_HO304
                have HO308 := Aside0.mk Q_HO308
                clear Q_HO308
                have BK298 := Aside0.mk Q_BK298
                clear Q_BK298
                have BK299 := Aside0.mk Q_BK299
                clear Q_BK299
                have HB := Aside0.mk Q_HB
                clear Q_HB
                clear hall hb1_ hb3_ hb4_ hb5_ hb6_ hb7_ hb8_ hb9_ hb10_ hb11_ hb12_ hb13_ hb14_ hb15_ hb16_ hb17_ hb18_ hb19_ hb20_ hb21_ hb22_ hb23_ hb24_ hb25_ hb26_ hb27_
                try go_wp2
                go_ret
                exact ⟨by first | rfl | (simp [errW_none, errW_some] <;> rfl) | (simp [*, errW_none, errW_some] <;> rfl), by repeat (first | (with_reducible first | exact HB.out | apply below_alloc | apply pw_below_drewN | apply below_drew1 | refine below_set ?_ GE298.out | refine below_set ?_ GE299.out) | exact HB.out)⟩
              · replace c26 := Bool.eq_false_iff.mpr c26
                subst c26
                have H1 : (some false) = some r := by rw [if_neg (show ¬ (false = true) by decide)] at H; exact H
                clear H
                have H := H1
                clear H1
                exact absurd (H.trans (congrArg some HRT.out)) (by simp)
            · rw [if_neg c24] at H
              have c24b0 : (t310 == t311) = false := by simpa using c24
              (try (have c24b1 : decide (t310 = t311) = false := by simpa using c24))
              (try (have c24b2 : (t310 == t311) = false := by simpa using c24))
              (try (have c24b3 : ¬ (t310 = t311) := by simpa using c24))
              clear c24
              exact absurd (H.trans (congrArg some HRT.out)) (by simp)
          · rw [if_neg c21] at H
            have c21b0 : (t305 == t309) = false := beq_eq_false_iff_ne.mpr c21
            have c21b1 : (t305 != t309) = true := bne_iff_ne.mpr c21
            exact absurd (H.trans (congrArg some HRT.out)) (by simp)
        · rw [if_neg c20] at H
          have c20b0 : ((strOfNums t302).toList == (strOfNums t306).toList) = false := beq_eq_false_iff_ne.mpr c20
          have c20b1 : ((strOfNums t302).toList != (strOfNums t306).toList) = true := bne_iff_ne.mpr c20
          exact absurd (H.trans (congrArg some HRT.out)) (by simp)

/-- THE ONE PURE STATEMENT of castellanlaw4_IpBuilds: yours. -/
def castellanlaw4_IpBuilds.Pure : Prop := ∀ (a0_0 : Int) (a0_1 : Int) (a0_2 : Bool) (a0_3 : Bool) (a0_4 : Int) (a0_5 : Int) (a0_6 : Int) (a0_7 : Int) (a0_8 : Int) (l0_9 : List Int) (l0_10 : List Int) (a1_0 : Int) (a1_1 : Int) (a1_2 : Bool) (a1_3 : Bool) (a1_4 : Int) (a1_5 : Int) (a1_6 : Int) (a1_7 : Int) (a1_8 : Int) (l1_9 : List Int) (l1_10 : List Int), (Lit.int .i64 a0_0).wf = true → (Lit.int .i64 a0_1).wf = true → (Lit.int .i64 a0_4).wf = true → (Lit.int .i64 a0_5).wf = true → (Lit.int .i64 a0_6).wf = true → (Lit.int .u32 a0_7).wf = true → (Lit.int .u32 a0_8).wf = true → l0_9.length ≤ maxLen → l0_9.length * 1 ≤ 140737488351232 → (∀ x ∈ l0_9, (Lit.int .u8 x).wf = true) → l0_10.length ≤ maxLen → l0_10.length * 1 ≤ 140737488351232 → (∀ x ∈ l0_10, (Lit.int .u8 x).wf = true) → (Lit.int .i64 a1_0).wf = true → (Lit.int .i64 a1_1).wf = true → (Lit.int .i64 a1_4).wf = true → (Lit.int .i64 a1_5).wf = true → (Lit.int .i64 a1_6).wf = true → (Lit.int .u32 a1_7).wf = true → (Lit.int .u32 a1_8).wf = true → l1_9.length ≤ maxLen → l1_9.length * 1 ≤ 140737488351232 → (∀ x ∈ l1_9, (Lit.int .u8 x).wf = true) → l1_10.length ≤ maxLen → l1_10.length * 1 ≤ 140737488351232 → (∀ x ∈ l1_10, (Lit.int .u8 x).wf = true) → ∃ k, castellanlaw4_IpBuilds.f k a0_0 a0_1 a0_2 a0_3 a0_4 a0_5 a0_6 a0_7 a0_8 l0_9 l0_10 a1_0 a1_1 a1_2 a1_3 a1_4 a1_5 a1_6 a1_7 a1_8 l1_9 l1_10 = some true
theorem castellanlaw4_IpBuilds.walk (P : castellanlaw4_IpBuilds.Pure) (a0_0 : Int) (a0_1 : Int) (a0_2 : Bool) (a0_3 : Bool) (a0_4 : Int) (a0_5 : Int) (a0_6 : Int) (a0_7 : Int) (a0_8 : Int) (a0_9 : Option Addr) (len0_9 cap0_9 : Nat) (z0_9 : List Int) (a0_10 : Option Addr) (len0_10 cap0_10 : Nat) (z0_10 : List Int) (a1_0 : Int) (a1_1 : Int) (a1_2 : Bool) (a1_3 : Bool) (a1_4 : Int) (a1_5 : Int) (a1_6 : Int) (a1_7 : Int) (a1_8 : Int) (a1_9 : Option Addr) (len1_9 cap1_9 : Nat) (z1_9 : List Int) (a1_10 : Option Addr) (len1_10 cap1_10 : Nat) (z1_10 : List Int) (w : World) (w0_0 : (Lit.int .i64 a0_0).wf = true) (w0_1 : (Lit.int .i64 a0_1).wf = true) (w0_4 : (Lit.int .i64 a0_4).wf = true) (w0_5 : (Lit.int .i64 a0_5).wf = true) (w0_6 : (Lit.int .i64 a0_6).wf = true) (w0_7 : (Lit.int .u32 a0_7).wf = true) (w0_8 : (Lit.int .u32 a0_8).wf = true) (w0_9 : (a0_9 = none ∧ len0_9 = 0 ∧ cap0_9 = 0 ∧ z0_9 = []) ∨ ∃ x, a0_9 = some x ∧ len0_9 ≤ cap0_9 ∧ cap0_9 ≤ maxLen ∧ z0_9.length = cap0_9 ∧ (∀ i, i < z0_9.length → w.cell? (x.add i) = some (.int .u8 (z0_9.getD i 0))) ∧ ∀ n ∈ z0_9, (Lit.int .u8 n).wf = true) (y0_9 : len0_9 * 1 ≤ 140737488351232) (w0_10 : (a0_10 = none ∧ len0_10 = 0 ∧ cap0_10 = 0 ∧ z0_10 = []) ∨ ∃ x, a0_10 = some x ∧ len0_10 ≤ cap0_10 ∧ cap0_10 ≤ maxLen ∧ z0_10.length = cap0_10 ∧ (∀ i, i < z0_10.length → w.cell? (x.add i) = some (.int .u8 (z0_10.getD i 0))) ∧ ∀ n ∈ z0_10, (Lit.int .u8 n).wf = true) (y0_10 : len0_10 * 1 ≤ 140737488351232) (w1_0 : (Lit.int .i64 a1_0).wf = true) (w1_1 : (Lit.int .i64 a1_1).wf = true) (w1_4 : (Lit.int .i64 a1_4).wf = true) (w1_5 : (Lit.int .i64 a1_5).wf = true) (w1_6 : (Lit.int .i64 a1_6).wf = true) (w1_7 : (Lit.int .u32 a1_7).wf = true) (w1_8 : (Lit.int .u32 a1_8).wf = true) (w1_9 : (a1_9 = none ∧ len1_9 = 0 ∧ cap1_9 = 0 ∧ z1_9 = []) ∨ ∃ x, a1_9 = some x ∧ len1_9 ≤ cap1_9 ∧ cap1_9 ≤ maxLen ∧ z1_9.length = cap1_9 ∧ (∀ i, i < z1_9.length → w.cell? (x.add i) = some (.int .u8 (z1_9.getD i 0))) ∧ ∀ n ∈ z1_9, (Lit.int .u8 n).wf = true) (y1_9 : len1_9 * 1 ≤ 140737488351232) (w1_10 : (a1_10 = none ∧ len1_10 = 0 ∧ cap1_10 = 0 ∧ z1_10 = []) ∨ ∃ x, a1_10 = some x ∧ len1_10 ≤ cap1_10 ∧ cap1_10 ≤ maxLen ∧ z1_10.length = cap1_10 ∧ (∀ i, i < z1_10.length → w.cell? (x.add i) = some (.int .u8 (z1_10.getD i 0))) ∧ ∀ n ∈ z1_10, (Lit.int .u8 n).wf = true) (y1_10 : len1_10 * 1 ≤ 140737488351232) :
    Calls Try.prog 12 #[.agg #[.int .i64 a0_0, .int .i64 a0_1, .bool a0_2, .bool a0_3, .int .i64 a0_4, .int .i64 a0_5, .int .i64 a0_6, .int .u32 a0_7, .int .u32 a0_8, .slice a0_9 len0_9 cap0_9, .slice a0_10 len0_10 cap0_10], .agg #[.int .i64 a1_0, .int .i64 a1_1, .bool a1_2, .bool a1_3, .int .i64 a1_4, .int .i64 a1_5, .int .i64 a1_6, .int .u32 a1_7, .int .u32 a1_8, .slice a1_9 len1_9 cap1_9, .slice a1_10 len1_10 cap1_10]] w fun e w' => e = .returned (.bool true) ∧ Below w.heap.size w w' := by
  obtain ⟨l0_9, rfl, hr0_9, hm0_9, hw0_9, hc0_9⟩ := ReadsInt.ofRowC w0_9
  obtain ⟨l0_10, rfl, hr0_10, hm0_10, hw0_10, hc0_10⟩ := ReadsInt.ofRowC w0_10
  obtain ⟨l1_9, rfl, hr1_9, hm1_9, hw1_9, hc1_9⟩ := ReadsInt.ofRowC w1_9
  obtain ⟨l1_10, rfl, hr1_10, hm1_10, hw1_10, hc1_10⟩ := ReadsInt.ofRowC w1_10
  obtain ⟨k, h⟩ := P a0_0 a0_1 a0_2 a0_3 a0_4 a0_5 a0_6 a0_7 a0_8 l0_9 l0_10 a1_0 a1_1 a1_2 a1_3 a1_4 a1_5 a1_6 a1_7 a1_8 l1_9 l1_10 w0_0 w0_1 w0_4 w0_5 w0_6 w0_7 w0_8 hm0_9 y0_9 hw0_9 hm0_10 y0_10 hw0_10 w1_0 w1_1 w1_4 w1_5 w1_6 w1_7 w1_8 hm1_9 y1_9 hw1_9 hm1_10 y1_10 hw1_10
  refine (castellanlaw4_IpBuilds.calls k a0_0 a0_1 a0_2 a0_3 a0_4 a0_5 a0_6 a0_7 a0_8 _ _ l0_9 _ _ l0_10 a1_0 a1_1 a1_2 a1_3 a1_4 a1_5 a1_6 a1_7 a1_8 _ _ l1_9 _ _ l1_10 true w (Kd.C_of_reads (d := (0 : Int)) (h1 := fun _ => rfl) hr0_9) hc0_9 (Kd.C_of_reads (d := (0 : Int)) (h1 := fun _ => rfl) hr0_10) hc0_10 (Kd.C_of_reads (d := (0 : Int)) (h1 := fun _ => rfl) hr1_9) hc1_9 (Kd.C_of_reads (d := (0 : Int)) (h1 := fun _ => rfl) hr1_10) hc1_10 rfl h).mono ?_
  rintro e w' ⟨rfl, hd⟩
  exact ⟨rfl, hd⟩

end Go.Proofs.Ytbpnienknijogaa.QIpBuilds
