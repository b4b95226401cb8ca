-- written by myprint.py, a program of this session's over the kit's printer
import Derived.Test.YtkdibloahkhgoaaQPackKeysx0
import Derived.Test.YtkdibloahkhgoaaQPackKeysx1
import Derived.Test.YtkdibloahkhgoaaQPackKeysx2
import Derived.Test.YtkdibloahkhgoaaQPackKeysx3
import Derived.Test.YtkdibloahkhgoaaQPackKeysx5
import Derived.Test.YtkdibloahkhgoaaQPackKeysx6
namespace Go.Proofs.Ytkdibloahkhgoaa.QPackKeys
open Go.RowKit Go.Proofs.YtkdibloahkhgoaaW.PrintWords Go.Proofs.YtkdibloahkhgoaaW.PrintLast Go.Proofs.YtkdibloahkhgoaaW.PrintMore
attribute [local go_sem] max2_int min2_int max_two min_two max_three min_three max_four min_four   -- for this text's walks alone
set_option linter.unusedVariables false
set_option linter.unusedSimpArgs false

attribute [local go_sem high] eqA35
/-! ### castellanlaw8_PackKeys: function 4 -/
def castellanlaw8_PackKeys.j0 (κ : Addr → Int × Int × Int × Int × Int) : Nat → Bool → Int → Int → Bool → Bool → Int → Int → Int → Int → Int → List Int → List Int → Int → Int → Int → Int → Int → Int → Option Addr → Int → Int → Bool → Bool → Int → Int → Int → Int → Int → List Int → List Int → Int → Int → Int → Int → Int → Int → Option Addr → Int → Int → Int → Int → Int → Option (Bool)
  | 0, _, _, _, _, _, _, _, _, _, _, _, _, _, _, _, _, _, _, _, _, _, _, _, _, _, _, _, _, _, _, _, _, _, _, _, _, _, _, _, _, _, _ => none
  | k + 1, x14, x127000, x127001, x127002, x127003, x127004, x127005, x127006, x127007, x127008, x127009, x127010, x127011, x127012, x127013, x127014, x127015, x127016, x127017, x128000, x128001, x128002, x128003, x128004, x128005, x128006, x128007, x128008, x128009, x128010, x128011, x128012, x128013, x128014, x128015, x128016, x128017, x129000, x129001, x129002, x129003, x129004 => if x14 = true then (some true) else ((pack_KeyOf.f x127000 x127001 x127002 x127003 x127004 x127005 x127006 x127007 x127008 x127009 x127010 x127011 x127012 x127013 x127014 x127015 x127016 x127017).bind fun bt131 => ((castellanref8_KeyOf.f x127000 x127001 x127002 x127003 x127004 x127005 x127006 x127007 x127008 x127009 x127010 x127011 x127012 x127013 x127014 x127015 x127016 x127017).bind fun bt136 => (if (bt131.1 == bt136.1 && (bt131.2.1 == bt136.2.1 && (bt131.2.2.1 == bt136.2.2.1 && (bt131.2.2.2.1 == bt136.2.2.2.1 && (bt131.2.2.2.2 == bt136.2.2.2.2))))) = true then ((pack_Turn.f x129000 x129001 x129002 x129003 x129004).bind fun bt141 => ((castellanref8_Turn.f x129000 x129001 x129002 x129003 x129004).bind fun bt146 => (if (bt141.1 == bt146.1 && (bt141.2.1 == bt146.2.1 && (bt141.2.2.1 == bt146.2.2.1 && (bt141.2.2.2.1 == bt146.2.2.2.1 && (bt141.2.2.2.2 == bt146.2.2.2.2))))) = true then ((pack_Turn.f x129000 x129001 x129002 x129003 x129004).bind fun bt151 => ((pack_Turn.f bt151.1 bt151.2.1 bt151.2.2.1 bt151.2.2.2.1 bt151.2.2.2.2).bind fun bt156 => (if (bt156.1 == x129000 && (bt156.2.1 == x129001 && (bt156.2.2.1 == x129002 && (bt156.2.2.2.1 == x129003 && (bt156.2.2.2.2 == x129004))))) = true then ((pack_Class.f x127000 x127001 x127002 x127003 x127004 x127005 x127006 x127007 x127008 x127009 x127010).bind fun t161 => ((castellanref8_Class.f x127000 x127001 x127002 x127003 x127004 x127005 x127006 x127007 x127008 x127009 x127010).bind fun t162 => (if t161 = t162 then ((pack_Same.f κ x127000 x127001 x127002 x127003 x127004 x127005 x127006 x127007 x127008 x127009 x127010 x127011 x127012 x127013 x127014 x127015 x127016 x127017 x128000 x128001 x128002 x128003 x128004 x128005 x128006 x128007 x128008 x128009 x128010 x128011 x128012 x128013 x128014 x128015 x128016 x128017).bind fun t163 => ((castellanref8_Same.f κ x127000 x127001 x127002 x127003 x127004 x127005 x127006 x127007 x127008 x127009 x127010 x127011 x127012 x127013 x127014 x127015 x127016 x127017 x128000 x128001 x128002 x128003 x128004 x128005 x128006 x128007 x128008 x128009 x128010 x128011 x128012 x128013 x128014 x128015 x128016 x128017).bind fun t164 => (if (t163 == t164) = true then ((pack_Same.f κ x127000 x127001 x127002 x127003 x127004 x127005 x127006 x127007 x127008 x127009 x127010 x127011 x127012 x127013 x127014 x127015 x127016 x127017 x127000 x127001 x127002 x127003 x127004 x127005 x127006 x127007 x127008 x127009 x127010 x127011 x127012 x127013 x127014 x127015 x127016 x127017).bind fun t165 => (if t165 = true then ((castellanlaw8_known.f).bind fun t166 => (some t166)) else (some false))) else (some false)))) else (some false)))) else (some false)))) else (some false)))) else (some false))))
def castellanlaw8_PackKeys.f (κ : Addr → Int × Int × Int × Int × Int) (k : Nat) (a0_0 : Int) (a0_1 : Int) (a0_2 : Bool) (a0_3 : Bool) (a0_4 : Int) (a0_5 : Int) (a0_6 : Int) (a0_7 : Int) (a0_8 : Int) (l0_9 : List Int) (l0_10 : List Int) (a0_11 : Int) (a0_12 : Int) (a0_13 : Int) (a0_14 : Int) (a0_15 : Int) (a0_16 : Int) (a0_17 : Option Addr) (a1_0 : Int) (a1_1 : Int) (a1_2 : Bool) (a1_3 : Bool) (a1_4 : Int) (a1_5 : Int) (a1_6 : Int) (a1_7 : Int) (a1_8 : Int) (l1_9 : List Int) (l1_10 : List Int) (a1_11 : Int) (a1_12 : Int) (a1_13 : Int) (a1_14 : Int) (a1_15 : Int) (a1_16 : Int) (a1_17 : Option Addr) (a2_0 : Int) (a2_1 : Int) (a2_2 : Int) (a2_3 : Int) (a2_4 : Int) : Option (Bool) := (castellanlaw8_long.f a0_0 a0_1 a0_2 a0_3 a0_4 a0_5 a0_6 a0_7 a0_8 l0_9 l0_10).bind fun t129 => (if t129 = true then (castellanlaw8_PackKeys.j0 κ k true a0_0 a0_1 a0_2 a0_3 a0_4 a0_5 a0_6 a0_7 a0_8 l0_9 l0_10 a0_11 a0_12 a0_13 a0_14 a0_15 a0_16 a0_17 a1_0 a1_1 a1_2 a1_3 a1_4 a1_5 a1_6 a1_7 a1_8 l1_9 l1_10 a1_11 a1_12 a1_13 a1_14 a1_15 a1_16 a1_17 a2_0 a2_1 a2_2 a2_3 a2_4) else ((castellanlaw8_long.f a1_0 a1_1 a1_2 a1_3 a1_4 a1_5 a1_6 a1_7 a1_8 l1_9 l1_10).bind fun t130 => (castellanlaw8_PackKeys.j0 κ k t130 a0_0 a0_1 a0_2 a0_3 a0_4 a0_5 a0_6 a0_7 a0_8 l0_9 l0_10 a0_11 a0_12 a0_13 a0_14 a0_15 a0_16 a0_17 a1_0 a1_1 a1_2 a1_3 a1_4 a1_5 a1_6 a1_7 a1_8 l1_9 l1_10 a1_11 a1_12 a1_13 a1_14 a1_15 a1_16 a1_17 a2_0 a2_1 a2_2 a2_3 a2_4)))
def castellanlaw8_PackKeys.T3 : Bool × List (List Nat × List Nat) := (true, [([], []), ([0], [0]), ([], []), ([2, 1], [2]), ([1, 3], [1, 3]), ([4, 3], [4]), ([5], [5]), ([6, 5, 5], [5, 6]), ([5], [5]), ([8, 7, 5], [5, 8]), ([7, 9, 5], [5, 7, 9]), ([5, 10], [5, 10]), ([11, 9], [11]), ([12], [12]), ([13, 12, 12], [12, 13]), ([14, 14, 12], [12, 14]), ([12], [12]), ([15, 16, 12], [12, 15, 16]), ([12, 17], [12, 17]), ([18, 15], [18]), ([19], [19]), ([20, 19], [19, 20]), ([21, 19, 19], [19, 21]), ([19], [19]), ([23, 19], [19, 23]), ([24, 22, 19], [19, 24]), ([22, 25, 19], [19, 22, 25]), ([19, 26], [19, 26]), ([27, 25], [27]), ([28], [28]), ([28], [28]), ([29, 30, 28, 28], [28, 29, 30]), ([28], [28]), ([28], [28]), ([32, 33, 31, 28], [28, 32, 33]), ([31, 34, 28], [28, 31, 34]), ([28, 35], [28, 35]), ([36, 34], [36]), ([37], [37]), ([37], [37]), ([38, 39, 37, 37], [37, 38, 39]), ([37, 40], [37, 40]), ([41, 40], [41]), ([42, 42], [42]), ([42, 43], [42, 43]), ([44, 43, 0, 1, 2, 3, 4, 5, 6, 7, 8, 9, 10, 11, 12, 13, 14, 15, 16, 17, 18, 19, 20, 21, 22, 23, 24, 25, 26, 27, 28, 29, 30, 31, 32, 33, 34, 35, 36, 37, 38, 39, 40, 41, 42, 43, 44], [44])])
def castellanlaw8_PackKeys.B3 : List Nat := [0, 1, 0, 7, 15, 31, 63, 127, 63, 511, 1023, 2047, 4095, 8191, 16383, 32767, 8191, 131071, 262143, 524287, 1048575, 2097151, 4194303, 1048575, 9437183, 33554431, 67108863, 134217727, 268435455, 536870911, 536870911, 2147483647, 536870911, 536870911, 17179869183, 34359738367, 68719476735, 137438953471, 274877906943, 274877906943, 1099511627775, 2199023255551, 4398046511103, 8796093022207, 17592186044415, 35184372088831]
theorem castellanlaw8_PackKeys.tab3 : rtab .any (opsOf Try.f4 3) = castellanlaw8_PackKeys.T3 := by kernel_rfl
theorem castellanlaw8_PackKeys.bits3 : waitsOk castellanlaw8_PackKeys.T3.2 castellanlaw8_PackKeys.B3 = true := by kernel_rfl
set_option maxHeartbeats 8000000 in
set_option maxRecDepth 100000 in
theorem castellanlaw8_PackKeys.calls (κ : Addr → Int × Int × Int × Int × Int) (k : Nat) (a0_0 : Int) (a0_1 : Int) (a0_2 : Bool) (a0_3 : Bool) (a0_4 : Int) (a0_5 : Int) (a0_6 : Int) (a0_7 : Int) (a0_8 : Int) (A0_9 : Option Addr) (c0_9 : Nat) (l0_9 : List Int) (A0_10 : Option Addr) (c0_10 : Nat) (l0_10 : List Int) (a0_11 : Int) (a0_12 : Int) (a0_13 : Int) (a0_14 : Int) (a0_15 : Int) (a0_16 : Int) (a0_17 : Option Addr) (a1_0 : Int) (a1_1 : Int) (a1_2 : Bool) (a1_3 : Bool) (a1_4 : Int) (a1_5 : Int) (a1_6 : Int) (a1_7 : Int) (a1_8 : Int) (A1_9 : Option Addr) (c1_9 : Nat) (l1_9 : List Int) (A1_10 : Option Addr) (c1_10 : Nat) (l1_10 : List Int) (a1_11 : Int) (a1_12 : Int) (a1_13 : Int) (a1_14 : Int) (a1_15 : Int) (a1_16 : Int) (a1_17 : Option Addr) (a2_0 : Int) (a2_1 : Int) (a2_2 : Int) (a2_3 : Int) (a2_4 : Int) (r : Bool) (w : World) (hr0_9 : Kd.C (Kd.int .u8) w A0_9 l0_9.length l0_9) (hc0_9 : l0_9.length ≤ c0_9) (hr0_10 : Kd.C (Kd.int .u8) w A0_10 l0_10.length l0_10) (hc0_10 : l0_10.length ≤ c0_10) (hr1_9 : Kd.C (Kd.int .u8) w A1_9 l1_9.length l1_9) (hc1_9 : l1_9.length ≤ c1_9) (hr1_10 : Kd.C (Kd.int .u8) w A1_10 l1_10.length l1_10) (hc1_10 : l1_10.length ≤ c1_10) (hp0 : Pts κ w a0_17) (hp1 : Pts κ w a1_17) (hrt : r = true) (h : castellanlaw8_PackKeys.f κ k a0_0 a0_1 a0_2 a0_3 a0_4 a0_5 a0_6 a0_7 a0_8 l0_9 l0_10 a0_11 a0_12 a0_13 a0_14 a0_15 a0_16 a0_17 a1_0 a1_1 a1_2 a1_3 a1_4 a1_5 a1_6 a1_7 a1_8 l1_9 l1_10 a1_11 a1_12 a1_13 a1_14 a1_15 a1_16 a1_17 a2_0 a2_1 a2_2 a2_3 a2_4 = some r) :
    Calls Try.prog 4 #[.agg #[.int .i64 a0_0, .int .i64 a0_1, .bool a0_2, .bool a0_3, .int .i64 a0_4, .int .i64 a0_5, .int .i64 a0_6, .int .u32 a0_7, .int .u32 a0_8, .slice A0_9 l0_9.length c0_9, .slice A0_10 l0_10.length c0_10, .int .i64 a0_11, .int .i64 a0_12, .int .i64 a0_13, .int .i64 a0_14, .int .i64 a0_15, .int .i64 a0_16, .pointer a0_17], .agg #[.int .i64 a1_0, .int .i64 a1_1, .bool a1_2, .bool a1_3, .int .i64 a1_4, .int .i64 a1_5, .int .i64 a1_6, .int .u32 a1_7, .int .u32 a1_8, .slice A1_9 l1_9.length c1_9, .slice A1_10 l1_10.length c1_10, .int .i64 a1_11, .int .i64 a1_12, .int .i64 a1_13, .int .i64 a1_14, .int .i64 a1_15, .int .i64 a1_16, .pointer a1_17], .agg #[.int .i64 a2_0, .int .u32 a2_1, .int .u32 a2_2, .int .i64 a2_3, .int .i64 a2_4]] w fun e w' => e = .returned (.bool r) ∧ Below w.heap.size w w' := by
  have hu29 := Try.underlying29
  have hu35 := Try.underlying35
  have hu26 := Try.underlying26
  have HP0 := Aside0.mk hp0
  have HP1 := Aside0.mk hp1
  clear hp0 hp1
  have HRT := Aside0.mk hrt
  clear hrt
  have HR0_9 := Aside0.mk hr0_9
  have HC0_9 := Aside0.mk hc0_9
  clear hr0_9 hc0_9
  have HR0_10 := Aside0.mk hr0_10
  have HC0_10 := Aside0.mk hc0_10
  clear hr0_10 hc0_10
  have HR1_9 := Aside0.mk hr1_9
  have HC1_9 := Aside0.mk hc1_9
  clear hr1_9 hc1_9
  have HR1_10 := Aside0.mk hr1_10
  have HC1_10 := Aside0.mk hc1_10
  clear hr1_10 hc1_10
  have HB := Aside0.mk (Below.refl w.heap.size w)
  have H : ((castellanlaw8_long.f a0_0 a0_1 a0_2 a0_3 a0_4 a0_5 a0_6 a0_7 a0_8 l0_9 l0_10).bind fun t129 => (if t129 = true then (castellanlaw8_PackKeys.j0 κ k true a0_0 a0_1 a0_2 a0_3 a0_4 a0_5 a0_6 a0_7 a0_8 l0_9 l0_10 a0_11 a0_12 a0_13 a0_14 a0_15 a0_16 a0_17 a1_0 a1_1 a1_2 a1_3 a1_4 a1_5 a1_6 a1_7 a1_8 l1_9 l1_10 a1_11 a1_12 a1_13 a1_14 a1_15 a1_16 a1_17 a2_0 a2_1 a2_2 a2_3 a2_4) else ((castellanlaw8_long.f a1_0 a1_1 a1_2 a1_3 a1_4 a1_5 a1_6 a1_7 a1_8 l1_9 l1_10).bind fun t130 => (castellanlaw8_PackKeys.j0 κ k t130 a0_0 a0_1 a0_2 a0_3 a0_4 a0_5 a0_6 a0_7 a0_8 l0_9 l0_10 a0_11 a0_12 a0_13 a0_14 a0_15 a0_16 a0_17 a1_0 a1_1 a1_2 a1_3 a1_4 a1_5 a1_6 a1_7 a1_8 l1_9 l1_10 a1_11 a1_12 a1_13 a1_14 a1_15 a1_16 a1_17 a2_0 a2_1 a2_2 a2_3 a2_4)))) = some r := h
  clear h
  have HC4 := Aside0.mk H
  clear H
  go_enter Try.func4, Try.ntmps4
  go_upto_region 1 with (first | ((with_reducible refine gate_dst (N := 3) rfl ?_); refine box_event ?hg (N := 3) ?hd (cs := #[.int .i64 a0_0, .int .i64 a0_1, .bool a0_2, .bool a0_3, .int .i64 a0_4, .int .i64 a0_5, .int .i64 a0_6, .int .u32 a0_7, .int .u32 a0_8, .slice A0_9 l0_9.length c0_9, .slice A0_10 l0_10.length c0_10, .int .i64 a0_11, .int .i64 a0_12, .int .i64 a0_13, .int .i64 a0_14, .int .i64 a0_15, .int .i64 a0_16, .pointer a0_17]) (t := 29) ?hr ?_; (case hd => rfl); (case hg => rfl); (case hr => first | (go_simp; done) | (go_simp; rfl)); intro gb126 hg w5 hbox hb; have n0_ := Aside0.mk (below_step (by repeat (first | (with_reducible first | exact HB.out | apply below_alloc | apply pw_below_drewN | apply below_drew1) | exact HB.out)) hb); have n1_ := Aside0.mk (hbox); have n2_ := Aside0.mk ((by rw [hg]; exact (below_size (by repeat (first | (with_reducible first | exact HB.out | apply below_alloc | apply pw_below_drewN | apply below_drew1) | exact HB.out))) : w.heap.size ≤ gb126)); have n3_ := Aside0.mk ((by rw [hg]; exact (below_size (by repeat (first | (with_reducible first | exact HB.out | apply below_alloc | apply pw_below_drewN | apply below_drew1) | exact HB.out))) : w.heap.size ≤ gb126)); clear HB; have HB := n0_; have BK126 := n1_; have GW126 := n2_; have GE126 := n3_; clear n0_ n1_ n2_ n3_; clear hb hbox hg) | ((with_reducible refine gate_dst (N := 4) rfl ?_); refine box_event ?hg (N := 4) ?hd (cs := #[.int .i64 a1_0, .int .i64 a1_1, .bool a1_2, .bool a1_3, .int .i64 a1_4, .int .i64 a1_5, .int .i64 a1_6, .int .u32 a1_7, .int .u32 a1_8, .slice A1_9 l1_9.length c1_9, .slice A1_10 l1_10.length c1_10, .int .i64 a1_11, .int .i64 a1_12, .int .i64 a1_13, .int .i64 a1_14, .int .i64 a1_15, .int .i64 a1_16, .pointer a1_17]) (t := 29) ?hr ?_; (case hd => rfl); (case hg => rfl); (case hr => first | (go_simp; done) | (go_simp; rfl)); intro gb127 hg w6 hbox hb; have n0_ := Aside0.mk (blk_below (g := gb126) (o := .cells #[.int .i64 a0_0, .int .i64 a0_1, .bool a0_2, .bool a0_3, .int .i64 a0_4, .int .i64 a0_5, .int .i64 a0_6, .int .u32 a0_7, .int .u32 a0_8, .slice A0_9 l0_9.length c0_9, .slice A0_10 l0_10.length c0_10, .int .i64 a0_11, .int .i64 a0_12, .int .i64 a0_13, .int .i64 a0_14, .int .i64 a0_15, .int .i64 a0_16, .pointer a0_17] 29 (0, 0)) (by (with_reducible repeat (first | refine blk_drewN ?_ _ | refine blk_drew ?_ | refine blk_alloc ?_ _)); exact BK126.out) hb); have n1_ := Aside0.mk (below_step (by repeat (first | (with_reducible first | exact HB.out | apply below_alloc | apply pw_below_drewN | apply below_drew1 | refine below_set ?_ GE126.out) | exact HB.out)) hb); have n2_ := Aside0.mk (hbox); have n3_ := Aside0.mk ((by rw [hg]; exact (below_size (by repeat (first | (with_reducible first | exact HB.out | apply below_alloc | apply pw_below_drewN | apply below_drew1 | refine below_set ?_ GE126.out) | exact HB.out))) : w.heap.size ≤ gb127)); have n4_ := Aside0.mk ((by rw [hg]; exact (below_size (by repeat (first | (with_reducible first | exact HB.out | apply below_alloc | apply pw_below_drewN | apply below_drew1 | refine below_set ?_ GE126.out) | exact HB.out))) : w.heap.size ≤ gb127)); have n5_ := Aside0.mk ((by rw [hg]; exact Nat.ne_of_lt (blk_lt (g := gb126) (o := .cells #[.int .i64 a0_0, .int .i64 a0_1, .bool a0_2, .bool a0_3, .int .i64 a0_4, .int .i64 a0_5, .int .i64 a0_6, .int .u32 a0_7, .int .u32 a0_8, .slice A0_9 l0_9.length c0_9, .slice A0_10 l0_10.length c0_10, .int .i64 a0_11, .int .i64 a0_12, .int .i64 a0_13, .int .i64 a0_14, .int .i64 a0_15, .int .i64 a0_16, .pointer a0_17] 29 (0, 0)) (by (with_reducible repeat (first | refine blk_drewN ?_ _ | refine blk_drew ?_ | refine blk_alloc ?_ _)); exact BK126.out)) : gb126 ≠ gb127)); have n6_ := Aside0.mk ((by rw [hg]; exact Nat.ne_of_gt (blk_lt (g := gb126) (o := .cells #[.int .i64 a0_0, .int .i64 a0_1, .bool a0_2, .bool a0_3, .int .i64 a0_4, .int .i64 a0_5, .int .i64 a0_6, .int .u32 a0_7, .int .u32 a0_8, .slice A0_9 l0_9.length c0_9, .slice A0_10 l0_10.length c0_10, .int .i64 a0_11, .int .i64 a0_12, .int .i64 a0_13, .int .i64 a0_14, .int .i64 a0_15, .int .i64 a0_16, .pointer a0_17] 29 (0, 0)) (by (with_reducible repeat (first | refine blk_drewN ?_ _ | refine blk_drew ?_ | refine blk_alloc ?_ _)); exact BK126.out)) : gb127 ≠ gb126)); clear BK126; clear HB; have BK126 := n0_; have HB := n1_; have BK127 := n2_; have GW127 := n3_; have GE127 := n4_; have NB126_127 := n5_; have NB127_126 := n6_; clear n0_ n1_ n2_ n3_ n4_ n5_ n6_; clear hb hbox hg) | ((with_reducible refine gate_dst (N := 5) rfl ?_); refine box_event ?hg (N := 5) ?hd (cs := #[.int .i64 a2_0, .int .u32 a2_1, .int .u32 a2_2, .int .i64 a2_3, .int .i64 a2_4]) (t := 35) ?hr ?_; (case hd => rfl); (case hg => rfl); (case hr => first | (go_simp; done) | (go_simp; rfl)); intro gb128 hg w7 hbox hb; have n0_ := Aside0.mk (blk_below (g := gb126) (o := .cells #[.int .i64 a0_0, .int .i64 a0_1, .bool a0_2, .bool a0_3, .int .i64 a0_4, .int .i64 a0_5, .int .i64 a0_6, .int .u32 a0_7, .int .u32 a0_8, .slice A0_9 l0_9.length c0_9, .slice A0_10 l0_10.length c0_10, .int .i64 a0_11, .int .i64 a0_12, .int .i64 a0_13, .int .i64 a0_14, .int .i64 a0_15, .int .i64 a0_16, .pointer a0_17] 29 (0, 0)) (by (with_reducible repeat (first | refine blk_drewN ?_ _ | refine blk_drew ?_ | refine blk_alloc ?_ _)); exact BK126.out) hb); have n1_ := Aside0.mk (blk_below (g := gb127) (o := .cells #[.int .i64 a1_0, .int .i64 a1_1, .bool a1_2, .bool a1_3, .int .i64 a1_4, .int .i64 a1_5, .int .i64 a1_6, .int .u32 a1_7, .int .u32 a1_8, .slice A1_9 l1_9.length c1_9, .slice A1_10 l1_10.length c1_10, .int .i64 a1_11, .int .i64 a1_12, .int .i64 a1_13, .int .i64 a1_14, .int .i64 a1_15, .int .i64 a1_16, .pointer a1_17] 29 (0, 0)) (by (with_reducible repeat (first | refine blk_drewN ?_ _ | refine blk_drew ?_ | refine blk_alloc ?_ _)); exact BK127.out) hb); have n2_ := Aside0.mk (below_step (by repeat (first | (with_reducible first | exact HB.out | apply below_alloc | apply pw_below_drewN | apply below_drew1 | refine below_set ?_ GE126.out | refine below_set ?_ GE127.out) | exact HB.out)) hb); have n3_ := Aside0.mk (hbox); have n4_ := Aside0.mk ((by rw [hg]; exact (below_size (by repeat (first | (with_reducible first | exact HB.out | apply below_alloc | apply pw_below_drewN | apply below_drew1 | refine below_set ?_ GE126.out | refine below_set ?_ GE127.out) | exact HB.out))) : w.heap.size ≤ gb128)); have n5_ := Aside0.mk ((by rw [hg]; exact (below_size (by repeat (first | (with_reducible first | exact HB.out | apply below_alloc | apply pw_below_drewN | apply below_drew1 | refine below_set ?_ GE126.out | refine below_set ?_ GE127.out) | exact HB.out))) : w.heap.size ≤ gb128)); have n6_ := Aside0.mk ((by rw [hg]; exact Nat.ne_of_lt (blk_lt (g := gb126) (o := .cells #[.int .i64 a0_0, .int .i64 a0_1, .bool a0_2, .bool a0_3, .int .i64 a0_4, .int .i64 a0_5, .int .i64 a0_6, .int .u32 a0_7, .int .u32 a0_8, .slice A0_9 l0_9.length c0_9, .slice A0_10 l0_10.length c0_10, .int .i64 a0_11, .int .i64 a0_12, .int .i64 a0_13, .int .i64 a0_14, .int .i64 a0_15, .int .i64 a0_16, .pointer a0_17] 29 (0, 0)) (by (with_reducible repeat (first | refine blk_drewN ?_ _ | refine blk_drew ?_ | refine blk_alloc ?_ _)); exact BK126.out)) : gb126 ≠ gb128)); have n7_ := Aside0.mk ((by rw [hg]; exact Nat.ne_of_gt (blk_lt (g := gb126) (o := .cells #[.int .i64 a0_0, .int .i64 a0_1, .bool a0_2, .bool a0_3, .int .i64 a0_4, .int .i64 a0_5, .int .i64 a0_6, .int .u32 a0_7, .int .u32 a0_8, .slice A0_9 l0_9.length c0_9, .slice A0_10 l0_10.length c0_10, .int .i64 a0_11, .int .i64 a0_12, .int .i64 a0_13, .int .i64 a0_14, .int .i64 a0_15, .int .i64 a0_16, .pointer a0_17] 29 (0, 0)) (by (with_reducible repeat (first | refine blk_drewN ?_ _ | refine blk_drew ?_ | refine blk_alloc ?_ _)); exact BK126.out)) : gb128 ≠ gb126)); have n8_ := Aside0.mk ((by rw [hg]; exact Nat.ne_of_lt (blk_lt (g := gb127) (o := .cells #[.int .i64 a1_0, .int .i64 a1_1, .bool a1_2, .bool a1_3, .int .i64 a1_4, .int .i64 a1_5, .int .i64 a1_6, .int .u32 a1_7, .int .u32 a1_8, .slice A1_9 l1_9.length c1_9, .slice A1_10 l1_10.length c1_10, .int .i64 a1_11, .int .i64 a1_12, .int .i64 a1_13, .int .i64 a1_14, .int .i64 a1_15, .int .i64 a1_16, .pointer a1_17] 29 (0, 0)) (by (with_reducible repeat (first | refine blk_drewN ?_ _ | refine blk_drew ?_ | refine blk_alloc ?_ _)); exact BK127.out)) : gb127 ≠ gb128)); have n9_ := Aside0.mk ((by rw [hg]; exact Nat.ne_of_gt (blk_lt (g := gb127) (o := .cells #[.int .i64 a1_0, .int .i64 a1_1, .bool a1_2, .bool a1_3, .int .i64 a1_4, .int .i64 a1_5, .int .i64 a1_6, .int .u32 a1_7, .int .u32 a1_8, .slice A1_9 l1_9.length c1_9, .slice A1_10 l1_10.length c1_10, .int .i64 a1_11, .int .i64 a1_12, .int .i64 a1_13, .int .i64 a1_14, .int .i64 a1_15, .int .i64 a1_16, .pointer a1_17] 29 (0, 0)) (by (with_reducible repeat (first | refine blk_drewN ?_ _ | refine blk_drew ?_ | refine blk_alloc ?_ _)); exact BK127.out)) : gb128 ≠ gb127)); clear BK126; clear BK127; clear HB; have BK126 := n0_; have BK127 := n1_; have HB := n2_; have BK128 := n3_; have GW128 := n4_; have GE128 := n5_; have NB126_128 := n6_; have NB128_126 := n7_; have NB127_128 := n8_; have NB128_127 := n9_; clear n0_ n1_ n2_ n3_ n4_ n5_ n6_ n7_ n8_ n9_; clear hb hbox hg))
  (try simp only [Act.put, List.setIfInBounds_toArray, List.set_cons_zero, List.set_cons_succ])
  go_cut [14] (fun v14 wc => ∃ (kq : Nat) (x14_3 : Bool), v14 = .bool x14_3 ∧ Aside0 (castellanlaw8_PackKeys.j0 κ kq x14_3 a0_0 a0_1 a0_2 a0_3 a0_4 a0_5 a0_6 a0_7 a0_8 l0_9 l0_10 a0_11 a0_12 a0_13 a0_14 a0_15 a0_16 a0_17 a1_0 a1_1 a1_2 a1_3 a1_4 a1_5 a1_6 a1_7 a1_8 l1_9 l1_10 a1_11 a1_12 a1_13 a1_14 a1_15 a1_16 a1_17 a2_0 a2_1 a2_2 a2_3 a2_4 = some r) ∧ Aside0 (kq ≤ k) ∧ Aside0 (wc.heap[gb126]? = some (.cells #[.int .i64 a0_0, .int .i64 a0_1, .bool a0_2, .bool a0_3, .int .i64 a0_4, .int .i64 a0_5, .int .i64 a0_6, .int .u32 a0_7, .int .u32 a0_8, (.slice A0_9 l0_9.length c0_9), (.slice A0_10 l0_10.length c0_10), .int .i64 a0_11, .int .i64 a0_12, .int .i64 a0_13, .int .i64 a0_14, .int .i64 a0_15, .int .i64 a0_16, .pointer a0_17] 29 (0, 0))) ∧ Aside0 (wc.heap[gb127]? = some (.cells #[.int .i64 a1_0, .int .i64 a1_1, .bool a1_2, .bool a1_3, .int .i64 a1_4, .int .i64 a1_5, .int .i64 a1_6, .int .u32 a1_7, .int .u32 a1_8, (.slice A1_9 l1_9.length c1_9), (.slice A1_10 l1_10.length c1_10), .int .i64 a1_11, .int .i64 a1_12, .int .i64 a1_13, .int .i64 a1_14, .int .i64 a1_15, .int .i64 a1_16, .pointer a1_17] 29 (0, 0))) ∧ Aside0 (wc.heap[gb128]? = some (.cells #[.int .i64 a2_0, .int .u32 a2_1, .int .u32 a2_2, .int .i64 a2_3, .int .i64 a2_4] 35 (0, 0))) ∧ Aside0 (Below w.heap.size w wc))
  case first =>
    have H := HC4.out
    clear HC4
    replace H := Option.bind_eq_some_iff.mp H
    obtain ⟨t129, A80, H⟩ := H
    replace H : (if t129 = true then (castellanlaw8_PackKeys.j0 κ k true a0_0 a0_1 a0_2 a0_3 a0_4 a0_5 a0_6 a0_7 a0_8 l0_9 l0_10 a0_11 a0_12 a0_13 a0_14 a0_15 a0_16 a0_17 a1_0 a1_1 a1_2 a1_3 a1_4 a1_5 a1_6 a1_7 a1_8 l1_9 l1_10 a1_11 a1_12 a1_13 a1_14 a1_15 a1_16 a1_17 a2_0 a2_1 a2_2 a2_3 a2_4) else ((castellanlaw8_long.f a1_0 a1_1 a1_2 a1_3 a1_4 a1_5 a1_6 a1_7 a1_8 l1_9 l1_10).bind fun t130 => (castellanlaw8_PackKeys.j0 κ k t130 a0_0 a0_1 a0_2 a0_3 a0_4 a0_5 a0_6 a0_7 a0_8 l0_9 l0_10 a0_11 a0_12 a0_13 a0_14 a0_15 a0_16 a0_17 a1_0 a1_1 a1_2 a1_3 a1_4 a1_5 a1_6 a1_7 a1_8 l1_9 l1_10 a1_11 a1_12 a1_13 a1_14 a1_15 a1_16 a1_17 a2_0 a2_1 a2_2 a2_3 a2_4))) = some r := H
    have A8 := Aside0.mk A80
    clear A80
    by_cases c9 : t129 = true
    · subst c9
      have H1 : (castellanlaw8_PackKeys.j0 κ k true a0_0 a0_1 a0_2 a0_3 a0_4 a0_5 a0_6 a0_7 a0_8 l0_9 l0_10 a0_11 a0_12 a0_13 a0_14 a0_15 a0_16 a0_17 a1_0 a1_1 a1_2 a1_3 a1_4 a1_5 a1_6 a1_7 a1_8 l1_9 l1_10 a1_11 a1_12 a1_13 a1_14 a1_15 a1_16 a1_17 a2_0 a2_1 a2_2 a2_3 a2_4) = some r := by rw [if_pos rfl] at H; exact H
      clear H
      have H := H1
      clear H1
      have H' := Aside0.mk H
      clear H
      have hnb10 := NB126_127.out
      have hnc10 := NB127_126.out
      have hnb11 := NB126_128.out
      have hnc11 := NB128_126.out
      have hcz12_0 : w7.cell? ⟨gb126, 0, none⟩ = some (.int .i64 a0_0) := (blk_cell BK126.out 0).trans rfl
      have hcz12_1 : w7.cell? ⟨gb126, 1, none⟩ = some (.int .i64 a0_1) := (blk_cell BK126.out 1).trans rfl
      have hcz12_2 : w7.cell? ⟨gb126, 2, none⟩ = some (.bool a0_2) := (blk_cell BK126.out 2).trans rfl
      have hcz12_3 : w7.cell? ⟨gb126, 3, none⟩ = some (.bool a0_3) := (blk_cell BK126.out 3).trans rfl
      have hcz12_4 : w7.cell? ⟨gb126, 4, none⟩ = some (.int .i64 a0_4) := (blk_cell BK126.out 4).trans rfl
      have hcz12_5 : w7.cell? ⟨gb126, 5, none⟩ = some (.int .i64 a0_5) := (blk_cell BK126.out 5).trans rfl
      have hcz12_6 : w7.cell? ⟨gb126, 6, none⟩ = some (.int .i64 a0_6) := (blk_cell BK126.out 6).trans rfl
      have hcz12_7 : w7.cell? ⟨gb126, 7, none⟩ = some (.int .u32 a0_7) := (blk_cell BK126.out 7).trans rfl
      have hcz12_8 : w7.cell? ⟨gb126, 8, none⟩ = some (.int .u32 a0_8) := (blk_cell BK126.out 8).trans rfl
      have hcz12_9 : w7.cell? ⟨gb126, 9, none⟩ = some (.slice A0_9 l0_9.length c0_9) := (blk_cell BK126.out 9).trans rfl
      have hcz12_10 : w7.cell? ⟨gb126, 10, none⟩ = some (.slice A0_10 l0_10.length c0_10) := (blk_cell BK126.out 10).trans rfl
      have hcz12_11 : w7.cell? ⟨gb126, 11, none⟩ = some (.int .i64 a0_11) := (blk_cell BK126.out 11).trans rfl
      have hcz12_12 : w7.cell? ⟨gb126, 12, none⟩ = some (.int .i64 a0_12) := (blk_cell BK126.out 12).trans rfl
      have hcz12_13 : w7.cell? ⟨gb126, 13, none⟩ = some (.int .i64 a0_13) := (blk_cell BK126.out 13).trans rfl
      have hcz12_14 : w7.cell? ⟨gb126, 14, none⟩ = some (.int .i64 a0_14) := (blk_cell BK126.out 14).trans rfl
      have hcz12_15 : w7.cell? ⟨gb126, 15, none⟩ = some (.int .i64 a0_15) := (blk_cell BK126.out 15).trans rfl
      have hcz12_16 : w7.cell? ⟨gb126, 16, none⟩ = some (.int .i64 a0_16) := (blk_cell BK126.out 16).trans rfl
      have hcz12_17 : w7.cell? ⟨gb126, 17, none⟩ = some (.pointer a0_17) := (blk_cell BK126.out 17).trans rfl
      have hfz12_0 := blk_frozen BK126.out 0
      have hfz12_1 := blk_frozen BK126.out 1
      have hfz12_2 := blk_frozen BK126.out 2
      have hfz12_3 := blk_frozen BK126.out 3
      have hfz12_4 := blk_frozen BK126.out 4
      have hfz12_5 := blk_frozen BK126.out 5
      have hfz12_6 := blk_frozen BK126.out 6
      have hfz12_7 := blk_frozen BK126.out 7
      have hfz12_8 := blk_frozen BK126.out 8
      have hfz12_9 := blk_frozen BK126.out 9
      have hfz12_10 := blk_frozen BK126.out 10
      have hfz12_11 := blk_frozen BK126.out 11
      have hfz12_12 := blk_frozen BK126.out 12
      have hfz12_13 := blk_frozen BK126.out 13
      have hfz12_14 := blk_frozen BK126.out 14
      have hfz12_15 := blk_frozen BK126.out 15
      have hfz12_16 := blk_frozen BK126.out 16
      have hfz12_17 := blk_frozen BK126.out 17
      go_wp2_with (first | ((with_reducible refine gate_callee (f := 15) rfl ?_); refine goesL_ (some 9) rfl rfl Try.func15 (by kernel_rfl) rfl #[.agg #[.int .i64 a0_0, .int .i64 a0_1, .bool a0_2, .bool a0_3, .int .i64 a0_4, .int .i64 a0_5, .int .i64 a0_6, .int .u32 a0_7, .int .u32 a0_8, .slice A0_9 l0_9.length c0_9, .slice A0_10 l0_10.length c0_10]] rfl (by (try simp only [List.map_toArray, List.map_cons, List.map_nil]); first | done | rfl | (simp only [List.length_drop, List.length_take]; rfl)) ?_; (with_reducible refine (castellanlaw8_long.calls a0_0 a0_1 a0_2 a0_3 a0_4 a0_5 a0_6 a0_7 a0_8 _ _ l0_9 _ _ l0_10 true _ ?side1 ?side2 ?side3 ?side4 A8.out).mono ?_); (case side1 => repeat (first | exact (Kd.C_below HR0_9.out HB.out) | (with_reducible refine Kd.C_alloc ?_ _) | (with_reducible refine Kd.C_drewN ?_ _) | (with_reducible refine Kd.C_drew ?_))); (case side2 => exact HC0_9.out); (case side3 => repeat (first | exact (Kd.C_below HR0_10.out HB.out) | (with_reducible refine Kd.C_alloc ?_ _) | (with_reducible refine Kd.C_drewN ?_ _) | (with_reducible refine Kd.C_drew ?_))); (case side4 => exact HC0_10.out); rintro e w13 ⟨rfl, hb⟩; refine ⟨_, rfl, ?_⟩; have n0_ := Aside0.mk (blk_below (g := gb126) (o := .cells #[.int .i64 a0_0, .int .i64 a0_1, .bool a0_2, .bool a0_3, .int .i64 a0_4, .int .i64 a0_5, .int .i64 a0_6, .int .u32 a0_7, .int .u32 a0_8, .slice A0_9 l0_9.length c0_9, .slice A0_10 l0_10.length c0_10, .int .i64 a0_11, .int .i64 a0_12, .int .i64 a0_13, .int .i64 a0_14, .int .i64 a0_15, .int .i64 a0_16, .pointer a0_17] 29 (0, 0)) (by (with_reducible repeat (first | refine blk_drewN ?_ _ | refine blk_drew ?_ | refine blk_alloc ?_ _)); exact BK126.out) hb); have n1_ := Aside0.mk (blk_below (g := gb127) (o := .cells #[.int .i64 a1_0, .int .i64 a1_1, .bool a1_2, .bool a1_3, .int .i64 a1_4, .int .i64 a1_5, .int .i64 a1_6, .int .u32 a1_7, .int .u32 a1_8, .slice A1_9 l1_9.length c1_9, .slice A1_10 l1_10.length c1_10, .int .i64 a1_11, .int .i64 a1_12, .int .i64 a1_13, .int .i64 a1_14, .int .i64 a1_15, .int .i64 a1_16, .pointer a1_17] 29 (0, 0)) (by (with_reducible repeat (first | refine blk_drewN ?_ _ | refine blk_drew ?_ | refine blk_alloc ?_ _)); exact BK127.out) hb); have n2_ := Aside0.mk (blk_below (g := gb128) (o := .cells #[.int .i64 a2_0, .int .u32 a2_1, .int .u32 a2_2, .int .i64 a2_3, .int .i64 a2_4] 35 (0, 0)) (by (with_reducible repeat (first | refine blk_drewN ?_ _ | refine blk_drew ?_ | refine blk_alloc ?_ _)); exact BK128.out) hb); have n3_ := Aside0.mk (below_step (by repeat (first | (with_reducible first | exact HB.out | apply below_alloc | apply pw_below_drewN | apply below_drew1 | refine below_set ?_ GE126.out | refine below_set ?_ GE127.out | refine below_set ?_ GE128.out) | exact HB.out)) hb); clear BK126; clear BK127; clear BK128; clear HB; have BK126 := n0_; have BK127 := n1_; have BK128 := n2_; have HB := n3_; clear n0_ n1_ n2_ n3_; (try clear hb); (try clear hb2); (try clear hk); (try clear hi)))
      go_meet
      case rel => exact ⟨_, (true), (by first | rfl | (simp; done) | (simp [*]; done)), H', ⟨by first | omega | exact Nat.le_refl _⟩, ⟨by (with_reducible repeat (first | refine blk_drewN ?_ _ | refine blk_drew ?_ | refine blk_alloc ?_ _)); exact BK126.out⟩, ⟨by (with_reducible repeat (first | refine blk_drewN ?_ _ | refine blk_drew ?_ | refine blk_alloc ?_ _)); exact BK127.out⟩, ⟨by (with_reducible repeat (first | refine blk_drewN ?_ _ | refine blk_drew ?_ | refine blk_alloc ?_ _)); exact BK128.out⟩, ⟨by repeat (first | (with_reducible first | exact HB.out | apply below_alloc | apply pw_below_drewN | apply below_drew1 | refine below_set ?_ GE126.out | refine below_set ?_ GE127.out | refine below_set ?_ GE128.out) | exact HB.out)⟩⟩
    · replace c9 := Bool.eq_false_iff.mpr c9
      subst c9
      have H1 : ((castellanlaw8_long.f a1_0 a1_1 a1_2 a1_3 a1_4 a1_5 a1_6 a1_7 a1_8 l1_9 l1_10).bind fun t130 => (castellanlaw8_PackKeys.j0 κ k t130 a0_0 a0_1 a0_2 a0_3 a0_4 a0_5 a0_6 a0_7 a0_8 l0_9 l0_10 a0_11 a0_12 a0_13 a0_14 a0_15 a0_16 a0_17 a1_0 a1_1 a1_2 a1_3 a1_4 a1_5 a1_6 a1_7 a1_8 l1_9 l1_10 a1_11 a1_12 a1_13 a1_14 a1_15 a1_16 a1_17 a2_0 a2_1 a2_2 a2_3 a2_4)) = some r := by rw [if_neg (show ¬ (false = true) by decide)] at H; exact H
      clear H
      have H := H1
      clear H1
      replace H := Option.bind_eq_some_iff.mp H
      obtain ⟨t130, A140, H⟩ := H
      replace H : (castellanlaw8_PackKeys.j0 κ k t130 a0_0 a0_1 a0_2 a0_3 a0_4 a0_5 a0_6 a0_7 a0_8 l0_9 l0_10 a0_11 a0_12 a0_13 a0_14 a0_15 a0_16 a0_17 a1_0 a1_1 a1_2 a1_3 a1_4 a1_5 a1_6 a1_7 a1_8 l1_9 l1_10 a1_11 a1_12 a1_13 a1_14 a1_15 a1_16 a1_17 a2_0 a2_1 a2_2 a2_3 a2_4) = some r := H
      have A14 := Aside0.mk A140
      clear A140
      have H' := Aside0.mk H
      clear H
      have hnb15 := NB126_127.out
      have hnc15 := NB127_126.out
      have hnb16 := NB126_128.out
      have hnc16 := NB128_126.out
      have hcz17_0 : w7.cell? ⟨gb126, 0, none⟩ = some (.int .i64 a0_0) := (blk_cell BK126.out 0).trans rfl
      have hcz17_1 : w7.cell? ⟨gb126, 1, none⟩ = some (.int .i64 a0_1) := (blk_cell BK126.out 1).trans rfl
      have hcz17_2 : w7.cell? ⟨gb126, 2, none⟩ = some (.bool a0_2) := (blk_cell BK126.out 2).trans rfl
      have hcz17_3 : w7.cell? ⟨gb126, 3, none⟩ = some (.bool a0_3) := (blk_cell BK126.out 3).trans rfl
      have hcz17_4 : w7.cell? ⟨gb126, 4, none⟩ = some (.int .i64 a0_4) := (blk_cell BK126.out 4).trans rfl
      have hcz17_5 : w7.cell? ⟨gb126, 5, none⟩ = some (.int .i64 a0_5) := (blk_cell BK126.out 5).trans rfl
      have hcz17_6 : w7.cell? ⟨gb126, 6, none⟩ = some (.int .i64 a0_6) := (blk_cell BK126.out 6).trans rfl
      have hcz17_7 : w7.cell? ⟨gb126, 7, none⟩ = some (.int .u32 a0_7) := (blk_cell BK126.out 7).trans rfl
      have hcz17_8 : w7.cell? ⟨gb126, 8, none⟩ = some (.int .u32 a0_8) := (blk_cell BK126.out 8).trans rfl
      have hcz17_9 : w7.cell? ⟨gb126, 9, none⟩ = some (.slice A0_9 l0_9.length c0_9) := (blk_cell BK126.out 9).trans rfl
      have hcz17_10 : w7.cell? ⟨gb126, 10, none⟩ = some (.slice A0_10 l0_10.length c0_10) := (blk_cell BK126.out 10).trans rfl
      have hcz17_11 : w7.cell? ⟨gb126, 11, none⟩ = some (.int .i64 a0_11) := (blk_cell BK126.out 11).trans rfl
      have hcz17_12 : w7.cell? ⟨gb126, 12, none⟩ = some (.int .i64 a0_12) := (blk_cell BK126.out 12).trans rfl
      have hcz17_13 : w7.cell? ⟨gb126, 13, none⟩ = some (.int .i64 a0_13) := (blk_cell BK126.out 13).trans rfl
      have hcz17_14 : w7.cell? ⟨gb126, 14, none⟩ = some (.int .i64 a0_14) := (blk_cell BK126.out 14).trans rfl
      have hcz17_15 : w7.cell? ⟨gb126, 15, none⟩ = some (.int .i64 a0_15) := (blk_cell BK126.out 15).trans rfl
      have hcz17_16 : w7.cell? ⟨gb126, 16, none⟩ = some (.int .i64 a0_16) := (blk_cell BK126.out 16).trans rfl
      have hcz17_17 : w7.cell? ⟨gb126, 17, none⟩ = some (.pointer a0_17) := (blk_cell BK126.out 17).trans rfl
      have hfz17_0 := blk_frozen BK126.out 0
      have hfz17_1 := blk_frozen BK126.out 1
      have hfz17_2 := blk_frozen BK126.out 2
      have hfz17_3 := blk_frozen BK126.out 3
      have hfz17_4 := blk_frozen BK126.out 4
      have hfz17_5 := blk_frozen BK126.out 5
      have hfz17_6 := blk_frozen BK126.out 6
      have hfz17_7 := blk_frozen BK126.out 7
      have hfz17_8 := blk_frozen BK126.out 8
      have hfz17_9 := blk_frozen BK126.out 9
      have hfz17_10 := blk_frozen BK126.out 10
      have hfz17_11 := blk_frozen BK126.out 11
      have hfz17_12 := blk_frozen BK126.out 12
      have hfz17_13 := blk_frozen BK126.out 13
      have hfz17_14 := blk_frozen BK126.out 14
      have hfz17_15 := blk_frozen BK126.out 15
      have hfz17_16 := blk_frozen BK126.out 16
      have hfz17_17 := blk_frozen BK126.out 17
      go_wp2_with (first | ((with_reducible refine gate_callee (f := 15) rfl ?_); refine goesL_ (some 9) rfl rfl Try.func15 (by kernel_rfl) rfl #[.agg #[.int .i64 a0_0, .int .i64 a0_1, .bool a0_2, .bool a0_3, .int .i64 a0_4, .int .i64 a0_5, .int .i64 a0_6, .int .u32 a0_7, .int .u32 a0_8, .slice A0_9 l0_9.length c0_9, .slice A0_10 l0_10.length c0_10]] rfl (by (try simp only [List.map_toArray, List.map_cons, List.map_nil]); first | done | rfl | (simp only [List.length_drop, List.length_take]; rfl)) ?_; (with_reducible refine (castellanlaw8_long.calls a0_0 a0_1 a0_2 a0_3 a0_4 a0_5 a0_6 a0_7 a0_8 _ _ l0_9 _ _ l0_10 false _ ?side1 ?side2 ?side3 ?side4 A8.out).mono ?_); (case side1 => repeat (first | exact (Kd.C_below HR0_9.out HB.out) | (with_reducible refine Kd.C_alloc ?_ _) | (with_reducible refine Kd.C_drewN ?_ _) | (with_reducible refine Kd.C_drew ?_))); (case side2 => exact HC0_9.out); (case side3 => repeat (first | exact (Kd.C_below HR0_10.out HB.out) | (with_reducible refine Kd.C_alloc ?_ _) | (with_reducible refine Kd.C_drewN ?_ _) | (with_reducible refine Kd.C_drew ?_))); (case side4 => exact HC0_10.out); rintro e w18 ⟨rfl, hb⟩; refine ⟨_, rfl, ?_⟩; have n0_ := Aside0.mk (blk_below (g := gb126) (o := .cells #[.int .i64 a0_0, .int .i64 a0_1, .bool a0_2, .bool a0_3, .int .i64 a0_4, .int .i64 a0_5, .int .i64 a0_6, .int .u32 a0_7, .int .u32 a0_8, .slice A0_9 l0_9.length c0_9, .slice A0_10 l0_10.length c0_10, .int .i64 a0_11, .int .i64 a0_12, .int .i64 a0_13, .int .i64 a0_14, .int .i64 a0_15, .int .i64 a0_16, .pointer a0_17] 29 (0, 0)) (by (with_reducible repeat (first | refine blk_drewN ?_ _ | refine blk_drew ?_ | refine blk_alloc ?_ _)); exact BK126.out) hb); have n1_ := Aside0.mk (blk_below (g := gb127) (o := .cells #[.int .i64 a1_0, .int .i64 a1_1, .bool a1_2, .bool a1_3, .int .i64 a1_4, .int .i64 a1_5, .int .i64 a1_6, .int .u32 a1_7, .int .u32 a1_8, .slice A1_9 l1_9.length c1_9, .slice A1_10 l1_10.length c1_10, .int .i64 a1_11, .int .i64 a1_12, .int .i64 a1_13, .int .i64 a1_14, .int .i64 a1_15, .int .i64 a1_16, .pointer a1_17] 29 (0, 0)) (by (with_reducible repeat (first | refine blk_drewN ?_ _ | refine blk_drew ?_ | refine blk_alloc ?_ _)); exact BK127.out) hb); have n2_ := Aside0.mk (blk_below (g := gb128) (o := .cells #[.int .i64 a2_0, .int .u32 a2_1, .int .u32 a2_2, .int .i64 a2_3, .int .i64 a2_4] 35 (0, 0)) (by (with_reducible repeat (first | refine blk_drewN ?_ _ | refine blk_drew ?_ | refine blk_alloc ?_ _)); exact BK128.out) hb); have n3_ := Aside0.mk (below_step (by repeat (first | (with_reducible first | exact HB.out | apply below_alloc | apply pw_below_drewN | apply below_drew1 | refine below_set ?_ GE126.out | refine below_set ?_ GE127.out | refine below_set ?_ GE128.out) | exact HB.out)) hb); clear BK126; clear BK127; clear BK128; clear HB; have BK126 := n0_; have BK127 := n1_; have BK128 := n2_; have HB := n3_; clear n0_ n1_ n2_ n3_; (try clear hb); (try clear hb2); (try clear hk); (try clear hi); have hnb19 := NB127_128.out; have hnc19 := NB128_127.out; have hcz20_0 : w18.cell? ⟨gb127, 0, none⟩ = some (.int .i64 a1_0) := (blk_cell BK127.out 0).trans rfl; have hcz20_1 : w18.cell? ⟨gb127, 1, none⟩ = some (.int .i64 a1_1) := (blk_cell BK127.out 1).trans rfl; have hcz20_2 : w18.cell? ⟨gb127, 2, none⟩ = some (.bool a1_2) := (blk_cell BK127.out 2).trans rfl; have hcz20_3 : w18.cell? ⟨gb127, 3, none⟩ = some (.bool a1_3) := (blk_cell BK127.out 3).trans rfl; have hcz20_4 : w18.cell? ⟨gb127, 4, none⟩ = some (.int .i64 a1_4) := (blk_cell BK127.out 4).trans rfl; have hcz20_5 : w18.cell? ⟨gb127, 5, none⟩ = some (.int .i64 a1_5) := (blk_cell BK127.out 5).trans rfl; have hcz20_6 : w18.cell? ⟨gb127, 6, none⟩ = some (.int .i64 a1_6) := (blk_cell BK127.out 6).trans rfl; have hcz20_7 : w18.cell? ⟨gb127, 7, none⟩ = some (.int .u32 a1_7) := (blk_cell BK127.out 7).trans rfl; have hcz20_8 : w18.cell? ⟨gb127, 8, none⟩ = some (.int .u32 a1_8) := (blk_cell BK127.out 8).trans rfl; have hcz20_9 : w18.cell? ⟨gb127, 9, none⟩ = some (.slice A1_9 l1_9.length c1_9) := (blk_cell BK127.out 9).trans rfl; have hcz20_10 : w18.cell? ⟨gb127, 10, none⟩ = some (.slice A1_10 l1_10.length c1_10) := (blk_cell BK127.out 10).trans rfl; have hcz20_11 : w18.cell? ⟨gb127, 11, none⟩ = some (.int .i64 a1_11) := (blk_cell BK127.out 11).trans rfl; have hcz20_12 : w18.cell? ⟨gb127, 12, none⟩ = some (.int .i64 a1_12) := (blk_cell BK127.out 12).trans rfl; have hcz20_13 : w18.cell? ⟨gb127, 13, none⟩ = some (.int .i64 a1_13) := (blk_cell BK127.out 13).trans rfl; have hcz20_14 : w18.cell? ⟨gb127, 14, none⟩ = some (.int .i64 a1_14) := (blk_cell BK127.out 14).trans rfl; have hcz20_15 : w18.cell? ⟨gb127, 15, none⟩ = some (.int .i64 a1_15) := (blk_cell BK127.out 15).trans rfl; have hcz20_16 : w18.cell? ⟨gb127, 16, none⟩ = some (.int .i64 a1_16) := (blk_cell BK127.out 16).trans rfl; have hcz20_17 : w18.cell? ⟨gb127, 17, none⟩ = some (.pointer a1_17) := (blk_cell BK127.out 17).trans rfl; have hfz20_0 := blk_frozen BK127.out 0; have hfz20_1 := blk_frozen BK127.out 1; have hfz20_2 := blk_frozen BK127.out 2; have hfz20_3 := blk_frozen BK127.out 3; have hfz20_4 := blk_frozen BK127.out 4; have hfz20_5 := blk_frozen BK127.out 5; have hfz20_6 := blk_frozen BK127.out 6; have hfz20_7 := blk_frozen BK127.out 7; have hfz20_8 := blk_frozen BK127.out 8; have hfz20_9 := blk_frozen BK127.out 9; have hfz20_10 := blk_frozen BK127.out 10; have hfz20_11 := blk_frozen BK127.out 11; have hfz20_12 := blk_frozen BK127.out 12; have hfz20_13 := blk_frozen BK127.out 13; have hfz20_14 := blk_frozen BK127.out 14; have hfz20_15 := blk_frozen BK127.out 15; have hfz20_16 := blk_frozen BK127.out 16; have hfz20_17 := blk_frozen BK127.out 17) | (go_at_call 15; (with_reducible refine (castellanlaw8_long.calls a1_0 a1_1 a1_2 a1_3 a1_4 a1_5 a1_6 a1_7 a1_8 _ _ l1_9 _ _ l1_10 t130 _ ?side1 ?side2 ?side3 ?side4 A14.out).mono ?_); (case side1 => repeat (first | exact (Kd.C_below HR1_9.out HB.out) | (with_reducible refine Kd.C_alloc ?_ _) | (with_reducible refine Kd.C_drewN ?_ _) | (with_reducible refine Kd.C_drew ?_))); (case side2 => exact HC1_9.out); (case side3 => repeat (first | exact (Kd.C_below HR1_10.out HB.out) | (with_reducible refine Kd.C_alloc ?_ _) | (with_reducible refine Kd.C_drewN ?_ _) | (with_reducible refine Kd.C_drew ?_))); (case side4 => exact HC1_10.out); rintro e w21 ⟨rfl, hb⟩; have n0_ := Aside0.mk (blk_below (g := gb126) (o := .cells #[.int .i64 a0_0, .int .i64 a0_1, .bool a0_2, .bool a0_3, .int .i64 a0_4, .int .i64 a0_5, .int .i64 a0_6, .int .u32 a0_7, .int .u32 a0_8, .slice A0_9 l0_9.length c0_9, .slice A0_10 l0_10.length c0_10, .int .i64 a0_11, .int .i64 a0_12, .int .i64 a0_13, .int .i64 a0_14, .int .i64 a0_15, .int .i64 a0_16, .pointer a0_17] 29 (0, 0)) (by (with_reducible repeat (first | refine blk_drewN ?_ _ | refine blk_drew ?_ | refine blk_alloc ?_ _)); exact BK126.out) hb); have n1_ := Aside0.mk (blk_below (g := gb127) (o := .cells #[.int .i64 a1_0, .int .i64 a1_1, .bool a1_2, .bool a1_3, .int .i64 a1_4, .int .i64 a1_5, .int .i64 a1_6, .int .u32 a1_7, .int .u32 a1_8, .slice A1_9 l1_9.length c1_9, .slice A1_10 l1_10.length c1_10, .int .i64 a1_11, .int .i64 a1_12, .int .i64 a1_13, .int .i64 a1_14, .int .i64 a1_15, .int .i64 a1_16, .pointer a1_17] 29 (0, 0)) (by (with_reducible repeat (first | refine blk_drewN ?_ _ | refine blk_drew ?_ | refine blk_alloc ?_ _)); exact BK127.out) hb); have n2_ := Aside0.mk (blk_below (g := gb128) (o := .cells #[.int .i64 a2_0, .int .u32 a2_1, .int .u32 a2_2, .int .i64 a2_3, .int .i64 a2_4] 35 (0, 0)) (by (with_reducible repeat (first | refine blk_drewN ?_ _ | refine blk_drew ?_ | refine blk_alloc ?_ _)); exact BK128.out) hb); have n3_ := Aside0.mk (below_step (by repeat (first | (with_reducible first | exact HB.out | apply below_alloc | apply pw_below_drewN | apply below_drew1 | refine below_set ?_ GE126.out | refine below_set ?_ GE127.out | refine below_set ?_ GE128.out) | exact HB.out)) hb); clear BK126; clear BK127; clear BK128; clear HB; have BK126 := n0_; have BK127 := n1_; have BK128 := n2_; have HB := n3_; clear n0_ n1_ n2_ n3_; (try clear hb); (try clear hb2); (try clear hk); (try clear hi)))
      go_meet
      case rel => exact ⟨_, (t130), (by first | rfl | (simp; done) | (simp [*]; done)), H', ⟨by first | omega | exact Nat.le_refl _⟩, ⟨by (with_reducible repeat (first | refine blk_drewN ?_ _ | refine blk_drew ?_ | refine blk_alloc ?_ _)); exact BK126.out⟩, ⟨by (with_reducible repeat (first | refine blk_drewN ?_ _ | refine blk_drew ?_ | refine blk_alloc ?_ _)); exact BK127.out⟩, ⟨by (with_reducible repeat (first | refine blk_drewN ?_ _ | refine blk_drew ?_ | refine blk_alloc ?_ _)); exact BK128.out⟩, ⟨by repeat (first | (with_reducible first | exact HB.out | apply below_alloc | apply pw_below_drewN | apply below_drew1 | refine below_set ?_ GE126.out | refine below_set ?_ GE127.out | refine below_set ?_ GE128.out) | exact HB.out)⟩⟩
  case rest =>
    clear HC4
    try clear c1
    try clear p2
    try clear c4
    try clear c9
    try clear c10
    try clear c11
    try clear c15
    try clear c16
    try clear c19
    try clear hcz12_0
    try clear hcz12_1
    try clear hcz12_10
    try clear hcz12_11
    try clear hcz12_12
    try clear hcz12_13
    try clear hcz12_14
    try clear hcz12_15
    try clear hcz12_16
    try clear hcz12_17
    try clear hcz12_2
    try clear hcz12_3
    try clear hcz12_4
    try clear hcz12_5
    try clear hcz12_6
    try clear hcz12_7
    try clear hcz12_8
    try clear hcz12_9
    try clear hcz17_0
    try clear hcz17_1
    try clear hcz17_10
    try clear hcz17_11
    try clear hcz17_12
    try clear hcz17_13
    try clear hcz17_14
    try clear hcz17_15
    try clear hcz17_16
    try clear hcz17_17
    try clear hcz17_2
    try clear hcz17_3
    try clear hcz17_4
    try clear hcz17_5
    try clear hcz17_6
    try clear hcz17_7
    try clear hcz17_8
    try clear hcz17_9
    try clear hcz20_0
    try clear hcz20_1
    try clear hcz20_10
    try clear hcz20_11
    try clear hcz20_12
    try clear hcz20_13
    try clear hcz20_14
    try clear hcz20_15
    try clear hcz20_16
    try clear hcz20_17
    try clear hcz20_2
    try clear hcz20_3
    try clear hcz20_4
    try clear hcz20_5
    try clear hcz20_6
    try clear hcz20_7
    try clear hcz20_8
    try clear hcz20_9
    try clear hfz12_0
    try clear hfz12_1
    try clear hfz12_10
    try clear hfz12_11
    try clear hfz12_12
    try clear hfz12_13
    try clear hfz12_14
    try clear hfz12_15
    try clear hfz12_16
    try clear hfz12_17
    try clear hfz12_2
    try clear hfz12_3
    try clear hfz12_4
    try clear hfz12_5
    try clear hfz12_6
    try clear hfz12_7
    try clear hfz12_8
    try clear hfz12_9
    try clear hfz17_0
    try clear hfz17_1
    try clear hfz17_10
    try clear hfz17_11
    try clear hfz17_12
    try clear hfz17_13
    try clear hfz17_14
    try clear hfz17_15
    try clear hfz17_16
    try clear hfz17_17
    try clear hfz17_2
    try clear hfz17_3
    try clear hfz17_4
    try clear hfz17_5
    try clear hfz17_6
    try clear hfz17_7
    try clear hfz17_8
    try clear hfz17_9
    try clear hfz20_0
    try clear hfz20_1
    try clear hfz20_10
    try clear hfz20_11
    try clear hfz20_12
    try clear hfz20_13
    try clear hfz20_14
    try clear hfz20_15
    try clear hfz20_16
    try clear hfz20_17
    try clear hfz20_2
    try clear hfz20_3
    try clear hfz20_4
    try clear hfz20_5
    try clear hfz20_6
    try clear hfz20_7
    try clear hfz20_8
    try clear hfz20_9
    obtain ⟨kq, x14_3, rfl, HA, HJ3, BK126, BK127, BK128, HB⟩ := hcut
    cases kq with
    | zero => exact absurd HA.out (by simp [castellanlaw8_PackKeys.j0])
    | succ kj3 =>
      have H := HA.out
      clear HA
      simp only [castellanlaw8_PackKeys.j0] at H
      by_cases c22 : x14_3 = true
      · subst c22
        have H1 : (some true) = some r := by rw [if_pos rfl] at H; exact H
        clear H
        have H := H1
        clear H1
        obtain rfl := Option.some.inj H
        go_wp2
        go_ret
        exact ⟨by first | rfl | (simp [errW_none, errW_some] <;> rfl) | (simp [*, errW_none, errW_some] <;> rfl), by repeat (first | (with_reducible first | exact HB.out | apply below_alloc | apply pw_below_drewN | apply below_drew1 | refine below_set ?_ GE126.out | refine below_set ?_ GE127.out | refine below_set ?_ GE128.out) | exact HB.out)⟩
      · replace c22 := Bool.eq_false_iff.mpr c22
        subst c22
        have H1 : ((pack_KeyOf.f a0_0 a0_1 a0_2 a0_3 a0_4 a0_5 a0_6 a0_7 a0_8 l0_9 l0_10 a0_11 a0_12 a0_13 a0_14 a0_15 a0_16 a0_17).bind fun bt131 => ((castellanref8_KeyOf.f a0_0 a0_1 a0_2 a0_3 a0_4 a0_5 a0_6 a0_7 a0_8 l0_9 l0_10 a0_11 a0_12 a0_13 a0_14 a0_15 a0_16 a0_17).bind fun bt136 => (if (bt131.1 == bt136.1 && (bt131.2.1 == bt136.2.1 && (bt131.2.2.1 == bt136.2.2.1 && (bt131.2.2.2.1 == bt136.2.2.2.1 && (bt131.2.2.2.2 == bt136.2.2.2.2))))) = true then ((pack_Turn.f a2_0 a2_1 a2_2 a2_3 a2_4).bind fun bt141 => ((castellanref8_Turn.f a2_0 a2_1 a2_2 a2_3 a2_4).bind fun bt146 => (if (bt141.1 == bt146.1 && (bt141.2.1 == bt146.2.1 && (bt141.2.2.1 == bt146.2.2.1 && (bt141.2.2.2.1 == bt146.2.2.2.1 && (bt141.2.2.2.2 == bt146.2.2.2.2))))) = true then ((pack_Turn.f a2_0 a2_1 a2_2 a2_3 a2_4).bind fun bt151 => ((pack_Turn.f bt151.1 bt151.2.1 bt151.2.2.1 bt151.2.2.2.1 bt151.2.2.2.2).bind fun bt156 => (if (bt156.1 == a2_0 && (bt156.2.1 == a2_1 && (bt156.2.2.1 == a2_2 && (bt156.2.2.2.1 == a2_3 && (bt156.2.2.2.2 == a2_4))))) = true then ((pack_Class.f a0_0 a0_1 a0_2 a0_3 a0_4 a0_5 a0_6 a0_7 a0_8 l0_9 l0_10).bind fun t161 => ((castellanref8_Class.f a0_0 a0_1 a0_2 a0_3 a0_4 a0_5 a0_6 a0_7 a0_8 l0_9 l0_10).bind fun t162 => (if t161 = t162 then ((pack_Same.f κ a0_0 a0_1 a0_2 a0_3 a0_4 a0_5 a0_6 a0_7 a0_8 l0_9 l0_10 a0_11 a0_12 a0_13 a0_14 a0_15 a0_16 a0_17 a1_0 a1_1 a1_2 a1_3 a1_4 a1_5 a1_6 a1_7 a1_8 l1_9 l1_10 a1_11 a1_12 a1_13 a1_14 a1_15 a1_16 a1_17).bind fun t163 => ((castellanref8_Same.f κ a0_0 a0_1 a0_2 a0_3 a0_4 a0_5 a0_6 a0_7 a0_8 l0_9 l0_10 a0_11 a0_12 a0_13 a0_14 a0_15 a0_16 a0_17 a1_0 a1_1 a1_2 a1_3 a1_4 a1_5 a1_6 a1_7 a1_8 l1_9 l1_10 a1_11 a1_12 a1_13 a1_14 a1_15 a1_16 a1_17).bind fun t164 => (if (t163 == t164) = true then ((pack_Same.f κ a0_0 a0_1 a0_2 a0_3 a0_4 a0_5 a0_6 a0_7 a0_8 l0_9 l0_10 a0_11 a0_12 a0_13 a0_14 a0_15 a0_16 a0_17 a0_0 a0_1 a0_2 a0_3 a0_4 a0_5 a0_6 a0_7 a0_8 l0_9 l0_10 a0_11 a0_12 a0_13 a0_14 a0_15 a0_16 a0_17).bind fun t165 => (if t165 = true then ((castellanlaw8_known.f).bind fun t166 => (some t166)) else (some false))) else (some false)))) else (some false)))) else (some false)))) else (some false)))) else (some false)))) = some r := by rw [if_neg (show ¬ (false = true) by decide)] at H; exact H
        clear H
        have H := H1
        clear H1
        replace H := Option.bind_eq_some_iff.mp H
        obtain ⟨⟨t131, t132, t133, t134, t135⟩, A230, H⟩ := H
        replace H : ((castellanref8_KeyOf.f a0_0 a0_1 a0_2 a0_3 a0_4 a0_5 a0_6 a0_7 a0_8 l0_9 l0_10 a0_11 a0_12 a0_13 a0_14 a0_15 a0_16 a0_17).bind fun bt136 => (if (t131 == bt136.1 && (t132 == bt136.2.1 && (t133 == bt136.2.2.1 && (t134 == bt136.2.2.2.1 && (t135 == bt136.2.2.2.2))))) = true then ((pack_Turn.f a2_0 a2_1 a2_2 a2_3 a2_4).bind fun bt141 => ((castellanref8_Turn.f a2_0 a2_1 a2_2 a2_3 a2_4).bind fun bt146 => (if (bt141.1 == bt146.1 && (bt141.2.1 == bt146.2.1 && (bt141.2.2.1 == bt146.2.2.1 && (bt141.2.2.2.1 == bt146.2.2.2.1 && (bt141.2.2.2.2 == bt146.2.2.2.2))))) = true then ((pack_Turn.f a2_0 a2_1 a2_2 a2_3 a2_4).bind fun bt151 => ((pack_Turn.f bt151.1 bt151.2.1 bt151.2.2.1 bt151.2.2.2.1 bt151.2.2.2.2).bind fun bt156 => (if (bt156.1 == a2_0 && (bt156.2.1 == a2_1 && (bt156.2.2.1 == a2_2 && (bt156.2.2.2.1 == a2_3 && (bt156.2.2.2.2 == a2_4))))) = true then ((pack_Class.f a0_0 a0_1 a0_2 a0_3 a0_4 a0_5 a0_6 a0_7 a0_8 l0_9 l0_10).bind fun t161 => ((castellanref8_Class.f a0_0 a0_1 a0_2 a0_3 a0_4 a0_5 a0_6 a0_7 a0_8 l0_9 l0_10).bind fun t162 => (if t161 = t162 then ((pack_Same.f κ a0_0 a0_1 a0_2 a0_3 a0_4 a0_5 a0_6 a0_7 a0_8 l0_9 l0_10 a0_11 a0_12 a0_13 a0_14 a0_15 a0_16 a0_17 a1_0 a1_1 a1_2 a1_3 a1_4 a1_5 a1_6 a1_7 a1_8 l1_9 l1_10 a1_11 a1_12 a1_13 a1_14 a1_15 a1_16 a1_17).bind fun t163 => ((castellanref8_Same.f κ a0_0 a0_1 a0_2 a0_3 a0_4 a0_5 a0_6 a0_7 a0_8 l0_9 l0_10 a0_11 a0_12 a0_13 a0_14 a0_15 a0_16 a0_17 a1_0 a1_1 a1_2 a1_3 a1_4 a1_5 a1_6 a1_7 a1_8 l1_9 l1_10 a1_11 a1_12 a1_13 a1_14 a1_15 a1_16 a1_17).bind fun t164 => (if (t163 == t164) = true then ((pack_Same.f κ a0_0 a0_1 a0_2 a0_3 a0_4 a0_5 a0_6 a0_7 a0_8 l0_9 l0_10 a0_11 a0_12 a0_13 a0_14 a0_15 a0_16 a0_17 a0_0 a0_1 a0_2 a0_3 a0_4 a0_5 a0_6 a0_7 a0_8 l0_9 l0_10 a0_11 a0_12 a0_13 a0_14 a0_15 a0_16 a0_17).bind fun t165 => (if t165 = true then ((castellanlaw8_known.f).bind fun t166 => (some t166)) else (some false))) else (some false)))) else (some false)))) else (some false)))) else (some false)))) else (some false))) = some r := H
        have A23 := Aside0.mk A230
        clear A230
        replace H := Option.bind_eq_some_iff.mp H
        obtain ⟨⟨t136, t137, t138, t139, t140⟩, A240, H⟩ := H
        replace H : (if (t131 == t136 && (t132 == t137 && (t133 == t138 && (t134 == t139 && (t135 == t140))))) = true then ((pack_Turn.f a2_0 a2_1 a2_2 a2_3 a2_4).bind fun bt141 => ((castellanref8_Turn.f a2_0 a2_1 a2_2 a2_3 a2_4).bind fun bt146 => (if (bt141.1 == bt146.1 && (bt141.2.1 == bt146.2.1 && (bt141.2.2.1 == bt146.2.2.1 && (bt141.2.2.2.1 == bt146.2.2.2.1 && (bt141.2.2.2.2 == bt146.2.2.2.2))))) = true then ((pack_Turn.f a2_0 a2_1 a2_2 a2_3 a2_4).bind fun bt151 => ((pack_Turn.f bt151.1 bt151.2.1 bt151.2.2.1 bt151.2.2.2.1 bt151.2.2.2.2).bind fun bt156 => (if (bt156.1 == a2_0 && (bt156.2.1 == a2_1 && (bt156.2.2.1 == a2_2 && (bt156.2.2.2.1 == a2_3 && (bt156.2.2.2.2 == a2_4))))) = true then ((pack_Class.f a0_0 a0_1 a0_2 a0_3 a0_4 a0_5 a0_6 a0_7 a0_8 l0_9 l0_10).bind fun t161 => ((castellanref8_Class.f a0_0 a0_1 a0_2 a0_3 a0_4 a0_5 a0_6 a0_7 a0_8 l0_9 l0_10).bind fun t162 => (if t161 = t162 then ((pack_Same.f κ a0_0 a0_1 a0_2 a0_3 a0_4 a0_5 a0_6 a0_7 a0_8 l0_9 l0_10 a0_11 a0_12 a0_13 a0_14 a0_15 a0_16 a0_17 a1_0 a1_1 a1_2 a1_3 a1_4 a1_5 a1_6 a1_7 a1_8 l1_9 l1_10 a1_11 a1_12 a1_13 a1_14 a1_15 a1_16 a1_17).bind fun t163 => ((castellanref8_Same.f κ a0_0 a0_1 a0_2 a0_3 a0_4 a0_5 a0_6 a0_7 a0_8 l0_9 l0_10 a0_11 a0_12 a0_13 a0_14 a0_15 a0_16 a0_17 a1_0 a1_1 a1_2 a1_3 a1_4 a1_5 a1_6 a1_7 a1_8 l1_9 l1_10 a1_11 a1_12 a1_13 a1_14 a1_15 a1_16 a1_17).bind fun t164 => (if (t163 == t164) = true then ((pack_Same.f κ a0_0 a0_1 a0_2 a0_3 a0_4 a0_5 a0_6 a0_7 a0_8 l0_9 l0_10 a0_11 a0_12 a0_13 a0_14 a0_15 a0_16 a0_17 a0_0 a0_1 a0_2 a0_3 a0_4 a0_5 a0_6 a0_7 a0_8 l0_9 l0_10 a0_11 a0_12 a0_13 a0_14 a0_15 a0_16 a0_17).bind fun t165 => (if t165 = true then ((castellanlaw8_known.f).bind fun t166 => (some t166)) else (some false))) else (some false)))) else (some false)))) else (some false)))) else (some false)))) else (some false)) = some r := H
        have A24 := Aside0.mk A240
        clear A240
        by_cases c25 : (t131 == t136 && (t132 == t137 && (t133 == t138 && (t134 == t139 && (t135 == t140))))) = true
        · rw [if_pos c25] at H
          have c25b0 : (t131 == t136 && (t132 == t137 && (t133 == t138 && (t134 == t139 && (t135 == t140))))) = true := c25
          (try (have c25b1 : decide (t131 = t136 && (t132 == t137 && (t133 == t138 && (t134 == t139 && (t135 == t140))))) = true := by simpa using c25))
          (try (have c25b2 : (t131 == t136 && (t132 == t137 && (t133 == t138 && (t134 == t139 && (t135 == t140))))) = true := by simpa using c25))
          clear c25
          replace H := Option.bind_eq_some_iff.mp H
          obtain ⟨⟨t141, t142, t143, t144, t145⟩, A260, H⟩ := H
          replace H : ((castellanref8_Turn.f a2_0 a2_1 a2_2 a2_3 a2_4).bind fun bt146 => (if (t141 == bt146.1 && (t142 == bt146.2.1 && (t143 == bt146.2.2.1 && (t144 == bt146.2.2.2.1 && (t145 == bt146.2.2.2.2))))) = true then ((pack_Turn.f a2_0 a2_1 a2_2 a2_3 a2_4).bind fun bt151 => ((pack_Turn.f bt151.1 bt151.2.1 bt151.2.2.1 bt151.2.2.2.1 bt151.2.2.2.2).bind fun bt156 => (if (bt156.1 == a2_0 && (bt156.2.1 == a2_1 && (bt156.2.2.1 == a2_2 && (bt156.2.2.2.1 == a2_3 && (bt156.2.2.2.2 == a2_4))))) = true then ((pack_Class.f a0_0 a0_1 a0_2 a0_3 a0_4 a0_5 a0_6 a0_7 a0_8 l0_9 l0_10).bind fun t161 => ((castellanref8_Class.f a0_0 a0_1 a0_2 a0_3 a0_4 a0_5 a0_6 a0_7 a0_8 l0_9 l0_10).bind fun t162 => (if t161 = t162 then ((pack_Same.f κ a0_0 a0_1 a0_2 a0_3 a0_4 a0_5 a0_6 a0_7 a0_8 l0_9 l0_10 a0_11 a0_12 a0_13 a0_14 a0_15 a0_16 a0_17 a1_0 a1_1 a1_2 a1_3 a1_4 a1_5 a1_6 a1_7 a1_8 l1_9 l1_10 a1_11 a1_12 a1_13 a1_14 a1_15 a1_16 a1_17).bind fun t163 => ((castellanref8_Same.f κ a0_0 a0_1 a0_2 a0_3 a0_4 a0_5 a0_6 a0_7 a0_8 l0_9 l0_10 a0_11 a0_12 a0_13 a0_14 a0_15 a0_16 a0_17 a1_0 a1_1 a1_2 a1_3 a1_4 a1_5 a1_6 a1_7 a1_8 l1_9 l1_10 a1_11 a1_12 a1_13 a1_14 a1_15 a1_16 a1_17).bind fun t164 => (if (t163 == t164) = true then ((pack_Same.f κ a0_0 a0_1 a0_2 a0_3 a0_4 a0_5 a0_6 a0_7 a0_8 l0_9 l0_10 a0_11 a0_12 a0_13 a0_14 a0_15 a0_16 a0_17 a0_0 a0_1 a0_2 a0_3 a0_4 a0_5 a0_6 a0_7 a0_8 l0_9 l0_10 a0_11 a0_12 a0_13 a0_14 a0_15 a0_16 a0_17).bind fun t165 => (if t165 = true then ((castellanlaw8_known.f).bind fun t166 => (some t166)) else (some false))) else (some false)))) else (some false)))) else (some false)))) else (some false))) = some r := H
          have A26 := Aside0.mk A260
          clear A260
          replace H := Option.bind_eq_some_iff.mp H
          obtain ⟨⟨t146, t147, t148, t149, t150⟩, A270, H⟩ := H
          replace H : (if (t141 == t146 && (t142 == t147 && (t143 == t148 && (t144 == t149 && (t145 == t150))))) = true then ((pack_Turn.f a2_0 a2_1 a2_2 a2_3 a2_4).bind fun bt151 => ((pack_Turn.f bt151.1 bt151.2.1 bt151.2.2.1 bt151.2.2.2.1 bt151.2.2.2.2).bind fun bt156 => (if (bt156.1 == a2_0 && (bt156.2.1 == a2_1 && (bt156.2.2.1 == a2_2 && (bt156.2.2.2.1 == a2_3 && (bt156.2.2.2.2 == a2_4))))) = true then ((pack_Class.f a0_0 a0_1 a0_2 a0_3 a0_4 a0_5 a0_6 a0_7 a0_8 l0_9 l0_10).bind fun t161 => ((castellanref8_Class.f a0_0 a0_1 a0_2 a0_3 a0_4 a0_5 a0_6 a0_7 a0_8 l0_9 l0_10).bind fun t162 => (if t161 = t162 then ((pack_Same.f κ a0_0 a0_1 a0_2 a0_3 a0_4 a0_5 a0_6 a0_7 a0_8 l0_9 l0_10 a0_11 a0_12 a0_13 a0_14 a0_15 a0_16 a0_17 a1_0 a1_1 a1_2 a1_3 a1_4 a1_5 a1_6 a1_7 a1_8 l1_9 l1_10 a1_11 a1_12 a1_13 a1_14 a1_15 a1_16 a1_17).bind fun t163 => ((castellanref8_Same.f κ a0_0 a0_1 a0_2 a0_3 a0_4 a0_5 a0_6 a0_7 a0_8 l0_9 l0_10 a0_11 a0_12 a0_13 a0_14 a0_15 a0_16 a0_17 a1_0 a1_1 a1_2 a1_3 a1_4 a1_5 a1_6 a1_7 a1_8 l1_9 l1_10 a1_11 a1_12 a1_13 a1_14 a1_15 a1_16 a1_17).bind fun t164 => (if (t163 == t164) = true then ((pack_Same.f κ a0_0 a0_1 a0_2 a0_3 a0_4 a0_5 a0_6 a0_7 a0_8 l0_9 l0_10 a0_11 a0_12 a0_13 a0_14 a0_15 a0_16 a0_17 a0_0 a0_1 a0_2 a0_3 a0_4 a0_5 a0_6 a0_7 a0_8 l0_9 l0_10 a0_11 a0_12 a0_13 a0_14 a0_15 a0_16 a0_17).bind fun t165 => (if t165 = true then ((castellanlaw8_known.f).bind fun t166 => (some t166)) else (some false))) else (some false)))) else (some false)))) else (some false)))) else (some false)) = some r := H
          have A27 := Aside0.mk A270
          clear A270
          by_cases c28 : (t141 == t146 && (t142 == t147 && (t143 == t148 && (t144 == t149 && (t145 == t150))))) = true
          · rw [if_pos c28] at H
            have c28b0 : (t141 == t146 && (t142 == t147 && (t143 == t148 && (t144 == t149 && (t145 == t150))))) = true := c28
            (try (have c28b1 : decide (t141 = t146 && (t142 == t147 && (t143 == t148 && (t144 == t149 && (t145 == t150))))) = true := by simpa using c28))
            (try (have c28b2 : (t141 == t146 && (t142 == t147 && (t143 == t148 && (t144 == t149 && (t145 == t150))))) = true := by simpa using c28))
            clear c28
            replace H := Option.bind_eq_some_iff.mp H
            obtain ⟨⟨t151, t152, t153, t154, t155⟩, A290, H⟩ := H
            replace H : ((pack_Turn.f t151 t152 t153 t154 t155).bind fun bt156 => (if (bt156.1 == a2_0 && (bt156.2.1 == a2_1 && (bt156.2.2.1 == a2_2 && (bt156.2.2.2.1 == a2_3 && (bt156.2.2.2.2 == a2_4))))) = true then ((pack_Class.f a0_0 a0_1 a0_2 a0_3 a0_4 a0_5 a0_6 a0_7 a0_8 l0_9 l0_10).bind fun t161 => ((castellanref8_Class.f a0_0 a0_1 a0_2 a0_3 a0_4 a0_5 a0_6 a0_7 a0_8 l0_9 l0_10).bind fun t162 => (if t161 = t162 then ((pack_Same.f κ a0_0 a0_1 a0_2 a0_3 a0_4 a0_5 a0_6 a0_7 a0_8 l0_9 l0_10 a0_11 a0_12 a0_13 a0_14 a0_15 a0_16 a0_17 a1_0 a1_1 a1_2 a1_3 a1_4 a1_5 a1_6 a1_7 a1_8 l1_9 l1_10 a1_11 a1_12 a1_13 a1_14 a1_15 a1_16 a1_17).bind fun t163 => ((castellanref8_Same.f κ a0_0 a0_1 a0_2 a0_3 a0_4 a0_5 a0_6 a0_7 a0_8 l0_9 l0_10 a0_11 a0_12 a0_13 a0_14 a0_15 a0_16 a0_17 a1_0 a1_1 a1_2 a1_3 a1_4 a1_5 a1_6 a1_7 a1_8 l1_9 l1_10 a1_11 a1_12 a1_13 a1_14 a1_15 a1_16 a1_17).bind fun t164 => (if (t163 == t164) = true then ((pack_Same.f κ a0_0 a0_1 a0_2 a0_3 a0_4 a0_5 a0_6 a0_7 a0_8 l0_9 l0_10 a0_11 a0_12 a0_13 a0_14 a0_15 a0_16 a0_17 a0_0 a0_1 a0_2 a0_3 a0_4 a0_5 a0_6 a0_7 a0_8 l0_9 l0_10 a0_11 a0_12 a0_13 a0_14 a0_15 a0_16 a0_17).bind fun t165 => (if t165 = true then ((castellanlaw8_known.f).bind fun t166 => (some t166)) else (some false))) else (some false)))) else (some false)))) else (some false))) = some r := H
            have A29 := Aside0.mk A290
            clear A290
            replace H := Option.bind_eq_some_iff.mp H
            obtain ⟨⟨t156, t157, t158, t159, t160⟩, A300, H⟩ := H
            replace H : (if (t156 == a2_0 && (t157 == a2_1 && (t158 == a2_2 && (t159 == a2_3 && (t160 == a2_4))))) = true then ((pack_Class.f a0_0 a0_1 a0_2 a0_3 a0_4 a0_5 a0_6 a0_7 a0_8 l0_9 l0_10).bind fun t161 => ((castellanref8_Class.f a0_0 a0_1 a0_2 a0_3 a0_4 a0_5 a0_6 a0_7 a0_8 l0_9 l0_10).bind fun t162 => (if t161 = t162 then ((pack_Same.f κ a0_0 a0_1 a0_2 a0_3 a0_4 a0_5 a0_6 a0_7 a0_8 l0_9 l0_10 a0_11 a0_12 a0_13 a0_14 a0_15 a0_16 a0_17 a1_0 a1_1 a1_2 a1_3 a1_4 a1_5 a1_6 a1_7 a1_8 l1_9 l1_10 a1_11 a1_12 a1_13 a1_14 a1_15 a1_16 a1_17).bind fun t163 => ((castellanref8_Same.f κ a0_0 a0_1 a0_2 a0_3 a0_4 a0_5 a0_6 a0_7 a0_8 l0_9 l0_10 a0_11 a0_12 a0_13 a0_14 a0_15 a0_16 a0_17 a1_0 a1_1 a1_2 a1_3 a1_4 a1_5 a1_6 a1_7 a1_8 l1_9 l1_10 a1_11 a1_12 a1_13 a1_14 a1_15 a1_16 a1_17).bind fun t164 => (if (t163 == t164) = true then ((pack_Same.f κ a0_0 a0_1 a0_2 a0_3 a0_4 a0_5 a0_6 a0_7 a0_8 l0_9 l0_10 a0_11 a0_12 a0_13 a0_14 a0_15 a0_16 a0_17 a0_0 a0_1 a0_2 a0_3 a0_4 a0_5 a0_6 a0_7 a0_8 l0_9 l0_10 a0_11 a0_12 a0_13 a0_14 a0_15 a0_16 a0_17).bind fun t165 => (if t165 = true then ((castellanlaw8_known.f).bind fun t166 => (some t166)) else (some false))) else (some false)))) else (some false)))) else (some false)) = some r := H
            have A30 := Aside0.mk A300
            clear A300
            by_cases c31 : (t156 == a2_0 && (t157 == a2_1 && (t158 == a2_2 && (t159 == a2_3 && (t160 == a2_4))))) = true
            · rw [if_pos c31] at H
              have c31b0 : (t156 == a2_0 && (t157 == a2_1 && (t158 == a2_2 && (t159 == a2_3 && (t160 == a2_4))))) = true := c31
              (try (have c31b1 : decide (t156 = a2_0 && (t157 == a2_1 && (t158 == a2_2 && (t159 == a2_3 && (t160 == a2_4))))) = true := by simpa using c31))
              (try (have c31b2 : (t156 == a2_0 && (t157 == a2_1 && (t158 == a2_2 && (t159 == a2_3 && (t160 == a2_4))))) = true := by simpa using c31))
              clear c31
              replace H := Option.bind_eq_some_iff.mp H
              obtain ⟨t161, A320, H⟩ := H
              replace H : ((castellanref8_Class.f a0_0 a0_1 a0_2 a0_3 a0_4 a0_5 a0_6 a0_7 a0_8 l0_9 l0_10).bind fun t162 => (if t161 = t162 then ((pack_Same.f κ a0_0 a0_1 a0_2 a0_3 a0_4 a0_5 a0_6 a0_7 a0_8 l0_9 l0_10 a0_11 a0_12 a0_13 a0_14 a0_15 a0_16 a0_17 a1_0 a1_1 a1_2 a1_3 a1_4 a1_5 a1_6 a1_7 a1_8 l1_9 l1_10 a1_11 a1_12 a1_13 a1_14 a1_15 a1_16 a1_17).bind fun t163 => ((castellanref8_Same.f κ a0_0 a0_1 a0_2 a0_3 a0_4 a0_5 a0_6 a0_7 a0_8 l0_9 l0_10 a0_11 a0_12 a0_13 a0_14 a0_15 a0_16 a0_17 a1_0 a1_1 a1_2 a1_3 a1_4 a1_5 a1_6 a1_7 a1_8 l1_9 l1_10 a1_11 a1_12 a1_13 a1_14 a1_15 a1_16 a1_17).bind fun t164 => (if (t163 == t164) = true then ((pack_Same.f κ a0_0 a0_1 a0_2 a0_3 a0_4 a0_5 a0_6 a0_7 a0_8 l0_9 l0_10 a0_11 a0_12 a0_13 a0_14 a0_15 a0_16 a0_17 a0_0 a0_1 a0_2 a0_3 a0_4 a0_5 a0_6 a0_7 a0_8 l0_9 l0_10 a0_11 a0_12 a0_13 a0_14 a0_15 a0_16 a0_17).bind fun t165 => (if t165 = true then ((castellanlaw8_known.f).bind fun t166 => (some t166)) else (some false))) else (some false)))) else (some false))) = some r := H
              have A32 := Aside0.mk A320
              clear A320
              replace H := Option.bind_eq_some_iff.mp H
              obtain ⟨t162, A330, H⟩ := H
              replace H : (if t161 = t162 then ((pack_Same.f κ a0_0 a0_1 a0_2 a0_3 a0_4 a0_5 a0_6 a0_7 a0_8 l0_9 l0_10 a0_11 a0_12 a0_13 a0_14 a0_15 a0_16 a0_17 a1_0 a1_1 a1_2 a1_3 a1_4 a1_5 a1_6 a1_7 a1_8 l1_9 l1_10 a1_11 a1_12 a1_13 a1_14 a1_15 a1_16 a1_17).bind fun t163 => ((castellanref8_Same.f κ a0_0 a0_1 a0_2 a0_3 a0_4 a0_5 a0_6 a0_7 a0_8 l0_9 l0_10 a0_11 a0_12 a0_13 a0_14 a0_15 a0_16 a0_17 a1_0 a1_1 a1_2 a1_3 a1_4 a1_5 a1_6 a1_7 a1_8 l1_9 l1_10 a1_11 a1_12 a1_13 a1_14 a1_15 a1_16 a1_17).bind fun t164 => (if (t163 == t164) = true then ((pack_Same.f κ a0_0 a0_1 a0_2 a0_3 a0_4 a0_5 a0_6 a0_7 a0_8 l0_9 l0_10 a0_11 a0_12 a0_13 a0_14 a0_15 a0_16 a0_17 a0_0 a0_1 a0_2 a0_3 a0_4 a0_5 a0_6 a0_7 a0_8 l0_9 l0_10 a0_11 a0_12 a0_13 a0_14 a0_15 a0_16 a0_17).bind fun t165 => (if t165 = true then ((castellanlaw8_known.f).bind fun t166 => (some t166)) else (some false))) else (some false)))) else (some false)) = some r := H
              have A33 := Aside0.mk A330
              clear A330
              by_cases c34 : t161 = t162
              · rw [if_pos c34] at H
                have c34b0 : (t161 == t162) = true := beq_iff_eq.mpr c34
                have c34b1 : (t161 != t162) = false := bne_eq_false_iff_eq.mpr c34
                clear c34
                replace H := Option.bind_eq_some_iff.mp H
                obtain ⟨t163, A350, H⟩ := H
                replace H : ((castellanref8_Same.f κ a0_0 a0_1 a0_2 a0_3 a0_4 a0_5 a0_6 a0_7 a0_8 l0_9 l0_10 a0_11 a0_12 a0_13 a0_14 a0_15 a0_16 a0_17 a1_0 a1_1 a1_2 a1_3 a1_4 a1_5 a1_6 a1_7 a1_8 l1_9 l1_10 a1_11 a1_12 a1_13 a1_14 a1_15 a1_16 a1_17).bind fun t164 => (if (t163 == t164) = true then ((pack_Same.f κ a0_0 a0_1 a0_2 a0_3 a0_4 a0_5 a0_6 a0_7 a0_8 l0_9 l0_10 a0_11 a0_12 a0_13 a0_14 a0_15 a0_16 a0_17 a0_0 a0_1 a0_2 a0_3 a0_4 a0_5 a0_6 a0_7 a0_8 l0_9 l0_10 a0_11 a0_12 a0_13 a0_14 a0_15 a0_16 a0_17).bind fun t165 => (if t165 = true then ((castellanlaw8_known.f).bind fun t166 => (some t166)) else (some false))) else (some false))) = some r := H
                have A35 := Aside0.mk A350
                clear A350
                replace H := Option.bind_eq_some_iff.mp H
                obtain ⟨t164, A360, H⟩ := H
                replace H : (if (t163 == t164) = true then ((pack_Same.f κ a0_0 a0_1 a0_2 a0_3 a0_4 a0_5 a0_6 a0_7 a0_8 l0_9 l0_10 a0_11 a0_12 a0_13 a0_14 a0_15 a0_16 a0_17 a0_0 a0_1 a0_2 a0_3 a0_4 a0_5 a0_6 a0_7 a0_8 l0_9 l0_10 a0_11 a0_12 a0_13 a0_14 a0_15 a0_16 a0_17).bind fun t165 => (if t165 = true then ((castellanlaw8_known.f).bind fun t166 => (some t166)) else (some false))) else (some false)) = some r := H
                have A36 := Aside0.mk A360
                clear A360
                by_cases c37 : (t163 == t164) = true
                · rw [if_pos c37] at H
                  have c37b0 : (t163 == t164) = true := c37
                  (try (have c37b1 : decide (t163 = t164) = true := by simpa using c37))
                  (try (have c37b2 : (t163 == t164) = true := by simpa using c37))
                  clear c37
                  replace H := Option.bind_eq_some_iff.mp H
                  obtain ⟨t165, A380, H⟩ := H
                  replace H : (if t165 = true then ((castellanlaw8_known.f).bind fun t166 => (some t166)) else (some false)) = some r := H
                  have A38 := Aside0.mk A380
                  clear A380
                  by_cases c39 : t165 = true
                  · subst c39
                    have H1 : ((castellanlaw8_known.f).bind fun t166 => (some t166)) = some r := by rw [if_pos rfl] at H; exact H
                    clear H
                    have H := H1
                    clear H1
                    replace H := Option.bind_eq_some_iff.mp H
                    obtain ⟨t166, A400, H⟩ := H
                    replace H : (some t166) = some r := H
                    have A40 := Aside0.mk A400
                    clear A400
                    obtain rfl := Option.some.inj H
                    try go_wp2
                    have n0_ := Aside0.mk (blk_drew BK126.out)
                    have n1_ := Aside0.mk (blk_drew BK127.out)
                    have n2_ := Aside0.mk (blk_drew BK128.out)
                    have n3_ := Aside0.mk (below_drew1 HB.out)
                    clear BK126
                    clear BK127
                    clear BK128
                    clear HB
                    have BK126 := n0_
                    have BK127 := n1_
                    have BK128 := n2_
                    have HB := n3_
                    clear n0_ n1_ n2_ n3_
                    refine start_ (n := 46) (S := fun w' => w'.heap[gb126]? = some (.cells #[.int .i64 a0_0, .int .i64 a0_1, .bool a0_2, .bool a0_3, .int .i64 a0_4, .int .i64 a0_5, .int .i64 a0_6, .int .u32 a0_7, .int .u32 a0_8, .slice A0_9 l0_9.length c0_9, .slice A0_10 l0_10.length c0_10, .int .i64 a0_11, .int .i64 a0_12, .int .i64 a0_13, .int .i64 a0_14, .int .i64 a0_15, .int .i64 a0_16, .pointer a0_17] 29 (0, 0)) ∧ w'.heap[gb128]? = some (.cells #[.int .i64 a2_0, .int .u32 a2_1, .int .u32 a2_2, .int .i64 a2_3, .int .i64 a2_4] 35 (0, 0)) ∧ w'.heap[gb127]? = some (.cells #[.int .i64 a1_0, .int .i64 a1_1, .bool a1_2, .bool a1_3, .int .i64 a1_4, .int .i64 a1_5, .int .i64 a1_6, .int .u32 a1_7, .int .u32 a1_8, .slice A1_9 l1_9.length c1_9, .slice A1_10 l1_10.length c1_10, .int .i64 a1_11, .int .i64 a1_12, .int .i64 a1_13, .int .i64 a1_14, .int .i64 a1_15, .int .i64 a1_16, .pointer a1_17] 29 (0, 0))) (ds := []) #[false, false, false, false, false, false, false, false, false, false, false, false, false, false, false, false, false, false, false, false, false, false, false, false, false, false, false, false, false, false, false, false, false, false, false, false, false, false, false, false, false, false, false, false, false, false] (by kernel_rfl) rfl rfl ⟨BK126.out, BK128.out, BK127.out⟩ (fun hHeld => ?_); refine with_tabW castellanlaw8_PackKeys.tab3 castellanlaw8_PackKeys.bits3 (fun HT_ HW_ => ?_)
                    generalize wc.drew = w41 at BK126 BK127 BK128 HB hHeld ⊢
                    refine take_ (i := 0) (N := some 15) (v := ?_) (a' := ?_) #[true, false, false, false, false, false, false, false, false, false, false, false, false, false, false, false, false, false, false, false, false, false, false, false, false, false, false, false, false, false, false, false, false, false, false, false, false, false, false, false, false, false, false, false, false, false] rfl rfl (take_ofW HT_.out HW_.out (by kernel_rfl)) (fun _ _ _ h => h) (Or.inl ⟨by rfl, ?_⟩) hHeld ?_ ?_
                    rotate_left
                    · rintro w' ⟨s0, s1, s2⟩
                      refine exec_load_at 29 (.tmp 3) ?ho ?hx (row_at s0 18 (l := [.int .i64 a0_0, .int .i64 a0_1, .bool a0_2, .bool a0_3, .int .i64 a0_4, .int .i64 a0_5, .int .i64 a0_6, .int .u32 a0_7, .int .u32 a0_8, .slice A0_9 l0_9.length c0_9, .slice A0_10 l0_10.length c0_10, .int .i64 a0_11, .int .i64 a0_12, .int .i64 a0_13, .int .i64 a0_14, .int .i64 a0_15, .int .i64 a0_16, .pointer a0_17]) rfl) Try.underlying29 rfl ?hi
                      case ho => rfl
                      case hx => rfl
                      case hi => kernel_rfl
                    rotate_left
                    · simp only [Act.put, List.setIfInBounds_toArray, List.set_cons_zero, List.set_cons_succ, i64_w, i32_w]
                      rfl
                    refine take_ (i := 2) (N := some 17) (v := ?_) (a' := ?_) #[true, false, true, false, false, false, false, false, false, false, false, false, false, false, false, false, false, false, false, false, false, false, false, false, false, false, false, false, false, false, false, false, false, false, false, false, false, false, false, false, false, false, false, false, false, false] rfl rfl (take_ofW HT_.out HW_.out (by kernel_rfl)) (fun _ _ _ h => h) (Or.inl ⟨by rfl, ?_⟩) hHeld ?_ ?_
                    rotate_left
                    · rintro w' ⟨s0, s1, s2⟩
                      refine exec_load_at 29 (.tmp 3) ?ho ?hx (row_at s0 18 (l := [.int .i64 a0_0, .int .i64 a0_1, .bool a0_2, .bool a0_3, .int .i64 a0_4, .int .i64 a0_5, .int .i64 a0_6, .int .u32 a0_7, .int .u32 a0_8, .slice A0_9 l0_9.length c0_9, .slice A0_10 l0_10.length c0_10, .int .i64 a0_11, .int .i64 a0_12, .int .i64 a0_13, .int .i64 a0_14, .int .i64 a0_15, .int .i64 a0_16, .pointer a0_17]) rfl) Try.underlying29 rfl ?hi
                      case ho => rfl
                      case hx => rfl
                      case hi => kernel_rfl
                    rotate_left
                    · simp only [Act.put, List.setIfInBounds_toArray, List.set_cons_zero, List.set_cons_succ, i64_w, i32_w]
                      rfl
                    refine one_ (i := 1) (N := some 16) #[true, true, true, false, false, false, false, false, false, false, false, false, false, false, false, false, false, false, false, false, false, false, false, false, false, false, false, false, false, false, false, false, false, false, false, false, false, false, false, false, false, false, false, false, false, false] rfl rfl (one_of HT_.out (by kernel_rfl)) (by decide) (fun K hK => ?_)
                    refine goes_ Try.func16 (by kernel_rfl) rfl #[.agg #[.int .i64 a0_0, .int .i64 a0_1, .bool a0_2, .bool a0_3, .int .i64 a0_4, .int .i64 a0_5, .int .i64 a0_6, .int .u32 a0_7, .int .u32 a0_8, .slice A0_9 l0_9.length c0_9, .slice A0_10 l0_10.length c0_10, .int .i64 a0_11, .int .i64 a0_12, .int .i64 a0_13, .int .i64 a0_14, .int .i64 a0_15, .int .i64 a0_16, .pointer a0_17]] (by rfl) rfl rfl (by (try simp only [List.map_toArray, List.map_cons, List.map_nil]); first | done | rfl | (simp only [List.length_drop, List.length_take]; rfl)) ?_
                    with_reducible refine (pack_KeyOf.calls a0_0 a0_1 a0_2 a0_3 a0_4 a0_5 a0_6 a0_7 a0_8 _ _ l0_9 _ _ l0_10 a0_11 a0_12 a0_13 a0_14 a0_15 a0_16 a0_17 t131 t132 t133 t134 t135 _ ?side1 ?side2 ?side3 ?side4 A23.out).mono ?_
                    (case side1 => repeat (first | exact (Kd.C_below HR0_9.out HB.out) | (with_reducible refine Kd.C_alloc ?_ _) | (with_reducible refine Kd.C_drewN ?_ _) | (with_reducible refine Kd.C_drew ?_)))
                    (case side2 => exact HC0_9.out)
                    (case side3 => repeat (first | exact (Kd.C_below HR0_10.out HB.out) | (with_reducible refine Kd.C_alloc ?_ _) | (with_reducible refine Kd.C_drewN ?_ _) | (with_reducible refine Kd.C_drew ?_)))
                    (case side4 => exact HC0_10.out)
                    rintro e w42 ⟨rfl, hb⟩
                    refine ⟨_, rfl, ?_⟩
                    have n0_ := Aside0.mk (blk_below (g := gb126) (o := .cells #[.int .i64 a0_0, .int .i64 a0_1, .bool a0_2, .bool a0_3, .int .i64 a0_4, .int .i64 a0_5, .int .i64 a0_6, .int .u32 a0_7, .int .u32 a0_8, .slice A0_9 l0_9.length c0_9, .slice A0_10 l0_10.length c0_10, .int .i64 a0_11, .int .i64 a0_12, .int .i64 a0_13, .int .i64 a0_14, .int .i64 a0_15, .int .i64 a0_16, .pointer a0_17] 29 (0, 0)) (by (with_reducible repeat (first | refine blk_drewN ?_ _ | refine blk_drew ?_ | refine blk_alloc ?_ _)); exact BK126.out) hb)
                    have n1_ := Aside0.mk (blk_below (g := gb127) (o := .cells #[.int .i64 a1_0, .int .i64 a1_1, .bool a1_2, .bool a1_3, .int .i64 a1_4, .int .i64 a1_5, .int .i64 a1_6, .int .u32 a1_7, .int .u32 a1_8, .slice A1_9 l1_9.length c1_9, .slice A1_10 l1_10.length c1_10, .int .i64 a1_11, .int .i64 a1_12, .int .i64 a1_13, .int .i64 a1_14, .int .i64 a1_15, .int .i64 a1_16, .pointer a1_17] 29 (0, 0)) (by (with_reducible repeat (first | refine blk_drewN ?_ _ | refine blk_drew ?_ | refine blk_alloc ?_ _)); exact BK127.out) hb)
                    have n2_ := Aside0.mk (blk_below (g := gb128) (o := .cells #[.int .i64 a2_0, .int .u32 a2_1, .int .u32 a2_2, .int .i64 a2_3, .int .i64 a2_4] 35 (0, 0)) (by (with_reducible repeat (first | refine blk_drewN ?_ _ | refine blk_drew ?_ | refine blk_alloc ?_ _)); exact BK128.out) hb)
                    have n3_ := Aside0.mk (below_step (by repeat (first | (with_reducible first | exact HB.out | apply below_alloc | apply pw_below_drewN | apply below_drew1 | refine below_set ?_ GE126.out | refine below_set ?_ GE127.out | refine below_set ?_ GE128.out) | exact HB.out)) hb)
                    clear BK126
                    clear BK127
                    clear BK128
                    clear HB
                    have BK126 := n0_
                    have BK127 := n1_
                    have BK128 := n2_
                    have HB := n3_
                    clear n0_ n1_ n2_ n3_
                    (try clear hb)
                    (try clear hb2)
                    (try clear hk)
                    (try clear hi)
                    refine hK.out _ _ ⟨BK126.out, BK128.out, BK127.out⟩ (fun hHeld => ?_)
                    clear hK K
                    refine norm_ (a' := ?_) ?_ ?_
                    rotate_left
                    · show Act.put _ (some 16) _ = _
                      simp only [Act.put, List.setIfInBounds_toArray, List.set_cons_zero, List.set_cons_succ, i64_w, i32_w]
                      rfl
                    refine one_ (i := 3) (N := some 18) #[true, true, true, true, false, false, false, false, false, false, false, false, false, false, false, false, false, false, false, false, false, false, false, false, false, false, false, false, false, false, false, false, false, false, false, false, false, false, false, false, false, false, false, false, false, false] rfl rfl (one_of HT_.out (by kernel_rfl)) (by decide) (fun K hK => ?_)
                    refine goes_ Try.func17 (by kernel_rfl) rfl #[.agg #[.int .i64 a0_0, .int .i64 a0_1, .bool a0_2, .bool a0_3, .int .i64 a0_4, .int .i64 a0_5, .int .i64 a0_6, .int .u32 a0_7, .int .u32 a0_8, .slice A0_9 l0_9.length c0_9, .slice A0_10 l0_10.length c0_10, .int .i64 a0_11, .int .i64 a0_12, .int .i64 a0_13, .int .i64 a0_14, .int .i64 a0_15, .int .i64 a0_16, .pointer a0_17]] (by rfl) rfl rfl (by (try simp only [List.map_toArray, List.map_cons, List.map_nil]); first | done | rfl | (simp only [List.length_drop, List.length_take]; rfl)) ?_
                    with_reducible refine (castellanref8_KeyOf.calls a0_0 a0_1 a0_2 a0_3 a0_4 a0_5 a0_6 a0_7 a0_8 _ _ l0_9 _ _ l0_10 a0_11 a0_12 a0_13 a0_14 a0_15 a0_16 a0_17 t136 t137 t138 t139 t140 _ ?side1 ?side2 ?side3 ?side4 A24.out).mono ?_
                    (case side1 => repeat (first | exact (Kd.C_below HR0_9.out HB.out) | (with_reducible refine Kd.C_alloc ?_ _) | (with_reducible refine Kd.C_drewN ?_ _) | (with_reducible refine Kd.C_drew ?_)))
                    (case side2 => exact HC0_9.out)
                    (case side3 => repeat (first | exact (Kd.C_below HR0_10.out HB.out) | (with_reducible refine Kd.C_alloc ?_ _) | (with_reducible refine Kd.C_drewN ?_ _) | (with_reducible refine Kd.C_drew ?_)))
                    (case side4 => exact HC0_10.out)
                    rintro e w43 ⟨rfl, hb⟩
                    refine ⟨_, rfl, ?_⟩
                    have n0_ := Aside0.mk (blk_below (g := gb126) (o := .cells #[.int .i64 a0_0, .int .i64 a0_1, .bool a0_2, .bool a0_3, .int .i64 a0_4, .int .i64 a0_5, .int .i64 a0_6, .int .u32 a0_7, .int .u32 a0_8, .slice A0_9 l0_9.length c0_9, .slice A0_10 l0_10.length c0_10, .int .i64 a0_11, .int .i64 a0_12, .int .i64 a0_13, .int .i64 a0_14, .int .i64 a0_15, .int .i64 a0_16, .pointer a0_17] 29 (0, 0)) (by (with_reducible repeat (first | refine blk_drewN ?_ _ | refine blk_drew ?_ | refine blk_alloc ?_ _)); exact BK126.out) hb)
                    have n1_ := Aside0.mk (blk_below (g := gb127) (o := .cells #[.int .i64 a1_0, .int .i64 a1_1, .bool a1_2, .bool a1_3, .int .i64 a1_4, .int .i64 a1_5, .int .i64 a1_6, .int .u32 a1_7, .int .u32 a1_8, .slice A1_9 l1_9.length c1_9, .slice A1_10 l1_10.length c1_10, .int .i64 a1_11, .int .i64 a1_12, .int .i64 a1_13, .int .i64 a1_14, .int .i64 a1_15, .int .i64 a1_16, .pointer a1_17] 29 (0, 0)) (by (with_reducible repeat (first | refine blk_drewN ?_ _ | refine blk_drew ?_ | refine blk_alloc ?_ _)); exact BK127.out) hb)
                    have n2_ := Aside0.mk (blk_below (g := gb128) (o := .cells #[.int .i64 a2_0, .int .u32 a2_1, .int .u32 a2_2, .int .i64 a2_3, .int .i64 a2_4] 35 (0, 0)) (by (with_reducible repeat (first | refine blk_drewN ?_ _ | refine blk_drew ?_ | refine blk_alloc ?_ _)); exact BK128.out) hb)
                    have n3_ := Aside0.mk (below_step (by repeat (first | (with_reducible first | exact HB.out | apply below_alloc | apply pw_below_drewN | apply below_drew1 | refine below_set ?_ GE126.out | refine below_set ?_ GE127.out | refine below_set ?_ GE128.out) | exact HB.out)) hb)
                    clear BK126
                    clear BK127
                    clear BK128
                    clear HB
                    have BK126 := n0_
                    have BK127 := n1_
                    have BK128 := n2_
                    have HB := n3_
                    clear n0_ n1_ n2_ n3_
                    (try clear hb)
                    (try clear hb2)
                    (try clear hk)
                    (try clear hi)
                    refine hK.out _ _ ⟨BK126.out, BK128.out, BK127.out⟩ (fun hHeld => ?_)
                    clear hK K
                    refine norm_ (a' := ?_) ?_ ?_
                    rotate_left
                    · show Act.put _ (some 18) _ = _
                      simp only [Act.put, List.setIfInBounds_toArray, List.set_cons_zero, List.set_cons_succ, i64_w, i32_w]
                      rfl
                    refine pure_ (i := 4) (N := some 19) (v := ?_) (a' := ?_) #[true, true, true, true, true, false, false, false, false, false, false, false, false, false, false, false, false, false, false, false, false, false, false, false, false, false, false, false, false, false, false, false, false, false, false, false, false, false, false, false, false, false, false, false, false, false] rfl rfl (any_of HT_.out (by kernel_rfl)) (fun _ _ _ h => h) (Or.inl ⟨by rfl, ?_⟩) ?_ ?_
                    rotate_left
                    · intro w'
                      go_simp
                      with_reducible rfl
                    rotate_left
                    · simp only [Act.put, List.setIfInBounds_toArray, List.set_cons_zero, List.set_cons_succ, i64_w, i32_w]
                      rfl
                    refine pure_ (i := 5) (N := some 20) (v := ?_) (a' := ?_) #[true, true, true, true, true, true, false, false, false, false, false, false, false, false, false, false, false, false, false, false, false, false, false, false, false, false, false, false, false, false, false, false, false, false, false, false, false, false, false, false, false, false, false, false, false, false] rfl rfl (any_of HT_.out (by kernel_rfl)) (fun _ _ _ h => h) (Or.inl ⟨by rfl, ?_⟩) ?_ ?_
                    rotate_left
                    · intro w'
                      go_simp
                      with_reducible rfl
                    rotate_left
                    · simp only [Act.put, List.setIfInBounds_toArray, List.set_cons_zero, List.set_cons_succ, i64_w, i32_w]
                      rfl
                    refine take_ (i := 6) (N := some 21) (v := ?_) (a' := ?_) #[true, true, true, true, true, true, true, false, false, false, false, false, false, false, false, false, false, false, false, false, false, false, false, false, false, false, false, false, false, false, false, false, false, false, false, false, false, false, false, false, false, false, false, false, false, false] rfl rfl (take_ofW HT_.out HW_.out (by kernel_rfl)) (fun _ _ _ h => h) (Or.inl ⟨by rfl, ?_⟩) hHeld ?_ ?_
                    rotate_left
                    · rintro w' ⟨s0, s1, s2⟩
                      refine exec_load_at 35 (.tmp 5) ?ho ?hx (row_at s1 5 (l := [.int .i64 a2_0, .int .u32 a2_1, .int .u32 a2_2, .int .i64 a2_3, .int .i64 a2_4]) rfl) Try.underlying35 rfl ?hi
                      case ho => rfl
                      case hx => rfl
                      case hi => kernel_rfl
                    rotate_left
                    · simp only [Act.put, List.setIfInBounds_toArray, List.set_cons_zero, List.set_cons_succ, i64_w, i32_w]
                      rfl
                    refine take_ (i := 8) (N := some 23) (v := ?_) (a' := ?_) #[true, true, true, true, true, true, true, false, true, false, false, false, false, false, false, false, false, false, false, false, false, false, false, false, false, false, false, false, false, false, false, false, false, false, false, false, false, false, false, false, false, false, false, false, false, false] rfl rfl (take_ofW HT_.out HW_.out (by kernel_rfl)) (fun _ _ _ h => h) (Or.inl ⟨by rfl, ?_⟩) hHeld ?_ ?_
                    rotate_left
                    · rintro w' ⟨s0, s1, s2⟩
                      refine exec_load_at 35 (.tmp 5) ?ho ?hx (row_at s1 5 (l := [.int .i64 a2_0, .int .u32 a2_1, .int .u32 a2_2, .int .i64 a2_3, .int .i64 a2_4]) rfl) Try.underlying35 rfl ?hi
                      case ho => rfl
                      case hx => rfl
                      case hi => kernel_rfl
                    rotate_left
                    · simp only [Act.put, List.setIfInBounds_toArray, List.set_cons_zero, List.set_cons_succ, i64_w, i32_w]
                      rfl
                    refine one_ (i := 7) (N := some 22) #[true, true, true, true, true, true, true, true, true, false, false, false, false, false, false, false, false, false, false, false, false, false, false, false, false, false, false, false, false, false, false, false, false, false, false, false, false, false, false, false, false, false, false, false, false, false] rfl rfl (one_of HT_.out (by kernel_rfl)) (by decide) (fun K hK => ?_)
                    refine goes_ Try.func18 (by kernel_rfl) rfl #[.agg #[.int .i64 a2_0, .int .u32 a2_1, .int .u32 a2_2, .int .i64 a2_3, .int .i64 a2_4]] (by rfl) rfl rfl (by (try simp only [List.map_toArray, List.map_cons, List.map_nil]); first | done | rfl | (simp only [List.length_drop, List.length_take]; rfl)) ?_
                    with_reducible refine (pack_Turn.calls a2_0 a2_1 a2_2 a2_3 a2_4 t141 t142 t143 t144 t145 _ A26.out).mono ?_
                    rintro e w44 ⟨rfl, hb⟩
                    refine ⟨_, rfl, ?_⟩
                    have n0_ := Aside0.mk (blk_below (g := gb126) (o := .cells #[.int .i64 a0_0, .int .i64 a0_1, .bool a0_2, .bool a0_3, .int .i64 a0_4, .int .i64 a0_5, .int .i64 a0_6, .int .u32 a0_7, .int .u32 a0_8, .slice A0_9 l0_9.length c0_9, .slice A0_10 l0_10.length c0_10, .int .i64 a0_11, .int .i64 a0_12, .int .i64 a0_13, .int .i64 a0_14, .int .i64 a0_15, .int .i64 a0_16, .pointer a0_17] 29 (0, 0)) (by (with_reducible repeat (first | refine blk_drewN ?_ _ | refine blk_drew ?_ | refine blk_alloc ?_ _)); exact BK126.out) hb)
                    have n1_ := Aside0.mk (blk_below (g := gb127) (o := .cells #[.int .i64 a1_0, .int .i64 a1_1, .bool a1_2, .bool a1_3, .int .i64 a1_4, .int .i64 a1_5, .int .i64 a1_6, .int .u32 a1_7, .int .u32 a1_8, .slice A1_9 l1_9.length c1_9, .slice A1_10 l1_10.length c1_10, .int .i64 a1_11, .int .i64 a1_12, .int .i64 a1_13, .int .i64 a1_14, .int .i64 a1_15, .int .i64 a1_16, .pointer a1_17] 29 (0, 0)) (by (with_reducible repeat (first | refine blk_drewN ?_ _ | refine blk_drew ?_ | refine blk_alloc ?_ _)); exact BK127.out) hb)
                    have n2_ := Aside0.mk (blk_below (g := gb128) (o := .cells #[.int .i64 a2_0, .int .u32 a2_1, .int .u32 a2_2, .int .i64 a2_3, .int .i64 a2_4] 35 (0, 0)) (by (with_reducible repeat (first | refine blk_drewN ?_ _ | refine blk_drew ?_ | refine blk_alloc ?_ _)); exact BK128.out) hb)
                    have n3_ := Aside0.mk (below_step (by repeat (first | (with_reducible first | exact HB.out | apply below_alloc | apply pw_below_drewN | apply below_drew1 | refine below_set ?_ GE126.out | refine below_set ?_ GE127.out | refine below_set ?_ GE128.out) | exact HB.out)) hb)
                    clear BK126
                    clear BK127
                    clear BK128
                    clear HB
                    have BK126 := n0_
                    have BK127 := n1_
                    have BK128 := n2_
                    have HB := n3_
                    clear n0_ n1_ n2_ n3_
                    (try clear hb)
                    (try clear hb2)
                    (try clear hk)
                    (try clear hi)
                    refine hK.out _ _ ⟨BK126.out, BK128.out, BK127.out⟩ (fun hHeld => ?_)
                    clear hK K
                    refine norm_ (a' := ?_) ?_ ?_
                    rotate_left
                    · show Act.put _ (some 22) _ = _
                      simp only [Act.put, List.setIfInBounds_toArray, List.set_cons_zero, List.set_cons_succ, i64_w, i32_w]
                      rfl
                    refine one_ (i := 9) (N := some 24) #[true, true, true, true, true, true, true, true, true, true, false, false, false, false, false, false, false, false, false, false, false, false, false, false, false, false, false, false, false, false, false, false, false, false, false, false, false, false, false, false, false, false, false, false, false, false] rfl rfl (one_of HT_.out (by kernel_rfl)) (by decide) (fun K hK => ?_)
                    refine goes_ Try.func19 (by kernel_rfl) rfl #[.agg #[.int .i64 a2_0, .int .u32 a2_1, .int .u32 a2_2, .int .i64 a2_3, .int .i64 a2_4]] (by rfl) rfl rfl (by (try simp only [List.map_toArray, List.map_cons, List.map_nil]); first | done | rfl | (simp only [List.length_drop, List.length_take]; rfl)) ?_
                    with_reducible refine (castellanref8_Turn.calls a2_0 a2_1 a2_2 a2_3 a2_4 t146 t147 t148 t149 t150 _ A27.out).mono ?_
                    rintro e w45 ⟨rfl, hb⟩
                    refine ⟨_, rfl, ?_⟩
                    have n0_ := Aside0.mk (blk_below (g := gb126) (o := .cells #[.int .i64 a0_0, .int .i64 a0_1, .bool a0_2, .bool a0_3, .int .i64 a0_4, .int .i64 a0_5, .int .i64 a0_6, .int .u32 a0_7, .int .u32 a0_8, .slice A0_9 l0_9.length c0_9, .slice A0_10 l0_10.length c0_10, .int .i64 a0_11, .int .i64 a0_12, .int .i64 a0_13, .int .i64 a0_14, .int .i64 a0_15, .int .i64 a0_16, .pointer a0_17] 29 (0, 0)) (by (with_reducible repeat (first | refine blk_drewN ?_ _ | refine blk_drew ?_ | refine blk_alloc ?_ _)); exact BK126.out) hb)
                    have n1_ := Aside0.mk (blk_below (g := gb127) (o := .cells #[.int .i64 a1_0, .int .i64 a1_1, .bool a1_2, .bool a1_3, .int .i64 a1_4, .int .i64 a1_5, .int .i64 a1_6, .int .u32 a1_7, .int .u32 a1_8, .slice A1_9 l1_9.length c1_9, .slice A1_10 l1_10.length c1_10, .int .i64 a1_11, .int .i64 a1_12, .int .i64 a1_13, .int .i64 a1_14, .int .i64 a1_15, .int .i64 a1_16, .pointer a1_17] 29 (0, 0)) (by (with_reducible repeat (first | refine blk_drewN ?_ _ | refine blk_drew ?_ | refine blk_alloc ?_ _)); exact BK127.out) hb)
                    have n2_ := Aside0.mk (blk_below (g := gb128) (o := .cells #[.int .i64 a2_0, .int .u32 a2_1, .int .u32 a2_2, .int .i64 a2_3, .int .i64 a2_4] 35 (0, 0)) (by (with_reducible repeat (first | refine blk_drewN ?_ _ | refine blk_drew ?_ | refine blk_alloc ?_ _)); exact BK128.out) hb)
                    have n3_ := Aside0.mk (below_step (by repeat (first | (with_reducible first | exact HB.out | apply below_alloc | apply pw_below_drewN | apply below_drew1 | refine below_set ?_ GE126.out | refine below_set ?_ GE127.out | refine below_set ?_ GE128.out) | exact HB.out)) hb)
                    clear BK126
                    clear BK127
                    clear BK128
                    clear HB
                    have BK126 := n0_
                    have BK127 := n1_
                    have BK128 := n2_
                    have HB := n3_
                    clear n0_ n1_ n2_ n3_
                    (try clear hb)
                    (try clear hb2)
                    (try clear hk)
                    (try clear hi)
                    refine hK.out _ _ ⟨BK126.out, BK128.out, BK127.out⟩ (fun hHeld => ?_)
                    clear hK K
                    refine norm_ (a' := ?_) ?_ ?_
                    rotate_left
                    · show Act.put _ (some 24) _ = _
                      simp only [Act.put, List.setIfInBounds_toArray, List.set_cons_zero, List.set_cons_succ, i64_w, i32_w]
                      rfl
                    refine pure_ (i := 10) (N := some 25) (v := ?_) (a' := ?_) #[true, true, true, true, true, true, true, true, true, true, true, false, false, false, false, false, false, false, false, false, false, false, false, false, false, false, false, false, false, false, false, false, false, false, false, false, false, false, false, false, false, false, false, false, false, false] rfl rfl (any_of HT_.out (by kernel_rfl)) (fun _ _ _ h => h) (Or.inl ⟨by rfl, ?_⟩) ?_ ?_
                    rotate_left
                    · intro w'
                      go_simp
                      with_reducible rfl
                    rotate_left
                    · simp only [Act.put, List.setIfInBounds_toArray, List.set_cons_zero, List.set_cons_succ, i64_w, i32_w]
                      rfl
                    refine pure_ (i := 11) (N := some 26) (v := ?_) (a' := ?_) #[true, true, true, true, true, true, true, true, true, true, true, true, false, false, false, false, false, false, false, false, false, false, false, false, false, false, false, false, false, false, false, false, false, false, false, false, false, false, false, false, false, false, false, false, false, false] rfl rfl (any_of HT_.out (by kernel_rfl)) (fun _ _ _ h => h) (Or.inl ⟨by rfl, ?_⟩) ?_ ?_
                    rotate_left
                    · intro w'
                      go_simp
                      with_reducible rfl
                    rotate_left
                    · simp only [Act.put, List.setIfInBounds_toArray, List.set_cons_zero, List.set_cons_succ, i64_w, i32_w]
                      rfl
                    refine pure_ (i := 12) (N := some 27) (v := ?_) (a' := ?_) #[true, true, true, true, true, true, true, true, true, true, true, true, true, false, false, false, false, false, false, false, false, false, false, false, false, false, false, false, false, false, false, false, false, false, false, false, false, false, false, false, false, false, false, false, false, false] rfl rfl (any_of HT_.out (by kernel_rfl)) (fun _ _ _ h => h) (Or.inl ⟨by rfl, ?_⟩) ?_ ?_
                    rotate_left
                    · intro w'
                      go_simp
                      with_reducible rfl
                    rotate_left
                    · simp only [Act.put, List.setIfInBounds_toArray, List.set_cons_zero, List.set_cons_succ, i64_w, i32_w]
                      rfl
                    refine take_ (i := 13) (N := some 28) (v := ?_) (a' := ?_) #[true, true, true, true, true, true, true, true, true, true, true, true, true, true, false, false, false, false, false, false, false, false, false, false, false, false, false, false, false, false, false, false, false, false, false, false, false, false, false, false, false, false, false, false, false, false] rfl rfl (take_ofW HT_.out HW_.out (by kernel_rfl)) (fun _ _ _ h => h) (Or.inl ⟨by rfl, ?_⟩) hHeld ?_ ?_
                    rotate_left
                    · rintro w' ⟨s0, s1, s2⟩
                      refine exec_load_at 35 (.tmp 5) ?ho ?hx (row_at s1 5 (l := [.int .i64 a2_0, .int .u32 a2_1, .int .u32 a2_2, .int .i64 a2_3, .int .i64 a2_4]) rfl) Try.underlying35 rfl ?hi
                      case ho => rfl
                      case hx => rfl
                      case hi => kernel_rfl
                    rotate_left
                    · simp only [Act.put, List.setIfInBounds_toArray, List.set_cons_zero, List.set_cons_succ, i64_w, i32_w]
                      rfl
                    refine take_ (i := 16) (N := some 31) (v := ?_) (a' := ?_) #[true, true, true, true, true, true, true, true, true, true, true, true, true, true, false, false, true, false, false, false, false, false, false, false, false, false, false, false, false, false, false, false, false, false, false, false, false, false, false, false, false, false, false, false, false, false] rfl rfl (take_ofW HT_.out HW_.out (by kernel_rfl)) (fun _ _ _ h => h) (Or.inl ⟨by rfl, ?_⟩) hHeld ?_ ?_
                    rotate_left
                    · rintro w' ⟨s0, s1, s2⟩
                      refine exec_load_at 35 (.tmp 5) ?ho ?hx (row_at s1 5 (l := [.int .i64 a2_0, .int .u32 a2_1, .int .u32 a2_2, .int .i64 a2_3, .int .i64 a2_4]) rfl) Try.underlying35 rfl ?hi
                      case ho => rfl
                      case hx => rfl
                      case hi => kernel_rfl
                    rotate_left
                    · simp only [Act.put, List.setIfInBounds_toArray, List.set_cons_zero, List.set_cons_succ, i64_w, i32_w]
                      rfl
                    refine one_ (i := 14) (N := some 29) #[true, true, true, true, true, true, true, true, true, true, true, true, true, true, true, false, true, false, false, false, false, false, false, false, false, false, false, false, false, false, false, false, false, false, false, false, false, false, false, false, false, false, false, false, false, false] rfl rfl (one_of HT_.out (by kernel_rfl)) (by decide) (fun K hK => ?_)
                    refine goes_ Try.func18 (by kernel_rfl) rfl #[.agg #[.int .i64 a2_0, .int .u32 a2_1, .int .u32 a2_2, .int .i64 a2_3, .int .i64 a2_4]] (by rfl) rfl rfl (by (try simp only [List.map_toArray, List.map_cons, List.map_nil]); first | done | rfl | (simp only [List.length_drop, List.length_take]; rfl)) ?_
                    with_reducible refine (pack_Turn.calls a2_0 a2_1 a2_2 a2_3 a2_4 t151 t152 t153 t154 t155 _ A29.out).mono ?_
                    rintro e w46 ⟨rfl, hb⟩
                    refine ⟨_, rfl, ?_⟩
                    have n0_ := Aside0.mk (blk_below (g := gb126) (o := .cells #[.int .i64 a0_0, .int .i64 a0_1, .bool a0_2, .bool a0_3, .int .i64 a0_4, .int .i64 a0_5, .int .i64 a0_6, .int .u32 a0_7, .int .u32 a0_8, .slice A0_9 l0_9.length c0_9, .slice A0_10 l0_10.length c0_10, .int .i64 a0_11, .int .i64 a0_12, .int .i64 a0_13, .int .i64 a0_14, .int .i64 a0_15, .int .i64 a0_16, .pointer a0_17] 29 (0, 0)) (by (with_reducible repeat (first | refine blk_drewN ?_ _ | refine blk_drew ?_ | refine blk_alloc ?_ _)); exact BK126.out) hb)
                    have n1_ := Aside0.mk (blk_below (g := gb127) (o := .cells #[.int .i64 a1_0, .int .i64 a1_1, .bool a1_2, .bool a1_3, .int .i64 a1_4, .int .i64 a1_5, .int .i64 a1_6, .int .u32 a1_7, .int .u32 a1_8, .slice A1_9 l1_9.length c1_9, .slice A1_10 l1_10.length c1_10, .int .i64 a1_11, .int .i64 a1_12, .int .i64 a1_13, .int .i64 a1_14, .int .i64 a1_15, .int .i64 a1_16, .pointer a1_17] 29 (0, 0)) (by (with_reducible repeat (first | refine blk_drewN ?_ _ | refine blk_drew ?_ | refine blk_alloc ?_ _)); exact BK127.out) hb)
                    have n2_ := Aside0.mk (blk_below (g := gb128) (o := .cells #[.int .i64 a2_0, .int .u32 a2_1, .int .u32 a2_2, .int .i64 a2_3, .int .i64 a2_4] 35 (0, 0)) (by (with_reducible repeat (first | refine blk_drewN ?_ _ | refine blk_drew ?_ | refine blk_alloc ?_ _)); exact BK128.out) hb)
                    have n3_ := Aside0.mk (below_step (by repeat (first | (with_reducible first | exact HB.out | apply below_alloc | apply pw_below_drewN | apply below_drew1 | refine below_set ?_ GE126.out | refine below_set ?_ GE127.out | refine below_set ?_ GE128.out) | exact HB.out)) hb)
                    clear BK126
                    clear BK127
                    clear BK128
                    clear HB
                    have BK126 := n0_
                    have BK127 := n1_
                    have BK128 := n2_
                    have HB := n3_
                    clear n0_ n1_ n2_ n3_
                    (try clear hb)
                    (try clear hb2)
                    (try clear hk)
                    (try clear hi)
                    refine hK.out _ _ ⟨BK126.out, BK128.out, BK127.out⟩ (fun hHeld => ?_)
                    clear hK K
                    refine norm_ (a' := ?_) ?_ ?_
                    rotate_left
                    · show Act.put _ (some 29) _ = _
                      simp only [Act.put, List.setIfInBounds_toArray, List.set_cons_zero, List.set_cons_succ, i64_w, i32_w]
                      rfl
                    refine one_ (i := 15) (N := some 30) #[true, true, true, true, true, true, true, true, true, true, true, true, true, true, true, true, true, false, false, false, false, false, false, false, false, false, false, false, false, false, false, false, false, false, false, false, false, false, false, false, false, false, false, false, false, false] rfl rfl (one_of HT_.out (by kernel_rfl)) (by decide) (fun K hK => ?_)
                    refine goes_ Try.func18 (by kernel_rfl) rfl #[.agg #[.int .i64 t151, .int .u32 t152, .int .u32 t153, .int .i64 t154, .int .i64 t155]] (by rfl) rfl rfl (by (try simp only [List.map_toArray, List.map_cons, List.map_nil]); first | done | rfl | (simp only [List.length_drop, List.length_take]; rfl)) ?_
                    with_reducible refine (pack_Turn.calls t151 t152 t153 t154 t155 t156 t157 t158 t159 t160 _ A30.out).mono ?_
                    rintro e w47 ⟨rfl, hb⟩
                    refine ⟨_, rfl, ?_⟩
                    have n0_ := Aside0.mk (blk_below (g := gb126) (o := .cells #[.int .i64 a0_0, .int .i64 a0_1, .bool a0_2, .bool a0_3, .int .i64 a0_4, .int .i64 a0_5, .int .i64 a0_6, .int .u32 a0_7, .int .u32 a0_8, .slice A0_9 l0_9.length c0_9, .slice A0_10 l0_10.length c0_10, .int .i64 a0_11, .int .i64 a0_12, .int .i64 a0_13, .int .i64 a0_14, .int .i64 a0_15, .int .i64 a0_16, .pointer a0_17] 29 (0, 0)) (by (with_reducible repeat (first | refine blk_drewN ?_ _ | refine blk_drew ?_ | refine blk_alloc ?_ _)); exact BK126.out) hb)
                    have n1_ := Aside0.mk (blk_below (g := gb127) (o := .cells #[.int .i64 a1_0, .int .i64 a1_1, .bool a1_2, .bool a1_3, .int .i64 a1_4, .int .i64 a1_5, .int .i64 a1_6, .int .u32 a1_7, .int .u32 a1_8, .slice A1_9 l1_9.length c1_9, .slice A1_10 l1_10.length c1_10, .int .i64 a1_11, .int .i64 a1_12, .int .i64 a1_13, .int .i64 a1_14, .int .i64 a1_15, .int .i64 a1_16, .pointer a1_17] 29 (0, 0)) (by (with_reducible repeat (first | refine blk_drewN ?_ _ | refine blk_drew ?_ | refine blk_alloc ?_ _)); exact BK127.out) hb)
                    have n2_ := Aside0.mk (blk_below (g := gb128) (o := .cells #[.int .i64 a2_0, .int .u32 a2_1, .int .u32 a2_2, .int .i64 a2_3, .int .i64 a2_4] 35 (0, 0)) (by (with_reducible repeat (first | refine blk_drewN ?_ _ | refine blk_drew ?_ | refine blk_alloc ?_ _)); exact BK128.out) hb)
                    have n3_ := Aside0.mk (below_step (by repeat (first | (with_reducible first | exact HB.out | apply below_alloc | apply pw_below_drewN | apply below_drew1 | refine below_set ?_ GE126.out | refine below_set ?_ GE127.out | refine below_set ?_ GE128.out) | exact HB.out)) hb)
                    clear BK126
                    clear BK127
                    clear BK128
                    clear HB
                    have BK126 := n0_
                    have BK127 := n1_
                    have BK128 := n2_
                    have HB := n3_
                    clear n0_ n1_ n2_ n3_
                    (try clear hb)
                    (try clear hb2)
                    (try clear hk)
                    (try clear hi)
                    refine hK.out _ _ ⟨BK126.out, BK128.out, BK127.out⟩ (fun hHeld => ?_)
                    clear hK K
                    refine norm_ (a' := ?_) ?_ ?_
                    rotate_left
                    · show Act.put _ (some 30) _ = _
                      simp only [Act.put, List.setIfInBounds_toArray, List.set_cons_zero, List.set_cons_succ, i64_w, i32_w]
                      rfl
                    refine pure_ (i := 17) (N := some 32) (v := ?_) (a' := ?_) #[true, true, true, true, true, true, true, true, true, true, true, true, true, true, true, true, true, true, false, false, false, false, false, false, false, false, false, false, false, false, false, false, false, false, false, false, false, false, false, false, false, false, false, false, false, false] rfl rfl (any_of HT_.out (by kernel_rfl)) (fun _ _ _ h => h) (Or.inl ⟨by rfl, ?_⟩) ?_ ?_
                    rotate_left
                    · intro w'
                      go_simp
                      with_reducible rfl
                    rotate_left
                    · simp only [Act.put, List.setIfInBounds_toArray, List.set_cons_zero, List.set_cons_succ, i64_w, i32_w]
                      rfl
                    refine pure_ (i := 18) (N := some 33) (v := ?_) (a' := ?_) #[true, true, true, true, true, true, true, true, true, true, true, true, true, true, true, true, true, true, true, false, false, false, false, false, false, false, false, false, false, false, false, false, false, false, false, false, false, false, false, false, false, false, false, false, false, false] rfl rfl (any_of HT_.out (by kernel_rfl)) (fun _ _ _ h => h) (Or.inl ⟨by rfl, ?_⟩) ?_ ?_
                    rotate_left
                    · intro w'
                      go_simp
                      with_reducible rfl
                    rotate_left
                    · simp only [Act.put, List.setIfInBounds_toArray, List.set_cons_zero, List.set_cons_succ, i64_w, i32_w]
                      rfl
                    refine pure_ (i := 19) (N := some 34) (v := ?_) (a' := ?_) #[true, true, true, true, true, true, true, true, true, true, true, true, true, true, true, true, true, true, true, true, false, false, false, false, false, false, false, false, false, false, false, false, false, false, false, false, false, false, false, false, false, false, false, false, false, false] rfl rfl (any_of HT_.out (by kernel_rfl)) (fun _ _ _ h => h) (Or.inl ⟨by rfl, ?_⟩) ?_ ?_
                    rotate_left
                    · intro w'
                      go_simp
                      with_reducible rfl
                    rotate_left
                    · simp only [Act.put, List.setIfInBounds_toArray, List.set_cons_zero, List.set_cons_succ, i64_w, i32_w]
                      rfl
                    refine pure_ (i := 20) (N := some 35) (v := ?_) (a' := ?_) #[true, true, true, true, true, true, true, true, true, true, true, true, true, true, true, true, true, true, true, true, true, false, false, false, false, false, false, false, false, false, false, false, false, false, false, false, false, false, false, false, false, false, false, false, false, false] rfl rfl (any_of HT_.out (by kernel_rfl)) (fun _ _ _ h => h) (Or.inl ⟨by rfl, ?_⟩) ?_ ?_
                    rotate_left
                    · intro w'
                      go_simp
                      with_reducible rfl
                    rotate_left
                    · simp only [Act.put, List.setIfInBounds_toArray, List.set_cons_zero, List.set_cons_succ, i64_w, i32_w]
                      rfl
                    refine pure_ (i := 23) (N := some 38) (v := ?_) (a' := ?_) #[true, true, true, true, true, true, true, true, true, true, true, true, true, true, true, true, true, true, true, true, true, false, false, true, false, false, false, false, false, false, false, false, false, false, false, false, false, false, false, false, false, false, false, false, false, false] rfl rfl (any_of HT_.out (by kernel_rfl)) (fun _ _ _ h => h) (Or.inl ⟨by rfl, ?_⟩) ?_ ?_
                    rotate_left
                    · intro w'
                      go_simp
                      with_reducible rfl
                    rotate_left
                    · simp only [Act.put, List.setIfInBounds_toArray, List.set_cons_zero, List.set_cons_succ, i64_w, i32_w]
                      rfl
                    refine take_ (i := 21) (N := some 36) (v := ?_) (a' := ?_) #[true, true, true, true, true, true, true, true, true, true, true, true, true, true, true, true, true, true, true, true, true, true, false, true, false, false, false, false, false, false, false, false, false, false, false, false, false, false, false, false, false, false, false, false, false, false] rfl rfl (take_ofW HT_.out HW_.out (by kernel_rfl)) (fun _ _ _ h => h) (Or.inl ⟨by rfl, ?_⟩) hHeld ?_ ?_
                    rotate_left
                    · rintro w' ⟨s0, s1, s2⟩
                      refine exec_load_at 26 (.tmp 35) ?ho ?hx (row_at s0 11 (l := [.int .i64 a0_0, .int .i64 a0_1, .bool a0_2, .bool a0_3, .int .i64 a0_4, .int .i64 a0_5, .int .i64 a0_6, .int .u32 a0_7, .int .u32 a0_8, .slice A0_9 l0_9.length c0_9, .slice A0_10 l0_10.length c0_10]) rfl) Try.underlying26 rfl ?hi
                      case ho => rfl
                      case hx => rfl
                      case hi => kernel_rfl
                    rotate_left
                    · simp only [Act.put, List.setIfInBounds_toArray, List.set_cons_zero, List.set_cons_succ, i64_w, i32_w]
                      rfl
                    refine take_ (i := 24) (N := some 39) (v := ?_) (a' := ?_) #[true, true, true, true, true, true, true, true, true, true, true, true, true, true, true, true, true, true, true, true, true, true, false, true, true, false, false, false, false, false, false, false, false, false, false, false, false, false, false, false, false, false, false, false, false, false] rfl rfl (take_ofW HT_.out HW_.out (by kernel_rfl)) (fun _ _ _ h => h) (Or.inl ⟨by rfl, ?_⟩) hHeld ?_ ?_
                    rotate_left
                    · rintro w' ⟨s0, s1, s2⟩
                      refine exec_load_at 26 (.tmp 38) ?ho ?hx (row_at s0 11 (l := [.int .i64 a0_0, .int .i64 a0_1, .bool a0_2, .bool a0_3, .int .i64 a0_4, .int .i64 a0_5, .int .i64 a0_6, .int .u32 a0_7, .int .u32 a0_8, .slice A0_9 l0_9.length c0_9, .slice A0_10 l0_10.length c0_10]) rfl) Try.underlying26 rfl ?hi
                      case ho => rfl
                      case hx => rfl
                      case hi => kernel_rfl
                    rotate_left
                    · simp only [Act.put, List.setIfInBounds_toArray, List.set_cons_zero, List.set_cons_succ, i64_w, i32_w]
                      rfl
                    refine one_ (i := 22) (N := some 37) #[true, true, true, true, true, true, true, true, true, true, true, true, true, true, true, true, true, true, true, true, true, true, true, true, true, false, false, false, false, false, false, false, false, false, false, false, false, false, false, false, false, false, false, false, false, false] rfl rfl (one_of HT_.out (by kernel_rfl)) (by decide) (fun K hK => ?_)
                    refine goes_ Try.func20 (by kernel_rfl) rfl #[.agg #[.int .i64 a0_0, .int .i64 a0_1, .bool a0_2, .bool a0_3, .int .i64 a0_4, .int .i64 a0_5, .int .i64 a0_6, .int .u32 a0_7, .int .u32 a0_8, .slice A0_9 l0_9.length c0_9, .slice A0_10 l0_10.length c0_10]] (by rfl) rfl rfl (by (try simp only [List.map_toArray, List.map_cons, List.map_nil]); first | done | rfl | (simp only [List.length_drop, List.length_take]; rfl)) ?_
                    with_reducible refine (pack_Class.calls a0_0 a0_1 a0_2 a0_3 a0_4 a0_5 a0_6 a0_7 a0_8 _ _ l0_9 _ _ l0_10 t161 _ ?side1 ?side2 ?side3 ?side4 A32.out).mono ?_
                    (case side1 => repeat (first | exact (Kd.C_below HR0_9.out HB.out) | (with_reducible refine Kd.C_alloc ?_ _) | (with_reducible refine Kd.C_drewN ?_ _) | (with_reducible refine Kd.C_drew ?_)))
                    (case side2 => exact HC0_9.out)
                    (case side3 => repeat (first | exact (Kd.C_below HR0_10.out HB.out) | (with_reducible refine Kd.C_alloc ?_ _) | (with_reducible refine Kd.C_drewN ?_ _) | (with_reducible refine Kd.C_drew ?_)))
                    (case side4 => exact HC0_10.out)
                    rintro e w48 ⟨rfl, hb⟩
                    refine ⟨_, rfl, ?_⟩
                    have n0_ := Aside0.mk (blk_below (g := gb126) (o := .cells #[.int .i64 a0_0, .int .i64 a0_1, .bool a0_2, .bool a0_3, .int .i64 a0_4, .int .i64 a0_5, .int .i64 a0_6, .int .u32 a0_7, .int .u32 a0_8, .slice A0_9 l0_9.length c0_9, .slice A0_10 l0_10.length c0_10, .int .i64 a0_11, .int .i64 a0_12, .int .i64 a0_13, .int .i64 a0_14, .int .i64 a0_15, .int .i64 a0_16, .pointer a0_17] 29 (0, 0)) (by (with_reducible repeat (first | refine blk_drewN ?_ _ | refine blk_drew ?_ | refine blk_alloc ?_ _)); exact BK126.out) hb)
                    have n1_ := Aside0.mk (blk_below (g := gb127) (o := .cells #[.int .i64 a1_0, .int .i64 a1_1, .bool a1_2, .bool a1_3, .int .i64 a1_4, .int .i64 a1_5, .int .i64 a1_6, .int .u32 a1_7, .int .u32 a1_8, .slice A1_9 l1_9.length c1_9, .slice A1_10 l1_10.length c1_10, .int .i64 a1_11, .int .i64 a1_12, .int .i64 a1_13, .int .i64 a1_14, .int .i64 a1_15, .int .i64 a1_16, .pointer a1_17] 29 (0, 0)) (by (with_reducible repeat (first | refine blk_drewN ?_ _ | refine blk_drew ?_ | refine blk_alloc ?_ _)); exact BK127.out) hb)
                    have n2_ := Aside0.mk (blk_below (g := gb128) (o := .cells #[.int .i64 a2_0, .int .u32 a2_1, .int .u32 a2_2, .int .i64 a2_3, .int .i64 a2_4] 35 (0, 0)) (by (with_reducible repeat (first | refine blk_drewN ?_ _ | refine blk_drew ?_ | refine blk_alloc ?_ _)); exact BK128.out) hb)
                    have n3_ := Aside0.mk (below_step (by repeat (first | (with_reducible first | exact HB.out | apply below_alloc | apply pw_below_drewN | apply below_drew1 | refine below_set ?_ GE126.out | refine below_set ?_ GE127.out | refine below_set ?_ GE128.out) | exact HB.out)) hb)
                    clear BK126
                    clear BK127
                    clear BK128
                    clear HB
                    have BK126 := n0_
                    have BK127 := n1_
                    have BK128 := n2_
                    have HB := n3_
                    clear n0_ n1_ n2_ n3_
                    (try clear hb)
                    (try clear hb2)
                    (try clear hk)
                    (try clear hi)
                    refine hK.out _ _ ⟨BK126.out, BK128.out, BK127.out⟩ (fun hHeld => ?_)
                    clear hK K
                    refine norm_ (a' := ?_) ?_ ?_
                    rotate_left
                    · show Act.put _ (some 37) _ = _
                      simp only [Act.put, List.setIfInBounds_toArray, List.set_cons_zero, List.set_cons_succ, i64_w, i32_w]
                      rfl
                    refine one_ (i := 25) (N := some 40) #[true, true, true, true, true, true, true, true, true, true, true, true, true, true, true, true, true, true, true, true, true, true, true, true, true, true, false, false, false, false, false, false, false, false, false, false, false, false, false, false, false, false, false, false, false, false] rfl rfl (one_of HT_.out (by kernel_rfl)) (by decide) (fun K hK => ?_)
                    refine goes_ Try.func21 (by kernel_rfl) rfl #[.agg #[.int .i64 a0_0, .int .i64 a0_1, .bool a0_2, .bool a0_3, .int .i64 a0_4, .int .i64 a0_5, .int .i64 a0_6, .int .u32 a0_7, .int .u32 a0_8, .slice A0_9 l0_9.length c0_9, .slice A0_10 l0_10.length c0_10]] (by rfl) rfl rfl (by (try simp only [List.map_toArray, List.map_cons, List.map_nil]); first | done | rfl | (simp only [List.length_drop, List.length_take]; rfl)) ?_
                    with_reducible refine (castellanref8_Class.calls a0_0 a0_1 a0_2 a0_3 a0_4 a0_5 a0_6 a0_7 a0_8 _ _ l0_9 _ _ l0_10 t162 _ ?side1 ?side2 ?side3 ?side4 A33.out).mono ?_
                    (case side1 => repeat (first | exact (Kd.C_below HR0_9.out HB.out) | (with_reducible refine Kd.C_alloc ?_ _) | (with_reducible refine Kd.C_drewN ?_ _) | (with_reducible refine Kd.C_drew ?_)))
                    (case side2 => exact HC0_9.out)
                    (case side3 => repeat (first | exact (Kd.C_below HR0_10.out HB.out) | (with_reducible refine Kd.C_alloc ?_ _) | (with_reducible refine Kd.C_drewN ?_ _) | (with_reducible refine Kd.C_drew ?_)))
                    (case side4 => exact HC0_10.out)
                    rintro e w49 ⟨rfl, hb⟩
                    refine ⟨_, rfl, ?_⟩
                    have n0_ := Aside0.mk (blk_below (g := gb126) (o := .cells #[.int .i64 a0_0, .int .i64 a0_1, .bool a0_2, .bool a0_3, .int .i64 a0_4, .int .i64 a0_5, .int .i64 a0_6, .int .u32 a0_7, .int .u32 a0_8, .slice A0_9 l0_9.length c0_9, .slice A0_10 l0_10.length c0_10, .int .i64 a0_11, .int .i64 a0_12, .int .i64 a0_13, .int .i64 a0_14, .int .i64 a0_15, .int .i64 a0_16, .pointer a0_17] 29 (0, 0)) (by (with_reducible repeat (first | refine blk_drewN ?_ _ | refine blk_drew ?_ | refine blk_alloc ?_ _)); exact BK126.out) hb)
                    have n1_ := Aside0.mk (blk_below (g := gb127) (o := .cells #[.int .i64 a1_0, .int .i64 a1_1, .bool a1_2, .bool a1_3, .int .i64 a1_4, .int .i64 a1_5, .int .i64 a1_6, .int .u32 a1_7, .int .u32 a1_8, .slice A1_9 l1_9.length c1_9, .slice A1_10 l1_10.length c1_10, .int .i64 a1_11, .int .i64 a1_12, .int .i64 a1_13, .int .i64 a1_14, .int .i64 a1_15, .int .i64 a1_16, .pointer a1_17] 29 (0, 0)) (by (with_reducible repeat (first | refine blk_drewN ?_ _ | refine blk_drew ?_ | refine blk_alloc ?_ _)); exact BK127.out) hb)
                    have n2_ := Aside0.mk (blk_below (g := gb128) (o := .cells #[.int .i64 a2_0, .int .u32 a2_1, .int .u32 a2_2, .int .i64 a2_3, .int .i64 a2_4] 35 (0, 0)) (by (with_reducible repeat (first | refine blk_drewN ?_ _ | refine blk_drew ?_ | refine blk_alloc ?_ _)); exact BK128.out) hb)
                    have n3_ := Aside0.mk (below_step (by repeat (first | (with_reducible first | exact HB.out | apply below_alloc | apply pw_below_drewN | apply below_drew1 | refine below_set ?_ GE126.out | refine below_set ?_ GE127.out | refine below_set ?_ GE128.out) | exact HB.out)) hb)
                    clear BK126
                    clear BK127
                    clear BK128
                    clear HB
                    have BK126 := n0_
                    have BK127 := n1_
                    have BK128 := n2_
                    have HB := n3_
                    clear n0_ n1_ n2_ n3_
                    (try clear hb)
                    (try clear hb2)
                    (try clear hk)
                    (try clear hi)
                    refine hK.out _ _ ⟨BK126.out, BK128.out, BK127.out⟩ (fun hHeld => ?_)
                    clear hK K
                    refine norm_ (a' := ?_) ?_ ?_
                    rotate_left
                    · show Act.put _ (some 40) _ = _
                      simp only [Act.put, List.setIfInBounds_toArray, List.set_cons_zero, List.set_cons_succ, i64_w, i32_w]
                      rfl
                    refine pure_ (i := 26) (N := some 41) (v := ?_) (a' := ?_) #[true, true, true, true, true, true, true, true, true, true, true, true, true, true, true, true, true, true, true, true, true, true, true, true, true, true, true, false, false, false, false, false, false, false, false, false, false, false, false, false, false, false, false, false, false, false] rfl rfl (any_of HT_.out (by kernel_rfl)) (fun _ _ _ h => h) (Or.inl ⟨by rfl, ?_⟩) ?_ ?_
                    rotate_left
                    · intro w'
                      go_simp
                      with_reducible rfl
                    rotate_left
                    · simp only [Act.put, List.setIfInBounds_toArray, List.set_cons_zero, List.set_cons_succ, i64_w, i32_w]
                      rfl
                    refine pure_ (i := 27) (N := some 42) (v := ?_) (a' := ?_) #[true, true, true, true, true, true, true, true, true, true, true, true, true, true, true, true, true, true, true, true, true, true, true, true, true, true, true, true, false, false, false, false, false, false, false, false, false, false, false, false, false, false, false, false, false, false] rfl rfl (any_of HT_.out (by kernel_rfl)) (fun _ _ _ h => h) (Or.inl ⟨by rfl, ?_⟩) ?_ ?_
                    rotate_left
                    · intro w'
                      go_simp
                      with_reducible rfl
                    rotate_left
                    · simp only [Act.put, List.setIfInBounds_toArray, List.set_cons_zero, List.set_cons_succ, i64_w, i32_w]
                      rfl
                    refine pure_ (i := 28) (N := some 43) (v := ?_) (a' := ?_) #[true, true, true, true, true, true, true, true, true, true, true, true, true, true, true, true, true, true, true, true, true, true, true, true, true, true, true, true, true, false, false, false, false, false, false, false, false, false, false, false, false, false, false, false, false, false] rfl rfl (any_of HT_.out (by kernel_rfl)) (fun _ _ _ h => h) (Or.inl ⟨by rfl, ?_⟩) ?_ ?_
                    rotate_left
                    · intro w'
                      go_simp
                      with_reducible rfl
                    rotate_left
                    · simp only [Act.put, List.setIfInBounds_toArray, List.set_cons_zero, List.set_cons_succ, i64_w, i32_w]
                      rfl
                    refine take_ (i := 29) (N := some 44) (v := ?_) (a' := ?_) #[true, true, true, true, true, true, true, true, true, true, true, true, true, true, true, true, true, true, true, true, true, true, true, true, true, true, true, true, true, true, false, false, false, false, false, false, false, false, false, false, false, false, false, false, false, false] rfl rfl (take_ofW HT_.out HW_.out (by kernel_rfl)) (fun _ _ _ h => h) (Or.inl ⟨by rfl, ?_⟩) hHeld ?_ ?_
                    rotate_left
                    · rintro w' ⟨s0, s1, s2⟩
                      refine exec_load_at 29 (.tmp 3) ?ho ?hx (row_at s0 18 (l := [.int .i64 a0_0, .int .i64 a0_1, .bool a0_2, .bool a0_3, .int .i64 a0_4, .int .i64 a0_5, .int .i64 a0_6, .int .u32 a0_7, .int .u32 a0_8, .slice A0_9 l0_9.length c0_9, .slice A0_10 l0_10.length c0_10, .int .i64 a0_11, .int .i64 a0_12, .int .i64 a0_13, .int .i64 a0_14, .int .i64 a0_15, .int .i64 a0_16, .pointer a0_17]) rfl) Try.underlying29 rfl ?hi
                      case ho => rfl
                      case hx => rfl
                      case hi => kernel_rfl
                    rotate_left
                    · simp only [Act.put, List.setIfInBounds_toArray, List.set_cons_zero, List.set_cons_succ, i64_w, i32_w]
                      rfl
                    refine take_ (i := 30) (N := some 45) (v := ?_) (a' := ?_) #[true, true, true, true, true, true, true, true, true, true, true, true, true, true, true, true, true, true, true, true, true, true, true, true, true, true, true, true, true, true, true, false, false, false, false, false, false, false, false, false, false, false, false, false, false, false] rfl rfl (take_ofW HT_.out HW_.out (by kernel_rfl)) (fun _ _ _ h => h) (Or.inl ⟨by rfl, ?_⟩) hHeld ?_ ?_
                    rotate_left
                    · rintro w' ⟨s0, s1, s2⟩
                      refine exec_load_at 29 (.tmp 4) ?ho ?hx (row_at s2 18 (l := [.int .i64 a1_0, .int .i64 a1_1, .bool a1_2, .bool a1_3, .int .i64 a1_4, .int .i64 a1_5, .int .i64 a1_6, .int .u32 a1_7, .int .u32 a1_8, .slice A1_9 l1_9.length c1_9, .slice A1_10 l1_10.length c1_10, .int .i64 a1_11, .int .i64 a1_12, .int .i64 a1_13, .int .i64 a1_14, .int .i64 a1_15, .int .i64 a1_16, .pointer a1_17]) rfl) Try.underlying29 rfl ?hi
                      case ho => rfl
                      case hx => rfl
                      case hi => kernel_rfl
                    rotate_left
                    · simp only [Act.put, List.setIfInBounds_toArray, List.set_cons_zero, List.set_cons_succ, i64_w, i32_w]
                      rfl
                    refine take_ (i := 32) (N := some 47) (v := ?_) (a' := ?_) #[true, true, true, true, true, true, true, true, true, true, true, true, true, true, true, true, true, true, true, true, true, true, true, true, true, true, true, true, true, true, true, false, true, false, false, false, false, false, false, false, false, false, false, false, false, false] rfl rfl (take_ofW HT_.out HW_.out (by kernel_rfl)) (fun _ _ _ h => h) (Or.inl ⟨by rfl, ?_⟩) hHeld ?_ ?_
                    rotate_left
                    · rintro w' ⟨s0, s1, s2⟩
                      refine exec_load_at 29 (.tmp 3) ?ho ?hx (row_at s0 18 (l := [.int .i64 a0_0, .int .i64 a0_1, .bool a0_2, .bool a0_3, .int .i64 a0_4, .int .i64 a0_5, .int .i64 a0_6, .int .u32 a0_7, .int .u32 a0_8, .slice A0_9 l0_9.length c0_9, .slice A0_10 l0_10.length c0_10, .int .i64 a0_11, .int .i64 a0_12, .int .i64 a0_13, .int .i64 a0_14, .int .i64 a0_15, .int .i64 a0_16, .pointer a0_17]) rfl) Try.underlying29 rfl ?hi
                      case ho => rfl
                      case hx => rfl
                      case hi => kernel_rfl
                    rotate_left
                    · simp only [Act.put, List.setIfInBounds_toArray, List.set_cons_zero, List.set_cons_succ, i64_w, i32_w]
                      rfl
                    refine take_ (i := 33) (N := some 48) (v := ?_) (a' := ?_) #[true, true, true, true, true, true, true, true, true, true, true, true, true, true, true, true, true, true, true, true, true, true, true, true, true, true, true, true, true, true, true, false, true, true, false, false, false, false, false, false, false, false, false, false, false, false] rfl rfl (take_ofW HT_.out HW_.out (by kernel_rfl)) (fun _ _ _ h => h) (Or.inl ⟨by rfl, ?_⟩) hHeld ?_ ?_
                    rotate_left
                    · rintro w' ⟨s0, s1, s2⟩
                      refine exec_load_at 29 (.tmp 4) ?ho ?hx (row_at s2 18 (l := [.int .i64 a1_0, .int .i64 a1_1, .bool a1_2, .bool a1_3, .int .i64 a1_4, .int .i64 a1_5, .int .i64 a1_6, .int .u32 a1_7, .int .u32 a1_8, .slice A1_9 l1_9.length c1_9, .slice A1_10 l1_10.length c1_10, .int .i64 a1_11, .int .i64 a1_12, .int .i64 a1_13, .int .i64 a1_14, .int .i64 a1_15, .int .i64 a1_16, .pointer a1_17]) rfl) Try.underlying29 rfl ?hi
                      case ho => rfl
                      case hx => rfl
                      case hi => kernel_rfl
                    rotate_left
                    · simp only [Act.put, List.setIfInBounds_toArray, List.set_cons_zero, List.set_cons_succ, i64_w, i32_w]
                      rfl
                    refine one_ (i := 31) (N := some 46) #[true, true, true, true, true, true, true, true, true, true, true, true, true, true, true, true, true, true, true, true, true, true, true, true, true, true, true, true, true, true, true, true, true, true, false, false, false, false, false, false, false, false, false, false, false, false] rfl rfl (one_of HT_.out (by kernel_rfl)) (by decide) (fun K hK => ?_)
                    refine goes_ Try.func22 (by kernel_rfl) rfl #[.agg #[.int .i64 a0_0, .int .i64 a0_1, .bool a0_2, .bool a0_3, .int .i64 a0_4, .int .i64 a0_5, .int .i64 a0_6, .int .u32 a0_7, .int .u32 a0_8, .slice A0_9 l0_9.length c0_9, .slice A0_10 l0_10.length c0_10, .int .i64 a0_11, .int .i64 a0_12, .int .i64 a0_13, .int .i64 a0_14, .int .i64 a0_15, .int .i64 a0_16, .pointer a0_17], .agg #[.int .i64 a1_0, .int .i64 a1_1, .bool a1_2, .bool a1_3, .int .i64 a1_4, .int .i64 a1_5, .int .i64 a1_6, .int .u32 a1_7, .int .u32 a1_8, .slice A1_9 l1_9.length c1_9, .slice A1_10 l1_10.length c1_10, .int .i64 a1_11, .int .i64 a1_12, .int .i64 a1_13, .int .i64 a1_14, .int .i64 a1_15, .int .i64 a1_16, .pointer a1_17]] (by rfl) rfl rfl (by (try simp only [List.map_toArray, List.map_cons, List.map_nil]); first | done | rfl | (simp only [List.length_drop, List.length_take]; rfl)) ?_
                    with_reducible refine (pack_Same.calls κ a0_0 a0_1 a0_2 a0_3 a0_4 a0_5 a0_6 a0_7 a0_8 _ _ l0_9 _ _ l0_10 a0_11 a0_12 a0_13 a0_14 a0_15 a0_16 a0_17 a1_0 a1_1 a1_2 a1_3 a1_4 a1_5 a1_6 a1_7 a1_8 _ _ l1_9 _ _ l1_10 a1_11 a1_12 a1_13 a1_14 a1_15 a1_16 a1_17 t163 _ ?side1 ?side2 ?side3 ?side4 ?side5 ?side6 ?side7 ?side8 (HP0.out.below HB.out) (HP1.out.below HB.out) A35.out).mono ?_
                    (case side1 => repeat (first | exact (Kd.C_below HR0_9.out HB.out) | (with_reducible refine Kd.C_alloc ?_ _) | (with_reducible refine Kd.C_drewN ?_ _) | (with_reducible refine Kd.C_drew ?_)))
                    (case side2 => exact HC0_9.out)
                    (case side3 => repeat (first | exact (Kd.C_below HR0_10.out HB.out) | (with_reducible refine Kd.C_alloc ?_ _) | (with_reducible refine Kd.C_drewN ?_ _) | (with_reducible refine Kd.C_drew ?_)))
                    (case side4 => exact HC0_10.out)
                    (case side5 => repeat (first | exact (Kd.C_below HR1_9.out HB.out) | (with_reducible refine Kd.C_alloc ?_ _) | (with_reducible refine Kd.C_drewN ?_ _) | (with_reducible refine Kd.C_drew ?_)))
                    (case side6 => exact HC1_9.out)
                    (case side7 => repeat (first | exact (Kd.C_below HR1_10.out HB.out) | (with_reducible refine Kd.C_alloc ?_ _) | (with_reducible refine Kd.C_drewN ?_ _) | (with_reducible refine Kd.C_drew ?_)))
                    (case side8 => exact HC1_10.out)
                    rintro e w50 ⟨rfl, hb⟩
                    refine ⟨_, rfl, ?_⟩
                    have n0_ := Aside0.mk (blk_below (g := gb126) (o := .cells #[.int .i64 a0_0, .int .i64 a0_1, .bool a0_2, .bool a0_3, .int .i64 a0_4, .int .i64 a0_5, .int .i64 a0_6, .int .u32 a0_7, .int .u32 a0_8, .slice A0_9 l0_9.length c0_9, .slice A0_10 l0_10.length c0_10, .int .i64 a0_11, .int .i64 a0_12, .int .i64 a0_13, .int .i64 a0_14, .int .i64 a0_15, .int .i64 a0_16, .pointer a0_17] 29 (0, 0)) (by (with_reducible repeat (first | refine blk_drewN ?_ _ | refine blk_drew ?_ | refine blk_alloc ?_ _)); exact BK126.out) hb)
                    have n1_ := Aside0.mk (blk_below (g := gb127) (o := .cells #[.int .i64 a1_0, .int .i64 a1_1, .bool a1_2, .bool a1_3, .int .i64 a1_4, .int .i64 a1_5, .int .i64 a1_6, .int .u32 a1_7, .int .u32 a1_8, .slice A1_9 l1_9.length c1_9, .slice A1_10 l1_10.length c1_10, .int .i64 a1_11, .int .i64 a1_12, .int .i64 a1_13, .int .i64 a1_14, .int .i64 a1_15, .int .i64 a1_16, .pointer a1_17] 29 (0, 0)) (by (with_reducible repeat (first | refine blk_drewN ?_ _ | refine blk_drew ?_ | refine blk_alloc ?_ _)); exact BK127.out) hb)
                    have n2_ := Aside0.mk (blk_below (g := gb128) (o := .cells #[.int .i64 a2_0, .int .u32 a2_1, .int .u32 a2_2, .int .i64 a2_3, .int .i64 a2_4] 35 (0, 0)) (by (with_reducible repeat (first | refine blk_drewN ?_ _ | refine blk_drew ?_ | refine blk_alloc ?_ _)); exact BK128.out) hb)
                    have n3_ := Aside0.mk (below_step (by repeat (first | (with_reducible first | exact HB.out | apply below_alloc | apply pw_below_drewN | apply below_drew1 | refine below_set ?_ GE126.out | refine below_set ?_ GE127.out | refine below_set ?_ GE128.out) | exact HB.out)) hb)
                    clear BK126
                    clear BK127
                    clear BK128
                    clear HB
                    have BK126 := n0_
                    have BK127 := n1_
                    have BK128 := n2_
                    have HB := n3_
                    clear n0_ n1_ n2_ n3_
                    (try clear hb)
                    (try clear hb2)
                    (try clear hk)
                    (try clear hi)
                    refine hK.out _ _ ⟨BK126.out, BK128.out, BK127.out⟩ (fun hHeld => ?_)
                    clear hK K
                    refine norm_ (a' := ?_) ?_ ?_
                    rotate_left
                    · show Act.put _ (some 46) _ = _
                      simp only [Act.put, List.setIfInBounds_toArray, List.set_cons_zero, List.set_cons_succ, i64_w, i32_w]
                      rfl
                    refine one_ (i := 34) (N := some 49) #[true, true, true, true, true, true, true, true, true, true, true, true, true, true, true, true, true, true, true, true, true, true, true, true, true, true, true, true, true, true, true, true, true, true, true, false, false, false, false, false, false, false, false, false, false, false] rfl rfl (one_of HT_.out (by kernel_rfl)) (by decide) (fun K hK => ?_)
                    refine goes_ Try.func23 (by kernel_rfl) rfl #[.agg #[.int .i64 a0_0, .int .i64 a0_1, .bool a0_2, .bool a0_3, .int .i64 a0_4, .int .i64 a0_5, .int .i64 a0_6, .int .u32 a0_7, .int .u32 a0_8, .slice A0_9 l0_9.length c0_9, .slice A0_10 l0_10.length c0_10, .int .i64 a0_11, .int .i64 a0_12, .int .i64 a0_13, .int .i64 a0_14, .int .i64 a0_15, .int .i64 a0_16, .pointer a0_17], .agg #[.int .i64 a1_0, .int .i64 a1_1, .bool a1_2, .bool a1_3, .int .i64 a1_4, .int .i64 a1_5, .int .i64 a1_6, .int .u32 a1_7, .int .u32 a1_8, .slice A1_9 l1_9.length c1_9, .slice A1_10 l1_10.length c1_10, .int .i64 a1_11, .int .i64 a1_12, .int .i64 a1_13, .int .i64 a1_14, .int .i64 a1_15, .int .i64 a1_16, .pointer a1_17]] (by rfl) rfl rfl (by (try simp only [List.map_toArray, List.map_cons, List.map_nil]); first | done | rfl | (simp only [List.length_drop, List.length_take]; rfl)) ?_
                    with_reducible refine (castellanref8_Same.calls κ a0_0 a0_1 a0_2 a0_3 a0_4 a0_5 a0_6 a0_7 a0_8 _ _ l0_9 _ _ l0_10 a0_11 a0_12 a0_13 a0_14 a0_15 a0_16 a0_17 a1_0 a1_1 a1_2 a1_3 a1_4 a1_5 a1_6 a1_7 a1_8 _ _ l1_9 _ _ l1_10 a1_11 a1_12 a1_13 a1_14 a1_15 a1_16 a1_17 t164 _ ?side1 ?side2 ?side3 ?side4 ?side5 ?side6 ?side7 ?side8 (HP0.out.below HB.out) (HP1.out.below HB.out) A36.out).mono ?_
                    (case side1 => repeat (first | exact (Kd.C_below HR0_9.out HB.out) | (with_reducible refine Kd.C_alloc ?_ _) | (with_reducible refine Kd.C_drewN ?_ _) | (with_reducible refine Kd.C_drew ?_)))
                    (case side2 => exact HC0_9.out)
                    (case side3 => repeat (first | exact (Kd.C_below HR0_10.out HB.out) | (with_reducible refine Kd.C_alloc ?_ _) | (with_reducible refine Kd.C_drewN ?_ _) | (with_reducible refine Kd.C_drew ?_)))
                    (case side4 => exact HC0_10.out)
                    (case side5 => repeat (first | exact (Kd.C_below HR1_9.out HB.out) | (with_reducible refine Kd.C_alloc ?_ _) | (with_reducible refine Kd.C_drewN ?_ _) | (with_reducible refine Kd.C_drew ?_)))
                    (case side6 => exact HC1_9.out)
                    (case side7 => repeat (first | exact (Kd.C_below HR1_10.out HB.out) | (with_reducible refine Kd.C_alloc ?_ _) | (with_reducible refine Kd.C_drewN ?_ _) | (with_reducible refine Kd.C_drew ?_)))
                    (case side8 => exact HC1_10.out)
                    rintro e w51 ⟨rfl, hb⟩
                    refine ⟨_, rfl, ?_⟩
                    have n0_ := Aside0.mk (blk_below (g := gb126) (o := .cells #[.int .i64 a0_0, .int .i64 a0_1, .bool a0_2, .bool a0_3, .int .i64 a0_4, .int .i64 a0_5, .int .i64 a0_6, .int .u32 a0_7, .int .u32 a0_8, .slice A0_9 l0_9.length c0_9, .slice A0_10 l0_10.length c0_10, .int .i64 a0_11, .int .i64 a0_12, .int .i64 a0_13, .int .i64 a0_14, .int .i64 a0_15, .int .i64 a0_16, .pointer a0_17] 29 (0, 0)) (by (with_reducible repeat (first | refine blk_drewN ?_ _ | refine blk_drew ?_ | refine blk_alloc ?_ _)); exact BK126.out) hb)
                    have n1_ := Aside0.mk (blk_below (g := gb127) (o := .cells #[.int .i64 a1_0, .int .i64 a1_1, .bool a1_2, .bool a1_3, .int .i64 a1_4, .int .i64 a1_5, .int .i64 a1_6, .int .u32 a1_7, .int .u32 a1_8, .slice A1_9 l1_9.length c1_9, .slice A1_10 l1_10.length c1_10, .int .i64 a1_11, .int .i64 a1_12, .int .i64 a1_13, .int .i64 a1_14, .int .i64 a1_15, .int .i64 a1_16, .pointer a1_17] 29 (0, 0)) (by (with_reducible repeat (first | refine blk_drewN ?_ _ | refine blk_drew ?_ | refine blk_alloc ?_ _)); exact BK127.out) hb)
                    have n2_ := Aside0.mk (blk_below (g := gb128) (o := .cells #[.int .i64 a2_0, .int .u32 a2_1, .int .u32 a2_2, .int .i64 a2_3, .int .i64 a2_4] 35 (0, 0)) (by (with_reducible repeat (first | refine blk_drewN ?_ _ | refine blk_drew ?_ | refine blk_alloc ?_ _)); exact BK128.out) hb)
                    have n3_ := Aside0.mk (below_step (by repeat (first | (with_reducible first | exact HB.out | apply below_alloc | apply pw_below_drewN | apply below_drew1 | refine below_set ?_ GE126.out | refine below_set ?_ GE127.out | refine below_set ?_ GE128.out) | exact HB.out)) hb)
                    clear BK126
                    clear BK127
                    clear BK128
                    clear HB
                    have BK126 := n0_
                    have BK127 := n1_
                    have BK128 := n2_
                    have HB := n3_
                    clear n0_ n1_ n2_ n3_
                    (try clear hb)
                    (try clear hb2)
                    (try clear hk)
                    (try clear hi)
                    refine hK.out _ _ ⟨BK126.out, BK128.out, BK127.out⟩ (fun hHeld => ?_)
                    clear hK K
                    refine norm_ (a' := ?_) ?_ ?_
                    rotate_left
                    · show Act.put _ (some 49) _ = _
                      simp only [Act.put, List.setIfInBounds_toArray, List.set_cons_zero, List.set_cons_succ, i64_w, i32_w]
                      rfl
                    refine pure_ (i := 35) (N := some 50) (v := ?_) (a' := ?_) #[true, true, true, true, true, true, true, true, true, true, true, true, true, true, true, true, true, true, true, true, true, true, true, true, true, true, true, true, true, true, true, true, true, true, true, true, false, false, false, false, false, false, false, false, false, false] rfl rfl (any_of HT_.out (by kernel_rfl)) (fun _ _ _ h => h) (Or.inl ⟨by rfl, ?_⟩) ?_ ?_
                    rotate_left
                    · intro w'
                      go_simp
                      with_reducible rfl
                    rotate_left
                    · simp only [Act.put, List.setIfInBounds_toArray, List.set_cons_zero, List.set_cons_succ, i64_w, i32_w]
                      rfl
                    refine pure_ (i := 36) (N := some 51) (v := ?_) (a' := ?_) #[true, true, true, true, true, true, true, true, true, true, true, true, true, true, true, true, true, true, true, true, true, true, true, true, true, true, true, true, true, true, true, true, true, true, true, true, true, false, false, false, false, false, false, false, false, false] rfl rfl (any_of HT_.out (by kernel_rfl)) (fun _ _ _ h => h) (Or.inl ⟨by rfl, ?_⟩) ?_ ?_
                    rotate_left
                    · intro w'
                      go_simp
                      with_reducible rfl
                    rotate_left
                    · simp only [Act.put, List.setIfInBounds_toArray, List.set_cons_zero, List.set_cons_succ, i64_w, i32_w]
                      rfl
                    refine pure_ (i := 37) (N := some 52) (v := ?_) (a' := ?_) #[true, true, true, true, true, true, true, true, true, true, true, true, true, true, true, true, true, true, true, true, true, true, true, true, true, true, true, true, true, true, true, true, true, true, true, true, true, true, false, false, false, false, false, false, false, false] rfl rfl (any_of HT_.out (by kernel_rfl)) (fun _ _ _ h => h) (Or.inl ⟨by rfl, ?_⟩) ?_ ?_
                    rotate_left
                    · intro w'
                      go_simp
                      with_reducible rfl
                    rotate_left
                    · simp only [Act.put, List.setIfInBounds_toArray, List.set_cons_zero, List.set_cons_succ, i64_w, i32_w]
                      rfl
                    refine take_ (i := 38) (N := some 53) (v := ?_) (a' := ?_) #[true, true, true, true, true, true, true, true, true, true, true, true, true, true, true, true, true, true, true, true, true, true, true, true, true, true, true, true, true, true, true, true, true, true, true, true, true, true, true, false, false, false, false, false, false, false] rfl rfl (take_ofW HT_.out HW_.out (by kernel_rfl)) (fun _ _ _ h => h) (Or.inl ⟨by rfl, ?_⟩) hHeld ?_ ?_
                    rotate_left
                    · rintro w' ⟨s0, s1, s2⟩
                      refine exec_load_at 29 (.tmp 3) ?ho ?hx (row_at s0 18 (l := [.int .i64 a0_0, .int .i64 a0_1, .bool a0_2, .bool a0_3, .int .i64 a0_4, .int .i64 a0_5, .int .i64 a0_6, .int .u32 a0_7, .int .u32 a0_8, .slice A0_9 l0_9.length c0_9, .slice A0_10 l0_10.length c0_10, .int .i64 a0_11, .int .i64 a0_12, .int .i64 a0_13, .int .i64 a0_14, .int .i64 a0_15, .int .i64 a0_16, .pointer a0_17]) rfl) Try.underlying29 rfl ?hi
                      case ho => rfl
                      case hx => rfl
                      case hi => kernel_rfl
                    rotate_left
                    · simp only [Act.put, List.setIfInBounds_toArray, List.set_cons_zero, List.set_cons_succ, i64_w, i32_w]
                      rfl
                    refine take_ (i := 39) (N := some 54) (v := ?_) (a' := ?_) #[true, true, true, true, true, true, true, true, true, true, true, true, true, true, true, true, true, true, true, true, true, true, true, true, true, true, true, true, true, true, true, true, true, true, true, true, true, true, true, true, false, false, false, false, false, false] rfl rfl (take_ofW HT_.out HW_.out (by kernel_rfl)) (fun _ _ _ h => h) (Or.inl ⟨by rfl, ?_⟩) hHeld ?_ ?_
                    rotate_left
                    · rintro w' ⟨s0, s1, s2⟩
                      refine exec_load_at 29 (.tmp 3) ?ho ?hx (row_at s0 18 (l := [.int .i64 a0_0, .int .i64 a0_1, .bool a0_2, .bool a0_3, .int .i64 a0_4, .int .i64 a0_5, .int .i64 a0_6, .int .u32 a0_7, .int .u32 a0_8, .slice A0_9 l0_9.length c0_9, .slice A0_10 l0_10.length c0_10, .int .i64 a0_11, .int .i64 a0_12, .int .i64 a0_13, .int .i64 a0_14, .int .i64 a0_15, .int .i64 a0_16, .pointer a0_17]) rfl) Try.underlying29 rfl ?hi
                      case ho => rfl
                      case hx => rfl
                      case hi => kernel_rfl
                    rotate_left
                    · simp only [Act.put, List.setIfInBounds_toArray, List.set_cons_zero, List.set_cons_succ, i64_w, i32_w]
                      rfl
                    refine one_ (i := 40) (N := some 55) #[true, true, true, true, true, true, true, true, true, true, true, true, true, true, true, true, true, true, true, true, true, true, true, true, true, true, true, true, true, true, true, true, true, true, true, true, true, true, true, true, true, false, false, false, false, false] rfl rfl (one_of HT_.out (by kernel_rfl)) (by decide) (fun K hK => ?_)
                    refine goes_ Try.func22 (by kernel_rfl) rfl #[.agg #[.int .i64 a0_0, .int .i64 a0_1, .bool a0_2, .bool a0_3, .int .i64 a0_4, .int .i64 a0_5, .int .i64 a0_6, .int .u32 a0_7, .int .u32 a0_8, .slice A0_9 l0_9.length c0_9, .slice A0_10 l0_10.length c0_10, .int .i64 a0_11, .int .i64 a0_12, .int .i64 a0_13, .int .i64 a0_14, .int .i64 a0_15, .int .i64 a0_16, .pointer a0_17], .agg #[.int .i64 a0_0, .int .i64 a0_1, .bool a0_2, .bool a0_3, .int .i64 a0_4, .int .i64 a0_5, .int .i64 a0_6, .int .u32 a0_7, .int .u32 a0_8, .slice A0_9 l0_9.length c0_9, .slice A0_10 l0_10.length c0_10, .int .i64 a0_11, .int .i64 a0_12, .int .i64 a0_13, .int .i64 a0_14, .int .i64 a0_15, .int .i64 a0_16, .pointer a0_17]] (by rfl) rfl rfl (by (try simp only [List.map_toArray, List.map_cons, List.map_nil]); first | done | rfl | (simp only [List.length_drop, List.length_take]; rfl)) ?_
                    with_reducible refine (pack_Same.calls κ a0_0 a0_1 a0_2 a0_3 a0_4 a0_5 a0_6 a0_7 a0_8 _ _ l0_9 _ _ l0_10 a0_11 a0_12 a0_13 a0_14 a0_15 a0_16 a0_17 a0_0 a0_1 a0_2 a0_3 a0_4 a0_5 a0_6 a0_7 a0_8 _ _ l0_9 _ _ l0_10 a0_11 a0_12 a0_13 a0_14 a0_15 a0_16 a0_17 true _ ?side1 ?side2 ?side3 ?side4 ?side5 ?side6 ?side7 ?side8 (HP0.out.below HB.out) (HP0.out.below HB.out) A38.out).mono ?_
                    (case side1 => repeat (first | exact (Kd.C_below HR0_9.out HB.out) | (with_reducible refine Kd.C_alloc ?_ _) | (with_reducible refine Kd.C_drewN ?_ _) | (with_reducible refine Kd.C_drew ?_)))
                    (case side2 => exact HC0_9.out)
                    (case side3 => repeat (first | exact (Kd.C_below HR0_10.out HB.out) | (with_reducible refine Kd.C_alloc ?_ _) | (with_reducible refine Kd.C_drewN ?_ _) | (with_reducible refine Kd.C_drew ?_)))
                    (case side4 => exact HC0_10.out)
                    (case side5 => repeat (first | exact (Kd.C_below HR0_9.out HB.out) | (with_reducible refine Kd.C_alloc ?_ _) | (with_reducible refine Kd.C_drewN ?_ _) | (with_reducible refine Kd.C_drew ?_)))
                    (case side6 => exact HC0_9.out)
                    (case side7 => repeat (first | exact (Kd.C_below HR0_10.out HB.out) | (with_reducible refine Kd.C_alloc ?_ _) | (with_reducible refine Kd.C_drewN ?_ _) | (with_reducible refine Kd.C_drew ?_)))
                    (case side8 => exact HC0_10.out)
                    rintro e w52 ⟨rfl, hb⟩
                    refine ⟨_, rfl, ?_⟩
                    have n0_ := Aside0.mk (blk_below (g := gb126) (o := .cells #[.int .i64 a0_0, .int .i64 a0_1, .bool a0_2, .bool a0_3, .int .i64 a0_4, .int .i64 a0_5, .int .i64 a0_6, .int .u32 a0_7, .int .u32 a0_8, .slice A0_9 l0_9.length c0_9, .slice A0_10 l0_10.length c0_10, .int .i64 a0_11, .int .i64 a0_12, .int .i64 a0_13, .int .i64 a0_14, .int .i64 a0_15, .int .i64 a0_16, .pointer a0_17] 29 (0, 0)) (by (with_reducible repeat (first | refine blk_drewN ?_ _ | refine blk_drew ?_ | refine blk_alloc ?_ _)); exact BK126.out) hb)
                    have n1_ := Aside0.mk (blk_below (g := gb127) (o := .cells #[.int .i64 a1_0, .int .i64 a1_1, .bool a1_2, .bool a1_3, .int .i64 a1_4, .int .i64 a1_5, .int .i64 a1_6, .int .u32 a1_7, .int .u32 a1_8, .slice A1_9 l1_9.length c1_9, .slice A1_10 l1_10.length c1_10, .int .i64 a1_11, .int .i64 a1_12, .int .i64 a1_13, .int .i64 a1_14, .int .i64 a1_15, .int .i64 a1_16, .pointer a1_17] 29 (0, 0)) (by (with_reducible repeat (first | refine blk_drewN ?_ _ | refine blk_drew ?_ | refine blk_alloc ?_ _)); exact BK127.out) hb)
                    have n2_ := Aside0.mk (blk_below (g := gb128) (o := .cells #[.int .i64 a2_0, .int .u32 a2_1, .int .u32 a2_2, .int .i64 a2_3, .int .i64 a2_4] 35 (0, 0)) (by (with_reducible repeat (first | refine blk_drewN ?_ _ | refine blk_drew ?_ | refine blk_alloc ?_ _)); exact BK128.out) hb)
                    have n3_ := Aside0.mk (below_step (by repeat (first | (with_reducible first | exact HB.out | apply below_alloc | apply pw_below_drewN | apply below_drew1 | refine below_set ?_ GE126.out | refine below_set ?_ GE127.out | refine below_set ?_ GE128.out) | exact HB.out)) hb)
                    clear BK126
                    clear BK127
                    clear BK128
                    clear HB
                    have BK126 := n0_
                    have BK127 := n1_
                    have BK128 := n2_
                    have HB := n3_
                    clear n0_ n1_ n2_ n3_
                    (try clear hb)
                    (try clear hb2)
                    (try clear hk)
                    (try clear hi)
                    refine hK.out _ _ ⟨BK126.out, BK128.out, BK127.out⟩ (fun hHeld => ?_)
                    clear hK K
                    refine norm_ (a' := ?_) ?_ ?_
                    rotate_left
                    · show Act.put _ (some 55) _ = _
                      simp only [Act.put, List.setIfInBounds_toArray, List.set_cons_zero, List.set_cons_succ, i64_w, i32_w]
                      rfl
                    refine pure_ (i := 41) (N := some 56) (v := ?_) (a' := ?_) #[true, true, true, true, true, true, true, true, true, true, true, true, true, true, true, true, true, true, true, true, true, true, true, true, true, true, true, true, true, true, true, true, true, true, true, true, true, true, true, true, true, true, false, false, false, false] rfl rfl (any_of HT_.out (by kernel_rfl)) (fun _ _ _ h => h) (Or.inl ⟨by rfl, ?_⟩) ?_ ?_
                    rotate_left
                    · intro w'
                      go_simp
                      with_reducible rfl
                    rotate_left
                    · simp only [Act.put, List.setIfInBounds_toArray, List.set_cons_zero, List.set_cons_succ, i64_w, i32_w]
                      rfl
                    refine pure_ (i := 42) (N := some 57) (v := ?_) (a' := ?_) #[true, true, true, true, true, true, true, true, true, true, true, true, true, true, true, true, true, true, true, true, true, true, true, true, true, true, true, true, true, true, true, true, true, true, true, true, true, true, true, true, true, true, true, false, false, false] rfl rfl (any_of HT_.out (by kernel_rfl)) (fun _ _ _ h => h) (Or.inl ⟨by rfl, ?_⟩) ?_ ?_
                    rotate_left
                    · intro w'
                      go_simp
                      with_reducible rfl
                    rotate_left
                    · simp only [Act.put, List.setIfInBounds_toArray, List.set_cons_zero, List.set_cons_succ, i64_w, i32_w]
                      rfl
                    refine one_ (i := 43) (N := some 58) #[true, true, true, true, true, true, true, true, true, true, true, true, true, true, true, true, true, true, true, true, true, true, true, true, true, true, true, true, true, true, true, true, true, true, true, true, true, true, true, true, true, true, true, true, false, false] rfl rfl (one_of HT_.out (by kernel_rfl)) (by decide) (fun K hK => ?_)
                    refine goes_ Try.func24 (by kernel_rfl) rfl #[] (by rfl) rfl rfl (by (try simp only [List.map_toArray, List.map_cons, List.map_nil]); first | done | rfl | (simp only [List.length_drop, List.length_take]; rfl)) ?_
                    with_reducible refine (castellanlaw8_known.calls  t166 _ A40.out).mono ?_
                    rintro e w53 ⟨rfl, hb⟩
                    refine ⟨_, rfl, ?_⟩
                    have n0_ := Aside0.mk (blk_below (g := gb126) (o := .cells #[.int .i64 a0_0, .int .i64 a0_1, .bool a0_2, .bool a0_3, .int .i64 a0_4, .int .i64 a0_5, .int .i64 a0_6, .int .u32 a0_7, .int .u32 a0_8, .slice A0_9 l0_9.length c0_9, .slice A0_10 l0_10.length c0_10, .int .i64 a0_11, .int .i64 a0_12, .int .i64 a0_13, .int .i64 a0_14, .int .i64 a0_15, .int .i64 a0_16, .pointer a0_17] 29 (0, 0)) (by (with_reducible repeat (first | refine blk_drewN ?_ _ | refine blk_drew ?_ | refine blk_alloc ?_ _)); exact BK126.out) hb)
                    have n1_ := Aside0.mk (blk_below (g := gb127) (o := .cells #[.int .i64 a1_0, .int .i64 a1_1, .bool a1_2, .bool a1_3, .int .i64 a1_4, .int .i64 a1_5, .int .i64 a1_6, .int .u32 a1_7, .int .u32 a1_8, .slice A1_9 l1_9.length c1_9, .slice A1_10 l1_10.length c1_10, .int .i64 a1_11, .int .i64 a1_12, .int .i64 a1_13, .int .i64 a1_14, .int .i64 a1_15, .int .i64 a1_16, .pointer a1_17] 29 (0, 0)) (by (with_reducible repeat (first | refine blk_drewN ?_ _ | refine blk_drew ?_ | refine blk_alloc ?_ _)); exact BK127.out) hb)
                    have n2_ := Aside0.mk (blk_below (g := gb128) (o := .cells #[.int .i64 a2_0, .int .u32 a2_1, .int .u32 a2_2, .int .i64 a2_3, .int .i64 a2_4] 35 (0, 0)) (by (with_reducible repeat (first | refine blk_drewN ?_ _ | refine blk_drew ?_ | refine blk_alloc ?_ _)); exact BK128.out) hb)
                    have n3_ := Aside0.mk (below_step (by repeat (first | (with_reducible first | exact HB.out | apply below_alloc | apply pw_below_drewN | apply below_drew1 | refine below_set ?_ GE126.out | refine below_set ?_ GE127.out | refine below_set ?_ GE128.out) | exact HB.out)) hb)
                    clear BK126
                    clear BK127
                    clear BK128
                    clear HB
                    have BK126 := n0_
                    have BK127 := n1_
                    have BK128 := n2_
                    have HB := n3_
                    clear n0_ n1_ n2_ n3_
                    (try clear hb)
                    (try clear hb2)
                    (try clear hk)
                    (try clear hi)
                    refine hK.out _ _ ⟨BK126.out, BK128.out, BK127.out⟩ (fun hHeld => ?_)
                    clear hK K
                    refine norm_ (a' := ?_) ?_ ?_
                    rotate_left
                    · show Act.put _ (some 58) _ = _
                      simp only [Act.put, List.setIfInBounds_toArray, List.set_cons_zero, List.set_cons_succ, i64_w, i32_w]
                      rfl
                    refine pure_ (i := 44) (N := some 59) (v := ?_) (a' := ?_) #[true, true, true, true, true, true, true, true, true, true, true, true, true, true, true, true, true, true, true, true, true, true, true, true, true, true, true, true, true, true, true, true, true, true, true, true, true, true, true, true, true, true, true, true, true, false] rfl rfl (any_of HT_.out (by kernel_rfl)) (fun _ _ _ h => h) (Or.inl ⟨by rfl, ?_⟩) ?_ ?_
                    rotate_left
                    · intro w'
                      go_simp
                      with_reducible rfl
                    rotate_left
                    · simp only [Act.put, List.setIfInBounds_toArray, List.set_cons_zero, List.set_cons_succ, i64_w, i32_w]
                      rfl
                    refine pure_ (i := 45) (N := some 6) (v := ?_) (a' := ?_) #[true, true, true, true, true, true, true, true, true, true, true, true, true, true, true, true, true, true, true, true, true, true, true, true, true, true, true, true, true, true, true, true, true, true, true, true, true, true, true, true, true, true, true, true, true, true] rfl rfl (any_of HT_.out (by kernel_rfl)) (fun _ _ _ h => h) (Or.inl ⟨by rfl, ?_⟩) ?_ ?_
                    rotate_left
                    · intro w'
                      go_simp
                      with_reducible rfl
                    rotate_left
                    · simp only [Act.put, List.setIfInBounds_toArray, List.set_cons_zero, List.set_cons_succ, i64_w, i32_w]
                      rfl
                    refine done_ (done_of HT_.out (by kernel_rfl)) ?_
                    try go_wp2
                    go_ret
                    exact ⟨by first | rfl | (simp [errW_none, errW_some] <;> rfl) | (simp [*, errW_none, errW_some] <;> rfl), by repeat (first | (with_reducible first | exact HB.out | apply below_alloc | apply pw_below_drewN | apply below_drew1 | refine below_set ?_ GE126.out | refine below_set ?_ GE127.out | refine below_set ?_ GE128.out) | exact HB.out)⟩
                  · replace c39 := Bool.eq_false_iff.mpr c39
                    subst c39
                    have H1 : (some false) = some r := by rw [if_neg (show ¬ (false = true) by decide)] at H; exact H
                    clear H
                    have H := H1
                    clear H1
                    exact absurd (H.trans (congrArg some HRT.out)) (by simp)
                · rw [if_neg c37] at H
                  have c37b0 : (t163 == t164) = false := by simpa using c37
                  (try (have c37b1 : decide (t163 = t164) = false := by simpa using c37))
                  (try (have c37b2 : (t163 == t164) = false := by simpa using c37))
                  (try (have c37b3 : ¬ (t163 = t164) := by simpa using c37))
                  clear c37
                  exact absurd (H.trans (congrArg some HRT.out)) (by simp)
              · rw [if_neg c34] at H
                have c34b0 : (t161 == t162) = false := beq_eq_false_iff_ne.mpr c34
                have c34b1 : (t161 != t162) = true := bne_iff_ne.mpr c34
                exact absurd (H.trans (congrArg some HRT.out)) (by simp)
            · rw [if_neg c31] at H
              have c31b0 : (t156 == a2_0 && (t157 == a2_1 && (t158 == a2_2 && (t159 == a2_3 && (t160 == a2_4))))) = false := by simpa using c31
              (try (have c31b1 : decide (t156 = a2_0 && (t157 == a2_1 && (t158 == a2_2 && (t159 == a2_3 && (t160 == a2_4))))) = false := by simpa using c31))
              (try (have c31b2 : (t156 == a2_0 && (t157 == a2_1 && (t158 == a2_2 && (t159 == a2_3 && (t160 == a2_4))))) = false := by simpa using c31))
              (try (have c31b3 : ¬ (t156 = a2_0 && (t157 == a2_1 && (t158 == a2_2 && (t159 == a2_3 && (t160 == a2_4))))) := by simpa using c31))
              clear c31
              exact absurd (H.trans (congrArg some HRT.out)) (by simp)
          · rw [if_neg c28] at H
            have c28b0 : (t141 == t146 && (t142 == t147 && (t143 == t148 && (t144 == t149 && (t145 == t150))))) = false := by simpa using c28
            (try (have c28b1 : decide (t141 = t146 && (t142 == t147 && (t143 == t148 && (t144 == t149 && (t145 == t150))))) = false := by simpa using c28))
            (try (have c28b2 : (t141 == t146 && (t142 == t147 && (t143 == t148 && (t144 == t149 && (t145 == t150))))) = false := by simpa using c28))
            (try (have c28b3 : ¬ (t141 = t146 && (t142 == t147 && (t143 == t148 && (t144 == t149 && (t145 == t150))))) := by simpa using c28))
            clear c28
            exact absurd (H.trans (congrArg some HRT.out)) (by simp)
        · rw [if_neg c25] at H
          have c25b0 : (t131 == t136 && (t132 == t137 && (t133 == t138 && (t134 == t139 && (t135 == t140))))) = false := by simpa using c25
          (try (have c25b1 : decide (t131 = t136 && (t132 == t137 && (t133 == t138 && (t134 == t139 && (t135 == t140))))) = false := by simpa using c25))
          (try (have c25b2 : (t131 == t136 && (t132 == t137 && (t133 == t138 && (t134 == t139 && (t135 == t140))))) = false := by simpa using c25))
          (try (have c25b3 : ¬ (t131 = t136 && (t132 == t137 && (t133 == t138 && (t134 == t139 && (t135 == t140))))) := by simpa using c25))
          clear c25
          exact absurd (H.trans (congrArg some HRT.out)) (by simp)

end Go.Proofs.Ytkdibloahkhgoaa.QPackKeys
