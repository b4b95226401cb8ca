-- written by myprint.py, a program of this session's over the kit's printer
import Derived.Test.YtbpnienknijogaaQIpBoundsx0
import Derived.Test.YtbpnienknijogaaQIpBoundsx4
import Derived.Test.YtbpnienknijogaaQIpBoundsx5
namespace Go.Proofs.Ytbpnienknijogaa.QIpBounds
open Go.RowKit Go.Proofs.YtbpnienknijogaaW.PrintWords Go.Proofs.YtbpnienknijogaaW.PrintLast Go.Proofs.YtbpnienknijogaaW.PrintMore
attribute [local go_sem] max2_int min2_int max_two min_two max_three min_three max_four min_four   -- for this text's walks alone
set_option linter.unusedVariables false
set_option linter.unusedSimpArgs false

/-! ### castellanlaw4_IpBounds: function 11 -/
def castellanlaw4_IpBounds.j0 : Nat → Int → Bool → Int → Int → Bool → Bool → Int → Int → Int → Int → Int → List Int → List Int → Option (Bool)
  | 0, _, _, _, _, _, _, _, _, _, _, _, _, _ => none
  | k + 1, x1, x21, x227000, x227001, x227002, x227003, x227004, x227005, x227006, x227007, x227008, x227009, x227010 => if x21 = true then (some true) else (if x1 = 0 then ((ip_Build.f k 256 x227001 x227002 x227003 x227004 x227005 x227006 x227007 x227008 x227009 x227010).bind fun bt229 => (if bt229.2 = 1 then (if (bt229.1.length : Int) = 0 then ((castellanlaw4_known.f k).bind fun t233 => (some t233)) else (some false)) else (some false))) else (if x1 = 1 then ((ip_Build.f k x227000 (-1) x227002 x227003 x227004 x227005 x227006 x227007 x227008 x227009 x227010).bind fun bt234 => (if bt234.2 = 1 then (if (bt234.1.length : Int) = 0 then ((castellanlaw4_known.f k).bind fun t238 => (some t238)) else (some false)) else (some false))) else (if x1 = 2 then ((ip_Build.f k x227000 x227001 x227002 x227003 8192 x227005 x227006 x227007 x227008 x227009 x227010).bind fun bt239 => (if bt239.2 = 1 then (if (bt239.1.length : Int) = 0 then ((castellanlaw4_known.f k).bind fun t243 => (some t243)) else (some false)) else (some false))) else (if x1 = 3 then ((ip_Build.f k x227000 x227001 x227002 x227003 x227004 256 x227006 x227007 x227008 x227009 x227010).bind fun bt244 => (if bt244.2 = 1 then (if (bt244.1.length : Int) = 0 then ((castellanlaw4_known.f k).bind fun t248 => (some t248)) else (some false)) else (some false))) else (if x1 = 4 then ((ip_Build.f k x227000 x227001 x227002 x227003 x227004 x227005 (-1) x227007 x227008 x227009 x227010).bind fun bt249 => (if bt249.2 = 1 then (if (bt249.1.length : Int) = 0 then ((castellanlaw4_known.f k).bind fun t253 => (some t253)) else (some false)) else (some false))) else ((some (([] : List Int) : List Int)).bind fun y254 => (if y254.length + x227009.length < 140737488355328 then ((some (y254 ++ x227009 : List Int)).bind fun y257 => (if y257.length < 140737488355328 then ((ip_Build.f k x227000 x227001 x227002 x227003 x227004 x227005 x227006 x227007 x227008 (y257 ++ [1]) x227010).bind fun bt263 => (if bt263.2 = 1 then (if (bt263.1.length : Int) = 0 then ((castellanlaw4_known.f k).bind fun t267 => (some t267)) else (some false)) else (some false))) else (none))) else (none))))))))
def castellanlaw4_IpBounds.f (k : Nat) (a0_0 : Int) (a0_1 : Int) (a0_2 : Bool) (a0_3 : Bool) (a0_4 : Int) (a0_5 : Int) (a0_6 : Int) (a0_7 : Int) (a0_8 : Int) (l0_9 : List Int) (l0_10 : List Int) (a1 : Int) : Option (Bool) := (castellanlaw4_long.f a0_0 a0_1 a0_2 a0_3 a0_4 a0_5 a0_6 a0_7 a0_8 l0_9 l0_10).bind fun t227 => (if t227 = true then (castellanlaw4_IpBounds.j0 k a1 true a0_0 a0_1 a0_2 a0_3 a0_4 a0_5 a0_6 a0_7 a0_8 l0_9 l0_10) else ((castellanref4_Is.f a0_0 a0_1 a0_2 a0_3 a0_4 a0_5 a0_6 a0_7 a0_8 l0_9 l0_10).bind fun t228 => (if t228 = true then (if a1 < 0 then (castellanlaw4_IpBounds.j0 k a1 true a0_0 a0_1 a0_2 a0_3 a0_4 a0_5 a0_6 a0_7 a0_8 l0_9 l0_10) else (castellanlaw4_IpBounds.j0 k a1 (decide (a1 > 5)) a0_0 a0_1 a0_2 a0_3 a0_4 a0_5 a0_6 a0_7 a0_8 l0_9 l0_10)) else (castellanlaw4_IpBounds.j0 k a1 true a0_0 a0_1 a0_2 a0_3 a0_4 a0_5 a0_6 a0_7 a0_8 l0_9 l0_10))))
theorem castellanlaw4_IpBounds.mono_l : ∀ k, (∀ y0 y1 y2 y3 y4 y5 y6 y7 y8 y9 y10 y11 y12, LeO (castellanlaw4_IpBounds.j0 k y0 y1 y2 y3 y4 y5 y6 y7 y8 y9 y10 y11 y12) (castellanlaw4_IpBounds.j0 (k + 1) y0 y1 y2 y3 y4 y5 y6 y7 y8 y9 y10 y11 y12))
  | 0 => fun _ _ _ _ _ _ _ _ _ _ _ _ _ r h => by simp [castellanlaw4_IpBounds.j0] at h
  | k + 1 => by
    have ih0 := castellanlaw4_IpBounds.mono_l k
    · intro y0 y1 y2 y3 y4 y5 y6 y7 y8 y9 y10 y11 y12
      unfold castellanlaw4_IpBounds.j0
      repeat' first
      | (with_reducible exact ih0 _ _ _ _ _ _ _ _ _ _ _ _ _)
      | (with_reducible exact castellanlaw4_known.mono _)
      | (with_reducible exact ip_Build.mono _ _ _ _ _ _ _ _ _ _ _ _)
      | (with_reducible exact LeO.refl _)
      | (with_reducible exact LeO.none _)
      | (with_reducible refine LeO.ite ?_ ?_)
      | (with_reducible refine LeO.bind ?_ (fun _ => ?_))
      | exact ih0 _ _ _ _ _ _ _ _ _ _ _ _ _
      | exact castellanlaw4_known.mono _
      | exact ip_Build.mono _ _ _ _ _ _ _ _ _ _ _ _
      | exact LeO.none _
      | refine LeO.ite ?_ ?_
      | refine LeO.bind ?_ (fun _ => ?_)
theorem castellanlaw4_IpBounds.mono : ∀ a0 a1 a2 a3 a4 a5 a6 a7 a8 a9 a10 a11 k, LeO (castellanlaw4_IpBounds.f k a0 a1 a2 a3 a4 a5 a6 a7 a8 a9 a10 a11) (castellanlaw4_IpBounds.f (k + 1) a0 a1 a2 a3 a4 a5 a6 a7 a8 a9 a10 a11) := by
  intro a0 a1 a2 a3 a4 a5 a6 a7 a8 a9 a10 a11 k
  have ih0 := castellanlaw4_IpBounds.mono_l k
  unfold castellanlaw4_IpBounds.f
  repeat' first
      | (with_reducible exact ih0 _ _ _ _ _ _ _ _ _ _ _ _ _)
      | (with_reducible exact castellanlaw4_known.mono _)
      | (with_reducible exact ip_Build.mono _ _ _ _ _ _ _ _ _ _ _ _)
      | (with_reducible exact LeO.refl _)
      | (with_reducible exact LeO.none _)
      | (with_reducible refine LeO.ite ?_ ?_)
      | (with_reducible refine LeO.bind ?_ (fun _ => ?_))
      | exact ih0 _ _ _ _ _ _ _ _ _ _ _ _ _
      | exact castellanlaw4_known.mono _
      | exact ip_Build.mono _ _ _ _ _ _ _ _ _ _ _ _
      | exact LeO.none _
      | refine LeO.ite ?_ ?_
      | refine LeO.bind ?_ (fun _ => ?_)
set_option maxHeartbeats 8000000 in
set_option maxRecDepth 100000 in
theorem castellanlaw4_IpBounds.calls (k : Nat) (a0_0 : Int) (a0_1 : Int) (a0_2 : Bool) (a0_3 : Bool) (a0_4 : Int) (a0_5 : Int) (a0_6 : Int) (a0_7 : Int) (a0_8 : Int) (A0_9 : Option Addr) (c0_9 : Nat) (l0_9 : List Int) (A0_10 : Option Addr) (c0_10 : Nat) (l0_10 : List Int) (a1 : Int) (r : Bool) (w : World) (hr0_9 : Kd.C (Kd.int .u8) w A0_9 l0_9.length l0_9) (hc0_9 : l0_9.length ≤ c0_9) (hr0_10 : Kd.C (Kd.int .u8) w A0_10 l0_10.length l0_10) (hc0_10 : l0_10.length ≤ c0_10) (hrt : r = true) (h : castellanlaw4_IpBounds.f k a0_0 a0_1 a0_2 a0_3 a0_4 a0_5 a0_6 a0_7 a0_8 l0_9 l0_10 a1 = some r) :
    Calls Try.prog 11 #[.agg #[.int .i64 a0_0, .int .i64 a0_1, .bool a0_2, .bool a0_3, .int .i64 a0_4, .int .i64 a0_5, .int .i64 a0_6, .int .u32 a0_7, .int .u32 a0_8, .slice A0_9 l0_9.length c0_9, .slice A0_10 l0_10.length c0_10], .int .i64 a1] w fun e w' => e = .returned (.bool r) ∧ Below w.heap.size w w' := by
  have hu45 := Try.underlying45
  have HRT := Aside0.mk hrt
  clear hrt
  have HR0_9 := Aside0.mk hr0_9
  have HC0_9 := Aside0.mk hc0_9
  clear hr0_9 hc0_9
  have HR0_10 := Aside0.mk hr0_10
  have HC0_10 := Aside0.mk hc0_10
  clear hr0_10 hc0_10
  have HB := Aside0.mk (Below.refl w.heap.size w)
  have H : ((castellanlaw4_long.f a0_0 a0_1 a0_2 a0_3 a0_4 a0_5 a0_6 a0_7 a0_8 l0_9 l0_10).bind fun t227 => (if t227 = true then (castellanlaw4_IpBounds.j0 k a1 true a0_0 a0_1 a0_2 a0_3 a0_4 a0_5 a0_6 a0_7 a0_8 l0_9 l0_10) else ((castellanref4_Is.f a0_0 a0_1 a0_2 a0_3 a0_4 a0_5 a0_6 a0_7 a0_8 l0_9 l0_10).bind fun t228 => (if t228 = true then (if a1 < 0 then (castellanlaw4_IpBounds.j0 k a1 true a0_0 a0_1 a0_2 a0_3 a0_4 a0_5 a0_6 a0_7 a0_8 l0_9 l0_10) else (castellanlaw4_IpBounds.j0 k a1 (decide (a1 > 5)) a0_0 a0_1 a0_2 a0_3 a0_4 a0_5 a0_6 a0_7 a0_8 l0_9 l0_10)) else (castellanlaw4_IpBounds.j0 k a1 true a0_0 a0_1 a0_2 a0_3 a0_4 a0_5 a0_6 a0_7 a0_8 l0_9 l0_10))))) = some r := h
  clear h
  have HC3 := Aside0.mk H
  clear H
  go_enter Try.func11, Try.ntmps11
  go_upto_region 1 with (first | ((with_reducible refine gate_dst (N := 2) rfl ?_); (try (refine gate_guard (by rfl) ?_; dsimp only)); refine box_event ?hg (N := 2) ?hd (cs := #[.int .i64 a0_0, .int .i64 a0_1, .bool a0_2, .bool a0_3, .int .i64 a0_4, .int .i64 a0_5, .int .i64 a0_6, .int .u32 a0_7, .int .u32 a0_8, .slice A0_9 l0_9.length c0_9, .slice A0_10 l0_10.length c0_10]) (t := 45) ?hr ?_; (case hd => rfl); (case hg => rfl); (case hr => first | (go_simp; done) | (go_simp; rfl)); intro gb226 hg w4 hbox hb; have n0_ := Aside0.mk (below_step (by repeat (first | (with_reducible first | exact HB.out | apply below_alloc | apply pw_below_drewN | apply below_drew1) | exact HB.out)) hb); have n1_ := Aside0.mk (hbox); have n2_ := Aside0.mk ((by rw [hg]; exact (below_size (by repeat (first | (with_reducible first | exact HB.out | apply below_alloc | apply pw_below_drewN | apply below_drew1) | exact HB.out))) : w.heap.size ≤ gb226)); have n3_ := Aside0.mk ((by rw [hg]; exact (below_size (by repeat (first | (with_reducible first | exact HB.out | apply below_alloc | apply pw_below_drewN | apply below_drew1) | exact HB.out))) : w.heap.size ≤ gb226)); clear HB; have HB := n0_; have BK226 := n1_; have GW226 := n2_; have GE226 := n3_; clear n0_ n1_ n2_ n3_; clear hb hbox hg))
  (try simp only [Act.put, List.setIfInBounds_toArray, List.set_cons_zero, List.set_cons_succ])
  go_cut [21] (fun v21 wc => ∃ (kq : Nat) (x21_2 : Bool), v21 = .bool x21_2 ∧ Aside0 (castellanlaw4_IpBounds.j0 kq a1 x21_2 a0_0 a0_1 a0_2 a0_3 a0_4 a0_5 a0_6 a0_7 a0_8 l0_9 l0_10 = some r) ∧ Aside0 (kq ≤ k) ∧ Aside0 (wc.heap[gb226]? = some (.cells #[.int .i64 a0_0, .int .i64 a0_1, .bool a0_2, .bool a0_3, .int .i64 a0_4, .int .i64 a0_5, .int .i64 a0_6, .int .u32 a0_7, .int .u32 a0_8, (.slice A0_9 l0_9.length c0_9), (.slice A0_10 l0_10.length c0_10)] 45 (0, 0))) ∧ Aside0 (Below w.heap.size w wc))
  case first =>
    have H := HC3.out
    clear HC3
    replace H := Option.bind_eq_some_iff.mp H
    obtain ⟨t227, A50, H⟩ := H
    replace H : (if t227 = true then (castellanlaw4_IpBounds.j0 k a1 true a0_0 a0_1 a0_2 a0_3 a0_4 a0_5 a0_6 a0_7 a0_8 l0_9 l0_10) else ((castellanref4_Is.f a0_0 a0_1 a0_2 a0_3 a0_4 a0_5 a0_6 a0_7 a0_8 l0_9 l0_10).bind fun t228 => (if t228 = true then (if a1 < 0 then (castellanlaw4_IpBounds.j0 k a1 true a0_0 a0_1 a0_2 a0_3 a0_4 a0_5 a0_6 a0_7 a0_8 l0_9 l0_10) else (castellanlaw4_IpBounds.j0 k a1 (decide (a1 > 5)) a0_0 a0_1 a0_2 a0_3 a0_4 a0_5 a0_6 a0_7 a0_8 l0_9 l0_10)) else (castellanlaw4_IpBounds.j0 k a1 true a0_0 a0_1 a0_2 a0_3 a0_4 a0_5 a0_6 a0_7 a0_8 l0_9 l0_10)))) = some r := H
    have A5 := Aside0.mk A50
    clear A50
    by_cases c6 : t227 = true
    · subst c6
      have H1 : (castellanlaw4_IpBounds.j0 k a1 true a0_0 a0_1 a0_2 a0_3 a0_4 a0_5 a0_6 a0_7 a0_8 l0_9 l0_10) = some r := by rw [if_pos rfl] at H; exact H
      clear H
      have H := H1
      clear H1
      have H' := Aside0.mk H
      clear H
      have hcz7_0 : w4.cell? ⟨gb226, 0, none⟩ = some (.int .i64 a0_0) := (blk_cell BK226.out 0).trans rfl
      have hcz7_1 : w4.cell? ⟨gb226, 1, none⟩ = some (.int .i64 a0_1) := (blk_cell BK226.out 1).trans rfl
      have hcz7_2 : w4.cell? ⟨gb226, 2, none⟩ = some (.bool a0_2) := (blk_cell BK226.out 2).trans rfl
      have hcz7_3 : w4.cell? ⟨gb226, 3, none⟩ = some (.bool a0_3) := (blk_cell BK226.out 3).trans rfl
      have hcz7_4 : w4.cell? ⟨gb226, 4, none⟩ = some (.int .i64 a0_4) := (blk_cell BK226.out 4).trans rfl
      have hcz7_5 : w4.cell? ⟨gb226, 5, none⟩ = some (.int .i64 a0_5) := (blk_cell BK226.out 5).trans rfl
      have hcz7_6 : w4.cell? ⟨gb226, 6, none⟩ = some (.int .i64 a0_6) := (blk_cell BK226.out 6).trans rfl
      have hcz7_7 : w4.cell? ⟨gb226, 7, none⟩ = some (.int .u32 a0_7) := (blk_cell BK226.out 7).trans rfl
      have hcz7_8 : w4.cell? ⟨gb226, 8, none⟩ = some (.int .u32 a0_8) := (blk_cell BK226.out 8).trans rfl
      have hcz7_9 : w4.cell? ⟨gb226, 9, none⟩ = some (.slice A0_9 l0_9.length c0_9) := (blk_cell BK226.out 9).trans rfl
      have hcz7_10 : w4.cell? ⟨gb226, 10, none⟩ = some (.slice A0_10 l0_10.length c0_10) := (blk_cell BK226.out 10).trans rfl
      have hfz7_0 := blk_frozen BK226.out 0
      have hfz7_1 := blk_frozen BK226.out 1
      have hfz7_2 := blk_frozen BK226.out 2
      have hfz7_3 := blk_frozen BK226.out 3
      have hfz7_4 := blk_frozen BK226.out 4
      have hfz7_5 := blk_frozen BK226.out 5
      have hfz7_6 := blk_frozen BK226.out 6
      have hfz7_7 := blk_frozen BK226.out 7
      have hfz7_8 := blk_frozen BK226.out 8
      have hfz7_9 := blk_frozen BK226.out 9
      have hfz7_10 := blk_frozen BK226.out 10
      go_wp2_with (first | ((with_reducible refine gate_callee (f := 30) rfl ?_); refine goesL_ (some 8) rfl rfl Try.func30 (by kernel_rfl) rfl #[.agg #[.int .i64 a0_0, .int .i64 a0_1, .bool a0_2, .bool a0_3, .int .i64 a0_4, .int .i64 a0_5, .int .i64 a0_6, .int .u32 a0_7, .int .u32 a0_8, .slice A0_9 l0_9.length c0_9, .slice A0_10 l0_10.length c0_10]] rfl (by (try simp only [List.map_toArray, List.map_cons, List.map_nil]); first | done | rfl | (simp only [List.length_drop, List.length_take]; rfl)) ?_; (with_reducible refine (castellanlaw4_long.calls a0_0 a0_1 a0_2 a0_3 a0_4 a0_5 a0_6 a0_7 a0_8 _ _ l0_9 _ _ l0_10 true _ ?side1 ?side2 ?side3 ?side4 A5.out).mono ?_); (case side1 => repeat (first | exact (Kd.C_below HR0_9.out HB.out) | (with_reducible refine Kd.C_alloc ?_ _) | (with_reducible refine Kd.C_drewN ?_ _) | (with_reducible refine Kd.C_drew ?_))); (case side2 => exact HC0_9.out); (case side3 => repeat (first | exact (Kd.C_below HR0_10.out HB.out) | (with_reducible refine Kd.C_alloc ?_ _) | (with_reducible refine Kd.C_drewN ?_ _) | (with_reducible refine Kd.C_drew ?_))); (case side4 => exact HC0_10.out); rintro e w8 ⟨rfl, hb⟩; refine ⟨_, rfl, ?_⟩; have n0_ := Aside0.mk (blk_below (g := gb226) (o := .cells #[.int .i64 a0_0, .int .i64 a0_1, .bool a0_2, .bool a0_3, .int .i64 a0_4, .int .i64 a0_5, .int .i64 a0_6, .int .u32 a0_7, .int .u32 a0_8, .slice A0_9 l0_9.length c0_9, .slice A0_10 l0_10.length c0_10] 45 (0, 0)) (by (with_reducible repeat (first | refine blk_drewN ?_ _ | refine blk_drew ?_ | refine blk_alloc ?_ _)); exact BK226.out) hb); have n1_ := Aside0.mk (below_step (by repeat (first | (with_reducible first | exact HB.out | apply below_alloc | apply pw_below_drewN | apply below_drew1 | refine below_set ?_ GE226.out) | exact HB.out)) hb); clear BK226; clear HB; have BK226 := n0_; have HB := n1_; clear n0_ n1_; (try clear hb); (try clear hb2); (try clear hk); (try clear hi)))
      go_meet
      case rel => exact ⟨_, (true), (by first | rfl | (simp; done) | (simp [*]; done)), H', ⟨by first | omega | exact Nat.le_refl _⟩, ⟨by (with_reducible repeat (first | refine blk_drewN ?_ _ | refine blk_drew ?_ | refine blk_alloc ?_ _)); exact BK226.out⟩, ⟨by repeat (first | (with_reducible first | exact HB.out | apply below_alloc | apply pw_below_drewN | apply below_drew1 | refine below_set ?_ GE226.out) | exact HB.out)⟩⟩
    · replace c6 := Bool.eq_false_iff.mpr c6
      subst c6
      have H1 : ((castellanref4_Is.f a0_0 a0_1 a0_2 a0_3 a0_4 a0_5 a0_6 a0_7 a0_8 l0_9 l0_10).bind fun t228 => (if t228 = true then (if a1 < 0 then (castellanlaw4_IpBounds.j0 k a1 true a0_0 a0_1 a0_2 a0_3 a0_4 a0_5 a0_6 a0_7 a0_8 l0_9 l0_10) else (castellanlaw4_IpBounds.j0 k a1 (decide (a1 > 5)) a0_0 a0_1 a0_2 a0_3 a0_4 a0_5 a0_6 a0_7 a0_8 l0_9 l0_10)) else (castellanlaw4_IpBounds.j0 k a1 true a0_0 a0_1 a0_2 a0_3 a0_4 a0_5 a0_6 a0_7 a0_8 l0_9 l0_10))) = some r := by rw [if_neg (show ¬ (false = true) by decide)] at H; exact H
      clear H
      have H := H1
      clear H1
      replace H := Option.bind_eq_some_iff.mp H
      obtain ⟨t228, A90, H⟩ := H
      replace H : (if t228 = true then (if a1 < 0 then (castellanlaw4_IpBounds.j0 k a1 true a0_0 a0_1 a0_2 a0_3 a0_4 a0_5 a0_6 a0_7 a0_8 l0_9 l0_10) else (castellanlaw4_IpBounds.j0 k a1 (decide (a1 > 5)) a0_0 a0_1 a0_2 a0_3 a0_4 a0_5 a0_6 a0_7 a0_8 l0_9 l0_10)) else (castellanlaw4_IpBounds.j0 k a1 true a0_0 a0_1 a0_2 a0_3 a0_4 a0_5 a0_6 a0_7 a0_8 l0_9 l0_10)) = some r := H
      have A9 := Aside0.mk A90
      clear A90
      by_cases c10 : t228 = true
      · subst c10
        have H1 : (if a1 < 0 then (castellanlaw4_IpBounds.j0 k a1 true a0_0 a0_1 a0_2 a0_3 a0_4 a0_5 a0_6 a0_7 a0_8 l0_9 l0_10) else (castellanlaw4_IpBounds.j0 k a1 (decide (a1 > 5)) a0_0 a0_1 a0_2 a0_3 a0_4 a0_5 a0_6 a0_7 a0_8 l0_9 l0_10)) = some r := by rw [if_pos rfl] at H; exact H
        clear H
        have H := H1
        clear H1
        by_cases c11 : a1 < 0
        · rw [if_pos c11] at H
          have c11b0 : decide (a1 < 0) = true := decide_eq_true c11
          clear c11
          (first | rw [c11b0] | (simp only [i64_w, i32_w]; rw [c11b0]) | skip)
          have H' := Aside0.mk H
          clear H
          have hcz12_0 : w4.cell? ⟨gb226, 0, none⟩ = some (.int .i64 a0_0) := (blk_cell BK226.out 0).trans rfl
          have hcz12_1 : w4.cell? ⟨gb226, 1, none⟩ = some (.int .i64 a0_1) := (blk_cell BK226.out 1).trans rfl
          have hcz12_2 : w4.cell? ⟨gb226, 2, none⟩ = some (.bool a0_2) := (blk_cell BK226.out 2).trans rfl
          have hcz12_3 : w4.cell? ⟨gb226, 3, none⟩ = some (.bool a0_3) := (blk_cell BK226.out 3).trans rfl
          have hcz12_4 : w4.cell? ⟨gb226, 4, none⟩ = some (.int .i64 a0_4) := (blk_cell BK226.out 4).trans rfl
          have hcz12_5 : w4.cell? ⟨gb226, 5, none⟩ = some (.int .i64 a0_5) := (blk_cell BK226.out 5).trans rfl
          have hcz12_6 : w4.cell? ⟨gb226, 6, none⟩ = some (.int .i64 a0_6) := (blk_cell BK226.out 6).trans rfl
          have hcz12_7 : w4.cell? ⟨gb226, 7, none⟩ = some (.int .u32 a0_7) := (blk_cell BK226.out 7).trans rfl
          have hcz12_8 : w4.cell? ⟨gb226, 8, none⟩ = some (.int .u32 a0_8) := (blk_cell BK226.out 8).trans rfl
          have hcz12_9 : w4.cell? ⟨gb226, 9, none⟩ = some (.slice A0_9 l0_9.length c0_9) := (blk_cell BK226.out 9).trans rfl
          have hcz12_10 : w4.cell? ⟨gb226, 10, none⟩ = some (.slice A0_10 l0_10.length c0_10) := (blk_cell BK226.out 10).trans rfl
          have hfz12_0 := blk_frozen BK226.out 0
          have hfz12_1 := blk_frozen BK226.out 1
          have hfz12_2 := blk_frozen BK226.out 2
          have hfz12_3 := blk_frozen BK226.out 3
          have hfz12_4 := blk_frozen BK226.out 4
          have hfz12_5 := blk_frozen BK226.out 5
          have hfz12_6 := blk_frozen BK226.out 6
          have hfz12_7 := blk_frozen BK226.out 7
          have hfz12_8 := blk_frozen BK226.out 8
          have hfz12_9 := blk_frozen BK226.out 9
          have hfz12_10 := blk_frozen BK226.out 10
          go_wp2_with (first | ((with_reducible refine gate_callee (f := 30) rfl ?_); refine goesL_ (some 8) rfl rfl Try.func30 (by kernel_rfl) rfl #[.agg #[.int .i64 a0_0, .int .i64 a0_1, .bool a0_2, .bool a0_3, .int .i64 a0_4, .int .i64 a0_5, .int .i64 a0_6, .int .u32 a0_7, .int .u32 a0_8, .slice A0_9 l0_9.length c0_9, .slice A0_10 l0_10.length c0_10]] rfl (by (try simp only [List.map_toArray, List.map_cons, List.map_nil]); first | done | rfl | (simp only [List.length_drop, List.length_take]; rfl)) ?_; (with_reducible refine (castellanlaw4_long.calls a0_0 a0_1 a0_2 a0_3 a0_4 a0_5 a0_6 a0_7 a0_8 _ _ l0_9 _ _ l0_10 false _ ?side1 ?side2 ?side3 ?side4 A5.out).mono ?_); (case side1 => repeat (first | exact (Kd.C_below HR0_9.out HB.out) | (with_reducible refine Kd.C_alloc ?_ _) | (with_reducible refine Kd.C_drewN ?_ _) | (with_reducible refine Kd.C_drew ?_))); (case side2 => exact HC0_9.out); (case side3 => repeat (first | exact (Kd.C_below HR0_10.out HB.out) | (with_reducible refine Kd.C_alloc ?_ _) | (with_reducible refine Kd.C_drewN ?_ _) | (with_reducible refine Kd.C_drew ?_))); (case side4 => exact HC0_10.out); rintro e w13 ⟨rfl, hb⟩; refine ⟨_, rfl, ?_⟩; have n0_ := Aside0.mk (blk_below (g := gb226) (o := .cells #[.int .i64 a0_0, .int .i64 a0_1, .bool a0_2, .bool a0_3, .int .i64 a0_4, .int .i64 a0_5, .int .i64 a0_6, .int .u32 a0_7, .int .u32 a0_8, .slice A0_9 l0_9.length c0_9, .slice A0_10 l0_10.length c0_10] 45 (0, 0)) (by (with_reducible repeat (first | refine blk_drewN ?_ _ | refine blk_drew ?_ | refine blk_alloc ?_ _)); exact BK226.out) hb); have n1_ := Aside0.mk (below_step (by repeat (first | (with_reducible first | exact HB.out | apply below_alloc | apply pw_below_drewN | apply below_drew1 | refine below_set ?_ GE226.out) | exact HB.out)) hb); clear BK226; clear HB; have BK226 := n0_; have HB := n1_; clear n0_ n1_; (try clear hb); (try clear hb2); (try clear hk); (try clear hi); have hcz14_0 : w13.cell? ⟨gb226, 0, none⟩ = some (.int .i64 a0_0) := (blk_cell BK226.out 0).trans rfl; have hcz14_1 : w13.cell? ⟨gb226, 1, none⟩ = some (.int .i64 a0_1) := (blk_cell BK226.out 1).trans rfl; have hcz14_2 : w13.cell? ⟨gb226, 2, none⟩ = some (.bool a0_2) := (blk_cell BK226.out 2).trans rfl; have hcz14_3 : w13.cell? ⟨gb226, 3, none⟩ = some (.bool a0_3) := (blk_cell BK226.out 3).trans rfl; have hcz14_4 : w13.cell? ⟨gb226, 4, none⟩ = some (.int .i64 a0_4) := (blk_cell BK226.out 4).trans rfl; have hcz14_5 : w13.cell? ⟨gb226, 5, none⟩ = some (.int .i64 a0_5) := (blk_cell BK226.out 5).trans rfl; have hcz14_6 : w13.cell? ⟨gb226, 6, none⟩ = some (.int .i64 a0_6) := (blk_cell BK226.out 6).trans rfl; have hcz14_7 : w13.cell? ⟨gb226, 7, none⟩ = some (.int .u32 a0_7) := (blk_cell BK226.out 7).trans rfl; have hcz14_8 : w13.cell? ⟨gb226, 8, none⟩ = some (.int .u32 a0_8) := (blk_cell BK226.out 8).trans rfl; have hcz14_9 : w13.cell? ⟨gb226, 9, none⟩ = some (.slice A0_9 l0_9.length c0_9) := (blk_cell BK226.out 9).trans rfl; have hcz14_10 : w13.cell? ⟨gb226, 10, none⟩ = some (.slice A0_10 l0_10.length c0_10) := (blk_cell BK226.out 10).trans rfl; have hfz14_0 := blk_frozen BK226.out 0; have hfz14_1 := blk_frozen BK226.out 1; have hfz14_2 := blk_frozen BK226.out 2; have hfz14_3 := blk_frozen BK226.out 3; have hfz14_4 := blk_frozen BK226.out 4; have hfz14_5 := blk_frozen BK226.out 5; have hfz14_6 := blk_frozen BK226.out 6; have hfz14_7 := blk_frozen BK226.out 7; have hfz14_8 := blk_frozen BK226.out 8; have hfz14_9 := blk_frozen BK226.out 9; have hfz14_10 := blk_frozen BK226.out 10) | (go_at_call 31; (with_reducible refine (castellanref4_Is.calls a0_0 a0_1 a0_2 a0_3 a0_4 a0_5 a0_6 a0_7 a0_8 _ _ l0_9 _ _ l0_10 true _ ?side1 ?side2 ?side3 ?side4 A9.out).mono ?_); (case side1 => repeat (first | exact (Kd.C_below HR0_9.out HB.out) | (with_reducible refine Kd.C_alloc ?_ _) | (with_reducible refine Kd.C_drewN ?_ _) | (with_reducible refine Kd.C_drew ?_))); (case side2 => exact HC0_9.out); (case side3 => repeat (first | exact (Kd.C_below HR0_10.out HB.out) | (with_reducible refine Kd.C_alloc ?_ _) | (with_reducible refine Kd.C_drewN ?_ _) | (with_reducible refine Kd.C_drew ?_))); (case side4 => exact HC0_10.out); rintro e w15 ⟨rfl, hb⟩; have n0_ := Aside0.mk (blk_below (g := gb226) (o := .cells #[.int .i64 a0_0, .int .i64 a0_1, .bool a0_2, .bool a0_3, .int .i64 a0_4, .int .i64 a0_5, .int .i64 a0_6, .int .u32 a0_7, .int .u32 a0_8, .slice A0_9 l0_9.length c0_9, .slice A0_10 l0_10.length c0_10] 45 (0, 0)) (by (with_reducible repeat (first | refine blk_drewN ?_ _ | refine blk_drew ?_ | refine blk_alloc ?_ _)); exact BK226.out) hb); have n1_ := Aside0.mk (below_step (by repeat (first | (with_reducible first | exact HB.out | apply below_alloc | apply pw_below_drewN | apply below_drew1 | refine below_set ?_ GE226.out) | exact HB.out)) hb); clear BK226; clear HB; have BK226 := n0_; have HB := n1_; clear n0_ n1_; (try clear hb); (try clear hb2); (try clear hk); (try clear hi)))
          go_meet
          case rel => exact ⟨_, (true), (by first | rfl | (simp; done) | (simp [*]; done)), H', ⟨by first | omega | exact Nat.le_refl _⟩, ⟨by (with_reducible repeat (first | refine blk_drewN ?_ _ | refine blk_drew ?_ | refine blk_alloc ?_ _)); exact BK226.out⟩, ⟨by repeat (first | (with_reducible first | exact HB.out | apply below_alloc | apply pw_below_drewN | apply below_drew1 | refine below_set ?_ GE226.out) | exact HB.out)⟩⟩
        · rw [if_neg c11] at H
          have c11b0 : decide (a1 < 0) = false := decide_eq_false c11
          clear c11
          (first | rw [c11b0] | (simp only [i64_w, i32_w]; rw [c11b0]) | skip)
          have H' := Aside0.mk H
          clear H
          have hcz16_0 : w4.cell? ⟨gb226, 0, none⟩ = some (.int .i64 a0_0) := (blk_cell BK226.out 0).trans rfl
          have hcz16_1 : w4.cell? ⟨gb226, 1, none⟩ = some (.int .i64 a0_1) := (blk_cell BK226.out 1).trans rfl
          have hcz16_2 : w4.cell? ⟨gb226, 2, none⟩ = some (.bool a0_2) := (blk_cell BK226.out 2).trans rfl
          have hcz16_3 : w4.cell? ⟨gb226, 3, none⟩ = some (.bool a0_3) := (blk_cell BK226.out 3).trans rfl
          have hcz16_4 : w4.cell? ⟨gb226, 4, none⟩ = some (.int .i64 a0_4) := (blk_cell BK226.out 4).trans rfl
          have hcz16_5 : w4.cell? ⟨gb226, 5, none⟩ = some (.int .i64 a0_5) := (blk_cell BK226.out 5).trans rfl
          have hcz16_6 : w4.cell? ⟨gb226, 6, none⟩ = some (.int .i64 a0_6) := (blk_cell BK226.out 6).trans rfl
          have hcz16_7 : w4.cell? ⟨gb226, 7, none⟩ = some (.int .u32 a0_7) := (blk_cell BK226.out 7).trans rfl
          have hcz16_8 : w4.cell? ⟨gb226, 8, none⟩ = some (.int .u32 a0_8) := (blk_cell BK226.out 8).trans rfl
          have hcz16_9 : w4.cell? ⟨gb226, 9, none⟩ = some (.slice A0_9 l0_9.length c0_9) := (blk_cell BK226.out 9).trans rfl
          have hcz16_10 : w4.cell? ⟨gb226, 10, none⟩ = some (.slice A0_10 l0_10.length c0_10) := (blk_cell BK226.out 10).trans rfl
          have hfz16_0 := blk_frozen BK226.out 0
          have hfz16_1 := blk_frozen BK226.out 1
          have hfz16_2 := blk_frozen BK226.out 2
          have hfz16_3 := blk_frozen BK226.out 3
          have hfz16_4 := blk_frozen BK226.out 4
          have hfz16_5 := blk_frozen BK226.out 5
          have hfz16_6 := blk_frozen BK226.out 6
          have hfz16_7 := blk_frozen BK226.out 7
          have hfz16_8 := blk_frozen BK226.out 8
          have hfz16_9 := blk_frozen BK226.out 9
          have hfz16_10 := blk_frozen BK226.out 10
          go_wp2_with (first | ((with_reducible refine gate_callee (f := 30) rfl ?_); refine goesL_ (some 8) rfl rfl Try.func30 (by kernel_rfl) rfl #[.agg #[.int .i64 a0_0, .int .i64 a0_1, .bool a0_2, .bool a0_3, .int .i64 a0_4, .int .i64 a0_5, .int .i64 a0_6, .int .u32 a0_7, .int .u32 a0_8, .slice A0_9 l0_9.length c0_9, .slice A0_10 l0_10.length c0_10]] rfl (by (try simp only [List.map_toArray, List.map_cons, List.map_nil]); first | done | rfl | (simp only [List.length_drop, List.length_take]; rfl)) ?_; (with_reducible refine (castellanlaw4_long.calls a0_0 a0_1 a0_2 a0_3 a0_4 a0_5 a0_6 a0_7 a0_8 _ _ l0_9 _ _ l0_10 false _ ?side1 ?side2 ?side3 ?side4 A5.out).mono ?_); (case side1 => repeat (first | exact (Kd.C_below HR0_9.out HB.out) | (with_reducible refine Kd.C_alloc ?_ _) | (with_reducible refine Kd.C_drewN ?_ _) | (with_reducible refine Kd.C_drew ?_))); (case side2 => exact HC0_9.out); (case side3 => repeat (first | exact (Kd.C_below HR0_10.out HB.out) | (with_reducible refine Kd.C_alloc ?_ _) | (with_reducible refine Kd.C_drewN ?_ _) | (with_reducible refine Kd.C_drew ?_))); (case side4 => exact HC0_10.out); rintro e w17 ⟨rfl, hb⟩; refine ⟨_, rfl, ?_⟩; have n0_ := Aside0.mk (blk_below (g := gb226) (o := .cells #[.int .i64 a0_0, .int .i64 a0_1, .bool a0_2, .bool a0_3, .int .i64 a0_4, .int .i64 a0_5, .int .i64 a0_6, .int .u32 a0_7, .int .u32 a0_8, .slice A0_9 l0_9.length c0_9, .slice A0_10 l0_10.length c0_10] 45 (0, 0)) (by (with_reducible repeat (first | refine blk_drewN ?_ _ | refine blk_drew ?_ | refine blk_alloc ?_ _)); exact BK226.out) hb); have n1_ := Aside0.mk (below_step (by repeat (first | (with_reducible first | exact HB.out | apply below_alloc | apply pw_below_drewN | apply below_drew1 | refine below_set ?_ GE226.out) | exact HB.out)) hb); clear BK226; clear HB; have BK226 := n0_; have HB := n1_; clear n0_ n1_; (try clear hb); (try clear hb2); (try clear hk); (try clear hi); have hcz18_0 : w17.cell? ⟨gb226, 0, none⟩ = some (.int .i64 a0_0) := (blk_cell BK226.out 0).trans rfl; have hcz18_1 : w17.cell? ⟨gb226, 1, none⟩ = some (.int .i64 a0_1) := (blk_cell BK226.out 1).trans rfl; have hcz18_2 : w17.cell? ⟨gb226, 2, none⟩ = some (.bool a0_2) := (blk_cell BK226.out 2).trans rfl; have hcz18_3 : w17.cell? ⟨gb226, 3, none⟩ = some (.bool a0_3) := (blk_cell BK226.out 3).trans rfl; have hcz18_4 : w17.cell? ⟨gb226, 4, none⟩ = some (.int .i64 a0_4) := (blk_cell BK226.out 4).trans rfl; have hcz18_5 : w17.cell? ⟨gb226, 5, none⟩ = some (.int .i64 a0_5) := (blk_cell BK226.out 5).trans rfl; have hcz18_6 : w17.cell? ⟨gb226, 6, none⟩ = some (.int .i64 a0_6) := (blk_cell BK226.out 6).trans rfl; have hcz18_7 : w17.cell? ⟨gb226, 7, none⟩ = some (.int .u32 a0_7) := (blk_cell BK226.out 7).trans rfl; have hcz18_8 : w17.cell? ⟨gb226, 8, none⟩ = some (.int .u32 a0_8) := (blk_cell BK226.out 8).trans rfl; have hcz18_9 : w17.cell? ⟨gb226, 9, none⟩ = some (.slice A0_9 l0_9.length c0_9) := (blk_cell BK226.out 9).trans rfl; have hcz18_10 : w17.cell? ⟨gb226, 10, none⟩ = some (.slice A0_10 l0_10.length c0_10) := (blk_cell BK226.out 10).trans rfl; have hfz18_0 := blk_frozen BK226.out 0; have hfz18_1 := blk_frozen BK226.out 1; have hfz18_2 := blk_frozen BK226.out 2; have hfz18_3 := blk_frozen BK226.out 3; have hfz18_4 := blk_frozen BK226.out 4; have hfz18_5 := blk_frozen BK226.out 5; have hfz18_6 := blk_frozen BK226.out 6; have hfz18_7 := blk_frozen BK226.out 7; have hfz18_8 := blk_frozen BK226.out 8; have hfz18_9 := blk_frozen BK226.out 9; have hfz18_10 := blk_frozen BK226.out 10) | (go_at_call 31; (with_reducible refine (castellanref4_Is.calls a0_0 a0_1 a0_2 a0_3 a0_4 a0_5 a0_6 a0_7 a0_8 _ _ l0_9 _ _ l0_10 true _ ?side1 ?side2 ?side3 ?side4 A9.out).mono ?_); (case side1 => repeat (first | exact (Kd.C_below HR0_9.out HB.out) | (with_reducible refine Kd.C_alloc ?_ _) | (with_reducible refine Kd.C_drewN ?_ _) | (with_reducible refine Kd.C_drew ?_))); (case side2 => exact HC0_9.out); (case side3 => repeat (first | exact (Kd.C_below HR0_10.out HB.out) | (with_reducible refine Kd.C_alloc ?_ _) | (with_reducible refine Kd.C_drewN ?_ _) | (with_reducible refine Kd.C_drew ?_))); (case side4 => exact HC0_10.out); rintro e w19 ⟨rfl, hb⟩; have n0_ := Aside0.mk (blk_below (g := gb226) (o := .cells #[.int .i64 a0_0, .int .i64 a0_1, .bool a0_2, .bool a0_3, .int .i64 a0_4, .int .i64 a0_5, .int .i64 a0_6, .int .u32 a0_7, .int .u32 a0_8, .slice A0_9 l0_9.length c0_9, .slice A0_10 l0_10.length c0_10] 45 (0, 0)) (by (with_reducible repeat (first | refine blk_drewN ?_ _ | refine blk_drew ?_ | refine blk_alloc ?_ _)); exact BK226.out) hb); have n1_ := Aside0.mk (below_step (by repeat (first | (with_reducible first | exact HB.out | apply below_alloc | apply pw_below_drewN | apply below_drew1 | refine below_set ?_ GE226.out) | exact HB.out)) hb); clear BK226; clear HB; have BK226 := n0_; have HB := n1_; clear n0_ n1_; (try clear hb); (try clear hb2); (try clear hk); (try clear hi)))
          go_meet
          case rel => exact ⟨_, (decide (a1 > 5)), (by first | rfl | (simp; done) | (simp [*]; done)), H', ⟨by first | omega | exact Nat.le_refl _⟩, ⟨by (with_reducible repeat (first | refine blk_drewN ?_ _ | refine blk_drew ?_ | refine blk_alloc ?_ _)); exact BK226.out⟩, ⟨by repeat (first | (with_reducible first | exact HB.out | apply below_alloc | apply pw_below_drewN | apply below_drew1 | refine below_set ?_ GE226.out) | exact HB.out)⟩⟩
      · replace c10 := Bool.eq_false_iff.mpr c10
        subst c10
        have H1 : (castellanlaw4_IpBounds.j0 k a1 true a0_0 a0_1 a0_2 a0_3 a0_4 a0_5 a0_6 a0_7 a0_8 l0_9 l0_10) = some r := by rw [if_neg (show ¬ (false = true) by decide)] at H; exact H
        clear H
        have H := H1
        clear H1
        have H' := Aside0.mk H
        clear H
        have hcz20_0 : w4.cell? ⟨gb226, 0, none⟩ = some (.int .i64 a0_0) := (blk_cell BK226.out 0).trans rfl
        have hcz20_1 : w4.cell? ⟨gb226, 1, none⟩ = some (.int .i64 a0_1) := (blk_cell BK226.out 1).trans rfl
        have hcz20_2 : w4.cell? ⟨gb226, 2, none⟩ = some (.bool a0_2) := (blk_cell BK226.out 2).trans rfl
        have hcz20_3 : w4.cell? ⟨gb226, 3, none⟩ = some (.bool a0_3) := (blk_cell BK226.out 3).trans rfl
        have hcz20_4 : w4.cell? ⟨gb226, 4, none⟩ = some (.int .i64 a0_4) := (blk_cell BK226.out 4).trans rfl
        have hcz20_5 : w4.cell? ⟨gb226, 5, none⟩ = some (.int .i64 a0_5) := (blk_cell BK226.out 5).trans rfl
        have hcz20_6 : w4.cell? ⟨gb226, 6, none⟩ = some (.int .i64 a0_6) := (blk_cell BK226.out 6).trans rfl
        have hcz20_7 : w4.cell? ⟨gb226, 7, none⟩ = some (.int .u32 a0_7) := (blk_cell BK226.out 7).trans rfl
        have hcz20_8 : w4.cell? ⟨gb226, 8, none⟩ = some (.int .u32 a0_8) := (blk_cell BK226.out 8).trans rfl
        have hcz20_9 : w4.cell? ⟨gb226, 9, none⟩ = some (.slice A0_9 l0_9.length c0_9) := (blk_cell BK226.out 9).trans rfl
        have hcz20_10 : w4.cell? ⟨gb226, 10, none⟩ = some (.slice A0_10 l0_10.length c0_10) := (blk_cell BK226.out 10).trans rfl
        have hfz20_0 := blk_frozen BK226.out 0
        have hfz20_1 := blk_frozen BK226.out 1
        have hfz20_2 := blk_frozen BK226.out 2
        have hfz20_3 := blk_frozen BK226.out 3
        have hfz20_4 := blk_frozen BK226.out 4
        have hfz20_5 := blk_frozen BK226.out 5
        have hfz20_6 := blk_frozen BK226.out 6
        have hfz20_7 := blk_frozen BK226.out 7
        have hfz20_8 := blk_frozen BK226.out 8
        have hfz20_9 := blk_frozen BK226.out 9
        have hfz20_10 := blk_frozen BK226.out 10
        go_wp2_with (first | ((with_reducible refine gate_callee (f := 30) rfl ?_); refine goesL_ (some 8) rfl rfl Try.func30 (by kernel_rfl) rfl #[.agg #[.int .i64 a0_0, .int .i64 a0_1, .bool a0_2, .bool a0_3, .int .i64 a0_4, .int .i64 a0_5, .int .i64 a0_6, .int .u32 a0_7, .int .u32 a0_8, .slice A0_9 l0_9.length c0_9, .slice A0_10 l0_10.length c0_10]] rfl (by (try simp only [List.map_toArray, List.map_cons, List.map_nil]); first | done | rfl | (simp only [List.length_drop, List.length_take]; rfl)) ?_; (with_reducible refine (castellanlaw4_long.calls a0_0 a0_1 a0_2 a0_3 a0_4 a0_5 a0_6 a0_7 a0_8 _ _ l0_9 _ _ l0_10 false _ ?side1 ?side2 ?side3 ?side4 A5.out).mono ?_); (case side1 => repeat (first | exact (Kd.C_below HR0_9.out HB.out) | (with_reducible refine Kd.C_alloc ?_ _) | (with_reducible refine Kd.C_drewN ?_ _) | (with_reducible refine Kd.C_drew ?_))); (case side2 => exact HC0_9.out); (case side3 => repeat (first | exact (Kd.C_below HR0_10.out HB.out) | (with_reducible refine Kd.C_alloc ?_ _) | (with_reducible refine Kd.C_drewN ?_ _) | (with_reducible refine Kd.C_drew ?_))); (case side4 => exact HC0_10.out); rintro e w21 ⟨rfl, hb⟩; refine ⟨_, rfl, ?_⟩; have n0_ := Aside0.mk (blk_below (g := gb226) (o := .cells #[.int .i64 a0_0, .int .i64 a0_1, .bool a0_2, .bool a0_3, .int .i64 a0_4, .int .i64 a0_5, .int .i64 a0_6, .int .u32 a0_7, .int .u32 a0_8, .slice A0_9 l0_9.length c0_9, .slice A0_10 l0_10.length c0_10] 45 (0, 0)) (by (with_reducible repeat (first | refine blk_drewN ?_ _ | refine blk_drew ?_ | refine blk_alloc ?_ _)); exact BK226.out) hb); have n1_ := Aside0.mk (below_step (by repeat (first | (with_reducible first | exact HB.out | apply below_alloc | apply pw_below_drewN | apply below_drew1 | refine below_set ?_ GE226.out) | exact HB.out)) hb); clear BK226; clear HB; have BK226 := n0_; have HB := n1_; clear n0_ n1_; (try clear hb); (try clear hb2); (try clear hk); (try clear hi); have hcz22_0 : w21.cell? ⟨gb226, 0, none⟩ = some (.int .i64 a0_0) := (blk_cell BK226.out 0).trans rfl; have hcz22_1 : w21.cell? ⟨gb226, 1, none⟩ = some (.int .i64 a0_1) := (blk_cell BK226.out 1).trans rfl; have hcz22_2 : w21.cell? ⟨gb226, 2, none⟩ = some (.bool a0_2) := (blk_cell BK226.out 2).trans rfl; have hcz22_3 : w21.cell? ⟨gb226, 3, none⟩ = some (.bool a0_3) := (blk_cell BK226.out 3).trans rfl; have hcz22_4 : w21.cell? ⟨gb226, 4, none⟩ = some (.int .i64 a0_4) := (blk_cell BK226.out 4).trans rfl; have hcz22_5 : w21.cell? ⟨gb226, 5, none⟩ = some (.int .i64 a0_5) := (blk_cell BK226.out 5).trans rfl; have hcz22_6 : w21.cell? ⟨gb226, 6, none⟩ = some (.int .i64 a0_6) := (blk_cell BK226.out 6).trans rfl; have hcz22_7 : w21.cell? ⟨gb226, 7, none⟩ = some (.int .u32 a0_7) := (blk_cell BK226.out 7).trans rfl; have hcz22_8 : w21.cell? ⟨gb226, 8, none⟩ = some (.int .u32 a0_8) := (blk_cell BK226.out 8).trans rfl; have hcz22_9 : w21.cell? ⟨gb226, 9, none⟩ = some (.slice A0_9 l0_9.length c0_9) := (blk_cell BK226.out 9).trans rfl; have hcz22_10 : w21.cell? ⟨gb226, 10, none⟩ = some (.slice A0_10 l0_10.length c0_10) := (blk_cell BK226.out 10).trans rfl; have hfz22_0 := blk_frozen BK226.out 0; have hfz22_1 := blk_frozen BK226.out 1; have hfz22_2 := blk_frozen BK226.out 2; have hfz22_3 := blk_frozen BK226.out 3; have hfz22_4 := blk_frozen BK226.out 4; have hfz22_5 := blk_frozen BK226.out 5; have hfz22_6 := blk_frozen BK226.out 6; have hfz22_7 := blk_frozen BK226.out 7; have hfz22_8 := blk_frozen BK226.out 8; have hfz22_9 := blk_frozen BK226.out 9; have hfz22_10 := blk_frozen BK226.out 10) | (go_at_call 31; (with_reducible refine (castellanref4_Is.calls a0_0 a0_1 a0_2 a0_3 a0_4 a0_5 a0_6 a0_7 a0_8 _ _ l0_9 _ _ l0_10 false _ ?side1 ?side2 ?side3 ?side4 A9.out).mono ?_); (case side1 => repeat (first | exact (Kd.C_below HR0_9.out HB.out) | (with_reducible refine Kd.C_alloc ?_ _) | (with_reducible refine Kd.C_drewN ?_ _) | (with_reducible refine Kd.C_drew ?_))); (case side2 => exact HC0_9.out); (case side3 => repeat (first | exact (Kd.C_below HR0_10.out HB.out) | (with_reducible refine Kd.C_alloc ?_ _) | (with_reducible refine Kd.C_drewN ?_ _) | (with_reducible refine Kd.C_drew ?_))); (case side4 => exact HC0_10.out); rintro e w23 ⟨rfl, hb⟩; have n0_ := Aside0.mk (blk_below (g := gb226) (o := .cells #[.int .i64 a0_0, .int .i64 a0_1, .bool a0_2, .bool a0_3, .int .i64 a0_4, .int .i64 a0_5, .int .i64 a0_6, .int .u32 a0_7, .int .u32 a0_8, .slice A0_9 l0_9.length c0_9, .slice A0_10 l0_10.length c0_10] 45 (0, 0)) (by (with_reducible repeat (first | refine blk_drewN ?_ _ | refine blk_drew ?_ | refine blk_alloc ?_ _)); exact BK226.out) hb); have n1_ := Aside0.mk (below_step (by repeat (first | (with_reducible first | exact HB.out | apply below_alloc | apply pw_below_drewN | apply below_drew1 | refine below_set ?_ GE226.out) | exact HB.out)) hb); clear BK226; clear HB; have BK226 := n0_; have HB := n1_; clear n0_ n1_; (try clear hb); (try clear hb2); (try clear hk); (try clear hi)))
        go_meet
        case rel => exact ⟨_, (true), (by first | rfl | (simp; done) | (simp [*]; done)), H', ⟨by first | omega | exact Nat.le_refl _⟩, ⟨by (with_reducible repeat (first | refine blk_drewN ?_ _ | refine blk_drew ?_ | refine blk_alloc ?_ _)); exact BK226.out⟩, ⟨by repeat (first | (with_reducible first | exact HB.out | apply below_alloc | apply pw_below_drewN | apply below_drew1 | refine below_set ?_ GE226.out) | exact HB.out)⟩⟩
  case rest =>
    clear HC3
    try clear c1
    try clear p2
    try clear c3
    try clear c6
    try clear c10
    try clear c11
    try clear c11b0
    try clear hcz12_0
    try clear hcz12_1
    try clear hcz12_10
    try clear hcz12_2
    try clear hcz12_3
    try clear hcz12_4
    try clear hcz12_5
    try clear hcz12_6
    try clear hcz12_7
    try clear hcz12_8
    try clear hcz12_9
    try clear hcz14_0
    try clear hcz14_1
    try clear hcz14_10
    try clear hcz14_2
    try clear hcz14_3
    try clear hcz14_4
    try clear hcz14_5
    try clear hcz14_6
    try clear hcz14_7
    try clear hcz14_8
    try clear hcz14_9
    try clear hcz16_0
    try clear hcz16_1
    try clear hcz16_10
    try clear hcz16_2
    try clear hcz16_3
    try clear hcz16_4
    try clear hcz16_5
    try clear hcz16_6
    try clear hcz16_7
    try clear hcz16_8
    try clear hcz16_9
    try clear hcz18_0
    try clear hcz18_1
    try clear hcz18_10
    try clear hcz18_2
    try clear hcz18_3
    try clear hcz18_4
    try clear hcz18_5
    try clear hcz18_6
    try clear hcz18_7
    try clear hcz18_8
    try clear hcz18_9
    try clear hcz20_0
    try clear hcz20_1
    try clear hcz20_10
    try clear hcz20_2
    try clear hcz20_3
    try clear hcz20_4
    try clear hcz20_5
    try clear hcz20_6
    try clear hcz20_7
    try clear hcz20_8
    try clear hcz20_9
    try clear hcz22_0
    try clear hcz22_1
    try clear hcz22_10
    try clear hcz22_2
    try clear hcz22_3
    try clear hcz22_4
    try clear hcz22_5
    try clear hcz22_6
    try clear hcz22_7
    try clear hcz22_8
    try clear hcz22_9
    try clear hcz7_0
    try clear hcz7_1
    try clear hcz7_10
    try clear hcz7_2
    try clear hcz7_3
    try clear hcz7_4
    try clear hcz7_5
    try clear hcz7_6
    try clear hcz7_7
    try clear hcz7_8
    try clear hcz7_9
    try clear hfz12_0
    try clear hfz12_1
    try clear hfz12_10
    try clear hfz12_2
    try clear hfz12_3
    try clear hfz12_4
    try clear hfz12_5
    try clear hfz12_6
    try clear hfz12_7
    try clear hfz12_8
    try clear hfz12_9
    try clear hfz14_0
    try clear hfz14_1
    try clear hfz14_10
    try clear hfz14_2
    try clear hfz14_3
    try clear hfz14_4
    try clear hfz14_5
    try clear hfz14_6
    try clear hfz14_7
    try clear hfz14_8
    try clear hfz14_9
    try clear hfz16_0
    try clear hfz16_1
    try clear hfz16_10
    try clear hfz16_2
    try clear hfz16_3
    try clear hfz16_4
    try clear hfz16_5
    try clear hfz16_6
    try clear hfz16_7
    try clear hfz16_8
    try clear hfz16_9
    try clear hfz18_0
    try clear hfz18_1
    try clear hfz18_10
    try clear hfz18_2
    try clear hfz18_3
    try clear hfz18_4
    try clear hfz18_5
    try clear hfz18_6
    try clear hfz18_7
    try clear hfz18_8
    try clear hfz18_9
    try clear hfz20_0
    try clear hfz20_1
    try clear hfz20_10
    try clear hfz20_2
    try clear hfz20_3
    try clear hfz20_4
    try clear hfz20_5
    try clear hfz20_6
    try clear hfz20_7
    try clear hfz20_8
    try clear hfz20_9
    try clear hfz22_0
    try clear hfz22_1
    try clear hfz22_10
    try clear hfz22_2
    try clear hfz22_3
    try clear hfz22_4
    try clear hfz22_5
    try clear hfz22_6
    try clear hfz22_7
    try clear hfz22_8
    try clear hfz22_9
    try clear hfz7_0
    try clear hfz7_1
    try clear hfz7_10
    try clear hfz7_2
    try clear hfz7_3
    try clear hfz7_4
    try clear hfz7_5
    try clear hfz7_6
    try clear hfz7_7
    try clear hfz7_8
    try clear hfz7_9
    obtain ⟨kq, x21_2, rfl, HA, HJ2, BK226, HB⟩ := hcut
    cases kq with
    | zero => exact absurd HA.out (by simp [castellanlaw4_IpBounds.j0])
    | succ kj2 =>
      have H := HA.out
      clear HA
      simp only [castellanlaw4_IpBounds.j0] at H
      by_cases c24 : x21_2 = true
      · subst c24
        have H1 : (some true) = some r := by rw [if_pos rfl] at H; exact H
        clear H
        have H := H1
        clear H1
        obtain rfl := Option.some.inj H
        go_wp2
        go_ret
        exact ⟨by first | rfl | (simp [errW_none, errW_some] <;> rfl) | (simp [*, errW_none, errW_some] <;> rfl), by repeat (first | (with_reducible first | exact HB.out | apply below_alloc | apply pw_below_drewN | apply below_drew1 | refine below_set ?_ GE226.out) | exact HB.out)⟩
      · replace c24 := Bool.eq_false_iff.mpr c24
        subst c24
        have H1 : (if a1 = 0 then ((ip_Build.f kj2 256 a0_1 a0_2 a0_3 a0_4 a0_5 a0_6 a0_7 a0_8 l0_9 l0_10).bind fun bt229 => (if bt229.2 = 1 then (if (bt229.1.length : Int) = 0 then ((castellanlaw4_known.f kj2).bind fun t233 => (some t233)) else (some false)) else (some false))) else (if a1 = 1 then ((ip_Build.f kj2 a0_0 (-1) a0_2 a0_3 a0_4 a0_5 a0_6 a0_7 a0_8 l0_9 l0_10).bind fun bt234 => (if bt234.2 = 1 then (if (bt234.1.length : Int) = 0 then ((castellanlaw4_known.f kj2).bind fun t238 => (some t238)) else (some false)) else (some false))) else (if a1 = 2 then ((ip_Build.f kj2 a0_0 a0_1 a0_2 a0_3 8192 a0_5 a0_6 a0_7 a0_8 l0_9 l0_10).bind fun bt239 => (if bt239.2 = 1 then (if (bt239.1.length : Int) = 0 then ((castellanlaw4_known.f kj2).bind fun t243 => (some t243)) else (some false)) else (some false))) else (if a1 = 3 then ((ip_Build.f kj2 a0_0 a0_1 a0_2 a0_3 a0_4 256 a0_6 a0_7 a0_8 l0_9 l0_10).bind fun bt244 => (if bt244.2 = 1 then (if (bt244.1.length : Int) = 0 then ((castellanlaw4_known.f kj2).bind fun t248 => (some t248)) else (some false)) else (some false))) else (if a1 = 4 then ((ip_Build.f kj2 a0_0 a0_1 a0_2 a0_3 a0_4 a0_5 (-1) a0_7 a0_8 l0_9 l0_10).bind fun bt249 => (if bt249.2 = 1 then (if (bt249.1.length : Int) = 0 then ((castellanlaw4_known.f kj2).bind fun t253 => (some t253)) else (some false)) else (some false))) else ((some (([] : List Int) : List Int)).bind fun y254 => (if y254.length + l0_9.length < 140737488355328 then ((some (y254 ++ l0_9 : List Int)).bind fun y257 => (if y257.length < 140737488355328 then ((ip_Build.f kj2 a0_0 a0_1 a0_2 a0_3 a0_4 a0_5 a0_6 a0_7 a0_8 (y257 ++ [1]) l0_10).bind fun bt263 => (if bt263.2 = 1 then (if (bt263.1.length : Int) = 0 then ((castellanlaw4_known.f kj2).bind fun t267 => (some t267)) else (some false)) else (some false))) else (none))) else (none)))))))) = some r := by rw [if_neg (show ¬ (false = true) by decide)] at H; exact H
        clear H
        have H := H1
        clear H1
        by_cases c25 : a1 = 0
        · rw [if_pos c25] at H
          have c25b0 : (a1 == 0) = true := beq_iff_eq.mpr c25
          have c25b1 : (a1 != 0) = false := bne_eq_false_iff_eq.mpr c25
          clear c25
          replace H := Option.bind_eq_some_iff.mp H
          obtain ⟨⟨t229, t232⟩, A260, H⟩ := H
          replace H : (if t232 = 1 then (if (t229.length : Int) = 0 then ((castellanlaw4_known.f kj2).bind fun t233 => (some t233)) else (some false)) else (some false)) = some r := H
          have A26 := Aside0.mk A260
          clear A260
          by_cases c27 : t232 = 1
          · rw [if_pos c27] at H
            have c27b0 : (t232 == 1) = true := beq_iff_eq.mpr c27
            have c27b1 : (t232 != 1) = false := bne_eq_false_iff_eq.mpr c27
            clear c27
            by_cases c28 : (t229.length : Int) = 0
            · rw [if_pos c28] at H
              have c28b0 : ((t229.length : Int) == 0) = true := beq_iff_eq.mpr c28
              have c28b1 : ((t229.length : Int) != 0) = false := bne_eq_false_iff_eq.mpr c28
              clear c28
              replace H := Option.bind_eq_some_iff.mp H
              obtain ⟨t233, A290, H⟩ := H
              replace H : (some t233) = some r := H
              have A29 := Aside0.mk A290
              clear A290
              obtain rfl := Option.some.inj H
              have hcz30_0 : wc.cell? ⟨gb226, 0, none⟩ = some (.int .i64 a0_0) := (blk_cell BK226.out 0).trans rfl
              have hcz30_1 : wc.cell? ⟨gb226, 1, none⟩ = some (.int .i64 a0_1) := (blk_cell BK226.out 1).trans rfl
              have hcz30_2 : wc.cell? ⟨gb226, 2, none⟩ = some (.bool a0_2) := (blk_cell BK226.out 2).trans rfl
              have hcz30_3 : wc.cell? ⟨gb226, 3, none⟩ = some (.bool a0_3) := (blk_cell BK226.out 3).trans rfl
              have hcz30_4 : wc.cell? ⟨gb226, 4, none⟩ = some (.int .i64 a0_4) := (blk_cell BK226.out 4).trans rfl
              have hcz30_5 : wc.cell? ⟨gb226, 5, none⟩ = some (.int .i64 a0_5) := (blk_cell BK226.out 5).trans rfl
              have hcz30_6 : wc.cell? ⟨gb226, 6, none⟩ = some (.int .i64 a0_6) := (blk_cell BK226.out 6).trans rfl
              have hcz30_7 : wc.cell? ⟨gb226, 7, none⟩ = some (.int .u32 a0_7) := (blk_cell BK226.out 7).trans rfl
              have hcz30_8 : wc.cell? ⟨gb226, 8, none⟩ = some (.int .u32 a0_8) := (blk_cell BK226.out 8).trans rfl
              have hcz30_9 : wc.cell? ⟨gb226, 9, none⟩ = some (.slice A0_9 l0_9.length c0_9) := (blk_cell BK226.out 9).trans rfl
              have hcz30_10 : wc.cell? ⟨gb226, 10, none⟩ = some (.slice A0_10 l0_10.length c0_10) := (blk_cell BK226.out 10).trans rfl
              have hfz30_0 := blk_frozen BK226.out 0
              have hfz30_1 := blk_frozen BK226.out 1
              have hfz30_2 := blk_frozen BK226.out 2
              have hfz30_3 := blk_frozen BK226.out 3
              have hfz30_4 := blk_frozen BK226.out 4
              have hfz30_5 := blk_frozen BK226.out 5
              have hfz30_6 := blk_frozen BK226.out 6
              have hfz30_7 := blk_frozen BK226.out 7
              have hfz30_8 := blk_frozen BK226.out 8
              have hfz30_9 := blk_frozen BK226.out 9
              have hfz30_10 := blk_frozen BK226.out 10
              go_wp2_with (first | ((with_reducible refine gate_store (t := 3) (p := 32) rfl ?_); refine store_event (t := 3) (p := 32) (v := ?vo_w31) (w1 := (wc.setCell ⟨gb226, 0, none⟩ (.int .i64 256))) ?hg ?ho ?hn ?hr ?_; (case ho => rfl); (case hg => rfl); (case hn => rfl); (case hr => first | (go_simp; done) | (go_simp; rfl)); intro w31 hw; have n0_ : Aside0 (w31.heap[gb226]? = some (.cells #[.int .i64 256, .int .i64 a0_1, .bool a0_2, .bool a0_3, .int .i64 a0_4, .int .i64 a0_5, .int .i64 a0_6, .int .u32 a0_7, .int .u32 a0_8, .slice A0_9 l0_9.length c0_9, .slice A0_10 l0_10.length c0_10] 45 (0, 0))) := ⟨(by rw [hw]; exact (by (with_reducible repeat (first | refine blk_drewN ?_ _ | refine blk_drew ?_ | refine blk_alloc ?_ _)); refine blk_put (cs := #[.int .i64 a0_0, .int .i64 a0_1, .bool a0_2, .bool a0_3, .int .i64 a0_4, .int .i64 a0_5, .int .i64 a0_6, .int .u32 a0_7, .int .u32 a0_8, .slice A0_9 l0_9.length c0_9, .slice A0_10 l0_10.length c0_10]) ?_ 0 _ rfl; (with_reducible repeat (first | refine blk_drewN ?_ _ | refine blk_drew ?_ | refine blk_alloc ?_ _)); exact BK226.out))⟩; have n1_ : Aside0 (Below w.heap.size w w31) := ⟨(by rw [hw]; exact (by repeat (first | (with_reducible first | exact HB.out | apply below_alloc | apply pw_below_drewN | apply below_drew1 | refine below_set ?_ GE226.out) | exact HB.out)))⟩; clear hw; clear BK226; clear HB; have BK226 := n0_; have HB := n1_; clear n0_ n1_; have hcz32_0 : w31.cell? ⟨gb226, 0, none⟩ = some (.int .i64 256) := (blk_cell BK226.out 0).trans rfl; have hcz32_1 : w31.cell? ⟨gb226, 1, none⟩ = some (.int .i64 a0_1) := (blk_cell BK226.out 1).trans rfl; have hcz32_2 : w31.cell? ⟨gb226, 2, none⟩ = some (.bool a0_2) := (blk_cell BK226.out 2).trans rfl; have hcz32_3 : w31.cell? ⟨gb226, 3, none⟩ = some (.bool a0_3) := (blk_cell BK226.out 3).trans rfl; have hcz32_4 : w31.cell? ⟨gb226, 4, none⟩ = some (.int .i64 a0_4) := (blk_cell BK226.out 4).trans rfl; have hcz32_5 : w31.cell? ⟨gb226, 5, none⟩ = some (.int .i64 a0_5) := (blk_cell BK226.out 5).trans rfl; have hcz32_6 : w31.cell? ⟨gb226, 6, none⟩ = some (.int .i64 a0_6) := (blk_cell BK226.out 6).trans rfl; have hcz32_7 : w31.cell? ⟨gb226, 7, none⟩ = some (.int .u32 a0_7) := (blk_cell BK226.out 7).trans rfl; have hcz32_8 : w31.cell? ⟨gb226, 8, none⟩ = some (.int .u32 a0_8) := (blk_cell BK226.out 8).trans rfl; have hcz32_9 : w31.cell? ⟨gb226, 9, none⟩ = some (.slice A0_9 l0_9.length c0_9) := (blk_cell BK226.out 9).trans rfl; have hcz32_10 : w31.cell? ⟨gb226, 10, none⟩ = some (.slice A0_10 l0_10.length c0_10) := (blk_cell BK226.out 10).trans rfl; have hfz32_0 := blk_frozen BK226.out 0; have hfz32_1 := blk_frozen BK226.out 1; have hfz32_2 := blk_frozen BK226.out 2; have hfz32_3 := blk_frozen BK226.out 3; have hfz32_4 := blk_frozen BK226.out 4; have hfz32_5 := blk_frozen BK226.out 5; have hfz32_6 := blk_frozen BK226.out 6; have hfz32_7 := blk_frozen BK226.out 7; have hfz32_8 := blk_frozen BK226.out 8; have hfz32_9 := blk_frozen BK226.out 9; have hfz32_10 := blk_frozen BK226.out 10) | ((with_reducible refine gate_callee (f := 32) rfl ?_); refine goesL_ (some 47) rfl rfl Try.func32 (by kernel_rfl) rfl #[.agg #[.int .i64 256, .int .i64 a0_1, .bool a0_2, .bool a0_3, .int .i64 a0_4, .int .i64 a0_5, .int .i64 a0_6, .int .u32 a0_7, .int .u32 a0_8, .slice A0_9 l0_9.length c0_9, .slice A0_10 l0_10.length c0_10]] rfl (by (try simp only [List.map_toArray, List.map_cons, List.map_nil]); first | done | rfl | (simp only [List.length_drop, List.length_take]; rfl)) ?_; (with_reducible refine (ip_Build.calls kj2 256 a0_1 a0_2 a0_3 a0_4 a0_5 a0_6 a0_7 a0_8 (fun k_ => k_ < w.heap.size) _ _ l0_9 _ _ l0_10 t229 t232 _ ?side1 ?side2 ?side3 A26.out).mono ?_); (case side1 => exact Kd.V_mk HC0_9.out (Kd.F_below (Kd.C_F (Kd.heap_int .u8) HR0_9.out) (by repeat (first | (with_reducible first | exact HB.out | apply below_alloc | apply pw_below_drewN | apply below_drew1 | refine below_set ?_ GE226.out) | exact HB.out)))); (case side2 => repeat (first | exact (Kd.C_below HR0_10.out HB.out) | (with_reducible refine Kd.C_alloc ?_ _) | (with_reducible refine Kd.C_drewN ?_ _) | (with_reducible refine Kd.C_drew ?_))); (case side3 => exact HC0_10.out); rintro e w33 ⟨v230, rfl, ho0, hb⟩; refine ⟨_, rfl, ?_⟩; have n0_ := Aside0.mk (Kd.R_lower (Kd.R_mono (ok' := fun k_ => True) ho0 (fun _ hk_ => trivial)) (below_size (by repeat (first | (with_reducible first | exact HB.out | apply below_alloc | apply pw_below_drewN | apply below_drew1 | refine below_set ?_ GE226.out) | exact HB.out)))); have n1_ := Aside0.mk (blk_below (g := gb226) (o := .cells #[.int .i64 256, .int .i64 a0_1, .bool a0_2, .bool a0_3, .int .i64 a0_4, .int .i64 a0_5, .int .i64 a0_6, .int .u32 a0_7, .int .u32 a0_8, .slice A0_9 l0_9.length c0_9, .slice A0_10 l0_10.length c0_10] 45 (0, 0)) (by (with_reducible repeat (first | refine blk_drewN ?_ _ | refine blk_drew ?_ | refine blk_alloc ?_ _)); exact BK226.out) hb); have n2_ := Aside0.mk (below_step (by repeat (first | (with_reducible first | exact HB.out | apply below_alloc | apply pw_below_drewN | apply below_drew1 | refine below_set ?_ GE226.out) | exact HB.out)) hb); clear BK226; clear HB; have HO231 := n0_; have BK226 := n1_; have HB := n2_; clear n0_ n1_ n2_; (try clear hb); (try clear hb2); (try clear hk); (try clear hi); (try clear ho0); obtain ⟨Ao34, co34, eo34⟩ := Kd.R_slice HO231.out; subst eo34) | (go_at_call 29; (with_reducible refine (castellanlaw4_known.calls kj2  t233 _ A29.out).mono ?_); rintro e w35 ⟨rfl, hb⟩; have n0_ := Aside0.mk (Kd.R_below (by (with_reducible repeat (first | apply Kd.R_alloc | apply Kd.R_drewN | apply Kd.R_drew)); exact HO231.out) hb); have n1_ := Aside0.mk (blk_below (g := gb226) (o := .cells #[.int .i64 256, .int .i64 a0_1, .bool a0_2, .bool a0_3, .int .i64 a0_4, .int .i64 a0_5, .int .i64 a0_6, .int .u32 a0_7, .int .u32 a0_8, .slice A0_9 l0_9.length c0_9, .slice A0_10 l0_10.length c0_10] 45 (0, 0)) (by (with_reducible repeat (first | refine blk_drewN ?_ _ | refine blk_drew ?_ | refine blk_alloc ?_ _)); exact BK226.out) hb); have n2_ := Aside0.mk (below_step (by repeat (first | (with_reducible first | exact HB.out | apply below_alloc | apply pw_below_drewN | apply below_drew1 | refine below_set ?_ GE226.out) | exact HB.out)) hb); clear HO231; clear BK226; clear HB; have HO231 := n0_; have BK226 := n1_; have HB := n2_; clear n0_ n1_ n2_; (try clear hb); (try clear hb2); (try clear hk); (try clear hi)))
              go_ret
              exact ⟨by first | rfl | (simp [errW_none, errW_some] <;> rfl) | (simp [*, errW_none, errW_some] <;> rfl), by repeat (first | (with_reducible first | exact HB.out | apply below_alloc | apply pw_below_drewN | apply below_drew1 | refine below_set ?_ GE226.out) | exact HB.out)⟩
            · rw [if_neg c28] at H
              have c28b0 : ((t229.length : Int) == 0) = false := beq_eq_false_iff_ne.mpr c28
              have c28b1 : ((t229.length : Int) != 0) = true := bne_iff_ne.mpr c28
              have c28b2 : ¬ (t229 = []) := fun h_ => c28 (by rw [h_]; rfl)
              exact absurd (H.trans (congrArg some HRT.out)) (by simp)
          · rw [if_neg c27] at H
            have c27b0 : (t232 == 1) = false := beq_eq_false_iff_ne.mpr c27
            have c27b1 : (t232 != 1) = true := bne_iff_ne.mpr c27
            exact absurd (H.trans (congrArg some HRT.out)) (by simp)
        · rw [if_neg c25] at H
          have c25b0 : (a1 == 0) = false := beq_eq_false_iff_ne.mpr c25
          have c25b1 : (a1 != 0) = true := bne_iff_ne.mpr c25
          by_cases c36 : a1 = 1
          · rw [if_pos c36] at H
            have c36b0 : (a1 == 1) = true := beq_iff_eq.mpr c36
            have c36b1 : (a1 != 1) = false := bne_eq_false_iff_eq.mpr c36
            clear c36
            replace H := Option.bind_eq_some_iff.mp H
            obtain ⟨⟨t234, t237⟩, A370, H⟩ := H
            replace H : (if t237 = 1 then (if (t234.length : Int) = 0 then ((castellanlaw4_known.f kj2).bind fun t238 => (some t238)) else (some false)) else (some false)) = some r := H
            have A37 := Aside0.mk A370
            clear A370
            by_cases c38 : t237 = 1
            · rw [if_pos c38] at H
              have c38b0 : (t237 == 1) = true := beq_iff_eq.mpr c38
              have c38b1 : (t237 != 1) = false := bne_eq_false_iff_eq.mpr c38
              clear c38
              by_cases c39 : (t234.length : Int) = 0
              · rw [if_pos c39] at H
                have c39b0 : ((t234.length : Int) == 0) = true := beq_iff_eq.mpr c39
                have c39b1 : ((t234.length : Int) != 0) = false := bne_eq_false_iff_eq.mpr c39
                clear c39
                replace H := Option.bind_eq_some_iff.mp H
                obtain ⟨t238, A400, H⟩ := H
                replace H : (some t238) = some r := H
                have A40 := Aside0.mk A400
                clear A400
                obtain rfl := Option.some.inj H
                have hcz41_0 : wc.cell? ⟨gb226, 0, none⟩ = some (.int .i64 a0_0) := (blk_cell BK226.out 0).trans rfl
                have hcz41_1 : wc.cell? ⟨gb226, 1, none⟩ = some (.int .i64 a0_1) := (blk_cell BK226.out 1).trans rfl
                have hcz41_2 : wc.cell? ⟨gb226, 2, none⟩ = some (.bool a0_2) := (blk_cell BK226.out 2).trans rfl
                have hcz41_3 : wc.cell? ⟨gb226, 3, none⟩ = some (.bool a0_3) := (blk_cell BK226.out 3).trans rfl
                have hcz41_4 : wc.cell? ⟨gb226, 4, none⟩ = some (.int .i64 a0_4) := (blk_cell BK226.out 4).trans rfl
                have hcz41_5 : wc.cell? ⟨gb226, 5, none⟩ = some (.int .i64 a0_5) := (blk_cell BK226.out 5).trans rfl
                have hcz41_6 : wc.cell? ⟨gb226, 6, none⟩ = some (.int .i64 a0_6) := (blk_cell BK226.out 6).trans rfl
                have hcz41_7 : wc.cell? ⟨gb226, 7, none⟩ = some (.int .u32 a0_7) := (blk_cell BK226.out 7).trans rfl
                have hcz41_8 : wc.cell? ⟨gb226, 8, none⟩ = some (.int .u32 a0_8) := (blk_cell BK226.out 8).trans rfl
                have hcz41_9 : wc.cell? ⟨gb226, 9, none⟩ = some (.slice A0_9 l0_9.length c0_9) := (blk_cell BK226.out 9).trans rfl
                have hcz41_10 : wc.cell? ⟨gb226, 10, none⟩ = some (.slice A0_10 l0_10.length c0_10) := (blk_cell BK226.out 10).trans rfl
                have hfz41_0 := blk_frozen BK226.out 0
                have hfz41_1 := blk_frozen BK226.out 1
                have hfz41_2 := blk_frozen BK226.out 2
                have hfz41_3 := blk_frozen BK226.out 3
                have hfz41_4 := blk_frozen BK226.out 4
                have hfz41_5 := blk_frozen BK226.out 5
                have hfz41_6 := blk_frozen BK226.out 6
                have hfz41_7 := blk_frozen BK226.out 7
                have hfz41_8 := blk_frozen BK226.out 8
                have hfz41_9 := blk_frozen BK226.out 9
                have hfz41_10 := blk_frozen BK226.out 10
                go_wp2_with (first | ((with_reducible refine gate_store (t := 3) (p := 35) rfl ?_); refine store_event (t := 3) (p := 35) (v := ?vo_w42) (w1 := (wc.setCell ⟨gb226, 1, none⟩ (.int .i64 (-1)))) ?hg ?ho ?hn ?hr ?_; (case ho => rfl); (case hg => rfl); (case hn => rfl); (case hr => first | (go_simp; done) | (go_simp; rfl)); intro w42 hw; have n0_ : Aside0 (w42.heap[gb226]? = some (.cells #[.int .i64 a0_0, .int .i64 (-1), .bool a0_2, .bool a0_3, .int .i64 a0_4, .int .i64 a0_5, .int .i64 a0_6, .int .u32 a0_7, .int .u32 a0_8, .slice A0_9 l0_9.length c0_9, .slice A0_10 l0_10.length c0_10] 45 (0, 0))) := ⟨(by rw [hw]; exact (by (with_reducible repeat (first | refine blk_drewN ?_ _ | refine blk_drew ?_ | refine blk_alloc ?_ _)); refine blk_put (cs := #[.int .i64 a0_0, .int .i64 a0_1, .bool a0_2, .bool a0_3, .int .i64 a0_4, .int .i64 a0_5, .int .i64 a0_6, .int .u32 a0_7, .int .u32 a0_8, .slice A0_9 l0_9.length c0_9, .slice A0_10 l0_10.length c0_10]) ?_ 1 _ rfl; (with_reducible repeat (first | refine blk_drewN ?_ _ | refine blk_drew ?_ | refine blk_alloc ?_ _)); exact BK226.out))⟩; have n1_ : Aside0 (Below w.heap.size w w42) := ⟨(by rw [hw]; exact (by repeat (first | (with_reducible first | exact HB.out | apply below_alloc | apply pw_below_drewN | apply below_drew1 | refine below_set ?_ GE226.out) | exact HB.out)))⟩; clear hw; clear BK226; clear HB; have BK226 := n0_; have HB := n1_; clear n0_ n1_; have hcz43_0 : w42.cell? ⟨gb226, 0, none⟩ = some (.int .i64 a0_0) := (blk_cell BK226.out 0).trans rfl; have hcz43_1 : w42.cell? ⟨gb226, 1, none⟩ = some (.int .i64 (-1)) := (blk_cell BK226.out 1).trans rfl; have hcz43_2 : w42.cell? ⟨gb226, 2, none⟩ = some (.bool a0_2) := (blk_cell BK226.out 2).trans rfl; have hcz43_3 : w42.cell? ⟨gb226, 3, none⟩ = some (.bool a0_3) := (blk_cell BK226.out 3).trans rfl; have hcz43_4 : w42.cell? ⟨gb226, 4, none⟩ = some (.int .i64 a0_4) := (blk_cell BK226.out 4).trans rfl; have hcz43_5 : w42.cell? ⟨gb226, 5, none⟩ = some (.int .i64 a0_5) := (blk_cell BK226.out 5).trans rfl; have hcz43_6 : w42.cell? ⟨gb226, 6, none⟩ = some (.int .i64 a0_6) := (blk_cell BK226.out 6).trans rfl; have hcz43_7 : w42.cell? ⟨gb226, 7, none⟩ = some (.int .u32 a0_7) := (blk_cell BK226.out 7).trans rfl; have hcz43_8 : w42.cell? ⟨gb226, 8, none⟩ = some (.int .u32 a0_8) := (blk_cell BK226.out 8).trans rfl; have hcz43_9 : w42.cell? ⟨gb226, 9, none⟩ = some (.slice A0_9 l0_9.length c0_9) := (blk_cell BK226.out 9).trans rfl; have hcz43_10 : w42.cell? ⟨gb226, 10, none⟩ = some (.slice A0_10 l0_10.length c0_10) := (blk_cell BK226.out 10).trans rfl; have hfz43_0 := blk_frozen BK226.out 0; have hfz43_1 := blk_frozen BK226.out 1; have hfz43_2 := blk_frozen BK226.out 2; have hfz43_3 := blk_frozen BK226.out 3; have hfz43_4 := blk_frozen BK226.out 4; have hfz43_5 := blk_frozen BK226.out 5; have hfz43_6 := blk_frozen BK226.out 6; have hfz43_7 := blk_frozen BK226.out 7; have hfz43_8 := blk_frozen BK226.out 8; have hfz43_9 := blk_frozen BK226.out 9; have hfz43_10 := blk_frozen BK226.out 10) | ((with_reducible refine gate_callee (f := 32) rfl ?_); refine goesL_ (some 47) rfl rfl Try.func32 (by kernel_rfl) rfl #[.agg #[.int .i64 a0_0, .int .i64 (-1), .bool a0_2, .bool a0_3, .int .i64 a0_4, .int .i64 a0_5, .int .i64 a0_6, .int .u32 a0_7, .int .u32 a0_8, .slice A0_9 l0_9.length c0_9, .slice A0_10 l0_10.length c0_10]] rfl (by (try simp only [List.map_toArray, List.map_cons, List.map_nil]); first | done | rfl | (simp only [List.length_drop, List.length_take]; rfl)) ?_; (with_reducible refine (ip_Build.calls kj2 a0_0 (-1) a0_2 a0_3 a0_4 a0_5 a0_6 a0_7 a0_8 (fun k_ => k_ < w.heap.size) _ _ l0_9 _ _ l0_10 t234 t237 _ ?side1 ?side2 ?side3 A37.out).mono ?_); (case side1 => exact Kd.V_mk HC0_9.out (Kd.F_below (Kd.C_F (Kd.heap_int .u8) HR0_9.out) (by repeat (first | (with_reducible first | exact HB.out | apply below_alloc | apply pw_below_drewN | apply below_drew1 | refine below_set ?_ GE226.out) | exact HB.out)))); (case side2 => repeat (first | exact (Kd.C_below HR0_10.out HB.out) | (with_reducible refine Kd.C_alloc ?_ _) | (with_reducible refine Kd.C_drewN ?_ _) | (with_reducible refine Kd.C_drew ?_))); (case side3 => exact HC0_10.out); rintro e w44 ⟨v235, rfl, ho0, hb⟩; refine ⟨_, rfl, ?_⟩; have n0_ := Aside0.mk (Kd.R_lower (Kd.R_mono (ok' := fun k_ => True) ho0 (fun _ hk_ => trivial)) (below_size (by repeat (first | (with_reducible first | exact HB.out | apply below_alloc | apply pw_below_drewN | apply below_drew1 | refine below_set ?_ GE226.out) | exact HB.out)))); have n1_ := Aside0.mk (blk_below (g := gb226) (o := .cells #[.int .i64 a0_0, .int .i64 (-1), .bool a0_2, .bool a0_3, .int .i64 a0_4, .int .i64 a0_5, .int .i64 a0_6, .int .u32 a0_7, .int .u32 a0_8, .slice A0_9 l0_9.length c0_9, .slice A0_10 l0_10.length c0_10] 45 (0, 0)) (by (with_reducible repeat (first | refine blk_drewN ?_ _ | refine blk_drew ?_ | refine blk_alloc ?_ _)); exact BK226.out) hb); have n2_ := Aside0.mk (below_step (by repeat (first | (with_reducible first | exact HB.out | apply below_alloc | apply pw_below_drewN | apply below_drew1 | refine below_set ?_ GE226.out) | exact HB.out)) hb); clear BK226; clear HB; have HO236 := n0_; have BK226 := n1_; have HB := n2_; clear n0_ n1_ n2_; (try clear hb); (try clear hb2); (try clear hk); (try clear hi); (try clear ho0); obtain ⟨Ao45, co45, eo45⟩ := Kd.R_slice HO236.out; subst eo45) | (go_at_call 29; (with_reducible refine (castellanlaw4_known.calls kj2  t238 _ A40.out).mono ?_); rintro e w46 ⟨rfl, hb⟩; have n0_ := Aside0.mk (Kd.R_below (by (with_reducible repeat (first | apply Kd.R_alloc | apply Kd.R_drewN | apply Kd.R_drew)); exact HO236.out) hb); have n1_ := Aside0.mk (blk_below (g := gb226) (o := .cells #[.int .i64 a0_0, .int .i64 (-1), .bool a0_2, .bool a0_3, .int .i64 a0_4, .int .i64 a0_5, .int .i64 a0_6, .int .u32 a0_7, .int .u32 a0_8, .slice A0_9 l0_9.length c0_9, .slice A0_10 l0_10.length c0_10] 45 (0, 0)) (by (with_reducible repeat (first | refine blk_drewN ?_ _ | refine blk_drew ?_ | refine blk_alloc ?_ _)); exact BK226.out) hb); have n2_ := Aside0.mk (below_step (by repeat (first | (with_reducible first | exact HB.out | apply below_alloc | apply pw_below_drewN | apply below_drew1 | refine below_set ?_ GE226.out) | exact HB.out)) hb); clear HO236; clear BK226; clear HB; have HO236 := n0_; have BK226 := n1_; have HB := n2_; clear n0_ n1_ n2_; (try clear hb); (try clear hb2); (try clear hk); (try clear hi)))
                go_ret
                exact ⟨by first | rfl | (simp [errW_none, errW_some] <;> rfl) | (simp [*, errW_none, errW_some] <;> rfl), by repeat (first | (with_reducible first | exact HB.out | apply below_alloc | apply pw_below_drewN | apply below_drew1 | refine below_set ?_ GE226.out) | exact HB.out)⟩
              · rw [if_neg c39] at H
                have c39b0 : ((t234.length : Int) == 0) = false := beq_eq_false_iff_ne.mpr c39
                have c39b1 : ((t234.length : Int) != 0) = true := bne_iff_ne.mpr c39
                have c39b2 : ¬ (t234 = []) := fun h_ => c39 (by rw [h_]; rfl)
                exact absurd (H.trans (congrArg some HRT.out)) (by simp)
            · rw [if_neg c38] at H
              have c38b0 : (t237 == 1) = false := beq_eq_false_iff_ne.mpr c38
              have c38b1 : (t237 != 1) = true := bne_iff_ne.mpr c38
              exact absurd (H.trans (congrArg some HRT.out)) (by simp)
          · rw [if_neg c36] at H
            have c36b0 : (a1 == 1) = false := beq_eq_false_iff_ne.mpr c36
            have c36b1 : (a1 != 1) = true := bne_iff_ne.mpr c36
            by_cases c47 : a1 = 2
            · rw [if_pos c47] at H
              have c47b0 : (a1 == 2) = true := beq_iff_eq.mpr c47
              have c47b1 : (a1 != 2) = false := bne_eq_false_iff_eq.mpr c47
              clear c47
              replace H := Option.bind_eq_some_iff.mp H
              obtain ⟨⟨t239, t242⟩, A480, H⟩ := H
              replace H : (if t242 = 1 then (if (t239.length : Int) = 0 then ((castellanlaw4_known.f kj2).bind fun t243 => (some t243)) else (some false)) else (some false)) = some r := H
              have A48 := Aside0.mk A480
              clear A480
              by_cases c49 : t242 = 1
              · rw [if_pos c49] at H
                have c49b0 : (t242 == 1) = true := beq_iff_eq.mpr c49
                have c49b1 : (t242 != 1) = false := bne_eq_false_iff_eq.mpr c49
                clear c49
                by_cases c50 : (t239.length : Int) = 0
                · rw [if_pos c50] at H
                  have c50b0 : ((t239.length : Int) == 0) = true := beq_iff_eq.mpr c50
                  have c50b1 : ((t239.length : Int) != 0) = false := bne_eq_false_iff_eq.mpr c50
                  clear c50
                  replace H := Option.bind_eq_some_iff.mp H
                  obtain ⟨t243, A510, H⟩ := H
                  replace H : (some t243) = some r := H
                  have A51 := Aside0.mk A510
                  clear A510
                  obtain rfl := Option.some.inj H
                  have hcz52_0 : wc.cell? ⟨gb226, 0, none⟩ = some (.int .i64 a0_0) := (blk_cell BK226.out 0).trans rfl
                  have hcz52_1 : wc.cell? ⟨gb226, 1, none⟩ = some (.int .i64 a0_1) := (blk_cell BK226.out 1).trans rfl
                  have hcz52_2 : wc.cell? ⟨gb226, 2, none⟩ = some (.bool a0_2) := (blk_cell BK226.out 2).trans rfl
                  have hcz52_3 : wc.cell? ⟨gb226, 3, none⟩ = some (.bool a0_3) := (blk_cell BK226.out 3).trans rfl
                  have hcz52_4 : wc.cell? ⟨gb226, 4, none⟩ = some (.int .i64 a0_4) := (blk_cell BK226.out 4).trans rfl
                  have hcz52_5 : wc.cell? ⟨gb226, 5, none⟩ = some (.int .i64 a0_5) := (blk_cell BK226.out 5).trans rfl
                  have hcz52_6 : wc.cell? ⟨gb226, 6, none⟩ = some (.int .i64 a0_6) := (blk_cell BK226.out 6).trans rfl
                  have hcz52_7 : wc.cell? ⟨gb226, 7, none⟩ = some (.int .u32 a0_7) := (blk_cell BK226.out 7).trans rfl
                  have hcz52_8 : wc.cell? ⟨gb226, 8, none⟩ = some (.int .u32 a0_8) := (blk_cell BK226.out 8).trans rfl
                  have hcz52_9 : wc.cell? ⟨gb226, 9, none⟩ = some (.slice A0_9 l0_9.length c0_9) := (blk_cell BK226.out 9).trans rfl
                  have hcz52_10 : wc.cell? ⟨gb226, 10, none⟩ = some (.slice A0_10 l0_10.length c0_10) := (blk_cell BK226.out 10).trans rfl
                  have hfz52_0 := blk_frozen BK226.out 0
                  have hfz52_1 := blk_frozen BK226.out 1
                  have hfz52_2 := blk_frozen BK226.out 2
                  have hfz52_3 := blk_frozen BK226.out 3
                  have hfz52_4 := blk_frozen BK226.out 4
                  have hfz52_5 := blk_frozen BK226.out 5
                  have hfz52_6 := blk_frozen BK226.out 6
                  have hfz52_7 := blk_frozen BK226.out 7
                  have hfz52_8 := blk_frozen BK226.out 8
                  have hfz52_9 := blk_frozen BK226.out 9
                  have hfz52_10 := blk_frozen BK226.out 10
                  go_wp2_with (first | ((with_reducible refine gate_store (t := 3) (p := 38) rfl ?_); refine store_event (t := 3) (p := 38) (v := ?vo_w53) (w1 := (wc.setCell ⟨gb226, 4, none⟩ (.int .i64 8192))) ?hg ?ho ?hn ?hr ?_; (case ho => rfl); (case hg => rfl); (case hn => rfl); (case hr => first | (go_simp; done) | (go_simp; rfl)); intro w53 hw; have n0_ : Aside0 (w53.heap[gb226]? = some (.cells #[.int .i64 a0_0, .int .i64 a0_1, .bool a0_2, .bool a0_3, .int .i64 8192, .int .i64 a0_5, .int .i64 a0_6, .int .u32 a0_7, .int .u32 a0_8, .slice A0_9 l0_9.length c0_9, .slice A0_10 l0_10.length c0_10] 45 (0, 0))) := ⟨(by rw [hw]; exact (by (with_reducible repeat (first | refine blk_drewN ?_ _ | refine blk_drew ?_ | refine blk_alloc ?_ _)); refine blk_put (cs := #[.int .i64 a0_0, .int .i64 a0_1, .bool a0_2, .bool a0_3, .int .i64 a0_4, .int .i64 a0_5, .int .i64 a0_6, .int .u32 a0_7, .int .u32 a0_8, .slice A0_9 l0_9.length c0_9, .slice A0_10 l0_10.length c0_10]) ?_ 4 _ rfl; (with_reducible repeat (first | refine blk_drewN ?_ _ | refine blk_drew ?_ | refine blk_alloc ?_ _)); exact BK226.out))⟩; have n1_ : Aside0 (Below w.heap.size w w53) := ⟨(by rw [hw]; exact (by repeat (first | (with_reducible first | exact HB.out | apply below_alloc | apply pw_below_drewN | apply below_drew1 | refine below_set ?_ GE226.out) | exact HB.out)))⟩; clear hw; clear BK226; clear HB; have BK226 := n0_; have HB := n1_; clear n0_ n1_; have hcz54_0 : w53.cell? ⟨gb226, 0, none⟩ = some (.int .i64 a0_0) := (blk_cell BK226.out 0).trans rfl; have hcz54_1 : w53.cell? ⟨gb226, 1, none⟩ = some (.int .i64 a0_1) := (blk_cell BK226.out 1).trans rfl; have hcz54_2 : w53.cell? ⟨gb226, 2, none⟩ = some (.bool a0_2) := (blk_cell BK226.out 2).trans rfl; have hcz54_3 : w53.cell? ⟨gb226, 3, none⟩ = some (.bool a0_3) := (blk_cell BK226.out 3).trans rfl; have hcz54_4 : w53.cell? ⟨gb226, 4, none⟩ = some (.int .i64 8192) := (blk_cell BK226.out 4).trans rfl; have hcz54_5 : w53.cell? ⟨gb226, 5, none⟩ = some (.int .i64 a0_5) := (blk_cell BK226.out 5).trans rfl; have hcz54_6 : w53.cell? ⟨gb226, 6, none⟩ = some (.int .i64 a0_6) := (blk_cell BK226.out 6).trans rfl; have hcz54_7 : w53.cell? ⟨gb226, 7, none⟩ = some (.int .u32 a0_7) := (blk_cell BK226.out 7).trans rfl; have hcz54_8 : w53.cell? ⟨gb226, 8, none⟩ = some (.int .u32 a0_8) := (blk_cell BK226.out 8).trans rfl; have hcz54_9 : w53.cell? ⟨gb226, 9, none⟩ = some (.slice A0_9 l0_9.length c0_9) := (blk_cell BK226.out 9).trans rfl; have hcz54_10 : w53.cell? ⟨gb226, 10, none⟩ = some (.slice A0_10 l0_10.length c0_10) := (blk_cell BK226.out 10).trans rfl; have hfz54_0 := blk_frozen BK226.out 0; have hfz54_1 := blk_frozen BK226.out 1; have hfz54_2 := blk_frozen BK226.out 2; have hfz54_3 := blk_frozen BK226.out 3; have hfz54_4 := blk_frozen BK226.out 4; have hfz54_5 := blk_frozen BK226.out 5; have hfz54_6 := blk_frozen BK226.out 6; have hfz54_7 := blk_frozen BK226.out 7; have hfz54_8 := blk_frozen BK226.out 8; have hfz54_9 := blk_frozen BK226.out 9; have hfz54_10 := blk_frozen BK226.out 10) | ((with_reducible refine gate_callee (f := 32) rfl ?_); refine goesL_ (some 47) rfl rfl Try.func32 (by kernel_rfl) rfl #[.agg #[.int .i64 a0_0, .int .i64 a0_1, .bool a0_2, .bool a0_3, .int .i64 8192, .int .i64 a0_5, .int .i64 a0_6, .int .u32 a0_7, .int .u32 a0_8, .slice A0_9 l0_9.length c0_9, .slice A0_10 l0_10.length c0_10]] rfl (by (try simp only [List.map_toArray, List.map_cons, List.map_nil]); first | done | rfl | (simp only [List.length_drop, List.length_take]; rfl)) ?_; (with_reducible refine (ip_Build.calls kj2 a0_0 a0_1 a0_2 a0_3 8192 a0_5 a0_6 a0_7 a0_8 (fun k_ => k_ < w.heap.size) _ _ l0_9 _ _ l0_10 t239 t242 _ ?side1 ?side2 ?side3 A48.out).mono ?_); (case side1 => exact Kd.V_mk HC0_9.out (Kd.F_below (Kd.C_F (Kd.heap_int .u8) HR0_9.out) (by repeat (first | (with_reducible first | exact HB.out | apply below_alloc | apply pw_below_drewN | apply below_drew1 | refine below_set ?_ GE226.out) | exact HB.out)))); (case side2 => repeat (first | exact (Kd.C_below HR0_10.out HB.out) | (with_reducible refine Kd.C_alloc ?_ _) | (with_reducible refine Kd.C_drewN ?_ _) | (with_reducible refine Kd.C_drew ?_))); (case side3 => exact HC0_10.out); rintro e w55 ⟨v240, rfl, ho0, hb⟩; refine ⟨_, rfl, ?_⟩; have n0_ := Aside0.mk (Kd.R_lower (Kd.R_mono (ok' := fun k_ => True) ho0 (fun _ hk_ => trivial)) (below_size (by repeat (first | (with_reducible first | exact HB.out | apply below_alloc | apply pw_below_drewN | apply below_drew1 | refine below_set ?_ GE226.out) | exact HB.out)))); have n1_ := Aside0.mk (blk_below (g := gb226) (o := .cells #[.int .i64 a0_0, .int .i64 a0_1, .bool a0_2, .bool a0_3, .int .i64 8192, .int .i64 a0_5, .int .i64 a0_6, .int .u32 a0_7, .int .u32 a0_8, .slice A0_9 l0_9.length c0_9, .slice A0_10 l0_10.length c0_10] 45 (0, 0)) (by (with_reducible repeat (first | refine blk_drewN ?_ _ | refine blk_drew ?_ | refine blk_alloc ?_ _)); exact BK226.out) hb); have n2_ := Aside0.mk (below_step (by repeat (first | (with_reducible first | exact HB.out | apply below_alloc | apply pw_below_drewN | apply below_drew1 | refine below_set ?_ GE226.out) | exact HB.out)) hb); clear BK226; clear HB; have HO241 := n0_; have BK226 := n1_; have HB := n2_; clear n0_ n1_ n2_; (try clear hb); (try clear hb2); (try clear hk); (try clear hi); (try clear ho0); obtain ⟨Ao56, co56, eo56⟩ := Kd.R_slice HO241.out; subst eo56) | (go_at_call 29; (with_reducible refine (castellanlaw4_known.calls kj2  t243 _ A51.out).mono ?_); rintro e w57 ⟨rfl, hb⟩; have n0_ := Aside0.mk (Kd.R_below (by (with_reducible repeat (first | apply Kd.R_alloc | apply Kd.R_drewN | apply Kd.R_drew)); exact HO241.out) hb); have n1_ := Aside0.mk (blk_below (g := gb226) (o := .cells #[.int .i64 a0_0, .int .i64 a0_1, .bool a0_2, .bool a0_3, .int .i64 8192, .int .i64 a0_5, .int .i64 a0_6, .int .u32 a0_7, .int .u32 a0_8, .slice A0_9 l0_9.length c0_9, .slice A0_10 l0_10.length c0_10] 45 (0, 0)) (by (with_reducible repeat (first | refine blk_drewN ?_ _ | refine blk_drew ?_ | refine blk_alloc ?_ _)); exact BK226.out) hb); have n2_ := Aside0.mk (below_step (by repeat (first | (with_reducible first | exact HB.out | apply below_alloc | apply pw_below_drewN | apply below_drew1 | refine below_set ?_ GE226.out) | exact HB.out)) hb); clear HO241; clear BK226; clear HB; have HO241 := n0_; have BK226 := n1_; have HB := n2_; clear n0_ n1_ n2_; (try clear hb); (try clear hb2); (try clear hk); (try clear hi)))
                  go_ret
                  exact ⟨by first | rfl | (simp [errW_none, errW_some] <;> rfl) | (simp [*, errW_none, errW_some] <;> rfl), by repeat (first | (with_reducible first | exact HB.out | apply below_alloc | apply pw_below_drewN | apply below_drew1 | refine below_set ?_ GE226.out) | exact HB.out)⟩
                · rw [if_neg c50] at H
                  have c50b0 : ((t239.length : Int) == 0) = false := beq_eq_false_iff_ne.mpr c50
                  have c50b1 : ((t239.length : Int) != 0) = true := bne_iff_ne.mpr c50
                  have c50b2 : ¬ (t239 = []) := fun h_ => c50 (by rw [h_]; rfl)
                  exact absurd (H.trans (congrArg some HRT.out)) (by simp)
              · rw [if_neg c49] at H
                have c49b0 : (t242 == 1) = false := beq_eq_false_iff_ne.mpr c49
                have c49b1 : (t242 != 1) = true := bne_iff_ne.mpr c49
                exact absurd (H.trans (congrArg some HRT.out)) (by simp)
            · rw [if_neg c47] at H
              have c47b0 : (a1 == 2) = false := beq_eq_false_iff_ne.mpr c47
              have c47b1 : (a1 != 2) = true := bne_iff_ne.mpr c47
              by_cases c58 : a1 = 3
              · rw [if_pos c58] at H
                have c58b0 : (a1 == 3) = true := beq_iff_eq.mpr c58
                have c58b1 : (a1 != 3) = false := bne_eq_false_iff_eq.mpr c58
                clear c58
                replace H := Option.bind_eq_some_iff.mp H
                obtain ⟨⟨t244, t247⟩, A590, H⟩ := H
                replace H : (if t247 = 1 then (if (t244.length : Int) = 0 then ((castellanlaw4_known.f kj2).bind fun t248 => (some t248)) else (some false)) else (some false)) = some r := H
                have A59 := Aside0.mk A590
                clear A590
                by_cases c60 : t247 = 1
                · rw [if_pos c60] at H
                  have c60b0 : (t247 == 1) = true := beq_iff_eq.mpr c60
                  have c60b1 : (t247 != 1) = false := bne_eq_false_iff_eq.mpr c60
                  clear c60
                  by_cases c61 : (t244.length : Int) = 0
                  · rw [if_pos c61] at H
                    have c61b0 : ((t244.length : Int) == 0) = true := beq_iff_eq.mpr c61
                    have c61b1 : ((t244.length : Int) != 0) = false := bne_eq_false_iff_eq.mpr c61
                    clear c61
                    replace H := Option.bind_eq_some_iff.mp H
                    obtain ⟨t248, A620, H⟩ := H
                    replace H : (some t248) = some r := H
                    have A62 := Aside0.mk A620
                    clear A620
                    obtain rfl := Option.some.inj H
                    have hcz63_0 : wc.cell? ⟨gb226, 0, none⟩ = some (.int .i64 a0_0) := (blk_cell BK226.out 0).trans rfl
                    have hcz63_1 : wc.cell? ⟨gb226, 1, none⟩ = some (.int .i64 a0_1) := (blk_cell BK226.out 1).trans rfl
                    have hcz63_2 : wc.cell? ⟨gb226, 2, none⟩ = some (.bool a0_2) := (blk_cell BK226.out 2).trans rfl
                    have hcz63_3 : wc.cell? ⟨gb226, 3, none⟩ = some (.bool a0_3) := (blk_cell BK226.out 3).trans rfl
                    have hcz63_4 : wc.cell? ⟨gb226, 4, none⟩ = some (.int .i64 a0_4) := (blk_cell BK226.out 4).trans rfl
                    have hcz63_5 : wc.cell? ⟨gb226, 5, none⟩ = some (.int .i64 a0_5) := (blk_cell BK226.out 5).trans rfl
                    have hcz63_6 : wc.cell? ⟨gb226, 6, none⟩ = some (.int .i64 a0_6) := (blk_cell BK226.out 6).trans rfl
                    have hcz63_7 : wc.cell? ⟨gb226, 7, none⟩ = some (.int .u32 a0_7) := (blk_cell BK226.out 7).trans rfl
                    have hcz63_8 : wc.cell? ⟨gb226, 8, none⟩ = some (.int .u32 a0_8) := (blk_cell BK226.out 8).trans rfl
                    have hcz63_9 : wc.cell? ⟨gb226, 9, none⟩ = some (.slice A0_9 l0_9.length c0_9) := (blk_cell BK226.out 9).trans rfl
                    have hcz63_10 : wc.cell? ⟨gb226, 10, none⟩ = some (.slice A0_10 l0_10.length c0_10) := (blk_cell BK226.out 10).trans rfl
                    have hfz63_0 := blk_frozen BK226.out 0
                    have hfz63_1 := blk_frozen BK226.out 1
                    have hfz63_2 := blk_frozen BK226.out 2
                    have hfz63_3 := blk_frozen BK226.out 3
                    have hfz63_4 := blk_frozen BK226.out 4
                    have hfz63_5 := blk_frozen BK226.out 5
                    have hfz63_6 := blk_frozen BK226.out 6
                    have hfz63_7 := blk_frozen BK226.out 7
                    have hfz63_8 := blk_frozen BK226.out 8
                    have hfz63_9 := blk_frozen BK226.out 9
                    have hfz63_10 := blk_frozen BK226.out 10
                    go_wp2_with (first | ((with_reducible refine gate_store (t := 3) (p := 41) rfl ?_); refine store_event (t := 3) (p := 41) (v := ?vo_w64) (w1 := (wc.setCell ⟨gb226, 5, none⟩ (.int .i64 256))) ?hg ?ho ?hn ?hr ?_; (case ho => rfl); (case hg => rfl); (case hn => rfl); (case hr => first | (go_simp; done) | (go_simp; rfl)); intro w64 hw; have n0_ : Aside0 (w64.heap[gb226]? = some (.cells #[.int .i64 a0_0, .int .i64 a0_1, .bool a0_2, .bool a0_3, .int .i64 a0_4, .int .i64 256, .int .i64 a0_6, .int .u32 a0_7, .int .u32 a0_8, .slice A0_9 l0_9.length c0_9, .slice A0_10 l0_10.length c0_10] 45 (0, 0))) := ⟨(by rw [hw]; exact (by (with_reducible repeat (first | refine blk_drewN ?_ _ | refine blk_drew ?_ | refine blk_alloc ?_ _)); refine blk_put (cs := #[.int .i64 a0_0, .int .i64 a0_1, .bool a0_2, .bool a0_3, .int .i64 a0_4, .int .i64 a0_5, .int .i64 a0_6, .int .u32 a0_7, .int .u32 a0_8, .slice A0_9 l0_9.length c0_9, .slice A0_10 l0_10.length c0_10]) ?_ 5 _ rfl; (with_reducible repeat (first | refine blk_drewN ?_ _ | refine blk_drew ?_ | refine blk_alloc ?_ _)); exact BK226.out))⟩; have n1_ : Aside0 (Below w.heap.size w w64) := ⟨(by rw [hw]; exact (by repeat (first | (with_reducible first | exact HB.out | apply below_alloc | apply pw_below_drewN | apply below_drew1 | refine below_set ?_ GE226.out) | exact HB.out)))⟩; clear hw; clear BK226; clear HB; have BK226 := n0_; have HB := n1_; clear n0_ n1_; have hcz65_0 : w64.cell? ⟨gb226, 0, none⟩ = some (.int .i64 a0_0) := (blk_cell BK226.out 0).trans rfl; have hcz65_1 : w64.cell? ⟨gb226, 1, none⟩ = some (.int .i64 a0_1) := (blk_cell BK226.out 1).trans rfl; have hcz65_2 : w64.cell? ⟨gb226, 2, none⟩ = some (.bool a0_2) := (blk_cell BK226.out 2).trans rfl; have hcz65_3 : w64.cell? ⟨gb226, 3, none⟩ = some (.bool a0_3) := (blk_cell BK226.out 3).trans rfl; have hcz65_4 : w64.cell? ⟨gb226, 4, none⟩ = some (.int .i64 a0_4) := (blk_cell BK226.out 4).trans rfl; have hcz65_5 : w64.cell? ⟨gb226, 5, none⟩ = some (.int .i64 256) := (blk_cell BK226.out 5).trans rfl; have hcz65_6 : w64.cell? ⟨gb226, 6, none⟩ = some (.int .i64 a0_6) := (blk_cell BK226.out 6).trans rfl; have hcz65_7 : w64.cell? ⟨gb226, 7, none⟩ = some (.int .u32 a0_7) := (blk_cell BK226.out 7).trans rfl; have hcz65_8 : w64.cell? ⟨gb226, 8, none⟩ = some (.int .u32 a0_8) := (blk_cell BK226.out 8).trans rfl; have hcz65_9 : w64.cell? ⟨gb226, 9, none⟩ = some (.slice A0_9 l0_9.length c0_9) := (blk_cell BK226.out 9).trans rfl; have hcz65_10 : w64.cell? ⟨gb226, 10, none⟩ = some (.slice A0_10 l0_10.length c0_10) := (blk_cell BK226.out 10).trans rfl; have hfz65_0 := blk_frozen BK226.out 0; have hfz65_1 := blk_frozen BK226.out 1; have hfz65_2 := blk_frozen BK226.out 2; have hfz65_3 := blk_frozen BK226.out 3; have hfz65_4 := blk_frozen BK226.out 4; have hfz65_5 := blk_frozen BK226.out 5; have hfz65_6 := blk_frozen BK226.out 6; have hfz65_7 := blk_frozen BK226.out 7; have hfz65_8 := blk_frozen BK226.out 8; have hfz65_9 := blk_frozen BK226.out 9; have hfz65_10 := blk_frozen BK226.out 10) | ((with_reducible refine gate_callee (f := 32) rfl ?_); refine goesL_ (some 47) rfl rfl Try.func32 (by kernel_rfl) rfl #[.agg #[.int .i64 a0_0, .int .i64 a0_1, .bool a0_2, .bool a0_3, .int .i64 a0_4, .int .i64 256, .int .i64 a0_6, .int .u32 a0_7, .int .u32 a0_8, .slice A0_9 l0_9.length c0_9, .slice A0_10 l0_10.length c0_10]] rfl (by (try simp only [List.map_toArray, List.map_cons, List.map_nil]); first | done | rfl | (simp only [List.length_drop, List.length_take]; rfl)) ?_; (with_reducible refine (ip_Build.calls kj2 a0_0 a0_1 a0_2 a0_3 a0_4 256 a0_6 a0_7 a0_8 (fun k_ => k_ < w.heap.size) _ _ l0_9 _ _ l0_10 t244 t247 _ ?side1 ?side2 ?side3 A59.out).mono ?_); (case side1 => exact Kd.V_mk HC0_9.out (Kd.F_below (Kd.C_F (Kd.heap_int .u8) HR0_9.out) (by repeat (first | (with_reducible first | exact HB.out | apply below_alloc | apply pw_below_drewN | apply below_drew1 | refine below_set ?_ GE226.out) | exact HB.out)))); (case side2 => repeat (first | exact (Kd.C_below HR0_10.out HB.out) | (with_reducible refine Kd.C_alloc ?_ _) | (with_reducible refine Kd.C_drewN ?_ _) | (with_reducible refine Kd.C_drew ?_))); (case side3 => exact HC0_10.out); rintro e w66 ⟨v245, rfl, ho0, hb⟩; refine ⟨_, rfl, ?_⟩; have n0_ := Aside0.mk (Kd.R_lower (Kd.R_mono (ok' := fun k_ => True) ho0 (fun _ hk_ => trivial)) (below_size (by repeat (first | (with_reducible first | exact HB.out | apply below_alloc | apply pw_below_drewN | apply below_drew1 | refine below_set ?_ GE226.out) | exact HB.out)))); have n1_ := Aside0.mk (blk_below (g := gb226) (o := .cells #[.int .i64 a0_0, .int .i64 a0_1, .bool a0_2, .bool a0_3, .int .i64 a0_4, .int .i64 256, .int .i64 a0_6, .int .u32 a0_7, .int .u32 a0_8, .slice A0_9 l0_9.length c0_9, .slice A0_10 l0_10.length c0_10] 45 (0, 0)) (by (with_reducible repeat (first | refine blk_drewN ?_ _ | refine blk_drew ?_ | refine blk_alloc ?_ _)); exact BK226.out) hb); have n2_ := Aside0.mk (below_step (by repeat (first | (with_reducible first | exact HB.out | apply below_alloc | apply pw_below_drewN | apply below_drew1 | refine below_set ?_ GE226.out) | exact HB.out)) hb); clear BK226; clear HB; have HO246 := n0_; have BK226 := n1_; have HB := n2_; clear n0_ n1_ n2_; (try clear hb); (try clear hb2); (try clear hk); (try clear hi); (try clear ho0); obtain ⟨Ao67, co67, eo67⟩ := Kd.R_slice HO246.out; subst eo67) | (go_at_call 29; (with_reducible refine (castellanlaw4_known.calls kj2  t248 _ A62.out).mono ?_); rintro e w68 ⟨rfl, hb⟩; have n0_ := Aside0.mk (Kd.R_below (by (with_reducible repeat (first | apply Kd.R_alloc | apply Kd.R_drewN | apply Kd.R_drew)); exact HO246.out) hb); have n1_ := Aside0.mk (blk_below (g := gb226) (o := .cells #[.int .i64 a0_0, .int .i64 a0_1, .bool a0_2, .bool a0_3, .int .i64 a0_4, .int .i64 256, .int .i64 a0_6, .int .u32 a0_7, .int .u32 a0_8, .slice A0_9 l0_9.length c0_9, .slice A0_10 l0_10.length c0_10] 45 (0, 0)) (by (with_reducible repeat (first | refine blk_drewN ?_ _ | refine blk_drew ?_ | refine blk_alloc ?_ _)); exact BK226.out) hb); have n2_ := Aside0.mk (below_step (by repeat (first | (with_reducible first | exact HB.out | apply below_alloc | apply pw_below_drewN | apply below_drew1 | refine below_set ?_ GE226.out) | exact HB.out)) hb); clear HO246; clear BK226; clear HB; have HO246 := n0_; have BK226 := n1_; have HB := n2_; clear n0_ n1_ n2_; (try clear hb); (try clear hb2); (try clear hk); (try clear hi)))
                    go_ret
                    exact ⟨by first | rfl | (simp [errW_none, errW_some] <;> rfl) | (simp [*, errW_none, errW_some] <;> rfl), by repeat (first | (with_reducible first | exact HB.out | apply below_alloc | apply pw_below_drewN | apply below_drew1 | refine below_set ?_ GE226.out) | exact HB.out)⟩
                  · rw [if_neg c61] at H
                    have c61b0 : ((t244.length : Int) == 0) = false := beq_eq_false_iff_ne.mpr c61
                    have c61b1 : ((t244.length : Int) != 0) = true := bne_iff_ne.mpr c61
                    have c61b2 : ¬ (t244 = []) := fun h_ => c61 (by rw [h_]; rfl)
                    exact absurd (H.trans (congrArg some HRT.out)) (by simp)
                · rw [if_neg c60] at H
                  have c60b0 : (t247 == 1) = false := beq_eq_false_iff_ne.mpr c60
                  have c60b1 : (t247 != 1) = true := bne_iff_ne.mpr c60
                  exact absurd (H.trans (congrArg some HRT.out)) (by simp)
              · rw [if_neg c58] at H
                have c58b0 : (a1 == 3) = false := beq_eq_false_iff_ne.mpr c58
                have c58b1 : (a1 != 3) = true := bne_iff_ne.mpr c58
                by_cases c69 : a1 = 4
                · rw [if_pos c69] at H
                  have c69b0 : (a1 == 4) = true := beq_iff_eq.mpr c69
                  have c69b1 : (a1 != 4) = false := bne_eq_false_iff_eq.mpr c69
                  clear c69
                  replace H := Option.bind_eq_some_iff.mp H
                  obtain ⟨⟨t249, t252⟩, A700, H⟩ := H
                  replace H : (if t252 = 1 then (if (t249.length : Int) = 0 then ((castellanlaw4_known.f kj2).bind fun t253 => (some t253)) else (some false)) else (some false)) = some r := H
                  have A70 := Aside0.mk A700
                  clear A700
                  by_cases c71 : t252 = 1
                  · rw [if_pos c71] at H
                    have c71b0 : (t252 == 1) = true := beq_iff_eq.mpr c71
                    have c71b1 : (t252 != 1) = false := bne_eq_false_iff_eq.mpr c71
                    clear c71
                    by_cases c72 : (t249.length : Int) = 0
                    · rw [if_pos c72] at H
                      have c72b0 : ((t249.length : Int) == 0) = true := beq_iff_eq.mpr c72
                      have c72b1 : ((t249.length : Int) != 0) = false := bne_eq_false_iff_eq.mpr c72
                      clear c72
                      replace H := Option.bind_eq_some_iff.mp H
                      obtain ⟨t253, A730, H⟩ := H
                      replace H : (some t253) = some r := H
                      have A73 := Aside0.mk A730
                      clear A730
                      obtain rfl := Option.some.inj H
                      have hcz74_0 : wc.cell? ⟨gb226, 0, none⟩ = some (.int .i64 a0_0) := (blk_cell BK226.out 0).trans rfl
                      have hcz74_1 : wc.cell? ⟨gb226, 1, none⟩ = some (.int .i64 a0_1) := (blk_cell BK226.out 1).trans rfl
                      have hcz74_2 : wc.cell? ⟨gb226, 2, none⟩ = some (.bool a0_2) := (blk_cell BK226.out 2).trans rfl
                      have hcz74_3 : wc.cell? ⟨gb226, 3, none⟩ = some (.bool a0_3) := (blk_cell BK226.out 3).trans rfl
                      have hcz74_4 : wc.cell? ⟨gb226, 4, none⟩ = some (.int .i64 a0_4) := (blk_cell BK226.out 4).trans rfl
                      have hcz74_5 : wc.cell? ⟨gb226, 5, none⟩ = some (.int .i64 a0_5) := (blk_cell BK226.out 5).trans rfl
                      have hcz74_6 : wc.cell? ⟨gb226, 6, none⟩ = some (.int .i64 a0_6) := (blk_cell BK226.out 6).trans rfl
                      have hcz74_7 : wc.cell? ⟨gb226, 7, none⟩ = some (.int .u32 a0_7) := (blk_cell BK226.out 7).trans rfl
                      have hcz74_8 : wc.cell? ⟨gb226, 8, none⟩ = some (.int .u32 a0_8) := (blk_cell BK226.out 8).trans rfl
                      have hcz74_9 : wc.cell? ⟨gb226, 9, none⟩ = some (.slice A0_9 l0_9.length c0_9) := (blk_cell BK226.out 9).trans rfl
                      have hcz74_10 : wc.cell? ⟨gb226, 10, none⟩ = some (.slice A0_10 l0_10.length c0_10) := (blk_cell BK226.out 10).trans rfl
                      have hfz74_0 := blk_frozen BK226.out 0
                      have hfz74_1 := blk_frozen BK226.out 1
                      have hfz74_2 := blk_frozen BK226.out 2
                      have hfz74_3 := blk_frozen BK226.out 3
                      have hfz74_4 := blk_frozen BK226.out 4
                      have hfz74_5 := blk_frozen BK226.out 5
                      have hfz74_6 := blk_frozen BK226.out 6
                      have hfz74_7 := blk_frozen BK226.out 7
                      have hfz74_8 := blk_frozen BK226.out 8
                      have hfz74_9 := blk_frozen BK226.out 9
                      have hfz74_10 := blk_frozen BK226.out 10
                      go_wp2_with (first | ((with_reducible refine gate_store (t := 3) (p := 44) rfl ?_); refine store_event (t := 3) (p := 44) (v := ?vo_w75) (w1 := (wc.setCell ⟨gb226, 6, none⟩ (.int .i64 (-1)))) ?hg ?ho ?hn ?hr ?_; (case ho => rfl); (case hg => rfl); (case hn => rfl); (case hr => first | (go_simp; done) | (go_simp; rfl)); intro w75 hw; have n0_ : Aside0 (w75.heap[gb226]? = some (.cells #[.int .i64 a0_0, .int .i64 a0_1, .bool a0_2, .bool a0_3, .int .i64 a0_4, .int .i64 a0_5, .int .i64 (-1), .int .u32 a0_7, .int .u32 a0_8, .slice A0_9 l0_9.length c0_9, .slice A0_10 l0_10.length c0_10] 45 (0, 0))) := ⟨(by rw [hw]; exact (by (with_reducible repeat (first | refine blk_drewN ?_ _ | refine blk_drew ?_ | refine blk_alloc ?_ _)); refine blk_put (cs := #[.int .i64 a0_0, .int .i64 a0_1, .bool a0_2, .bool a0_3, .int .i64 a0_4, .int .i64 a0_5, .int .i64 a0_6, .int .u32 a0_7, .int .u32 a0_8, .slice A0_9 l0_9.length c0_9, .slice A0_10 l0_10.length c0_10]) ?_ 6 _ rfl; (with_reducible repeat (first | refine blk_drewN ?_ _ | refine blk_drew ?_ | refine blk_alloc ?_ _)); exact BK226.out))⟩; have n1_ : Aside0 (Below w.heap.size w w75) := ⟨(by rw [hw]; exact (by repeat (first | (with_reducible first | exact HB.out | apply below_alloc | apply pw_below_drewN | apply below_drew1 | refine below_set ?_ GE226.out) | exact HB.out)))⟩; clear hw; clear BK226; clear HB; have BK226 := n0_; have HB := n1_; clear n0_ n1_; have hcz76_0 : w75.cell? ⟨gb226, 0, none⟩ = some (.int .i64 a0_0) := (blk_cell BK226.out 0).trans rfl; have hcz76_1 : w75.cell? ⟨gb226, 1, none⟩ = some (.int .i64 a0_1) := (blk_cell BK226.out 1).trans rfl; have hcz76_2 : w75.cell? ⟨gb226, 2, none⟩ = some (.bool a0_2) := (blk_cell BK226.out 2).trans rfl; have hcz76_3 : w75.cell? ⟨gb226, 3, none⟩ = some (.bool a0_3) := (blk_cell BK226.out 3).trans rfl; have hcz76_4 : w75.cell? ⟨gb226, 4, none⟩ = some (.int .i64 a0_4) := (blk_cell BK226.out 4).trans rfl; have hcz76_5 : w75.cell? ⟨gb226, 5, none⟩ = some (.int .i64 a0_5) := (blk_cell BK226.out 5).trans rfl; have hcz76_6 : w75.cell? ⟨gb226, 6, none⟩ = some (.int .i64 (-1)) := (blk_cell BK226.out 6).trans rfl; have hcz76_7 : w75.cell? ⟨gb226, 7, none⟩ = some (.int .u32 a0_7) := (blk_cell BK226.out 7).trans rfl; have hcz76_8 : w75.cell? ⟨gb226, 8, none⟩ = some (.int .u32 a0_8) := (blk_cell BK226.out 8).trans rfl; have hcz76_9 : w75.cell? ⟨gb226, 9, none⟩ = some (.slice A0_9 l0_9.length c0_9) := (blk_cell BK226.out 9).trans rfl; have hcz76_10 : w75.cell? ⟨gb226, 10, none⟩ = some (.slice A0_10 l0_10.length c0_10) := (blk_cell BK226.out 10).trans rfl; have hfz76_0 := blk_frozen BK226.out 0; have hfz76_1 := blk_frozen BK226.out 1; have hfz76_2 := blk_frozen BK226.out 2; have hfz76_3 := blk_frozen BK226.out 3; have hfz76_4 := blk_frozen BK226.out 4; have hfz76_5 := blk_frozen BK226.out 5; have hfz76_6 := blk_frozen BK226.out 6; have hfz76_7 := blk_frozen BK226.out 7; have hfz76_8 := blk_frozen BK226.out 8; have hfz76_9 := blk_frozen BK226.out 9; have hfz76_10 := blk_frozen BK226.out 10) | ((with_reducible refine gate_callee (f := 32) rfl ?_); refine goesL_ (some 47) rfl rfl Try.func32 (by kernel_rfl) rfl #[.agg #[.int .i64 a0_0, .int .i64 a0_1, .bool a0_2, .bool a0_3, .int .i64 a0_4, .int .i64 a0_5, .int .i64 (-1), .int .u32 a0_7, .int .u32 a0_8, .slice A0_9 l0_9.length c0_9, .slice A0_10 l0_10.length c0_10]] rfl (by (try simp only [List.map_toArray, List.map_cons, List.map_nil]); first | done | rfl | (simp only [List.length_drop, List.length_take]; rfl)) ?_; (with_reducible refine (ip_Build.calls kj2 a0_0 a0_1 a0_2 a0_3 a0_4 a0_5 (-1) a0_7 a0_8 (fun k_ => k_ < w.heap.size) _ _ l0_9 _ _ l0_10 t249 t252 _ ?side1 ?side2 ?side3 A70.out).mono ?_); (case side1 => exact Kd.V_mk HC0_9.out (Kd.F_below (Kd.C_F (Kd.heap_int .u8) HR0_9.out) (by repeat (first | (with_reducible first | exact HB.out | apply below_alloc | apply pw_below_drewN | apply below_drew1 | refine below_set ?_ GE226.out) | exact HB.out)))); (case side2 => repeat (first | exact (Kd.C_below HR0_10.out HB.out) | (with_reducible refine Kd.C_alloc ?_ _) | (with_reducible refine Kd.C_drewN ?_ _) | (with_reducible refine Kd.C_drew ?_))); (case side3 => exact HC0_10.out); rintro e w77 ⟨v250, rfl, ho0, hb⟩; refine ⟨_, rfl, ?_⟩; have n0_ := Aside0.mk (Kd.R_lower (Kd.R_mono (ok' := fun k_ => True) ho0 (fun _ hk_ => trivial)) (below_size (by repeat (first | (with_reducible first | exact HB.out | apply below_alloc | apply pw_below_drewN | apply below_drew1 | refine below_set ?_ GE226.out) | exact HB.out)))); have n1_ := Aside0.mk (blk_below (g := gb226) (o := .cells #[.int .i64 a0_0, .int .i64 a0_1, .bool a0_2, .bool a0_3, .int .i64 a0_4, .int .i64 a0_5, .int .i64 (-1), .int .u32 a0_7, .int .u32 a0_8, .slice A0_9 l0_9.length c0_9, .slice A0_10 l0_10.length c0_10] 45 (0, 0)) (by (with_reducible repeat (first | refine blk_drewN ?_ _ | refine blk_drew ?_ | refine blk_alloc ?_ _)); exact BK226.out) hb); have n2_ := Aside0.mk (below_step (by repeat (first | (with_reducible first | exact HB.out | apply below_alloc | apply pw_below_drewN | apply below_drew1 | refine below_set ?_ GE226.out) | exact HB.out)) hb); clear BK226; clear HB; have HO251 := n0_; have BK226 := n1_; have HB := n2_; clear n0_ n1_ n2_; (try clear hb); (try clear hb2); (try clear hk); (try clear hi); (try clear ho0); obtain ⟨Ao78, co78, eo78⟩ := Kd.R_slice HO251.out; subst eo78) | (go_at_call 29; (with_reducible refine (castellanlaw4_known.calls kj2  t253 _ A73.out).mono ?_); rintro e w79 ⟨rfl, hb⟩; have n0_ := Aside0.mk (Kd.R_below (by (with_reducible repeat (first | apply Kd.R_alloc | apply Kd.R_drewN | apply Kd.R_drew)); exact HO251.out) hb); have n1_ := Aside0.mk (blk_below (g := gb226) (o := .cells #[.int .i64 a0_0, .int .i64 a0_1, .bool a0_2, .bool a0_3, .int .i64 a0_4, .int .i64 a0_5, .int .i64 (-1), .int .u32 a0_7, .int .u32 a0_8, .slice A0_9 l0_9.length c0_9, .slice A0_10 l0_10.length c0_10] 45 (0, 0)) (by (with_reducible repeat (first | refine blk_drewN ?_ _ | refine blk_drew ?_ | refine blk_alloc ?_ _)); exact BK226.out) hb); have n2_ := Aside0.mk (below_step (by repeat (first | (with_reducible first | exact HB.out | apply below_alloc | apply pw_below_drewN | apply below_drew1 | refine below_set ?_ GE226.out) | exact HB.out)) hb); clear HO251; clear BK226; clear HB; have HO251 := n0_; have BK226 := n1_; have HB := n2_; clear n0_ n1_ n2_; (try clear hb); (try clear hb2); (try clear hk); (try clear hi)))
                      go_ret
                      exact ⟨by first | rfl | (simp [errW_none, errW_some] <;> rfl) | (simp [*, errW_none, errW_some] <;> rfl), by repeat (first | (with_reducible first | exact HB.out | apply below_alloc | apply pw_below_drewN | apply below_drew1 | refine below_set ?_ GE226.out) | exact HB.out)⟩
                    · rw [if_neg c72] at H
                      have c72b0 : ((t249.length : Int) == 0) = false := beq_eq_false_iff_ne.mpr c72
                      have c72b1 : ((t249.length : Int) != 0) = true := bne_iff_ne.mpr c72
                      have c72b2 : ¬ (t249 = []) := fun h_ => c72 (by rw [h_]; rfl)
                      exact absurd (H.trans (congrArg some HRT.out)) (by simp)
                  · rw [if_neg c71] at H
                    have c71b0 : (t252 == 1) = false := beq_eq_false_iff_ne.mpr c71
                    have c71b1 : (t252 != 1) = true := bne_iff_ne.mpr c71
                    exact absurd (H.trans (congrArg some HRT.out)) (by simp)
                · rw [if_neg c69] at H
                  have c69b0 : (a1 == 4) = false := beq_eq_false_iff_ne.mpr c69
                  have c69b1 : (a1 != 4) = true := bne_iff_ne.mpr c69
                  obtain ⟨y254, hy254⟩ : ∃ y_ : List Int, y_ = (([] : List Int)) := ⟨_, rfl⟩
                  replace H : (if y254.length + l0_9.length < 140737488355328 then ((some (y254 ++ l0_9 : List Int)).bind fun y257 => (if y257.length < 140737488355328 then ((ip_Build.f kj2 a0_0 a0_1 a0_2 a0_3 a0_4 a0_5 a0_6 a0_7 a0_8 (y257 ++ [1]) l0_10).bind fun bt263 => (if bt263.2 = 1 then (if (bt263.1.length : Int) = 0 then ((castellanlaw4_known.f kj2).bind fun t267 => (some t267)) else (some false)) else (some false))) else (none))) else (none)) = some r := by first | (rw [hy254]; with_reducible exact H) | (have H2_ := (Option.bind_some _ _).symm.trans H; rw [hy254]; with_reducible exact H2_) | (have H2_ := (Option.bind_some _ _).symm.trans H; with_reducible exact H2_) | with_reducible exact H | (rw [hy254]; exact H) | exact H
                  have Ny254 := Aside0.mk hy254
                  clear hy254
                  by_cases c80 : y254.length + l0_9.length < 140737488355328
                  · rw [if_pos c80] at H
                    have LMc80 := Aside0.mk c80
                    clear c80
                    obtain ⟨y257, hy257⟩ : ∃ y_ : List Int, y_ = (y254 ++ l0_9) := ⟨_, rfl⟩
                    replace H : (if y257.length < 140737488355328 then ((ip_Build.f kj2 a0_0 a0_1 a0_2 a0_3 a0_4 a0_5 a0_6 a0_7 a0_8 (y257 ++ [1]) l0_10).bind fun bt263 => (if bt263.2 = 1 then (if (bt263.1.length : Int) = 0 then ((castellanlaw4_known.f kj2).bind fun t267 => (some t267)) else (some false)) else (some false))) else (none)) = some r := by first | (rw [hy257]; with_reducible exact H) | (have H2_ := (Option.bind_some _ _).symm.trans H; rw [hy257]; with_reducible exact H2_) | (have H2_ := (Option.bind_some _ _).symm.trans H; with_reducible exact H2_) | with_reducible exact H | (rw [hy257]; exact H) | exact H
                    have Ny257 := Aside0.mk hy257
                    clear hy257
                    by_cases c81 : y257.length < 140737488355328
                    · rw [if_pos c81] at H
                      have LMc81 := Aside0.mk c81
                      clear c81
                      obtain ⟨y260, hy260⟩ : ∃ y_ : List Int, y_ = (y257 ++ [1]) := ⟨_, rfl⟩
                      replace H : ((ip_Build.f kj2 a0_0 a0_1 a0_2 a0_3 a0_4 a0_5 a0_6 a0_7 a0_8 y260 l0_10).bind fun bt263 => (if bt263.2 = 1 then (if (bt263.1.length : Int) = 0 then ((castellanlaw4_known.f kj2).bind fun t267 => (some t267)) else (some false)) else (some false))) = some r := by first | (rw [hy260]; with_reducible exact H) | (have H2_ := (Option.bind_some _ _).symm.trans H; rw [hy260]; with_reducible exact H2_) | (have H2_ := (Option.bind_some _ _).symm.trans H; with_reducible exact H2_) | with_reducible exact H | (rw [hy260]; exact H) | exact H
                      have Ny260 := Aside0.mk hy260
                      clear hy260
                      replace H := Option.bind_eq_some_iff.mp H
                      obtain ⟨⟨t263, t266⟩, A820, H⟩ := H
                      replace H : (if t266 = 1 then (if (t263.length : Int) = 0 then ((castellanlaw4_known.f kj2).bind fun t267 => (some t267)) else (some false)) else (some false)) = some r := H
                      have A82 := Aside0.mk A820
                      clear A820
                      by_cases c83 : t266 = 1
                      · rw [if_pos c83] at H
                        have c83b0 : (t266 == 1) = true := beq_iff_eq.mpr c83
                        have c83b1 : (t266 != 1) = false := bne_eq_false_iff_eq.mpr c83
                        clear c83
                        by_cases c84 : (t263.length : Int) = 0
                        · rw [if_pos c84] at H
                          have c84b0 : ((t263.length : Int) == 0) = true := beq_iff_eq.mpr c84
                          have c84b1 : ((t263.length : Int) != 0) = false := bne_eq_false_iff_eq.mpr c84
                          clear c84
                          replace H := Option.bind_eq_some_iff.mp H
                          obtain ⟨t267, A850, H⟩ := H
                          replace H : (some t267) = some r := H
                          have A85 := Aside0.mk A850
                          clear A850
                          obtain rfl := Option.some.inj H
                          go_wp2_with (first | ((with_reducible refine gate_dst (N := 23) rfl ?_); (try (refine gate_guard (by rfl) ?_; dsimp only)); refine Kd.R_lit (Kd.int .u8) _ 5 ?hg (N := 23) ?hd (xs := ([] : List Int)) (inner := []) (ok := fun _ => True) (okp := fun _ => True) ?hr ?hp (fun _ hk => hk) trivial (Below.refl _ _) (Nat.le_refl _) (by simp) ?_; (case hd => rfl); (case hg => rfl); (case hr => first | (go_simp; done) | (go_simp; rfl)); (case hp => exact (Reps.none _ _)); intro v255 w86 ho87 hb hg_ hnew_; clear hg_ hnew_; (first | rw [← Ny254.out] at ho87 | (simp only [Int.reduceToNat] at ho87; rw [← Ny254.out] at ho87)); have n0_ := Aside0.mk (Kd.R_lower ho87 (below_size (by repeat (first | (with_reducible first | exact HB.out | apply below_alloc | apply pw_below_drewN | apply below_drew1 | refine below_set ?_ GE226.out) | exact HB.out)))); have n1_ := Aside0.mk (blk_below (g := gb226) (o := .cells #[.int .i64 a0_0, .int .i64 a0_1, .bool a0_2, .bool a0_3, .int .i64 a0_4, .int .i64 a0_5, .int .i64 a0_6, .int .u32 a0_7, .int .u32 a0_8, .slice A0_9 l0_9.length c0_9, .slice A0_10 l0_10.length c0_10] 45 (0, 0)) (by (with_reducible repeat (first | refine blk_drewN ?_ _ | refine blk_drew ?_ | refine blk_alloc ?_ _)); exact BK226.out) hb); have n2_ := Aside0.mk (below_step (by repeat (first | (with_reducible first | exact HB.out | apply below_alloc | apply pw_below_drewN | apply below_drew1 | refine below_set ?_ GE226.out) | exact HB.out)) hb); clear BK226; clear HB; have HO256 := n0_; have BK226 := n1_; have HB := n2_; clear n0_ n1_ n2_; clear hb ho87; have hcz88_0 : w86.cell? ⟨gb226, 0, none⟩ = some (.int .i64 a0_0) := (blk_cell BK226.out 0).trans rfl; have hcz88_1 : w86.cell? ⟨gb226, 1, none⟩ = some (.int .i64 a0_1) := (blk_cell BK226.out 1).trans rfl; have hcz88_2 : w86.cell? ⟨gb226, 2, none⟩ = some (.bool a0_2) := (blk_cell BK226.out 2).trans rfl; have hcz88_3 : w86.cell? ⟨gb226, 3, none⟩ = some (.bool a0_3) := (blk_cell BK226.out 3).trans rfl; have hcz88_4 : w86.cell? ⟨gb226, 4, none⟩ = some (.int .i64 a0_4) := (blk_cell BK226.out 4).trans rfl; have hcz88_5 : w86.cell? ⟨gb226, 5, none⟩ = some (.int .i64 a0_5) := (blk_cell BK226.out 5).trans rfl; have hcz88_6 : w86.cell? ⟨gb226, 6, none⟩ = some (.int .i64 a0_6) := (blk_cell BK226.out 6).trans rfl; have hcz88_7 : w86.cell? ⟨gb226, 7, none⟩ = some (.int .u32 a0_7) := (blk_cell BK226.out 7).trans rfl; have hcz88_8 : w86.cell? ⟨gb226, 8, none⟩ = some (.int .u32 a0_8) := (blk_cell BK226.out 8).trans rfl; have hcz88_9 : w86.cell? ⟨gb226, 9, none⟩ = some (.slice A0_9 l0_9.length c0_9) := (blk_cell BK226.out 9).trans rfl; have hcz88_10 : w86.cell? ⟨gb226, 10, none⟩ = some (.slice A0_10 l0_10.length c0_10) := (blk_cell BK226.out 10).trans rfl; have hfz88_0 := blk_frozen BK226.out 0; have hfz88_1 := blk_frozen BK226.out 1; have hfz88_2 := blk_frozen BK226.out 2; have hfz88_3 := blk_frozen BK226.out 3; have hfz88_4 := blk_frozen BK226.out 4; have hfz88_5 := blk_frozen BK226.out 5; have hfz88_6 := blk_frozen BK226.out 6; have hfz88_7 := blk_frozen BK226.out 7; have hfz88_8 := blk_frozen BK226.out 8; have hfz88_9 := blk_frozen BK226.out 9; have hfz88_10 := blk_frozen BK226.out 10) | ((with_reducible refine gate_builtin (b := .append) (xs := #[.tmp 23, .tmp 25]) rfl ?_); (try (refine gate_guard (by rfl) ?_; dsimp only)); at_builtin; refine Kd.R_append_rows (Kd.int .u8) (w0 := w) w.heap.size rfl (.tmp 23) (.tmp 25) 24 5 (.int .u8 0) 1 rfl Try.underlying24 info5 rfl (by decide) (by omega) v255 y254 l0_9 _ _ _ (fun _ => True) (fun _ => False) rfl rfl ?aO ?aR (fun _ _ h => h) (fun _ h => h.elim) ?aF ?aB ?aS ?aL ?_; (case aR => repeat (first | exact (Kd.C_below HR0_9.out HB.out) | (with_reducible refine Kd.C_alloc ?_ _) | (with_reducible refine Kd.C_drewN ?_ _) | (with_reducible refine Kd.C_drew ?_))); (case aB => exact (by repeat (first | (with_reducible first | exact HB.out | apply below_alloc | apply pw_below_drewN | apply below_drew1 | refine below_set ?_ GE226.out) | exact HB.out))); (case aF => exact (fun _ _ => trivial)); (case aO => exact (by (with_reducible repeat (first | apply Kd.R_alloc | apply Kd.R_drewN | apply Kd.R_drew)); exact HO256.out)); (case aS => exact (below_size (by repeat (first | (with_reducible first | exact HB.out | apply below_alloc | apply pw_below_drewN | apply below_drew1 | refine below_set ?_ GE226.out) | exact HB.out)))); (case aL => have := LMc80.out; omega); intro v258 w89 ho hb hg hat; rw [← Ny257.out] at ho; have n0_ := Aside0.mk (blk_grown (g := gb226) (o := .cells #[.int .i64 a0_0, .int .i64 a0_1, .bool a0_2, .bool a0_3, .int .i64 a0_4, .int .i64 a0_5, .int .i64 a0_6, .int .u32 a0_7, .int .u32 a0_8, .slice A0_9 l0_9.length c0_9, .slice A0_10 l0_10.length c0_10] 45 (0, 0)) (by (with_reducible repeat (first | refine blk_drewN ?_ _ | refine blk_drew ?_ | refine blk_alloc ?_ _)); exact BK226.out) hg (Kd.R_ne HO256.out BK226.out (by decide))); have n1_ := Aside0.mk (hb); have n2_ := Aside0.mk (ho); clear BK226; clear HB; clear HO256; have BK226 := n0_; have HB := n1_; have HO259 := n2_; clear n0_ n1_ n2_; clear ho hb hg hat) | ((with_reducible refine gate_builtin (b := .append) (xs := #[.tmp 26, .tmp 27]) rfl ?_); (try (refine gate_guard (by rfl) ?_; dsimp only)); at_builtin; refine Kd.R_append (Kd.int .u8) (w0 := w) w.heap.size rfl (.tmp 26) (.tmp 27) 24 5 (.int .u8 0) 1 rfl Try.underlying24 info5 rfl (by decide) (by omega) v258 y257 1 [.int .u8 1] (fun _ => True) (fun _ => False) rfl rfl ?aP (fun _ hk => hk.elim) ?aF ?aO ?aB ?aS ?aL ?_; (case aP => exact rfl); (case aB => exact (by repeat (first | (with_reducible first | exact HB.out | apply below_alloc | apply pw_below_drewN | apply below_drew1 | refine below_set ?_ GE226.out) | exact HB.out))); (case aF => exact (fun _ _ => trivial)); (case aO => exact (by (with_reducible repeat (first | apply Kd.R_alloc | apply Kd.R_drewN | apply Kd.R_drew)); exact HO259.out)); (case aS => exact (below_size (by repeat (first | (with_reducible first | exact HB.out | apply below_alloc | apply pw_below_drewN | apply below_drew1 | refine below_set ?_ GE226.out) | exact HB.out)))); (case aL => have := LMc81.out; omega); intro v261 w90 ho hb hg hat; rw [← Ny260.out] at ho; have n0_ := Aside0.mk (blk_grown (g := gb226) (o := .cells #[.int .i64 a0_0, .int .i64 a0_1, .bool a0_2, .bool a0_3, .int .i64 a0_4, .int .i64 a0_5, .int .i64 a0_6, .int .u32 a0_7, .int .u32 a0_8, .slice A0_9 l0_9.length c0_9, .slice A0_10 l0_10.length c0_10] 45 (0, 0)) (by (with_reducible repeat (first | refine blk_drewN ?_ _ | refine blk_drew ?_ | refine blk_alloc ?_ _)); exact BK226.out) hg (Kd.R_ne HO259.out BK226.out (by decide))); have n1_ := Aside0.mk (hb); have n2_ := Aside0.mk (ho); clear BK226; clear HB; clear HO259; have BK226 := n0_; have HB := n1_; have HO262 := n2_; clear n0_ n1_ n2_; clear ho hb hg hat; obtain ⟨Ao91, co91, eo91⟩ := Kd.R_slice HO262.out; subst eo91; have hcz92_0 : w90.cell? ⟨gb226, 0, none⟩ = some (.int .i64 a0_0) := (blk_cell BK226.out 0).trans rfl; have hcz92_1 : w90.cell? ⟨gb226, 1, none⟩ = some (.int .i64 a0_1) := (blk_cell BK226.out 1).trans rfl; have hcz92_2 : w90.cell? ⟨gb226, 2, none⟩ = some (.bool a0_2) := (blk_cell BK226.out 2).trans rfl; have hcz92_3 : w90.cell? ⟨gb226, 3, none⟩ = some (.bool a0_3) := (blk_cell BK226.out 3).trans rfl; have hcz92_4 : w90.cell? ⟨gb226, 4, none⟩ = some (.int .i64 a0_4) := (blk_cell BK226.out 4).trans rfl; have hcz92_5 : w90.cell? ⟨gb226, 5, none⟩ = some (.int .i64 a0_5) := (blk_cell BK226.out 5).trans rfl; have hcz92_6 : w90.cell? ⟨gb226, 6, none⟩ = some (.int .i64 a0_6) := (blk_cell BK226.out 6).trans rfl; have hcz92_7 : w90.cell? ⟨gb226, 7, none⟩ = some (.int .u32 a0_7) := (blk_cell BK226.out 7).trans rfl; have hcz92_8 : w90.cell? ⟨gb226, 8, none⟩ = some (.int .u32 a0_8) := (blk_cell BK226.out 8).trans rfl; have hcz92_9 : w90.cell? ⟨gb226, 9, none⟩ = some (.slice A0_9 l0_9.length c0_9) := (blk_cell BK226.out 9).trans rfl; have hcz92_10 : w90.cell? ⟨gb226, 10, none⟩ = some (.slice A0_10 l0_10.length c0_10) := (blk_cell BK226.out 10).trans rfl; have hfz92_0 := blk_frozen BK226.out 0; have hfz92_1 := blk_frozen BK226.out 1; have hfz92_2 := blk_frozen BK226.out 2; have hfz92_3 := blk_frozen BK226.out 3; have hfz92_4 := blk_frozen BK226.out 4; have hfz92_5 := blk_frozen BK226.out 5; have hfz92_6 := blk_frozen BK226.out 6; have hfz92_7 := blk_frozen BK226.out 7; have hfz92_8 := blk_frozen BK226.out 8; have hfz92_9 := blk_frozen BK226.out 9; have hfz92_10 := blk_frozen BK226.out 10) | ((with_reducible refine gate_store (t := 24) (p := 29) rfl ?_); refine store_event (t := 24) (p := 29) (v := ?vo_w93) (w1 := (w90.setCell ⟨gb226, 9, none⟩ (.slice Ao91 y260.length co91))) ?hg ?ho ?hn ?hr ?_; (case ho => rfl); (case hg => rfl); (case hn => rfl); (case hr => first | (go_simp; done) | (go_simp; rfl)); intro w93 hw; have n0_ : Aside0 (Kd.R (Kd.int .u8) 5 w93 w.heap.size (fun _ => True) (.slice Ao91 y260.length co91) y260) := ⟨(by rw [hw]; exact (by (with_reducible repeat (first | apply Kd.R_alloc | apply Kd.R_drewN | apply Kd.R_drew)); exact Kd.R_mono (Kd.R_far (p := ⟨gb226, 9, none⟩) (Kd.R_types HO262.out BK226.out (by decide)) (fun _ hk => hk.2) (.slice Ao91 y260.length co91)) (fun _ hk => trivial)))⟩; have n1_ : Aside0 (w93.heap[gb226]? = some (.cells #[.int .i64 a0_0, .int .i64 a0_1, .bool a0_2, .bool a0_3, .int .i64 a0_4, .int .i64 a0_5, .int .i64 a0_6, .int .u32 a0_7, .int .u32 a0_8, .slice Ao91 y260.length co91, .slice A0_10 l0_10.length c0_10] 45 (0, 0))) := ⟨(by rw [hw]; exact (by (with_reducible repeat (first | refine blk_drewN ?_ _ | refine blk_drew ?_ | refine blk_alloc ?_ _)); refine blk_put (cs := #[.int .i64 a0_0, .int .i64 a0_1, .bool a0_2, .bool a0_3, .int .i64 a0_4, .int .i64 a0_5, .int .i64 a0_6, .int .u32 a0_7, .int .u32 a0_8, .slice A0_9 l0_9.length c0_9, .slice A0_10 l0_10.length c0_10]) ?_ 9 _ rfl; (with_reducible repeat (first | refine blk_drewN ?_ _ | refine blk_drew ?_ | refine blk_alloc ?_ _)); exact BK226.out))⟩; have n2_ : Aside0 (Below w.heap.size w w93) := ⟨(by rw [hw]; exact (by repeat (first | (with_reducible first | exact HB.out | apply below_alloc | apply pw_below_drewN | apply below_drew1 | refine below_set ?_ GE226.out) | exact HB.out)))⟩; clear hw; clear HO262; clear BK226; clear HB; have HO262 := n0_; have BK226 := n1_; have HB := n2_; clear n0_ n1_ n2_; have hcz94_0 : w93.cell? ⟨gb226, 0, none⟩ = some (.int .i64 a0_0) := (blk_cell BK226.out 0).trans rfl; have hcz94_1 : w93.cell? ⟨gb226, 1, none⟩ = some (.int .i64 a0_1) := (blk_cell BK226.out 1).trans rfl; have hcz94_2 : w93.cell? ⟨gb226, 2, none⟩ = some (.bool a0_2) := (blk_cell BK226.out 2).trans rfl; have hcz94_3 : w93.cell? ⟨gb226, 3, none⟩ = some (.bool a0_3) := (blk_cell BK226.out 3).trans rfl; have hcz94_4 : w93.cell? ⟨gb226, 4, none⟩ = some (.int .i64 a0_4) := (blk_cell BK226.out 4).trans rfl; have hcz94_5 : w93.cell? ⟨gb226, 5, none⟩ = some (.int .i64 a0_5) := (blk_cell BK226.out 5).trans rfl; have hcz94_6 : w93.cell? ⟨gb226, 6, none⟩ = some (.int .i64 a0_6) := (blk_cell BK226.out 6).trans rfl; have hcz94_7 : w93.cell? ⟨gb226, 7, none⟩ = some (.int .u32 a0_7) := (blk_cell BK226.out 7).trans rfl; have hcz94_8 : w93.cell? ⟨gb226, 8, none⟩ = some (.int .u32 a0_8) := (blk_cell BK226.out 8).trans rfl; have hcz94_9 : w93.cell? ⟨gb226, 9, none⟩ = some (.slice Ao91 y260.length co91) := (blk_cell BK226.out 9).trans rfl; have hcz94_10 : w93.cell? ⟨gb226, 10, none⟩ = some (.slice A0_10 l0_10.length c0_10) := (blk_cell BK226.out 10).trans rfl; have hfz94_0 := blk_frozen BK226.out 0; have hfz94_1 := blk_frozen BK226.out 1; have hfz94_2 := blk_frozen BK226.out 2; have hfz94_3 := blk_frozen BK226.out 3; have hfz94_4 := blk_frozen BK226.out 4; have hfz94_5 := blk_frozen BK226.out 5; have hfz94_6 := blk_frozen BK226.out 6; have hfz94_7 := blk_frozen BK226.out 7; have hfz94_8 := blk_frozen BK226.out 8; have hfz94_9 := blk_frozen BK226.out 9; have hfz94_10 := blk_frozen BK226.out 10) | ((with_reducible refine gate_callee (f := 32) rfl ?_); refine goesL_ (some 47) rfl rfl Try.func32 (by kernel_rfl) rfl #[.agg #[.int .i64 a0_0, .int .i64 a0_1, .bool a0_2, .bool a0_3, .int .i64 a0_4, .int .i64 a0_5, .int .i64 a0_6, .int .u32 a0_7, .int .u32 a0_8, .slice Ao91 y260.length co91, .slice A0_10 l0_10.length c0_10]] rfl (by (try simp only [List.map_toArray, List.map_cons, List.map_nil]); first | done | rfl | (simp only [List.length_drop, List.length_take]; rfl)) ?_; (with_reducible refine (ip_Build.calls kj2 a0_0 a0_1 a0_2 a0_3 a0_4 a0_5 a0_6 a0_7 a0_8 (fun k_ => some k_ = (.slice Ao91 y260.length co91 : Value).ownBlock) _ _ y260 _ _ l0_10 t263 t266 _ ?side1 ?side2 ?side3 A82.out).mono ?_); (case side1 => exact Kd.R_V (Kd.R_tight rfl (Kd.R_types (HO262.out) BK226.out (by decide)))); (case side2 => repeat (first | exact (Kd.C_below HR0_10.out HB.out) | (with_reducible refine Kd.C_alloc ?_ _) | (with_reducible refine Kd.C_drewN ?_ _) | (with_reducible refine Kd.C_drew ?_))); (case side3 => exact HC0_10.out); rintro e w95 ⟨v264, rfl, ho0, hb⟩; refine ⟨_, rfl, ?_⟩; have n0_ := Aside0.mk (Kd.R_elder' (by (with_reducible repeat (first | apply Kd.R_alloc | apply Kd.R_drewN | apply Kd.R_drew)); exact HO262.out) (Kd.R_base ho0) hb); have n1_ := Aside0.mk (Kd.R_lower (Kd.R_new' (Kd.R_mono (ok' := fun k_ => True) ho0 (fun _ hk_ => trivial)) (Kd.R_lt (by (with_reducible repeat (first | apply Kd.R_alloc | apply Kd.R_drewN | apply Kd.R_drew)); exact HO262.out))) (below_size (by repeat (first | (with_reducible first | exact HB.out | apply below_alloc | apply pw_below_drewN | apply below_drew1 | refine below_set ?_ GE226.out) | exact HB.out)))); have n2_ := Aside0.mk (blk_below (g := gb226) (o := .cells #[.int .i64 a0_0, .int .i64 a0_1, .bool a0_2, .bool a0_3, .int .i64 a0_4, .int .i64 a0_5, .int .i64 a0_6, .int .u32 a0_7, .int .u32 a0_8, .slice Ao91 y260.length co91, .slice A0_10 l0_10.length c0_10] 45 (0, 0)) (by (with_reducible repeat (first | refine blk_drewN ?_ _ | refine blk_drew ?_ | refine blk_alloc ?_ _)); exact BK226.out) hb); have n3_ := Aside0.mk (below_step (by repeat (first | (with_reducible first | exact HB.out | apply below_alloc | apply pw_below_drewN | apply below_drew1 | refine below_set ?_ GE226.out) | exact HB.out)) hb); clear HO262; clear BK226; clear HB; have HO262 := n0_; have HO265 := n1_; have BK226 := n2_; have HB := n3_; clear n0_ n1_ n2_ n3_; (try clear hb); (try clear hb2); (try clear hk); (try clear hi); (try clear ho0); obtain ⟨Ao96, co96, eo96⟩ := Kd.R_slice HO265.out; subst eo96) | (go_at_call 29; (with_reducible refine (castellanlaw4_known.calls kj2  t267 _ A85.out).mono ?_); rintro e w97 ⟨rfl, hb⟩; have n0_ := Aside0.mk (Kd.R_below (by (with_reducible repeat (first | apply Kd.R_alloc | apply Kd.R_drewN | apply Kd.R_drew)); exact HO262.out) hb); have n1_ := Aside0.mk (Kd.R_below (by (with_reducible repeat (first | apply Kd.R_alloc | apply Kd.R_drewN | apply Kd.R_drew)); exact HO265.out) hb); have n2_ := Aside0.mk (blk_below (g := gb226) (o := .cells #[.int .i64 a0_0, .int .i64 a0_1, .bool a0_2, .bool a0_3, .int .i64 a0_4, .int .i64 a0_5, .int .i64 a0_6, .int .u32 a0_7, .int .u32 a0_8, .slice Ao91 y260.length co91, .slice A0_10 l0_10.length c0_10] 45 (0, 0)) (by (with_reducible repeat (first | refine blk_drewN ?_ _ | refine blk_drew ?_ | refine blk_alloc ?_ _)); exact BK226.out) hb); have n3_ := Aside0.mk (below_step (by repeat (first | (with_reducible first | exact HB.out | apply below_alloc | apply pw_below_drewN | apply below_drew1 | refine below_set ?_ GE226.out) | exact HB.out)) hb); clear HO262; clear HO265; clear BK226; clear HB; have HO262 := n0_; have HO265 := n1_; have BK226 := n2_; have HB := n3_; clear n0_ n1_ n2_ n3_; (try clear hb); (try clear hb2); (try clear hk); (try clear hi)))
                          go_ret
                          exact ⟨by first | rfl | (simp [errW_none, errW_some] <;> rfl) | (simp [*, errW_none, errW_some] <;> rfl), by repeat (first | (with_reducible first | exact HB.out | apply below_alloc | apply pw_below_drewN | apply below_drew1 | refine below_set ?_ GE226.out) | exact HB.out)⟩
                        · rw [if_neg c84] at H
                          have c84b0 : ((t263.length : Int) == 0) = false := beq_eq_false_iff_ne.mpr c84
                          have c84b1 : ((t263.length : Int) != 0) = true := bne_iff_ne.mpr c84
                          have c84b2 : ¬ (t263 = []) := fun h_ => c84 (by rw [h_]; rfl)
                          exact absurd (H.trans (congrArg some HRT.out)) (by simp)
                      · rw [if_neg c83] at H
                        have c83b0 : (t266 == 1) = false := beq_eq_false_iff_ne.mpr c83
                        have c83b1 : (t266 != 1) = true := bne_iff_ne.mpr c83
                        exact absurd (H.trans (congrArg some HRT.out)) (by simp)
                    · rw [if_neg c81] at H
                      exact absurd H (by simp)
                  · rw [if_neg c80] at H
                    exact absurd H (by simp)

/-- THE ONE PURE STATEMENT of castellanlaw4_IpBounds: yours. -/
def castellanlaw4_IpBounds.Pure : Prop := ∀ (a0_0 : Int) (a0_1 : Int) (a0_2 : Bool) (a0_3 : Bool) (a0_4 : Int) (a0_5 : Int) (a0_6 : Int) (a0_7 : Int) (a0_8 : Int) (l0_9 : List Int) (l0_10 : List Int) (a1 : Int), (Lit.int .i64 a0_0).wf = true → (Lit.int .i64 a0_1).wf = true → (Lit.int .i64 a0_4).wf = true → (Lit.int .i64 a0_5).wf = true → (Lit.int .i64 a0_6).wf = true → (Lit.int .u32 a0_7).wf = true → (Lit.int .u32 a0_8).wf = true → l0_9.length ≤ maxLen → l0_9.length * 1 ≤ 140737488351232 → (∀ x ∈ l0_9, (Lit.int .u8 x).wf = true) → l0_10.length ≤ maxLen → l0_10.length * 1 ≤ 140737488351232 → (∀ x ∈ l0_10, (Lit.int .u8 x).wf = true) → (Lit.int .i64 a1).wf = true → ∃ k, castellanlaw4_IpBounds.f k a0_0 a0_1 a0_2 a0_3 a0_4 a0_5 a0_6 a0_7 a0_8 l0_9 l0_10 a1 = some true
theorem castellanlaw4_IpBounds.walk (P : castellanlaw4_IpBounds.Pure) (a0_0 : Int) (a0_1 : Int) (a0_2 : Bool) (a0_3 : Bool) (a0_4 : Int) (a0_5 : Int) (a0_6 : Int) (a0_7 : Int) (a0_8 : Int) (a0_9 : Option Addr) (len0_9 cap0_9 : Nat) (z0_9 : List Int) (a0_10 : Option Addr) (len0_10 cap0_10 : Nat) (z0_10 : List Int) (a1 : Int) (w : World) (w0_0 : (Lit.int .i64 a0_0).wf = true) (w0_1 : (Lit.int .i64 a0_1).wf = true) (w0_4 : (Lit.int .i64 a0_4).wf = true) (w0_5 : (Lit.int .i64 a0_5).wf = true) (w0_6 : (Lit.int .i64 a0_6).wf = true) (w0_7 : (Lit.int .u32 a0_7).wf = true) (w0_8 : (Lit.int .u32 a0_8).wf = true) (w0_9 : (a0_9 = none ∧ len0_9 = 0 ∧ cap0_9 = 0 ∧ z0_9 = []) ∨ ∃ x, a0_9 = some x ∧ len0_9 ≤ cap0_9 ∧ cap0_9 ≤ maxLen ∧ z0_9.length = cap0_9 ∧ (∀ i, i < z0_9.length → w.cell? (x.add i) = some (.int .u8 (z0_9.getD i 0))) ∧ ∀ n ∈ z0_9, (Lit.int .u8 n).wf = true) (y0_9 : len0_9 * 1 ≤ 140737488351232) (w0_10 : (a0_10 = none ∧ len0_10 = 0 ∧ cap0_10 = 0 ∧ z0_10 = []) ∨ ∃ x, a0_10 = some x ∧ len0_10 ≤ cap0_10 ∧ cap0_10 ≤ maxLen ∧ z0_10.length = cap0_10 ∧ (∀ i, i < z0_10.length → w.cell? (x.add i) = some (.int .u8 (z0_10.getD i 0))) ∧ ∀ n ∈ z0_10, (Lit.int .u8 n).wf = true) (y0_10 : len0_10 * 1 ≤ 140737488351232) (w1 : (Lit.int .i64 a1).wf = true) :
    Calls Try.prog 11 #[.agg #[.int .i64 a0_0, .int .i64 a0_1, .bool a0_2, .bool a0_3, .int .i64 a0_4, .int .i64 a0_5, .int .i64 a0_6, .int .u32 a0_7, .int .u32 a0_8, .slice a0_9 len0_9 cap0_9, .slice a0_10 len0_10 cap0_10], .int .i64 a1] w fun e w' => e = .returned (.bool true) ∧ Below w.heap.size w w' := by
  obtain ⟨l0_9, rfl, hr0_9, hm0_9, hw0_9, hc0_9⟩ := ReadsInt.ofRowC w0_9
  obtain ⟨l0_10, rfl, hr0_10, hm0_10, hw0_10, hc0_10⟩ := ReadsInt.ofRowC w0_10
  obtain ⟨k, h⟩ := P a0_0 a0_1 a0_2 a0_3 a0_4 a0_5 a0_6 a0_7 a0_8 l0_9 l0_10 a1 w0_0 w0_1 w0_4 w0_5 w0_6 w0_7 w0_8 hm0_9 y0_9 hw0_9 hm0_10 y0_10 hw0_10 w1
  refine (castellanlaw4_IpBounds.calls k a0_0 a0_1 a0_2 a0_3 a0_4 a0_5 a0_6 a0_7 a0_8 _ _ l0_9 _ _ l0_10 a1 true w (Kd.C_of_reads (d := (0 : Int)) (h1 := fun _ => rfl) hr0_9) hc0_9 (Kd.C_of_reads (d := (0 : Int)) (h1 := fun _ => rfl) hr0_10) hc0_10 rfl h).mono ?_
  rintro e w' ⟨rfl, hd⟩
  exact ⟨rfl, hd⟩

end Go.Proofs.Ytbpnienknijogaa.QIpBounds
