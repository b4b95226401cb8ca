-- written by myprint.py, a program of this session's over the kit's printer
import Derived.Test.YtbpnienknijogaaQIpTwicex0
import Derived.Test.YtbpnienknijogaaQIpTwicex2
import Derived.Test.YtbpnienknijogaaQIpTwicex4
import Derived.Test.YtbpnienknijogaaQIpTwicex5
namespace Go.Proofs.Ytbpnienknijogaa.QIpTwice
open Go.RowKit Go.Proofs.YtbpnienknijogaaW.PrintWords Go.Proofs.YtbpnienknijogaaW.PrintLast Go.Proofs.YtbpnienknijogaaW.PrintMore
attribute [local go_sem] max2_int min2_int max_two min_two max_three min_three max_four min_four   -- for this text's walks alone
set_option linter.unusedVariables false
set_option linter.unusedSimpArgs false

/-! ### castellanlaw4_IpTwice: function 14 -/
mutual
def castellanlaw4_IpTwice.j0 : Nat → Bool → Int → Int → Bool → Bool → Int → Int → Int → Int → Int → List Int → List Int → Option (Bool)
  | 0, _, _, _, _, _, _, _, _, _, _, _, _ => none
  | k + 1, x19, x248000, x248001, x248002, x248003, x248004, x248005, x248006, x248007, x248008, x248009, x248010 => if x19 = true then (some true) else ((ip_Build.f k x248000 x248001 x248002 x248003 x248004 x248005 x248006 x248007 x248008 x248009 x248010).bind fun bt250 => (if bt250.2 = 0 then (castellanlaw4_IpTwice.l0 k bt250.1 x248005) else (some false)))
def castellanlaw4_IpTwice.l0 : Nat → List Int → Int → Option (Bool)
  | 0, _, _ => none
  | k + 1, x3, x5 => if x5 > 0 then ((ip_Less.f k x3).bind fun t258 => ((ip_Parse.f k t258).bind fun bt261 => (if bt261.2.2.2.2.2.2.2.2.2.2.2 = 0 then (if bt261.2.2.2.2.2.1 = (wrap64 (x5 - 1)) then (castellanlaw4_IpTwice.l0 k t258 (wrap64 (x5 - 1))) else (some false)) else (some false)))) else ((ip_Less.f k x3).bind fun t254 => (if (t254.length : Int) = 0 then ((castellanlaw4_known.f k).bind fun t257 => (some t257)) else (some false)))
end
def castellanlaw4_IpTwice.f (k : Nat) (a0_0 : Int) (a0_1 : Int) (a0_2 : Bool) (a0_3 : Bool) (a0_4 : Int) (a0_5 : Int) (a0_6 : Int) (a0_7 : Int) (a0_8 : Int) (l0_9 : List Int) (l0_10 : List Int) : Option (Bool) := (castellanlaw4_long.f a0_0 a0_1 a0_2 a0_3 a0_4 a0_5 a0_6 a0_7 a0_8 l0_9 l0_10).bind fun t248 => (if t248 = true then (castellanlaw4_IpTwice.j0 k true a0_0 a0_1 a0_2 a0_3 a0_4 a0_5 a0_6 a0_7 a0_8 l0_9 l0_10) else ((castellanref4_Is.f a0_0 a0_1 a0_2 a0_3 a0_4 a0_5 a0_6 a0_7 a0_8 l0_9 l0_10).bind fun t249 => (if t249 = true then (castellanlaw4_IpTwice.j0 k (decide (a0_5 > 60)) a0_0 a0_1 a0_2 a0_3 a0_4 a0_5 a0_6 a0_7 a0_8 l0_9 l0_10) else (castellanlaw4_IpTwice.j0 k true a0_0 a0_1 a0_2 a0_3 a0_4 a0_5 a0_6 a0_7 a0_8 l0_9 l0_10))))
theorem castellanlaw4_IpTwice.mono_l : ∀ k, (∀ y0 y1 y2 y3 y4 y5 y6 y7 y8 y9 y10 y11, LeO (castellanlaw4_IpTwice.j0 k y0 y1 y2 y3 y4 y5 y6 y7 y8 y9 y10 y11) (castellanlaw4_IpTwice.j0 (k + 1) y0 y1 y2 y3 y4 y5 y6 y7 y8 y9 y10 y11)) ∧ (∀ y0 y1, LeO (castellanlaw4_IpTwice.l0 k y0 y1) (castellanlaw4_IpTwice.l0 (k + 1) y0 y1))
  | 0 => ⟨fun _ _ _ _ _ _ _ _ _ _ _ _ r h => by simp [castellanlaw4_IpTwice.j0] at h, fun _ _ r h => by simp [castellanlaw4_IpTwice.l0] at h⟩
  | k + 1 => by
    obtain ⟨ih0, ih1⟩ := castellanlaw4_IpTwice.mono_l k
    refine ⟨?_, ?_⟩
    · intro y0 y1 y2 y3 y4 y5 y6 y7 y8 y9 y10 y11
      unfold castellanlaw4_IpTwice.j0
      repeat' first
      | (with_reducible exact ih0 _ _ _ _ _ _ _ _ _ _ _ _)
      | (with_reducible exact ih1 _ _)
      | (with_reducible exact castellanlaw4_known.mono _)
      | (with_reducible exact ip_Build.mono _ _ _ _ _ _ _ _ _ _ _ _)
      | (with_reducible exact ip_Less.mono _ _)
      | (with_reducible exact ip_Parse.mono _ _)
      | (with_reducible exact LeO.refl _)
      | (with_reducible exact LeO.none _)
      | (with_reducible refine LeO.ite ?_ ?_)
      | (with_reducible refine LeO.bind ?_ (fun _ => ?_))
      | exact ih0 _ _ _ _ _ _ _ _ _ _ _ _
      | exact ih1 _ _
      | exact castellanlaw4_known.mono _
      | exact ip_Build.mono _ _ _ _ _ _ _ _ _ _ _ _
      | exact ip_Less.mono _ _
      | exact ip_Parse.mono _ _
      | exact LeO.none _
      | refine LeO.ite ?_ ?_
      | refine LeO.bind ?_ (fun _ => ?_)
    · intro y0 y1
      unfold castellanlaw4_IpTwice.l0
      repeat' first
      | (with_reducible exact ih0 _ _ _ _ _ _ _ _ _ _ _ _)
      | (with_reducible exact ih1 _ _)
      | (with_reducible exact castellanlaw4_known.mono _)
      | (with_reducible exact ip_Build.mono _ _ _ _ _ _ _ _ _ _ _ _)
      | (with_reducible exact ip_Less.mono _ _)
      | (with_reducible exact ip_Parse.mono _ _)
      | (with_reducible exact LeO.refl _)
      | (with_reducible exact LeO.none _)
      | (with_reducible refine LeO.ite ?_ ?_)
      | (with_reducible refine LeO.bind ?_ (fun _ => ?_))
      | exact ih0 _ _ _ _ _ _ _ _ _ _ _ _
      | exact ih1 _ _
      | exact castellanlaw4_known.mono _
      | exact ip_Build.mono _ _ _ _ _ _ _ _ _ _ _ _
      | exact ip_Less.mono _ _
      | exact ip_Parse.mono _ _
      | exact LeO.none _
      | refine LeO.ite ?_ ?_
      | refine LeO.bind ?_ (fun _ => ?_)
theorem castellanlaw4_IpTwice.mono : ∀ a0 a1 a2 a3 a4 a5 a6 a7 a8 a9 a10 k, LeO (castellanlaw4_IpTwice.f k a0 a1 a2 a3 a4 a5 a6 a7 a8 a9 a10) (castellanlaw4_IpTwice.f (k + 1) a0 a1 a2 a3 a4 a5 a6 a7 a8 a9 a10) := by
  intro a0 a1 a2 a3 a4 a5 a6 a7 a8 a9 a10 k
  obtain ⟨ih0, ih1⟩ := castellanlaw4_IpTwice.mono_l k
  unfold castellanlaw4_IpTwice.f
  repeat' first
      | (with_reducible exact ih0 _ _ _ _ _ _ _ _ _ _ _ _)
      | (with_reducible exact ih1 _ _)
      | (with_reducible exact castellanlaw4_known.mono _)
      | (with_reducible exact ip_Build.mono _ _ _ _ _ _ _ _ _ _ _ _)
      | (with_reducible exact ip_Less.mono _ _)
      | (with_reducible exact ip_Parse.mono _ _)
      | (with_reducible exact LeO.refl _)
      | (with_reducible exact LeO.none _)
      | (with_reducible refine LeO.ite ?_ ?_)
      | (with_reducible refine LeO.bind ?_ (fun _ => ?_))
      | exact ih0 _ _ _ _ _ _ _ _ _ _ _ _
      | exact ih1 _ _
      | exact castellanlaw4_known.mono _
      | exact ip_Build.mono _ _ _ _ _ _ _ _ _ _ _ _
      | exact ip_Less.mono _ _
      | exact ip_Parse.mono _ _
      | exact LeO.none _
      | refine LeO.ite ?_ ?_
      | refine LeO.bind ?_ (fun _ => ?_)
set_option maxHeartbeats 8000000 in
set_option maxRecDepth 100000 in
theorem castellanlaw4_IpTwice.calls (k : Nat) (a0_0 : Int) (a0_1 : Int) (a0_2 : Bool) (a0_3 : Bool) (a0_4 : Int) (a0_5 : Int) (a0_6 : Int) (a0_7 : Int) (a0_8 : Int) (A0_9 : Option Addr) (c0_9 : Nat) (l0_9 : List Int) (A0_10 : Option Addr) (c0_10 : Nat) (l0_10 : List Int) (r : Bool) (w : World) (hr0_9 : Kd.C (Kd.int .u8) w A0_9 l0_9.length l0_9) (hc0_9 : l0_9.length ≤ c0_9) (hr0_10 : Kd.C (Kd.int .u8) w A0_10 l0_10.length l0_10) (hc0_10 : l0_10.length ≤ c0_10) (hrt : r = true) (h : castellanlaw4_IpTwice.f k a0_0 a0_1 a0_2 a0_3 a0_4 a0_5 a0_6 a0_7 a0_8 l0_9 l0_10 = some r) :
    Calls Try.prog 14 #[.agg #[.int .i64 a0_0, .int .i64 a0_1, .bool a0_2, .bool a0_3, .int .i64 a0_4, .int .i64 a0_5, .int .i64 a0_6, .int .u32 a0_7, .int .u32 a0_8, .slice A0_9 l0_9.length c0_9, .slice A0_10 l0_10.length c0_10]] w fun e w' => e = .returned (.bool r) ∧ Below w.heap.size w w' := by
  have hu45 := Try.underlying45
  have HRT := Aside0.mk hrt
  clear hrt
  have HR0_9 := Aside0.mk hr0_9
  have HC0_9 := Aside0.mk hc0_9
  clear hr0_9 hc0_9
  have HR0_10 := Aside0.mk hr0_10
  have HC0_10 := Aside0.mk hc0_10
  clear hr0_10 hc0_10
  have HB := Aside0.mk (Below.refl w.heap.size w)
  have H : ((castellanlaw4_long.f a0_0 a0_1 a0_2 a0_3 a0_4 a0_5 a0_6 a0_7 a0_8 l0_9 l0_10).bind fun t248 => (if t248 = true then (castellanlaw4_IpTwice.j0 k true a0_0 a0_1 a0_2 a0_3 a0_4 a0_5 a0_6 a0_7 a0_8 l0_9 l0_10) else ((castellanref4_Is.f a0_0 a0_1 a0_2 a0_3 a0_4 a0_5 a0_6 a0_7 a0_8 l0_9 l0_10).bind fun t249 => (if t249 = true then (castellanlaw4_IpTwice.j0 k (decide (a0_5 > 60)) a0_0 a0_1 a0_2 a0_3 a0_4 a0_5 a0_6 a0_7 a0_8 l0_9 l0_10) else (castellanlaw4_IpTwice.j0 k true a0_0 a0_1 a0_2 a0_3 a0_4 a0_5 a0_6 a0_7 a0_8 l0_9 l0_10))))) = some r := h
  clear h
  have HC2 := Aside0.mk H
  clear H
  go_enter Try.func14, Try.ntmps14
  go_upto_region 1 with (first | ((with_reducible refine gate_dst (N := 1) rfl ?_); refine box_event ?hg (N := 1) ?hd (cs := #[.int .i64 a0_0, .int .i64 a0_1, .bool a0_2, .bool a0_3, .int .i64 a0_4, .int .i64 a0_5, .int .i64 a0_6, .int .u32 a0_7, .int .u32 a0_8, .slice A0_9 l0_9.length c0_9, .slice A0_10 l0_10.length c0_10]) (t := 45) ?hr ?_; (case hd => rfl); (case hg => rfl); (case hr => first | (go_simp; done) | (go_simp; rfl)); intro gb247 hg w3 hbox hb; have n0_ := Aside0.mk (below_step (by repeat (first | (with_reducible first | exact HB.out | apply below_alloc | apply pw_below_drewN | apply below_drew1) | exact HB.out)) hb); have n1_ := Aside0.mk (hbox); have n2_ := Aside0.mk ((by rw [hg]; exact (below_size (by repeat (first | (with_reducible first | exact HB.out | apply below_alloc | apply pw_below_drewN | apply below_drew1) | exact HB.out))) : w.heap.size ≤ gb247)); have n3_ := Aside0.mk ((by rw [hg]; exact (below_size (by repeat (first | (with_reducible first | exact HB.out | apply below_alloc | apply pw_below_drewN | apply below_drew1) | exact HB.out))) : w.heap.size ≤ gb247)); clear HB; have HB := n0_; have BK247 := n1_; have GW247 := n2_; have GE247 := n3_; clear n0_ n1_ n2_ n3_; clear hb hbox hg))
  (try simp only [Act.put, List.setIfInBounds_toArray, List.set_cons_zero, List.set_cons_succ])
  go_cut [19] (fun v19 wc => ∃ (kq : Nat) (x19_1 : Bool), v19 = .bool x19_1 ∧ Aside0 (castellanlaw4_IpTwice.j0 kq x19_1 a0_0 a0_1 a0_2 a0_3 a0_4 a0_5 a0_6 a0_7 a0_8 l0_9 l0_10 = some r) ∧ Aside0 (kq ≤ k) ∧ Aside0 (wc.heap[gb247]? = some (.cells #[.int .i64 a0_0, .int .i64 a0_1, .bool a0_2, .bool a0_3, .int .i64 a0_4, .int .i64 a0_5, .int .i64 a0_6, .int .u32 a0_7, .int .u32 a0_8, (.slice A0_9 l0_9.length c0_9), (.slice A0_10 l0_10.length c0_10)] 45 (0, 0))) ∧ Aside0 (Below w.heap.size w wc))
  case first =>
    have H := HC2.out
    clear HC2
    replace H := Option.bind_eq_some_iff.mp H
    obtain ⟨t248, A40, H⟩ := H
    replace H : (if t248 = true then (castellanlaw4_IpTwice.j0 k true a0_0 a0_1 a0_2 a0_3 a0_4 a0_5 a0_6 a0_7 a0_8 l0_9 l0_10) else ((castellanref4_Is.f a0_0 a0_1 a0_2 a0_3 a0_4 a0_5 a0_6 a0_7 a0_8 l0_9 l0_10).bind fun t249 => (if t249 = true then (castellanlaw4_IpTwice.j0 k (decide (a0_5 > 60)) a0_0 a0_1 a0_2 a0_3 a0_4 a0_5 a0_6 a0_7 a0_8 l0_9 l0_10) else (castellanlaw4_IpTwice.j0 k true a0_0 a0_1 a0_2 a0_3 a0_4 a0_5 a0_6 a0_7 a0_8 l0_9 l0_10)))) = some r := H
    have A4 := Aside0.mk A40
    clear A40
    by_cases c5 : t248 = true
    · subst c5
      have H1 : (castellanlaw4_IpTwice.j0 k true a0_0 a0_1 a0_2 a0_3 a0_4 a0_5 a0_6 a0_7 a0_8 l0_9 l0_10) = some r := by rw [if_pos rfl] at H; exact H
      clear H
      have H := H1
      clear H1
      have H' := Aside0.mk H
      clear H
      have hcz6_0 : w3.cell? ⟨gb247, 0, none⟩ = some (.int .i64 a0_0) := (blk_cell BK247.out 0).trans rfl
      have hcz6_1 : w3.cell? ⟨gb247, 1, none⟩ = some (.int .i64 a0_1) := (blk_cell BK247.out 1).trans rfl
      have hcz6_2 : w3.cell? ⟨gb247, 2, none⟩ = some (.bool a0_2) := (blk_cell BK247.out 2).trans rfl
      have hcz6_3 : w3.cell? ⟨gb247, 3, none⟩ = some (.bool a0_3) := (blk_cell BK247.out 3).trans rfl
      have hcz6_4 : w3.cell? ⟨gb247, 4, none⟩ = some (.int .i64 a0_4) := (blk_cell BK247.out 4).trans rfl
      have hcz6_5 : w3.cell? ⟨gb247, 5, none⟩ = some (.int .i64 a0_5) := (blk_cell BK247.out 5).trans rfl
      have hcz6_6 : w3.cell? ⟨gb247, 6, none⟩ = some (.int .i64 a0_6) := (blk_cell BK247.out 6).trans rfl
      have hcz6_7 : w3.cell? ⟨gb247, 7, none⟩ = some (.int .u32 a0_7) := (blk_cell BK247.out 7).trans rfl
      have hcz6_8 : w3.cell? ⟨gb247, 8, none⟩ = some (.int .u32 a0_8) := (blk_cell BK247.out 8).trans rfl
      have hcz6_9 : w3.cell? ⟨gb247, 9, none⟩ = some (.slice A0_9 l0_9.length c0_9) := (blk_cell BK247.out 9).trans rfl
      have hcz6_10 : w3.cell? ⟨gb247, 10, none⟩ = some (.slice A0_10 l0_10.length c0_10) := (blk_cell BK247.out 10).trans rfl
      have hfz6_0 := blk_frozen BK247.out 0
      have hfz6_1 := blk_frozen BK247.out 1
      have hfz6_2 := blk_frozen BK247.out 2
      have hfz6_3 := blk_frozen BK247.out 3
      have hfz6_4 := blk_frozen BK247.out 4
      have hfz6_5 := blk_frozen BK247.out 5
      have hfz6_6 := blk_frozen BK247.out 6
      have hfz6_7 := blk_frozen BK247.out 7
      have hfz6_8 := blk_frozen BK247.out 8
      have hfz6_9 := blk_frozen BK247.out 9
      have hfz6_10 := blk_frozen BK247.out 10
      go_wp2_with (first | ((with_reducible refine gate_callee (f := 30) rfl ?_); refine goesL_ (some 9) rfl rfl Try.func30 (by kernel_rfl) rfl #[.agg #[.int .i64 a0_0, .int .i64 a0_1, .bool a0_2, .bool a0_3, .int .i64 a0_4, .int .i64 a0_5, .int .i64 a0_6, .int .u32 a0_7, .int .u32 a0_8, .slice A0_9 l0_9.length c0_9, .slice A0_10 l0_10.length c0_10]] rfl (by (try simp only [List.map_toArray, List.map_cons, List.map_nil]); first | done | rfl | (simp only [List.length_drop, List.length_take]; rfl)) ?_; (with_reducible refine (castellanlaw4_long.calls a0_0 a0_1 a0_2 a0_3 a0_4 a0_5 a0_6 a0_7 a0_8 _ _ l0_9 _ _ l0_10 true _ ?side1 ?side2 ?side3 ?side4 A4.out).mono ?_); (case side1 => repeat (first | exact (Kd.C_below HR0_9.out HB.out) | (with_reducible refine Kd.C_alloc ?_ _) | (with_reducible refine Kd.C_drewN ?_ _) | (with_reducible refine Kd.C_drew ?_))); (case side2 => exact HC0_9.out); (case side3 => repeat (first | exact (Kd.C_below HR0_10.out HB.out) | (with_reducible refine Kd.C_alloc ?_ _) | (with_reducible refine Kd.C_drewN ?_ _) | (with_reducible refine Kd.C_drew ?_))); (case side4 => exact HC0_10.out); rintro e w7 ⟨rfl, hb⟩; refine ⟨_, rfl, ?_⟩; have n0_ := Aside0.mk (blk_below (g := gb247) (o := .cells #[.int .i64 a0_0, .int .i64 a0_1, .bool a0_2, .bool a0_3, .int .i64 a0_4, .int .i64 a0_5, .int .i64 a0_6, .int .u32 a0_7, .int .u32 a0_8, .slice A0_9 l0_9.length c0_9, .slice A0_10 l0_10.length c0_10] 45 (0, 0)) (by (with_reducible repeat (first | refine blk_drewN ?_ _ | refine blk_drew ?_ | refine blk_alloc ?_ _)); exact BK247.out) hb); have n1_ := Aside0.mk (below_step (by repeat (first | (with_reducible first | exact HB.out | apply below_alloc | apply pw_below_drewN | apply below_drew1 | refine below_set ?_ GE247.out) | exact HB.out)) hb); clear BK247; clear HB; have BK247 := n0_; have HB := n1_; clear n0_ n1_; (try clear hb); (try clear hb2); (try clear hk); (try clear hi)))
      go_meet
      case rel => exact ⟨_, (true), (by first | rfl | (simp; done) | (simp [*]; done)), H', ⟨by first | omega | exact Nat.le_refl _⟩, ⟨by (with_reducible repeat (first | refine blk_drewN ?_ _ | refine blk_drew ?_ | refine blk_alloc ?_ _)); exact BK247.out⟩, ⟨by repeat (first | (with_reducible first | exact HB.out | apply below_alloc | apply pw_below_drewN | apply below_drew1 | refine below_set ?_ GE247.out) | exact HB.out)⟩⟩
    · replace c5 := Bool.eq_false_iff.mpr c5
      subst c5
      have H1 : ((castellanref4_Is.f a0_0 a0_1 a0_2 a0_3 a0_4 a0_5 a0_6 a0_7 a0_8 l0_9 l0_10).bind fun t249 => (if t249 = true then (castellanlaw4_IpTwice.j0 k (decide (a0_5 > 60)) a0_0 a0_1 a0_2 a0_3 a0_4 a0_5 a0_6 a0_7 a0_8 l0_9 l0_10) else (castellanlaw4_IpTwice.j0 k true a0_0 a0_1 a0_2 a0_3 a0_4 a0_5 a0_6 a0_7 a0_8 l0_9 l0_10))) = some r := by rw [if_neg (show ¬ (false = true) by decide)] at H; exact H
      clear H
      have H := H1
      clear H1
      replace H := Option.bind_eq_some_iff.mp H
      obtain ⟨t249, A80, H⟩ := H
      replace H : (if t249 = true then (castellanlaw4_IpTwice.j0 k (decide (a0_5 > 60)) a0_0 a0_1 a0_2 a0_3 a0_4 a0_5 a0_6 a0_7 a0_8 l0_9 l0_10) else (castellanlaw4_IpTwice.j0 k true a0_0 a0_1 a0_2 a0_3 a0_4 a0_5 a0_6 a0_7 a0_8 l0_9 l0_10)) = some r := H
      have A8 := Aside0.mk A80
      clear A80
      by_cases c9 : t249 = true
      · subst c9
        have H1 : (castellanlaw4_IpTwice.j0 k (decide (a0_5 > 60)) a0_0 a0_1 a0_2 a0_3 a0_4 a0_5 a0_6 a0_7 a0_8 l0_9 l0_10) = some r := by rw [if_pos rfl] at H; exact H
        clear H
        have H := H1
        clear H1
        have H' := Aside0.mk H
        clear H
        have hcz10_0 : w3.cell? ⟨gb247, 0, none⟩ = some (.int .i64 a0_0) := (blk_cell BK247.out 0).trans rfl
        have hcz10_1 : w3.cell? ⟨gb247, 1, none⟩ = some (.int .i64 a0_1) := (blk_cell BK247.out 1).trans rfl
        have hcz10_2 : w3.cell? ⟨gb247, 2, none⟩ = some (.bool a0_2) := (blk_cell BK247.out 2).trans rfl
        have hcz10_3 : w3.cell? ⟨gb247, 3, none⟩ = some (.bool a0_3) := (blk_cell BK247.out 3).trans rfl
        have hcz10_4 : w3.cell? ⟨gb247, 4, none⟩ = some (.int .i64 a0_4) := (blk_cell BK247.out 4).trans rfl
        have hcz10_5 : w3.cell? ⟨gb247, 5, none⟩ = some (.int .i64 a0_5) := (blk_cell BK247.out 5).trans rfl
        have hcz10_6 : w3.cell? ⟨gb247, 6, none⟩ = some (.int .i64 a0_6) := (blk_cell BK247.out 6).trans rfl
        have hcz10_7 : w3.cell? ⟨gb247, 7, none⟩ = some (.int .u32 a0_7) := (blk_cell BK247.out 7).trans rfl
        have hcz10_8 : w3.cell? ⟨gb247, 8, none⟩ = some (.int .u32 a0_8) := (blk_cell BK247.out 8).trans rfl
        have hcz10_9 : w3.cell? ⟨gb247, 9, none⟩ = some (.slice A0_9 l0_9.length c0_9) := (blk_cell BK247.out 9).trans rfl
        have hcz10_10 : w3.cell? ⟨gb247, 10, none⟩ = some (.slice A0_10 l0_10.length c0_10) := (blk_cell BK247.out 10).trans rfl
        have hfz10_0 := blk_frozen BK247.out 0
        have hfz10_1 := blk_frozen BK247.out 1
        have hfz10_2 := blk_frozen BK247.out 2
        have hfz10_3 := blk_frozen BK247.out 3
        have hfz10_4 := blk_frozen BK247.out 4
        have hfz10_5 := blk_frozen BK247.out 5
        have hfz10_6 := blk_frozen BK247.out 6
        have hfz10_7 := blk_frozen BK247.out 7
        have hfz10_8 := blk_frozen BK247.out 8
        have hfz10_9 := blk_frozen BK247.out 9
        have hfz10_10 := blk_frozen BK247.out 10
        go_wp2_with (first | ((with_reducible refine gate_callee (f := 30) rfl ?_); refine goesL_ (some 9) rfl rfl Try.func30 (by kernel_rfl) rfl #[.agg #[.int .i64 a0_0, .int .i64 a0_1, .bool a0_2, .bool a0_3, .int .i64 a0_4, .int .i64 a0_5, .int .i64 a0_6, .int .u32 a0_7, .int .u32 a0_8, .slice A0_9 l0_9.length c0_9, .slice A0_10 l0_10.length c0_10]] rfl (by (try simp only [List.map_toArray, List.map_cons, List.map_nil]); first | done | rfl | (simp only [List.length_drop, List.length_take]; rfl)) ?_; (with_reducible refine (castellanlaw4_long.calls a0_0 a0_1 a0_2 a0_3 a0_4 a0_5 a0_6 a0_7 a0_8 _ _ l0_9 _ _ l0_10 false _ ?side1 ?side2 ?side3 ?side4 A4.out).mono ?_); (case side1 => repeat (first | exact (Kd.C_below HR0_9.out HB.out) | (with_reducible refine Kd.C_alloc ?_ _) | (with_reducible refine Kd.C_drewN ?_ _) | (with_reducible refine Kd.C_drew ?_))); (case side2 => exact HC0_9.out); (case side3 => repeat (first | exact (Kd.C_below HR0_10.out HB.out) | (with_reducible refine Kd.C_alloc ?_ _) | (with_reducible refine Kd.C_drewN ?_ _) | (with_reducible refine Kd.C_drew ?_))); (case side4 => exact HC0_10.out); rintro e w11 ⟨rfl, hb⟩; refine ⟨_, rfl, ?_⟩; have n0_ := Aside0.mk (blk_below (g := gb247) (o := .cells #[.int .i64 a0_0, .int .i64 a0_1, .bool a0_2, .bool a0_3, .int .i64 a0_4, .int .i64 a0_5, .int .i64 a0_6, .int .u32 a0_7, .int .u32 a0_8, .slice A0_9 l0_9.length c0_9, .slice A0_10 l0_10.length c0_10] 45 (0, 0)) (by (with_reducible repeat (first | refine blk_drewN ?_ _ | refine blk_drew ?_ | refine blk_alloc ?_ _)); exact BK247.out) hb); have n1_ := Aside0.mk (below_step (by repeat (first | (with_reducible first | exact HB.out | apply below_alloc | apply pw_below_drewN | apply below_drew1 | refine below_set ?_ GE247.out) | exact HB.out)) hb); clear BK247; clear HB; have BK247 := n0_; have HB := n1_; clear n0_ n1_; (try clear hb); (try clear hb2); (try clear hk); (try clear hi); have hcz12_0 : w11.cell? ⟨gb247, 0, none⟩ = some (.int .i64 a0_0) := (blk_cell BK247.out 0).trans rfl; have hcz12_1 : w11.cell? ⟨gb247, 1, none⟩ = some (.int .i64 a0_1) := (blk_cell BK247.out 1).trans rfl; have hcz12_2 : w11.cell? ⟨gb247, 2, none⟩ = some (.bool a0_2) := (blk_cell BK247.out 2).trans rfl; have hcz12_3 : w11.cell? ⟨gb247, 3, none⟩ = some (.bool a0_3) := (blk_cell BK247.out 3).trans rfl; have hcz12_4 : w11.cell? ⟨gb247, 4, none⟩ = some (.int .i64 a0_4) := (blk_cell BK247.out 4).trans rfl; have hcz12_5 : w11.cell? ⟨gb247, 5, none⟩ = some (.int .i64 a0_5) := (blk_cell BK247.out 5).trans rfl; have hcz12_6 : w11.cell? ⟨gb247, 6, none⟩ = some (.int .i64 a0_6) := (blk_cell BK247.out 6).trans rfl; have hcz12_7 : w11.cell? ⟨gb247, 7, none⟩ = some (.int .u32 a0_7) := (blk_cell BK247.out 7).trans rfl; have hcz12_8 : w11.cell? ⟨gb247, 8, none⟩ = some (.int .u32 a0_8) := (blk_cell BK247.out 8).trans rfl; have hcz12_9 : w11.cell? ⟨gb247, 9, none⟩ = some (.slice A0_9 l0_9.length c0_9) := (blk_cell BK247.out 9).trans rfl; have hcz12_10 : w11.cell? ⟨gb247, 10, none⟩ = some (.slice A0_10 l0_10.length c0_10) := (blk_cell BK247.out 10).trans rfl; have hfz12_0 := blk_frozen BK247.out 0; have hfz12_1 := blk_frozen BK247.out 1; have hfz12_2 := blk_frozen BK247.out 2; have hfz12_3 := blk_frozen BK247.out 3; have hfz12_4 := blk_frozen BK247.out 4; have hfz12_5 := blk_frozen BK247.out 5; have hfz12_6 := blk_frozen BK247.out 6; have hfz12_7 := blk_frozen BK247.out 7; have hfz12_8 := blk_frozen BK247.out 8; have hfz12_9 := blk_frozen BK247.out 9; have hfz12_10 := blk_frozen BK247.out 10) | (go_at_call 31; (with_reducible refine (castellanref4_Is.calls a0_0 a0_1 a0_2 a0_3 a0_4 a0_5 a0_6 a0_7 a0_8 _ _ l0_9 _ _ l0_10 true _ ?side1 ?side2 ?side3 ?side4 A8.out).mono ?_); (case side1 => repeat (first | exact (Kd.C_below HR0_9.out HB.out) | (with_reducible refine Kd.C_alloc ?_ _) | (with_reducible refine Kd.C_drewN ?_ _) | (with_reducible refine Kd.C_drew ?_))); (case side2 => exact HC0_9.out); (case side3 => repeat (first | exact (Kd.C_below HR0_10.out HB.out) | (with_reducible refine Kd.C_alloc ?_ _) | (with_reducible refine Kd.C_drewN ?_ _) | (with_reducible refine Kd.C_drew ?_))); (case side4 => exact HC0_10.out); rintro e w13 ⟨rfl, hb⟩; have n0_ := Aside0.mk (blk_below (g := gb247) (o := .cells #[.int .i64 a0_0, .int .i64 a0_1, .bool a0_2, .bool a0_3, .int .i64 a0_4, .int .i64 a0_5, .int .i64 a0_6, .int .u32 a0_7, .int .u32 a0_8, .slice A0_9 l0_9.length c0_9, .slice A0_10 l0_10.length c0_10] 45 (0, 0)) (by (with_reducible repeat (first | refine blk_drewN ?_ _ | refine blk_drew ?_ | refine blk_alloc ?_ _)); exact BK247.out) hb); have n1_ := Aside0.mk (below_step (by repeat (first | (with_reducible first | exact HB.out | apply below_alloc | apply pw_below_drewN | apply below_drew1 | refine below_set ?_ GE247.out) | exact HB.out)) hb); clear BK247; clear HB; have BK247 := n0_; have HB := n1_; clear n0_ n1_; (try clear hb); (try clear hb2); (try clear hk); (try clear hi); have hcz14_0 : w13.cell? ⟨gb247, 0, none⟩ = some (.int .i64 a0_0) := (blk_cell BK247.out 0).trans rfl; have hcz14_1 : w13.cell? ⟨gb247, 1, none⟩ = some (.int .i64 a0_1) := (blk_cell BK247.out 1).trans rfl; have hcz14_2 : w13.cell? ⟨gb247, 2, none⟩ = some (.bool a0_2) := (blk_cell BK247.out 2).trans rfl; have hcz14_3 : w13.cell? ⟨gb247, 3, none⟩ = some (.bool a0_3) := (blk_cell BK247.out 3).trans rfl; have hcz14_4 : w13.cell? ⟨gb247, 4, none⟩ = some (.int .i64 a0_4) := (blk_cell BK247.out 4).trans rfl; have hcz14_5 : w13.cell? ⟨gb247, 5, none⟩ = some (.int .i64 a0_5) := (blk_cell BK247.out 5).trans rfl; have hcz14_6 : w13.cell? ⟨gb247, 6, none⟩ = some (.int .i64 a0_6) := (blk_cell BK247.out 6).trans rfl; have hcz14_7 : w13.cell? ⟨gb247, 7, none⟩ = some (.int .u32 a0_7) := (blk_cell BK247.out 7).trans rfl; have hcz14_8 : w13.cell? ⟨gb247, 8, none⟩ = some (.int .u32 a0_8) := (blk_cell BK247.out 8).trans rfl; have hcz14_9 : w13.cell? ⟨gb247, 9, none⟩ = some (.slice A0_9 l0_9.length c0_9) := (blk_cell BK247.out 9).trans rfl; have hcz14_10 : w13.cell? ⟨gb247, 10, none⟩ = some (.slice A0_10 l0_10.length c0_10) := (blk_cell BK247.out 10).trans rfl; have hfz14_0 := blk_frozen BK247.out 0; have hfz14_1 := blk_frozen BK247.out 1; have hfz14_2 := blk_frozen BK247.out 2; have hfz14_3 := blk_frozen BK247.out 3; have hfz14_4 := blk_frozen BK247.out 4; have hfz14_5 := blk_frozen BK247.out 5; have hfz14_6 := blk_frozen BK247.out 6; have hfz14_7 := blk_frozen BK247.out 7; have hfz14_8 := blk_frozen BK247.out 8; have hfz14_9 := blk_frozen BK247.out 9; have hfz14_10 := blk_frozen BK247.out 10))
        go_meet
        case rel => exact ⟨_, (decide (a0_5 > 60)), (by first | rfl | (simp; done) | (simp [*]; done)), H', ⟨by first | omega | exact Nat.le_refl _⟩, ⟨by (with_reducible repeat (first | refine blk_drewN ?_ _ | refine blk_drew ?_ | refine blk_alloc ?_ _)); exact BK247.out⟩, ⟨by repeat (first | (with_reducible first | exact HB.out | apply below_alloc | apply pw_below_drewN | apply below_drew1 | refine below_set ?_ GE247.out) | exact HB.out)⟩⟩
      · replace c9 := Bool.eq_false_iff.mpr c9
        subst c9
        have H1 : (castellanlaw4_IpTwice.j0 k true a0_0 a0_1 a0_2 a0_3 a0_4 a0_5 a0_6 a0_7 a0_8 l0_9 l0_10) = some r := by rw [if_neg (show ¬ (false = true) by decide)] at H; exact H
        clear H
        have H := H1
        clear H1
        have H' := Aside0.mk H
        clear H
        have hcz15_0 : w3.cell? ⟨gb247, 0, none⟩ = some (.int .i64 a0_0) := (blk_cell BK247.out 0).trans rfl
        have hcz15_1 : w3.cell? ⟨gb247, 1, none⟩ = some (.int .i64 a0_1) := (blk_cell BK247.out 1).trans rfl
        have hcz15_2 : w3.cell? ⟨gb247, 2, none⟩ = some (.bool a0_2) := (blk_cell BK247.out 2).trans rfl
        have hcz15_3 : w3.cell? ⟨gb247, 3, none⟩ = some (.bool a0_3) := (blk_cell BK247.out 3).trans rfl
        have hcz15_4 : w3.cell? ⟨gb247, 4, none⟩ = some (.int .i64 a0_4) := (blk_cell BK247.out 4).trans rfl
        have hcz15_5 : w3.cell? ⟨gb247, 5, none⟩ = some (.int .i64 a0_5) := (blk_cell BK247.out 5).trans rfl
        have hcz15_6 : w3.cell? ⟨gb247, 6, none⟩ = some (.int .i64 a0_6) := (blk_cell BK247.out 6).trans rfl
        have hcz15_7 : w3.cell? ⟨gb247, 7, none⟩ = some (.int .u32 a0_7) := (blk_cell BK247.out 7).trans rfl
        have hcz15_8 : w3.cell? ⟨gb247, 8, none⟩ = some (.int .u32 a0_8) := (blk_cell BK247.out 8).trans rfl
        have hcz15_9 : w3.cell? ⟨gb247, 9, none⟩ = some (.slice A0_9 l0_9.length c0_9) := (blk_cell BK247.out 9).trans rfl
        have hcz15_10 : w3.cell? ⟨gb247, 10, none⟩ = some (.slice A0_10 l0_10.length c0_10) := (blk_cell BK247.out 10).trans rfl
        have hfz15_0 := blk_frozen BK247.out 0
        have hfz15_1 := blk_frozen BK247.out 1
        have hfz15_2 := blk_frozen BK247.out 2
        have hfz15_3 := blk_frozen BK247.out 3
        have hfz15_4 := blk_frozen BK247.out 4
        have hfz15_5 := blk_frozen BK247.out 5
        have hfz15_6 := blk_frozen BK247.out 6
        have hfz15_7 := blk_frozen BK247.out 7
        have hfz15_8 := blk_frozen BK247.out 8
        have hfz15_9 := blk_frozen BK247.out 9
        have hfz15_10 := blk_frozen BK247.out 10
        go_wp2_with (first | ((with_reducible refine gate_callee (f := 30) rfl ?_); refine goesL_ (some 9) rfl rfl Try.func30 (by kernel_rfl) rfl #[.agg #[.int .i64 a0_0, .int .i64 a0_1, .bool a0_2, .bool a0_3, .int .i64 a0_4, .int .i64 a0_5, .int .i64 a0_6, .int .u32 a0_7, .int .u32 a0_8, .slice A0_9 l0_9.length c0_9, .slice A0_10 l0_10.length c0_10]] rfl (by (try simp only [List.map_toArray, List.map_cons, List.map_nil]); first | done | rfl | (simp only [List.length_drop, List.length_take]; rfl)) ?_; (with_reducible refine (castellanlaw4_long.calls a0_0 a0_1 a0_2 a0_3 a0_4 a0_5 a0_6 a0_7 a0_8 _ _ l0_9 _ _ l0_10 false _ ?side1 ?side2 ?side3 ?side4 A4.out).mono ?_); (case side1 => repeat (first | exact (Kd.C_below HR0_9.out HB.out) | (with_reducible refine Kd.C_alloc ?_ _) | (with_reducible refine Kd.C_drewN ?_ _) | (with_reducible refine Kd.C_drew ?_))); (case side2 => exact HC0_9.out); (case side3 => repeat (first | exact (Kd.C_below HR0_10.out HB.out) | (with_reducible refine Kd.C_alloc ?_ _) | (with_reducible refine Kd.C_drewN ?_ _) | (with_reducible refine Kd.C_drew ?_))); (case side4 => exact HC0_10.out); rintro e w16 ⟨rfl, hb⟩; refine ⟨_, rfl, ?_⟩; have n0_ := Aside0.mk (blk_below (g := gb247) (o := .cells #[.int .i64 a0_0, .int .i64 a0_1, .bool a0_2, .bool a0_3, .int .i64 a0_4, .int .i64 a0_5, .int .i64 a0_6, .int .u32 a0_7, .int .u32 a0_8, .slice A0_9 l0_9.length c0_9, .slice A0_10 l0_10.length c0_10] 45 (0, 0)) (by (with_reducible repeat (first | refine blk_drewN ?_ _ | refine blk_drew ?_ | refine blk_alloc ?_ _)); exact BK247.out) hb); have n1_ := Aside0.mk (below_step (by repeat (first | (with_reducible first | exact HB.out | apply below_alloc | apply pw_below_drewN | apply below_drew1 | refine below_set ?_ GE247.out) | exact HB.out)) hb); clear BK247; clear HB; have BK247 := n0_; have HB := n1_; clear n0_ n1_; (try clear hb); (try clear hb2); (try clear hk); (try clear hi); have hcz17_0 : w16.cell? ⟨gb247, 0, none⟩ = some (.int .i64 a0_0) := (blk_cell BK247.out 0).trans rfl; have hcz17_1 : w16.cell? ⟨gb247, 1, none⟩ = some (.int .i64 a0_1) := (blk_cell BK247.out 1).trans rfl; have hcz17_2 : w16.cell? ⟨gb247, 2, none⟩ = some (.bool a0_2) := (blk_cell BK247.out 2).trans rfl; have hcz17_3 : w16.cell? ⟨gb247, 3, none⟩ = some (.bool a0_3) := (blk_cell BK247.out 3).trans rfl; have hcz17_4 : w16.cell? ⟨gb247, 4, none⟩ = some (.int .i64 a0_4) := (blk_cell BK247.out 4).trans rfl; have hcz17_5 : w16.cell? ⟨gb247, 5, none⟩ = some (.int .i64 a0_5) := (blk_cell BK247.out 5).trans rfl; have hcz17_6 : w16.cell? ⟨gb247, 6, none⟩ = some (.int .i64 a0_6) := (blk_cell BK247.out 6).trans rfl; have hcz17_7 : w16.cell? ⟨gb247, 7, none⟩ = some (.int .u32 a0_7) := (blk_cell BK247.out 7).trans rfl; have hcz17_8 : w16.cell? ⟨gb247, 8, none⟩ = some (.int .u32 a0_8) := (blk_cell BK247.out 8).trans rfl; have hcz17_9 : w16.cell? ⟨gb247, 9, none⟩ = some (.slice A0_9 l0_9.length c0_9) := (blk_cell BK247.out 9).trans rfl; have hcz17_10 : w16.cell? ⟨gb247, 10, none⟩ = some (.slice A0_10 l0_10.length c0_10) := (blk_cell BK247.out 10).trans rfl; have hfz17_0 := blk_frozen BK247.out 0; have hfz17_1 := blk_frozen BK247.out 1; have hfz17_2 := blk_frozen BK247.out 2; have hfz17_3 := blk_frozen BK247.out 3; have hfz17_4 := blk_frozen BK247.out 4; have hfz17_5 := blk_frozen BK247.out 5; have hfz17_6 := blk_frozen BK247.out 6; have hfz17_7 := blk_frozen BK247.out 7; have hfz17_8 := blk_frozen BK247.out 8; have hfz17_9 := blk_frozen BK247.out 9; have hfz17_10 := blk_frozen BK247.out 10) | (go_at_call 31; (with_reducible refine (castellanref4_Is.calls a0_0 a0_1 a0_2 a0_3 a0_4 a0_5 a0_6 a0_7 a0_8 _ _ l0_9 _ _ l0_10 false _ ?side1 ?side2 ?side3 ?side4 A8.out).mono ?_); (case side1 => repeat (first | exact (Kd.C_below HR0_9.out HB.out) | (with_reducible refine Kd.C_alloc ?_ _) | (with_reducible refine Kd.C_drewN ?_ _) | (with_reducible refine Kd.C_drew ?_))); (case side2 => exact HC0_9.out); (case side3 => repeat (first | exact (Kd.C_below HR0_10.out HB.out) | (with_reducible refine Kd.C_alloc ?_ _) | (with_reducible refine Kd.C_drewN ?_ _) | (with_reducible refine Kd.C_drew ?_))); (case side4 => exact HC0_10.out); rintro e w18 ⟨rfl, hb⟩; have n0_ := Aside0.mk (blk_below (g := gb247) (o := .cells #[.int .i64 a0_0, .int .i64 a0_1, .bool a0_2, .bool a0_3, .int .i64 a0_4, .int .i64 a0_5, .int .i64 a0_6, .int .u32 a0_7, .int .u32 a0_8, .slice A0_9 l0_9.length c0_9, .slice A0_10 l0_10.length c0_10] 45 (0, 0)) (by (with_reducible repeat (first | refine blk_drewN ?_ _ | refine blk_drew ?_ | refine blk_alloc ?_ _)); exact BK247.out) hb); have n1_ := Aside0.mk (below_step (by repeat (first | (with_reducible first | exact HB.out | apply below_alloc | apply pw_below_drewN | apply below_drew1 | refine below_set ?_ GE247.out) | exact HB.out)) hb); clear BK247; clear HB; have BK247 := n0_; have HB := n1_; clear n0_ n1_; (try clear hb); (try clear hb2); (try clear hk); (try clear hi)))
        go_meet
        case rel => exact ⟨_, (true), (by first | rfl | (simp; done) | (simp [*]; done)), H', ⟨by first | omega | exact Nat.le_refl _⟩, ⟨by (with_reducible repeat (first | refine blk_drewN ?_ _ | refine blk_drew ?_ | refine blk_alloc ?_ _)); exact BK247.out⟩, ⟨by repeat (first | (with_reducible first | exact HB.out | apply below_alloc | apply pw_below_drewN | apply below_drew1 | refine below_set ?_ GE247.out) | exact HB.out)⟩⟩
  case rest =>
    clear HC2
    try clear c1
    try clear p2
    try clear c3
    try clear c5
    try clear c9
    try clear c14
    try clear hcz10_0
    try clear hcz10_1
    try clear hcz10_10
    try clear hcz10_2
    try clear hcz10_3
    try clear hcz10_4
    try clear hcz10_5
    try clear hcz10_6
    try clear hcz10_7
    try clear hcz10_8
    try clear hcz10_9
    try clear hcz12_0
    try clear hcz12_1
    try clear hcz12_10
    try clear hcz12_2
    try clear hcz12_3
    try clear hcz12_4
    try clear hcz12_5
    try clear hcz12_6
    try clear hcz12_7
    try clear hcz12_8
    try clear hcz12_9
    try clear hcz14_0
    try clear hcz14_1
    try clear hcz14_10
    try clear hcz14_2
    try clear hcz14_3
    try clear hcz14_4
    try clear hcz14_5
    try clear hcz14_6
    try clear hcz14_7
    try clear hcz14_8
    try clear hcz14_9
    try clear hcz15_0
    try clear hcz15_1
    try clear hcz15_10
    try clear hcz15_2
    try clear hcz15_3
    try clear hcz15_4
    try clear hcz15_5
    try clear hcz15_6
    try clear hcz15_7
    try clear hcz15_8
    try clear hcz15_9
    try clear hcz17_0
    try clear hcz17_1
    try clear hcz17_10
    try clear hcz17_2
    try clear hcz17_3
    try clear hcz17_4
    try clear hcz17_5
    try clear hcz17_6
    try clear hcz17_7
    try clear hcz17_8
    try clear hcz17_9
    try clear hcz6_0
    try clear hcz6_1
    try clear hcz6_10
    try clear hcz6_2
    try clear hcz6_3
    try clear hcz6_4
    try clear hcz6_5
    try clear hcz6_6
    try clear hcz6_7
    try clear hcz6_8
    try clear hcz6_9
    try clear hfz10_0
    try clear hfz10_1
    try clear hfz10_10
    try clear hfz10_2
    try clear hfz10_3
    try clear hfz10_4
    try clear hfz10_5
    try clear hfz10_6
    try clear hfz10_7
    try clear hfz10_8
    try clear hfz10_9
    try clear hfz12_0
    try clear hfz12_1
    try clear hfz12_10
    try clear hfz12_2
    try clear hfz12_3
    try clear hfz12_4
    try clear hfz12_5
    try clear hfz12_6
    try clear hfz12_7
    try clear hfz12_8
    try clear hfz12_9
    try clear hfz14_0
    try clear hfz14_1
    try clear hfz14_10
    try clear hfz14_2
    try clear hfz14_3
    try clear hfz14_4
    try clear hfz14_5
    try clear hfz14_6
    try clear hfz14_7
    try clear hfz14_8
    try clear hfz14_9
    try clear hfz15_0
    try clear hfz15_1
    try clear hfz15_10
    try clear hfz15_2
    try clear hfz15_3
    try clear hfz15_4
    try clear hfz15_5
    try clear hfz15_6
    try clear hfz15_7
    try clear hfz15_8
    try clear hfz15_9
    try clear hfz17_0
    try clear hfz17_1
    try clear hfz17_10
    try clear hfz17_2
    try clear hfz17_3
    try clear hfz17_4
    try clear hfz17_5
    try clear hfz17_6
    try clear hfz17_7
    try clear hfz17_8
    try clear hfz17_9
    try clear hfz6_0
    try clear hfz6_1
    try clear hfz6_10
    try clear hfz6_2
    try clear hfz6_3
    try clear hfz6_4
    try clear hfz6_5
    try clear hfz6_6
    try clear hfz6_7
    try clear hfz6_8
    try clear hfz6_9
    obtain ⟨kq, x19_1, rfl, HA, HJ1, BK247, HB⟩ := hcut
    cases kq with
    | zero => exact absurd HA.out (by simp [castellanlaw4_IpTwice.j0])
    | succ kj1 =>
      have H := HA.out
      clear HA
      simp only [castellanlaw4_IpTwice.j0] at H
      by_cases c19 : x19_1 = true
      · subst c19
        have H1 : (some true) = some r := by rw [if_pos rfl] at H; exact H
        clear H
        have H := H1
        clear H1
        obtain rfl := Option.some.inj H
        go_wp2
        go_ret
        exact ⟨by first | rfl | (simp [errW_none, errW_some] <;> rfl) | (simp [*, errW_none, errW_some] <;> rfl), by repeat (first | (with_reducible first | exact HB.out | apply below_alloc | apply pw_below_drewN | apply below_drew1 | refine below_set ?_ GE247.out) | exact HB.out)⟩
      · replace c19 := Bool.eq_false_iff.mpr c19
        subst c19
        have H1 : ((ip_Build.f kj1 a0_0 a0_1 a0_2 a0_3 a0_4 a0_5 a0_6 a0_7 a0_8 l0_9 l0_10).bind fun bt250 => (if bt250.2 = 0 then (castellanlaw4_IpTwice.l0 kj1 bt250.1 a0_5) else (some false))) = some r := by rw [if_neg (show ¬ (false = true) by decide)] at H; exact H
        clear H
        have H := H1
        clear H1
        replace H := Option.bind_eq_some_iff.mp H
        obtain ⟨⟨t250, t253⟩, A200, H⟩ := H
        replace H : (if t253 = 0 then (castellanlaw4_IpTwice.l0 kj1 t250 a0_5) else (some false)) = some r := H
        have A20 := Aside0.mk A200
        clear A200
        by_cases c21 : t253 = 0
        · rw [if_pos c21] at H
          have c21b0 : (t253 == 0) = true := beq_iff_eq.mpr c21
          have c21b1 : (t253 != 0) = false := bne_eq_false_iff_eq.mpr c21
          clear c21
          have H' := Aside0.mk H
          clear H
          have hcz22_0 : wc.cell? ⟨gb247, 0, none⟩ = some (.int .i64 a0_0) := (blk_cell BK247.out 0).trans rfl
          have hcz22_1 : wc.cell? ⟨gb247, 1, none⟩ = some (.int .i64 a0_1) := (blk_cell BK247.out 1).trans rfl
          have hcz22_2 : wc.cell? ⟨gb247, 2, none⟩ = some (.bool a0_2) := (blk_cell BK247.out 2).trans rfl
          have hcz22_3 : wc.cell? ⟨gb247, 3, none⟩ = some (.bool a0_3) := (blk_cell BK247.out 3).trans rfl
          have hcz22_4 : wc.cell? ⟨gb247, 4, none⟩ = some (.int .i64 a0_4) := (blk_cell BK247.out 4).trans rfl
          have hcz22_5 : wc.cell? ⟨gb247, 5, none⟩ = some (.int .i64 a0_5) := (blk_cell BK247.out 5).trans rfl
          have hcz22_6 : wc.cell? ⟨gb247, 6, none⟩ = some (.int .i64 a0_6) := (blk_cell BK247.out 6).trans rfl
          have hcz22_7 : wc.cell? ⟨gb247, 7, none⟩ = some (.int .u32 a0_7) := (blk_cell BK247.out 7).trans rfl
          have hcz22_8 : wc.cell? ⟨gb247, 8, none⟩ = some (.int .u32 a0_8) := (blk_cell BK247.out 8).trans rfl
          have hcz22_9 : wc.cell? ⟨gb247, 9, none⟩ = some (.slice A0_9 l0_9.length c0_9) := (blk_cell BK247.out 9).trans rfl
          have hcz22_10 : wc.cell? ⟨gb247, 10, none⟩ = some (.slice A0_10 l0_10.length c0_10) := (blk_cell BK247.out 10).trans rfl
          have hfz22_0 := blk_frozen BK247.out 0
          have hfz22_1 := blk_frozen BK247.out 1
          have hfz22_2 := blk_frozen BK247.out 2
          have hfz22_3 := blk_frozen BK247.out 3
          have hfz22_4 := blk_frozen BK247.out 4
          have hfz22_5 := blk_frozen BK247.out 5
          have hfz22_6 := blk_frozen BK247.out 6
          have hfz22_7 := blk_frozen BK247.out 7
          have hfz22_8 := blk_frozen BK247.out 8
          have hfz22_9 := blk_frozen BK247.out 9
          have hfz22_10 := blk_frozen BK247.out 10
          go_wp2_with (first | ((with_reducible refine gate_callee (f := 32) rfl ?_); refine goesL_ (some 22) rfl rfl Try.func32 (by kernel_rfl) rfl #[.agg #[.int .i64 a0_0, .int .i64 a0_1, .bool a0_2, .bool a0_3, .int .i64 a0_4, .int .i64 a0_5, .int .i64 a0_6, .int .u32 a0_7, .int .u32 a0_8, .slice A0_9 l0_9.length c0_9, .slice A0_10 l0_10.length c0_10]] rfl (by (try simp only [List.map_toArray, List.map_cons, List.map_nil]); first | done | rfl | (simp only [List.length_drop, List.length_take]; rfl)) ?_; (with_reducible refine (ip_Build.calls kj1 a0_0 a0_1 a0_2 a0_3 a0_4 a0_5 a0_6 a0_7 a0_8 (fun k_ => k_ < w.heap.size) _ _ l0_9 _ _ l0_10 t250 t253 _ ?side1 ?side2 ?side3 A20.out).mono ?_); (case side1 => exact Kd.V_mk HC0_9.out (Kd.F_below (Kd.C_F (Kd.heap_int .u8) HR0_9.out) (by repeat (first | (with_reducible first | exact HB.out | apply below_alloc | apply pw_below_drewN | apply below_drew1 | refine below_set ?_ GE247.out) | exact HB.out)))); (case side2 => repeat (first | exact (Kd.C_below HR0_10.out HB.out) | (with_reducible refine Kd.C_alloc ?_ _) | (with_reducible refine Kd.C_drewN ?_ _) | (with_reducible refine Kd.C_drew ?_))); (case side3 => exact HC0_10.out); rintro e w23 ⟨v251, rfl, ho0, hb⟩; refine ⟨_, rfl, ?_⟩; have n0_ := Aside0.mk (Kd.R_lower (Kd.R_mono (ok' := fun k_ => True) ho0 (fun _ hk_ => trivial)) (below_size (by repeat (first | (with_reducible first | exact HB.out | apply below_alloc | apply pw_below_drewN | apply below_drew1 | refine below_set ?_ GE247.out) | exact HB.out)))); have n1_ := Aside0.mk (blk_below (g := gb247) (o := .cells #[.int .i64 a0_0, .int .i64 a0_1, .bool a0_2, .bool a0_3, .int .i64 a0_4, .int .i64 a0_5, .int .i64 a0_6, .int .u32 a0_7, .int .u32 a0_8, .slice A0_9 l0_9.length c0_9, .slice A0_10 l0_10.length c0_10] 45 (0, 0)) (by (with_reducible repeat (first | refine blk_drewN ?_ _ | refine blk_drew ?_ | refine blk_alloc ?_ _)); exact BK247.out) hb); have n2_ := Aside0.mk (below_step (by repeat (first | (with_reducible first | exact HB.out | apply below_alloc | apply pw_below_drewN | apply below_drew1 | refine below_set ?_ GE247.out) | exact HB.out)) hb); clear BK247; clear HB; have HO252 := n0_; have BK247 := n1_; have HB := n2_; clear n0_ n1_ n2_; (try clear hb); (try clear hb2); (try clear hk); (try clear hi); (try clear ho0); have hcz24_0 : w23.cell? ⟨gb247, 0, none⟩ = some (.int .i64 a0_0) := (blk_cell BK247.out 0).trans rfl; have hcz24_1 : w23.cell? ⟨gb247, 1, none⟩ = some (.int .i64 a0_1) := (blk_cell BK247.out 1).trans rfl; have hcz24_2 : w23.cell? ⟨gb247, 2, none⟩ = some (.bool a0_2) := (blk_cell BK247.out 2).trans rfl; have hcz24_3 : w23.cell? ⟨gb247, 3, none⟩ = some (.bool a0_3) := (blk_cell BK247.out 3).trans rfl; have hcz24_4 : w23.cell? ⟨gb247, 4, none⟩ = some (.int .i64 a0_4) := (blk_cell BK247.out 4).trans rfl; have hcz24_5 : w23.cell? ⟨gb247, 5, none⟩ = some (.int .i64 a0_5) := (blk_cell BK247.out 5).trans rfl; have hcz24_6 : w23.cell? ⟨gb247, 6, none⟩ = some (.int .i64 a0_6) := (blk_cell BK247.out 6).trans rfl; have hcz24_7 : w23.cell? ⟨gb247, 7, none⟩ = some (.int .u32 a0_7) := (blk_cell BK247.out 7).trans rfl; have hcz24_8 : w23.cell? ⟨gb247, 8, none⟩ = some (.int .u32 a0_8) := (blk_cell BK247.out 8).trans rfl; have hcz24_9 : w23.cell? ⟨gb247, 9, none⟩ = some (.slice A0_9 l0_9.length c0_9) := (blk_cell BK247.out 9).trans rfl; have hcz24_10 : w23.cell? ⟨gb247, 10, none⟩ = some (.slice A0_10 l0_10.length c0_10) := (blk_cell BK247.out 10).trans rfl; have hfz24_0 := blk_frozen BK247.out 0; have hfz24_1 := blk_frozen BK247.out 1; have hfz24_2 := blk_frozen BK247.out 2; have hfz24_3 := blk_frozen BK247.out 3; have hfz24_4 := blk_frozen BK247.out 4; have hfz24_5 := blk_frozen BK247.out 5; have hfz24_6 := blk_frozen BK247.out 6; have hfz24_7 := blk_frozen BK247.out 7; have hfz24_8 := blk_frozen BK247.out 8; have hfz24_9 := blk_frozen BK247.out 9; have hfz24_10 := blk_frozen BK247.out 10))
          go_loopg [3, 5] kj1 (fun kq v3 v5 w' => ∃ (x3_2 : List Int) (x5_2 : Int), v5 = .int .i64 x5_2 ∧ Aside0 (castellanlaw4_IpTwice.l0 kq x3_2 x5_2 = some r) ∧ Aside0 (kq ≤ kj1) ∧ Aside0 (Kd.R (Kd.int .u8) 5 w' w.heap.size (fun _ => True) v3 x3_2) ∧ Aside0 (w'.heap[gb247]? = some (.cells #[.int .i64 a0_0, .int .i64 a0_1, .bool a0_2, .bool a0_3, .int .i64 a0_4, .int .i64 a0_5, .int .i64 a0_6, .int .u32 a0_7, .int .u32 a0_8, (.slice A0_9 l0_9.length c0_9), (.slice A0_10 l0_10.length c0_10)] 45 (0, 0))) ∧ Aside0 (Below w.heap.size w w'))
          case atStart => exact ⟨(t250), (a0_5), (by first | rfl | (simp; done) | (simp [*]; done)), H', ⟨Nat.le_refl _⟩, ⟨by (with_reducible repeat (first | apply Kd.R_alloc | apply Kd.R_drewN | apply Kd.R_drew)); exact HO252.out⟩, ⟨by (with_reducible repeat (first | refine blk_drewN ?_ _ | refine blk_drew ?_ | refine blk_alloc ?_ _)); exact BK247.out⟩, ⟨by repeat (first | (with_reducible first | exact HB.out | apply below_alloc | apply pw_below_drewN | apply below_drew1 | refine below_set ?_ GE247.out) | exact HB.out)⟩⟩
          case round =>
            clear H'
            try clear c1
            try clear c2
            try clear p2
            try clear c3
            try clear c5
            try clear c9
            try clear c14
            try clear c19
            try clear c21
            try clear c21b0
            try clear c21b1
            try clear hcz10_0
            try clear hcz10_1
            try clear hcz10_10
            try clear hcz10_2
            try clear hcz10_3
            try clear hcz10_4
            try clear hcz10_5
            try clear hcz10_6
            try clear hcz10_7
            try clear hcz10_8
            try clear hcz10_9
            try clear hcz12_0
            try clear hcz12_1
            try clear hcz12_10
            try clear hcz12_2
            try clear hcz12_3
            try clear hcz12_4
            try clear hcz12_5
            try clear hcz12_6
            try clear hcz12_7
            try clear hcz12_8
            try clear hcz12_9
            try clear hcz14_0
            try clear hcz14_1
            try clear hcz14_10
            try clear hcz14_2
            try clear hcz14_3
            try clear hcz14_4
            try clear hcz14_5
            try clear hcz14_6
            try clear hcz14_7
            try clear hcz14_8
            try clear hcz14_9
            try clear hcz15_0
            try clear hcz15_1
            try clear hcz15_10
            try clear hcz15_2
            try clear hcz15_3
            try clear hcz15_4
            try clear hcz15_5
            try clear hcz15_6
            try clear hcz15_7
            try clear hcz15_8
            try clear hcz15_9
            try clear hcz17_0
            try clear hcz17_1
            try clear hcz17_10
            try clear hcz17_2
            try clear hcz17_3
            try clear hcz17_4
            try clear hcz17_5
            try clear hcz17_6
            try clear hcz17_7
            try clear hcz17_8
            try clear hcz17_9
            try clear hcz22_0
            try clear hcz22_1
            try clear hcz22_10
            try clear hcz22_2
            try clear hcz22_3
            try clear hcz22_4
            try clear hcz22_5
            try clear hcz22_6
            try clear hcz22_7
            try clear hcz22_8
            try clear hcz22_9
            try clear hcz24_0
            try clear hcz24_1
            try clear hcz24_10
            try clear hcz24_2
            try clear hcz24_3
            try clear hcz24_4
            try clear hcz24_5
            try clear hcz24_6
            try clear hcz24_7
            try clear hcz24_8
            try clear hcz24_9
            try clear hcz6_0
            try clear hcz6_1
            try clear hcz6_10
            try clear hcz6_2
            try clear hcz6_3
            try clear hcz6_4
            try clear hcz6_5
            try clear hcz6_6
            try clear hcz6_7
            try clear hcz6_8
            try clear hcz6_9
            try clear hfz10_0
            try clear hfz10_1
            try clear hfz10_10
            try clear hfz10_2
            try clear hfz10_3
            try clear hfz10_4
            try clear hfz10_5
            try clear hfz10_6
            try clear hfz10_7
            try clear hfz10_8
            try clear hfz10_9
            try clear hfz12_0
            try clear hfz12_1
            try clear hfz12_10
            try clear hfz12_2
            try clear hfz12_3
            try clear hfz12_4
            try clear hfz12_5
            try clear hfz12_6
            try clear hfz12_7
            try clear hfz12_8
            try clear hfz12_9
            try clear hfz14_0
            try clear hfz14_1
            try clear hfz14_10
            try clear hfz14_2
            try clear hfz14_3
            try clear hfz14_4
            try clear hfz14_5
            try clear hfz14_6
            try clear hfz14_7
            try clear hfz14_8
            try clear hfz14_9
            try clear hfz15_0
            try clear hfz15_1
            try clear hfz15_10
            try clear hfz15_2
            try clear hfz15_3
            try clear hfz15_4
            try clear hfz15_5
            try clear hfz15_6
            try clear hfz15_7
            try clear hfz15_8
            try clear hfz15_9
            try clear hfz17_0
            try clear hfz17_1
            try clear hfz17_10
            try clear hfz17_2
            try clear hfz17_3
            try clear hfz17_4
            try clear hfz17_5
            try clear hfz17_6
            try clear hfz17_7
            try clear hfz17_8
            try clear hfz17_9
            try clear hfz22_0
            try clear hfz22_1
            try clear hfz22_10
            try clear hfz22_2
            try clear hfz22_3
            try clear hfz22_4
            try clear hfz22_5
            try clear hfz22_6
            try clear hfz22_7
            try clear hfz22_8
            try clear hfz22_9
            try clear hfz24_0
            try clear hfz24_1
            try clear hfz24_10
            try clear hfz24_2
            try clear hfz24_3
            try clear hfz24_4
            try clear hfz24_5
            try clear hfz24_6
            try clear hfz24_7
            try clear hfz24_8
            try clear hfz24_9
            try clear hfz6_0
            try clear hfz6_1
            try clear hfz6_10
            try clear hfz6_2
            try clear hfz6_3
            try clear hfz6_4
            try clear hfz6_5
            try clear hfz6_6
            try clear hfz6_7
            try clear hfz6_8
            try clear hfz6_9
            try clear p2
            obtain ⟨x3_2, x5_2, rfl, HA, HK2, HO_3, BK247, HB⟩ := hrel
            cases gk with
            | zero => exact absurd HA.out (by simp [castellanlaw4_IpTwice.l0])
            | succ k2 =>
              have H := HA.out
              clear HA
              simp only [castellanlaw4_IpTwice.l0] at H
              by_cases c25 : x5_2 > 0
              · rw [if_pos c25] at H
                have c25b0 : decide (0 < x5_2) = true := decide_eq_true c25
                clear c25
                replace H := Option.bind_eq_some_iff.mp H
                obtain ⟨t258, A260, H⟩ := H
                replace H : ((ip_Parse.f k2 t258).bind fun bt261 => (if bt261.2.2.2.2.2.2.2.2.2.2.2 = 0 then (if bt261.2.2.2.2.2.1 = (wrap64 (x5_2 - 1)) then (castellanlaw4_IpTwice.l0 k2 t258 (wrap64 (x5_2 - 1))) else (some false)) else (some false))) = some r := H
                have A26 := Aside0.mk A260
                clear A260
                replace H := Option.bind_eq_some_iff.mp H
                obtain ⟨⟨t261, t262, t263, t264, t265, t266, t267, t268, t269, t270, t273, t276⟩, A270, H⟩ := H
                replace H : (if t276 = 0 then (if t266 = (wrap64 (x5_2 - 1)) then (castellanlaw4_IpTwice.l0 k2 t258 (wrap64 (x5_2 - 1))) else (some false)) else (some false)) = some r := H
                have A27 := Aside0.mk A270
                clear A270
                by_cases c28 : t276 = 0
                · rw [if_pos c28] at H
                  have c28b0 : (t276 == 0) = true := beq_iff_eq.mpr c28
                  have c28b1 : (t276 != 0) = false := bne_eq_false_iff_eq.mpr c28
                  clear c28
                  by_cases c29 : t266 = (wrap64 (x5_2 - 1))
                  · rw [if_pos c29] at H
                    have c29b0 : (t266 == (wrap64 (x5_2 - 1))) = true := beq_iff_eq.mpr c29
                    have c29b1 : (t266 != (wrap64 (x5_2 - 1))) = false := bne_eq_false_iff_eq.mpr c29
                    clear c29
                    have H' := Aside0.mk H
                    clear H
                    obtain ⟨Ao30, co30, eo30⟩ := Kd.R_slice HO_3.out
                    subst eo30
                    go_wp2_with (first | ((with_reducible refine gate_callee (f := 35) rfl ?_); refine goesL_ (some 34) rfl rfl Try.func35 (by kernel_rfl) rfl #[.slice Ao30 x3_2.length co30] rfl (by (try simp only [List.map_toArray, List.map_cons, List.map_nil]); first | done | rfl | (simp only [List.length_drop, List.length_take]; rfl)) ?_; (with_reducible refine (ip_Less.calls k2 _ _ x3_2 t258 _ ?side1 ?side2 A26.out).mono ?_); (case side1 => repeat (first | exact (Kd.R_reads' HO_3.out).2.2 | (with_reducible refine Kd.C_alloc ?_ _) | (with_reducible refine Kd.C_drewN ?_ _) | (with_reducible refine Kd.C_drew ?_))); (case side2 => exact (Kd.R_reads' HO_3.out).2.1); rintro e w31 ⟨v259, rfl, ho0, hb⟩; refine ⟨_, rfl, ?_⟩; have n0_ := Aside0.mk (Kd.R_elder' (by (with_reducible repeat (first | apply Kd.R_alloc | apply Kd.R_drewN | apply Kd.R_drew)); exact HO_3.out) (Kd.R_base ho0) hb); have n1_ := Aside0.mk (Kd.R_lower (Kd.R_new' ho0 (Kd.R_lt (by (with_reducible repeat (first | apply Kd.R_alloc | apply Kd.R_drewN | apply Kd.R_drew)); exact HO_3.out))) (below_size (by repeat (first | (with_reducible first | exact HB.out | apply below_alloc | apply pw_below_drewN | apply below_drew1 | refine below_set ?_ GE247.out) | exact HB.out)))); have n2_ := Aside0.mk (blk_below (g := gb247) (o := .cells #[.int .i64 a0_0, .int .i64 a0_1, .bool a0_2, .bool a0_3, .int .i64 a0_4, .int .i64 a0_5, .int .i64 a0_6, .int .u32 a0_7, .int .u32 a0_8, .slice A0_9 l0_9.length c0_9, .slice A0_10 l0_10.length c0_10] 45 (0, 0)) (by (with_reducible repeat (first | refine blk_drewN ?_ _ | refine blk_drew ?_ | refine blk_alloc ?_ _)); exact BK247.out) hb); have n3_ := Aside0.mk (below_step (by repeat (first | (with_reducible first | exact HB.out | apply below_alloc | apply pw_below_drewN | apply below_drew1 | refine below_set ?_ GE247.out) | exact HB.out)) hb); clear HO_3; clear BK247; clear HB; have HO_3 := n0_; have HO260 := n1_; have BK247 := n2_; have HB := n3_; clear n0_ n1_ n2_ n3_; (try clear hb); (try clear hb2); (try clear hk); (try clear hi); (try clear ho0); obtain ⟨Ao32, co32, eo32⟩ := Kd.R_slice HO260.out; subst eo32) | ((with_reducible refine gate_callee (f := 24) rfl ?_); refine goesL_ (some 37) rfl rfl Try.func24 (by kernel_rfl) rfl #[.slice Ao32 t258.length co32] rfl (by (try simp only [List.map_toArray, List.map_cons, List.map_nil]); first | done | rfl | (simp only [List.length_drop, List.length_take]; rfl)) ?_; (with_reducible refine (ip_Parse.calls k2 _ _ t258 t261 t262 t263 t264 t265 t266 t267 t268 t269 t270 t273 t276 _ ?side1 ?side2 A27.out).mono ?_); (case side1 => repeat (first | exact (Kd.R_reads' HO260.out).2.2 | (with_reducible refine Kd.C_alloc ?_ _) | (with_reducible refine Kd.C_drewN ?_ _) | (with_reducible refine Kd.C_drew ?_))); (case side2 => exact (Kd.R_reads' HO260.out).2.1); rintro e w33 ⟨v271, v274, rfl, ho0, ho1, hb⟩; refine ⟨_, rfl, ?_⟩; have n0_ := Aside0.mk (Kd.R_mono (Kd.R_told (Kd.R_told (Kd.R_old (by (with_reducible repeat (first | apply Kd.R_alloc | apply Kd.R_drewN | apply Kd.R_drew)); exact HO_3.out) hb) (Kd.R_base ho0)) (Kd.R_base ho1)) (fun _ h_ => h_.1)); have n1_ := Aside0.mk (Kd.R_mono (Kd.R_told (Kd.R_told (Kd.R_old (by (with_reducible repeat (first | apply Kd.R_alloc | apply Kd.R_drewN | apply Kd.R_drew)); exact HO260.out) hb) (Kd.R_base ho0)) (Kd.R_base ho1)) (fun _ h_ => h_.1)); have n2_ := Aside0.mk (Kd.R_lower (Kd.R_new' (Kd.R_new' ho0 (Kd.R_lt (by (with_reducible repeat (first | apply Kd.R_alloc | apply Kd.R_drewN | apply Kd.R_drew)); exact HO_3.out))) (Kd.R_lt (by (with_reducible repeat (first | apply Kd.R_alloc | apply Kd.R_drewN | apply Kd.R_drew)); exact HO260.out))) (below_size (by repeat (first | (with_reducible first | exact HB.out | apply below_alloc | apply pw_below_drewN | apply below_drew1 | refine below_set ?_ GE247.out) | exact HB.out)))); have n3_ := Aside0.mk (Kd.R_lower (Kd.R_new' (Kd.R_new' ho1 (Kd.R_lt (by (with_reducible repeat (first | apply Kd.R_alloc | apply Kd.R_drewN | apply Kd.R_drew)); exact HO_3.out))) (Kd.R_lt (by (with_reducible repeat (first | apply Kd.R_alloc | apply Kd.R_drewN | apply Kd.R_drew)); exact HO260.out))) (below_size (by repeat (first | (with_reducible first | exact HB.out | apply below_alloc | apply pw_below_drewN | apply below_drew1 | refine below_set ?_ GE247.out) | exact HB.out)))); have n4_ := Aside0.mk (blk_below (g := gb247) (o := .cells #[.int .i64 a0_0, .int .i64 a0_1, .bool a0_2, .bool a0_3, .int .i64 a0_4, .int .i64 a0_5, .int .i64 a0_6, .int .u32 a0_7, .int .u32 a0_8, .slice A0_9 l0_9.length c0_9, .slice A0_10 l0_10.length c0_10] 45 (0, 0)) (by (with_reducible repeat (first | refine blk_drewN ?_ _ | refine blk_drew ?_ | refine blk_alloc ?_ _)); exact BK247.out) hb); have n5_ := Aside0.mk (below_step (by repeat (first | (with_reducible first | exact HB.out | apply below_alloc | apply pw_below_drewN | apply below_drew1 | refine below_set ?_ GE247.out) | exact HB.out)) hb); clear HO_3; clear HO260; clear BK247; clear HB; have HO_3 := n0_; have HO260 := n1_; have HO272 := n2_; have HO275 := n3_; have BK247 := n4_; have HB := n5_; clear n0_ n1_ n2_ n3_ n4_ n5_; (try clear hb); (try clear hb2); (try clear hk); (try clear hi); (try clear ho0); (try clear ho1)) | ((with_reducible refine gate_dst (N := 6) rfl ?_); refine box_event ?hg (N := 6) ?hd (cs := #[.int .i64 0, .int .i64 0, .bool false, .bool false, .int .i64 0, .int .i64 0, .int .i64 0, .int .u32 0, .int .u32 0, .slice none 0 0, .slice none 0 0]) (t := 45) ?hr ?_; (case hd => rfl); (case hg => rfl); (case hr => first | (go_simp; done) | (go_simp; rfl)); intro gb277 hg w34 hbox hb; have n0_ := Aside0.mk (Kd.R_below (by (with_reducible repeat (first | apply Kd.R_alloc | apply Kd.R_drewN | apply Kd.R_drew)); exact HO_3.out) hb); have n1_ := Aside0.mk (Kd.R_below (by (with_reducible repeat (first | apply Kd.R_alloc | apply Kd.R_drewN | apply Kd.R_drew)); exact HO260.out) hb); have n2_ := Aside0.mk (Kd.R_below (by (with_reducible repeat (first | apply Kd.R_alloc | apply Kd.R_drewN | apply Kd.R_drew)); exact HO272.out) hb); have n3_ := Aside0.mk (Kd.R_below (by (with_reducible repeat (first | apply Kd.R_alloc | apply Kd.R_drewN | apply Kd.R_drew)); exact HO275.out) hb); have n4_ := Aside0.mk (blk_below (g := gb247) (o := .cells #[.int .i64 a0_0, .int .i64 a0_1, .bool a0_2, .bool a0_3, .int .i64 a0_4, .int .i64 a0_5, .int .i64 a0_6, .int .u32 a0_7, .int .u32 a0_8, .slice A0_9 l0_9.length c0_9, .slice A0_10 l0_10.length c0_10] 45 (0, 0)) (by (with_reducible repeat (first | refine blk_drewN ?_ _ | refine blk_drew ?_ | refine blk_alloc ?_ _)); exact BK247.out) hb); have n5_ := Aside0.mk (below_step (by repeat (first | (with_reducible first | exact HB.out | apply below_alloc | apply pw_below_drewN | apply below_drew1 | refine below_set ?_ GE247.out) | exact HB.out)) hb); have n6_ := Aside0.mk (hbox); have n7_ := Aside0.mk ((by rw [hg]; exact (below_size (by repeat (first | (with_reducible first | exact HB.out | apply below_alloc | apply pw_below_drewN | apply below_drew1 | refine below_set ?_ GE247.out) | exact HB.out))) : w.heap.size ≤ gb277)); have n8_ := Aside0.mk ((by rw [hg]; exact (below_size (by repeat (first | (with_reducible first | exact HB.out | apply below_alloc | apply pw_below_drewN | apply below_drew1 | refine below_set ?_ GE247.out) | exact HB.out))) : w.heap.size ≤ gb277)); have n9_ := Aside0.mk ((by rw [hg]; exact Nat.ne_of_lt (blk_lt (g := gb247) (o := .cells #[.int .i64 a0_0, .int .i64 a0_1, .bool a0_2, .bool a0_3, .int .i64 a0_4, .int .i64 a0_5, .int .i64 a0_6, .int .u32 a0_7, .int .u32 a0_8, .slice A0_9 l0_9.length c0_9, .slice A0_10 l0_10.length c0_10] 45 (0, 0)) (by (with_reducible repeat (first | refine blk_drewN ?_ _ | refine blk_drew ?_ | refine blk_alloc ?_ _)); exact BK247.out)) : gb247 ≠ gb277)); have n10_ := Aside0.mk ((by rw [hg]; exact Nat.ne_of_gt (blk_lt (g := gb247) (o := .cells #[.int .i64 a0_0, .int .i64 a0_1, .bool a0_2, .bool a0_3, .int .i64 a0_4, .int .i64 a0_5, .int .i64 a0_6, .int .u32 a0_7, .int .u32 a0_8, .slice A0_9 l0_9.length c0_9, .slice A0_10 l0_10.length c0_10] 45 (0, 0)) (by (with_reducible repeat (first | refine blk_drewN ?_ _ | refine blk_drew ?_ | refine blk_alloc ?_ _)); exact BK247.out)) : gb277 ≠ gb247)); clear HO_3; clear HO260; clear HO272; clear HO275; clear BK247; clear HB; have HO_3 := n0_; have HO260 := n1_; have HO272 := n2_; have HO275 := n3_; have BK247 := n4_; have HB := n5_; have BK277 := n6_; have GW277 := n7_; have GE277 := n8_; have NB247_277 := n9_; have NB277_247 := n10_; clear n0_ n1_ n2_ n3_ n4_ n5_ n6_ n7_ n8_ n9_ n10_; clear hb hbox hg; have hnb35 := NB277_247.out; have hnc35 := NB247_277.out; have hcz36_0 : w34.cell? ⟨gb277, 0, none⟩ = some (.int .i64 0) := (blk_cell BK277.out 0).trans rfl; have hcz36_1 : w34.cell? ⟨gb277, 1, none⟩ = some (.int .i64 0) := (blk_cell BK277.out 1).trans rfl; have hcz36_2 : w34.cell? ⟨gb277, 2, none⟩ = some (.bool false) := (blk_cell BK277.out 2).trans rfl; have hcz36_3 : w34.cell? ⟨gb277, 3, none⟩ = some (.bool false) := (blk_cell BK277.out 3).trans rfl; have hcz36_4 : w34.cell? ⟨gb277, 4, none⟩ = some (.int .i64 0) := (blk_cell BK277.out 4).trans rfl; have hcz36_5 : w34.cell? ⟨gb277, 5, none⟩ = some (.int .i64 0) := (blk_cell BK277.out 5).trans rfl; have hcz36_6 : w34.cell? ⟨gb277, 6, none⟩ = some (.int .i64 0) := (blk_cell BK277.out 6).trans rfl; have hcz36_7 : w34.cell? ⟨gb277, 7, none⟩ = some (.int .u32 0) := (blk_cell BK277.out 7).trans rfl; have hcz36_8 : w34.cell? ⟨gb277, 8, none⟩ = some (.int .u32 0) := (blk_cell BK277.out 8).trans rfl; have hcz36_9 : w34.cell? ⟨gb277, 9, none⟩ = some (.slice none 0 0) := (blk_cell BK277.out 9).trans rfl; have hcz36_10 : w34.cell? ⟨gb277, 10, none⟩ = some (.slice none 0 0) := (blk_cell BK277.out 10).trans rfl; have hfz36_0 := blk_frozen BK277.out 0; have hfz36_1 := blk_frozen BK277.out 1; have hfz36_2 := blk_frozen BK277.out 2; have hfz36_3 := blk_frozen BK277.out 3; have hfz36_4 := blk_frozen BK277.out 4; have hfz36_5 := blk_frozen BK277.out 5; have hfz36_6 := blk_frozen BK277.out 6; have hfz36_7 := blk_frozen BK277.out 7; have hfz36_8 := blk_frozen BK277.out 8; have hfz36_9 := blk_frozen BK277.out 9; have hfz36_10 := blk_frozen BK277.out 10; obtain ⟨Ao37, co37, eo37⟩ := Kd.R_slice HO272.out; subst eo37; obtain ⟨Ao38, co38, eo38⟩ := Kd.R_slice HO275.out; subst eo38))
                    go_roundg k2
                    case measure => have := HJ1.out; have := HK2.out; omega
                    case rel => exact ⟨(t258), (wrap64 (x5_2 - 1)), (by first | rfl | (simp; done) | (simp [*]; done)), H', ⟨by have := HJ1.out; have := HK2.out; omega⟩, ⟨by (with_reducible repeat (first | apply Kd.R_alloc | apply Kd.R_drewN | apply Kd.R_drew)); exact Kd.R_mono (Kd.R_far (p := ⟨gb277, 10, none⟩) (Kd.R_far (p := ⟨gb277, 9, none⟩) (Kd.R_far (p := ⟨gb277, 8, none⟩) (Kd.R_far (p := ⟨gb277, 7, none⟩) (Kd.R_far (p := ⟨gb277, 6, none⟩) (Kd.R_far (p := ⟨gb277, 5, none⟩) (Kd.R_far (p := ⟨gb277, 4, none⟩) (Kd.R_far (p := ⟨gb277, 3, none⟩) (Kd.R_far (p := ⟨gb277, 2, none⟩) (Kd.R_far (p := ⟨gb277, 1, none⟩) (Kd.R_far (p := ⟨gb277, 0, none⟩) (Kd.R_types HO260.out BK277.out (by decide)) (fun _ hk => hk.2) (.int .i64 t261)) (fun _ hk => hk.2) (.int .i64 t262)) (fun _ hk => hk.2) (.bool t263)) (fun _ hk => hk.2) (.bool t264)) (fun _ hk => hk.2) (.int .i64 t265)) (fun _ hk => hk.2) (.int .i64 t266)) (fun _ hk => hk.2) (.int .i64 t267)) (fun _ hk => hk.2) (.int .u32 t268)) (fun _ hk => hk.2) (.int .u32 t269)) (fun _ hk => hk.2) (.slice Ao37 t270.length co37)) (fun _ hk => hk.2) (.slice Ao38 t273.length co38)) (fun _ hk => trivial)⟩, ⟨by (with_reducible repeat (first | refine blk_drewN ?_ _ | refine blk_drew ?_ | refine blk_alloc ?_ _)); refine blk_far ?_ NB247_277.out _; (with_reducible repeat (first | refine blk_drewN ?_ _ | refine blk_drew ?_ | refine blk_alloc ?_ _)); refine blk_far ?_ NB247_277.out _; (with_reducible repeat (first | refine blk_drewN ?_ _ | refine blk_drew ?_ | refine blk_alloc ?_ _)); refine blk_far ?_ NB247_277.out _; (with_reducible repeat (first | refine blk_drewN ?_ _ | refine blk_drew ?_ | refine blk_alloc ?_ _)); refine blk_far ?_ NB247_277.out _; (with_reducible repeat (first | refine blk_drewN ?_ _ | refine blk_drew ?_ | refine blk_alloc ?_ _)); refine blk_far ?_ NB247_277.out _; (with_reducible repeat (first | refine blk_drewN ?_ _ | refine blk_drew ?_ | refine blk_alloc ?_ _)); refine blk_far ?_ NB247_277.out _; (with_reducible repeat (first | refine blk_drewN ?_ _ | refine blk_drew ?_ | refine blk_alloc ?_ _)); refine blk_far ?_ NB247_277.out _; (with_reducible repeat (first | refine blk_drewN ?_ _ | refine blk_drew ?_ | refine blk_alloc ?_ _)); refine blk_far ?_ NB247_277.out _; (with_reducible repeat (first | refine blk_drewN ?_ _ | refine blk_drew ?_ | refine blk_alloc ?_ _)); refine blk_far ?_ NB247_277.out _; (with_reducible repeat (first | refine blk_drewN ?_ _ | refine blk_drew ?_ | refine blk_alloc ?_ _)); refine blk_far ?_ NB247_277.out _; (with_reducible repeat (first | refine blk_drewN ?_ _ | refine blk_drew ?_ | refine blk_alloc ?_ _)); refine blk_far ?_ NB247_277.out _; (with_reducible repeat (first | refine blk_drewN ?_ _ | refine blk_drew ?_ | refine blk_alloc ?_ _)); exact BK247.out⟩, ⟨by repeat (first | (with_reducible first | exact HB.out | apply below_alloc | apply pw_below_drewN | apply below_drew1 | refine below_set ?_ GE247.out | refine below_set ?_ GE277.out) | exact HB.out)⟩⟩
                  · rw [if_neg c29] at H
                    have c29b0 : (t266 == (wrap64 (x5_2 - 1))) = false := beq_eq_false_iff_ne.mpr c29
                    have c29b1 : (t266 != (wrap64 (x5_2 - 1))) = true := bne_iff_ne.mpr c29
                    exact absurd (H.trans (congrArg some HRT.out)) (by simp)
                · rw [if_neg c28] at H
                  have c28b0 : (t276 == 0) = false := beq_eq_false_iff_ne.mpr c28
                  have c28b1 : (t276 != 0) = true := bne_iff_ne.mpr c28
                  exact absurd (H.trans (congrArg some HRT.out)) (by simp)
              · rw [if_neg c25] at H
                have c25b0 : decide (0 < x5_2) = false := decide_eq_false c25
                clear c25
                replace H := Option.bind_eq_some_iff.mp H
                obtain ⟨t254, A390, H⟩ := H
                replace H : (if (t254.length : Int) = 0 then ((castellanlaw4_known.f k2).bind fun t257 => (some t257)) else (some false)) = some r := H
                have A39 := Aside0.mk A390
                clear A390
                by_cases c40 : (t254.length : Int) = 0
                · rw [if_pos c40] at H
                  have c40b0 : ((t254.length : Int) == 0) = true := beq_iff_eq.mpr c40
                  have c40b1 : ((t254.length : Int) != 0) = false := bne_eq_false_iff_eq.mpr c40
                  clear c40
                  replace H := Option.bind_eq_some_iff.mp H
                  obtain ⟨t257, A410, H⟩ := H
                  replace H : (some t257) = some r := H
                  have A41 := Aside0.mk A410
                  clear A410
                  obtain rfl := Option.some.inj H
                  obtain ⟨Ao42, co42, eo42⟩ := Kd.R_slice HO_3.out
                  subst eo42
                  go_wp2_with (first | ((with_reducible refine gate_callee (f := 35) rfl ?_); refine goesL_ (some 50) rfl rfl Try.func35 (by kernel_rfl) rfl #[.slice Ao42 x3_2.length co42] rfl (by (try simp only [List.map_toArray, List.map_cons, List.map_nil]); first | done | rfl | (simp only [List.length_drop, List.length_take]; rfl)) ?_; (with_reducible refine (ip_Less.calls k2 _ _ x3_2 t254 _ ?side1 ?side2 A39.out).mono ?_); (case side1 => repeat (first | exact (Kd.R_reads' HO_3.out).2.2 | (with_reducible refine Kd.C_alloc ?_ _) | (with_reducible refine Kd.C_drewN ?_ _) | (with_reducible refine Kd.C_drew ?_))); (case side2 => exact (Kd.R_reads' HO_3.out).2.1); rintro e w43 ⟨v255, rfl, ho0, hb⟩; refine ⟨_, rfl, ?_⟩; have n0_ := Aside0.mk (Kd.R_elder' (by (with_reducible repeat (first | apply Kd.R_alloc | apply Kd.R_drewN | apply Kd.R_drew)); exact HO_3.out) (Kd.R_base ho0) hb); have n1_ := Aside0.mk (Kd.R_lower (Kd.R_new' ho0 (Kd.R_lt (by (with_reducible repeat (first | apply Kd.R_alloc | apply Kd.R_drewN | apply Kd.R_drew)); exact HO_3.out))) (below_size (by repeat (first | (with_reducible first | exact HB.out | apply below_alloc | apply pw_below_drewN | apply below_drew1 | refine below_set ?_ GE247.out) | exact HB.out)))); have n2_ := Aside0.mk (blk_below (g := gb247) (o := .cells #[.int .i64 a0_0, .int .i64 a0_1, .bool a0_2, .bool a0_3, .int .i64 a0_4, .int .i64 a0_5, .int .i64 a0_6, .int .u32 a0_7, .int .u32 a0_8, .slice A0_9 l0_9.length c0_9, .slice A0_10 l0_10.length c0_10] 45 (0, 0)) (by (with_reducible repeat (first | refine blk_drewN ?_ _ | refine blk_drew ?_ | refine blk_alloc ?_ _)); exact BK247.out) hb); have n3_ := Aside0.mk (below_step (by repeat (first | (with_reducible first | exact HB.out | apply below_alloc | apply pw_below_drewN | apply below_drew1 | refine below_set ?_ GE247.out) | exact HB.out)) hb); clear HO_3; clear BK247; clear HB; have HO_3 := n0_; have HO256 := n1_; have BK247 := n2_; have HB := n3_; clear n0_ n1_ n2_ n3_; (try clear hb); (try clear hb2); (try clear hk); (try clear hi); (try clear ho0); obtain ⟨Ao44, co44, eo44⟩ := Kd.R_slice HO256.out; subst eo44) | (go_at_call 29; (with_reducible refine (castellanlaw4_known.calls k2  t257 _ A41.out).mono ?_); rintro e w45 ⟨rfl, hb⟩; have n0_ := Aside0.mk (Kd.R_below (by (with_reducible repeat (first | apply Kd.R_alloc | apply Kd.R_drewN | apply Kd.R_drew)); exact HO_3.out) hb); have n1_ := Aside0.mk (Kd.R_below (by (with_reducible repeat (first | apply Kd.R_alloc | apply Kd.R_drewN | apply Kd.R_drew)); exact HO256.out) hb); have n2_ := Aside0.mk (blk_below (g := gb247) (o := .cells #[.int .i64 a0_0, .int .i64 a0_1, .bool a0_2, .bool a0_3, .int .i64 a0_4, .int .i64 a0_5, .int .i64 a0_6, .int .u32 a0_7, .int .u32 a0_8, .slice A0_9 l0_9.length c0_9, .slice A0_10 l0_10.length c0_10] 45 (0, 0)) (by (with_reducible repeat (first | refine blk_drewN ?_ _ | refine blk_drew ?_ | refine blk_alloc ?_ _)); exact BK247.out) hb); have n3_ := Aside0.mk (below_step (by repeat (first | (with_reducible first | exact HB.out | apply below_alloc | apply pw_below_drewN | apply below_drew1 | refine below_set ?_ GE247.out) | exact HB.out)) hb); clear HO_3; clear HO256; clear BK247; clear HB; have HO_3 := n0_; have HO256 := n1_; have BK247 := n2_; have HB := n3_; clear n0_ n1_ n2_ n3_; (try clear hb); (try clear hb2); (try clear hk); (try clear hi)))
                  go_ret
                  exact ⟨by first | rfl | (simp [errW_none, errW_some] <;> rfl) | (simp [*, errW_none, errW_some] <;> rfl), by repeat (first | (with_reducible first | exact HB.out | apply below_alloc | apply pw_below_drewN | apply below_drew1 | refine below_set ?_ GE247.out) | exact HB.out)⟩
                · rw [if_neg c40] at H
                  have c40b0 : ((t254.length : Int) == 0) = false := beq_eq_false_iff_ne.mpr c40
                  have c40b1 : ((t254.length : Int) != 0) = true := bne_iff_ne.mpr c40
                  have c40b2 : ¬ (t254 = []) := fun h_ => c40 (by rw [h_]; rfl)
                  exact absurd (H.trans (congrArg some HRT.out)) (by simp)
        · rw [if_neg c21] at H
          have c21b0 : (t253 == 0) = false := beq_eq_false_iff_ne.mpr c21
          have c21b1 : (t253 != 0) = true := bne_iff_ne.mpr c21
          exact absurd (H.trans (congrArg some HRT.out)) (by simp)

/-- THE ONE PURE STATEMENT of castellanlaw4_IpTwice: yours. -/
def castellanlaw4_IpTwice.Pure : Prop := ∀ (a0_0 : Int) (a0_1 : Int) (a0_2 : Bool) (a0_3 : Bool) (a0_4 : Int) (a0_5 : Int) (a0_6 : Int) (a0_7 : Int) (a0_8 : Int) (l0_9 : List Int) (l0_10 : List Int), (Lit.int .i64 a0_0).wf = true → (Lit.int .i64 a0_1).wf = true → (Lit.int .i64 a0_4).wf = true → (Lit.int .i64 a0_5).wf = true → (Lit.int .i64 a0_6).wf = true → (Lit.int .u32 a0_7).wf = true → (Lit.int .u32 a0_8).wf = true → l0_9.length ≤ maxLen → l0_9.length * 1 ≤ 140737488351232 → (∀ x ∈ l0_9, (Lit.int .u8 x).wf = true) → l0_10.length ≤ maxLen → l0_10.length * 1 ≤ 140737488351232 → (∀ x ∈ l0_10, (Lit.int .u8 x).wf = true) → ∃ k, castellanlaw4_IpTwice.f k a0_0 a0_1 a0_2 a0_3 a0_4 a0_5 a0_6 a0_7 a0_8 l0_9 l0_10 = some true
theorem castellanlaw4_IpTwice.walk (P : castellanlaw4_IpTwice.Pure) (a0_0 : Int) (a0_1 : Int) (a0_2 : Bool) (a0_3 : Bool) (a0_4 : Int) (a0_5 : Int) (a0_6 : Int) (a0_7 : Int) (a0_8 : Int) (a0_9 : Option Addr) (len0_9 cap0_9 : Nat) (z0_9 : List Int) (a0_10 : Option Addr) (len0_10 cap0_10 : Nat) (z0_10 : List Int) (w : World) (w0_0 : (Lit.int .i64 a0_0).wf = true) (w0_1 : (Lit.int .i64 a0_1).wf = true) (w0_4 : (Lit.int .i64 a0_4).wf = true) (w0_5 : (Lit.int .i64 a0_5).wf = true) (w0_6 : (Lit.int .i64 a0_6).wf = true) (w0_7 : (Lit.int .u32 a0_7).wf = true) (w0_8 : (Lit.int .u32 a0_8).wf = true) (w0_9 : (a0_9 = none ∧ len0_9 = 0 ∧ cap0_9 = 0 ∧ z0_9 = []) ∨ ∃ x, a0_9 = some x ∧ len0_9 ≤ cap0_9 ∧ cap0_9 ≤ maxLen ∧ z0_9.length = cap0_9 ∧ (∀ i, i < z0_9.length → w.cell? (x.add i) = some (.int .u8 (z0_9.getD i 0))) ∧ ∀ n ∈ z0_9, (Lit.int .u8 n).wf = true) (y0_9 : len0_9 * 1 ≤ 140737488351232) (w0_10 : (a0_10 = none ∧ len0_10 = 0 ∧ cap0_10 = 0 ∧ z0_10 = []) ∨ ∃ x, a0_10 = some x ∧ len0_10 ≤ cap0_10 ∧ cap0_10 ≤ maxLen ∧ z0_10.length = cap0_10 ∧ (∀ i, i < z0_10.length → w.cell? (x.add i) = some (.int .u8 (z0_10.getD i 0))) ∧ ∀ n ∈ z0_10, (Lit.int .u8 n).wf = true) (y0_10 : len0_10 * 1 ≤ 140737488351232) :
    Calls Try.prog 14 #[.agg #[.int .i64 a0_0, .int .i64 a0_1, .bool a0_2, .bool a0_3, .int .i64 a0_4, .int .i64 a0_5, .int .i64 a0_6, .int .u32 a0_7, .int .u32 a0_8, .slice a0_9 len0_9 cap0_9, .slice a0_10 len0_10 cap0_10]] w fun e w' => e = .returned (.bool true) ∧ Below w.heap.size w w' := by
  obtain ⟨l0_9, rfl, hr0_9, hm0_9, hw0_9, hc0_9⟩ := ReadsInt.ofRowC w0_9
  obtain ⟨l0_10, rfl, hr0_10, hm0_10, hw0_10, hc0_10⟩ := ReadsInt.ofRowC w0_10
  obtain ⟨k, h⟩ := P a0_0 a0_1 a0_2 a0_3 a0_4 a0_5 a0_6 a0_7 a0_8 l0_9 l0_10 w0_0 w0_1 w0_4 w0_5 w0_6 w0_7 w0_8 hm0_9 y0_9 hw0_9 hm0_10 y0_10 hw0_10
  refine (castellanlaw4_IpTwice.calls k a0_0 a0_1 a0_2 a0_3 a0_4 a0_5 a0_6 a0_7 a0_8 _ _ l0_9 _ _ l0_10 true w (Kd.C_of_reads (d := (0 : Int)) (h1 := fun _ => rfl) hr0_9) hc0_9 (Kd.C_of_reads (d := (0 : Int)) (h1 := fun _ => rfl) hr0_10) hc0_10 rfl h).mono ?_
  rintro e w' ⟨rfl, hd⟩
  exact ⟨rfl, hd⟩

end Go.Proofs.Ytbpnienknijogaa.QIpTwice
