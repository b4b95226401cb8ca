-- written by myprint.py, a program of this session's over the kit's printer
import Derived.Test.YtbpnienknijogaaQIpTurnedx0
import Derived.Test.YtbpnienknijogaaQIpTurnedx2
import Derived.Test.YtbpnienknijogaaQIpTurnedx4
import Derived.Test.YtbpnienknijogaaQIpTurnedx5
namespace Go.Proofs.Ytbpnienknijogaa.QIpTurned
open Go.RowKit Go.Proofs.YtbpnienknijogaaW.PrintWords Go.Proofs.YtbpnienknijogaaW.PrintLast Go.Proofs.YtbpnienknijogaaW.PrintMore
attribute [local go_sem] max2_int min2_int max_two min_two max_three min_three max_four min_four   -- for this text's walks alone
set_option linter.unusedVariables false
set_option linter.unusedSimpArgs false

/-! ### castellanlaw4_IpTurned: function 9 -/
mutual
def castellanlaw4_IpTurned.j0 : Nat → Int → Int → Bool → Int → Int → Bool → Bool → Int → Int → Int → Int → Int → List Int → List Int → Option (Bool)
  | 0, _, _, _, _, _, _, _, _, _, _, _, _, _, _ => none
  | k + 1, x1, x2, x21, x228000, x228001, x228002, x228003, x228004, x228005, x228006, x228007, x228008, x228009, x228010 => if x21 = true then (some true) else ((ip_Build.f k x228000 x228001 x228002 x228003 x228004 x228005 x228006 x228007 x228008 x228009 x228010).bind fun bt230 => (if bt230.2 = 0 then (castellanlaw4_IpTurned.j1 k x1 x2 bt230.1 (decide ((bt230.1.length : Int) < 20))) else (castellanlaw4_IpTurned.j1 k x1 x2 bt230.1 true)))
def castellanlaw4_IpTurned.j1 : Nat → Int → Int → List Int → Bool → Option (Bool)
  | 0, _, _, _, _ => none
  | k + 1, x1, x2, x7, x33 => if x33 = true then (some false) else ((castellanref4_Header.f x7).bind fun t234 => (if (wrap64 (t234 - 1)) = 0 then (none) else (if 0 ≤ (wrap64 (1 + (Int.tmod (Go.bits .and .i64 x1 1023) (wrap64 (t234 - 1))))) then (if (wrap64 (1 + (Int.tmod (Go.bits .and .i64 x1 1023) (wrap64 (t234 - 1))))) < (x7.length : Int) then ((ip_Parse.f k (x7.set ((wrap64 (1 + (Int.tmod (Go.bits .and .i64 x1 1023) (wrap64 (t234 - 1))))) : Int).toNat (Go.bits .xor .u8 (rd x7 (wrap64 (1 + (Int.tmod (Go.bits .and .i64 x1 1023) (wrap64 (t234 - 1)))))) x2))).bind fun bt237 => (if bt237.2.2.2.2.2.2.2.2.2.2.2 = 0 then (some false) else ((castellanlaw4_known.f k).bind fun t254 => (some t254)))) else (none)) else (none))))
end
def castellanlaw4_IpTurned.f (k : Nat) (a0_0 : Int) (a0_1 : Int) (a0_2 : Bool) (a0_3 : Bool) (a0_4 : Int) (a0_5 : Int) (a0_6 : Int) (a0_7 : Int) (a0_8 : Int) (l0_9 : List Int) (l0_10 : List Int) (a1 : Int) (a2 : Int) : Option (Bool) := (castellanlaw4_long.f a0_0 a0_1 a0_2 a0_3 a0_4 a0_5 a0_6 a0_7 a0_8 l0_9 l0_10).bind fun t228 => (if t228 = true then (castellanlaw4_IpTurned.j0 k a1 a2 true a0_0 a0_1 a0_2 a0_3 a0_4 a0_5 a0_6 a0_7 a0_8 l0_9 l0_10) else ((castellanref4_Is.f a0_0 a0_1 a0_2 a0_3 a0_4 a0_5 a0_6 a0_7 a0_8 l0_9 l0_10).bind fun t229 => (if t229 = true then (castellanlaw4_IpTurned.j0 k a1 a2 (a2 == 0) a0_0 a0_1 a0_2 a0_3 a0_4 a0_5 a0_6 a0_7 a0_8 l0_9 l0_10) else (castellanlaw4_IpTurned.j0 k a1 a2 true a0_0 a0_1 a0_2 a0_3 a0_4 a0_5 a0_6 a0_7 a0_8 l0_9 l0_10))))
theorem castellanlaw4_IpTurned.mono_l : ∀ k, (∀ y0 y1 y2 y3 y4 y5 y6 y7 y8 y9 y10 y11 y12 y13, LeO (castellanlaw4_IpTurned.j0 k y0 y1 y2 y3 y4 y5 y6 y7 y8 y9 y10 y11 y12 y13) (castellanlaw4_IpTurned.j0 (k + 1) y0 y1 y2 y3 y4 y5 y6 y7 y8 y9 y10 y11 y12 y13)) ∧ (∀ y0 y1 y2 y3, LeO (castellanlaw4_IpTurned.j1 k y0 y1 y2 y3) (castellanlaw4_IpTurned.j1 (k + 1) y0 y1 y2 y3))
  | 0 => ⟨fun _ _ _ _ _ _ _ _ _ _ _ _ _ _ r h => by simp [castellanlaw4_IpTurned.j0] at h, fun _ _ _ _ r h => by simp [castellanlaw4_IpTurned.j1] at h⟩
  | k + 1 => by
    obtain ⟨ih0, ih1⟩ := castellanlaw4_IpTurned.mono_l k
    refine ⟨?_, ?_⟩
    · intro y0 y1 y2 y3 y4 y5 y6 y7 y8 y9 y10 y11 y12 y13
      unfold castellanlaw4_IpTurned.j0
      repeat' first
      | (with_reducible exact ih0 _ _ _ _ _ _ _ _ _ _ _ _ _ _)
      | (with_reducible exact ih1 _ _ _ _)
      | (with_reducible exact castellanlaw4_known.mono _)
      | (with_reducible exact ip_Build.mono _ _ _ _ _ _ _ _ _ _ _ _)
      | (with_reducible exact ip_Parse.mono _ _)
      | (with_reducible exact LeO.refl _)
      | (with_reducible exact LeO.none _)
      | (with_reducible refine LeO.ite ?_ ?_)
      | (with_reducible refine LeO.bind ?_ (fun _ => ?_))
      | exact ih0 _ _ _ _ _ _ _ _ _ _ _ _ _ _
      | exact ih1 _ _ _ _
      | exact castellanlaw4_known.mono _
      | exact ip_Build.mono _ _ _ _ _ _ _ _ _ _ _ _
      | exact ip_Parse.mono _ _
      | exact LeO.none _
      | refine LeO.ite ?_ ?_
      | refine LeO.bind ?_ (fun _ => ?_)
    · intro y0 y1 y2 y3
      unfold castellanlaw4_IpTurned.j1
      repeat' first
      | (with_reducible exact ih0 _ _ _ _ _ _ _ _ _ _ _ _ _ _)
      | (with_reducible exact ih1 _ _ _ _)
      | (with_reducible exact castellanlaw4_known.mono _)
      | (with_reducible exact ip_Build.mono _ _ _ _ _ _ _ _ _ _ _ _)
      | (with_reducible exact ip_Parse.mono _ _)
      | (with_reducible exact LeO.refl _)
      | (with_reducible exact LeO.none _)
      | (with_reducible refine LeO.ite ?_ ?_)
      | (with_reducible refine LeO.bind ?_ (fun _ => ?_))
      | exact ih0 _ _ _ _ _ _ _ _ _ _ _ _ _ _
      | exact ih1 _ _ _ _
      | exact castellanlaw4_known.mono _
      | exact ip_Build.mono _ _ _ _ _ _ _ _ _ _ _ _
      | exact ip_Parse.mono _ _
      | exact LeO.none _
      | refine LeO.ite ?_ ?_
      | refine LeO.bind ?_ (fun _ => ?_)
theorem castellanlaw4_IpTurned.mono : ∀ a0 a1 a2 a3 a4 a5 a6 a7 a8 a9 a10 a11 a12 k, LeO (castellanlaw4_IpTurned.f k a0 a1 a2 a3 a4 a5 a6 a7 a8 a9 a10 a11 a12) (castellanlaw4_IpTurned.f (k + 1) a0 a1 a2 a3 a4 a5 a6 a7 a8 a9 a10 a11 a12) := by
  intro a0 a1 a2 a3 a4 a5 a6 a7 a8 a9 a10 a11 a12 k
  obtain ⟨ih0, ih1⟩ := castellanlaw4_IpTurned.mono_l k
  unfold castellanlaw4_IpTurned.f
  repeat' first
      | (with_reducible exact ih0 _ _ _ _ _ _ _ _ _ _ _ _ _ _)
      | (with_reducible exact ih1 _ _ _ _)
      | (with_reducible exact castellanlaw4_known.mono _)
      | (with_reducible exact ip_Build.mono _ _ _ _ _ _ _ _ _ _ _ _)
      | (with_reducible exact ip_Parse.mono _ _)
      | (with_reducible exact LeO.refl _)
      | (with_reducible exact LeO.none _)
      | (with_reducible refine LeO.ite ?_ ?_)
      | (with_reducible refine LeO.bind ?_ (fun _ => ?_))
      | exact ih0 _ _ _ _ _ _ _ _ _ _ _ _ _ _
      | exact ih1 _ _ _ _
      | exact castellanlaw4_known.mono _
      | exact ip_Build.mono _ _ _ _ _ _ _ _ _ _ _ _
      | exact ip_Parse.mono _ _
      | exact LeO.none _
      | refine LeO.ite ?_ ?_
      | refine LeO.bind ?_ (fun _ => ?_)
set_option maxHeartbeats 8000000 in
set_option maxRecDepth 100000 in
theorem castellanlaw4_IpTurned.calls (k : Nat) (a0_0 : Int) (a0_1 : Int) (a0_2 : Bool) (a0_3 : Bool) (a0_4 : Int) (a0_5 : Int) (a0_6 : Int) (a0_7 : Int) (a0_8 : Int) (A0_9 : Option Addr) (c0_9 : Nat) (l0_9 : List Int) (A0_10 : Option Addr) (c0_10 : Nat) (l0_10 : List Int) (a1 : Int) (a2 : Int) (r : Bool) (w : World) (hr0_9 : Kd.C (Kd.int .u8) w A0_9 l0_9.length l0_9) (hc0_9 : l0_9.length ≤ c0_9) (hr0_10 : Kd.C (Kd.int .u8) w A0_10 l0_10.length l0_10) (hc0_10 : l0_10.length ≤ c0_10) (hrt : r = true) (h : castellanlaw4_IpTurned.f k a0_0 a0_1 a0_2 a0_3 a0_4 a0_5 a0_6 a0_7 a0_8 l0_9 l0_10 a1 a2 = some r) :
    Calls Try.prog 9 #[.agg #[.int .i64 a0_0, .int .i64 a0_1, .bool a0_2, .bool a0_3, .int .i64 a0_4, .int .i64 a0_5, .int .i64 a0_6, .int .u32 a0_7, .int .u32 a0_8, .slice A0_9 l0_9.length c0_9, .slice A0_10 l0_10.length c0_10], .int .i64 a1, .int .u8 a2] w fun e w' => e = .returned (.bool r) ∧ Below w.heap.size w w' := by
  have hu45 := Try.underlying45
  have HRT := Aside0.mk hrt
  clear hrt
  have HR0_9 := Aside0.mk hr0_9
  have HC0_9 := Aside0.mk hc0_9
  clear hr0_9 hc0_9
  have HR0_10 := Aside0.mk hr0_10
  have HC0_10 := Aside0.mk hc0_10
  clear hr0_10 hc0_10
  have HB := Aside0.mk (Below.refl w.heap.size w)
  have H : ((castellanlaw4_long.f a0_0 a0_1 a0_2 a0_3 a0_4 a0_5 a0_6 a0_7 a0_8 l0_9 l0_10).bind fun t228 => (if t228 = true then (castellanlaw4_IpTurned.j0 k a1 a2 true a0_0 a0_1 a0_2 a0_3 a0_4 a0_5 a0_6 a0_7 a0_8 l0_9 l0_10) else ((castellanref4_Is.f a0_0 a0_1 a0_2 a0_3 a0_4 a0_5 a0_6 a0_7 a0_8 l0_9 l0_10).bind fun t229 => (if t229 = true then (castellanlaw4_IpTurned.j0 k a1 a2 (a2 == 0) a0_0 a0_1 a0_2 a0_3 a0_4 a0_5 a0_6 a0_7 a0_8 l0_9 l0_10) else (castellanlaw4_IpTurned.j0 k a1 a2 true a0_0 a0_1 a0_2 a0_3 a0_4 a0_5 a0_6 a0_7 a0_8 l0_9 l0_10))))) = some r := h
  clear h
  have HC4 := Aside0.mk H
  clear H
  go_enter Try.func9, Try.ntmps9
  go_upto_region 1 with (first | ((with_reducible refine gate_dst (N := 3) rfl ?_); (try (refine gate_guard (by rfl) ?_; dsimp only)); refine box_event ?hg (N := 3) ?hd (cs := #[.int .i64 a0_0, .int .i64 a0_1, .bool a0_2, .bool a0_3, .int .i64 a0_4, .int .i64 a0_5, .int .i64 a0_6, .int .u32 a0_7, .int .u32 a0_8, .slice A0_9 l0_9.length c0_9, .slice A0_10 l0_10.length c0_10]) (t := 45) ?hr ?_; (case hd => rfl); (case hg => rfl); (case hr => first | (go_simp; done) | (go_simp; rfl)); intro gb227 hg w5 hbox hb; have n0_ := Aside0.mk (below_step (by repeat (first | (with_reducible first | exact HB.out | apply below_alloc | apply pw_below_drewN | apply below_drew1) | exact HB.out)) hb); have n1_ := Aside0.mk (hbox); have n2_ := Aside0.mk ((by rw [hg]; exact (below_size (by repeat (first | (with_reducible first | exact HB.out | apply below_alloc | apply pw_below_drewN | apply below_drew1) | exact HB.out))) : w.heap.size ≤ gb227)); have n3_ := Aside0.mk ((by rw [hg]; exact (below_size (by repeat (first | (with_reducible first | exact HB.out | apply below_alloc | apply pw_below_drewN | apply below_drew1) | exact HB.out))) : w.heap.size ≤ gb227)); clear HB; have HB := n0_; have BK227 := n1_; have GW227 := n2_; have GE227 := n3_; clear n0_ n1_ n2_ n3_; clear hb hbox hg))
  (try simp only [Act.put, List.setIfInBounds_toArray, List.set_cons_zero, List.set_cons_succ])
  go_cut [21] (fun v21 wc => ∃ (kq : Nat) (x21_3 : Bool), v21 = .bool x21_3 ∧ Aside0 (castellanlaw4_IpTurned.j0 kq a1 a2 x21_3 a0_0 a0_1 a0_2 a0_3 a0_4 a0_5 a0_6 a0_7 a0_8 l0_9 l0_10 = some r) ∧ Aside0 (kq ≤ k) ∧ Aside0 (wc.heap[gb227]? = some (.cells #[.int .i64 a0_0, .int .i64 a0_1, .bool a0_2, .bool a0_3, .int .i64 a0_4, .int .i64 a0_5, .int .i64 a0_6, .int .u32 a0_7, .int .u32 a0_8, (.slice A0_9 l0_9.length c0_9), (.slice A0_10 l0_10.length c0_10)] 45 (0, 0))) ∧ Aside0 (Below w.heap.size w wc))
  case first =>
    have H := HC4.out
    clear HC4
    replace H := Option.bind_eq_some_iff.mp H
    obtain ⟨t228, A60, H⟩ := H
    replace H : (if t228 = true then (castellanlaw4_IpTurned.j0 k a1 a2 true a0_0 a0_1 a0_2 a0_3 a0_4 a0_5 a0_6 a0_7 a0_8 l0_9 l0_10) else ((castellanref4_Is.f a0_0 a0_1 a0_2 a0_3 a0_4 a0_5 a0_6 a0_7 a0_8 l0_9 l0_10).bind fun t229 => (if t229 = true then (castellanlaw4_IpTurned.j0 k a1 a2 (a2 == 0) a0_0 a0_1 a0_2 a0_3 a0_4 a0_5 a0_6 a0_7 a0_8 l0_9 l0_10) else (castellanlaw4_IpTurned.j0 k a1 a2 true a0_0 a0_1 a0_2 a0_3 a0_4 a0_5 a0_6 a0_7 a0_8 l0_9 l0_10)))) = some r := H
    have A6 := Aside0.mk A60
    clear A60
    by_cases c7 : t228 = true
    · subst c7
      have H1 : (castellanlaw4_IpTurned.j0 k a1 a2 true a0_0 a0_1 a0_2 a0_3 a0_4 a0_5 a0_6 a0_7 a0_8 l0_9 l0_10) = some r := by rw [if_pos rfl] at H; exact H
      clear H
      have H := H1
      clear H1
      have H' := Aside0.mk H
      clear H
      have hcz8_0 : w5.cell? ⟨gb227, 0, none⟩ = some (.int .i64 a0_0) := (blk_cell BK227.out 0).trans rfl
      have hcz8_1 : w5.cell? ⟨gb227, 1, none⟩ = some (.int .i64 a0_1) := (blk_cell BK227.out 1).trans rfl
      have hcz8_2 : w5.cell? ⟨gb227, 2, none⟩ = some (.bool a0_2) := (blk_cell BK227.out 2).trans rfl
      have hcz8_3 : w5.cell? ⟨gb227, 3, none⟩ = some (.bool a0_3) := (blk_cell BK227.out 3).trans rfl
      have hcz8_4 : w5.cell? ⟨gb227, 4, none⟩ = some (.int .i64 a0_4) := (blk_cell BK227.out 4).trans rfl
      have hcz8_5 : w5.cell? ⟨gb227, 5, none⟩ = some (.int .i64 a0_5) := (blk_cell BK227.out 5).trans rfl
      have hcz8_6 : w5.cell? ⟨gb227, 6, none⟩ = some (.int .i64 a0_6) := (blk_cell BK227.out 6).trans rfl
      have hcz8_7 : w5.cell? ⟨gb227, 7, none⟩ = some (.int .u32 a0_7) := (blk_cell BK227.out 7).trans rfl
      have hcz8_8 : w5.cell? ⟨gb227, 8, none⟩ = some (.int .u32 a0_8) := (blk_cell BK227.out 8).trans rfl
      have hcz8_9 : w5.cell? ⟨gb227, 9, none⟩ = some (.slice A0_9 l0_9.length c0_9) := (blk_cell BK227.out 9).trans rfl
      have hcz8_10 : w5.cell? ⟨gb227, 10, none⟩ = some (.slice A0_10 l0_10.length c0_10) := (blk_cell BK227.out 10).trans rfl
      have hfz8_0 := blk_frozen BK227.out 0
      have hfz8_1 := blk_frozen BK227.out 1
      have hfz8_2 := blk_frozen BK227.out 2
      have hfz8_3 := blk_frozen BK227.out 3
      have hfz8_4 := blk_frozen BK227.out 4
      have hfz8_5 := blk_frozen BK227.out 5
      have hfz8_6 := blk_frozen BK227.out 6
      have hfz8_7 := blk_frozen BK227.out 7
      have hfz8_8 := blk_frozen BK227.out 8
      have hfz8_9 := blk_frozen BK227.out 9
      have hfz8_10 := blk_frozen BK227.out 10
      go_wp2_with (first | ((with_reducible refine gate_callee (f := 30) rfl ?_); refine goesL_ (some 12) rfl rfl Try.func30 (by kernel_rfl) rfl #[.agg #[.int .i64 a0_0, .int .i64 a0_1, .bool a0_2, .bool a0_3, .int .i64 a0_4, .int .i64 a0_5, .int .i64 a0_6, .int .u32 a0_7, .int .u32 a0_8, .slice A0_9 l0_9.length c0_9, .slice A0_10 l0_10.length c0_10]] rfl (by (try simp only [List.map_toArray, List.map_cons, List.map_nil]); first | done | rfl | (simp only [List.length_drop, List.length_take]; rfl)) ?_; (with_reducible refine (castellanlaw4_long.calls a0_0 a0_1 a0_2 a0_3 a0_4 a0_5 a0_6 a0_7 a0_8 _ _ l0_9 _ _ l0_10 true _ ?side1 ?side2 ?side3 ?side4 A6.out).mono ?_); (case side1 => repeat (first | exact (Kd.C_below HR0_9.out HB.out) | (with_reducible refine Kd.C_alloc ?_ _) | (with_reducible refine Kd.C_drewN ?_ _) | (with_reducible refine Kd.C_drew ?_))); (case side2 => exact HC0_9.out); (case side3 => repeat (first | exact (Kd.C_below HR0_10.out HB.out) | (with_reducible refine Kd.C_alloc ?_ _) | (with_reducible refine Kd.C_drewN ?_ _) | (with_reducible refine Kd.C_drew ?_))); (case side4 => exact HC0_10.out); rintro e w9 ⟨rfl, hb⟩; refine ⟨_, rfl, ?_⟩; have n0_ := Aside0.mk (blk_below (g := gb227) (o := .cells #[.int .i64 a0_0, .int .i64 a0_1, .bool a0_2, .bool a0_3, .int .i64 a0_4, .int .i64 a0_5, .int .i64 a0_6, .int .u32 a0_7, .int .u32 a0_8, .slice A0_9 l0_9.length c0_9, .slice A0_10 l0_10.length c0_10] 45 (0, 0)) (by (with_reducible repeat (first | refine blk_drewN ?_ _ | refine blk_drew ?_ | refine blk_alloc ?_ _)); exact BK227.out) hb); have n1_ := Aside0.mk (below_step (by repeat (first | (with_reducible first | exact HB.out | apply below_alloc | apply pw_below_drewN | apply below_drew1 | refine below_set ?_ GE227.out) | exact HB.out)) hb); clear BK227; clear HB; have BK227 := n0_; have HB := n1_; clear n0_ n1_; (try clear hb); (try clear hb2); (try clear hk); (try clear hi)))
      go_meet
      case rel => exact ⟨_, (true), (by first | rfl | (simp; done) | (simp [*]; done)), H', ⟨by first | omega | exact Nat.le_refl _⟩, ⟨by (with_reducible repeat (first | refine blk_drewN ?_ _ | refine blk_drew ?_ | refine blk_alloc ?_ _)); exact BK227.out⟩, ⟨by repeat (first | (with_reducible first | exact HB.out | apply below_alloc | apply pw_below_drewN | apply below_drew1 | refine below_set ?_ GE227.out) | exact HB.out)⟩⟩
    · replace c7 := Bool.eq_false_iff.mpr c7
      subst c7
      have H1 : ((castellanref4_Is.f a0_0 a0_1 a0_2 a0_3 a0_4 a0_5 a0_6 a0_7 a0_8 l0_9 l0_10).bind fun t229 => (if t229 = true then (castellanlaw4_IpTurned.j0 k a1 a2 (a2 == 0) a0_0 a0_1 a0_2 a0_3 a0_4 a0_5 a0_6 a0_7 a0_8 l0_9 l0_10) else (castellanlaw4_IpTurned.j0 k a1 a2 true a0_0 a0_1 a0_2 a0_3 a0_4 a0_5 a0_6 a0_7 a0_8 l0_9 l0_10))) = some r := by rw [if_neg (show ¬ (false = true) by decide)] at H; exact H
      clear H
      have H := H1
      clear H1
      replace H := Option.bind_eq_some_iff.mp H
      obtain ⟨t229, A100, H⟩ := H
      replace H : (if t229 = true then (castellanlaw4_IpTurned.j0 k a1 a2 (a2 == 0) a0_0 a0_1 a0_2 a0_3 a0_4 a0_5 a0_6 a0_7 a0_8 l0_9 l0_10) else (castellanlaw4_IpTurned.j0 k a1 a2 true a0_0 a0_1 a0_2 a0_3 a0_4 a0_5 a0_6 a0_7 a0_8 l0_9 l0_10)) = some r := H
      have A10 := Aside0.mk A100
      clear A100
      by_cases c11 : t229 = true
      · subst c11
        have H1 : (castellanlaw4_IpTurned.j0 k a1 a2 (a2 == 0) a0_0 a0_1 a0_2 a0_3 a0_4 a0_5 a0_6 a0_7 a0_8 l0_9 l0_10) = some r := by rw [if_pos rfl] at H; exact H
        clear H
        have H := H1
        clear H1
        have H' := Aside0.mk H
        clear H
        have hcz12_0 : w5.cell? ⟨gb227, 0, none⟩ = some (.int .i64 a0_0) := (blk_cell BK227.out 0).trans rfl
        have hcz12_1 : w5.cell? ⟨gb227, 1, none⟩ = some (.int .i64 a0_1) := (blk_cell BK227.out 1).trans rfl
        have hcz12_2 : w5.cell? ⟨gb227, 2, none⟩ = some (.bool a0_2) := (blk_cell BK227.out 2).trans rfl
        have hcz12_3 : w5.cell? ⟨gb227, 3, none⟩ = some (.bool a0_3) := (blk_cell BK227.out 3).trans rfl
        have hcz12_4 : w5.cell? ⟨gb227, 4, none⟩ = some (.int .i64 a0_4) := (blk_cell BK227.out 4).trans rfl
        have hcz12_5 : w5.cell? ⟨gb227, 5, none⟩ = some (.int .i64 a0_5) := (blk_cell BK227.out 5).trans rfl
        have hcz12_6 : w5.cell? ⟨gb227, 6, none⟩ = some (.int .i64 a0_6) := (blk_cell BK227.out 6).trans rfl
        have hcz12_7 : w5.cell? ⟨gb227, 7, none⟩ = some (.int .u32 a0_7) := (blk_cell BK227.out 7).trans rfl
        have hcz12_8 : w5.cell? ⟨gb227, 8, none⟩ = some (.int .u32 a0_8) := (blk_cell BK227.out 8).trans rfl
        have hcz12_9 : w5.cell? ⟨gb227, 9, none⟩ = some (.slice A0_9 l0_9.length c0_9) := (blk_cell BK227.out 9).trans rfl
        have hcz12_10 : w5.cell? ⟨gb227, 10, none⟩ = some (.slice A0_10 l0_10.length c0_10) := (blk_cell BK227.out 10).trans rfl
        have hfz12_0 := blk_frozen BK227.out 0
        have hfz12_1 := blk_frozen BK227.out 1
        have hfz12_2 := blk_frozen BK227.out 2
        have hfz12_3 := blk_frozen BK227.out 3
        have hfz12_4 := blk_frozen BK227.out 4
        have hfz12_5 := blk_frozen BK227.out 5
        have hfz12_6 := blk_frozen BK227.out 6
        have hfz12_7 := blk_frozen BK227.out 7
        have hfz12_8 := blk_frozen BK227.out 8
        have hfz12_9 := blk_frozen BK227.out 9
        have hfz12_10 := blk_frozen BK227.out 10
        go_wp2_with (first | ((with_reducible refine gate_callee (f := 30) rfl ?_); refine goesL_ (some 12) rfl rfl Try.func30 (by kernel_rfl) rfl #[.agg #[.int .i64 a0_0, .int .i64 a0_1, .bool a0_2, .bool a0_3, .int .i64 a0_4, .int .i64 a0_5, .int .i64 a0_6, .int .u32 a0_7, .int .u32 a0_8, .slice A0_9 l0_9.length c0_9, .slice A0_10 l0_10.length c0_10]] rfl (by (try simp only [List.map_toArray, List.map_cons, List.map_nil]); first | done | rfl | (simp only [List.length_drop, List.length_take]; rfl)) ?_; (with_reducible refine (castellanlaw4_long.calls a0_0 a0_1 a0_2 a0_3 a0_4 a0_5 a0_6 a0_7 a0_8 _ _ l0_9 _ _ l0_10 false _ ?side1 ?side2 ?side3 ?side4 A6.out).mono ?_); (case side1 => repeat (first | exact (Kd.C_below HR0_9.out HB.out) | (with_reducible refine Kd.C_alloc ?_ _) | (with_reducible refine Kd.C_drewN ?_ _) | (with_reducible refine Kd.C_drew ?_))); (case side2 => exact HC0_9.out); (case side3 => repeat (first | exact (Kd.C_below HR0_10.out HB.out) | (with_reducible refine Kd.C_alloc ?_ _) | (with_reducible refine Kd.C_drewN ?_ _) | (with_reducible refine Kd.C_drew ?_))); (case side4 => exact HC0_10.out); rintro e w13 ⟨rfl, hb⟩; refine ⟨_, rfl, ?_⟩; have n0_ := Aside0.mk (blk_below (g := gb227) (o := .cells #[.int .i64 a0_0, .int .i64 a0_1, .bool a0_2, .bool a0_3, .int .i64 a0_4, .int .i64 a0_5, .int .i64 a0_6, .int .u32 a0_7, .int .u32 a0_8, .slice A0_9 l0_9.length c0_9, .slice A0_10 l0_10.length c0_10] 45 (0, 0)) (by (with_reducible repeat (first | refine blk_drewN ?_ _ | refine blk_drew ?_ | refine blk_alloc ?_ _)); exact BK227.out) hb); have n1_ := Aside0.mk (below_step (by repeat (first | (with_reducible first | exact HB.out | apply below_alloc | apply pw_below_drewN | apply below_drew1 | refine below_set ?_ GE227.out) | exact HB.out)) hb); clear BK227; clear HB; have BK227 := n0_; have HB := n1_; clear n0_ n1_; (try clear hb); (try clear hb2); (try clear hk); (try clear hi); have hcz14_0 : w13.cell? ⟨gb227, 0, none⟩ = some (.int .i64 a0_0) := (blk_cell BK227.out 0).trans rfl; have hcz14_1 : w13.cell? ⟨gb227, 1, none⟩ = some (.int .i64 a0_1) := (blk_cell BK227.out 1).trans rfl; have hcz14_2 : w13.cell? ⟨gb227, 2, none⟩ = some (.bool a0_2) := (blk_cell BK227.out 2).trans rfl; have hcz14_3 : w13.cell? ⟨gb227, 3, none⟩ = some (.bool a0_3) := (blk_cell BK227.out 3).trans rfl; have hcz14_4 : w13.cell? ⟨gb227, 4, none⟩ = some (.int .i64 a0_4) := (blk_cell BK227.out 4).trans rfl; have hcz14_5 : w13.cell? ⟨gb227, 5, none⟩ = some (.int .i64 a0_5) := (blk_cell BK227.out 5).trans rfl; have hcz14_6 : w13.cell? ⟨gb227, 6, none⟩ = some (.int .i64 a0_6) := (blk_cell BK227.out 6).trans rfl; have hcz14_7 : w13.cell? ⟨gb227, 7, none⟩ = some (.int .u32 a0_7) := (blk_cell BK227.out 7).trans rfl; have hcz14_8 : w13.cell? ⟨gb227, 8, none⟩ = some (.int .u32 a0_8) := (blk_cell BK227.out 8).trans rfl; have hcz14_9 : w13.cell? ⟨gb227, 9, none⟩ = some (.slice A0_9 l0_9.length c0_9) := (blk_cell BK227.out 9).trans rfl; have hcz14_10 : w13.cell? ⟨gb227, 10, none⟩ = some (.slice A0_10 l0_10.length c0_10) := (blk_cell BK227.out 10).trans rfl; have hfz14_0 := blk_frozen BK227.out 0; have hfz14_1 := blk_frozen BK227.out 1; have hfz14_2 := blk_frozen BK227.out 2; have hfz14_3 := blk_frozen BK227.out 3; have hfz14_4 := blk_frozen BK227.out 4; have hfz14_5 := blk_frozen BK227.out 5; have hfz14_6 := blk_frozen BK227.out 6; have hfz14_7 := blk_frozen BK227.out 7; have hfz14_8 := blk_frozen BK227.out 8; have hfz14_9 := blk_frozen BK227.out 9; have hfz14_10 := blk_frozen BK227.out 10) | (go_at_call 31; (with_reducible refine (castellanref4_Is.calls a0_0 a0_1 a0_2 a0_3 a0_4 a0_5 a0_6 a0_7 a0_8 _ _ l0_9 _ _ l0_10 true _ ?side1 ?side2 ?side3 ?side4 A10.out).mono ?_); (case side1 => repeat (first | exact (Kd.C_below HR0_9.out HB.out) | (with_reducible refine Kd.C_alloc ?_ _) | (with_reducible refine Kd.C_drewN ?_ _) | (with_reducible refine Kd.C_drew ?_))); (case side2 => exact HC0_9.out); (case side3 => repeat (first | exact (Kd.C_below HR0_10.out HB.out) | (with_reducible refine Kd.C_alloc ?_ _) | (with_reducible refine Kd.C_drewN ?_ _) | (with_reducible refine Kd.C_drew ?_))); (case side4 => exact HC0_10.out); rintro e w15 ⟨rfl, hb⟩; have n0_ := Aside0.mk (blk_below (g := gb227) (o := .cells #[.int .i64 a0_0, .int .i64 a0_1, .bool a0_2, .bool a0_3, .int .i64 a0_4, .int .i64 a0_5, .int .i64 a0_6, .int .u32 a0_7, .int .u32 a0_8, .slice A0_9 l0_9.length c0_9, .slice A0_10 l0_10.length c0_10] 45 (0, 0)) (by (with_reducible repeat (first | refine blk_drewN ?_ _ | refine blk_drew ?_ | refine blk_alloc ?_ _)); exact BK227.out) hb); have n1_ := Aside0.mk (below_step (by repeat (first | (with_reducible first | exact HB.out | apply below_alloc | apply pw_below_drewN | apply below_drew1 | refine below_set ?_ GE227.out) | exact HB.out)) hb); clear BK227; clear HB; have BK227 := n0_; have HB := n1_; clear n0_ n1_; (try clear hb); (try clear hb2); (try clear hk); (try clear hi)))
        go_meet
        case rel => exact ⟨_, ((a2 == 0)), (by first | rfl | (simp; done) | (simp [*]; done)), H', ⟨by first | omega | exact Nat.le_refl _⟩, ⟨by (with_reducible repeat (first | refine blk_drewN ?_ _ | refine blk_drew ?_ | refine blk_alloc ?_ _)); exact BK227.out⟩, ⟨by repeat (first | (with_reducible first | exact HB.out | apply below_alloc | apply pw_below_drewN | apply below_drew1 | refine below_set ?_ GE227.out) | exact HB.out)⟩⟩
      · replace c11 := Bool.eq_false_iff.mpr c11
        subst c11
        have H1 : (castellanlaw4_IpTurned.j0 k a1 a2 true a0_0 a0_1 a0_2 a0_3 a0_4 a0_5 a0_6 a0_7 a0_8 l0_9 l0_10) = some r := by rw [if_neg (show ¬ (false = true) by decide)] at H; exact H
        clear H
        have H := H1
        clear H1
        have H' := Aside0.mk H
        clear H
        have hcz16_0 : w5.cell? ⟨gb227, 0, none⟩ = some (.int .i64 a0_0) := (blk_cell BK227.out 0).trans rfl
        have hcz16_1 : w5.cell? ⟨gb227, 1, none⟩ = some (.int .i64 a0_1) := (blk_cell BK227.out 1).trans rfl
        have hcz16_2 : w5.cell? ⟨gb227, 2, none⟩ = some (.bool a0_2) := (blk_cell BK227.out 2).trans rfl
        have hcz16_3 : w5.cell? ⟨gb227, 3, none⟩ = some (.bool a0_3) := (blk_cell BK227.out 3).trans rfl
        have hcz16_4 : w5.cell? ⟨gb227, 4, none⟩ = some (.int .i64 a0_4) := (blk_cell BK227.out 4).trans rfl
        have hcz16_5 : w5.cell? ⟨gb227, 5, none⟩ = some (.int .i64 a0_5) := (blk_cell BK227.out 5).trans rfl
        have hcz16_6 : w5.cell? ⟨gb227, 6, none⟩ = some (.int .i64 a0_6) := (blk_cell BK227.out 6).trans rfl
        have hcz16_7 : w5.cell? ⟨gb227, 7, none⟩ = some (.int .u32 a0_7) := (blk_cell BK227.out 7).trans rfl
        have hcz16_8 : w5.cell? ⟨gb227, 8, none⟩ = some (.int .u32 a0_8) := (blk_cell BK227.out 8).trans rfl
        have hcz16_9 : w5.cell? ⟨gb227, 9, none⟩ = some (.slice A0_9 l0_9.length c0_9) := (blk_cell BK227.out 9).trans rfl
        have hcz16_10 : w5.cell? ⟨gb227, 10, none⟩ = some (.slice A0_10 l0_10.length c0_10) := (blk_cell BK227.out 10).trans rfl
        have hfz16_0 := blk_frozen BK227.out 0
        have hfz16_1 := blk_frozen BK227.out 1
        have hfz16_2 := blk_frozen BK227.out 2
        have hfz16_3 := blk_frozen BK227.out 3
        have hfz16_4 := blk_frozen BK227.out 4
        have hfz16_5 := blk_frozen BK227.out 5
        have hfz16_6 := blk_frozen BK227.out 6
        have hfz16_7 := blk_frozen BK227.out 7
        have hfz16_8 := blk_frozen BK227.out 8
        have hfz16_9 := blk_frozen BK227.out 9
        have hfz16_10 := blk_frozen BK227.out 10
        go_wp2_with (first | ((with_reducible refine gate_callee (f := 30) rfl ?_); refine goesL_ (some 12) rfl rfl Try.func30 (by kernel_rfl) rfl #[.agg #[.int .i64 a0_0, .int .i64 a0_1, .bool a0_2, .bool a0_3, .int .i64 a0_4, .int .i64 a0_5, .int .i64 a0_6, .int .u32 a0_7, .int .u32 a0_8, .slice A0_9 l0_9.length c0_9, .slice A0_10 l0_10.length c0_10]] rfl (by (try simp only [List.map_toArray, List.map_cons, List.map_nil]); first | done | rfl | (simp only [List.length_drop, List.length_take]; rfl)) ?_; (with_reducible refine (castellanlaw4_long.calls a0_0 a0_1 a0_2 a0_3 a0_4 a0_5 a0_6 a0_7 a0_8 _ _ l0_9 _ _ l0_10 false _ ?side1 ?side2 ?side3 ?side4 A6.out).mono ?_); (case side1 => repeat (first | exact (Kd.C_below HR0_9.out HB.out) | (with_reducible refine Kd.C_alloc ?_ _) | (with_reducible refine Kd.C_drewN ?_ _) | (with_reducible refine Kd.C_drew ?_))); (case side2 => exact HC0_9.out); (case side3 => repeat (first | exact (Kd.C_below HR0_10.out HB.out) | (with_reducible refine Kd.C_alloc ?_ _) | (with_reducible refine Kd.C_drewN ?_ _) | (with_reducible refine Kd.C_drew ?_))); (case side4 => exact HC0_10.out); rintro e w17 ⟨rfl, hb⟩; refine ⟨_, rfl, ?_⟩; have n0_ := Aside0.mk (blk_below (g := gb227) (o := .cells #[.int .i64 a0_0, .int .i64 a0_1, .bool a0_2, .bool a0_3, .int .i64 a0_4, .int .i64 a0_5, .int .i64 a0_6, .int .u32 a0_7, .int .u32 a0_8, .slice A0_9 l0_9.length c0_9, .slice A0_10 l0_10.length c0_10] 45 (0, 0)) (by (with_reducible repeat (first | refine blk_drewN ?_ _ | refine blk_drew ?_ | refine blk_alloc ?_ _)); exact BK227.out) hb); have n1_ := Aside0.mk (below_step (by repeat (first | (with_reducible first | exact HB.out | apply below_alloc | apply pw_below_drewN | apply below_drew1 | refine below_set ?_ GE227.out) | exact HB.out)) hb); clear BK227; clear HB; have BK227 := n0_; have HB := n1_; clear n0_ n1_; (try clear hb); (try clear hb2); (try clear hk); (try clear hi); have hcz18_0 : w17.cell? ⟨gb227, 0, none⟩ = some (.int .i64 a0_0) := (blk_cell BK227.out 0).trans rfl; have hcz18_1 : w17.cell? ⟨gb227, 1, none⟩ = some (.int .i64 a0_1) := (blk_cell BK227.out 1).trans rfl; have hcz18_2 : w17.cell? ⟨gb227, 2, none⟩ = some (.bool a0_2) := (blk_cell BK227.out 2).trans rfl; have hcz18_3 : w17.cell? ⟨gb227, 3, none⟩ = some (.bool a0_3) := (blk_cell BK227.out 3).trans rfl; have hcz18_4 : w17.cell? ⟨gb227, 4, none⟩ = some (.int .i64 a0_4) := (blk_cell BK227.out 4).trans rfl; have hcz18_5 : w17.cell? ⟨gb227, 5, none⟩ = some (.int .i64 a0_5) := (blk_cell BK227.out 5).trans rfl; have hcz18_6 : w17.cell? ⟨gb227, 6, none⟩ = some (.int .i64 a0_6) := (blk_cell BK227.out 6).trans rfl; have hcz18_7 : w17.cell? ⟨gb227, 7, none⟩ = some (.int .u32 a0_7) := (blk_cell BK227.out 7).trans rfl; have hcz18_8 : w17.cell? ⟨gb227, 8, none⟩ = some (.int .u32 a0_8) := (blk_cell BK227.out 8).trans rfl; have hcz18_9 : w17.cell? ⟨gb227, 9, none⟩ = some (.slice A0_9 l0_9.length c0_9) := (blk_cell BK227.out 9).trans rfl; have hcz18_10 : w17.cell? ⟨gb227, 10, none⟩ = some (.slice A0_10 l0_10.length c0_10) := (blk_cell BK227.out 10).trans rfl; have hfz18_0 := blk_frozen BK227.out 0; have hfz18_1 := blk_frozen BK227.out 1; have hfz18_2 := blk_frozen BK227.out 2; have hfz18_3 := blk_frozen BK227.out 3; have hfz18_4 := blk_frozen BK227.out 4; have hfz18_5 := blk_frozen BK227.out 5; have hfz18_6 := blk_frozen BK227.out 6; have hfz18_7 := blk_frozen BK227.out 7; have hfz18_8 := blk_frozen BK227.out 8; have hfz18_9 := blk_frozen BK227.out 9; have hfz18_10 := blk_frozen BK227.out 10) | (go_at_call 31; (with_reducible refine (castellanref4_Is.calls a0_0 a0_1 a0_2 a0_3 a0_4 a0_5 a0_6 a0_7 a0_8 _ _ l0_9 _ _ l0_10 false _ ?side1 ?side2 ?side3 ?side4 A10.out).mono ?_); (case side1 => repeat (first | exact (Kd.C_below HR0_9.out HB.out) | (with_reducible refine Kd.C_alloc ?_ _) | (with_reducible refine Kd.C_drewN ?_ _) | (with_reducible refine Kd.C_drew ?_))); (case side2 => exact HC0_9.out); (case side3 => repeat (first | exact (Kd.C_below HR0_10.out HB.out) | (with_reducible refine Kd.C_alloc ?_ _) | (with_reducible refine Kd.C_drewN ?_ _) | (with_reducible refine Kd.C_drew ?_))); (case side4 => exact HC0_10.out); rintro e w19 ⟨rfl, hb⟩; have n0_ := Aside0.mk (blk_below (g := gb227) (o := .cells #[.int .i64 a0_0, .int .i64 a0_1, .bool a0_2, .bool a0_3, .int .i64 a0_4, .int .i64 a0_5, .int .i64 a0_6, .int .u32 a0_7, .int .u32 a0_8, .slice A0_9 l0_9.length c0_9, .slice A0_10 l0_10.length c0_10] 45 (0, 0)) (by (with_reducible repeat (first | refine blk_drewN ?_ _ | refine blk_drew ?_ | refine blk_alloc ?_ _)); exact BK227.out) hb); have n1_ := Aside0.mk (below_step (by repeat (first | (with_reducible first | exact HB.out | apply below_alloc | apply pw_below_drewN | apply below_drew1 | refine below_set ?_ GE227.out) | exact HB.out)) hb); clear BK227; clear HB; have BK227 := n0_; have HB := n1_; clear n0_ n1_; (try clear hb); (try clear hb2); (try clear hk); (try clear hi)))
        go_meet
        case rel => exact ⟨_, (true), (by first | rfl | (simp; done) | (simp [*]; done)), H', ⟨by first | omega | exact Nat.le_refl _⟩, ⟨by (with_reducible repeat (first | refine blk_drewN ?_ _ | refine blk_drew ?_ | refine blk_alloc ?_ _)); exact BK227.out⟩, ⟨by repeat (first | (with_reducible first | exact HB.out | apply below_alloc | apply pw_below_drewN | apply below_drew1 | refine below_set ?_ GE227.out) | exact HB.out)⟩⟩
  case rest =>
    clear HC4
    try clear c1
    try clear p2
    try clear c3
    try clear c7
    try clear c9
    try clear c11
    try clear hcz12_0
    try clear hcz12_1
    try clear hcz12_10
    try clear hcz12_2
    try clear hcz12_3
    try clear hcz12_4
    try clear hcz12_5
    try clear hcz12_6
    try clear hcz12_7
    try clear hcz12_8
    try clear hcz12_9
    try clear hcz14_0
    try clear hcz14_1
    try clear hcz14_10
    try clear hcz14_2
    try clear hcz14_3
    try clear hcz14_4
    try clear hcz14_5
    try clear hcz14_6
    try clear hcz14_7
    try clear hcz14_8
    try clear hcz14_9
    try clear hcz16_0
    try clear hcz16_1
    try clear hcz16_10
    try clear hcz16_2
    try clear hcz16_3
    try clear hcz16_4
    try clear hcz16_5
    try clear hcz16_6
    try clear hcz16_7
    try clear hcz16_8
    try clear hcz16_9
    try clear hcz18_0
    try clear hcz18_1
    try clear hcz18_10
    try clear hcz18_2
    try clear hcz18_3
    try clear hcz18_4
    try clear hcz18_5
    try clear hcz18_6
    try clear hcz18_7
    try clear hcz18_8
    try clear hcz18_9
    try clear hcz8_0
    try clear hcz8_1
    try clear hcz8_10
    try clear hcz8_2
    try clear hcz8_3
    try clear hcz8_4
    try clear hcz8_5
    try clear hcz8_6
    try clear hcz8_7
    try clear hcz8_8
    try clear hcz8_9
    try clear hfz12_0
    try clear hfz12_1
    try clear hfz12_10
    try clear hfz12_2
    try clear hfz12_3
    try clear hfz12_4
    try clear hfz12_5
    try clear hfz12_6
    try clear hfz12_7
    try clear hfz12_8
    try clear hfz12_9
    try clear hfz14_0
    try clear hfz14_1
    try clear hfz14_10
    try clear hfz14_2
    try clear hfz14_3
    try clear hfz14_4
    try clear hfz14_5
    try clear hfz14_6
    try clear hfz14_7
    try clear hfz14_8
    try clear hfz14_9
    try clear hfz16_0
    try clear hfz16_1
    try clear hfz16_10
    try clear hfz16_2
    try clear hfz16_3
    try clear hfz16_4
    try clear hfz16_5
    try clear hfz16_6
    try clear hfz16_7
    try clear hfz16_8
    try clear hfz16_9
    try clear hfz18_0
    try clear hfz18_1
    try clear hfz18_10
    try clear hfz18_2
    try clear hfz18_3
    try clear hfz18_4
    try clear hfz18_5
    try clear hfz18_6
    try clear hfz18_7
    try clear hfz18_8
    try clear hfz18_9
    try clear hfz8_0
    try clear hfz8_1
    try clear hfz8_10
    try clear hfz8_2
    try clear hfz8_3
    try clear hfz8_4
    try clear hfz8_5
    try clear hfz8_6
    try clear hfz8_7
    try clear hfz8_8
    try clear hfz8_9
    obtain ⟨kq, x21_3, rfl, HA, HJ3, BK227, HB⟩ := hcut
    cases kq with
    | zero => exact absurd HA.out (by simp [castellanlaw4_IpTurned.j0])
    | succ kj3 =>
      have H := HA.out
      clear HA
      simp only [castellanlaw4_IpTurned.j0] at H
      by_cases c20 : x21_3 = true
      · subst c20
        have H1 : (some true) = some r := by rw [if_pos rfl] at H; exact H
        clear H
        have H := H1
        clear H1
        obtain rfl := Option.some.inj H
        go_wp2
        go_ret
        exact ⟨by first | rfl | (simp [errW_none, errW_some] <;> rfl) | (simp [*, errW_none, errW_some] <;> rfl), by repeat (first | (with_reducible first | exact HB.out | apply below_alloc | apply pw_below_drewN | apply below_drew1 | refine below_set ?_ GE227.out) | exact HB.out)⟩
      · replace c20 := Bool.eq_false_iff.mpr c20
        subst c20
        have H1 : ((ip_Build.f kj3 a0_0 a0_1 a0_2 a0_3 a0_4 a0_5 a0_6 a0_7 a0_8 l0_9 l0_10).bind fun bt230 => (if bt230.2 = 0 then (castellanlaw4_IpTurned.j1 kj3 a1 a2 bt230.1 (decide ((bt230.1.length : Int) < 20))) else (castellanlaw4_IpTurned.j1 kj3 a1 a2 bt230.1 true))) = some r := by rw [if_neg (show ¬ (false = true) by decide)] at H; exact H
        clear H
        have H := H1
        clear H1
        replace H := Option.bind_eq_some_iff.mp H
        obtain ⟨⟨t230, t233⟩, A210, H⟩ := H
        replace H : (if t233 = 0 then (castellanlaw4_IpTurned.j1 kj3 a1 a2 t230 (decide ((t230.length : Int) < 20))) else (castellanlaw4_IpTurned.j1 kj3 a1 a2 t230 true)) = some r := H
        have A21 := Aside0.mk A210
        clear A210
        have HC22 := Aside0.mk H
        clear H
        have hcz23_0 : wc.cell? ⟨gb227, 0, none⟩ = some (.int .i64 a0_0) := (blk_cell BK227.out 0).trans rfl
        have hcz23_1 : wc.cell? ⟨gb227, 1, none⟩ = some (.int .i64 a0_1) := (blk_cell BK227.out 1).trans rfl
        have hcz23_2 : wc.cell? ⟨gb227, 2, none⟩ = some (.bool a0_2) := (blk_cell BK227.out 2).trans rfl
        have hcz23_3 : wc.cell? ⟨gb227, 3, none⟩ = some (.bool a0_3) := (blk_cell BK227.out 3).trans rfl
        have hcz23_4 : wc.cell? ⟨gb227, 4, none⟩ = some (.int .i64 a0_4) := (blk_cell BK227.out 4).trans rfl
        have hcz23_5 : wc.cell? ⟨gb227, 5, none⟩ = some (.int .i64 a0_5) := (blk_cell BK227.out 5).trans rfl
        have hcz23_6 : wc.cell? ⟨gb227, 6, none⟩ = some (.int .i64 a0_6) := (blk_cell BK227.out 6).trans rfl
        have hcz23_7 : wc.cell? ⟨gb227, 7, none⟩ = some (.int .u32 a0_7) := (blk_cell BK227.out 7).trans rfl
        have hcz23_8 : wc.cell? ⟨gb227, 8, none⟩ = some (.int .u32 a0_8) := (blk_cell BK227.out 8).trans rfl
        have hcz23_9 : wc.cell? ⟨gb227, 9, none⟩ = some (.slice A0_9 l0_9.length c0_9) := (blk_cell BK227.out 9).trans rfl
        have hcz23_10 : wc.cell? ⟨gb227, 10, none⟩ = some (.slice A0_10 l0_10.length c0_10) := (blk_cell BK227.out 10).trans rfl
        have hfz23_0 := blk_frozen BK227.out 0
        have hfz23_1 := blk_frozen BK227.out 1
        have hfz23_2 := blk_frozen BK227.out 2
        have hfz23_3 := blk_frozen BK227.out 3
        have hfz23_4 := blk_frozen BK227.out 4
        have hfz23_5 := blk_frozen BK227.out 5
        have hfz23_6 := blk_frozen BK227.out 6
        have hfz23_7 := blk_frozen BK227.out 7
        have hfz23_8 := blk_frozen BK227.out 8
        have hfz23_9 := blk_frozen BK227.out 9
        have hfz23_10 := blk_frozen BK227.out 10
        go_upto_region 4 with (first | ((with_reducible refine gate_callee (f := 32) rfl ?_); refine goesL_ (some 24) rfl rfl Try.func32 (by kernel_rfl) rfl #[.agg #[.int .i64 a0_0, .int .i64 a0_1, .bool a0_2, .bool a0_3, .int .i64 a0_4, .int .i64 a0_5, .int .i64 a0_6, .int .u32 a0_7, .int .u32 a0_8, .slice A0_9 l0_9.length c0_9, .slice A0_10 l0_10.length c0_10]] rfl (by (try simp only [List.map_toArray, List.map_cons, List.map_nil]); first | done | rfl | (simp only [List.length_drop, List.length_take]; rfl)) ?_; (with_reducible refine (ip_Build.calls kj3 a0_0 a0_1 a0_2 a0_3 a0_4 a0_5 a0_6 a0_7 a0_8 (fun k_ => k_ < w.heap.size) _ _ l0_9 _ _ l0_10 t230 t233 _ ?side1 ?side2 ?side3 A21.out).mono ?_); (case side1 => exact Kd.V_mk HC0_9.out (Kd.F_below (Kd.C_F (Kd.heap_int .u8) HR0_9.out) (by repeat (first | (with_reducible first | exact HB.out | apply below_alloc | apply pw_below_drewN | apply below_drew1 | refine below_set ?_ GE227.out) | exact HB.out)))); (case side2 => repeat (first | exact (Kd.C_below HR0_10.out HB.out) | (with_reducible refine Kd.C_alloc ?_ _) | (with_reducible refine Kd.C_drewN ?_ _) | (with_reducible refine Kd.C_drew ?_))); (case side3 => exact HC0_10.out); rintro e w24 ⟨v231, rfl, ho0, hb⟩; refine ⟨_, rfl, ?_⟩; have n0_ := Aside0.mk (Kd.R_lower (Kd.R_mono (ok' := fun k_ => True) ho0 (fun _ hk_ => trivial)) (below_size (by repeat (first | (with_reducible first | exact HB.out | apply below_alloc | apply pw_below_drewN | apply below_drew1 | refine below_set ?_ GE227.out) | exact HB.out)))); have n1_ := Aside0.mk (blk_below (g := gb227) (o := .cells #[.int .i64 a0_0, .int .i64 a0_1, .bool a0_2, .bool a0_3, .int .i64 a0_4, .int .i64 a0_5, .int .i64 a0_6, .int .u32 a0_7, .int .u32 a0_8, .slice A0_9 l0_9.length c0_9, .slice A0_10 l0_10.length c0_10] 45 (0, 0)) (by (with_reducible repeat (first | refine blk_drewN ?_ _ | refine blk_drew ?_ | refine blk_alloc ?_ _)); exact BK227.out) hb); have n2_ := Aside0.mk (below_step (by repeat (first | (with_reducible first | exact HB.out | apply below_alloc | apply pw_below_drewN | apply below_drew1 | refine below_set ?_ GE227.out) | exact HB.out)) hb); clear BK227; clear HB; have HO232 := n0_; have BK227 := n1_; have HB := n2_; clear n0_ n1_ n2_; (try clear hb); (try clear hb2); (try clear hk); (try clear hi); (try clear ho0)))
        (try simp only [Act.put, List.setIfInBounds_toArray, List.set_cons_zero, List.set_cons_succ])
        go_cut [33] (fun v33 wc => ∃ (kq : Nat) (x33_21 : Bool), v33 = .bool x33_21 ∧ Aside0 (castellanlaw4_IpTurned.j1 kq a1 a2 t230 x33_21 = some r) ∧ Aside0 (kq ≤ kj3) ∧ Aside0 (Kd.R (Kd.int .u8) 5 wc w.heap.size (fun _ => True) v231 t230) ∧ Aside0 (wc.heap[gb227]? = some (.cells #[.int .i64 a0_0, .int .i64 a0_1, .bool a0_2, .bool a0_3, .int .i64 a0_4, .int .i64 a0_5, .int .i64 a0_6, .int .u32 a0_7, .int .u32 a0_8, (.slice A0_9 l0_9.length c0_9), (.slice A0_10 l0_10.length c0_10)] 45 (0, 0))) ∧ Aside0 (Below w.heap.size w wc))
        case first =>
          have H := HC22.out
          clear HC22
          by_cases c25 : t233 = 0
          · rw [if_pos c25] at H
            have c25b0 : (t233 == 0) = true := beq_iff_eq.mpr c25
            have c25b1 : (t233 != 0) = false := bne_eq_false_iff_eq.mpr c25
            clear c25
            (first | rw [c25b0] | (simp only [i64_w, i32_w]; rw [c25b0]) | skip)
            have H' := Aside0.mk H
            clear H
            obtain ⟨Ao26, co26, eo26⟩ := Kd.R_slice HO232.out
            subst eo26
            go_wp2
            go_meet
            case rel => exact ⟨_, (decide ((t230.length : Int) < 20)), (by first | rfl | (simp; done) | (simp [*]; done)), H', ⟨by have := HJ3.out; first | omega | exact Nat.le_refl _⟩, ⟨by (with_reducible repeat (first | apply Kd.R_alloc | apply Kd.R_drewN | apply Kd.R_drew)); exact HO232.out⟩, ⟨by (with_reducible repeat (first | refine blk_drewN ?_ _ | refine blk_drew ?_ | refine blk_alloc ?_ _)); exact BK227.out⟩, ⟨by repeat (first | (with_reducible first | exact HB.out | apply below_alloc | apply pw_below_drewN | apply below_drew1 | refine below_set ?_ GE227.out) | exact HB.out)⟩⟩
          · rw [if_neg c25] at H
            have c25b0 : (t233 == 0) = false := beq_eq_false_iff_ne.mpr c25
            have c25b1 : (t233 != 0) = true := bne_iff_ne.mpr c25
            (first | rw [c25b0] | (simp only [i64_w, i32_w]; rw [c25b0]) | skip)
            have H' := Aside0.mk H
            clear H
            go_wp2
            go_meet
            case rel => exact ⟨_, (true), (by first | rfl | (simp; done) | (simp [*]; done)), H', ⟨by have := HJ3.out; first | omega | exact Nat.le_refl _⟩, ⟨by (with_reducible repeat (first | apply Kd.R_alloc | apply Kd.R_drewN | apply Kd.R_drew)); exact HO232.out⟩, ⟨by (with_reducible repeat (first | refine blk_drewN ?_ _ | refine blk_drew ?_ | refine blk_alloc ?_ _)); exact BK227.out⟩, ⟨by repeat (first | (with_reducible first | exact HB.out | apply below_alloc | apply pw_below_drewN | apply below_drew1 | refine below_set ?_ GE227.out) | exact HB.out)⟩⟩
        case rest =>
          clear HC22
          try clear c1
          try clear c2
          try clear p2
          try clear c3
          try clear c7
          try clear c9
          try clear c11
          try clear c20
          try clear c25
          try clear c25b0
          try clear c25b1
          try clear hcz12_0
          try clear hcz12_1
          try clear hcz12_10
          try clear hcz12_2
          try clear hcz12_3
          try clear hcz12_4
          try clear hcz12_5
          try clear hcz12_6
          try clear hcz12_7
          try clear hcz12_8
          try clear hcz12_9
          try clear hcz14_0
          try clear hcz14_1
          try clear hcz14_10
          try clear hcz14_2
          try clear hcz14_3
          try clear hcz14_4
          try clear hcz14_5
          try clear hcz14_6
          try clear hcz14_7
          try clear hcz14_8
          try clear hcz14_9
          try clear hcz16_0
          try clear hcz16_1
          try clear hcz16_10
          try clear hcz16_2
          try clear hcz16_3
          try clear hcz16_4
          try clear hcz16_5
          try clear hcz16_6
          try clear hcz16_7
          try clear hcz16_8
          try clear hcz16_9
          try clear hcz18_0
          try clear hcz18_1
          try clear hcz18_10
          try clear hcz18_2
          try clear hcz18_3
          try clear hcz18_4
          try clear hcz18_5
          try clear hcz18_6
          try clear hcz18_7
          try clear hcz18_8
          try clear hcz18_9
          try clear hcz23_0
          try clear hcz23_1
          try clear hcz23_10
          try clear hcz23_2
          try clear hcz23_3
          try clear hcz23_4
          try clear hcz23_5
          try clear hcz23_6
          try clear hcz23_7
          try clear hcz23_8
          try clear hcz23_9
          try clear hcz8_0
          try clear hcz8_1
          try clear hcz8_10
          try clear hcz8_2
          try clear hcz8_3
          try clear hcz8_4
          try clear hcz8_5
          try clear hcz8_6
          try clear hcz8_7
          try clear hcz8_8
          try clear hcz8_9
          try clear hfz12_0
          try clear hfz12_1
          try clear hfz12_10
          try clear hfz12_2
          try clear hfz12_3
          try clear hfz12_4
          try clear hfz12_5
          try clear hfz12_6
          try clear hfz12_7
          try clear hfz12_8
          try clear hfz12_9
          try clear hfz14_0
          try clear hfz14_1
          try clear hfz14_10
          try clear hfz14_2
          try clear hfz14_3
          try clear hfz14_4
          try clear hfz14_5
          try clear hfz14_6
          try clear hfz14_7
          try clear hfz14_8
          try clear hfz14_9
          try clear hfz16_0
          try clear hfz16_1
          try clear hfz16_10
          try clear hfz16_2
          try clear hfz16_3
          try clear hfz16_4
          try clear hfz16_5
          try clear hfz16_6
          try clear hfz16_7
          try clear hfz16_8
          try clear hfz16_9
          try clear hfz18_0
          try clear hfz18_1
          try clear hfz18_10
          try clear hfz18_2
          try clear hfz18_3
          try clear hfz18_4
          try clear hfz18_5
          try clear hfz18_6
          try clear hfz18_7
          try clear hfz18_8
          try clear hfz18_9
          try clear hfz23_0
          try clear hfz23_1
          try clear hfz23_10
          try clear hfz23_2
          try clear hfz23_3
          try clear hfz23_4
          try clear hfz23_5
          try clear hfz23_6
          try clear hfz23_7
          try clear hfz23_8
          try clear hfz23_9
          try clear hfz8_0
          try clear hfz8_1
          try clear hfz8_10
          try clear hfz8_2
          try clear hfz8_3
          try clear hfz8_4
          try clear hfz8_5
          try clear hfz8_6
          try clear hfz8_7
          try clear hfz8_8
          try clear hfz8_9
          try clear p2
          obtain ⟨kq, x33_21, rfl, HA, HJ21, HO_7, BK227, HB⟩ := hcut
          cases kq with
          | zero => exact absurd HA.out (by simp [castellanlaw4_IpTurned.j1])
          | succ kj21 =>
            have H := HA.out
            clear HA
            simp only [castellanlaw4_IpTurned.j1] at H
            by_cases c27 : x33_21 = true
            · subst c27
              have H1 : (some false) = some r := by rw [if_pos rfl] at H; exact H
              clear H
              have H := H1
              clear H1
              exact absurd (H.trans (congrArg some HRT.out)) (by simp)
            · replace c27 := Bool.eq_false_iff.mpr c27
              subst c27
              have H1 : ((castellanref4_Header.f t230).bind fun t234 => (if (wrap64 (t234 - 1)) = 0 then (none) else (if 0 ≤ (wrap64 (1 + (Int.tmod (Go.bits .and .i64 a1 1023) (wrap64 (t234 - 1))))) then (if (wrap64 (1 + (Int.tmod (Go.bits .and .i64 a1 1023) (wrap64 (t234 - 1))))) < (t230.length : Int) then ((ip_Parse.f kj21 (t230.set ((wrap64 (1 + (Int.tmod (Go.bits .and .i64 a1 1023) (wrap64 (t234 - 1))))) : Int).toNat (Go.bits .xor .u8 (rd t230 (wrap64 (1 + (Int.tmod (Go.bits .and .i64 a1 1023) (wrap64 (t234 - 1)))))) a2))).bind fun bt237 => (if bt237.2.2.2.2.2.2.2.2.2.2.2 = 0 then (some false) else ((castellanlaw4_known.f kj21).bind fun t254 => (some t254)))) else (none)) else (none)))) = some r := by rw [if_neg (show ¬ (false = true) by decide)] at H; exact H
              clear H
              have H := H1
              clear H1
              replace H := Option.bind_eq_some_iff.mp H
              obtain ⟨t234, A280, H⟩ := H
              replace H : (if (wrap64 (t234 - 1)) = 0 then (none) else (if 0 ≤ (wrap64 (1 + (Int.tmod (Go.bits .and .i64 a1 1023) (wrap64 (t234 - 1))))) then (if (wrap64 (1 + (Int.tmod (Go.bits .and .i64 a1 1023) (wrap64 (t234 - 1))))) < (t230.length : Int) then ((ip_Parse.f kj21 (t230.set ((wrap64 (1 + (Int.tmod (Go.bits .and .i64 a1 1023) (wrap64 (t234 - 1))))) : Int).toNat (Go.bits .xor .u8 (rd t230 (wrap64 (1 + (Int.tmod (Go.bits .and .i64 a1 1023) (wrap64 (t234 - 1)))))) a2))).bind fun bt237 => (if bt237.2.2.2.2.2.2.2.2.2.2.2 = 0 then (some false) else ((castellanlaw4_known.f kj21).bind fun t254 => (some t254)))) else (none)) else (none))) = some r := H
              have A28 := Aside0.mk A280
              clear A280
              by_cases c29 : (wrap64 (t234 - 1)) = 0
              · rw [if_pos c29] at H
                exact absurd H (by simp)
              · rw [if_neg c29] at H
                have c29b0 : ((wrap64 (t234 - 1)) == 0) = false := beq_eq_false_iff_ne.mpr c29
                have c29b1 : ((wrap64 (t234 - 1)) != 0) = true := bne_iff_ne.mpr c29
                obtain ⟨ji30, hji30⟩ : ∃ j_ : Int, (wrap64 (1 + (Int.tmod (Go.bits .and .i64 a1 1023) (wrap64 (t234 - 1))))) = j_ := ⟨_, rfl⟩
                replace H : (if 0 ≤ (ji30) then (if (ji30) < (t230.length : Int) then ((ip_Parse.f kj21 (t230.set ((ji30) : Int).toNat (Go.bits .xor .u8 (rd t230 (ji30)) a2))).bind fun bt237 => (if bt237.2.2.2.2.2.2.2.2.2.2.2 = 0 then (some false) else ((castellanlaw4_known.f kj21).bind fun t254 => (some t254)))) else (none)) else (none)) = some r := by first | (rw [hji30] at H; exact H) | (simp only [hji30] at H ⊢; exact H)
                (try rw [hji30] at A28)
                have hji30w : (IntKind.i64.wrap (1 + (Int.tmod (Go.bits .and .i64 a1 1023) (wrap64 (t234 - 1))))) = ji30 := (i64_w _).trans hji30
                by_cases c31 : 0 ≤ (ji30)
                · rw [if_pos c31] at H
                  have c31b0 : decide (0 ≤ (ji30)) = true := decide_eq_true c31
                  clear c31
                  by_cases c32 : (ji30) < (t230.length : Int)
                  · rw [if_pos c32] at H
                    have c32b0 : decide ((ji30) < (t230.length : Int)) = true := decide_eq_true c32
                    clear c32
                    obtain ⟨y236, hy236⟩ : ∃ y_ : List Int, y_ = (t230.set ((ji30) : Int).toNat (Go.bits .xor .u8 (rd t230 (ji30)) a2)) := ⟨_, rfl⟩
                    replace H : ((ip_Parse.f kj21 y236).bind fun bt237 => (if bt237.2.2.2.2.2.2.2.2.2.2.2 = 0 then (some false) else ((castellanlaw4_known.f kj21).bind fun t254 => (some t254)))) = some r := by first | (rw [hy236]; with_reducible exact H) | (have H2_ := (Option.bind_some _ _).symm.trans H; rw [hy236]; with_reducible exact H2_) | (have H2_ := (Option.bind_some _ _).symm.trans H; with_reducible exact H2_) | with_reducible exact H | (rw [hy236]; exact H) | exact H
                    have Ny236 := Aside0.mk hy236
                    clear hy236
                    replace H := Option.bind_eq_some_iff.mp H
                    obtain ⟨⟨t237, t238, t239, t240, t241, t242, t243, t244, t245, t246, t249, t252⟩, A340, H⟩ := H
                    replace H : (if t252 = 0 then (some false) else ((castellanlaw4_known.f kj21).bind fun t254 => (some t254))) = some r := H
                    have A34 := Aside0.mk A340
                    clear A340
                    by_cases c35 : t252 = 0
                    · rw [if_pos c35] at H
                      have c35b0 : (t252 == 0) = true := beq_iff_eq.mpr c35
                      have c35b1 : (t252 != 0) = false := bne_eq_false_iff_eq.mpr c35
                      clear c35
                      exact absurd (H.trans (congrArg some HRT.out)) (by simp)
                    · rw [if_neg c35] at H
                      have c35b0 : (t252 == 0) = false := beq_eq_false_iff_ne.mpr c35
                      have c35b1 : (t252 != 0) = true := bne_iff_ne.mpr c35
                      replace H := Option.bind_eq_some_iff.mp H
                      obtain ⟨t254, A360, H⟩ := H
                      replace H : (some t254) = some r := H
                      have A36 := Aside0.mk A360
                      clear A360
                      obtain rfl := Option.some.inj H
                      obtain ⟨Ao37, co37, eo37⟩ := Kd.R_slice HO_7.out
                      subst eo37
                      go_wp2_with (first | ((with_reducible refine gate_callee (f := 28) rfl ?_); refine goesL_ (some 38) rfl rfl Try.func28 (by kernel_rfl) rfl #[.slice Ao37 t230.length co37] rfl (by (try simp only [List.map_toArray, List.map_cons, List.map_nil]); first | done | rfl | (simp only [List.length_drop, List.length_take]; rfl)) ?_; (with_reducible refine (castellanref4_Header.calls _ _ t230 t234 _ ?side1 ?side2 A28.out).mono ?_); (case side1 => repeat (first | exact (Kd.R_reads' HO_7.out).2.2 | (with_reducible refine Kd.C_alloc ?_ _) | (with_reducible refine Kd.C_drewN ?_ _) | (with_reducible refine Kd.C_drew ?_))); (case side2 => exact (Kd.R_reads' HO_7.out).2.1); rintro e w' ⟨rfl, ⟨nd, rfl⟩⟩; refine ⟨_, rfl, ?_⟩; (try (rw [drewN_self wc]; generalize hq_ : World.drewN wc _ = wc; have n0_ : Aside0 (Kd.R (Kd.int .u8) 5 wc w.heap.size (fun _ => True) (.slice Ao37 t230.length co37) t230) := ⟨by rw [← hq_]; exact (by (with_reducible repeat (first | apply Kd.R_alloc | apply Kd.R_drewN | apply Kd.R_drew)); exact HO_7.out)⟩; have n1_ : Aside0 (wc.heap[gb227]? = some (.cells #[.int .i64 a0_0, .int .i64 a0_1, .bool a0_2, .bool a0_3, .int .i64 a0_4, .int .i64 a0_5, .int .i64 a0_6, .int .u32 a0_7, .int .u32 a0_8, .slice A0_9 l0_9.length c0_9, .slice A0_10 l0_10.length c0_10] 45 (0, 0))) := ⟨by rw [← hq_]; exact (by (with_reducible repeat (first | refine blk_drewN ?_ _ | refine blk_drew ?_ | refine blk_alloc ?_ _)); exact BK227.out)⟩; have n2_ : Aside0 (Below w.heap.size w wc) := ⟨by rw [← hq_]; exact (by repeat (first | (with_reducible first | exact HB.out | apply below_alloc | apply pw_below_drewN | apply below_drew1 | refine below_set ?_ GE227.out) | exact HB.out))⟩; clear HO_7 BK227 HB hq_; have HO_7 := n0_; have BK227 := n1_; have HB := n2_; clear n0_ n1_ n2_)); have p235 : 0 ≤ ((ji30) : Int) := of_decide_eq_true (by first | (with_reducible assumption) | assumption); have q235 : (ji30) < (t230.length : Int) := of_decide_eq_true (by first | (with_reducible assumption) | assumption); obtain ⟨ad235, e235, hx235_0⟩ := Kd.at_int (Kd.R_reads' HO_7.out).2.2 (ji30) p235 q235; cases e235; replace p235 := eq_true p235; replace q235 := eq_true q235; have p33 : 0 ≤ ((ji30) : Int) := of_decide_eq_true (by first | (with_reducible assumption) | assumption); have q33 : ((ji30) : Int) < ((t230.length : Int) : Int) := of_decide_eq_true (by first | (with_reducible assumption) | assumption); obtain ⟨go33, co33, eo33, gb33, gl33, cl33, HG33⟩ := Kd.R_form HO_7.out (by omega); (first | cases eo33 | (injection eo33 with ea_ en_ ec_; (first | subst ea_ | (injection ea_ with ea_; subst ea_)); subst ec_; clear en_)); have GB33 := Aside0.mk gb33; have GG33 := Aside0.mk HG33; clear gb33 gl33 HG33; (first | simp only [add_plain] at hx235_0 | skip); obtain ⟨hx33_0, hf33_0⟩ := Kd.R_celln 0 HO_7.out ((ji30) : Int) p33 q33; replace p33 := eq_true p33; replace q33 := eq_true q33; obtain ⟨hy38_, hz38_⟩ := Kd.R_celln 0 HO_7.out ((ji30) : Int) (of_decide_eq_true (by first | (with_reducible assumption) | assumption)) (of_decide_eq_true (by first | (with_reducible assumption) | assumption)); have HP38 := Kd.R_putg HO_7.out ((ji30) : Int) (Go.bits .xor .u8 (rd t230 (ji30)) a2)) | ((with_reducible refine gate_store (t := 5) (p := 46) rfl ?_); refine store_event (t := 5) (p := 46) (v := ?vo_w39) (w1 := (wc.setCell ⟨go33, ((ji30) : Int).toNat, none⟩ (.int .u8 (Go.bits .xor .u8 (rd t230 (ji30)) a2)))) ?hg ?ho ?hn ?hr ?_; (case ho => rfl); (case hg => rfl); (case hn => rfl); (case hr => first | (go_simp; done) | (go_simp; rfl)); intro w39 hw; have hg : wc.grownBy w39 (some go33) := (by rw [hw]; exact HP38.2); have hp_ : Kd.R (Kd.int .u8) 5 w39 w.heap.size (fun _ => True) (.slice (some ⟨go33, 0, none⟩) t230.length co37) y236 := (by rw [hw, Ny236.out]; exact HP38.1); clear HP38; have n0_ := Aside0.mk (hp_); have n1_ := Aside0.mk (blk_grown (g := gb227) (o := .cells #[.int .i64 a0_0, .int .i64 a0_1, .bool a0_2, .bool a0_3, .int .i64 a0_4, .int .i64 a0_5, .int .i64 a0_6, .int .u32 a0_7, .int .u32 a0_8, .slice A0_9 l0_9.length c0_9, .slice A0_10 l0_10.length c0_10] 45 (0, 0)) (by (with_reducible repeat (first | refine blk_drewN ?_ _ | refine blk_drew ?_ | refine blk_alloc ?_ _)); exact BK227.out) hg (Kd.R_ne HO_7.out BK227.out (by decide))); have n2_ := Aside0.mk ((by rw [hw]; exact below_set (HB.out) GB33.out : Below w.heap.size w w39)); clear HO_7; clear BK227; clear HB; have HO_7 := n0_; have BK227 := n1_; have HB := n2_; clear n0_ n1_ n2_; clear hg hw hp_) | ((with_reducible refine gate_callee (f := 24) rfl ?_); refine goesL_ (some 49) rfl rfl Try.func24 (by kernel_rfl) rfl #[.slice (some ⟨go33, 0, none⟩) y236.length co37] rfl (by (try simp only [List.map_toArray, List.map_cons, List.map_nil]); first | done | (rw [show y236.length = t230.length from (Kd.R_reads' HO_7.out).1.symm] <;> rfl) | rfl | (simp only [List.length_drop, List.length_take]; rfl)) ?_; (with_reducible refine (ip_Parse.calls kj21 _ _ y236 t237 t238 t239 t240 t241 t242 t243 t244 t245 t246 t249 t252 _ ?side1 ?side2 A34.out).mono ?_); (case side1 => repeat (first | exact (Kd.R_reads' HO_7.out).2.2 | (with_reducible refine Kd.C_alloc ?_ _) | (with_reducible refine Kd.C_drewN ?_ _) | (with_reducible refine Kd.C_drew ?_))); (case side2 => rw [show y236.length = t230.length from (Kd.R_reads' HO_7.out).1.symm]; exact (Kd.R_reads' HO_7.out).2.1); rintro e w40 ⟨v247, v250, rfl, ho0, ho1, hb⟩; refine ⟨_, rfl, ?_⟩; have n0_ := Aside0.mk (Kd.R_mono (Kd.R_told (Kd.R_told (Kd.R_old (by (with_reducible repeat (first | apply Kd.R_alloc | apply Kd.R_drewN | apply Kd.R_drew)); exact HO_7.out) hb) (Kd.R_base ho0)) (Kd.R_base ho1)) (fun _ h_ => h_.1)); have n1_ := Aside0.mk (Kd.R_lower (Kd.R_new' ho0 (Kd.R_lt (by (with_reducible repeat (first | apply Kd.R_alloc | apply Kd.R_drewN | apply Kd.R_drew)); exact HO_7.out))) (below_size (by repeat (first | (with_reducible first | exact HB.out | apply below_alloc | apply pw_below_drewN | apply below_drew1 | refine below_set ?_ GE227.out) | exact HB.out)))); have n2_ := Aside0.mk (Kd.R_lower (Kd.R_new' ho1 (Kd.R_lt (by (with_reducible repeat (first | apply Kd.R_alloc | apply Kd.R_drewN | apply Kd.R_drew)); exact HO_7.out))) (below_size (by repeat (first | (with_reducible first | exact HB.out | apply below_alloc | apply pw_below_drewN | apply below_drew1 | refine below_set ?_ GE227.out) | exact HB.out)))); have n3_ := Aside0.mk (blk_below (g := gb227) (o := .cells #[.int .i64 a0_0, .int .i64 a0_1, .bool a0_2, .bool a0_3, .int .i64 a0_4, .int .i64 a0_5, .int .i64 a0_6, .int .u32 a0_7, .int .u32 a0_8, .slice A0_9 l0_9.length c0_9, .slice A0_10 l0_10.length c0_10] 45 (0, 0)) (by (with_reducible repeat (first | refine blk_drewN ?_ _ | refine blk_drew ?_ | refine blk_alloc ?_ _)); exact BK227.out) hb); have n4_ := Aside0.mk (below_step (by repeat (first | (with_reducible first | exact HB.out | apply below_alloc | apply pw_below_drewN | apply below_drew1 | refine below_set ?_ GE227.out) | exact HB.out)) hb); clear HO_7; clear BK227; clear HB; have HO_7 := n0_; have HO248 := n1_; have HO251 := n2_; have BK227 := n3_; have HB := n4_; clear n0_ n1_ n2_ n3_ n4_; (try clear hb); (try clear hb2); (try clear hk); (try clear hi); (try clear ho0); (try clear ho1)) | ((with_reducible refine gate_dst (N := 9) rfl ?_); (try (refine gate_guard (by rfl) ?_; dsimp only)); refine box_event ?hg (N := 9) ?hd (cs := #[.int .i64 0, .int .i64 0, .bool false, .bool false, .int .i64 0, .int .i64 0, .int .i64 0, .int .u32 0, .int .u32 0, .slice none 0 0, .slice none 0 0]) (t := 45) ?hr ?_; (case hd => rfl); (case hg => rfl); (case hr => first | (go_simp; done) | (go_simp; rfl)); intro gb253 hg w41 hbox hb; have n0_ := Aside0.mk (Kd.R_below (by (with_reducible repeat (first | apply Kd.R_alloc | apply Kd.R_drewN | apply Kd.R_drew)); exact HO_7.out) hb); have n1_ := Aside0.mk (Kd.R_below (by (with_reducible repeat (first | apply Kd.R_alloc | apply Kd.R_drewN | apply Kd.R_drew)); exact HO248.out) hb); have n2_ := Aside0.mk (Kd.R_below (by (with_reducible repeat (first | apply Kd.R_alloc | apply Kd.R_drewN | apply Kd.R_drew)); exact HO251.out) hb); have n3_ := Aside0.mk (blk_below (g := gb227) (o := .cells #[.int .i64 a0_0, .int .i64 a0_1, .bool a0_2, .bool a0_3, .int .i64 a0_4, .int .i64 a0_5, .int .i64 a0_6, .int .u32 a0_7, .int .u32 a0_8, .slice A0_9 l0_9.length c0_9, .slice A0_10 l0_10.length c0_10] 45 (0, 0)) (by (with_reducible repeat (first | refine blk_drewN ?_ _ | refine blk_drew ?_ | refine blk_alloc ?_ _)); exact BK227.out) hb); have n4_ := Aside0.mk (below_step (by repeat (first | (with_reducible first | exact HB.out | apply below_alloc | apply pw_below_drewN | apply below_drew1 | refine below_set ?_ GE227.out) | exact HB.out)) hb); have n5_ := Aside0.mk (hbox); have n6_ := Aside0.mk ((by rw [hg]; exact (below_size (by repeat (first | (with_reducible first | exact HB.out | apply below_alloc | apply pw_below_drewN | apply below_drew1 | refine below_set ?_ GE227.out) | exact HB.out))) : w.heap.size ≤ gb253)); have n7_ := Aside0.mk ((by rw [hg]; exact (below_size (by repeat (first | (with_reducible first | exact HB.out | apply below_alloc | apply pw_below_drewN | apply below_drew1 | refine below_set ?_ GE227.out) | exact HB.out))) : w.heap.size ≤ gb253)); have n8_ := Aside0.mk ((by rw [hg]; exact Nat.ne_of_lt (blk_lt (g := gb227) (o := .cells #[.int .i64 a0_0, .int .i64 a0_1, .bool a0_2, .bool a0_3, .int .i64 a0_4, .int .i64 a0_5, .int .i64 a0_6, .int .u32 a0_7, .int .u32 a0_8, .slice A0_9 l0_9.length c0_9, .slice A0_10 l0_10.length c0_10] 45 (0, 0)) (by (with_reducible repeat (first | refine blk_drewN ?_ _ | refine blk_drew ?_ | refine blk_alloc ?_ _)); exact BK227.out)) : gb227 ≠ gb253)); have n9_ := Aside0.mk ((by rw [hg]; exact Nat.ne_of_gt (blk_lt (g := gb227) (o := .cells #[.int .i64 a0_0, .int .i64 a0_1, .bool a0_2, .bool a0_3, .int .i64 a0_4, .int .i64 a0_5, .int .i64 a0_6, .int .u32 a0_7, .int .u32 a0_8, .slice A0_9 l0_9.length c0_9, .slice A0_10 l0_10.length c0_10] 45 (0, 0)) (by (with_reducible repeat (first | refine blk_drewN ?_ _ | refine blk_drew ?_ | refine blk_alloc ?_ _)); exact BK227.out)) : gb253 ≠ gb227)); clear HO_7; clear HO248; clear HO251; clear BK227; clear HB; have HO_7 := n0_; have HO248 := n1_; have HO251 := n2_; have BK227 := n3_; have HB := n4_; have BK253 := n5_; have GW253 := n6_; have GE253 := n7_; have NB227_253 := n8_; have NB253_227 := n9_; clear n0_ n1_ n2_ n3_ n4_ n5_ n6_ n7_ n8_ n9_; clear hb hbox hg; have hnb42 := NB253_227.out; have hnc42 := NB227_253.out; have hcz43_0 : w41.cell? ⟨gb253, 0, none⟩ = some (.int .i64 0) := (blk_cell BK253.out 0).trans rfl; have hcz43_1 : w41.cell? ⟨gb253, 1, none⟩ = some (.int .i64 0) := (blk_cell BK253.out 1).trans rfl; have hcz43_2 : w41.cell? ⟨gb253, 2, none⟩ = some (.bool false) := (blk_cell BK253.out 2).trans rfl; have hcz43_3 : w41.cell? ⟨gb253, 3, none⟩ = some (.bool false) := (blk_cell BK253.out 3).trans rfl; have hcz43_4 : w41.cell? ⟨gb253, 4, none⟩ = some (.int .i64 0) := (blk_cell BK253.out 4).trans rfl; have hcz43_5 : w41.cell? ⟨gb253, 5, none⟩ = some (.int .i64 0) := (blk_cell BK253.out 5).trans rfl; have hcz43_6 : w41.cell? ⟨gb253, 6, none⟩ = some (.int .i64 0) := (blk_cell BK253.out 6).trans rfl; have hcz43_7 : w41.cell? ⟨gb253, 7, none⟩ = some (.int .u32 0) := (blk_cell BK253.out 7).trans rfl; have hcz43_8 : w41.cell? ⟨gb253, 8, none⟩ = some (.int .u32 0) := (blk_cell BK253.out 8).trans rfl; have hcz43_9 : w41.cell? ⟨gb253, 9, none⟩ = some (.slice none 0 0) := (blk_cell BK253.out 9).trans rfl; have hcz43_10 : w41.cell? ⟨gb253, 10, none⟩ = some (.slice none 0 0) := (blk_cell BK253.out 10).trans rfl; have hfz43_0 := blk_frozen BK253.out 0; have hfz43_1 := blk_frozen BK253.out 1; have hfz43_2 := blk_frozen BK253.out 2; have hfz43_3 := blk_frozen BK253.out 3; have hfz43_4 := blk_frozen BK253.out 4; have hfz43_5 := blk_frozen BK253.out 5; have hfz43_6 := blk_frozen BK253.out 6; have hfz43_7 := blk_frozen BK253.out 7; have hfz43_8 := blk_frozen BK253.out 8; have hfz43_9 := blk_frozen BK253.out 9; have hfz43_10 := blk_frozen BK253.out 10; obtain ⟨Ao44, co44, eo44⟩ := Kd.R_slice HO248.out; subst eo44; obtain ⟨Ao45, co45, eo45⟩ := Kd.R_slice HO251.out; subst eo45) | (go_at_call 29; (with_reducible refine (castellanlaw4_known.calls kj21  t254 _ A36.out).mono ?_); rintro e w46 ⟨rfl, hb⟩; have n0_ := Aside0.mk (Kd.R_below (by (with_reducible repeat (first | apply Kd.R_alloc | apply Kd.R_drewN | apply Kd.R_drew)); exact (Kd.R_mono (Kd.R_far (p := ⟨gb253, 10, none⟩) (Kd.R_far (p := ⟨gb253, 9, none⟩) (Kd.R_far (p := ⟨gb253, 8, none⟩) (Kd.R_far (p := ⟨gb253, 7, none⟩) (Kd.R_far (p := ⟨gb253, 6, none⟩) (Kd.R_far (p := ⟨gb253, 5, none⟩) (Kd.R_far (p := ⟨gb253, 4, none⟩) (Kd.R_far (p := ⟨gb253, 3, none⟩) (Kd.R_far (p := ⟨gb253, 2, none⟩) (Kd.R_far (p := ⟨gb253, 1, none⟩) (Kd.R_far (p := ⟨gb253, 0, none⟩) (Kd.R_types HO_7.out BK253.out (by decide)) (fun _ hk => hk.2) (.int .i64 t237)) (fun _ hk => hk.2) (.int .i64 t238)) (fun _ hk => hk.2) (.bool t239)) (fun _ hk => hk.2) (.bool t240)) (fun _ hk => hk.2) (.int .i64 t241)) (fun _ hk => hk.2) (.int .i64 t242)) (fun _ hk => hk.2) (.int .i64 t243)) (fun _ hk => hk.2) (.int .u32 t244)) (fun _ hk => hk.2) (.int .u32 t245)) (fun _ hk => hk.2) (.slice Ao44 t246.length co44)) (fun _ hk => hk.2) (.slice Ao45 t249.length co45)) (fun _ h_ => h_.1))) hb); have n1_ := Aside0.mk (Kd.R_below (by (with_reducible repeat (first | apply Kd.R_alloc | apply Kd.R_drewN | apply Kd.R_drew)); exact (Kd.R_mono (Kd.R_far (p := ⟨gb253, 10, none⟩) (Kd.R_far (p := ⟨gb253, 9, none⟩) (Kd.R_far (p := ⟨gb253, 8, none⟩) (Kd.R_far (p := ⟨gb253, 7, none⟩) (Kd.R_far (p := ⟨gb253, 6, none⟩) (Kd.R_far (p := ⟨gb253, 5, none⟩) (Kd.R_far (p := ⟨gb253, 4, none⟩) (Kd.R_far (p := ⟨gb253, 3, none⟩) (Kd.R_far (p := ⟨gb253, 2, none⟩) (Kd.R_far (p := ⟨gb253, 1, none⟩) (Kd.R_far (p := ⟨gb253, 0, none⟩) (Kd.R_types HO248.out BK253.out (by decide)) (fun _ hk => hk.2) (.int .i64 t237)) (fun _ hk => hk.2) (.int .i64 t238)) (fun _ hk => hk.2) (.bool t239)) (fun _ hk => hk.2) (.bool t240)) (fun _ hk => hk.2) (.int .i64 t241)) (fun _ hk => hk.2) (.int .i64 t242)) (fun _ hk => hk.2) (.int .i64 t243)) (fun _ hk => hk.2) (.int .u32 t244)) (fun _ hk => hk.2) (.int .u32 t245)) (fun _ hk => hk.2) (.slice Ao44 t246.length co44)) (fun _ hk => hk.2) (.slice Ao45 t249.length co45)) (fun _ h_ => h_.1))) hb); have n2_ := Aside0.mk (Kd.R_below (by (with_reducible repeat (first | apply Kd.R_alloc | apply Kd.R_drewN | apply Kd.R_drew)); exact (Kd.R_mono (Kd.R_far (p := ⟨gb253, 10, none⟩) (Kd.R_far (p := ⟨gb253, 9, none⟩) (Kd.R_far (p := ⟨gb253, 8, none⟩) (Kd.R_far (p := ⟨gb253, 7, none⟩) (Kd.R_far (p := ⟨gb253, 6, none⟩) (Kd.R_far (p := ⟨gb253, 5, none⟩) (Kd.R_far (p := ⟨gb253, 4, none⟩) (Kd.R_far (p := ⟨gb253, 3, none⟩) (Kd.R_far (p := ⟨gb253, 2, none⟩) (Kd.R_far (p := ⟨gb253, 1, none⟩) (Kd.R_far (p := ⟨gb253, 0, none⟩) (Kd.R_types HO251.out BK253.out (by decide)) (fun _ hk => hk.2) (.int .i64 t237)) (fun _ hk => hk.2) (.int .i64 t238)) (fun _ hk => hk.2) (.bool t239)) (fun _ hk => hk.2) (.bool t240)) (fun _ hk => hk.2) (.int .i64 t241)) (fun _ hk => hk.2) (.int .i64 t242)) (fun _ hk => hk.2) (.int .i64 t243)) (fun _ hk => hk.2) (.int .u32 t244)) (fun _ hk => hk.2) (.int .u32 t245)) (fun _ hk => hk.2) (.slice Ao44 t246.length co44)) (fun _ hk => hk.2) (.slice Ao45 t249.length co45)) (fun _ h_ => h_.1))) hb); have n3_ := Aside0.mk (blk_below (g := gb227) (o := .cells #[.int .i64 a0_0, .int .i64 a0_1, .bool a0_2, .bool a0_3, .int .i64 a0_4, .int .i64 a0_5, .int .i64 a0_6, .int .u32 a0_7, .int .u32 a0_8, .slice A0_9 l0_9.length c0_9, .slice A0_10 l0_10.length c0_10] 45 (0, 0)) (by (with_reducible repeat (first | refine blk_drewN ?_ _ | refine blk_drew ?_ | refine blk_alloc ?_ _)); refine blk_far ?_ NB227_253.out _; (with_reducible repeat (first | refine blk_drewN ?_ _ | refine blk_drew ?_ | refine blk_alloc ?_ _)); refine blk_far ?_ NB227_253.out _; (with_reducible repeat (first | refine blk_drewN ?_ _ | refine blk_drew ?_ | refine blk_alloc ?_ _)); refine blk_far ?_ NB227_253.out _; (with_reducible repeat (first | refine blk_drewN ?_ _ | refine blk_drew ?_ | refine blk_alloc ?_ _)); refine blk_far ?_ NB227_253.out _; (with_reducible repeat (first | refine blk_drewN ?_ _ | refine blk_drew ?_ | refine blk_alloc ?_ _)); refine blk_far ?_ NB227_253.out _; (with_reducible repeat (first | refine blk_drewN ?_ _ | refine blk_drew ?_ | refine blk_alloc ?_ _)); refine blk_far ?_ NB227_253.out _; (with_reducible repeat (first | refine blk_drewN ?_ _ | refine blk_drew ?_ | refine blk_alloc ?_ _)); refine blk_far ?_ NB227_253.out _; (with_reducible repeat (first | refine blk_drewN ?_ _ | refine blk_drew ?_ | refine blk_alloc ?_ _)); refine blk_far ?_ NB227_253.out _; (with_reducible repeat (first | refine blk_drewN ?_ _ | refine blk_drew ?_ | refine blk_alloc ?_ _)); refine blk_far ?_ NB227_253.out _; (with_reducible repeat (first | refine blk_drewN ?_ _ | refine blk_drew ?_ | refine blk_alloc ?_ _)); refine blk_far ?_ NB227_253.out _; (with_reducible repeat (first | refine blk_drewN ?_ _ | refine blk_drew ?_ | refine blk_alloc ?_ _)); refine blk_far ?_ NB227_253.out _; (with_reducible repeat (first | refine blk_drewN ?_ _ | refine blk_drew ?_ | refine blk_alloc ?_ _)); exact BK227.out) hb); have n4_ := Aside0.mk (blk_below (g := gb253) (o := .cells #[.int .i64 t237, .int .i64 t238, .bool t239, .bool t240, .int .i64 t241, .int .i64 t242, .int .i64 t243, .int .u32 t244, .int .u32 t245, .slice Ao44 t246.length co44, .slice Ao45 t249.length co45] 45 (0, 0)) (by (with_reducible repeat (first | refine blk_drewN ?_ _ | refine blk_drew ?_ | refine blk_alloc ?_ _)); refine blk_put (cs := #[.int .i64 t237, .int .i64 t238, .bool t239, .bool t240, .int .i64 t241, .int .i64 t242, .int .i64 t243, .int .u32 t244, .int .u32 t245, .slice Ao44 t246.length co44, .slice none 0 0]) ?_ 10 _ rfl; (with_reducible repeat (first | refine blk_drewN ?_ _ | refine blk_drew ?_ | refine blk_alloc ?_ _)); refine blk_put (cs := #[.int .i64 t237, .int .i64 t238, .bool t239, .bool t240, .int .i64 t241, .int .i64 t242, .int .i64 t243, .int .u32 t244, .int .u32 t245, .slice none 0 0, .slice none 0 0]) ?_ 9 _ rfl; (with_reducible repeat (first | refine blk_drewN ?_ _ | refine blk_drew ?_ | refine blk_alloc ?_ _)); refine blk_put (cs := #[.int .i64 t237, .int .i64 t238, .bool t239, .bool t240, .int .i64 t241, .int .i64 t242, .int .i64 t243, .int .u32 t244, .int .u32 0, .slice none 0 0, .slice none 0 0]) ?_ 8 _ rfl; (with_reducible repeat (first | refine blk_drewN ?_ _ | refine blk_drew ?_ | refine blk_alloc ?_ _)); refine blk_put (cs := #[.int .i64 t237, .int .i64 t238, .bool t239, .bool t240, .int .i64 t241, .int .i64 t242, .int .i64 t243, .int .u32 0, .int .u32 0, .slice none 0 0, .slice none 0 0]) ?_ 7 _ rfl; (with_reducible repeat (first | refine blk_drewN ?_ _ | refine blk_drew ?_ | refine blk_alloc ?_ _)); refine blk_put (cs := #[.int .i64 t237, .int .i64 t238, .bool t239, .bool t240, .int .i64 t241, .int .i64 t242, .int .i64 0, .int .u32 0, .int .u32 0, .slice none 0 0, .slice none 0 0]) ?_ 6 _ rfl; (with_reducible repeat (first | refine blk_drewN ?_ _ | refine blk_drew ?_ | refine blk_alloc ?_ _)); refine blk_put (cs := #[.int .i64 t237, .int .i64 t238, .bool t239, .bool t240, .int .i64 t241, .int .i64 0, .int .i64 0, .int .u32 0, .int .u32 0, .slice none 0 0, .slice none 0 0]) ?_ 5 _ rfl; (with_reducible repeat (first | refine blk_drewN ?_ _ | refine blk_drew ?_ | refine blk_alloc ?_ _)); refine blk_put (cs := #[.int .i64 t237, .int .i64 t238, .bool t239, .bool t240, .int .i64 0, .int .i64 0, .int .i64 0, .int .u32 0, .int .u32 0, .slice none 0 0, .slice none 0 0]) ?_ 4 _ rfl; (with_reducible repeat (first | refine blk_drewN ?_ _ | refine blk_drew ?_ | refine blk_alloc ?_ _)); refine blk_put (cs := #[.int .i64 t237, .int .i64 t238, .bool t239, .bool false, .int .i64 0, .int .i64 0, .int .i64 0, .int .u32 0, .int .u32 0, .slice none 0 0, .slice none 0 0]) ?_ 3 _ rfl; (with_reducible repeat (first | refine blk_drewN ?_ _ | refine blk_drew ?_ | refine blk_alloc ?_ _)); refine blk_put (cs := #[.int .i64 t237, .int .i64 t238, .bool false, .bool false, .int .i64 0, .int .i64 0, .int .i64 0, .int .u32 0, .int .u32 0, .slice none 0 0, .slice none 0 0]) ?_ 2 _ rfl; (with_reducible repeat (first | refine blk_drewN ?_ _ | refine blk_drew ?_ | refine blk_alloc ?_ _)); refine blk_put (cs := #[.int .i64 t237, .int .i64 0, .bool false, .bool false, .int .i64 0, .int .i64 0, .int .i64 0, .int .u32 0, .int .u32 0, .slice none 0 0, .slice none 0 0]) ?_ 1 _ rfl; (with_reducible repeat (first | refine blk_drewN ?_ _ | refine blk_drew ?_ | refine blk_alloc ?_ _)); refine blk_put (cs := #[.int .i64 0, .int .i64 0, .bool false, .bool false, .int .i64 0, .int .i64 0, .int .i64 0, .int .u32 0, .int .u32 0, .slice none 0 0, .slice none 0 0]) ?_ 0 _ rfl; (with_reducible repeat (first | refine blk_drewN ?_ _ | refine blk_drew ?_ | refine blk_alloc ?_ _)); exact BK253.out) hb); have n5_ := Aside0.mk (below_step (by repeat (first | (with_reducible first | exact HB.out | apply below_alloc | apply pw_below_drewN | apply below_drew1 | refine below_set ?_ GE227.out | refine below_set ?_ GE253.out) | exact HB.out)) hb); clear HO_7; clear HO248; clear HO251; clear BK227; clear BK253; clear HB; have HO_7 := n0_; have HO248 := n1_; have HO251 := n2_; have BK227 := n3_; have BK253 := n4_; have HB := n5_; clear n0_ n1_ n2_ n3_ n4_ n5_; (try clear hb); (try clear hb2); (try clear hk); (try clear hi)))
                      go_ret
                      exact ⟨by first | rfl | (simp [errW_none, errW_some] <;> rfl) | (simp only [← hji30]; first | rfl | (simp [errW_none, errW_some] <;> rfl)) | (simp [*, errW_none, errW_some] <;> rfl), by repeat (first | (with_reducible first | exact HB.out | apply below_alloc | apply pw_below_drewN | apply below_drew1 | refine below_set ?_ GE227.out | refine below_set ?_ GE253.out) | exact HB.out)⟩
                  · rw [if_neg c32] at H
                    exact absurd H (by simp)
                · rw [if_neg c31] at H
                  exact absurd H (by simp)

/-- THE ONE PURE STATEMENT of castellanlaw4_IpTurned: yours. -/
def castellanlaw4_IpTurned.Pure : Prop := ∀ (a0_0 : Int) (a0_1 : Int) (a0_2 : Bool) (a0_3 : Bool) (a0_4 : Int) (a0_5 : Int) (a0_6 : Int) (a0_7 : Int) (a0_8 : Int) (l0_9 : List Int) (l0_10 : List Int) (a1 : Int) (a2 : Int), (Lit.int .i64 a0_0).wf = true → (Lit.int .i64 a0_1).wf = true → (Lit.int .i64 a0_4).wf = true → (Lit.int .i64 a0_5).wf = true → (Lit.int .i64 a0_6).wf = true → (Lit.int .u32 a0_7).wf = true → (Lit.int .u32 a0_8).wf = true → l0_9.length ≤ maxLen → l0_9.length * 1 ≤ 140737488351232 → (∀ x ∈ l0_9, (Lit.int .u8 x).wf = true) → l0_10.length ≤ maxLen → l0_10.length * 1 ≤ 140737488351232 → (∀ x ∈ l0_10, (Lit.int .u8 x).wf = true) → (Lit.int .i64 a1).wf = true → (Lit.int .u8 a2).wf = true → ∃ k, castellanlaw4_IpTurned.f k a0_0 a0_1 a0_2 a0_3 a0_4 a0_5 a0_6 a0_7 a0_8 l0_9 l0_10 a1 a2 = some true
theorem castellanlaw4_IpTurned.walk (P : castellanlaw4_IpTurned.Pure) (a0_0 : Int) (a0_1 : Int) (a0_2 : Bool) (a0_3 : Bool) (a0_4 : Int) (a0_5 : Int) (a0_6 : Int) (a0_7 : Int) (a0_8 : Int) (a0_9 : Option Addr) (len0_9 cap0_9 : Nat) (z0_9 : List Int) (a0_10 : Option Addr) (len0_10 cap0_10 : Nat) (z0_10 : List Int) (a1 : Int) (a2 : Int) (w : World) (w0_0 : (Lit.int .i64 a0_0).wf = true) (w0_1 : (Lit.int .i64 a0_1).wf = true) (w0_4 : (Lit.int .i64 a0_4).wf = true) (w0_5 : (Lit.int .i64 a0_5).wf = true) (w0_6 : (Lit.int .i64 a0_6).wf = true) (w0_7 : (Lit.int .u32 a0_7).wf = true) (w0_8 : (Lit.int .u32 a0_8).wf = true) (w0_9 : (a0_9 = none ∧ len0_9 = 0 ∧ cap0_9 = 0 ∧ z0_9 = []) ∨ ∃ x, a0_9 = some x ∧ len0_9 ≤ cap0_9 ∧ cap0_9 ≤ maxLen ∧ z0_9.length = cap0_9 ∧ (∀ i, i < z0_9.length → w.cell? (x.add i) = some (.int .u8 (z0_9.getD i 0))) ∧ ∀ n ∈ z0_9, (Lit.int .u8 n).wf = true) (y0_9 : len0_9 * 1 ≤ 140737488351232) (w0_10 : (a0_10 = none ∧ len0_10 = 0 ∧ cap0_10 = 0 ∧ z0_10 = []) ∨ ∃ x, a0_10 = some x ∧ len0_10 ≤ cap0_10 ∧ cap0_10 ≤ maxLen ∧ z0_10.length = cap0_10 ∧ (∀ i, i < z0_10.length → w.cell? (x.add i) = some (.int .u8 (z0_10.getD i 0))) ∧ ∀ n ∈ z0_10, (Lit.int .u8 n).wf = true) (y0_10 : len0_10 * 1 ≤ 140737488351232) (w1 : (Lit.int .i64 a1).wf = true) (w2 : (Lit.int .u8 a2).wf = true) :
    Calls Try.prog 9 #[.agg #[.int .i64 a0_0, .int .i64 a0_1, .bool a0_2, .bool a0_3, .int .i64 a0_4, .int .i64 a0_5, .int .i64 a0_6, .int .u32 a0_7, .int .u32 a0_8, .slice a0_9 len0_9 cap0_9, .slice a0_10 len0_10 cap0_10], .int .i64 a1, .int .u8 a2] w fun e w' => e = .returned (.bool true) ∧ Below w.heap.size w w' := by
  obtain ⟨l0_9, rfl, hr0_9, hm0_9, hw0_9, hc0_9⟩ := ReadsInt.ofRowC w0_9
  obtain ⟨l0_10, rfl, hr0_10, hm0_10, hw0_10, hc0_10⟩ := ReadsInt.ofRowC w0_10
  obtain ⟨k, h⟩ := P a0_0 a0_1 a0_2 a0_3 a0_4 a0_5 a0_6 a0_7 a0_8 l0_9 l0_10 a1 a2 w0_0 w0_1 w0_4 w0_5 w0_6 w0_7 w0_8 hm0_9 y0_9 hw0_9 hm0_10 y0_10 hw0_10 w1 w2
  refine (castellanlaw4_IpTurned.calls k a0_0 a0_1 a0_2 a0_3 a0_4 a0_5 a0_6 a0_7 a0_8 _ _ l0_9 _ _ l0_10 a1 a2 true w (Kd.C_of_reads (d := (0 : Int)) (h1 := fun _ => rfl) hr0_9) hc0_9 (Kd.C_of_reads (d := (0 : Int)) (h1 := fun _ => rfl) hr0_10) hc0_10 rfl h).mono ?_
  rintro e w' ⟨rfl, hd⟩
  exact ⟨rfl, hd⟩

end Go.Proofs.Ytbpnienknijogaa.QIpTurned
