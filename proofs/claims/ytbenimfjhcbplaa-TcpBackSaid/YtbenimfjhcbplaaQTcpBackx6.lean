-- written by myprint.py, a program of this session's over the kit's printer
import Derived.Test.YtbenimfjhcbplaaQTcpBackx0
import Derived.Test.YtbenimfjhcbplaaQTcpBackx1
import Derived.Test.YtbenimfjhcbplaaQTcpBackx2
import Derived.Test.YtbenimfjhcbplaaQTcpBackx4
import Derived.Test.YtbenimfjhcbplaaQTcpBackx5
namespace Go.Proofs.Ytbenimfjhcbplaa.QTcpBack
open Go.RowKit Go.Proofs.YtbenimfjhcbplaaW.PrintWords Go.Proofs.YtbenimfjhcbplaaW.PrintLast Go.Proofs.YtbenimfjhcbplaaW.PrintMore
attribute [local go_sem] max2_int min2_int max_two min_two max_three min_three max_four min_four   -- for this text's walks alone
set_option linter.unusedVariables false
set_option linter.unusedSimpArgs false

/-! ### castellanlaw5_TcpBack: function 12 -/
def castellanlaw5_TcpBack.j0 : Nat → Int → Int → Bool → Int → Int → Int → Int → Int → Int → Int → List Int → List Int → Option (Bool)
  | 0, _, _, _, _, _, _, _, _, _, _, _, _ => none
  | k + 1, x0, x1, x17, x276000, x276001, x276002, x276003, x276004, x276005, x276006, x276007, x276008 => if x17 = true then (some true) else ((tcp_Build.f k x0 x1 x276000 x276001 x276002 x276003 x276004 x276005 x276006 x276007 x276008).bind fun bt278 => ((tcp_Parse.f k bt278.1).bind fun bt282 => (if bt278.2 = 0 then (if bt282.2.2.2.2.2.2.2.2.2 = 0 then ((castellanref5_Same.f x276000 x276001 x276002 x276003 x276004 x276005 x276006 x276007 x276008 bt282.1 bt282.2.1 bt282.2.2.1 bt282.2.2.2.1 bt282.2.2.2.2.1 bt282.2.2.2.2.2.1 bt282.2.2.2.2.2.2.1 bt282.2.2.2.2.2.2.2.1 bt282.2.2.2.2.2.2.2.2.1).bind fun t297 => (if t297 = true then ((castellanref2_Pseudo.f x0 x1 6 (bt278.1.length : Int)).bind fun t298 => (if t298.length + bt278.1.length < 140737488355328 then ((castellanref2_Right.f k (t298 ++ bt278.1)).bind fun t304 => (if t304 = true then ((castellanlaw5_known.f k).bind fun t305 => (some t305)) else (some false))) else (none))) else (some false))) else (some false)) else (some false))))
def castellanlaw5_TcpBack.f (k : Nat) (a0 : Int) (a1 : Int) (a2_0 : Int) (a2_1 : Int) (a2_2 : Int) (a2_3 : Int) (a2_4 : Int) (a2_5 : Int) (a2_6 : Int) (l2_7 : List Int) (l2_8 : List Int) : Option (Bool) := (castellanlaw5_long.f a2_0 a2_1 a2_2 a2_3 a2_4 a2_5 a2_6 l2_7 l2_8).bind fun t276 => (if t276 = true then (castellanlaw5_TcpBack.j0 k a0 a1 true a2_0 a2_1 a2_2 a2_3 a2_4 a2_5 a2_6 l2_7 l2_8) else ((castellanref5_Is.f a2_0 a2_1 a2_2 a2_3 a2_4 a2_5 a2_6 l2_7 l2_8).bind fun t277 => (castellanlaw5_TcpBack.j0 k a0 a1 (!t277) a2_0 a2_1 a2_2 a2_3 a2_4 a2_5 a2_6 l2_7 l2_8)))
theorem castellanlaw5_TcpBack.mono_l : ∀ k, (∀ y0 y1 y2 y3 y4 y5 y6 y7 y8 y9 y10 y11, LeO (castellanlaw5_TcpBack.j0 k y0 y1 y2 y3 y4 y5 y6 y7 y8 y9 y10 y11) (castellanlaw5_TcpBack.j0 (k + 1) y0 y1 y2 y3 y4 y5 y6 y7 y8 y9 y10 y11))
  | 0 => fun _ _ _ _ _ _ _ _ _ _ _ _ r h => by simp [castellanlaw5_TcpBack.j0] at h
  | k + 1 => by
    have ih0 := castellanlaw5_TcpBack.mono_l k
    · intro y0 y1 y2 y3 y4 y5 y6 y7 y8 y9 y10 y11
      unfold castellanlaw5_TcpBack.j0
      repeat' first
      | (with_reducible exact ih0 _ _ _ _ _ _ _ _ _ _ _ _)
      | (with_reducible exact castellanlaw5_known.mono _)
      | (with_reducible exact castellanref2_Right.mono _ _)
      | (with_reducible exact tcp_Build.mono _ _ _ _ _ _ _ _ _ _ _ _)
      | (with_reducible exact tcp_Parse.mono _ _)
      | (with_reducible exact LeO.refl _)
      | (with_reducible exact LeO.none _)
      | (with_reducible refine LeO.ite ?_ ?_)
      | (with_reducible refine LeO.bind ?_ (fun _ => ?_))
      | exact ih0 _ _ _ _ _ _ _ _ _ _ _ _
      | exact castellanlaw5_known.mono _
      | exact castellanref2_Right.mono _ _
      | exact tcp_Build.mono _ _ _ _ _ _ _ _ _ _ _ _
      | exact tcp_Parse.mono _ _
      | exact LeO.none _
      | refine LeO.ite ?_ ?_
      | refine LeO.bind ?_ (fun _ => ?_)
theorem castellanlaw5_TcpBack.mono : ∀ a0 a1 a2 a3 a4 a5 a6 a7 a8 a9 a10 k, LeO (castellanlaw5_TcpBack.f k a0 a1 a2 a3 a4 a5 a6 a7 a8 a9 a10) (castellanlaw5_TcpBack.f (k + 1) a0 a1 a2 a3 a4 a5 a6 a7 a8 a9 a10) := by
  intro a0 a1 a2 a3 a4 a5 a6 a7 a8 a9 a10 k
  have ih0 := castellanlaw5_TcpBack.mono_l k
  unfold castellanlaw5_TcpBack.f
  repeat' first
      | (with_reducible exact ih0 _ _ _ _ _ _ _ _ _ _ _ _)
      | (with_reducible exact castellanlaw5_known.mono _)
      | (with_reducible exact castellanref2_Right.mono _ _)
      | (with_reducible exact tcp_Build.mono _ _ _ _ _ _ _ _ _ _ _ _)
      | (with_reducible exact tcp_Parse.mono _ _)
      | (with_reducible exact LeO.refl _)
      | (with_reducible exact LeO.none _)
      | (with_reducible refine LeO.ite ?_ ?_)
      | (with_reducible refine LeO.bind ?_ (fun _ => ?_))
      | exact ih0 _ _ _ _ _ _ _ _ _ _ _ _
      | exact castellanlaw5_known.mono _
      | exact castellanref2_Right.mono _ _
      | exact tcp_Build.mono _ _ _ _ _ _ _ _ _ _ _ _
      | exact tcp_Parse.mono _ _
      | exact LeO.none _
      | refine LeO.ite ?_ ?_
      | refine LeO.bind ?_ (fun _ => ?_)
set_option maxHeartbeats 8000000 in
set_option maxRecDepth 100000 in
theorem castellanlaw5_TcpBack.calls (k : Nat) (a0 : Int) (a1 : Int) (a2_0 : Int) (a2_1 : Int) (a2_2 : Int) (a2_3 : Int) (a2_4 : Int) (a2_5 : Int) (a2_6 : Int) (A2_7 : Option Addr) (c2_7 : Nat) (l2_7 : List Int) (A2_8 : Option Addr) (c2_8 : Nat) (l2_8 : List Int) (r : Bool) (w : World) (hr2_7 : Kd.C (Kd.int .u8) w A2_7 l2_7.length l2_7) (hc2_7 : l2_7.length ≤ c2_7) (hr2_8 : Kd.C (Kd.int .u8) w A2_8 l2_8.length l2_8) (hc2_8 : l2_8.length ≤ c2_8) (hrt : r = true) (h : castellanlaw5_TcpBack.f k a0 a1 a2_0 a2_1 a2_2 a2_3 a2_4 a2_5 a2_6 l2_7 l2_8 = some r) :
    Calls Try.prog 12 #[.int .u32 a0, .int .u32 a1, .agg #[.int .i64 a2_0, .int .i64 a2_1, .int .u32 a2_2, .int .u32 a2_3, .int .i64 a2_4, .int .i64 a2_5, .int .i64 a2_6, .slice A2_7 l2_7.length c2_7, .slice A2_8 l2_8.length c2_8]] w fun e w' => e = .returned (.bool r) ∧ Below w.heap.size w w' := by
  have hu27 := Try.underlying27
  have HRT := Aside0.mk hrt
  clear hrt
  have HR2_7 := Aside0.mk hr2_7
  have HC2_7 := Aside0.mk hc2_7
  clear hr2_7 hc2_7
  have HR2_8 := Aside0.mk hr2_8
  have HC2_8 := Aside0.mk hc2_8
  clear hr2_8 hc2_8
  have HB := Aside0.mk (Below.refl w.heap.size w)
  have H : ((castellanlaw5_long.f a2_0 a2_1 a2_2 a2_3 a2_4 a2_5 a2_6 l2_7 l2_8).bind fun t276 => (if t276 = true then (castellanlaw5_TcpBack.j0 k a0 a1 true a2_0 a2_1 a2_2 a2_3 a2_4 a2_5 a2_6 l2_7 l2_8) else ((castellanref5_Is.f a2_0 a2_1 a2_2 a2_3 a2_4 a2_5 a2_6 l2_7 l2_8).bind fun t277 => (castellanlaw5_TcpBack.j0 k a0 a1 (!t277) a2_0 a2_1 a2_2 a2_3 a2_4 a2_5 a2_6 l2_7 l2_8)))) = some r := h
  clear h
  have HC4 := Aside0.mk H
  clear H
  go_enter Try.func12, Try.ntmps12
  go_upto_region 1 with (first | ((with_reducible refine gate_dst (N := 5) rfl ?_); (try (refine gate_guard (by rfl) ?_; dsimp only)); refine box_event ?hg (N := 5) ?hd (cs := #[.int .i64 a2_0, .int .i64 a2_1, .int .u32 a2_2, .int .u32 a2_3, .int .i64 a2_4, .int .i64 a2_5, .int .i64 a2_6, .slice A2_7 l2_7.length c2_7, .slice A2_8 l2_8.length c2_8]) (t := 27) ?hr ?_; (case hd => rfl); (case hg => rfl); (case hr => first | (go_simp; done) | (go_simp; rfl)); intro gb275 hg w5 hbox hb; have n0_ := Aside0.mk (below_step (by repeat (first | (with_reducible first | exact HB.out | apply below_alloc | apply pw_below_drewN | apply below_drew1) | exact HB.out)) hb); have n1_ := Aside0.mk (hbox); have n2_ := Aside0.mk ((by rw [hg]; exact (below_size (by repeat (first | (with_reducible first | exact HB.out | apply below_alloc | apply pw_below_drewN | apply below_drew1) | exact HB.out))) : w.heap.size ≤ gb275)); have n3_ := Aside0.mk ((by rw [hg]; exact (below_size (by repeat (first | (with_reducible first | exact HB.out | apply below_alloc | apply pw_below_drewN | apply below_drew1) | exact HB.out))) : w.heap.size ≤ gb275)); clear HB; have HB := n0_; have BK275 := n1_; have GW275 := n2_; have GE275 := n3_; clear n0_ n1_ n2_ n3_; clear hb hbox hg))
  (try simp only [Act.put, List.setIfInBounds_toArray, List.set_cons_zero, List.set_cons_succ])
  go_cut [17] (fun v17 wc => ∃ (kq : Nat) (x17_3 : Bool), v17 = .bool x17_3 ∧ Aside0 (castellanlaw5_TcpBack.j0 kq a0 a1 x17_3 a2_0 a2_1 a2_2 a2_3 a2_4 a2_5 a2_6 l2_7 l2_8 = some r) ∧ Aside0 (kq ≤ k) ∧ Aside0 (wc.heap[gb275]? = some (.cells #[.int .i64 a2_0, .int .i64 a2_1, .int .u32 a2_2, .int .u32 a2_3, .int .i64 a2_4, .int .i64 a2_5, .int .i64 a2_6, (.slice A2_7 l2_7.length c2_7), (.slice A2_8 l2_8.length c2_8)] 27 (0, 0))) ∧ Aside0 (Below w.heap.size w wc))
  case first =>
    have H := HC4.out
    clear HC4
    replace H := Option.bind_eq_some_iff.mp H
    obtain ⟨t276, A60, H⟩ := H
    replace H : (if t276 = true then (castellanlaw5_TcpBack.j0 k a0 a1 true a2_0 a2_1 a2_2 a2_3 a2_4 a2_5 a2_6 l2_7 l2_8) else ((castellanref5_Is.f a2_0 a2_1 a2_2 a2_3 a2_4 a2_5 a2_6 l2_7 l2_8).bind fun t277 => (castellanlaw5_TcpBack.j0 k a0 a1 (!t277) a2_0 a2_1 a2_2 a2_3 a2_4 a2_5 a2_6 l2_7 l2_8))) = some r := H
    have A6 := Aside0.mk A60
    clear A60
    by_cases c7 : t276 = true
    · subst c7
      have H1 : (castellanlaw5_TcpBack.j0 k a0 a1 true a2_0 a2_1 a2_2 a2_3 a2_4 a2_5 a2_6 l2_7 l2_8) = some r := by rw [if_pos rfl] at H; exact H
      clear H
      have H := H1
      clear H1
      have H' := Aside0.mk H
      clear H
      have hcz8_0 : w5.cell? ⟨gb275, 0, none⟩ = some (.int .i64 a2_0) := (blk_cell BK275.out 0).trans rfl
      have hcz8_1 : w5.cell? ⟨gb275, 1, none⟩ = some (.int .i64 a2_1) := (blk_cell BK275.out 1).trans rfl
      have hcz8_2 : w5.cell? ⟨gb275, 2, none⟩ = some (.int .u32 a2_2) := (blk_cell BK275.out 2).trans rfl
      have hcz8_3 : w5.cell? ⟨gb275, 3, none⟩ = some (.int .u32 a2_3) := (blk_cell BK275.out 3).trans rfl
      have hcz8_4 : w5.cell? ⟨gb275, 4, none⟩ = some (.int .i64 a2_4) := (blk_cell BK275.out 4).trans rfl
      have hcz8_5 : w5.cell? ⟨gb275, 5, none⟩ = some (.int .i64 a2_5) := (blk_cell BK275.out 5).trans rfl
      have hcz8_6 : w5.cell? ⟨gb275, 6, none⟩ = some (.int .i64 a2_6) := (blk_cell BK275.out 6).trans rfl
      have hcz8_7 : w5.cell? ⟨gb275, 7, none⟩ = some (.slice A2_7 l2_7.length c2_7) := (blk_cell BK275.out 7).trans rfl
      have hcz8_8 : w5.cell? ⟨gb275, 8, none⟩ = some (.slice A2_8 l2_8.length c2_8) := (blk_cell BK275.out 8).trans rfl
      have hfz8_0 := blk_frozen BK275.out 0
      have hfz8_1 := blk_frozen BK275.out 1
      have hfz8_2 := blk_frozen BK275.out 2
      have hfz8_3 := blk_frozen BK275.out 3
      have hfz8_4 := blk_frozen BK275.out 4
      have hfz8_5 := blk_frozen BK275.out 5
      have hfz8_6 := blk_frozen BK275.out 6
      have hfz8_7 := blk_frozen BK275.out 7
      have hfz8_8 := blk_frozen BK275.out 8
      go_wp2_with (first | ((with_reducible refine gate_callee (f := 17) rfl ?_); refine goesL_ (some 12) rfl rfl Try.func17 (by kernel_rfl) rfl #[.agg #[.int .i64 a2_0, .int .i64 a2_1, .int .u32 a2_2, .int .u32 a2_3, .int .i64 a2_4, .int .i64 a2_5, .int .i64 a2_6, .slice A2_7 l2_7.length c2_7, .slice A2_8 l2_8.length c2_8]] rfl (by (try simp only [List.map_toArray, List.map_cons, List.map_nil]); first | done | rfl | (simp only [List.length_drop, List.length_take]; rfl)) ?_; (with_reducible refine (castellanlaw5_long.calls a2_0 a2_1 a2_2 a2_3 a2_4 a2_5 a2_6 _ _ l2_7 _ _ l2_8 true _ ?side1 ?side2 ?side3 ?side4 A6.out).mono ?_); (case side1 => repeat (first | exact (Kd.C_below HR2_7.out HB.out) | (with_reducible refine Kd.C_alloc ?_ _) | (with_reducible refine Kd.C_drewN ?_ _) | (with_reducible refine Kd.C_drew ?_))); (case side2 => exact HC2_7.out); (case side3 => repeat (first | exact (Kd.C_below HR2_8.out HB.out) | (with_reducible refine Kd.C_alloc ?_ _) | (with_reducible refine Kd.C_drewN ?_ _) | (with_reducible refine Kd.C_drew ?_))); (case side4 => exact HC2_8.out); rintro e w9 ⟨rfl, hb⟩; refine ⟨_, rfl, ?_⟩; have n0_ := Aside0.mk (blk_below (g := gb275) (o := .cells #[.int .i64 a2_0, .int .i64 a2_1, .int .u32 a2_2, .int .u32 a2_3, .int .i64 a2_4, .int .i64 a2_5, .int .i64 a2_6, .slice A2_7 l2_7.length c2_7, .slice A2_8 l2_8.length c2_8] 27 (0, 0)) (by (with_reducible repeat (first | refine blk_drewN ?_ _ | refine blk_drew ?_ | refine blk_alloc ?_ _)); exact BK275.out) hb); have n1_ := Aside0.mk (below_step (by repeat (first | (with_reducible first | exact HB.out | apply below_alloc | apply pw_below_drewN | apply below_drew1 | refine below_set ?_ GE275.out) | exact HB.out)) hb); clear BK275; clear HB; have BK275 := n0_; have HB := n1_; clear n0_ n1_; (try clear hb); (try clear hb2); (try clear hk); (try clear hi)))
      go_meet
      case rel => exact ⟨_, (true), (by first | rfl | (simp; done) | (simp [*]; done)), H', ⟨by first | omega | exact Nat.le_refl _⟩, ⟨by (with_reducible repeat (first | refine blk_drewN ?_ _ | refine blk_drew ?_ | refine blk_alloc ?_ _)); exact BK275.out⟩, ⟨by repeat (first | (with_reducible first | exact HB.out | apply below_alloc | apply pw_below_drewN | apply below_drew1 | refine below_set ?_ GE275.out) | exact HB.out)⟩⟩
    · replace c7 := Bool.eq_false_iff.mpr c7
      subst c7
      have H1 : ((castellanref5_Is.f a2_0 a2_1 a2_2 a2_3 a2_4 a2_5 a2_6 l2_7 l2_8).bind fun t277 => (castellanlaw5_TcpBack.j0 k a0 a1 (!t277) a2_0 a2_1 a2_2 a2_3 a2_4 a2_5 a2_6 l2_7 l2_8)) = some r := by rw [if_neg (show ¬ (false = true) by decide)] at H; exact H
      clear H
      have H := H1
      clear H1
      replace H := Option.bind_eq_some_iff.mp H
      obtain ⟨t277, A100, H⟩ := H
      replace H : (castellanlaw5_TcpBack.j0 k a0 a1 (!t277) a2_0 a2_1 a2_2 a2_3 a2_4 a2_5 a2_6 l2_7 l2_8) = some r := H
      have A10 := Aside0.mk A100
      clear A100
      have H' := Aside0.mk H
      clear H
      have hcz11_0 : w5.cell? ⟨gb275, 0, none⟩ = some (.int .i64 a2_0) := (blk_cell BK275.out 0).trans rfl
      have hcz11_1 : w5.cell? ⟨gb275, 1, none⟩ = some (.int .i64 a2_1) := (blk_cell BK275.out 1).trans rfl
      have hcz11_2 : w5.cell? ⟨gb275, 2, none⟩ = some (.int .u32 a2_2) := (blk_cell BK275.out 2).trans rfl
      have hcz11_3 : w5.cell? ⟨gb275, 3, none⟩ = some (.int .u32 a2_3) := (blk_cell BK275.out 3).trans rfl
      have hcz11_4 : w5.cell? ⟨gb275, 4, none⟩ = some (.int .i64 a2_4) := (blk_cell BK275.out 4).trans rfl
      have hcz11_5 : w5.cell? ⟨gb275, 5, none⟩ = some (.int .i64 a2_5) := (blk_cell BK275.out 5).trans rfl
      have hcz11_6 : w5.cell? ⟨gb275, 6, none⟩ = some (.int .i64 a2_6) := (blk_cell BK275.out 6).trans rfl
      have hcz11_7 : w5.cell? ⟨gb275, 7, none⟩ = some (.slice A2_7 l2_7.length c2_7) := (blk_cell BK275.out 7).trans rfl
      have hcz11_8 : w5.cell? ⟨gb275, 8, none⟩ = some (.slice A2_8 l2_8.length c2_8) := (blk_cell BK275.out 8).trans rfl
      have hfz11_0 := blk_frozen BK275.out 0
      have hfz11_1 := blk_frozen BK275.out 1
      have hfz11_2 := blk_frozen BK275.out 2
      have hfz11_3 := blk_frozen BK275.out 3
      have hfz11_4 := blk_frozen BK275.out 4
      have hfz11_5 := blk_frozen BK275.out 5
      have hfz11_6 := blk_frozen BK275.out 6
      have hfz11_7 := blk_frozen BK275.out 7
      have hfz11_8 := blk_frozen BK275.out 8
      go_wp2_with (first | ((with_reducible refine gate_callee (f := 17) rfl ?_); refine goesL_ (some 12) rfl rfl Try.func17 (by kernel_rfl) rfl #[.agg #[.int .i64 a2_0, .int .i64 a2_1, .int .u32 a2_2, .int .u32 a2_3, .int .i64 a2_4, .int .i64 a2_5, .int .i64 a2_6, .slice A2_7 l2_7.length c2_7, .slice A2_8 l2_8.length c2_8]] rfl (by (try simp only [List.map_toArray, List.map_cons, List.map_nil]); first | done | rfl | (simp only [List.length_drop, List.length_take]; rfl)) ?_; (with_reducible refine (castellanlaw5_long.calls a2_0 a2_1 a2_2 a2_3 a2_4 a2_5 a2_6 _ _ l2_7 _ _ l2_8 false _ ?side1 ?side2 ?side3 ?side4 A6.out).mono ?_); (case side1 => repeat (first | exact (Kd.C_below HR2_7.out HB.out) | (with_reducible refine Kd.C_alloc ?_ _) | (with_reducible refine Kd.C_drewN ?_ _) | (with_reducible refine Kd.C_drew ?_))); (case side2 => exact HC2_7.out); (case side3 => repeat (first | exact (Kd.C_below HR2_8.out HB.out) | (with_reducible refine Kd.C_alloc ?_ _) | (with_reducible refine Kd.C_drewN ?_ _) | (with_reducible refine Kd.C_drew ?_))); (case side4 => exact HC2_8.out); rintro e w12 ⟨rfl, hb⟩; refine ⟨_, rfl, ?_⟩; have n0_ := Aside0.mk (blk_below (g := gb275) (o := .cells #[.int .i64 a2_0, .int .i64 a2_1, .int .u32 a2_2, .int .u32 a2_3, .int .i64 a2_4, .int .i64 a2_5, .int .i64 a2_6, .slice A2_7 l2_7.length c2_7, .slice A2_8 l2_8.length c2_8] 27 (0, 0)) (by (with_reducible repeat (first | refine blk_drewN ?_ _ | refine blk_drew ?_ | refine blk_alloc ?_ _)); exact BK275.out) hb); have n1_ := Aside0.mk (below_step (by repeat (first | (with_reducible first | exact HB.out | apply below_alloc | apply pw_below_drewN | apply below_drew1 | refine below_set ?_ GE275.out) | exact HB.out)) hb); clear BK275; clear HB; have BK275 := n0_; have HB := n1_; clear n0_ n1_; (try clear hb); (try clear hb2); (try clear hk); (try clear hi); have hcz13_0 : w12.cell? ⟨gb275, 0, none⟩ = some (.int .i64 a2_0) := (blk_cell BK275.out 0).trans rfl; have hcz13_1 : w12.cell? ⟨gb275, 1, none⟩ = some (.int .i64 a2_1) := (blk_cell BK275.out 1).trans rfl; have hcz13_2 : w12.cell? ⟨gb275, 2, none⟩ = some (.int .u32 a2_2) := (blk_cell BK275.out 2).trans rfl; have hcz13_3 : w12.cell? ⟨gb275, 3, none⟩ = some (.int .u32 a2_3) := (blk_cell BK275.out 3).trans rfl; have hcz13_4 : w12.cell? ⟨gb275, 4, none⟩ = some (.int .i64 a2_4) := (blk_cell BK275.out 4).trans rfl; have hcz13_5 : w12.cell? ⟨gb275, 5, none⟩ = some (.int .i64 a2_5) := (blk_cell BK275.out 5).trans rfl; have hcz13_6 : w12.cell? ⟨gb275, 6, none⟩ = some (.int .i64 a2_6) := (blk_cell BK275.out 6).trans rfl; have hcz13_7 : w12.cell? ⟨gb275, 7, none⟩ = some (.slice A2_7 l2_7.length c2_7) := (blk_cell BK275.out 7).trans rfl; have hcz13_8 : w12.cell? ⟨gb275, 8, none⟩ = some (.slice A2_8 l2_8.length c2_8) := (blk_cell BK275.out 8).trans rfl; have hfz13_0 := blk_frozen BK275.out 0; have hfz13_1 := blk_frozen BK275.out 1; have hfz13_2 := blk_frozen BK275.out 2; have hfz13_3 := blk_frozen BK275.out 3; have hfz13_4 := blk_frozen BK275.out 4; have hfz13_5 := blk_frozen BK275.out 5; have hfz13_6 := blk_frozen BK275.out 6; have hfz13_7 := blk_frozen BK275.out 7; have hfz13_8 := blk_frozen BK275.out 8) | (go_at_call 38; (with_reducible refine (castellanref5_Is.calls a2_0 a2_1 a2_2 a2_3 a2_4 a2_5 a2_6 _ _ l2_7 _ _ l2_8 t277 _ ?side1 ?side2 ?side3 ?side4 A10.out).mono ?_); (case side1 => repeat (first | exact (Kd.C_below HR2_7.out HB.out) | (with_reducible refine Kd.C_alloc ?_ _) | (with_reducible refine Kd.C_drewN ?_ _) | (with_reducible refine Kd.C_drew ?_))); (case side2 => exact HC2_7.out); (case side3 => repeat (first | exact (Kd.C_below HR2_8.out HB.out) | (with_reducible refine Kd.C_alloc ?_ _) | (with_reducible refine Kd.C_drewN ?_ _) | (with_reducible refine Kd.C_drew ?_))); (case side4 => exact HC2_8.out); rintro e w14 ⟨rfl, hb⟩; have n0_ := Aside0.mk (blk_below (g := gb275) (o := .cells #[.int .i64 a2_0, .int .i64 a2_1, .int .u32 a2_2, .int .u32 a2_3, .int .i64 a2_4, .int .i64 a2_5, .int .i64 a2_6, .slice A2_7 l2_7.length c2_7, .slice A2_8 l2_8.length c2_8] 27 (0, 0)) (by (with_reducible repeat (first | refine blk_drewN ?_ _ | refine blk_drew ?_ | refine blk_alloc ?_ _)); exact BK275.out) hb); have n1_ := Aside0.mk (below_step (by repeat (first | (with_reducible first | exact HB.out | apply below_alloc | apply pw_below_drewN | apply below_drew1 | refine below_set ?_ GE275.out) | exact HB.out)) hb); clear BK275; clear HB; have BK275 := n0_; have HB := n1_; clear n0_ n1_; (try clear hb); (try clear hb2); (try clear hk); (try clear hi)))
      go_meet
      case rel => exact ⟨_, (!t277), (by first | rfl | (simp; done) | (simp [*]; done)), H', ⟨by first | omega | exact Nat.le_refl _⟩, ⟨by (with_reducible repeat (first | refine blk_drewN ?_ _ | refine blk_drew ?_ | refine blk_alloc ?_ _)); exact BK275.out⟩, ⟨by repeat (first | (with_reducible first | exact HB.out | apply below_alloc | apply pw_below_drewN | apply below_drew1 | refine below_set ?_ GE275.out) | exact HB.out)⟩⟩
  case rest =>
    clear HC4
    try clear c1
    try clear c2
    try clear p2
    try clear c7
    try clear c12
    try clear hcz11_0
    try clear hcz11_1
    try clear hcz11_2
    try clear hcz11_3
    try clear hcz11_4
    try clear hcz11_5
    try clear hcz11_6
    try clear hcz11_7
    try clear hcz11_8
    try clear hcz13_0
    try clear hcz13_1
    try clear hcz13_2
    try clear hcz13_3
    try clear hcz13_4
    try clear hcz13_5
    try clear hcz13_6
    try clear hcz13_7
    try clear hcz13_8
    try clear hcz8_0
    try clear hcz8_1
    try clear hcz8_2
    try clear hcz8_3
    try clear hcz8_4
    try clear hcz8_5
    try clear hcz8_6
    try clear hcz8_7
    try clear hcz8_8
    try clear hfz11_0
    try clear hfz11_1
    try clear hfz11_2
    try clear hfz11_3
    try clear hfz11_4
    try clear hfz11_5
    try clear hfz11_6
    try clear hfz11_7
    try clear hfz11_8
    try clear hfz13_0
    try clear hfz13_1
    try clear hfz13_2
    try clear hfz13_3
    try clear hfz13_4
    try clear hfz13_5
    try clear hfz13_6
    try clear hfz13_7
    try clear hfz13_8
    try clear hfz8_0
    try clear hfz8_1
    try clear hfz8_2
    try clear hfz8_3
    try clear hfz8_4
    try clear hfz8_5
    try clear hfz8_6
    try clear hfz8_7
    try clear hfz8_8
    obtain ⟨kq, x17_3, rfl, HA, HJ3, BK275, HB⟩ := hcut
    cases kq with
    | zero => exact absurd HA.out (by simp [castellanlaw5_TcpBack.j0])
    | succ kj3 =>
      have H := HA.out
      clear HA
      simp only [castellanlaw5_TcpBack.j0] at H
      by_cases c15 : x17_3 = true
      · subst c15
        have H1 : (some true) = some r := by rw [if_pos rfl] at H; exact H
        clear H
        have H := H1
        clear H1
        obtain rfl := Option.some.inj H
        go_wp2
        go_ret
        exact ⟨by first | rfl | (simp [errW_none, errW_some] <;> rfl) | (simp [*, errW_none, errW_some] <;> rfl), by repeat (first | (with_reducible first | exact HB.out | apply below_alloc | apply pw_below_drewN | apply below_drew1 | refine below_set ?_ GE275.out) | exact HB.out)⟩
      · replace c15 := Bool.eq_false_iff.mpr c15
        subst c15
        have H1 : ((tcp_Build.f kj3 a0 a1 a2_0 a2_1 a2_2 a2_3 a2_4 a2_5 a2_6 l2_7 l2_8).bind fun bt278 => ((tcp_Parse.f kj3 bt278.1).bind fun bt282 => (if bt278.2 = 0 then (if bt282.2.2.2.2.2.2.2.2.2 = 0 then ((castellanref5_Same.f a2_0 a2_1 a2_2 a2_3 a2_4 a2_5 a2_6 l2_7 l2_8 bt282.1 bt282.2.1 bt282.2.2.1 bt282.2.2.2.1 bt282.2.2.2.2.1 bt282.2.2.2.2.2.1 bt282.2.2.2.2.2.2.1 bt282.2.2.2.2.2.2.2.1 bt282.2.2.2.2.2.2.2.2.1).bind fun t297 => (if t297 = true then ((castellanref2_Pseudo.f a0 a1 6 (bt278.1.length : Int)).bind fun t298 => (if t298.length + bt278.1.length < 140737488355328 then ((castellanref2_Right.f kj3 (t298 ++ bt278.1)).bind fun t304 => (if t304 = true then ((castellanlaw5_known.f kj3).bind fun t305 => (some t305)) else (some false))) else (none))) else (some false))) else (some false)) else (some false)))) = some r := by rw [if_neg (show ¬ (false = true) by decide)] at H; exact H
        clear H
        have H := H1
        clear H1
        replace H := Option.bind_eq_some_iff.mp H
        obtain ⟨⟨t278, t281⟩, A160, H⟩ := H
        replace H : ((tcp_Parse.f kj3 t278).bind fun bt282 => (if t281 = 0 then (if bt282.2.2.2.2.2.2.2.2.2 = 0 then ((castellanref5_Same.f a2_0 a2_1 a2_2 a2_3 a2_4 a2_5 a2_6 l2_7 l2_8 bt282.1 bt282.2.1 bt282.2.2.1 bt282.2.2.2.1 bt282.2.2.2.2.1 bt282.2.2.2.2.2.1 bt282.2.2.2.2.2.2.1 bt282.2.2.2.2.2.2.2.1 bt282.2.2.2.2.2.2.2.2.1).bind fun t297 => (if t297 = true then ((castellanref2_Pseudo.f a0 a1 6 (t278.length : Int)).bind fun t298 => (if t298.length + t278.length < 140737488355328 then ((castellanref2_Right.f kj3 (t298 ++ t278)).bind fun t304 => (if t304 = true then ((castellanlaw5_known.f kj3).bind fun t305 => (some t305)) else (some false))) else (none))) else (some false))) else (some false)) else (some false))) = some r := H
        have A16 := Aside0.mk A160
        clear A160
        replace H := Option.bind_eq_some_iff.mp H
        obtain ⟨⟨t282, t283, t284, t285, t286, t287, t288, t289, t292, t295⟩, A170, H⟩ := H
        replace H : (if t281 = 0 then (if t295 = 0 then ((castellanref5_Same.f a2_0 a2_1 a2_2 a2_3 a2_4 a2_5 a2_6 l2_7 l2_8 t282 t283 t284 t285 t286 t287 t288 t289 t292).bind fun t297 => (if t297 = true then ((castellanref2_Pseudo.f a0 a1 6 (t278.length : Int)).bind fun t298 => (if t298.length + t278.length < 140737488355328 then ((castellanref2_Right.f kj3 (t298 ++ t278)).bind fun t304 => (if t304 = true then ((castellanlaw5_known.f kj3).bind fun t305 => (some t305)) else (some false))) else (none))) else (some false))) else (some false)) else (some false)) = some r := H
        have A17 := Aside0.mk A170
        clear A170
        by_cases c18 : t281 = 0
        · rw [if_pos c18] at H
          have c18b0 : (t281 == 0) = true := beq_iff_eq.mpr c18
          have c18b1 : (t281 != 0) = false := bne_eq_false_iff_eq.mpr c18
          clear c18
          by_cases c19 : t295 = 0
          · rw [if_pos c19] at H
            have c19b0 : (t295 == 0) = true := beq_iff_eq.mpr c19
            have c19b1 : (t295 != 0) = false := bne_eq_false_iff_eq.mpr c19
            clear c19
            replace H := Option.bind_eq_some_iff.mp H
            obtain ⟨t297, A200, H⟩ := H
            replace H : (if t297 = true then ((castellanref2_Pseudo.f a0 a1 6 (t278.length : Int)).bind fun t298 => (if t298.length + t278.length < 140737488355328 then ((castellanref2_Right.f kj3 (t298 ++ t278)).bind fun t304 => (if t304 = true then ((castellanlaw5_known.f kj3).bind fun t305 => (some t305)) else (some false))) else (none))) else (some false)) = some r := H
            have A20 := Aside0.mk A200
            clear A200
            by_cases c21 : t297 = true
            · subst c21
              have H1 : ((castellanref2_Pseudo.f a0 a1 6 (t278.length : Int)).bind fun t298 => (if t298.length + t278.length < 140737488355328 then ((castellanref2_Right.f kj3 (t298 ++ t278)).bind fun t304 => (if t304 = true then ((castellanlaw5_known.f kj3).bind fun t305 => (some t305)) else (some false))) else (none))) = some r := by rw [if_pos rfl] at H; exact H
              clear H
              have H := H1
              clear H1
              replace H := Option.bind_eq_some_iff.mp H
              obtain ⟨t298, A220, H⟩ := H
              replace H : (if t298.length + t278.length < 140737488355328 then ((castellanref2_Right.f kj3 (t298 ++ t278)).bind fun t304 => (if t304 = true then ((castellanlaw5_known.f kj3).bind fun t305 => (some t305)) else (some false))) else (none)) = some r := H
              have A22 := Aside0.mk A220
              clear A220
              by_cases c23 : t298.length + t278.length < 140737488355328
              · rw [if_pos c23] at H
                have LMc23 := Aside0.mk c23
                clear c23
                obtain ⟨y301, hy301⟩ : ∃ y_ : List Int, y_ = (t298 ++ t278) := ⟨_, rfl⟩
                replace H : ((castellanref2_Right.f kj3 y301).bind fun t304 => (if t304 = true then ((castellanlaw5_known.f kj3).bind fun t305 => (some t305)) else (some false))) = some r := by first | (rw [hy301]; with_reducible exact H) | (have H2_ := (Option.bind_some _ _).symm.trans H; rw [hy301]; with_reducible exact H2_) | (have H2_ := (Option.bind_some _ _).symm.trans H; with_reducible exact H2_) | with_reducible exact H | (rw [hy301]; exact H) | exact H
                have Ny301 := Aside0.mk hy301
                clear hy301
                replace H := Option.bind_eq_some_iff.mp H
                obtain ⟨t304, A240, H⟩ := H
                replace H : (if t304 = true then ((castellanlaw5_known.f kj3).bind fun t305 => (some t305)) else (some false)) = some r := H
                have A24 := Aside0.mk A240
                clear A240
                by_cases c25 : t304 = true
                · subst c25
                  have H1 : ((castellanlaw5_known.f kj3).bind fun t305 => (some t305)) = some r := by rw [if_pos rfl] at H; exact H
                  clear H
                  have H := H1
                  clear H1
                  replace H := Option.bind_eq_some_iff.mp H
                  obtain ⟨t305, A260, H⟩ := H
                  replace H : (some t305) = some r := H
                  have A26 := Aside0.mk A260
                  clear A260
                  obtain rfl := Option.some.inj H
                  have hcz27_0 : wc.cell? ⟨gb275, 0, none⟩ = some (.int .i64 a2_0) := (blk_cell BK275.out 0).trans rfl
                  have hcz27_1 : wc.cell? ⟨gb275, 1, none⟩ = some (.int .i64 a2_1) := (blk_cell BK275.out 1).trans rfl
                  have hcz27_2 : wc.cell? ⟨gb275, 2, none⟩ = some (.int .u32 a2_2) := (blk_cell BK275.out 2).trans rfl
                  have hcz27_3 : wc.cell? ⟨gb275, 3, none⟩ = some (.int .u32 a2_3) := (blk_cell BK275.out 3).trans rfl
                  have hcz27_4 : wc.cell? ⟨gb275, 4, none⟩ = some (.int .i64 a2_4) := (blk_cell BK275.out 4).trans rfl
                  have hcz27_5 : wc.cell? ⟨gb275, 5, none⟩ = some (.int .i64 a2_5) := (blk_cell BK275.out 5).trans rfl
                  have hcz27_6 : wc.cell? ⟨gb275, 6, none⟩ = some (.int .i64 a2_6) := (blk_cell BK275.out 6).trans rfl
                  have hcz27_7 : wc.cell? ⟨gb275, 7, none⟩ = some (.slice A2_7 l2_7.length c2_7) := (blk_cell BK275.out 7).trans rfl
                  have hcz27_8 : wc.cell? ⟨gb275, 8, none⟩ = some (.slice A2_8 l2_8.length c2_8) := (blk_cell BK275.out 8).trans rfl
                  have hfz27_0 := blk_frozen BK275.out 0
                  have hfz27_1 := blk_frozen BK275.out 1
                  have hfz27_2 := blk_frozen BK275.out 2
                  have hfz27_3 := blk_frozen BK275.out 3
                  have hfz27_4 := blk_frozen BK275.out 4
                  have hfz27_5 := blk_frozen BK275.out 5
                  have hfz27_6 := blk_frozen BK275.out 6
                  have hfz27_7 := blk_frozen BK275.out 7
                  have hfz27_8 := blk_frozen BK275.out 8
                  go_wp2_with (first | ((with_reducible refine gate_callee (f := 25) rfl ?_); refine goesL_ (some 22) rfl rfl Try.func25 (by kernel_rfl) rfl #[.int .u32 a0, .int .u32 a1, .agg #[.int .i64 a2_0, .int .i64 a2_1, .int .u32 a2_2, .int .u32 a2_3, .int .i64 a2_4, .int .i64 a2_5, .int .i64 a2_6, .slice A2_7 l2_7.length c2_7, .slice A2_8 l2_8.length c2_8]] rfl (by (try simp only [List.map_toArray, List.map_cons, List.map_nil]); first | done | rfl | (simp only [List.length_drop, List.length_take]; rfl)) ?_; (with_reducible refine (tcp_Build.calls kj3 a0 a1 a2_0 a2_1 a2_2 a2_3 a2_4 a2_5 a2_6 (fun k_ => k_ < w.heap.size) _ _ l2_7 (fun k_ => k_ < w.heap.size) _ _ l2_8 t278 t281 _ ?side1 ?side2 A16.out).mono ?_); (case side1 => exact Kd.V_mk HC2_7.out (Kd.F_below (Kd.C_F (Kd.heap_int .u8) HR2_7.out) (by repeat (first | (with_reducible first | exact HB.out | apply below_alloc | apply pw_below_drewN | apply below_drew1 | refine below_set ?_ GE275.out) | exact HB.out)))); (case side2 => exact Kd.V_mk HC2_8.out (Kd.F_below (Kd.C_F (Kd.heap_int .u8) HR2_8.out) (by repeat (first | (with_reducible first | exact HB.out | apply below_alloc | apply pw_below_drewN | apply below_drew1 | refine below_set ?_ GE275.out) | exact HB.out)))); rintro e w28 ⟨v279, rfl, ho0, hb⟩; refine ⟨_, rfl, ?_⟩; have n0_ := Aside0.mk (Kd.R_lower (Kd.R_mono (ok' := fun k_ => True) ho0 (fun _ hk_ => trivial)) (below_size (by repeat (first | (with_reducible first | exact HB.out | apply below_alloc | apply pw_below_drewN | apply below_drew1 | refine below_set ?_ GE275.out) | exact HB.out)))); have n1_ := Aside0.mk (blk_below (g := gb275) (o := .cells #[.int .i64 a2_0, .int .i64 a2_1, .int .u32 a2_2, .int .u32 a2_3, .int .i64 a2_4, .int .i64 a2_5, .int .i64 a2_6, .slice A2_7 l2_7.length c2_7, .slice A2_8 l2_8.length c2_8] 27 (0, 0)) (by (with_reducible repeat (first | refine blk_drewN ?_ _ | refine blk_drew ?_ | refine blk_alloc ?_ _)); exact BK275.out) hb); have n2_ := Aside0.mk (below_step (by repeat (first | (with_reducible first | exact HB.out | apply below_alloc | apply pw_below_drewN | apply below_drew1 | refine below_set ?_ GE275.out) | exact HB.out)) hb); clear BK275; clear HB; have HO280 := n0_; have BK275 := n1_; have HB := n2_; clear n0_ n1_ n2_; (try clear hb); (try clear hb2); (try clear hk); (try clear hi); (try clear ho0); obtain ⟨Ao29, co29, eo29⟩ := Kd.R_slice HO280.out; subst eo29) | ((with_reducible refine gate_callee (f := 21) rfl ?_); refine goesL_ (some 27) rfl rfl Try.func21 (by kernel_rfl) rfl #[.slice Ao29 t278.length co29] rfl (by (try simp only [List.map_toArray, List.map_cons, List.map_nil]); first | done | rfl | (simp only [List.length_drop, List.length_take]; rfl)) ?_; (with_reducible refine (tcp_Parse.calls kj3 _ _ t278 t282 t283 t284 t285 t286 t287 t288 t289 t292 t295 _ ?side1 ?side2 A17.out).mono ?_); (case side1 => repeat (first | exact (Kd.R_reads' HO280.out).2.2 | (with_reducible refine Kd.C_alloc ?_ _) | (with_reducible refine Kd.C_drewN ?_ _) | (with_reducible refine Kd.C_drew ?_))); (case side2 => exact (Kd.R_reads' HO280.out).2.1); rintro e w30 ⟨v290, v293, rfl, ho0, ho1, hb⟩; refine ⟨_, rfl, ?_⟩; have n0_ := Aside0.mk (Kd.R_mono (Kd.R_told (Kd.R_told (Kd.R_old (by (with_reducible repeat (first | apply Kd.R_alloc | apply Kd.R_drewN | apply Kd.R_drew)); exact HO280.out) hb) (Kd.R_base ho0)) (Kd.R_base ho1)) (fun _ h_ => h_.1)); have n1_ := Aside0.mk (Kd.R_lower (Kd.R_new' ho0 (Kd.R_lt (by (with_reducible repeat (first | apply Kd.R_alloc | apply Kd.R_drewN | apply Kd.R_drew)); exact HO280.out))) (below_size (by repeat (first | (with_reducible first | exact HB.out | apply below_alloc | apply pw_below_drewN | apply below_drew1 | refine below_set ?_ GE275.out) | exact HB.out)))); have n2_ := Aside0.mk (Kd.R_lower (Kd.R_new' ho1 (Kd.R_lt (by (with_reducible repeat (first | apply Kd.R_alloc | apply Kd.R_drewN | apply Kd.R_drew)); exact HO280.out))) (below_size (by repeat (first | (with_reducible first | exact HB.out | apply below_alloc | apply pw_below_drewN | apply below_drew1 | refine below_set ?_ GE275.out) | exact HB.out)))); have n3_ := Aside0.mk (blk_below (g := gb275) (o := .cells #[.int .i64 a2_0, .int .i64 a2_1, .int .u32 a2_2, .int .u32 a2_3, .int .i64 a2_4, .int .i64 a2_5, .int .i64 a2_6, .slice A2_7 l2_7.length c2_7, .slice A2_8 l2_8.length c2_8] 27 (0, 0)) (by (with_reducible repeat (first | refine blk_drewN ?_ _ | refine blk_drew ?_ | refine blk_alloc ?_ _)); exact BK275.out) hb); have n4_ := Aside0.mk (below_step (by repeat (first | (with_reducible first | exact HB.out | apply below_alloc | apply pw_below_drewN | apply below_drew1 | refine below_set ?_ GE275.out) | exact HB.out)) hb); clear HO280; clear BK275; clear HB; have HO280 := n0_; have HO291 := n1_; have HO294 := n2_; have BK275 := n3_; have HB := n4_; clear n0_ n1_ n2_ n3_ n4_; (try clear hb); (try clear hb2); (try clear hk); (try clear hi); (try clear ho0); (try clear ho1)) | ((with_reducible refine gate_dst (N := 9) rfl ?_); (try (refine gate_guard (by rfl) ?_; dsimp only)); refine box_event ?hg (N := 9) ?hd (cs := #[.int .i64 0, .int .i64 0, .int .u32 0, .int .u32 0, .int .i64 0, .int .i64 0, .int .i64 0, .slice none 0 0, .slice none 0 0]) (t := 27) ?hr ?_; (case hd => rfl); (case hg => rfl); (case hr => first | (go_simp; done) | (go_simp; rfl)); intro gb296 hg w31 hbox hb; have n0_ := Aside0.mk (Kd.R_below (by (with_reducible repeat (first | apply Kd.R_alloc | apply Kd.R_drewN | apply Kd.R_drew)); exact HO280.out) hb); have n1_ := Aside0.mk (Kd.R_below (by (with_reducible repeat (first | apply Kd.R_alloc | apply Kd.R_drewN | apply Kd.R_drew)); exact HO291.out) hb); have n2_ := Aside0.mk (Kd.R_below (by (with_reducible repeat (first | apply Kd.R_alloc | apply Kd.R_drewN | apply Kd.R_drew)); exact HO294.out) hb); have n3_ := Aside0.mk (blk_below (g := gb275) (o := .cells #[.int .i64 a2_0, .int .i64 a2_1, .int .u32 a2_2, .int .u32 a2_3, .int .i64 a2_4, .int .i64 a2_5, .int .i64 a2_6, .slice A2_7 l2_7.length c2_7, .slice A2_8 l2_8.length c2_8] 27 (0, 0)) (by (with_reducible repeat (first | refine blk_drewN ?_ _ | refine blk_drew ?_ | refine blk_alloc ?_ _)); exact BK275.out) hb); have n4_ := Aside0.mk (below_step (by repeat (first | (with_reducible first | exact HB.out | apply below_alloc | apply pw_below_drewN | apply below_drew1 | refine below_set ?_ GE275.out) | exact HB.out)) hb); have n5_ := Aside0.mk (hbox); have n6_ := Aside0.mk ((by rw [hg]; exact (below_size (by repeat (first | (with_reducible first | exact HB.out | apply below_alloc | apply pw_below_drewN | apply below_drew1 | refine below_set ?_ GE275.out) | exact HB.out))) : w.heap.size ≤ gb296)); have n7_ := Aside0.mk ((by rw [hg]; exact (below_size (by repeat (first | (with_reducible first | exact HB.out | apply below_alloc | apply pw_below_drewN | apply below_drew1 | refine below_set ?_ GE275.out) | exact HB.out))) : w.heap.size ≤ gb296)); have n8_ := Aside0.mk ((by rw [hg]; exact Nat.ne_of_lt (blk_lt (g := gb275) (o := .cells #[.int .i64 a2_0, .int .i64 a2_1, .int .u32 a2_2, .int .u32 a2_3, .int .i64 a2_4, .int .i64 a2_5, .int .i64 a2_6, .slice A2_7 l2_7.length c2_7, .slice A2_8 l2_8.length c2_8] 27 (0, 0)) (by (with_reducible repeat (first | refine blk_drewN ?_ _ | refine blk_drew ?_ | refine blk_alloc ?_ _)); exact BK275.out)) : gb275 ≠ gb296)); have n9_ := Aside0.mk ((by rw [hg]; exact Nat.ne_of_gt (blk_lt (g := gb275) (o := .cells #[.int .i64 a2_0, .int .i64 a2_1, .int .u32 a2_2, .int .u32 a2_3, .int .i64 a2_4, .int .i64 a2_5, .int .i64 a2_6, .slice A2_7 l2_7.length c2_7, .slice A2_8 l2_8.length c2_8] 27 (0, 0)) (by (with_reducible repeat (first | refine blk_drewN ?_ _ | refine blk_drew ?_ | refine blk_alloc ?_ _)); exact BK275.out)) : gb296 ≠ gb275)); clear HO280; clear HO291; clear HO294; clear BK275; clear HB; have HO280 := n0_; have HO291 := n1_; have HO294 := n2_; have BK275 := n3_; have HB := n4_; have BK296 := n5_; have GW296 := n6_; have GE296 := n7_; have NB275_296 := n8_; have NB296_275 := n9_; clear n0_ n1_ n2_ n3_ n4_ n5_ n6_ n7_ n8_ n9_; clear hb hbox hg; have hnb32 := NB296_275.out; have hnc32 := NB275_296.out; have hcz33_0 : w31.cell? ⟨gb296, 0, none⟩ = some (.int .i64 0) := (blk_cell BK296.out 0).trans rfl; have hcz33_1 : w31.cell? ⟨gb296, 1, none⟩ = some (.int .i64 0) := (blk_cell BK296.out 1).trans rfl; have hcz33_2 : w31.cell? ⟨gb296, 2, none⟩ = some (.int .u32 0) := (blk_cell BK296.out 2).trans rfl; have hcz33_3 : w31.cell? ⟨gb296, 3, none⟩ = some (.int .u32 0) := (blk_cell BK296.out 3).trans rfl; have hcz33_4 : w31.cell? ⟨gb296, 4, none⟩ = some (.int .i64 0) := (blk_cell BK296.out 4).trans rfl; have hcz33_5 : w31.cell? ⟨gb296, 5, none⟩ = some (.int .i64 0) := (blk_cell BK296.out 5).trans rfl; have hcz33_6 : w31.cell? ⟨gb296, 6, none⟩ = some (.int .i64 0) := (blk_cell BK296.out 6).trans rfl; have hcz33_7 : w31.cell? ⟨gb296, 7, none⟩ = some (.slice none 0 0) := (blk_cell BK296.out 7).trans rfl; have hcz33_8 : w31.cell? ⟨gb296, 8, none⟩ = some (.slice none 0 0) := (blk_cell BK296.out 8).trans rfl; have hfz33_0 := blk_frozen BK296.out 0; have hfz33_1 := blk_frozen BK296.out 1; have hfz33_2 := blk_frozen BK296.out 2; have hfz33_3 := blk_frozen BK296.out 3; have hfz33_4 := blk_frozen BK296.out 4; have hfz33_5 := blk_frozen BK296.out 5; have hfz33_6 := blk_frozen BK296.out 6; have hfz33_7 := blk_frozen BK296.out 7; have hfz33_8 := blk_frozen BK296.out 8; obtain ⟨Ao34, co34, eo34⟩ := Kd.R_slice HO291.out; subst eo34; obtain ⟨Ao35, co35, eo35⟩ := Kd.R_slice HO294.out; subst eo35; have hcz36_0 : w31.cell? ⟨gb275, 0, none⟩ = some (.int .i64 a2_0) := (blk_cell BK275.out 0).trans rfl; have hcz36_1 : w31.cell? ⟨gb275, 1, none⟩ = some (.int .i64 a2_1) := (blk_cell BK275.out 1).trans rfl; have hcz36_2 : w31.cell? ⟨gb275, 2, none⟩ = some (.int .u32 a2_2) := (blk_cell BK275.out 2).trans rfl; have hcz36_3 : w31.cell? ⟨gb275, 3, none⟩ = some (.int .u32 a2_3) := (blk_cell BK275.out 3).trans rfl; have hcz36_4 : w31.cell? ⟨gb275, 4, none⟩ = some (.int .i64 a2_4) := (blk_cell BK275.out 4).trans rfl; have hcz36_5 : w31.cell? ⟨gb275, 5, none⟩ = some (.int .i64 a2_5) := (blk_cell BK275.out 5).trans rfl; have hcz36_6 : w31.cell? ⟨gb275, 6, none⟩ = some (.int .i64 a2_6) := (blk_cell BK275.out 6).trans rfl; have hcz36_7 : w31.cell? ⟨gb275, 7, none⟩ = some (.slice A2_7 l2_7.length c2_7) := (blk_cell BK275.out 7).trans rfl; have hcz36_8 : w31.cell? ⟨gb275, 8, none⟩ = some (.slice A2_8 l2_8.length c2_8) := (blk_cell BK275.out 8).trans rfl; have hfz36_0 := blk_frozen BK275.out 0; have hfz36_1 := blk_frozen BK275.out 1; have hfz36_2 := blk_frozen BK275.out 2; have hfz36_3 := blk_frozen BK275.out 3; have hfz36_4 := blk_frozen BK275.out 4; have hfz36_5 := blk_frozen BK275.out 5; have hfz36_6 := blk_frozen BK275.out 6; have hfz36_7 := blk_frozen BK275.out 7; have hfz36_8 := blk_frozen BK275.out 8) | (go_at_call 23; (with_reducible refine (castellanref5_Same.calls a2_0 a2_1 a2_2 a2_3 a2_4 a2_5 a2_6 _ _ l2_7 _ _ l2_8 t282 t283 t284 t285 t286 t287 t288 _ _ t289 _ _ t292 true _ ?side1 ?side2 ?side3 ?side4 ?side5 ?side6 ?side7 ?side8 A20.out).mono ?_); (case side1 => exact Kd.C_below HR2_7.out (by repeat (first | (with_reducible first | exact HB.out | apply below_alloc | apply pw_below_drewN | apply below_drew1 | refine below_set ?_ GE275.out | refine below_set ?_ GE296.out) | exact HB.out))); (case side2 => exact HC2_7.out); (case side3 => exact Kd.C_below HR2_8.out (by repeat (first | (with_reducible first | exact HB.out | apply below_alloc | apply pw_below_drewN | apply below_drew1 | refine below_set ?_ GE275.out | refine below_set ?_ GE296.out) | exact HB.out))); (case side4 => exact HC2_8.out); (case side5 => refine (Kd.R_reads' (e := 5) (base := w.heap.size) (ok := fun k_ => (some k_ ≠ (.slice Ao35 t292.length co35 : Value).ownBlock ∧ some k_ ≠ (.slice Ao29 t278.length co29 : Value).ownBlock)) (n := t289.length) (c := co34) ?_).2.2; exact (by (with_reducible repeat (first | apply Kd.R_alloc | apply Kd.R_drewN | apply Kd.R_drew)); exact (Kd.R_mono (Kd.R_far (p := ⟨gb296, 8, none⟩) (Kd.R_far (p := ⟨gb296, 7, none⟩) (Kd.R_far (p := ⟨gb296, 6, none⟩) (Kd.R_far (p := ⟨gb296, 5, none⟩) (Kd.R_far (p := ⟨gb296, 4, none⟩) (Kd.R_far (p := ⟨gb296, 3, none⟩) (Kd.R_far (p := ⟨gb296, 2, none⟩) (Kd.R_far (p := ⟨gb296, 1, none⟩) (Kd.R_far (p := ⟨gb296, 0, none⟩) (Kd.R_types HO291.out BK296.out (by decide)) (fun _ hk => hk.2) (.int .i64 t282)) (fun _ hk => hk.2) (.int .i64 t283)) (fun _ hk => hk.2) (.int .u32 t284)) (fun _ hk => hk.2) (.int .u32 t285)) (fun _ hk => hk.2) (.int .i64 t286)) (fun _ hk => hk.2) (.int .i64 t287)) (fun _ hk => hk.2) (.int .i64 t288)) (fun _ hk => hk.2) (.slice Ao34 t289.length co34)) (fun _ hk => hk.2) (.slice Ao35 t292.length co35)) (fun _ h_ => h_.1)))); (case side6 => exact (Kd.R_reads' HO291.out).2.1); (case side7 => refine (Kd.R_reads' (e := 5) (base := w.heap.size) (ok := fun k_ => (some k_ ≠ (.slice Ao34 t289.length co34 : Value).ownBlock ∧ some k_ ≠ (.slice Ao29 t278.length co29 : Value).ownBlock)) (n := t292.length) (c := co35) ?_).2.2; exact (by (with_reducible repeat (first | apply Kd.R_alloc | apply Kd.R_drewN | apply Kd.R_drew)); exact (Kd.R_mono (Kd.R_far (p := ⟨gb296, 8, none⟩) (Kd.R_far (p := ⟨gb296, 7, none⟩) (Kd.R_far (p := ⟨gb296, 6, none⟩) (Kd.R_far (p := ⟨gb296, 5, none⟩) (Kd.R_far (p := ⟨gb296, 4, none⟩) (Kd.R_far (p := ⟨gb296, 3, none⟩) (Kd.R_far (p := ⟨gb296, 2, none⟩) (Kd.R_far (p := ⟨gb296, 1, none⟩) (Kd.R_far (p := ⟨gb296, 0, none⟩) (Kd.R_types HO294.out BK296.out (by decide)) (fun _ hk => hk.2) (.int .i64 t282)) (fun _ hk => hk.2) (.int .i64 t283)) (fun _ hk => hk.2) (.int .u32 t284)) (fun _ hk => hk.2) (.int .u32 t285)) (fun _ hk => hk.2) (.int .i64 t286)) (fun _ hk => hk.2) (.int .i64 t287)) (fun _ hk => hk.2) (.int .i64 t288)) (fun _ hk => hk.2) (.slice Ao34 t289.length co34)) (fun _ hk => hk.2) (.slice Ao35 t292.length co35)) (fun _ h_ => h_.1)))); (case side8 => exact (Kd.R_reads' HO294.out).2.1); rintro e w37 ⟨rfl, hb⟩; have n0_ := Aside0.mk (Kd.R_below (by (with_reducible repeat (first | apply Kd.R_alloc | apply Kd.R_drewN | apply Kd.R_drew)); exact (Kd.R_mono (Kd.R_far (p := ⟨gb296, 8, none⟩) (Kd.R_far (p := ⟨gb296, 7, none⟩) (Kd.R_far (p := ⟨gb296, 6, none⟩) (Kd.R_far (p := ⟨gb296, 5, none⟩) (Kd.R_far (p := ⟨gb296, 4, none⟩) (Kd.R_far (p := ⟨gb296, 3, none⟩) (Kd.R_far (p := ⟨gb296, 2, none⟩) (Kd.R_far (p := ⟨gb296, 1, none⟩) (Kd.R_far (p := ⟨gb296, 0, none⟩) (Kd.R_types HO280.out BK296.out (by decide)) (fun _ hk => hk.2) (.int .i64 t282)) (fun _ hk => hk.2) (.int .i64 t283)) (fun _ hk => hk.2) (.int .u32 t284)) (fun _ hk => hk.2) (.int .u32 t285)) (fun _ hk => hk.2) (.int .i64 t286)) (fun _ hk => hk.2) (.int .i64 t287)) (fun _ hk => hk.2) (.int .i64 t288)) (fun _ hk => hk.2) (.slice Ao34 t289.length co34)) (fun _ hk => hk.2) (.slice Ao35 t292.length co35)) (fun _ h_ => h_.1))) hb); have n1_ := Aside0.mk (Kd.R_below (by (with_reducible repeat (first | apply Kd.R_alloc | apply Kd.R_drewN | apply Kd.R_drew)); exact (Kd.R_mono (Kd.R_far (p := ⟨gb296, 8, none⟩) (Kd.R_far (p := ⟨gb296, 7, none⟩) (Kd.R_far (p := ⟨gb296, 6, none⟩) (Kd.R_far (p := ⟨gb296, 5, none⟩) (Kd.R_far (p := ⟨gb296, 4, none⟩) (Kd.R_far (p := ⟨gb296, 3, none⟩) (Kd.R_far (p := ⟨gb296, 2, none⟩) (Kd.R_far (p := ⟨gb296, 1, none⟩) (Kd.R_far (p := ⟨gb296, 0, none⟩) (Kd.R_types HO291.out BK296.out (by decide)) (fun _ hk => hk.2) (.int .i64 t282)) (fun _ hk => hk.2) (.int .i64 t283)) (fun _ hk => hk.2) (.int .u32 t284)) (fun _ hk => hk.2) (.int .u32 t285)) (fun _ hk => hk.2) (.int .i64 t286)) (fun _ hk => hk.2) (.int .i64 t287)) (fun _ hk => hk.2) (.int .i64 t288)) (fun _ hk => hk.2) (.slice Ao34 t289.length co34)) (fun _ hk => hk.2) (.slice Ao35 t292.length co35)) (fun _ h_ => h_.1))) hb); have n2_ := Aside0.mk (Kd.R_below (by (with_reducible repeat (first | apply Kd.R_alloc | apply Kd.R_drewN | apply Kd.R_drew)); exact (Kd.R_mono (Kd.R_far (p := ⟨gb296, 8, none⟩) (Kd.R_far (p := ⟨gb296, 7, none⟩) (Kd.R_far (p := ⟨gb296, 6, none⟩) (Kd.R_far (p := ⟨gb296, 5, none⟩) (Kd.R_far (p := ⟨gb296, 4, none⟩) (Kd.R_far (p := ⟨gb296, 3, none⟩) (Kd.R_far (p := ⟨gb296, 2, none⟩) (Kd.R_far (p := ⟨gb296, 1, none⟩) (Kd.R_far (p := ⟨gb296, 0, none⟩) (Kd.R_types HO294.out BK296.out (by decide)) (fun _ hk => hk.2) (.int .i64 t282)) (fun _ hk => hk.2) (.int .i64 t283)) (fun _ hk => hk.2) (.int .u32 t284)) (fun _ hk => hk.2) (.int .u32 t285)) (fun _ hk => hk.2) (.int .i64 t286)) (fun _ hk => hk.2) (.int .i64 t287)) (fun _ hk => hk.2) (.int .i64 t288)) (fun _ hk => hk.2) (.slice Ao34 t289.length co34)) (fun _ hk => hk.2) (.slice Ao35 t292.length co35)) (fun _ h_ => h_.1))) hb); have n3_ := Aside0.mk (blk_below (g := gb275) (o := .cells #[.int .i64 a2_0, .int .i64 a2_1, .int .u32 a2_2, .int .u32 a2_3, .int .i64 a2_4, .int .i64 a2_5, .int .i64 a2_6, .slice A2_7 l2_7.length c2_7, .slice A2_8 l2_8.length c2_8] 27 (0, 0)) (by (with_reducible repeat (first | refine blk_drewN ?_ _ | refine blk_drew ?_ | refine blk_alloc ?_ _)); refine blk_far ?_ NB275_296.out _; (with_reducible repeat (first | refine blk_drewN ?_ _ | refine blk_drew ?_ | refine blk_alloc ?_ _)); refine blk_far ?_ NB275_296.out _; (with_reducible repeat (first | refine blk_drewN ?_ _ | refine blk_drew ?_ | refine blk_alloc ?_ _)); refine blk_far ?_ NB275_296.out _; (with_reducible repeat (first | refine blk_drewN ?_ _ | refine blk_drew ?_ | refine blk_alloc ?_ _)); refine blk_far ?_ NB275_296.out _; (with_reducible repeat (first | refine blk_drewN ?_ _ | refine blk_drew ?_ | refine blk_alloc ?_ _)); refine blk_far ?_ NB275_296.out _; (with_reducible repeat (first | refine blk_drewN ?_ _ | refine blk_drew ?_ | refine blk_alloc ?_ _)); refine blk_far ?_ NB275_296.out _; (with_reducible repeat (first | refine blk_drewN ?_ _ | refine blk_drew ?_ | refine blk_alloc ?_ _)); refine blk_far ?_ NB275_296.out _; (with_reducible repeat (first | refine blk_drewN ?_ _ | refine blk_drew ?_ | refine blk_alloc ?_ _)); refine blk_far ?_ NB275_296.out _; (with_reducible repeat (first | refine blk_drewN ?_ _ | refine blk_drew ?_ | refine blk_alloc ?_ _)); refine blk_far ?_ NB275_296.out _; (with_reducible repeat (first | refine blk_drewN ?_ _ | refine blk_drew ?_ | refine blk_alloc ?_ _)); exact BK275.out) hb); have n4_ := Aside0.mk (blk_below (g := gb296) (o := .cells #[.int .i64 t282, .int .i64 t283, .int .u32 t284, .int .u32 t285, .int .i64 t286, .int .i64 t287, .int .i64 t288, .slice Ao34 t289.length co34, .slice Ao35 t292.length co35] 27 (0, 0)) (by (with_reducible repeat (first | refine blk_drewN ?_ _ | refine blk_drew ?_ | refine blk_alloc ?_ _)); refine blk_put (cs := #[.int .i64 t282, .int .i64 t283, .int .u32 t284, .int .u32 t285, .int .i64 t286, .int .i64 t287, .int .i64 t288, .slice Ao34 t289.length co34, .slice none 0 0]) ?_ 8 _ rfl; (with_reducible repeat (first | refine blk_drewN ?_ _ | refine blk_drew ?_ | refine blk_alloc ?_ _)); refine blk_put (cs := #[.int .i64 t282, .int .i64 t283, .int .u32 t284, .int .u32 t285, .int .i64 t286, .int .i64 t287, .int .i64 t288, .slice none 0 0, .slice none 0 0]) ?_ 7 _ rfl; (with_reducible repeat (first | refine blk_drewN ?_ _ | refine blk_drew ?_ | refine blk_alloc ?_ _)); refine blk_put (cs := #[.int .i64 t282, .int .i64 t283, .int .u32 t284, .int .u32 t285, .int .i64 t286, .int .i64 t287, .int .i64 0, .slice none 0 0, .slice none 0 0]) ?_ 6 _ rfl; (with_reducible repeat (first | refine blk_drewN ?_ _ | refine blk_drew ?_ | refine blk_alloc ?_ _)); refine blk_put (cs := #[.int .i64 t282, .int .i64 t283, .int .u32 t284, .int .u32 t285, .int .i64 t286, .int .i64 0, .int .i64 0, .slice none 0 0, .slice none 0 0]) ?_ 5 _ rfl; (with_reducible repeat (first | refine blk_drewN ?_ _ | refine blk_drew ?_ | refine blk_alloc ?_ _)); refine blk_put (cs := #[.int .i64 t282, .int .i64 t283, .int .u32 t284, .int .u32 t285, .int .i64 0, .int .i64 0, .int .i64 0, .slice none 0 0, .slice none 0 0]) ?_ 4 _ rfl; (with_reducible repeat (first | refine blk_drewN ?_ _ | refine blk_drew ?_ | refine blk_alloc ?_ _)); refine blk_put (cs := #[.int .i64 t282, .int .i64 t283, .int .u32 t284, .int .u32 0, .int .i64 0, .int .i64 0, .int .i64 0, .slice none 0 0, .slice none 0 0]) ?_ 3 _ rfl; (with_reducible repeat (first | refine blk_drewN ?_ _ | refine blk_drew ?_ | refine blk_alloc ?_ _)); refine blk_put (cs := #[.int .i64 t282, .int .i64 t283, .int .u32 0, .int .u32 0, .int .i64 0, .int .i64 0, .int .i64 0, .slice none 0 0, .slice none 0 0]) ?_ 2 _ rfl; (with_reducible repeat (first | refine blk_drewN ?_ _ | refine blk_drew ?_ | refine blk_alloc ?_ _)); refine blk_put (cs := #[.int .i64 t282, .int .i64 0, .int .u32 0, .int .u32 0, .int .i64 0, .int .i64 0, .int .i64 0, .slice none 0 0, .slice none 0 0]) ?_ 1 _ rfl; (with_reducible repeat (first | refine blk_drewN ?_ _ | refine blk_drew ?_ | refine blk_alloc ?_ _)); refine blk_put (cs := #[.int .i64 0, .int .i64 0, .int .u32 0, .int .u32 0, .int .i64 0, .int .i64 0, .int .i64 0, .slice none 0 0, .slice none 0 0]) ?_ 0 _ rfl; (with_reducible repeat (first | refine blk_drewN ?_ _ | refine blk_drew ?_ | refine blk_alloc ?_ _)); exact BK296.out) hb); have n5_ := Aside0.mk (below_step (by repeat (first | (with_reducible first | exact HB.out | apply below_alloc | apply pw_below_drewN | apply below_drew1 | refine below_set ?_ GE275.out | refine below_set ?_ GE296.out) | exact HB.out)) hb); clear HO280; clear HO291; clear HO294; clear BK275; clear BK296; clear HB; have HO280 := n0_; have HO291 := n1_; have HO294 := n2_; have BK275 := n3_; have BK296 := n4_; have HB := n5_; clear n0_ n1_ n2_ n3_ n4_ n5_; (try clear hb); (try clear hb2); (try clear hk); (try clear hi)) | (go_at_call 39; (with_reducible refine (castellanref2_Pseudo.calls a0 a1 6 (t278.length : Int) t298 _ A22.out).mono ?_); rintro e w38 ⟨v299, rfl, ho0, hb⟩; have n0_ := Aside0.mk (Kd.R_elder' (by (with_reducible repeat (first | apply Kd.R_alloc | apply Kd.R_drewN | apply Kd.R_drew)); exact HO280.out) (Kd.R_base ho0) hb); have n1_ := Aside0.mk (Kd.R_elder' (by (with_reducible repeat (first | apply Kd.R_alloc | apply Kd.R_drewN | apply Kd.R_drew)); exact HO291.out) (Kd.R_base ho0) hb); have n2_ := Aside0.mk (Kd.R_elder' (by (with_reducible repeat (first | apply Kd.R_alloc | apply Kd.R_drewN | apply Kd.R_drew)); exact HO294.out) (Kd.R_base ho0) hb); have n3_ := Aside0.mk (Kd.R_lower (Kd.R_new' (Kd.R_new' (Kd.R_new' ho0 (Kd.R_lt (by (with_reducible repeat (first | apply Kd.R_alloc | apply Kd.R_drewN | apply Kd.R_drew)); exact HO280.out))) (Kd.R_lt (by (with_reducible repeat (first | apply Kd.R_alloc | apply Kd.R_drewN | apply Kd.R_drew)); exact HO291.out))) (Kd.R_lt (by (with_reducible repeat (first | apply Kd.R_alloc | apply Kd.R_drewN | apply Kd.R_drew)); exact HO294.out))) (below_size (by repeat (first | (with_reducible first | exact HB.out | apply below_alloc | apply pw_below_drewN | apply below_drew1 | refine below_set ?_ GE275.out | refine below_set ?_ GE296.out) | exact HB.out)))); have n4_ := Aside0.mk (blk_below (g := gb275) (o := .cells #[.int .i64 a2_0, .int .i64 a2_1, .int .u32 a2_2, .int .u32 a2_3, .int .i64 a2_4, .int .i64 a2_5, .int .i64 a2_6, .slice A2_7 l2_7.length c2_7, .slice A2_8 l2_8.length c2_8] 27 (0, 0)) (by (with_reducible repeat (first | refine blk_drewN ?_ _ | refine blk_drew ?_ | refine blk_alloc ?_ _)); exact BK275.out) hb); have n5_ := Aside0.mk (blk_below (g := gb296) (o := .cells #[.int .i64 t282, .int .i64 t283, .int .u32 t284, .int .u32 t285, .int .i64 t286, .int .i64 t287, .int .i64 t288, .slice Ao34 t289.length co34, .slice Ao35 t292.length co35] 27 (0, 0)) (by (with_reducible repeat (first | refine blk_drewN ?_ _ | refine blk_drew ?_ | refine blk_alloc ?_ _)); exact BK296.out) hb); have n6_ := Aside0.mk (below_step (by repeat (first | (with_reducible first | exact HB.out | apply below_alloc | apply pw_below_drewN | apply below_drew1 | refine below_set ?_ GE275.out | refine below_set ?_ GE296.out) | exact HB.out)) hb); clear HO280; clear HO291; clear HO294; clear BK275; clear BK296; clear HB; have HO280 := n0_; have HO291 := n1_; have HO294 := n2_; have HO300 := n3_; have BK275 := n4_; have BK296 := n5_; have HB := n6_; clear n0_ n1_ n2_ n3_ n4_ n5_ n6_; (try clear hb); (try clear hb2); (try clear hk); (try clear hi); (try clear ho0)) | ((with_reducible refine gate_builtin (b := .append) (xs := #[.tmp 46, .tmp 47]) rfl ?_); (try (refine gate_guard (by rfl) ?_; dsimp only)); at_builtin; refine Kd.R_append_rows (Kd.int .u8) (w0 := w) w.heap.size rfl (.tmp 46) (.tmp 47) 25 5 (.int .u8 0) 1 rfl Try.underlying25 info5 rfl (by decide) (by omega) v299 t298 t278 _ _ _ (fun k_ => some k_ ≠ (.slice Ao29 t278.length co29 : Value).ownBlock ∧ some k_ ≠ (.slice Ao34 t289.length co34 : Value).ownBlock ∧ some k_ ≠ (.slice Ao35 t292.length co35 : Value).ownBlock) (fun _ => False) rfl rfl ?aO ?aR (fun _ _ h => h) (fun _ h => h.elim) ?aF ?aB ?aS ?aL ?_; (case aR => repeat (first | exact (Kd.R_reads' HO280.out).2.2 | (with_reducible refine Kd.C_alloc ?_ _) | (with_reducible refine Kd.C_drewN ?_ _) | (with_reducible refine Kd.C_drew ?_))); (case aB => exact (by repeat (first | (with_reducible first | exact HB.out | apply below_alloc | apply pw_below_drewN | apply below_drew1 | refine below_set ?_ GE275.out | refine below_set ?_ GE296.out) | exact HB.out))); (case aF => exact (fun k_ hk => ⟨Kd.fresh' (Kd.R_lt (by (with_reducible repeat (first | apply Kd.R_alloc | apply Kd.R_drewN | apply Kd.R_drew)); exact HO280.out)) k_ hk, Kd.fresh' (Kd.R_lt (by (with_reducible repeat (first | apply Kd.R_alloc | apply Kd.R_drewN | apply Kd.R_drew)); exact HO291.out)) k_ hk, Kd.fresh' (Kd.R_lt (by (with_reducible repeat (first | apply Kd.R_alloc | apply Kd.R_drewN | apply Kd.R_drew)); exact HO294.out)) k_ hk⟩)); (case aO => exact (by (with_reducible repeat (first | apply Kd.R_alloc | apply Kd.R_drewN | apply Kd.R_drew)); exact Kd.R_mono HO300.out (fun _ hk => ⟨hk.1.1.2, ⟨hk.1.2, hk.2⟩⟩))); (case aS => exact (below_size (by repeat (first | (with_reducible first | exact HB.out | apply below_alloc | apply pw_below_drewN | apply below_drew1 | refine below_set ?_ GE275.out | refine below_set ?_ GE296.out) | exact HB.out)))); (case aL => have := LMc23.out; omega); intro v302 w39 ho hb hg hat; rw [← Ny301.out] at ho; have n0_ := Aside0.mk (blk_grown (g := gb275) (o := .cells #[.int .i64 a2_0, .int .i64 a2_1, .int .u32 a2_2, .int .u32 a2_3, .int .i64 a2_4, .int .i64 a2_5, .int .i64 a2_6, .slice A2_7 l2_7.length c2_7, .slice A2_8 l2_8.length c2_8] 27 (0, 0)) (by (with_reducible repeat (first | refine blk_drewN ?_ _ | refine blk_drew ?_ | refine blk_alloc ?_ _)); exact BK275.out) hg (Kd.R_ne HO300.out BK275.out (by decide))); have n1_ := Aside0.mk (Kd.R_after (ok := (fun k_ => some k_ ≠ (.slice Ao34 t289.length co34 : Value).ownBlock ∧ some k_ ≠ (.slice Ao35 t292.length co35 : Value).ownBlock)) (by (with_reducible repeat (first | apply Kd.R_alloc | apply Kd.R_drewN | apply Kd.R_drew)); exact Kd.R_mono HO280.out (fun _ hk => ⟨⟨hk.1.1.2, hk.1.2⟩, hk.2⟩)) hg hat); have n2_ := Aside0.mk (Kd.R_after (ok := (fun k_ => some k_ ≠ (.slice Ao29 t278.length co29 : Value).ownBlock ∧ some k_ ≠ (.slice Ao35 t292.length co35 : Value).ownBlock)) (by (with_reducible repeat (first | apply Kd.R_alloc | apply Kd.R_drewN | apply Kd.R_drew)); exact Kd.R_mono HO291.out (fun _ hk => ⟨⟨hk.1.2, hk.1.1⟩, hk.2⟩)) hg hat); have n3_ := Aside0.mk (Kd.R_after (ok := (fun k_ => some k_ ≠ (.slice Ao29 t278.length co29 : Value).ownBlock ∧ some k_ ≠ (.slice Ao34 t289.length co34 : Value).ownBlock)) (by (with_reducible repeat (first | apply Kd.R_alloc | apply Kd.R_drewN | apply Kd.R_drew)); exact Kd.R_mono HO294.out (fun _ hk => ⟨⟨hk.1.2, hk.1.1⟩, hk.2⟩)) hg hat); have n4_ := Aside0.mk (blk_grown (g := gb296) (o := .cells #[.int .i64 t282, .int .i64 t283, .int .u32 t284, .int .u32 t285, .int .i64 t286, .int .i64 t287, .int .i64 t288, .slice Ao34 t289.length co34, .slice Ao35 t292.length co35] 27 (0, 0)) (by (with_reducible repeat (first | refine blk_drewN ?_ _ | refine blk_drew ?_ | refine blk_alloc ?_ _)); exact BK296.out) hg (Kd.R_ne HO300.out BK296.out (by decide))); have n5_ := Aside0.mk (hb); have n6_ := Aside0.mk (ho); clear BK275; clear HO280; clear HO291; clear HO294; clear BK296; clear HB; clear HO300; have BK275 := n0_; have HO280 := n1_; have HO291 := n2_; have HO294 := n3_; have BK296 := n4_; have HB := n5_; have HO303 := n6_; clear n0_ n1_ n2_ n3_ n4_ n5_ n6_; clear ho hb hg hat; obtain ⟨Ao40, co40, eo40⟩ := Kd.R_slice HO303.out; subst eo40) | (go_at_call 31; (with_reducible refine (castellanref2_Right.calls kj3 _ _ y301 true _ ?side1 ?side2 A24.out).mono ?_); (case side1 => repeat (first | exact (Kd.R_reads' HO303.out).2.2 | (with_reducible refine Kd.C_alloc ?_ _) | (with_reducible refine Kd.C_drewN ?_ _) | (with_reducible refine Kd.C_drew ?_))); (case side2 => exact (Kd.R_reads' HO303.out).2.1); rintro e w' ⟨rfl, ⟨nd, rfl⟩⟩) | (go_at_call 19; (with_reducible refine (castellanlaw5_known.calls kj3  t305 _ A26.out).mono ?_); rintro e w41 ⟨rfl, hb⟩; have n0_ := Aside0.mk (Kd.R_below (by (with_reducible repeat (first | apply Kd.R_alloc | apply Kd.R_drewN | apply Kd.R_drew)); exact HO280.out) hb); have n1_ := Aside0.mk (Kd.R_below (by (with_reducible repeat (first | apply Kd.R_alloc | apply Kd.R_drewN | apply Kd.R_drew)); exact HO291.out) hb); have n2_ := Aside0.mk (Kd.R_below (by (with_reducible repeat (first | apply Kd.R_alloc | apply Kd.R_drewN | apply Kd.R_drew)); exact HO294.out) hb); have n3_ := Aside0.mk (Kd.R_below (by (with_reducible repeat (first | apply Kd.R_alloc | apply Kd.R_drewN | apply Kd.R_drew)); exact HO303.out) hb); have n4_ := Aside0.mk (blk_below (g := gb275) (o := .cells #[.int .i64 a2_0, .int .i64 a2_1, .int .u32 a2_2, .int .u32 a2_3, .int .i64 a2_4, .int .i64 a2_5, .int .i64 a2_6, .slice A2_7 l2_7.length c2_7, .slice A2_8 l2_8.length c2_8] 27 (0, 0)) (by (with_reducible repeat (first | refine blk_drewN ?_ _ | refine blk_drew ?_ | refine blk_alloc ?_ _)); exact BK275.out) hb); have n5_ := Aside0.mk (blk_below (g := gb296) (o := .cells #[.int .i64 t282, .int .i64 t283, .int .u32 t284, .int .u32 t285, .int .i64 t286, .int .i64 t287, .int .i64 t288, .slice Ao34 t289.length co34, .slice Ao35 t292.length co35] 27 (0, 0)) (by (with_reducible repeat (first | refine blk_drewN ?_ _ | refine blk_drew ?_ | refine blk_alloc ?_ _)); exact BK296.out) hb); have n6_ := Aside0.mk (below_step (by repeat (first | (with_reducible first | exact HB.out | apply below_alloc | apply pw_below_drewN | apply below_drew1 | refine below_set ?_ GE275.out | refine below_set ?_ GE296.out) | exact HB.out)) hb); clear HO280; clear HO291; clear HO294; clear HO303; clear BK275; clear BK296; clear HB; have HO280 := n0_; have HO291 := n1_; have HO294 := n2_; have HO303 := n3_; have BK275 := n4_; have BK296 := n5_; have HB := n6_; clear n0_ n1_ n2_ n3_ n4_ n5_ n6_; (try clear hb); (try clear hb2); (try clear hk); (try clear hi)))
                  go_ret
                  exact ⟨by first | rfl | (simp [errW_none, errW_some] <;> rfl) | (simp [*, errW_none, errW_some] <;> rfl), by repeat (first | (with_reducible first | exact HB.out | apply below_alloc | apply pw_below_drewN | apply below_drew1 | refine below_set ?_ GE275.out | refine below_set ?_ GE296.out) | exact HB.out)⟩
                · replace c25 := Bool.eq_false_iff.mpr c25
                  subst c25
                  have H1 : (some false) = some r := by rw [if_neg (show ¬ (false = true) by decide)] at H; exact H
                  clear H
                  have H := H1
                  clear H1
                  exact absurd (H.trans (congrArg some HRT.out)) (by simp)
              · rw [if_neg c23] at H
                exact absurd H (by simp)
            · replace c21 := Bool.eq_false_iff.mpr c21
              subst c21
              have H1 : (some false) = some r := by rw [if_neg (show ¬ (false = true) by decide)] at H; exact H
              clear H
              have H := H1
              clear H1
              exact absurd (H.trans (congrArg some HRT.out)) (by simp)
          · rw [if_neg c19] at H
            have c19b0 : (t295 == 0) = false := beq_eq_false_iff_ne.mpr c19
            have c19b1 : (t295 != 0) = true := bne_iff_ne.mpr c19
            exact absurd (H.trans (congrArg some HRT.out)) (by simp)
        · rw [if_neg c18] at H
          have c18b0 : (t281 == 0) = false := beq_eq_false_iff_ne.mpr c18
          have c18b1 : (t281 != 0) = true := bne_iff_ne.mpr c18
          exact absurd (H.trans (congrArg some HRT.out)) (by simp)

/-- THE ONE PURE STATEMENT of castellanlaw5_TcpBack: yours. -/
def castellanlaw5_TcpBack.Pure : Prop := ∀ (a0 : Int) (a1 : Int) (a2_0 : Int) (a2_1 : Int) (a2_2 : Int) (a2_3 : Int) (a2_4 : Int) (a2_5 : Int) (a2_6 : Int) (l2_7 : List Int) (l2_8 : List Int), (Lit.int .u32 a0).wf = true → (Lit.int .u32 a1).wf = true → (Lit.int .i64 a2_0).wf = true → (Lit.int .i64 a2_1).wf = true → (Lit.int .u32 a2_2).wf = true → (Lit.int .u32 a2_3).wf = true → (Lit.int .i64 a2_4).wf = true → (Lit.int .i64 a2_5).wf = true → (Lit.int .i64 a2_6).wf = true → l2_7.length ≤ maxLen → l2_7.length * 1 ≤ 140737488351232 → (∀ x ∈ l2_7, (Lit.int .u8 x).wf = true) → l2_8.length ≤ maxLen → l2_8.length * 1 ≤ 140737488351232 → (∀ x ∈ l2_8, (Lit.int .u8 x).wf = true) → ∃ k, castellanlaw5_TcpBack.f k a0 a1 a2_0 a2_1 a2_2 a2_3 a2_4 a2_5 a2_6 l2_7 l2_8 = some true
theorem castellanlaw5_TcpBack.walk (P : castellanlaw5_TcpBack.Pure) (a0 : Int) (a1 : Int) (a2_0 : Int) (a2_1 : Int) (a2_2 : Int) (a2_3 : Int) (a2_4 : Int) (a2_5 : Int) (a2_6 : Int) (a2_7 : Option Addr) (len2_7 cap2_7 : Nat) (z2_7 : List Int) (a2_8 : Option Addr) (len2_8 cap2_8 : Nat) (z2_8 : List Int) (w : World) (w0 : (Lit.int .u32 a0).wf = true) (w1 : (Lit.int .u32 a1).wf = true) (w2_0 : (Lit.int .i64 a2_0).wf = true) (w2_1 : (Lit.int .i64 a2_1).wf = true) (w2_2 : (Lit.int .u32 a2_2).wf = true) (w2_3 : (Lit.int .u32 a2_3).wf = true) (w2_4 : (Lit.int .i64 a2_4).wf = true) (w2_5 : (Lit.int .i64 a2_5).wf = true) (w2_6 : (Lit.int .i64 a2_6).wf = true) (w2_7 : (a2_7 = none ∧ len2_7 = 0 ∧ cap2_7 = 0 ∧ z2_7 = []) ∨ ∃ x, a2_7 = some x ∧ len2_7 ≤ cap2_7 ∧ cap2_7 ≤ maxLen ∧ z2_7.length = cap2_7 ∧ (∀ i, i < z2_7.length → w.cell? (x.add i) = some (.int .u8 (z2_7.getD i 0))) ∧ ∀ n ∈ z2_7, (Lit.int .u8 n).wf = true) (y2_7 : len2_7 * 1 ≤ 140737488351232) (w2_8 : (a2_8 = none ∧ len2_8 = 0 ∧ cap2_8 = 0 ∧ z2_8 = []) ∨ ∃ x, a2_8 = some x ∧ len2_8 ≤ cap2_8 ∧ cap2_8 ≤ maxLen ∧ z2_8.length = cap2_8 ∧ (∀ i, i < z2_8.length → w.cell? (x.add i) = some (.int .u8 (z2_8.getD i 0))) ∧ ∀ n ∈ z2_8, (Lit.int .u8 n).wf = true) (y2_8 : len2_8 * 1 ≤ 140737488351232) :
    Calls Try.prog 12 #[.int .u32 a0, .int .u32 a1, .agg #[.int .i64 a2_0, .int .i64 a2_1, .int .u32 a2_2, .int .u32 a2_3, .int .i64 a2_4, .int .i64 a2_5, .int .i64 a2_6, .slice a2_7 len2_7 cap2_7, .slice a2_8 len2_8 cap2_8]] w fun e w' => e = .returned (.bool true) ∧ Below w.heap.size w w' := by
  obtain ⟨l2_7, rfl, hr2_7, hm2_7, hw2_7, hc2_7⟩ := ReadsInt.ofRowC w2_7
  obtain ⟨l2_8, rfl, hr2_8, hm2_8, hw2_8, hc2_8⟩ := ReadsInt.ofRowC w2_8
  obtain ⟨k, h⟩ := P a0 a1 a2_0 a2_1 a2_2 a2_3 a2_4 a2_5 a2_6 l2_7 l2_8 w0 w1 w2_0 w2_1 w2_2 w2_3 w2_4 w2_5 w2_6 hm2_7 y2_7 hw2_7 hm2_8 y2_8 hw2_8
  refine (castellanlaw5_TcpBack.calls k a0 a1 a2_0 a2_1 a2_2 a2_3 a2_4 a2_5 a2_6 _ _ l2_7 _ _ l2_8 true w (Kd.C_of_reads (d := (0 : Int)) (h1 := fun _ => rfl) hr2_7) hc2_7 (Kd.C_of_reads (d := (0 : Int)) (h1 := fun _ => rfl) hr2_8) hc2_8 rfl h).mono ?_
  rintro e w' ⟨rfl, hd⟩
  exact ⟨rfl, hd⟩

end Go.Proofs.Ytbenimfjhcbplaa.QTcpBack
