-- written by myprint.py, a program of this session's over the kit's printer
import Derived.Test.YtkdibloahkhgoaaQReplyResetsx0
import Derived.Test.YtkdibloahkhgoaaQReplyResetsx1
namespace Go.Proofs.Ytkdibloahkhgoaa.QReplyResets
open Go.RowKit Go.Proofs.YtkdibloahkhgoaaW.PrintWords Go.Proofs.YtkdibloahkhgoaaW.PrintLast Go.Proofs.YtkdibloahkhgoaaW.PrintMore
attribute [local go_sem] max2_int min2_int max_two min_two max_three min_three max_four min_four   -- for this text's walks alone
set_option linter.unusedVariables false
set_option linter.unusedSimpArgs false

/-! ### castellanref8_Class: function 21 -/
def castellanref8_Class.f (a0_0 : Int) (a0_1 : Int) (a0_2 : Bool) (a0_3 : Bool) (a0_4 : Int) (a0_5 : Int) (a0_6 : Int) (a0_7 : Int) (a0_8 : Int) (l0_9 : List Int) (l0_10 : List Int) : Option (Int) := if a0_4 = 0 then (if a0_3 = true then (some 1) else (some 0)) else (some 2)
set_option maxHeartbeats 8000000 in
set_option maxRecDepth 100000 in
theorem castellanref8_Class.calls (a0_0 : Int) (a0_1 : Int) (a0_2 : Bool) (a0_3 : Bool) (a0_4 : Int) (a0_5 : Int) (a0_6 : Int) (a0_7 : Int) (a0_8 : Int) (A0_9 : Option Addr) (c0_9 : Nat) (l0_9 : List Int) (A0_10 : Option Addr) (c0_10 : Nat) (l0_10 : List Int) (r : Int) (w : World) (hr0_9 : Kd.C (Kd.int .u8) w A0_9 l0_9.length l0_9) (hc0_9 : l0_9.length ≤ c0_9) (hr0_10 : Kd.C (Kd.int .u8) w A0_10 l0_10.length l0_10) (hc0_10 : l0_10.length ≤ c0_10) (h : castellanref8_Class.f a0_0 a0_1 a0_2 a0_3 a0_4 a0_5 a0_6 a0_7 a0_8 l0_9 l0_10 = some r) :
  Calls Try.prog 21 #[.agg #[.int .i64 a0_0, .int .i64 a0_1, .bool a0_2, .bool a0_3, .int .i64 a0_4, .int .i64 a0_5, .int .i64 a0_6, .int .u32 a0_7, .int .u32 a0_8, .slice A0_9 l0_9.length c0_9, .slice A0_10 l0_10.length c0_10]] w fun e w' => e = .returned (.int .i64 r) ∧ Below w.heap.size w w' := by
 have hu26 := Try.underlying26; have HR0_9 := Aside0.mk hr0_9; have HC0_9 := Aside0.mk hc0_9; clear hr0_9 hc0_9; have HR0_10 := Aside0.mk hr0_10; have HC0_10 := Aside0.mk hc0_10; clear hr0_10 hc0_10; have HB := Aside0.mk (Below.refl w.heap.size w); have H : (if a0_4 = 0 then (if a0_3 = true then (some 1) else (some 0)) else (some 2)) = some r := h; clear h
 by_cases c2 : a0_4 = 0
 ·rw [if_pos c2] at H; have c2b0 : (a0_4 == 0) = true := beq_iff_eq.mpr c2; have c2b1 : (a0_4 != 0) = false := bne_eq_false_iff_eq.mpr c2; clear c2
  by_cases c3 : a0_3 = true
  ·subst c3; have H1 : (some 1) = some r := by rw [if_pos rfl] at H; exact H
   clear H; have H := H1; clear H1; obtain rfl := Option.some.inj H; go_enter Try.func21, Try.ntmps21
   go_wp2_with (first | ((with_reducible refine gate_dst (N := 1) rfl ?_); refine box_event ?hg (N := 1) ?hd (cs := #[.int .i64 a0_0, .int .i64 a0_1, .bool a0_2, .bool true, .int .i64 a0_4, .int .i64 a0_5, .int .i64 a0_6, .int .u32 a0_7, .int .u32 a0_8, .slice A0_9 l0_9.length c0_9, .slice A0_10 l0_10.length c0_10]) (t := 26) ?hr ?_; (case hd => rfl); (case hg => rfl); (case hr => first | (go_simp; done) | (go_simp; rfl)); intro gb176 hg w4 hbox hb; have n0_ := Aside0.mk (below_step (by repeat (first | (with_reducible first | exact HB.out | apply below_alloc | apply pw_below_drewN | apply below_drew1) | exact HB.out)) hb); have n1_ := Aside0.mk (hbox); have n2_ := Aside0.mk ((by rw [hg]; exact (below_size (by repeat (first | (with_reducible first | exact HB.out | apply below_alloc | apply pw_below_drewN | apply below_drew1) | exact HB.out))) : w.heap.size ≤ gb176)); have n3_ := Aside0.mk ((by rw [hg]; exact (below_size (by repeat (first | (with_reducible first | exact HB.out | apply below_alloc | apply pw_below_drewN | apply below_drew1) | exact HB.out))) : w.heap.size ≤ gb176)); clear HB; have HB := n0_; have BK176 := n1_; have GW176 := n2_; have GE176 := n3_; clear n0_ n1_ n2_ n3_; clear hb hbox hg; have hcz5 := fun j => blk_cell BK176.out j; have hfz5 := fun j => blk_frozen BK176.out j))
   go_ret; exact ⟨by first | rfl | (simp [errW_none, errW_some] <;> rfl) | (simp [*, errW_none, errW_some] <;> rfl), by repeat (first | (with_reducible first | exact HB.out | apply below_alloc | apply pw_below_drewN | apply below_drew1 | refine below_set ?_ GE176.out) | exact HB.out)⟩
  ·replace c3 := Bool.eq_false_iff.mpr c3; subst c3; have H1 : (some 0) = some r := by rw [if_neg (show ¬ (false = true) by decide)] at H; exact H
   clear H; have H := H1; clear H1; obtain rfl := Option.some.inj H; go_enter Try.func21, Try.ntmps21
   go_wp2_with (first | ((with_reducible refine gate_dst (N := 1) rfl ?_); refine box_event ?hg (N := 1) ?hd (cs := #[.int .i64 a0_0, .int .i64 a0_1, .bool a0_2, .bool false, .int .i64 a0_4, .int .i64 a0_5, .int .i64 a0_6, .int .u32 a0_7, .int .u32 a0_8, .slice A0_9 l0_9.length c0_9, .slice A0_10 l0_10.length c0_10]) (t := 26) ?hr ?_; (case hd => rfl); (case hg => rfl); (case hr => first | (go_simp; done) | (go_simp; rfl)); intro gb176 hg w6 hbox hb; have n0_ := Aside0.mk (below_step (by repeat (first | (with_reducible first | exact HB.out | apply below_alloc | apply pw_below_drewN | apply below_drew1) | exact HB.out)) hb); have n1_ := Aside0.mk (hbox); have n2_ := Aside0.mk ((by rw [hg]; exact (below_size (by repeat (first | (with_reducible first | exact HB.out | apply below_alloc | apply pw_below_drewN | apply below_drew1) | exact HB.out))) : w.heap.size ≤ gb176)); have n3_ := Aside0.mk ((by rw [hg]; exact (below_size (by repeat (first | (with_reducible first | exact HB.out | apply below_alloc | apply pw_below_drewN | apply below_drew1) | exact HB.out))) : w.heap.size ≤ gb176)); clear HB; have HB := n0_; have BK176 := n1_; have GW176 := n2_; have GE176 := n3_; clear n0_ n1_ n2_ n3_; clear hb hbox hg; have hcz7 := fun j => blk_cell BK176.out j; have hfz7 := fun j => blk_frozen BK176.out j))
   go_ret; exact ⟨by first | rfl | (simp [errW_none, errW_some] <;> rfl) | (simp [*, errW_none, errW_some] <;> rfl), by repeat (first | (with_reducible first | exact HB.out | apply below_alloc | apply pw_below_drewN | apply below_drew1 | refine below_set ?_ GE176.out) | exact HB.out)⟩
 ·rw [if_neg c2] at H; have c2b0 : (a0_4 == 0) = false := beq_eq_false_iff_ne.mpr c2; have c2b1 : (a0_4 != 0) = true := bne_iff_ne.mpr c2; obtain rfl := Option.some.inj H; go_enter Try.func21, Try.ntmps21
  go_wp2_with (first | ((with_reducible refine gate_dst (N := 1) rfl ?_); refine box_event ?hg (N := 1) ?hd (cs := #[.int .i64 a0_0, .int .i64 a0_1, .bool a0_2, .bool a0_3, .int .i64 a0_4, .int .i64 a0_5, .int .i64 a0_6, .int .u32 a0_7, .int .u32 a0_8, .slice A0_9 l0_9.length c0_9, .slice A0_10 l0_10.length c0_10]) (t := 26) ?hr ?_; (case hd => rfl); (case hg => rfl); (case hr => first | (go_simp; done) | (go_simp; rfl)); intro gb176 hg w8 hbox hb; have n0_ := Aside0.mk (below_step (by repeat (first | (with_reducible first | exact HB.out | apply below_alloc | apply pw_below_drewN | apply below_drew1) | exact HB.out)) hb); have n1_ := Aside0.mk (hbox); have n2_ := Aside0.mk ((by rw [hg]; exact (below_size (by repeat (first | (with_reducible first | exact HB.out | apply below_alloc | apply pw_below_drewN | apply below_drew1) | exact HB.out))) : w.heap.size ≤ gb176)); have n3_ := Aside0.mk ((by rw [hg]; exact (below_size (by repeat (first | (with_reducible first | exact HB.out | apply below_alloc | apply pw_below_drewN | apply below_drew1) | exact HB.out))) : w.heap.size ≤ gb176)); clear HB; have HB := n0_; have BK176 := n1_; have GW176 := n2_; have GE176 := n3_; clear n0_ n1_ n2_ n3_; clear hb hbox hg; have hcz9 := fun j => blk_cell BK176.out j; have hfz9 := fun j => blk_frozen BK176.out j))
  go_ret; exact ⟨by first | rfl | (simp [errW_none, errW_some] <;> rfl) | (simp [*, errW_none, errW_some] <;> rfl), by repeat (first | (with_reducible first | exact HB.out | apply below_alloc | apply pw_below_drewN | apply below_drew1 | refine below_set ?_ GE176.out) | exact HB.out)⟩

/-! ### castellanref4_Header: function 30 -/
def castellanref4_Header.f (l0 : List Int) : Option (Int) := if (l0.length : Int) = 0 then (some 0) else (if 0 < (l0.length : Int) then (some (wrap64 (4 * (wrap64 (Go.bits .and .u8 (rd l0 0) 15))))) else (none))
set_option maxHeartbeats 8000000 in
set_option maxRecDepth 100000 in
theorem castellanref4_Header.calls (A0 : Option Addr) (c0 : Nat) (l0 : List Int) (r : Int) (w : World) (hr0 : Kd.C (Kd.int .u8) w A0 l0.length l0) (hc0 : l0.length ≤ c0) (h : castellanref4_Header.f l0 = some r) :
  Calls Try.prog 30 #[.slice A0 l0.length c0] w fun e w' => e = .returned (.int .i64 r) ∧ Drawn0 w w' := by
 have HR0 := Aside0.mk hr0; have HC0 := Aside0.mk hc0; clear hr0 hc0; have H : (if (l0.length : Int) = 0 then (some 0) else (if 0 < (l0.length : Int) then (some (wrap64 (4 * (wrap64 (Go.bits .and .u8 (rd l0 0) 15))))) else (none))) = some r := h; clear h
 by_cases c2 : (l0.length : Int) = 0
 ·rw [if_pos c2] at H; have c2b0 : ((l0.length : Int) == 0) = true := beq_iff_eq.mpr c2; have c2b1 : ((l0.length : Int) != 0) = false := bne_eq_false_iff_eq.mpr c2; clear c2; obtain rfl := Option.some.inj H; go_enter Try.func30, Try.ntmps30; go_wp2; go_ret; exact ⟨by first | rfl | (simp; done) | (simp [*]; done), by repeat (first | exact Drawn0.refl _ | apply Drawn0.step)⟩
 ·rw [if_neg c2] at H; have c2b0 : ((l0.length : Int) == 0) = false := beq_eq_false_iff_ne.mpr c2; have c2b1 : ((l0.length : Int) != 0) = true := bne_iff_ne.mpr c2; have c2b2 : ¬ (l0 = []) := fun h_ => c2 (by rw [h_]; rfl)
  by_cases c3 : 0 < (l0.length : Int)
  ·rw [if_pos c3] at H; have c3b0 : decide (0 < (l0.length : Int)) = true := decide_eq_true c3; have c3b1 : decide (0 < l0.length) = true := decide_eq_true (by omega); clear c3; obtain rfl := Option.some.inj H
   have p177 : 0 ≤ (0 : Int) := (by omega)
   have q177 : 0 < (l0.length : Int) := of_decide_eq_true (by first | (with_reducible assumption) | assumption); obtain ⟨ad177, e177, hx177_0⟩ := Kd.at_int HR0.out 0 p177 q177; cases e177; have qi177 : (0 < l0.length) = True := eq_true (by omega); (try rw [show ((0 : Int)).toNat = 0 from rfl] at hx177_0); (try rw [Addr.add_zero'] at hx177_0); replace p177 := eq_true p177; replace q177 := eq_true q177; go_enter Try.func30, Try.ntmps30; go_wp2; go_ret; exact ⟨by first | rfl | (simp; done) | (simp [*]; done), by repeat (first | exact Drawn0.refl _ | apply Drawn0.step)⟩
  ·rw [if_neg c3] at H; exact absurd H (by simp)

/-! ### castellanref2_Right: function 52 -/
def castellanref2_Right.f (k : Nat) (l0 : List Int) : Option (Bool) := (castellanref2_Of.f k l0).bind fun t178 => (some (t178 == 0))
theorem castellanref2_Right.mono : ∀ a0 k, LeO (castellanref2_Right.f k a0) (castellanref2_Right.f (k + 1) a0) := by
 intro a0 k; unfold castellanref2_Right.f
 repeat' first
   | (with_reducible exact castellanref2_Of.mono _ _)
   | (with_reducible exact LeO.refl _)
   | (with_reducible exact LeO.none _)
   | (with_reducible refine LeO.ite ?_ ?_)
   | (with_reducible refine LeO.bind ?_ (fun _ => ?_))
   | exact castellanref2_Of.mono _ _
   | exact LeO.none _
   | refine LeO.ite ?_ ?_
   | refine LeO.bind ?_ (fun _ => ?_)
set_option maxHeartbeats 8000000 in
set_option maxRecDepth 100000 in
theorem castellanref2_Right.calls (k : Nat) (A0 : Option Addr) (c0 : Nat) (l0 : List Int) (r : Bool) (w : World) (hr0 : Kd.C (Kd.int .u8) w A0 l0.length l0) (hc0 : l0.length ≤ c0) (h : castellanref2_Right.f k l0 = some r) :
  Calls Try.prog 52 #[.slice A0 l0.length c0] w fun e w' => e = .returned (.bool r) ∧ Drawn0 w w' := by
 have HR0 := Aside0.mk hr0; have HC0 := Aside0.mk hc0; clear hr0 hc0; have H : ((castellanref2_Of.f k l0).bind fun t178 => (some (t178 == 0))) = some r := h; clear h; replace H := Option.bind_eq_some_iff.mp H; obtain ⟨t178, A20, H⟩ := H; replace H : (some (t178 == 0)) = some r := H; have A2 := Aside0.mk A20; clear A20; obtain rfl := Option.some.inj H; go_enter Try.func52, Try.ntmps52
 go_wp2_with (first | ((with_reducible refine gate_callee (f := 45) rfl ?_); refine goesL_ (some 4) rfl rfl Try.func45 (by kernel_rfl) rfl #[.slice A0 l0.length c0] rfl (by (try simp only [LmA, LmB, LmC]); first | done | rfl | (simp only [LdA, LtA]; rfl)) ?_; (with_reducible refine (castellanref2_Of.calls k _ _ l0 t178 _ ?side1 ?side2 A2.out).mono ?_); (case side1 => repeat (first | exact HR0.out | (with_reducible refine Kd.C_alloc ?_ _) | (with_reducible refine Kd.C_drewN ?_ _) | (with_reducible refine Kd.C_drew ?_))); (case side2 => exact HC0.out); rintro e w' ⟨rfl, ⟨nd, rfl⟩⟩; refine ⟨_, rfl, ?_⟩))
 go_ret; exact ⟨by first | rfl | (simp; done) | (simp [*]; done), by repeat (first | exact Drawn0.refl _ | apply Drawn0.step)⟩

/-! ### castellanref4_look: function 54 -/
mutual
def castellanref4_look.j0 : Nat → List Int → Int → Bool → Option (Int)
 | 0, _, _, _ => none
 | k + 1, x0, x3, x10 => if x10 = true then (some 2) else (if (x0.length : Int) < x3 then (some 3) else (if 0 ≤ x3 then (if x3 ≤ (x0.length : Int) then ((castellanref2_Right.f k (x0.take (x3 : Int).toNat)).bind fun t182 => (if t182 = true then ((castellanref1_Get16.f x0 2).bind fun t183 => (if t183 < x3 then (castellanref4_look.j1 k x0 true) else (if 6 < (x0.length : Int) then (castellanref4_look.j1 k x0 (((rd x0 6) / 128) == 1)) else (none)))) else (some 4))) else (none)) else (none)))
def castellanref4_look.j1 : Nat → List Int → Bool → Option (Int)
 | 0, _, _ => none
 | k + 1, x0, x31 => if x31 = true then (some 2) else ((castellanref1_Get16.f x0 2).bind fun t185 => (if t185 > (x0.length : Int) then (some 3) else (some 0)))
end
def castellanref4_look.f (k : Nat) (l0 : List Int) : Option (Int) := (castellanref4_Header.f l0).bind fun t179 => (if (l0.length : Int) < 20 then (some 3) else (if 0 < (l0.length : Int) then (if ((rd l0 0) / 16) = 4 then (castellanref4_look.j0 k l0 t179 (decide (t179 < 20))) else (castellanref4_look.j0 k l0 t179 true)) else (none)))
theorem castellanref4_look.mono_l : ∀ k, (∀ y0 y1 y2, LeO (castellanref4_look.j0 k y0 y1 y2) (castellanref4_look.j0 (k + 1) y0 y1 y2)) ∧ (∀ y0 y1, LeO (castellanref4_look.j1 k y0 y1) (castellanref4_look.j1 (k + 1) y0 y1))
 | 0 => ⟨fun _ _ _ r h => by simp [castellanref4_look.j0] at h, fun _ _ r h => by simp [castellanref4_look.j1] at h⟩
 | k + 1 => by
  obtain ⟨ih0, ih1⟩ := castellanref4_look.mono_l k; refine ⟨?_, ?_⟩
  ·intro y0 y1 y2; unfold castellanref4_look.j0
   repeat' first
   | (with_reducible exact ih0 _ _ _)
   | (with_reducible exact ih1 _ _)
   | (with_reducible exact castellanref2_Right.mono _ _)
   | (with_reducible exact LeO.refl _)
   | (with_reducible exact LeO.none _)
   | (with_reducible refine LeO.ite ?_ ?_)
   | (with_reducible refine LeO.bind ?_ (fun _ => ?_))
   | exact ih0 _ _ _
   | exact ih1 _ _
   | exact castellanref2_Right.mono _ _
   | exact LeO.none _
   | refine LeO.ite ?_ ?_
   | refine LeO.bind ?_ (fun _ => ?_)
  ·intro y0 y1; unfold castellanref4_look.j1
   repeat' first
   | (with_reducible exact ih0 _ _ _)
   | (with_reducible exact ih1 _ _)
   | (with_reducible exact castellanref2_Right.mono _ _)
   | (with_reducible exact LeO.refl _)
   | (with_reducible exact LeO.none _)
   | (with_reducible refine LeO.ite ?_ ?_)
   | (with_reducible refine LeO.bind ?_ (fun _ => ?_))
   | exact ih0 _ _ _
   | exact ih1 _ _
   | exact castellanref2_Right.mono _ _
   | exact LeO.none _
   | refine LeO.ite ?_ ?_
   | refine LeO.bind ?_ (fun _ => ?_)
theorem castellanref4_look.mono : ∀ a0 k, LeO (castellanref4_look.f k a0) (castellanref4_look.f (k + 1) a0) := by
 intro a0 k; obtain ⟨ih0, ih1⟩ := castellanref4_look.mono_l k; unfold castellanref4_look.f
 repeat' first
   | (with_reducible exact ih0 _ _ _)
   | (with_reducible exact ih1 _ _)
   | (with_reducible exact castellanref2_Right.mono _ _)
   | (with_reducible exact LeO.refl _)
   | (with_reducible exact LeO.none _)
   | (with_reducible refine LeO.ite ?_ ?_)
   | (with_reducible refine LeO.bind ?_ (fun _ => ?_))
   | exact ih0 _ _ _
   | exact ih1 _ _
   | exact castellanref2_Right.mono _ _
   | exact LeO.none _
   | refine LeO.ite ?_ ?_
   | refine LeO.bind ?_ (fun _ => ?_)
set_option maxHeartbeats 8000000 in
set_option maxRecDepth 100000 in
theorem castellanref4_look.calls (k : Nat) (A0 : Option Addr) (c0 : Nat) (l0 : List Int) (r : Int) (w : World) (hr0 : Kd.C (Kd.int .u8) w A0 l0.length l0) (hc0 : l0.length ≤ c0) (h : castellanref4_look.f k l0 = some r) :
  Calls Try.prog 54 #[.slice A0 l0.length c0] w fun e w' => e = .returned (.int .i64 r) ∧ Drawn0 w w' := by
 have HR0 := Aside0.mk hr0; have HC0 := Aside0.mk hc0; clear hr0 hc0; have H : ((castellanref4_Header.f l0).bind fun t179 => (if (l0.length : Int) < 20 then (some 3) else (if 0 < (l0.length : Int) then (if ((rd l0 0) / 16) = 4 then (castellanref4_look.j0 k l0 t179 (decide (t179 < 20))) else (castellanref4_look.j0 k l0 t179 true)) else (none)))) = some r := h; clear h; replace H := Option.bind_eq_some_iff.mp H; obtain ⟨t179, A20, H⟩ := H; replace H : (if (l0.length : Int) < 20 then (some 3) else (if 0 < (l0.length : Int) then (if ((rd l0 0) / 16) = 4 then (castellanref4_look.j0 k l0 t179 (decide (t179 < 20))) else (castellanref4_look.j0 k l0 t179 true)) else (none))) = some r := H; have A2 := Aside0.mk A20; clear A20
 by_cases c3 : (l0.length : Int) < 20
 ·rw [if_pos c3] at H; have c3b0 : decide ((l0.length : Int) < 20) = true := decide_eq_true c3; have c3b1 : decide (l0.length < 20) = true := decide_eq_true (by omega); clear c3; obtain rfl := Option.some.inj H; go_enter Try.func54, Try.ntmps54
  go_wp2_with (first | ((with_reducible refine gate_callee (f := 30) rfl ?_); refine goesL_ (some 5) rfl rfl Try.func30 (by kernel_rfl) rfl #[.slice A0 l0.length c0] rfl (by (try simp only [LmA, LmB, LmC]); first | done | rfl | (simp only [LdA, LtA]; rfl)) ?_; (with_reducible refine (castellanref4_Header.calls _ _ l0 t179 _ ?side1 ?side2 A2.out).mono ?_); (case side1 => repeat (first | exact HR0.out | (with_reducible refine Kd.C_alloc ?_ _) | (with_reducible refine Kd.C_drewN ?_ _) | (with_reducible refine Kd.C_drew ?_))); (case side2 => exact HC0.out); rintro e w' ⟨rfl, ⟨nd, rfl⟩⟩; refine ⟨_, rfl, ?_⟩))
  go_ret; exact ⟨by first | rfl | (simp; done) | (simp [*]; done), by repeat (first | exact Drawn0.refl _ | apply Drawn0.step)⟩
 ·rw [if_neg c3] at H; have c3b0 : decide ((l0.length : Int) < 20) = false := decide_eq_false c3; have c3b1 : decide (l0.length < 20) = false := decide_eq_false (by omega); clear c3; have HC4 := Aside0.mk H; clear H; go_enter Try.func54, Try.ntmps54
  go_upto_region 4 with (first | ((with_reducible refine gate_callee (f := 30) rfl ?_); refine goesL_ (some 5) rfl rfl Try.func30 (by kernel_rfl) rfl #[.slice A0 l0.length c0] rfl (by (try simp only [LmA, LmB, LmC]); first | done | rfl | (simp only [LdA, LtA]; rfl)) ?_; (with_reducible refine (castellanref4_Header.calls _ _ l0 t179 _ ?side1 ?side2 A2.out).mono ?_); (case side1 => repeat (first | exact HR0.out | (with_reducible refine Kd.C_alloc ?_ _) | (with_reducible refine Kd.C_drewN ?_ _) | (with_reducible refine Kd.C_drew ?_))); (case side2 => exact HC0.out); rintro e w' ⟨rfl, ⟨nd, rfl⟩⟩; refine ⟨_, rfl, ?_⟩))
  (try simp only [Act.put, LsA, LsB, LsC])
  go_cut [10] (fun v10 wc => ∃ (kq : Nat) (x10_3 : Bool), v10 = .bool x10_3 ∧ Aside0 (castellanref4_look.j0 kq l0 t179 x10_3 = some r) ∧ Aside0 (kq ≤ k) ∧ Drawn0 w wc)
  case first =>
   have H := HC4.out; clear HC4
   by_cases c5 : 0 < (l0.length : Int)
   ·rw [if_pos c5] at H; have c5b0 : decide (0 < (l0.length : Int)) = true := decide_eq_true c5; have c5b1 : decide (0 < l0.length) = true := decide_eq_true (by omega); clear c5
    (first | rw [c5b0] | (simp only [i64_w, i32_w]; rw [c5b0]) | skip)
    by_cases c6 : ((rd l0 0) / 16) = 4
    ·rw [if_pos c6] at H; have c6b0 : (((rd l0 0) / 16) == 4) = true := beq_iff_eq.mpr c6; have c6b1 : (((rd l0 0) / 16) != 4) = false := bne_eq_false_iff_eq.mpr c6; clear c6; have H' := Aside0.mk H; clear H
     have p180 : 0 ≤ (0 : Int) := (by omega)
     have q180 : 0 < (l0.length : Int) := of_decide_eq_true (by first | (with_reducible assumption) | assumption); obtain ⟨ad180, e180, hx180_0⟩ := Kd.at_int HR0.out 0 p180 q180; cases e180; have qi180 : (0 < l0.length) = True := eq_true (by omega); (try rw [show ((0 : Int)).toNat = 0 from rfl] at hx180_0); (try rw [Addr.add_zero'] at hx180_0); replace p180 := eq_true p180; replace q180 := eq_true q180; go_wp2; go_meet
     case rel => exact ⟨_, (decide (t179 < 20)), (by first | rfl | (simp; done) | (simp [*]; done)), H', ⟨by first | omega | exact Nat.le_refl _⟩, by repeat (first | exact Drawn0.refl _ | apply Drawn0.step)⟩
    ·rw [if_neg c6] at H; have c6b0 : (((rd l0 0) / 16) == 4) = false := beq_eq_false_iff_ne.mpr c6; have c6b1 : (((rd l0 0) / 16) != 4) = true := bne_iff_ne.mpr c6; have H' := Aside0.mk H; clear H
     have p180 : 0 ≤ (0 : Int) := (by omega)
     have q180 : 0 < (l0.length : Int) := of_decide_eq_true (by first | (with_reducible assumption) | assumption); obtain ⟨ad180, e180, hx180_0⟩ := Kd.at_int HR0.out 0 p180 q180; cases e180; have qi180 : (0 < l0.length) = True := eq_true (by omega); (try rw [show ((0 : Int)).toNat = 0 from rfl] at hx180_0); (try rw [Addr.add_zero'] at hx180_0); replace p180 := eq_true p180; replace q180 := eq_true q180; go_wp2; go_meet
     case rel => exact ⟨_, (true), (by first | rfl | (simp; done) | (simp [*]; done)), H', ⟨by first | omega | exact Nat.le_refl _⟩, by repeat (first | exact Drawn0.refl _ | apply Drawn0.step)⟩
   ·rw [if_neg c5] at H; exact absurd H (by simp)
  case rest =>
   clear HC4
   try clear p1
   try clear q1
   try clear hx1
   try clear qi1
   try clear p2
   try clear c3
   try clear c3b0
   try clear c3b1
   try clear c5
   try clear c5b0
   try clear c5b1
   try clear c6
   try clear c6b0
   try clear c6b1
   try clear hx180_0
   try clear p180
   try clear q180
   obtain ⟨kq, x10_3, rfl, HA, HJ3, ⟨mc3, rfl⟩⟩ := hcut
   cases kq with
   | zero => exact absurd HA.out (by simp [castellanref4_look.j0])
   | succ kj3 =>
    have H := HA.out; clear HA; simp only [castellanref4_look.j0] at H
    by_cases c7 : x10_3 = true
    ·subst c7; have H1 : (some 2) = some r := by rw [if_pos rfl] at H; exact H
     clear H; have H := H1; clear H1; obtain rfl := Option.some.inj H; go_wp2; go_ret; exact ⟨by first | rfl | (simp; done) | (simp [*]; done), by repeat (first | exact Drawn0.refl _ | apply Drawn0.step)⟩
    ·replace c7 := Bool.eq_false_iff.mpr c7; subst c7; have H1 : (if (l0.length : Int) < t179 then (some 3) else (if 0 ≤ t179 then (if t179 ≤ (l0.length : Int) then ((castellanref2_Right.f kj3 (l0.take (t179 : Int).toNat)).bind fun t182 => (if t182 = true then ((castellanref1_Get16.f l0 2).bind fun t183 => (if t183 < t179 then (castellanref4_look.j1 kj3 l0 true) else (if 6 < (l0.length : Int) then (castellanref4_look.j1 kj3 l0 (((rd l0 6) / 128) == 1)) else (none)))) else (some 4))) else (none)) else (none))) = some r := by rw [if_neg (show ¬ (false = true) by decide)] at H; exact H
     clear H; have H := H1; clear H1
     by_cases c8 : (l0.length : Int) < t179
     ·rw [if_pos c8] at H; have c8b0 : decide ((l0.length : Int) < t179) = true := decide_eq_true c8; clear c8; obtain rfl := Option.some.inj H; go_wp2; go_ret; exact ⟨by first | rfl | (simp; done) | (simp [*]; done), by repeat (first | exact Drawn0.refl _ | apply Drawn0.step)⟩
     ·rw [if_neg c8] at H; have c8b0 : decide ((l0.length : Int) < t179) = false := decide_eq_false c8; clear c8
      by_cases c9 : 0 ≤ t179
      ·rw [if_pos c9] at H; have c9b0 := eq_true c9; have c9b1 : decide (0 ≤ t179) = true := decide_eq_true c9; clear c9
       by_cases c10 : t179 ≤ (l0.length : Int)
       ·rw [if_pos c10] at H; have c10b0 := eq_true c10; have c10b1 : decide (t179 ≤ (l0.length : Int)) = true := decide_eq_true c10; clear c10; replace H := Option.bind_eq_some_iff.mp H; obtain ⟨t182, A110, H⟩ := H; replace H : (if t182 = true then ((castellanref1_Get16.f l0 2).bind fun t183 => (if t183 < t179 then (castellanref4_look.j1 kj3 l0 true) else (if 6 < (l0.length : Int) then (castellanref4_look.j1 kj3 l0 (((rd l0 6) / 128) == 1)) else (none)))) else (some 4)) = some r := H; have A11 := Aside0.mk A110; clear A110
        by_cases c12 : t182 = true
        ·subst c12; have H1 : ((castellanref1_Get16.f l0 2).bind fun t183 => (if t183 < t179 then (castellanref4_look.j1 kj3 l0 true) else (if 6 < (l0.length : Int) then (castellanref4_look.j1 kj3 l0 (((rd l0 6) / 128) == 1)) else (none)))) = some r := by rw [if_pos rfl] at H; exact H
         clear H; have H := H1; clear H1; have HC13 := Aside0.mk H; clear H; obtain ⟨i014, hi014, _, hsz14, _⟩ := info_parts info5; obtain ⟨hcut14, hA14, hC14⟩ := print_take_of (P := Try.prog) (Value.int .u8) 0 24 5 .i64 Try.underlying24 hi014 hsz14 A0 c0 l0 t179 (of_decide_eq_true (by first | (with_reducible assumption) | assumption)) (of_decide_eq_true (by first | (with_reducible assumption) | assumption)) HC0.out; have HR181 := Aside0.mk (Kd.C_of_reads (h1 := fun _ => rfl) (hA14 _ (Kd.reads_of_C HR0.out))); have HC181 := Aside0.mk hC14; clear hA14 hC14 hi014 hsz14
         go_upto_region 10 with (first | ((with_reducible refine gate_callee (f := 52) rfl ?_); refine goesL_ (some 29) rfl rfl Try.func52 (by kernel_rfl) rfl #[.slice A0 (l0.take (t179 : Int).toNat).length c0] rfl (by (try simp only [LmA, LmB, LmC]); first | done | (rw [show (l0.take (t179 : Int).toNat).length = t179.toNat from (by rw [LtA]; have h_ : (t179 : Int) ≤ (l0.length : Int) := of_decide_eq_true (by first | (with_reducible assumption) | assumption); omega)] <;> rfl) | rfl | (simp only [LdA, LtA]; rfl)) ?_; (with_reducible refine (castellanref2_Right.calls kj3 _ _ (l0.take (t179 : Int).toNat) true _ ?side1 ?side2 A11.out).mono ?_); (case side1 => repeat (first | exact HR181.out | (with_reducible refine Kd.C_alloc ?_ _) | (with_reducible refine Kd.C_drewN ?_ _) | (with_reducible refine Kd.C_drew ?_))); (case side2 => exact HC181.out); rintro e w' ⟨rfl, ⟨nd, rfl⟩⟩; refine ⟨_, rfl, ?_⟩))
         (try simp only [Act.put, LsA, LsB, LsC])
         go_cut [31] (fun v31 wc => ∃ (kq : Nat) (x31_12 : Bool), v31 = .bool x31_12 ∧ Aside0 (castellanref4_look.j1 kq l0 x31_12 = some r) ∧ Aside0 (kq ≤ kj3) ∧ Drawn0 w wc)
         case first =>
          have H := HC13.out; clear HC13; replace H := Option.bind_eq_some_iff.mp H; obtain ⟨t183, A150, H⟩ := H; replace H : (if t183 < t179 then (castellanref4_look.j1 kj3 l0 true) else (if 6 < (l0.length : Int) then (castellanref4_look.j1 kj3 l0 (((rd l0 6) / 128) == 1)) else (none))) = some r := H; have A15 := Aside0.mk A150; clear A150
          by_cases c16 : t183 < t179
          ·rw [if_pos c16] at H; have c16b0 : decide (t183 < t179) = true := decide_eq_true c16; clear c16
           (first | rw [c16b0] | (simp only [i64_w, i32_w]; rw [c16b0]) | skip)
           have H' := Aside0.mk H; clear H
           go_wp2_with (first | ((with_reducible refine gate_callee (f := 66) rfl ?_); refine goesL_ (some 33) rfl rfl Try.func66 (by kernel_rfl) rfl #[.slice A0 l0.length c0, .int .i64 2] rfl (by (try simp only [LmA, LmB, LmC]); first | done | rfl | (simp only [LdA, LtA]; rfl)) ?_; (with_reducible refine (castellanref1_Get16.calls _ _ l0 2 t183 _ ?side1 ?side2 A15.out).mono ?_); (case side1 => repeat (first | exact HR0.out | (with_reducible refine Kd.C_alloc ?_ _) | (with_reducible refine Kd.C_drewN ?_ _) | (with_reducible refine Kd.C_drew ?_))); (case side2 => exact HC0.out); rintro e w' ⟨rfl, ⟨nd, rfl⟩⟩; refine ⟨_, rfl, ?_⟩))
           go_meet
           case rel => exact ⟨_, (true), (by first | rfl | (simp; done) | (simp [*]; done)), H', ⟨by have := HJ3.out; first | omega | exact Nat.le_refl _⟩, by repeat (first | exact Drawn0.refl _ | apply Drawn0.step)⟩
          ·rw [if_neg c16] at H; have c16b0 : decide (t183 < t179) = false := decide_eq_false c16; clear c16
           (first | rw [c16b0] | (simp only [i64_w, i32_w]; rw [c16b0]) | skip)
           by_cases c17 : 6 < (l0.length : Int)
           ·rw [if_pos c17] at H; have c17b0 : decide (6 < (l0.length : Int)) = true := decide_eq_true c17; have c17b1 : decide (6 < l0.length) = true := decide_eq_true (by omega); clear c17; have H' := Aside0.mk H; clear H
            go_wp2_with (first | ((with_reducible refine gate_callee (f := 66) rfl ?_); refine goesL_ (some 33) rfl rfl Try.func66 (by kernel_rfl) rfl #[.slice A0 l0.length c0, .int .i64 2] rfl (by (try simp only [LmA, LmB, LmC]); first | done | rfl | (simp only [LdA, LtA]; rfl)) ?_; (with_reducible refine (castellanref1_Get16.calls _ _ l0 2 t183 _ ?side1 ?side2 A15.out).mono ?_); (case side1 => repeat (first | exact HR0.out | (with_reducible refine Kd.C_alloc ?_ _) | (with_reducible refine Kd.C_drewN ?_ _) | (with_reducible refine Kd.C_drew ?_))); (case side2 => exact HC0.out); rintro e w' ⟨rfl, ⟨nd, rfl⟩⟩; refine ⟨_, rfl, ?_⟩; have p184 : 0 ≤ (6 : Int) := (by omega); have q184 : 6 < (l0.length : Int) := of_decide_eq_true (by first | (with_reducible assumption) | assumption); obtain ⟨ad184, e184, hx184_0⟩ := Kd.at_int HR0.out 6 p184 q184; cases e184; (try simp only [show (6 : Int).toNat = 6 from rfl, Nat.reduceMul, Nat.reduceEqDiff, Go.Addr.add, ↓reduceIte] at hx184_0); have qi184 : (6 < l0.length) = True := eq_true (by omega); (try rw [show ((6 : Int)).toNat = 6 from rfl] at hx184_0); replace p184 := eq_true p184; replace q184 := eq_true q184))
            go_meet
            case rel => exact ⟨_, ((((rd l0 6) / 128) == 1)), (by first | rfl | (simp; done) | (simp [*]; done)), H', ⟨by have := HJ3.out; first | omega | exact Nat.le_refl _⟩, by repeat (first | exact Drawn0.refl _ | apply Drawn0.step)⟩
           ·rw [if_neg c17] at H; exact absurd H (by simp)
         case rest =>
          clear HC13
          try clear c1
          try clear p1
          try clear q1
          try clear hx1
          try clear qi1
          try clear p2
          try clear c3
          try clear c3b0
          try clear c3b1
          try clear c5
          try clear c5b0
          try clear c5b1
          try clear c6
          try clear c6b0
          try clear c6b1
          try clear c7
          try clear c8
          try clear c8b0
          try clear c9
          try clear c9b0
          try clear c9b1
          try clear c10
          try clear c10b0
          try clear c10b1
          try clear c12
          try clear c16
          try clear c16b0
          try clear c17
          try clear c17b0
          try clear c17b1
          try clear hx180_0
          try clear hx184_0
          try clear p1
          try clear p180
          try clear p184
          try clear p2
          try clear q1
          try clear q180
          try clear q184
          obtain ⟨kq, x31_12, rfl, HA, HJ12, ⟨mc12, rfl⟩⟩ := hcut
          cases kq with
          | zero => exact absurd HA.out (by simp [castellanref4_look.j1])
          | succ kj12 =>
           have H := HA.out; clear HA; simp only [castellanref4_look.j1] at H
           by_cases c18 : x31_12 = true
           ·subst c18; have H1 : (some 2) = some r := by rw [if_pos rfl] at H; exact H
            clear H; have H := H1; clear H1; obtain rfl := Option.some.inj H; go_wp2; go_ret; exact ⟨by first | rfl | (simp; done) | (simp [*]; done), by repeat (first | exact Drawn0.refl _ | apply Drawn0.step)⟩
           ·replace c18 := Bool.eq_false_iff.mpr c18; subst c18; have H1 : ((castellanref1_Get16.f l0 2).bind fun t185 => (if t185 > (l0.length : Int) then (some 3) else (some 0))) = some r := by rw [if_neg (show ¬ (false = true) by decide)] at H; exact H
            clear H; have H := H1; clear H1; replace H := Option.bind_eq_some_iff.mp H; obtain ⟨t185, A190, H⟩ := H; replace H : (if t185 > (l0.length : Int) then (some 3) else (some 0)) = some r := H; have A19 := Aside0.mk A190; clear A190
            by_cases c20 : t185 > (l0.length : Int)
            ·rw [if_pos c20] at H; have c20b0 : decide ((l0.length : Int) < t185) = true := decide_eq_true c20; clear c20; obtain rfl := Option.some.inj H
             go_wp2_with (first | ((with_reducible refine gate_callee (f := 66) rfl ?_); refine goesL_ (some 45) rfl rfl Try.func66 (by kernel_rfl) rfl #[.slice A0 l0.length c0, .int .i64 2] rfl (by (try simp only [LmA, LmB, LmC]); first | done | rfl | (simp only [LdA, LtA]; rfl)) ?_; (with_reducible refine (castellanref1_Get16.calls _ _ l0 2 t185 _ ?side1 ?side2 A19.out).mono ?_); (case side1 => repeat (first | exact HR0.out | (with_reducible refine Kd.C_alloc ?_ _) | (with_reducible refine Kd.C_drewN ?_ _) | (with_reducible refine Kd.C_drew ?_))); (case side2 => exact HC0.out); rintro e w' ⟨rfl, ⟨nd, rfl⟩⟩; refine ⟨_, rfl, ?_⟩))
             go_ret; exact ⟨by first | rfl | (simp; done) | (simp [*]; done), by repeat (first | exact Drawn0.refl _ | apply Drawn0.step)⟩
            ·rw [if_neg c20] at H; have c20b0 : decide ((l0.length : Int) < t185) = false := decide_eq_false c20; clear c20; obtain rfl := Option.some.inj H
             go_wp2_with (first | ((with_reducible refine gate_callee (f := 66) rfl ?_); refine goesL_ (some 45) rfl rfl Try.func66 (by kernel_rfl) rfl #[.slice A0 l0.length c0, .int .i64 2] rfl (by (try simp only [LmA, LmB, LmC]); first | done | rfl | (simp only [LdA, LtA]; rfl)) ?_; (with_reducible refine (castellanref1_Get16.calls _ _ l0 2 t185 _ ?side1 ?side2 A19.out).mono ?_); (case side1 => repeat (first | exact HR0.out | (with_reducible refine Kd.C_alloc ?_ _) | (with_reducible refine Kd.C_drewN ?_ _) | (with_reducible refine Kd.C_drew ?_))); (case side2 => exact HC0.out); rintro e w' ⟨rfl, ⟨nd, rfl⟩⟩; refine ⟨_, rfl, ?_⟩))
             go_ret; exact ⟨by first | rfl | (simp; done) | (simp [*]; done), by repeat (first | exact Drawn0.refl _ | apply Drawn0.step)⟩
        ·replace c12 := Bool.eq_false_iff.mpr c12; subst c12; have H1 : (some 4) = some r := by rw [if_neg (show ¬ (false = true) by decide)] at H; exact H
         clear H; have H := H1; clear H1; obtain rfl := Option.some.inj H; obtain ⟨i021, hi021, _, hsz21, _⟩ := info_parts info5; obtain ⟨hcut21, hA21, hC21⟩ := print_take_of (P := Try.prog) (Value.int .u8) 0 24 5 .i64 Try.underlying24 hi021 hsz21 A0 c0 l0 t179 (of_decide_eq_true (by first | (with_reducible assumption) | assumption)) (of_decide_eq_true (by first | (with_reducible assumption) | assumption)) HC0.out; have HR181 := Aside0.mk (Kd.C_of_reads (h1 := fun _ => rfl) (hA21 _ (Kd.reads_of_C HR0.out))); have HC181 := Aside0.mk hC21; clear hA21 hC21 hi021 hsz21
         go_wp2_with (first | ((with_reducible refine gate_callee (f := 52) rfl ?_); refine goesL_ (some 29) rfl rfl Try.func52 (by kernel_rfl) rfl #[.slice A0 (l0.take (t179 : Int).toNat).length c0] rfl (by (try simp only [LmA, LmB, LmC]); first | done | (rw [show (l0.take (t179 : Int).toNat).length = t179.toNat from (by rw [LtA]; have h_ : (t179 : Int) ≤ (l0.length : Int) := of_decide_eq_true (by first | (with_reducible assumption) | assumption); omega)] <;> rfl) | rfl | (simp only [LdA, LtA]; rfl)) ?_; (with_reducible refine (castellanref2_Right.calls kj3 _ _ (l0.take (t179 : Int).toNat) false _ ?side1 ?side2 A11.out).mono ?_); (case side1 => repeat (first | exact HR181.out | (with_reducible refine Kd.C_alloc ?_ _) | (with_reducible refine Kd.C_drewN ?_ _) | (with_reducible refine Kd.C_drew ?_))); (case side2 => exact HC181.out); rintro e w' ⟨rfl, ⟨nd, rfl⟩⟩; refine ⟨_, rfl, ?_⟩))
         go_ret; exact ⟨by first | rfl | (simp; done) | (simp [*]; done), by repeat (first | exact Drawn0.refl _ | apply Drawn0.step)⟩
       ·rw [if_neg c10] at H; exact absurd H (by simp)
      ·rw [if_neg c9] at H; exact absurd H (by simp)

/-! ### castellanref1_Get32: function 80 -/
def castellanref1_Get32.f (l0 : List Int) (a1 : Int) : Option (Int) := (castellanref1_at.f l0 a1).bind fun t186 => ((castellanref1_at.f l0 (wrap64 (a1 + 1))).bind fun t187 => ((castellanref1_at.f l0 (wrap64 (a1 + 2))).bind fun t188 => ((castellanref1_at.f l0 (wrap64 (a1 + 3))).bind fun t189 => (some (Go.bits .or .u32 (Go.bits .or .u32 (Go.bits .or .u32 ((t186 * 16777216) % 4294967296) ((t187 * 65536) % 4294967296)) ((t188 * 256) % 4294967296)) t189)))))
set_option maxHeartbeats 8000000 in
set_option maxRecDepth 100000 in
theorem castellanref1_Get32.calls (A0 : Option Addr) (c0 : Nat) (l0 : List Int) (a1 : Int) (r : Int) (w : World) (hr0 : Kd.C (Kd.int .u8) w A0 l0.length l0) (hc0 : l0.length ≤ c0) (h : castellanref1_Get32.f l0 a1 = some r) :
  Calls Try.prog 80 #[.slice A0 l0.length c0, .int .i64 a1] w fun e w' => e = .returned (.int .u32 r) ∧ Drawn0 w w' := by
 have HR0 := Aside0.mk hr0; have HC0 := Aside0.mk hc0; clear hr0 hc0; have H : ((castellanref1_at.f l0 a1).bind fun t186 => ((castellanref1_at.f l0 (wrap64 (a1 + 1))).bind fun t187 => ((castellanref1_at.f l0 (wrap64 (a1 + 2))).bind fun t188 => ((castellanref1_at.f l0 (wrap64 (a1 + 3))).bind fun t189 => (some (Go.bits .or .u32 (Go.bits .or .u32 (Go.bits .or .u32 ((t186 * 16777216) % 4294967296) ((t187 * 65536) % 4294967296)) ((t188 * 256) % 4294967296)) t189)))))) = some r := h; clear h; replace H := Option.bind_eq_some_iff.mp H; obtain ⟨t186, A30, H⟩ := H; replace H : ((castellanref1_at.f l0 (wrap64 (a1 + 1))).bind fun t187 => ((castellanref1_at.f l0 (wrap64 (a1 + 2))).bind fun t188 => ((castellanref1_at.f l0 (wrap64 (a1 + 3))).bind fun t189 => (some (Go.bits .or .u32 (Go.bits .or .u32 (Go.bits .or .u32 ((t186 * 16777216) % 4294967296) ((t187 * 65536) % 4294967296)) ((t188 * 256) % 4294967296)) t189))))) = some r := H; have A3 := Aside0.mk A30; clear A30; replace H := Option.bind_eq_some_iff.mp H; obtain ⟨t187, A40, H⟩ := H; replace H : ((castellanref1_at.f l0 (wrap64 (a1 + 2))).bind fun t188 => ((castellanref1_at.f l0 (wrap64 (a1 + 3))).bind fun t189 => (some (Go.bits .or .u32 (Go.bits .or .u32 (Go.bits .or .u32 ((t186 * 16777216) % 4294967296) ((t187 * 65536) % 4294967296)) ((t188 * 256) % 4294967296)) t189)))) = some r := H; have A4 := Aside0.mk A40; clear A40; replace H := Option.bind_eq_some_iff.mp H; obtain ⟨t188, A50, H⟩ := H; replace H : ((castellanref1_at.f l0 (wrap64 (a1 + 3))).bind fun t189 => (some (Go.bits .or .u32 (Go.bits .or .u32 (Go.bits .or .u32 ((t186 * 16777216) % 4294967296) ((t187 * 65536) % 4294967296)) ((t188 * 256) % 4294967296)) t189))) = some r := H; have A5 := Aside0.mk A50; clear A50; replace H := Option.bind_eq_some_iff.mp H; obtain ⟨t189, A60, H⟩ := H; replace H : (some (Go.bits .or .u32 (Go.bits .or .u32 (Go.bits .or .u32 ((t186 * 16777216) % 4294967296) ((t187 * 65536) % 4294967296)) ((t188 * 256) % 4294967296)) t189)) = some r := H; have A6 := Aside0.mk A60; clear A60; obtain rfl := Option.some.inj H; go_enter Try.func80, Try.ntmps80
 go_wp2_with (first | ((with_reducible refine gate_callee (f := 89) rfl ?_); refine goesL_ (some 7) rfl rfl Try.func89 (by kernel_rfl) rfl #[.slice A0 l0.length c0, .int .i64 a1] rfl (by (try simp only [LmA, LmB, LmC]); first | done | rfl | (simp only [LdA, LtA]; rfl)) ?_; (with_reducible refine (castellanref1_at.calls _ _ l0 a1 t186 _ ?side1 ?side2 A3.out).mono ?_); (case side1 => repeat (first | exact HR0.out | (with_reducible refine Kd.C_alloc ?_ _) | (with_reducible refine Kd.C_drewN ?_ _) | (with_reducible refine Kd.C_drew ?_))); (case side2 => exact HC0.out); rintro e w' ⟨rfl, ⟨nd, rfl⟩⟩; refine ⟨_, rfl, ?_⟩) | ((with_reducible refine gate_callee (f := 89) rfl ?_); refine goesL_ (some 12) rfl rfl Try.func89 (by kernel_rfl) rfl #[.slice A0 l0.length c0, .int .i64 (wrap64 (a1 + 1))] rfl (by (try simp only [LmA, LmB, LmC]); first | done | rfl | (simp only [LdA, LtA]; rfl)) ?_; (with_reducible refine (castellanref1_at.calls _ _ l0 (wrap64 (a1 + 1)) t187 _ ?side1 ?side2 A4.out).mono ?_); (case side1 => repeat (first | exact HR0.out | (with_reducible refine Kd.C_alloc ?_ _) | (with_reducible refine Kd.C_drewN ?_ _) | (with_reducible refine Kd.C_drew ?_))); (case side2 => exact HC0.out); rintro e w' ⟨rfl, ⟨nd, rfl⟩⟩; refine ⟨_, rfl, ?_⟩) | ((with_reducible refine gate_callee (f := 89) rfl ?_); refine goesL_ (some 18) rfl rfl Try.func89 (by kernel_rfl) rfl #[.slice A0 l0.length c0, .int .i64 (wrap64 (a1 + 2))] rfl (by (try simp only [LmA, LmB, LmC]); first | done | rfl | (simp only [LdA, LtA]; rfl)) ?_; (with_reducible refine (castellanref1_at.calls _ _ l0 (wrap64 (a1 + 2)) t188 _ ?side1 ?side2 A5.out).mono ?_); (case side1 => repeat (first | exact HR0.out | (with_reducible refine Kd.C_alloc ?_ _) | (with_reducible refine Kd.C_drewN ?_ _) | (with_reducible refine Kd.C_drew ?_))); (case side2 => exact HC0.out); rintro e w' ⟨rfl, ⟨nd, rfl⟩⟩; refine ⟨_, rfl, ?_⟩) | ((with_reducible refine gate_callee (f := 89) rfl ?_); refine goesL_ (some 24) rfl rfl Try.func89 (by kernel_rfl) rfl #[.slice A0 l0.length c0, .int .i64 (wrap64 (a1 + 3))] rfl (by (try simp only [LmA, LmB, LmC]); first | done | rfl | (simp only [LdA, LtA]; rfl)) ?_; (with_reducible refine (castellanref1_at.calls _ _ l0 (wrap64 (a1 + 3)) t189 _ ?side1 ?side2 A6.out).mono ?_); (case side1 => repeat (first | exact HR0.out | (with_reducible refine Kd.C_alloc ?_ _) | (with_reducible refine Kd.C_drewN ?_ _) | (with_reducible refine Kd.C_drew ?_))); (case side2 => exact HC0.out); rintro e w' ⟨rfl, ⟨nd, rfl⟩⟩; refine ⟨_, rfl, ?_⟩))
 go_ret; exact ⟨by first | rfl | (simp; done) | (simp [*]; done), by repeat (first | exact Drawn0.refl _ | apply Drawn0.step)⟩

end Go.Proofs.Ytkdibloahkhgoaa.QReplyResets
