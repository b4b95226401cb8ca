-- written by myprint.py, a program of this session's over the kit's printer
import Derived.Test.YtkdibloahkhgoaaQPackPortsx0
import Derived.Test.YtkdibloahkhgoaaQPackPortsx1
import Derived.Test.YtkdibloahkhgoaaQPackPortsx2
import Derived.Test.YtkdibloahkhgoaaQPackPortsx3
import Derived.Test.YtkdibloahkhgoaaQPackPortsx4
import Derived.Test.YtkdibloahkhgoaaQPackPortsx5
import Derived.Test.YtkdibloahkhgoaaQPackPortsx10
namespace Go.Proofs.Ytkdibloahkhgoaa.QPackPorts
open Go.RowKit Go.Proofs.YtkdibloahkhgoaaW.PrintWords Go.Proofs.YtkdibloahkhgoaaW.PrintLast Go.Proofs.YtkdibloahkhgoaaW.PrintMore
attribute [local go_sem] max2_int min2_int max_two min_two max_three min_three max_four min_four   -- for this text's walks alone
set_option linter.unusedVariables false
set_option linter.unusedSimpArgs false

attribute [local go_sem high] eqA35
/-! ### castellanlaw8_PackPorts: function 11 -/
def castellanlaw8_PackPorts.j0 : Nat → Int → Int → Int → Bool → Int → Int → Int → Int → Int → Int → Int → List Int → List Int → Option (Bool)
  | 0, _, _, _, _, _, _, _, _, _, _, _, _, _ => none
  | k + 1, x0, x1, x3, x37, x441000, x441001, x441002, x441003, x441004, x441005, x441006, x441007, x441008 => if x37 = true then (some true) else ((castellanref5_Build.f k x0 x1 x441000 x441001 x441002 x441003 x441004 x441005 x441006 x441007 x441008).bind fun bt442 => ((castellanref4_Build.f k 0 0 false false x3 7 6 x0 x1 ([] : List Int) bt442.1).bind fun bt446 => ((pack_Parse.f k bt446.1).bind fun bt450 => (if bt450.2.2.2.2.2.2.2.2.2.2.2.2.2.2.2.2.2.2 = 0 then (if x3 > 0 then (if bt450.2.2.2.2.2.2.2.2.2.2.2.1 = 2 then (if (wrap64 ((wrap64 (bt450.2.2.2.2.2.2.2.2.2.2.2.2.1 + bt450.2.2.2.2.2.2.2.2.2.2.2.2.2.1)) + bt450.2.2.2.2.2.2.2.2.2.2.2.2.2.2.1)) = 0 then ((castellanlaw8_known.f).bind fun t474 => (some t474)) else (some false)) else (some false)) else (if bt450.2.2.2.2.2.2.2.2.2.2.2.1 = 0 then (if bt450.2.2.2.2.2.2.2.2.2.2.2.2.1 = x441000 then (if bt450.2.2.2.2.2.2.2.2.2.2.2.2.2.1 = x441001 then (if bt450.2.2.2.2.2.2.2.2.2.2.2.2.2.2.1 = x441004 then ((pack_KeyOf.f bt450.1 bt450.2.1 bt450.2.2.1 bt450.2.2.2.1 bt450.2.2.2.2.1 bt450.2.2.2.2.2.1 bt450.2.2.2.2.2.2.1 bt450.2.2.2.2.2.2.2.1 bt450.2.2.2.2.2.2.2.2.1 bt450.2.2.2.2.2.2.2.2.2.1 bt450.2.2.2.2.2.2.2.2.2.2.1 bt450.2.2.2.2.2.2.2.2.2.2.2.1 bt450.2.2.2.2.2.2.2.2.2.2.2.2.1 bt450.2.2.2.2.2.2.2.2.2.2.2.2.2.1 bt450.2.2.2.2.2.2.2.2.2.2.2.2.2.2.1 bt450.2.2.2.2.2.2.2.2.2.2.2.2.2.2.2.1 bt450.2.2.2.2.2.2.2.2.2.2.2.2.2.2.2.2.1 bt450.2.2.2.2.2.2.2.2.2.2.2.2.2.2.2.2.2.1).bind fun bt475 => (if (bt475.1 == 6 && (bt475.2.1 == x0 && (bt475.2.2.1 == x1 && (bt475.2.2.2.1 == x441000 && (bt475.2.2.2.2 == x441001))))) = true then ((castellanlaw8_known.f).bind fun t480 => (some t480)) else (some false))) else (some false)) else (some false)) else (some false)) else (some false))) else (some false)))))
def castellanlaw8_PackPorts.f (k : Nat) (a0 : Int) (a1 : Int) (a2_0 : Int) (a2_1 : Int) (a2_2 : Int) (a2_3 : Int) (a2_4 : Int) (a2_5 : Int) (a2_6 : Int) (l2_7 : List Int) (l2_8 : List Int) (a3 : Int) : Option (Bool) := if (l2_7.length : Int) > 40 then (castellanlaw8_PackPorts.j0 k a0 a1 a3 true a2_0 a2_1 a2_2 a2_3 a2_4 a2_5 a2_6 l2_7 l2_8) else (if (l2_8.length : Int) > 1000 then (castellanlaw8_PackPorts.j0 k a0 a1 a3 true a2_0 a2_1 a2_2 a2_3 a2_4 a2_5 a2_6 l2_7 l2_8) else ((castellanref5_Is.f a2_0 a2_1 a2_2 a2_3 a2_4 a2_5 a2_6 l2_7 l2_8).bind fun t441 => (if t441 = true then (if a3 < 0 then (castellanlaw8_PackPorts.j0 k a0 a1 a3 true a2_0 a2_1 a2_2 a2_3 a2_4 a2_5 a2_6 l2_7 l2_8) else (castellanlaw8_PackPorts.j0 k a0 a1 a3 (decide (a3 > 100)) a2_0 a2_1 a2_2 a2_3 a2_4 a2_5 a2_6 l2_7 l2_8)) else (castellanlaw8_PackPorts.j0 k a0 a1 a3 true a2_0 a2_1 a2_2 a2_3 a2_4 a2_5 a2_6 l2_7 l2_8))))
theorem castellanlaw8_PackPorts.mono_l : ∀ k, (∀ y0 y1 y2 y3 y4 y5 y6 y7 y8 y9 y10 y11 y12, LeO (castellanlaw8_PackPorts.j0 k y0 y1 y2 y3 y4 y5 y6 y7 y8 y9 y10 y11 y12) (castellanlaw8_PackPorts.j0 (k + 1) y0 y1 y2 y3 y4 y5 y6 y7 y8 y9 y10 y11 y12))
  | 0 => fun _ _ _ _ _ _ _ _ _ _ _ _ _ r h => by simp [castellanlaw8_PackPorts.j0] at h
  | k + 1 => by
    have ih0 := castellanlaw8_PackPorts.mono_l k
    · intro y0 y1 y2 y3 y4 y5 y6 y7 y8 y9 y10 y11 y12
      unfold castellanlaw8_PackPorts.j0
      repeat' first
      | (with_reducible exact ih0 _ _ _ _ _ _ _ _ _ _ _ _ _)
      | (with_reducible exact castellanref4_Build.mono _ _ _ _ _ _ _ _ _ _ _ _)
      | (with_reducible exact castellanref5_Build.mono _ _ _ _ _ _ _ _ _ _ _ _)
      | (with_reducible exact pack_Parse.mono _ _)
      | (with_reducible exact LeO.refl _)
      | (with_reducible exact LeO.none _)
      | (with_reducible refine LeO.ite ?_ ?_)
      | (with_reducible refine LeO.bind ?_ (fun _ => ?_))
      | exact ih0 _ _ _ _ _ _ _ _ _ _ _ _ _
      | exact castellanref4_Build.mono _ _ _ _ _ _ _ _ _ _ _ _
      | exact castellanref5_Build.mono _ _ _ _ _ _ _ _ _ _ _ _
      | exact pack_Parse.mono _ _
      | exact LeO.none _
      | refine LeO.ite ?_ ?_
      | refine LeO.bind ?_ (fun _ => ?_)
theorem castellanlaw8_PackPorts.mono : ∀ a0 a1 a2 a3 a4 a5 a6 a7 a8 a9 a10 a11 k, LeO (castellanlaw8_PackPorts.f k a0 a1 a2 a3 a4 a5 a6 a7 a8 a9 a10 a11) (castellanlaw8_PackPorts.f (k + 1) a0 a1 a2 a3 a4 a5 a6 a7 a8 a9 a10 a11) := by
  intro a0 a1 a2 a3 a4 a5 a6 a7 a8 a9 a10 a11 k
  have ih0 := castellanlaw8_PackPorts.mono_l k
  unfold castellanlaw8_PackPorts.f
  repeat' first
      | (with_reducible exact ih0 _ _ _ _ _ _ _ _ _ _ _ _ _)
      | (with_reducible exact castellanref4_Build.mono _ _ _ _ _ _ _ _ _ _ _ _)
      | (with_reducible exact castellanref5_Build.mono _ _ _ _ _ _ _ _ _ _ _ _)
      | (with_reducible exact pack_Parse.mono _ _)
      | (with_reducible exact LeO.refl _)
      | (with_reducible exact LeO.none _)
      | (with_reducible refine LeO.ite ?_ ?_)
      | (with_reducible refine LeO.bind ?_ (fun _ => ?_))
      | exact ih0 _ _ _ _ _ _ _ _ _ _ _ _ _
      | exact castellanref4_Build.mono _ _ _ _ _ _ _ _ _ _ _ _
      | exact castellanref5_Build.mono _ _ _ _ _ _ _ _ _ _ _ _
      | exact pack_Parse.mono _ _
      | exact LeO.none _
      | refine LeO.ite ?_ ?_
      | refine LeO.bind ?_ (fun _ => ?_)
def castellanlaw8_PackPorts.T10 : Bool × List (List Nat × List Nat) := (true, [([], []), ([0], [0]), ([1], [1]), ([2], [2]), ([3], [3]), ([4, 3], [3, 4]), ([3], [3]), ([6, 3], [3, 6]), ([5, 7, 3], [3, 5, 7]), ([3, 8], [3, 8]), ([9, 3], [9]), ([10], [10]), ([11, 10], [10, 11]), ([10], [10]), ([13, 10], [10, 13]), ([12, 14, 10], [10, 12, 14]), ([10, 15], [10, 15]), ([16, 10], [16]), ([17], [17]), ([18, 17], [17, 18]), ([17], [17]), ([20, 17], [17, 20]), ([19, 21, 17], [17, 19, 21]), ([17, 22], [17, 22]), ([23, 17], [23]), ([24], [24]), ([25, 24, 24], [24, 25]), ([24], [24]), ([24], [24]), ([24], [24]), ([29, 24], [24, 29]), ([24], [24]), ([31, 24], [24, 31]), ([27, 28, 30, 32, 24], [24, 27, 28, 30, 32]), ([26, 33, 24], [24, 26, 33]), ([24, 34], [24, 34]), ([35, 26], [35]), ([36, 36], [36]), ([36, 37], [36, 37]), ([38, 37, 0, 1, 2, 3, 4, 5, 6, 7, 8, 9, 10, 11, 12, 13, 14, 15, 16, 17, 18, 19, 20, 21, 22, 23, 24, 25, 26, 27, 28, 29, 30, 31, 32, 33, 34, 35, 36, 37, 38], [38])])
def castellanlaw8_PackPorts.B10 : List Nat := [0, 1, 3, 7, 15, 31, 15, 79, 255, 511, 1023, 2047, 4095, 2047, 10239, 32767, 65535, 131071, 262143, 524287, 262143, 1310719, 4194303, 8388607, 16777215, 33554431, 67108863, 33554431, 33554431, 33554431, 570425343, 33554431, 2181038079, 8489271295, 17179869183, 34359738367, 68719476735, 137438953471, 274877906943, 549755813887]
theorem castellanlaw8_PackPorts.tab10 : rtab .any (opsOf Try.f11 10) = castellanlaw8_PackPorts.T10 := by kernel_rfl
theorem castellanlaw8_PackPorts.bits10 : waitsOk castellanlaw8_PackPorts.T10.2 castellanlaw8_PackPorts.B10 = true := by kernel_rfl
/-- a whole struct read from its block -/
theorem exec_load_row {P : Program} {a : Act} {o : Oper} {w : World} (ty : TypeId) (x : Operand) (ho : o.op = .load ty x) {g : Nat} (hx : a.eval x = .pointer (some ⟨g, 0, none⟩)) {t : TypeId} {cs : Array Value} {d : TypeDesc} (hg : w.heap[g]? = some (.cells cs t (0, 0))) (hu : P.underlying ty = some d)
    (hd : (match d with | .struct _ | .array _ _ => true | _ => false) = true) (hi : (P.info? ty).map (·.size) = some cs.size) : (execOp a.eval o).run P w = .ok (.value (.agg cs)) w := by
  unfold execOp
  simp only [ho, hx, Instr.loadAt, Instr.sureAddr, Sem.run_bind, Sem.run_pure, Result.andThen_ok, run_loadVar_row w g t ty cs (0, 0) d hg hu hd hi]
set_option maxHeartbeats 8000000 in
set_option maxRecDepth 100000 in
theorem castellanlaw8_PackPorts.calls (k : Nat) (a0 : Int) (a1 : Int) (a2_0 : Int) (a2_1 : Int) (a2_2 : Int) (a2_3 : Int) (a2_4 : Int) (a2_5 : Int) (a2_6 : Int) (A2_7 : Option Addr) (c2_7 : Nat) (l2_7 : List Int) (A2_8 : Option Addr) (c2_8 : Nat) (l2_8 : List Int) (a3 : Int) (r : Bool) (w : World) (hr2_7 : Kd.C (Kd.int .u8) w A2_7 l2_7.length l2_7) (hc2_7 : l2_7.length ≤ c2_7) (hr2_8 : Kd.C (Kd.int .u8) w A2_8 l2_8.length l2_8) (hc2_8 : l2_8.length ≤ c2_8) (hrt : r = true) (h : castellanlaw8_PackPorts.f k a0 a1 a2_0 a2_1 a2_2 a2_3 a2_4 a2_5 a2_6 l2_7 l2_8 a3 = some r) :
    Calls Try.prog 11 #[.int .u32 a0, .int .u32 a1, .agg #[.int .i64 a2_0, .int .i64 a2_1, .int .u32 a2_2, .int .u32 a2_3, .int .i64 a2_4, .int .i64 a2_5, .int .i64 a2_6, .slice A2_7 l2_7.length c2_7, .slice A2_8 l2_8.length c2_8], .int .i64 a3] w fun e w' => e = .returned (.bool r) ∧ Below w.heap.size w w' := by
  have hu59 := Try.underlying59
  have hu26 := Try.underlying26
  have hu29 := Try.underlying29
  have hu35 := Try.underlying35
  have HRT := Aside0.mk hrt
  clear hrt
  have HR2_7 := Aside0.mk hr2_7
  have HC2_7 := Aside0.mk hc2_7
  clear hr2_7 hc2_7
  have HR2_8 := Aside0.mk hr2_8
  have HC2_8 := Aside0.mk hc2_8
  clear hr2_8 hc2_8
  have HB := Aside0.mk (Below.refl w.heap.size w)
  have H : (if (l2_7.length : Int) > 40 then (castellanlaw8_PackPorts.j0 k a0 a1 a3 true a2_0 a2_1 a2_2 a2_3 a2_4 a2_5 a2_6 l2_7 l2_8) else (if (l2_8.length : Int) > 1000 then (castellanlaw8_PackPorts.j0 k a0 a1 a3 true a2_0 a2_1 a2_2 a2_3 a2_4 a2_5 a2_6 l2_7 l2_8) else ((castellanref5_Is.f a2_0 a2_1 a2_2 a2_3 a2_4 a2_5 a2_6 l2_7 l2_8).bind fun t441 => (if t441 = true then (if a3 < 0 then (castellanlaw8_PackPorts.j0 k a0 a1 a3 true a2_0 a2_1 a2_2 a2_3 a2_4 a2_5 a2_6 l2_7 l2_8) else (castellanlaw8_PackPorts.j0 k a0 a1 a3 (decide (a3 > 100)) a2_0 a2_1 a2_2 a2_3 a2_4 a2_5 a2_6 l2_7 l2_8)) else (castellanlaw8_PackPorts.j0 k a0 a1 a3 true a2_0 a2_1 a2_2 a2_3 a2_4 a2_5 a2_6 l2_7 l2_8))))) = some r := h
  clear h
  have HC5 := Aside0.mk H
  clear H
  go_enter Try.func11, Try.ntmps11
  go_upto_region 1 with (first | ((with_reducible refine gate_dst (N := 6) rfl ?_); (try (refine gate_guard (by rfl) ?_; dsimp only)); refine box_event ?hg (N := 6) ?hd (cs := #[.int .i64 a2_0, .int .i64 a2_1, .int .u32 a2_2, .int .u32 a2_3, .int .i64 a2_4, .int .i64 a2_5, .int .i64 a2_6, .slice A2_7 l2_7.length c2_7, .slice A2_8 l2_8.length c2_8]) (t := 59) ?hr ?_; (case hd => rfl); (case hg => rfl); (case hr => first | (go_simp; done) | (go_simp; rfl)); intro gb440 hg w6 hbox hb; have n0_ := Aside0.mk (below_step (by repeat (first | (with_reducible first | exact HB.out | apply below_alloc | apply pw_below_drewN | apply below_drew1) | exact HB.out)) hb); have n1_ := Aside0.mk (hbox); have n2_ := Aside0.mk ((by rw [hg]; exact (below_size (by repeat (first | (with_reducible first | exact HB.out | apply below_alloc | apply pw_below_drewN | apply below_drew1) | exact HB.out))) : w.heap.size ≤ gb440)); have n3_ := Aside0.mk ((by rw [hg]; exact (below_size (by repeat (first | (with_reducible first | exact HB.out | apply below_alloc | apply pw_below_drewN | apply below_drew1) | exact HB.out))) : w.heap.size ≤ gb440)); clear HB; have HB := n0_; have BK440 := n1_; have GW440 := n2_; have GE440 := n3_; clear n0_ n1_ n2_ n3_; clear hb hbox hg))
  (try simp only [Act.put, List.setIfInBounds_toArray, List.set_cons_zero, List.set_cons_succ])
  go_cut [37] (fun v37 wc => ∃ (kq : Nat) (x37_4 : Bool), v37 = .bool x37_4 ∧ Aside0 (castellanlaw8_PackPorts.j0 kq a0 a1 a3 x37_4 a2_0 a2_1 a2_2 a2_3 a2_4 a2_5 a2_6 l2_7 l2_8 = some r) ∧ Aside0 (kq ≤ k) ∧ Aside0 (wc.heap[gb440]? = some (.cells #[.int .i64 a2_0, .int .i64 a2_1, .int .u32 a2_2, .int .u32 a2_3, .int .i64 a2_4, .int .i64 a2_5, .int .i64 a2_6, (.slice A2_7 l2_7.length c2_7), (.slice A2_8 l2_8.length c2_8)] 59 (0, 0))) ∧ Aside0 (Below w.heap.size w wc))
  case first =>
    have H := HC5.out
    clear HC5
    by_cases c7 : (l2_7.length : Int) > 40
    · rw [if_pos c7] at H
      have c7b0 : decide (40 < (l2_7.length : Int)) = true := decide_eq_true c7
      have c7b1 : decide (40 < l2_7.length) = true := decide_eq_true (by omega)
      clear c7
      (first | rw [c7b0] | (simp only [i64_w, i32_w]; rw [c7b0]) | skip)
      have H' := Aside0.mk H
      clear H
      have hcz8_0 : w6.cell? ⟨gb440, 0, none⟩ = some (.int .i64 a2_0) := (blk_cell BK440.out 0).trans rfl
      have hcz8_1 : w6.cell? ⟨gb440, 1, none⟩ = some (.int .i64 a2_1) := (blk_cell BK440.out 1).trans rfl
      have hcz8_2 : w6.cell? ⟨gb440, 2, none⟩ = some (.int .u32 a2_2) := (blk_cell BK440.out 2).trans rfl
      have hcz8_3 : w6.cell? ⟨gb440, 3, none⟩ = some (.int .u32 a2_3) := (blk_cell BK440.out 3).trans rfl
      have hcz8_4 : w6.cell? ⟨gb440, 4, none⟩ = some (.int .i64 a2_4) := (blk_cell BK440.out 4).trans rfl
      have hcz8_5 : w6.cell? ⟨gb440, 5, none⟩ = some (.int .i64 a2_5) := (blk_cell BK440.out 5).trans rfl
      have hcz8_6 : w6.cell? ⟨gb440, 6, none⟩ = some (.int .i64 a2_6) := (blk_cell BK440.out 6).trans rfl
      have hcz8_7 : w6.cell? ⟨gb440, 7, none⟩ = some (.slice A2_7 l2_7.length c2_7) := (blk_cell BK440.out 7).trans rfl
      have hcz8_8 : w6.cell? ⟨gb440, 8, none⟩ = some (.slice A2_8 l2_8.length c2_8) := (blk_cell BK440.out 8).trans rfl
      have hfz8_0 := blk_frozen BK440.out 0
      have hfz8_1 := blk_frozen BK440.out 1
      have hfz8_2 := blk_frozen BK440.out 2
      have hfz8_3 := blk_frozen BK440.out 3
      have hfz8_4 := blk_frozen BK440.out 4
      have hfz8_5 := blk_frozen BK440.out 5
      have hfz8_6 := blk_frozen BK440.out 6
      have hfz8_7 := blk_frozen BK440.out 7
      have hfz8_8 := blk_frozen BK440.out 8
      go_wp2
      go_meet
      case rel => exact ⟨_, (true), (by first | rfl | (simp; done) | (simp [*]; done)), H', ⟨by first | omega | exact Nat.le_refl _⟩, ⟨by (with_reducible repeat (first | refine blk_drewN ?_ _ | refine blk_drew ?_ | refine blk_alloc ?_ _)); exact BK440.out⟩, ⟨by repeat (first | (with_reducible first | exact HB.out | apply below_alloc | apply pw_below_drewN | apply below_drew1 | refine below_set ?_ GE440.out) | exact HB.out)⟩⟩
    · rw [if_neg c7] at H
      have c7b0 : decide (40 < (l2_7.length : Int)) = false := decide_eq_false c7
      have c7b1 : decide (40 < l2_7.length) = false := decide_eq_false (by omega)
      clear c7
      (first | rw [c7b0] | (simp only [i64_w, i32_w]; rw [c7b0]) | skip)
      by_cases c9 : (l2_8.length : Int) > 1000
      · rw [if_pos c9] at H
        have c9b0 : decide (1000 < (l2_8.length : Int)) = true := decide_eq_true c9
        have c9b1 : decide (1000 < l2_8.length) = true := decide_eq_true (by omega)
        clear c9
        have H' := Aside0.mk H
        clear H
        have hcz10_0 : w6.cell? ⟨gb440, 0, none⟩ = some (.int .i64 a2_0) := (blk_cell BK440.out 0).trans rfl
        have hcz10_1 : w6.cell? ⟨gb440, 1, none⟩ = some (.int .i64 a2_1) := (blk_cell BK440.out 1).trans rfl
        have hcz10_2 : w6.cell? ⟨gb440, 2, none⟩ = some (.int .u32 a2_2) := (blk_cell BK440.out 2).trans rfl
        have hcz10_3 : w6.cell? ⟨gb440, 3, none⟩ = some (.int .u32 a2_3) := (blk_cell BK440.out 3).trans rfl
        have hcz10_4 : w6.cell? ⟨gb440, 4, none⟩ = some (.int .i64 a2_4) := (blk_cell BK440.out 4).trans rfl
        have hcz10_5 : w6.cell? ⟨gb440, 5, none⟩ = some (.int .i64 a2_5) := (blk_cell BK440.out 5).trans rfl
        have hcz10_6 : w6.cell? ⟨gb440, 6, none⟩ = some (.int .i64 a2_6) := (blk_cell BK440.out 6).trans rfl
        have hcz10_7 : w6.cell? ⟨gb440, 7, none⟩ = some (.slice A2_7 l2_7.length c2_7) := (blk_cell BK440.out 7).trans rfl
        have hcz10_8 : w6.cell? ⟨gb440, 8, none⟩ = some (.slice A2_8 l2_8.length c2_8) := (blk_cell BK440.out 8).trans rfl
        have hfz10_0 := blk_frozen BK440.out 0
        have hfz10_1 := blk_frozen BK440.out 1
        have hfz10_2 := blk_frozen BK440.out 2
        have hfz10_3 := blk_frozen BK440.out 3
        have hfz10_4 := blk_frozen BK440.out 4
        have hfz10_5 := blk_frozen BK440.out 5
        have hfz10_6 := blk_frozen BK440.out 6
        have hfz10_7 := blk_frozen BK440.out 7
        have hfz10_8 := blk_frozen BK440.out 8
        go_wp2
        go_meet
        case rel => exact ⟨_, (true), (by first | rfl | (simp; done) | (simp [*]; done)), H', ⟨by first | omega | exact Nat.le_refl _⟩, ⟨by (with_reducible repeat (first | refine blk_drewN ?_ _ | refine blk_drew ?_ | refine blk_alloc ?_ _)); exact BK440.out⟩, ⟨by repeat (first | (with_reducible first | exact HB.out | apply below_alloc | apply pw_below_drewN | apply below_drew1 | refine below_set ?_ GE440.out) | exact HB.out)⟩⟩
      · rw [if_neg c9] at H
        have c9b0 : decide (1000 < (l2_8.length : Int)) = false := decide_eq_false c9
        have c9b1 : decide (1000 < l2_8.length) = false := decide_eq_false (by omega)
        clear c9
        replace H := Option.bind_eq_some_iff.mp H
        obtain ⟨t441, A110, H⟩ := H
        replace H : (if t441 = true then (if a3 < 0 then (castellanlaw8_PackPorts.j0 k a0 a1 a3 true a2_0 a2_1 a2_2 a2_3 a2_4 a2_5 a2_6 l2_7 l2_8) else (castellanlaw8_PackPorts.j0 k a0 a1 a3 (decide (a3 > 100)) a2_0 a2_1 a2_2 a2_3 a2_4 a2_5 a2_6 l2_7 l2_8)) else (castellanlaw8_PackPorts.j0 k a0 a1 a3 true a2_0 a2_1 a2_2 a2_3 a2_4 a2_5 a2_6 l2_7 l2_8)) = some r := H
        have A11 := Aside0.mk A110
        clear A110
        by_cases c12 : t441 = true
        · subst c12
          have H1 : (if a3 < 0 then (castellanlaw8_PackPorts.j0 k a0 a1 a3 true a2_0 a2_1 a2_2 a2_3 a2_4 a2_5 a2_6 l2_7 l2_8) else (castellanlaw8_PackPorts.j0 k a0 a1 a3 (decide (a3 > 100)) a2_0 a2_1 a2_2 a2_3 a2_4 a2_5 a2_6 l2_7 l2_8)) = some r := by rw [if_pos rfl] at H; exact H
          clear H
          have H := H1
          clear H1
          by_cases c13 : a3 < 0
          · rw [if_pos c13] at H
            have c13b0 : decide (a3 < 0) = true := decide_eq_true c13
            clear c13
            have H' := Aside0.mk H
            clear H
            have hcz14_0 : w6.cell? ⟨gb440, 0, none⟩ = some (.int .i64 a2_0) := (blk_cell BK440.out 0).trans rfl
            have hcz14_1 : w6.cell? ⟨gb440, 1, none⟩ = some (.int .i64 a2_1) := (blk_cell BK440.out 1).trans rfl
            have hcz14_2 : w6.cell? ⟨gb440, 2, none⟩ = some (.int .u32 a2_2) := (blk_cell BK440.out 2).trans rfl
            have hcz14_3 : w6.cell? ⟨gb440, 3, none⟩ = some (.int .u32 a2_3) := (blk_cell BK440.out 3).trans rfl
            have hcz14_4 : w6.cell? ⟨gb440, 4, none⟩ = some (.int .i64 a2_4) := (blk_cell BK440.out 4).trans rfl
            have hcz14_5 : w6.cell? ⟨gb440, 5, none⟩ = some (.int .i64 a2_5) := (blk_cell BK440.out 5).trans rfl
            have hcz14_6 : w6.cell? ⟨gb440, 6, none⟩ = some (.int .i64 a2_6) := (blk_cell BK440.out 6).trans rfl
            have hcz14_7 : w6.cell? ⟨gb440, 7, none⟩ = some (.slice A2_7 l2_7.length c2_7) := (blk_cell BK440.out 7).trans rfl
            have hcz14_8 : w6.cell? ⟨gb440, 8, none⟩ = some (.slice A2_8 l2_8.length c2_8) := (blk_cell BK440.out 8).trans rfl
            have hfz14_0 := blk_frozen BK440.out 0
            have hfz14_1 := blk_frozen BK440.out 1
            have hfz14_2 := blk_frozen BK440.out 2
            have hfz14_3 := blk_frozen BK440.out 3
            have hfz14_4 := blk_frozen BK440.out 4
            have hfz14_5 := blk_frozen BK440.out 5
            have hfz14_6 := blk_frozen BK440.out 6
            have hfz14_7 := blk_frozen BK440.out 7
            have hfz14_8 := blk_frozen BK440.out 8
            go_wp2_with (first | (go_at_call 32; (with_reducible refine (castellanref5_Is.calls a2_0 a2_1 a2_2 a2_3 a2_4 a2_5 a2_6 _ _ l2_7 _ _ l2_8 true _ ?side1 ?side2 ?side3 ?side4 A11.out).mono ?_); (case side1 => repeat (first | exact (Kd.C_below HR2_7.out HB.out) | (with_reducible refine Kd.C_alloc ?_ _) | (with_reducible refine Kd.C_drewN ?_ _) | (with_reducible refine Kd.C_drew ?_))); (case side2 => exact HC2_7.out); (case side3 => repeat (first | exact (Kd.C_below HR2_8.out HB.out) | (with_reducible refine Kd.C_alloc ?_ _) | (with_reducible refine Kd.C_drewN ?_ _) | (with_reducible refine Kd.C_drew ?_))); (case side4 => exact HC2_8.out); rintro e w15 ⟨rfl, hb⟩; have n0_ := Aside0.mk (blk_below (g := gb440) (o := .cells #[.int .i64 a2_0, .int .i64 a2_1, .int .u32 a2_2, .int .u32 a2_3, .int .i64 a2_4, .int .i64 a2_5, .int .i64 a2_6, .slice A2_7 l2_7.length c2_7, .slice A2_8 l2_8.length c2_8] 59 (0, 0)) (by (with_reducible repeat (first | refine blk_drewN ?_ _ | refine blk_drew ?_ | refine blk_alloc ?_ _)); exact BK440.out) hb); have n1_ := Aside0.mk (below_step (by repeat (first | (with_reducible first | exact HB.out | apply below_alloc | apply pw_below_drewN | apply below_drew1 | refine below_set ?_ GE440.out) | exact HB.out)) hb); clear BK440; clear HB; have BK440 := n0_; have HB := n1_; clear n0_ n1_; (try clear hb); (try clear hb2); (try clear hk); (try clear hi)))
            go_meet
            case rel => exact ⟨_, (true), (by first | rfl | (simp; done) | (simp [*]; done)), H', ⟨by first | omega | exact Nat.le_refl _⟩, ⟨by (with_reducible repeat (first | refine blk_drewN ?_ _ | refine blk_drew ?_ | refine blk_alloc ?_ _)); exact BK440.out⟩, ⟨by repeat (first | (with_reducible first | exact HB.out | apply below_alloc | apply pw_below_drewN | apply below_drew1 | refine below_set ?_ GE440.out) | exact HB.out)⟩⟩
          · rw [if_neg c13] at H
            have c13b0 : decide (a3 < 0) = false := decide_eq_false c13
            clear c13
            have H' := Aside0.mk H
            clear H
            have hcz16_0 : w6.cell? ⟨gb440, 0, none⟩ = some (.int .i64 a2_0) := (blk_cell BK440.out 0).trans rfl
            have hcz16_1 : w6.cell? ⟨gb440, 1, none⟩ = some (.int .i64 a2_1) := (blk_cell BK440.out 1).trans rfl
            have hcz16_2 : w6.cell? ⟨gb440, 2, none⟩ = some (.int .u32 a2_2) := (blk_cell BK440.out 2).trans rfl
            have hcz16_3 : w6.cell? ⟨gb440, 3, none⟩ = some (.int .u32 a2_3) := (blk_cell BK440.out 3).trans rfl
            have hcz16_4 : w6.cell? ⟨gb440, 4, none⟩ = some (.int .i64 a2_4) := (blk_cell BK440.out 4).trans rfl
            have hcz16_5 : w6.cell? ⟨gb440, 5, none⟩ = some (.int .i64 a2_5) := (blk_cell BK440.out 5).trans rfl
            have hcz16_6 : w6.cell? ⟨gb440, 6, none⟩ = some (.int .i64 a2_6) := (blk_cell BK440.out 6).trans rfl
            have hcz16_7 : w6.cell? ⟨gb440, 7, none⟩ = some (.slice A2_7 l2_7.length c2_7) := (blk_cell BK440.out 7).trans rfl
            have hcz16_8 : w6.cell? ⟨gb440, 8, none⟩ = some (.slice A2_8 l2_8.length c2_8) := (blk_cell BK440.out 8).trans rfl
            have hfz16_0 := blk_frozen BK440.out 0
            have hfz16_1 := blk_frozen BK440.out 1
            have hfz16_2 := blk_frozen BK440.out 2
            have hfz16_3 := blk_frozen BK440.out 3
            have hfz16_4 := blk_frozen BK440.out 4
            have hfz16_5 := blk_frozen BK440.out 5
            have hfz16_6 := blk_frozen BK440.out 6
            have hfz16_7 := blk_frozen BK440.out 7
            have hfz16_8 := blk_frozen BK440.out 8
            go_wp2_with (first | (go_at_call 32; (with_reducible refine (castellanref5_Is.calls a2_0 a2_1 a2_2 a2_3 a2_4 a2_5 a2_6 _ _ l2_7 _ _ l2_8 true _ ?side1 ?side2 ?side3 ?side4 A11.out).mono ?_); (case side1 => repeat (first | exact (Kd.C_below HR2_7.out HB.out) | (with_reducible refine Kd.C_alloc ?_ _) | (with_reducible refine Kd.C_drewN ?_ _) | (with_reducible refine Kd.C_drew ?_))); (case side2 => exact HC2_7.out); (case side3 => repeat (first | exact (Kd.C_below HR2_8.out HB.out) | (with_reducible refine Kd.C_alloc ?_ _) | (with_reducible refine Kd.C_drewN ?_ _) | (with_reducible refine Kd.C_drew ?_))); (case side4 => exact HC2_8.out); rintro e w17 ⟨rfl, hb⟩; have n0_ := Aside0.mk (blk_below (g := gb440) (o := .cells #[.int .i64 a2_0, .int .i64 a2_1, .int .u32 a2_2, .int .u32 a2_3, .int .i64 a2_4, .int .i64 a2_5, .int .i64 a2_6, .slice A2_7 l2_7.length c2_7, .slice A2_8 l2_8.length c2_8] 59 (0, 0)) (by (with_reducible repeat (first | refine blk_drewN ?_ _ | refine blk_drew ?_ | refine blk_alloc ?_ _)); exact BK440.out) hb); have n1_ := Aside0.mk (below_step (by repeat (first | (with_reducible first | exact HB.out | apply below_alloc | apply pw_below_drewN | apply below_drew1 | refine below_set ?_ GE440.out) | exact HB.out)) hb); clear BK440; clear HB; have BK440 := n0_; have HB := n1_; clear n0_ n1_; (try clear hb); (try clear hb2); (try clear hk); (try clear hi)))
            go_meet
            case rel => exact ⟨_, (decide (a3 > 100)), (by first | rfl | (simp; done) | (simp [*]; done)), H', ⟨by first | omega | exact Nat.le_refl _⟩, ⟨by (with_reducible repeat (first | refine blk_drewN ?_ _ | refine blk_drew ?_ | refine blk_alloc ?_ _)); exact BK440.out⟩, ⟨by repeat (first | (with_reducible first | exact HB.out | apply below_alloc | apply pw_below_drewN | apply below_drew1 | refine below_set ?_ GE440.out) | exact HB.out)⟩⟩
        · replace c12 := Bool.eq_false_iff.mpr c12
          subst c12
          have H1 : (castellanlaw8_PackPorts.j0 k a0 a1 a3 true a2_0 a2_1 a2_2 a2_3 a2_4 a2_5 a2_6 l2_7 l2_8) = some r := by rw [if_neg (show ¬ (false = true) by decide)] at H; exact H
          clear H
          have H := H1
          clear H1
          have H' := Aside0.mk H
          clear H
          have hcz18_0 : w6.cell? ⟨gb440, 0, none⟩ = some (.int .i64 a2_0) := (blk_cell BK440.out 0).trans rfl
          have hcz18_1 : w6.cell? ⟨gb440, 1, none⟩ = some (.int .i64 a2_1) := (blk_cell BK440.out 1).trans rfl
          have hcz18_2 : w6.cell? ⟨gb440, 2, none⟩ = some (.int .u32 a2_2) := (blk_cell BK440.out 2).trans rfl
          have hcz18_3 : w6.cell? ⟨gb440, 3, none⟩ = some (.int .u32 a2_3) := (blk_cell BK440.out 3).trans rfl
          have hcz18_4 : w6.cell? ⟨gb440, 4, none⟩ = some (.int .i64 a2_4) := (blk_cell BK440.out 4).trans rfl
          have hcz18_5 : w6.cell? ⟨gb440, 5, none⟩ = some (.int .i64 a2_5) := (blk_cell BK440.out 5).trans rfl
          have hcz18_6 : w6.cell? ⟨gb440, 6, none⟩ = some (.int .i64 a2_6) := (blk_cell BK440.out 6).trans rfl
          have hcz18_7 : w6.cell? ⟨gb440, 7, none⟩ = some (.slice A2_7 l2_7.length c2_7) := (blk_cell BK440.out 7).trans rfl
          have hcz18_8 : w6.cell? ⟨gb440, 8, none⟩ = some (.slice A2_8 l2_8.length c2_8) := (blk_cell BK440.out 8).trans rfl
          have hfz18_0 := blk_frozen BK440.out 0
          have hfz18_1 := blk_frozen BK440.out 1
          have hfz18_2 := blk_frozen BK440.out 2
          have hfz18_3 := blk_frozen BK440.out 3
          have hfz18_4 := blk_frozen BK440.out 4
          have hfz18_5 := blk_frozen BK440.out 5
          have hfz18_6 := blk_frozen BK440.out 6
          have hfz18_7 := blk_frozen BK440.out 7
          have hfz18_8 := blk_frozen BK440.out 8
          go_wp2_with (first | (go_at_call 32; (with_reducible refine (castellanref5_Is.calls a2_0 a2_1 a2_2 a2_3 a2_4 a2_5 a2_6 _ _ l2_7 _ _ l2_8 false _ ?side1 ?side2 ?side3 ?side4 A11.out).mono ?_); (case side1 => repeat (first | exact (Kd.C_below HR2_7.out HB.out) | (with_reducible refine Kd.C_alloc ?_ _) | (with_reducible refine Kd.C_drewN ?_ _) | (with_reducible refine Kd.C_drew ?_))); (case side2 => exact HC2_7.out); (case side3 => repeat (first | exact (Kd.C_below HR2_8.out HB.out) | (with_reducible refine Kd.C_alloc ?_ _) | (with_reducible refine Kd.C_drewN ?_ _) | (with_reducible refine Kd.C_drew ?_))); (case side4 => exact HC2_8.out); rintro e w19 ⟨rfl, hb⟩; have n0_ := Aside0.mk (blk_below (g := gb440) (o := .cells #[.int .i64 a2_0, .int .i64 a2_1, .int .u32 a2_2, .int .u32 a2_3, .int .i64 a2_4, .int .i64 a2_5, .int .i64 a2_6, .slice A2_7 l2_7.length c2_7, .slice A2_8 l2_8.length c2_8] 59 (0, 0)) (by (with_reducible repeat (first | refine blk_drewN ?_ _ | refine blk_drew ?_ | refine blk_alloc ?_ _)); exact BK440.out) hb); have n1_ := Aside0.mk (below_step (by repeat (first | (with_reducible first | exact HB.out | apply below_alloc | apply pw_below_drewN | apply below_drew1 | refine below_set ?_ GE440.out) | exact HB.out)) hb); clear BK440; clear HB; have BK440 := n0_; have HB := n1_; clear n0_ n1_; (try clear hb); (try clear hb2); (try clear hk); (try clear hi)))
          go_meet
          case rel => exact ⟨_, (true), (by first | rfl | (simp; done) | (simp [*]; done)), H', ⟨by first | omega | exact Nat.le_refl _⟩, ⟨by (with_reducible repeat (first | refine blk_drewN ?_ _ | refine blk_drew ?_ | refine blk_alloc ?_ _)); exact BK440.out⟩, ⟨by repeat (first | (with_reducible first | exact HB.out | apply below_alloc | apply pw_below_drewN | apply below_drew1 | refine below_set ?_ GE440.out) | exact HB.out)⟩⟩
  case rest =>
    clear HC5
    try clear c1
    try clear c2
    try clear p2
    try clear c7
    try clear c7b0
    try clear c7b1
    try clear c9
    try clear c9b0
    try clear c9b1
    try clear c11
    try clear c12
    try clear c13
    try clear c13b0
    try clear hcz10_0
    try clear hcz10_1
    try clear hcz10_2
    try clear hcz10_3
    try clear hcz10_4
    try clear hcz10_5
    try clear hcz10_6
    try clear hcz10_7
    try clear hcz10_8
    try clear hcz14_0
    try clear hcz14_1
    try clear hcz14_2
    try clear hcz14_3
    try clear hcz14_4
    try clear hcz14_5
    try clear hcz14_6
    try clear hcz14_7
    try clear hcz14_8
    try clear hcz16_0
    try clear hcz16_1
    try clear hcz16_2
    try clear hcz16_3
    try clear hcz16_4
    try clear hcz16_5
    try clear hcz16_6
    try clear hcz16_7
    try clear hcz16_8
    try clear hcz18_0
    try clear hcz18_1
    try clear hcz18_2
    try clear hcz18_3
    try clear hcz18_4
    try clear hcz18_5
    try clear hcz18_6
    try clear hcz18_7
    try clear hcz18_8
    try clear hcz8_0
    try clear hcz8_1
    try clear hcz8_2
    try clear hcz8_3
    try clear hcz8_4
    try clear hcz8_5
    try clear hcz8_6
    try clear hcz8_7
    try clear hcz8_8
    try clear hfz10_0
    try clear hfz10_1
    try clear hfz10_2
    try clear hfz10_3
    try clear hfz10_4
    try clear hfz10_5
    try clear hfz10_6
    try clear hfz10_7
    try clear hfz10_8
    try clear hfz14_0
    try clear hfz14_1
    try clear hfz14_2
    try clear hfz14_3
    try clear hfz14_4
    try clear hfz14_5
    try clear hfz14_6
    try clear hfz14_7
    try clear hfz14_8
    try clear hfz16_0
    try clear hfz16_1
    try clear hfz16_2
    try clear hfz16_3
    try clear hfz16_4
    try clear hfz16_5
    try clear hfz16_6
    try clear hfz16_7
    try clear hfz16_8
    try clear hfz18_0
    try clear hfz18_1
    try clear hfz18_2
    try clear hfz18_3
    try clear hfz18_4
    try clear hfz18_5
    try clear hfz18_6
    try clear hfz18_7
    try clear hfz18_8
    try clear hfz8_0
    try clear hfz8_1
    try clear hfz8_2
    try clear hfz8_3
    try clear hfz8_4
    try clear hfz8_5
    try clear hfz8_6
    try clear hfz8_7
    try clear hfz8_8
    obtain ⟨kq, x37_4, rfl, HA, HJ4, BK440, HB⟩ := hcut
    cases kq with
    | zero => exact absurd HA.out (by simp [castellanlaw8_PackPorts.j0])
    | succ kj4 =>
      have H := HA.out
      clear HA
      simp only [castellanlaw8_PackPorts.j0] at H
      by_cases c20 : x37_4 = true
      · subst c20
        have H1 : (some true) = some r := by rw [if_pos rfl] at H; exact H
        clear H
        have H := H1
        clear H1
        obtain rfl := Option.some.inj H
        go_wp2
        go_ret
        exact ⟨by first | rfl | (simp [errW_none, errW_some] <;> rfl) | (simp [*, errW_none, errW_some] <;> rfl), by repeat (first | (with_reducible first | exact HB.out | apply below_alloc | apply pw_below_drewN | apply below_drew1 | refine below_set ?_ GE440.out) | exact HB.out)⟩
      · replace c20 := Bool.eq_false_iff.mpr c20
        subst c20
        have H1 : ((castellanref5_Build.f kj4 a0 a1 a2_0 a2_1 a2_2 a2_3 a2_4 a2_5 a2_6 l2_7 l2_8).bind fun bt442 => ((castellanref4_Build.f kj4 0 0 false false a3 7 6 a0 a1 ([] : List Int) bt442.1).bind fun bt446 => ((pack_Parse.f kj4 bt446.1).bind fun bt450 => (if bt450.2.2.2.2.2.2.2.2.2.2.2.2.2.2.2.2.2.2 = 0 then (if a3 > 0 then (if bt450.2.2.2.2.2.2.2.2.2.2.2.1 = 2 then (if (wrap64 ((wrap64 (bt450.2.2.2.2.2.2.2.2.2.2.2.2.1 + bt450.2.2.2.2.2.2.2.2.2.2.2.2.2.1)) + bt450.2.2.2.2.2.2.2.2.2.2.2.2.2.2.1)) = 0 then ((castellanlaw8_known.f).bind fun t474 => (some t474)) else (some false)) else (some false)) else (if bt450.2.2.2.2.2.2.2.2.2.2.2.1 = 0 then (if bt450.2.2.2.2.2.2.2.2.2.2.2.2.1 = a2_0 then (if bt450.2.2.2.2.2.2.2.2.2.2.2.2.2.1 = a2_1 then (if bt450.2.2.2.2.2.2.2.2.2.2.2.2.2.2.1 = a2_4 then ((pack_KeyOf.f bt450.1 bt450.2.1 bt450.2.2.1 bt450.2.2.2.1 bt450.2.2.2.2.1 bt450.2.2.2.2.2.1 bt450.2.2.2.2.2.2.1 bt450.2.2.2.2.2.2.2.1 bt450.2.2.2.2.2.2.2.2.1 bt450.2.2.2.2.2.2.2.2.2.1 bt450.2.2.2.2.2.2.2.2.2.2.1 bt450.2.2.2.2.2.2.2.2.2.2.2.1 bt450.2.2.2.2.2.2.2.2.2.2.2.2.1 bt450.2.2.2.2.2.2.2.2.2.2.2.2.2.1 bt450.2.2.2.2.2.2.2.2.2.2.2.2.2.2.1 bt450.2.2.2.2.2.2.2.2.2.2.2.2.2.2.2.1 bt450.2.2.2.2.2.2.2.2.2.2.2.2.2.2.2.2.1 bt450.2.2.2.2.2.2.2.2.2.2.2.2.2.2.2.2.2.1).bind fun bt475 => (if (bt475.1 == 6 && (bt475.2.1 == a0 && (bt475.2.2.1 == a1 && (bt475.2.2.2.1 == a2_0 && (bt475.2.2.2.2 == a2_1))))) = true then ((castellanlaw8_known.f).bind fun t480 => (some t480)) else (some false))) else (some false)) else (some false)) else (some false)) else (some false))) else (some false))))) = some r := by rw [if_neg (show ¬ (false = true) by decide)] at H; exact H
        clear H
        have H := H1
        clear H1
        replace H := Option.bind_eq_some_iff.mp H
        obtain ⟨⟨t442, t445⟩, A210, H⟩ := H
        replace H : ((castellanref4_Build.f kj4 0 0 false false a3 7 6 a0 a1 ([] : List Int) t442).bind fun bt446 => ((pack_Parse.f kj4 bt446.1).bind fun bt450 => (if bt450.2.2.2.2.2.2.2.2.2.2.2.2.2.2.2.2.2.2 = 0 then (if a3 > 0 then (if bt450.2.2.2.2.2.2.2.2.2.2.2.1 = 2 then (if (wrap64 ((wrap64 (bt450.2.2.2.2.2.2.2.2.2.2.2.2.1 + bt450.2.2.2.2.2.2.2.2.2.2.2.2.2.1)) + bt450.2.2.2.2.2.2.2.2.2.2.2.2.2.2.1)) = 0 then ((castellanlaw8_known.f).bind fun t474 => (some t474)) else (some false)) else (some false)) else (if bt450.2.2.2.2.2.2.2.2.2.2.2.1 = 0 then (if bt450.2.2.2.2.2.2.2.2.2.2.2.2.1 = a2_0 then (if bt450.2.2.2.2.2.2.2.2.2.2.2.2.2.1 = a2_1 then (if bt450.2.2.2.2.2.2.2.2.2.2.2.2.2.2.1 = a2_4 then ((pack_KeyOf.f bt450.1 bt450.2.1 bt450.2.2.1 bt450.2.2.2.1 bt450.2.2.2.2.1 bt450.2.2.2.2.2.1 bt450.2.2.2.2.2.2.1 bt450.2.2.2.2.2.2.2.1 bt450.2.2.2.2.2.2.2.2.1 bt450.2.2.2.2.2.2.2.2.2.1 bt450.2.2.2.2.2.2.2.2.2.2.1 bt450.2.2.2.2.2.2.2.2.2.2.2.1 bt450.2.2.2.2.2.2.2.2.2.2.2.2.1 bt450.2.2.2.2.2.2.2.2.2.2.2.2.2.1 bt450.2.2.2.2.2.2.2.2.2.2.2.2.2.2.1 bt450.2.2.2.2.2.2.2.2.2.2.2.2.2.2.2.1 bt450.2.2.2.2.2.2.2.2.2.2.2.2.2.2.2.2.1 bt450.2.2.2.2.2.2.2.2.2.2.2.2.2.2.2.2.2.1).bind fun bt475 => (if (bt475.1 == 6 && (bt475.2.1 == a0 && (bt475.2.2.1 == a1 && (bt475.2.2.2.1 == a2_0 && (bt475.2.2.2.2 == a2_1))))) = true then ((castellanlaw8_known.f).bind fun t480 => (some t480)) else (some false))) else (some false)) else (some false)) else (some false)) else (some false))) else (some false)))) = some r := H
        have A21 := Aside0.mk A210
        clear A210
        replace H := Option.bind_eq_some_iff.mp H
        obtain ⟨⟨t446, t449⟩, A220, H⟩ := H
        replace H : ((pack_Parse.f kj4 t446).bind fun bt450 => (if bt450.2.2.2.2.2.2.2.2.2.2.2.2.2.2.2.2.2.2 = 0 then (if a3 > 0 then (if bt450.2.2.2.2.2.2.2.2.2.2.2.1 = 2 then (if (wrap64 ((wrap64 (bt450.2.2.2.2.2.2.2.2.2.2.2.2.1 + bt450.2.2.2.2.2.2.2.2.2.2.2.2.2.1)) + bt450.2.2.2.2.2.2.2.2.2.2.2.2.2.2.1)) = 0 then ((castellanlaw8_known.f).bind fun t474 => (some t474)) else (some false)) else (some false)) else (if bt450.2.2.2.2.2.2.2.2.2.2.2.1 = 0 then (if bt450.2.2.2.2.2.2.2.2.2.2.2.2.1 = a2_0 then (if bt450.2.2.2.2.2.2.2.2.2.2.2.2.2.1 = a2_1 then (if bt450.2.2.2.2.2.2.2.2.2.2.2.2.2.2.1 = a2_4 then ((pack_KeyOf.f bt450.1 bt450.2.1 bt450.2.2.1 bt450.2.2.2.1 bt450.2.2.2.2.1 bt450.2.2.2.2.2.1 bt450.2.2.2.2.2.2.1 bt450.2.2.2.2.2.2.2.1 bt450.2.2.2.2.2.2.2.2.1 bt450.2.2.2.2.2.2.2.2.2.1 bt450.2.2.2.2.2.2.2.2.2.2.1 bt450.2.2.2.2.2.2.2.2.2.2.2.1 bt450.2.2.2.2.2.2.2.2.2.2.2.2.1 bt450.2.2.2.2.2.2.2.2.2.2.2.2.2.1 bt450.2.2.2.2.2.2.2.2.2.2.2.2.2.2.1 bt450.2.2.2.2.2.2.2.2.2.2.2.2.2.2.2.1 bt450.2.2.2.2.2.2.2.2.2.2.2.2.2.2.2.2.1 bt450.2.2.2.2.2.2.2.2.2.2.2.2.2.2.2.2.2.1).bind fun bt475 => (if (bt475.1 == 6 && (bt475.2.1 == a0 && (bt475.2.2.1 == a1 && (bt475.2.2.2.1 == a2_0 && (bt475.2.2.2.2 == a2_1))))) = true then ((castellanlaw8_known.f).bind fun t480 => (some t480)) else (some false))) else (some false)) else (some false)) else (some false)) else (some false))) else (some false))) = some r := H
        have A22 := Aside0.mk A220
        clear A220
        replace H := Option.bind_eq_some_iff.mp H
        obtain ⟨⟨t450, t451, t452, t453, t454, t455, t456, t457, t458, t459, t462, t465, t466, t467, t468, t469, t470, t471, t472⟩, A230, H⟩ := H
        replace H : (if t472 = 0 then (if a3 > 0 then (if t465 = 2 then (if (wrap64 ((wrap64 (t466 + t467)) + t468)) = 0 then ((castellanlaw8_known.f).bind fun t474 => (some t474)) else (some false)) else (some false)) else (if t465 = 0 then (if t466 = a2_0 then (if t467 = a2_1 then (if t468 = a2_4 then ((pack_KeyOf.f t450 t451 t452 t453 t454 t455 t456 t457 t458 t459 t462 t465 t466 t467 t468 t469 t470 t471).bind fun bt475 => (if (bt475.1 == 6 && (bt475.2.1 == a0 && (bt475.2.2.1 == a1 && (bt475.2.2.2.1 == a2_0 && (bt475.2.2.2.2 == a2_1))))) = true then ((castellanlaw8_known.f).bind fun t480 => (some t480)) else (some false))) else (some false)) else (some false)) else (some false)) else (some false))) else (some false)) = some r := H
        have A23 := Aside0.mk A230
        clear A230
        by_cases c24 : t472 = 0
        · rw [if_pos c24] at H
          have c24b0 : (t472 == 0) = true := beq_iff_eq.mpr c24
          have c24b1 : (t472 != 0) = false := bne_eq_false_iff_eq.mpr c24
          clear c24
          by_cases c25 : a3 > 0
          · rw [if_pos c25] at H
            have c25b0 : decide (0 < a3) = true := decide_eq_true c25
            clear c25
            by_cases c26 : t465 = 2
            · rw [if_pos c26] at H
              have c26b0 : (t465 == 2) = true := beq_iff_eq.mpr c26
              have c26b1 : (t465 != 2) = false := bne_eq_false_iff_eq.mpr c26
              clear c26
              by_cases c27 : (wrap64 ((wrap64 (t466 + t467)) + t468)) = 0
              · rw [if_pos c27] at H
                have c27b0 : ((wrap64 ((wrap64 (t466 + t467)) + t468)) == 0) = true := beq_iff_eq.mpr c27
                have c27b1 : ((wrap64 ((wrap64 (t466 + t467)) + t468)) != 0) = false := bne_eq_false_iff_eq.mpr c27
                clear c27
                replace H := Option.bind_eq_some_iff.mp H
                obtain ⟨t474, A280, H⟩ := H
                replace H : (some t474) = some r := H
                have A28 := Aside0.mk A280
                clear A280
                obtain rfl := Option.some.inj H
                have hcz29_0 : wc.cell? ⟨gb440, 0, none⟩ = some (.int .i64 a2_0) := (blk_cell BK440.out 0).trans rfl
                have hcz29_1 : wc.cell? ⟨gb440, 1, none⟩ = some (.int .i64 a2_1) := (blk_cell BK440.out 1).trans rfl
                have hcz29_2 : wc.cell? ⟨gb440, 2, none⟩ = some (.int .u32 a2_2) := (blk_cell BK440.out 2).trans rfl
                have hcz29_3 : wc.cell? ⟨gb440, 3, none⟩ = some (.int .u32 a2_3) := (blk_cell BK440.out 3).trans rfl
                have hcz29_4 : wc.cell? ⟨gb440, 4, none⟩ = some (.int .i64 a2_4) := (blk_cell BK440.out 4).trans rfl
                have hcz29_5 : wc.cell? ⟨gb440, 5, none⟩ = some (.int .i64 a2_5) := (blk_cell BK440.out 5).trans rfl
                have hcz29_6 : wc.cell? ⟨gb440, 6, none⟩ = some (.int .i64 a2_6) := (blk_cell BK440.out 6).trans rfl
                have hcz29_7 : wc.cell? ⟨gb440, 7, none⟩ = some (.slice A2_7 l2_7.length c2_7) := (blk_cell BK440.out 7).trans rfl
                have hcz29_8 : wc.cell? ⟨gb440, 8, none⟩ = some (.slice A2_8 l2_8.length c2_8) := (blk_cell BK440.out 8).trans rfl
                have hfz29_0 := blk_frozen BK440.out 0
                have hfz29_1 := blk_frozen BK440.out 1
                have hfz29_2 := blk_frozen BK440.out 2
                have hfz29_3 := blk_frozen BK440.out 3
                have hfz29_4 := blk_frozen BK440.out 4
                have hfz29_5 := blk_frozen BK440.out 5
                have hfz29_6 := blk_frozen BK440.out 6
                have hfz29_7 := blk_frozen BK440.out 7
                have hfz29_8 := blk_frozen BK440.out 8
                go_wp2_with (first | ((with_reducible refine gate_callee (f := 33) rfl ?_); refine goesL_ (some 42) rfl rfl Try.func33 (by kernel_rfl) rfl #[.int .u32 a0, .int .u32 a1, .agg #[.int .i64 a2_0, .int .i64 a2_1, .int .u32 a2_2, .int .u32 a2_3, .int .i64 a2_4, .int .i64 a2_5, .int .i64 a2_6, .slice A2_7 l2_7.length c2_7, .slice A2_8 l2_8.length c2_8]] rfl (by (try simp only [List.map_toArray, List.map_cons, List.map_nil]); first | done | rfl | (simp only [List.length_drop, List.length_take]; rfl)) ?_; (with_reducible refine (castellanref5_Build.calls kj4 a0 a1 a2_0 a2_1 a2_2 a2_3 a2_4 a2_5 a2_6 _ _ l2_7 _ _ l2_8 t442 t445 _ ?side1 ?side2 ?side3 ?side4 A21.out).mono ?_); (case side1 => repeat (first | exact (Kd.C_below HR2_7.out HB.out) | (with_reducible refine Kd.C_alloc ?_ _) | (with_reducible refine Kd.C_drewN ?_ _) | (with_reducible refine Kd.C_drew ?_))); (case side2 => exact HC2_7.out); (case side3 => repeat (first | exact (Kd.C_below HR2_8.out HB.out) | (with_reducible refine Kd.C_alloc ?_ _) | (with_reducible refine Kd.C_drewN ?_ _) | (with_reducible refine Kd.C_drew ?_))); (case side4 => exact HC2_8.out); rintro e w30 ⟨v443, rfl, ho0, hb⟩; refine ⟨_, rfl, ?_⟩; have n0_ := Aside0.mk (Kd.R_lower ho0 (below_size (by repeat (first | (with_reducible first | exact HB.out | apply below_alloc | apply pw_below_drewN | apply below_drew1 | refine below_set ?_ GE440.out) | exact HB.out)))); have n1_ := Aside0.mk (blk_below (g := gb440) (o := .cells #[.int .i64 a2_0, .int .i64 a2_1, .int .u32 a2_2, .int .u32 a2_3, .int .i64 a2_4, .int .i64 a2_5, .int .i64 a2_6, .slice A2_7 l2_7.length c2_7, .slice A2_8 l2_8.length c2_8] 59 (0, 0)) (by (with_reducible repeat (first | refine blk_drewN ?_ _ | refine blk_drew ?_ | refine blk_alloc ?_ _)); exact BK440.out) hb); have n2_ := Aside0.mk (below_step (by repeat (first | (with_reducible first | exact HB.out | apply below_alloc | apply pw_below_drewN | apply below_drew1 | refine below_set ?_ GE440.out) | exact HB.out)) hb); clear BK440; clear HB; have HO444 := n0_; have BK440 := n1_; have HB := n2_; clear n0_ n1_ n2_; (try clear hb); (try clear hb2); (try clear hk); (try clear hi); (try clear ho0); obtain ⟨Ao31, co31, eo31⟩ := Kd.R_slice HO444.out; subst eo31) | ((with_reducible refine gate_callee (f := 26) rfl ?_); refine goesL_ (some 51) rfl rfl Try.func26 (by kernel_rfl) rfl #[.agg #[.int .i64 0, .int .i64 0, .bool false, .bool false, .int .i64 a3, .int .i64 7, .int .i64 6, .int .u32 a0, .int .u32 a1, .slice none 0 0, .slice Ao31 t442.length co31]] rfl (by (try simp only [List.map_toArray, List.map_cons, List.map_nil]); first | done | rfl | (simp only [List.length_drop, List.length_take]; rfl)) ?_; (refine (castellanref4_Build.calls kj4 0 0 false false a3 7 6 a0 a1 _ _ ([] : List Int) _ _ t442 t446 t449 _ ?side1 ?side2 ?side3 ?side4 A22.out).mono ?_); (case side1 => exact Kd.C_nil _ _); (case side2 => exact Nat.le_refl _); (case side3 => repeat (first | exact (Kd.R_reads' HO444.out).2.2 | (with_reducible refine Kd.C_alloc ?_ _) | (with_reducible refine Kd.C_drewN ?_ _) | (with_reducible refine Kd.C_drew ?_))); (case side4 => exact (Kd.R_reads' HO444.out).2.1); rintro e w32 ⟨v447, rfl, ho0, hb⟩; refine ⟨_, rfl, ?_⟩; have n0_ := Aside0.mk (Kd.R_elder' (by (with_reducible repeat (first | apply Kd.R_alloc | apply Kd.R_drewN | apply Kd.R_drew)); exact HO444.out) (Kd.R_base ho0) hb); have n1_ := Aside0.mk (Kd.R_lower (Kd.R_new' ho0 (Kd.R_lt (by (with_reducible repeat (first | apply Kd.R_alloc | apply Kd.R_drewN | apply Kd.R_drew)); exact HO444.out))) (below_size (by repeat (first | (with_reducible first | exact HB.out | apply below_alloc | apply pw_below_drewN | apply below_drew1 | refine below_set ?_ GE440.out) | exact HB.out)))); have n2_ := Aside0.mk (blk_below (g := gb440) (o := .cells #[.int .i64 a2_0, .int .i64 a2_1, .int .u32 a2_2, .int .u32 a2_3, .int .i64 a2_4, .int .i64 a2_5, .int .i64 a2_6, .slice A2_7 l2_7.length c2_7, .slice A2_8 l2_8.length c2_8] 59 (0, 0)) (by (with_reducible repeat (first | refine blk_drewN ?_ _ | refine blk_drew ?_ | refine blk_alloc ?_ _)); exact BK440.out) hb); have n3_ := Aside0.mk (below_step (by repeat (first | (with_reducible first | exact HB.out | apply below_alloc | apply pw_below_drewN | apply below_drew1 | refine below_set ?_ GE440.out) | exact HB.out)) hb); clear HO444; clear BK440; clear HB; have HO444 := n0_; have HO448 := n1_; have BK440 := n2_; have HB := n3_; clear n0_ n1_ n2_ n3_; (try clear hb); (try clear hb2); (try clear hk); (try clear hi); (try clear ho0); obtain ⟨Ao33, co33, eo33⟩ := Kd.R_slice HO448.out; subst eo33) | ((with_reducible refine gate_callee (f := 35) rfl ?_); refine goesL_ (some 56) rfl rfl Try.func35 (by kernel_rfl) rfl #[.slice Ao33 t446.length co33] rfl (by (try simp only [List.map_toArray, List.map_cons, List.map_nil]); first | done | rfl | (simp only [List.length_drop, List.length_take]; rfl)) ?_; have HO := Aside0.mk (Owns.one_own HB.out BK440.out GE440.out (by decide)); have HF : True := trivial; refine (pack_Parse.calls kj4 _ _ t446 t450 t451 t452 t453 t454 t455 t456 t457 t458 t459 t462 t465 t466 t467 t468 t469 t470 t471 t472 _ (Kd.R_reads' HO448.out).2.2 (Kd.R_reads' HO448.out).2.1 A23.out).mono ?_; rintro e w1 ⟨v1, v2, rfl, h1, h2, hb1⟩; obtain ⟨Ax, cx, rfl⟩ := Kd.R_slice h1; obtain ⟨Ay, cy, rfl⟩ := Kd.R_slice h2; refine ⟨_, rfl, ?_⟩; replace HO := Aside0.mk (HO.out.call2 hb1 h1 h2); clear hb1 h1 h2; clear HF; have HF := HO.out.facts; simp only [OwnsM.Facts, and_true] at HF) | ((with_reducible refine gate_dst (N := 13) rfl ?_); (try (refine gate_guard (by rfl) ?_; dsimp only)); refine ow_box HO rfl (N := 13) rfl #[.int .i64 0, .int .i64 0, .bool false, .bool false, .int .i64 0, .int .i64 0, .int .i64 0, .int .u32 0, .int .u32 0, .slice none 0 0, .slice none 0 0, .int .i64 0, .int .i64 0, .int .i64 0, .int .i64 0, .int .i64 0, .int .i64 0, .pointer none] 29 ?hr rfl ?_; (case hr => first | (go_simp; done) | (go_simp; rfl)); clear HO HF; intro g13 w1 HO; have HF := HO.out.facts; simp only [OwnsM.Facts, and_true] at HF) | ((with_reducible refine gate_store (p := 13) rfl ?_); (first | refine ow_put HO rfl rfl 0 rfl (ty := 29) rfl _ rfl rfl (by kernel_rfl) rfl rfl ?_); clear HO HF; intro w1 HO; simp only [List.set_cons_zero, List.set_cons_succ, List.setIfInBounds_toArray] at HO; have HF := HO.out.facts; simp only [OwnsM.Facts, and_true] at HF) | (go_at_call 24; (with_reducible refine (castellanlaw8_known.calls  t474 _ A28.out).mono ?_); rintro e w1 ⟨rfl, hb⟩; replace HO := Aside0.mk (HO.out.step hb); clear HF; have HF := HO.out.facts; simp only [OwnsM.Facts, and_true] at HF))
                go_ret
                exact ⟨by first | rfl | (simp [errW_none, errW_some] <;> rfl) | (simp [*, errW_none, errW_some] <;> rfl), HO.out.below⟩
              · rw [if_neg c27] at H
                have c27b0 : ((wrap64 ((wrap64 (t466 + t467)) + t468)) == 0) = false := beq_eq_false_iff_ne.mpr c27
                have c27b1 : ((wrap64 ((wrap64 (t466 + t467)) + t468)) != 0) = true := bne_iff_ne.mpr c27
                exact absurd (H.trans (congrArg some HRT.out)) (by simp)
            · rw [if_neg c26] at H
              have c26b0 : (t465 == 2) = false := beq_eq_false_iff_ne.mpr c26
              have c26b1 : (t465 != 2) = true := bne_iff_ne.mpr c26
              exact absurd (H.trans (congrArg some HRT.out)) (by simp)
          · rw [if_neg c25] at H
            have c25b0 : decide (0 < a3) = false := decide_eq_false c25
            clear c25
            by_cases c41 : t465 = 0
            · rw [if_pos c41] at H
              have c41b0 : (t465 == 0) = true := beq_iff_eq.mpr c41
              have c41b1 : (t465 != 0) = false := bne_eq_false_iff_eq.mpr c41
              clear c41
              by_cases c42 : t466 = a2_0
              · rw [if_pos c42] at H
                have c42b0 : (t466 == a2_0) = true := beq_iff_eq.mpr c42
                have c42b1 : (t466 != a2_0) = false := bne_eq_false_iff_eq.mpr c42
                clear c42
                by_cases c43 : t467 = a2_1
                · rw [if_pos c43] at H
                  have c43b0 : (t467 == a2_1) = true := beq_iff_eq.mpr c43
                  have c43b1 : (t467 != a2_1) = false := bne_eq_false_iff_eq.mpr c43
                  clear c43
                  by_cases c44 : t468 = a2_4
                  · rw [if_pos c44] at H
                    have c44b0 : (t468 == a2_4) = true := beq_iff_eq.mpr c44
                    have c44b1 : (t468 != a2_4) = false := bne_eq_false_iff_eq.mpr c44
                    clear c44
                    replace H := Option.bind_eq_some_iff.mp H
                    obtain ⟨⟨t475, t476, t477, t478, t479⟩, A450, H⟩ := H
                    replace H : (if (t475 == 6 && (t476 == a0 && (t477 == a1 && (t478 == a2_0 && (t479 == a2_1))))) = true then ((castellanlaw8_known.f).bind fun t480 => (some t480)) else (some false)) = some r := H
                    have A45 := Aside0.mk A450
                    clear A450
                    by_cases c46 : (t475 == 6 && (t476 == a0 && (t477 == a1 && (t478 == a2_0 && (t479 == a2_1))))) = true
                    · rw [if_pos c46] at H
                      have c46b0 : (t475 == 6 && (t476 == a0 && (t477 == a1 && (t478 == a2_0 && (t479 == a2_1))))) = true := c46
                      (try (have c46b1 : decide (t475 = 6 && (t476 == a0 && (t477 == a1 && (t478 == a2_0 && (t479 == a2_1))))) = true := by simpa using c46))
                      (try (have c46b2 : (t475 == 6 && (t476 == a0 && (t477 == a1 && (t478 == a2_0 && (t479 == a2_1))))) = true := by simpa using c46))
                      clear c46
                      replace H := Option.bind_eq_some_iff.mp H
                      obtain ⟨t480, A470, H⟩ := H
                      replace H : (some t480) = some r := H
                      have A47 := Aside0.mk A470
                      clear A470
                      obtain rfl := Option.some.inj H
                      have hcz48_0 : wc.cell? ⟨gb440, 0, none⟩ = some (.int .i64 a2_0) := (blk_cell BK440.out 0).trans rfl
                      have hcz48_1 : wc.cell? ⟨gb440, 1, none⟩ = some (.int .i64 a2_1) := (blk_cell BK440.out 1).trans rfl
                      have hcz48_2 : wc.cell? ⟨gb440, 2, none⟩ = some (.int .u32 a2_2) := (blk_cell BK440.out 2).trans rfl
                      have hcz48_3 : wc.cell? ⟨gb440, 3, none⟩ = some (.int .u32 a2_3) := (blk_cell BK440.out 3).trans rfl
                      have hcz48_4 : wc.cell? ⟨gb440, 4, none⟩ = some (.int .i64 a2_4) := (blk_cell BK440.out 4).trans rfl
                      have hcz48_5 : wc.cell? ⟨gb440, 5, none⟩ = some (.int .i64 a2_5) := (blk_cell BK440.out 5).trans rfl
                      have hcz48_6 : wc.cell? ⟨gb440, 6, none⟩ = some (.int .i64 a2_6) := (blk_cell BK440.out 6).trans rfl
                      have hcz48_7 : wc.cell? ⟨gb440, 7, none⟩ = some (.slice A2_7 l2_7.length c2_7) := (blk_cell BK440.out 7).trans rfl
                      have hcz48_8 : wc.cell? ⟨gb440, 8, none⟩ = some (.slice A2_8 l2_8.length c2_8) := (blk_cell BK440.out 8).trans rfl
                      have hfz48_0 := blk_frozen BK440.out 0
                      have hfz48_1 := blk_frozen BK440.out 1
                      have hfz48_2 := blk_frozen BK440.out 2
                      have hfz48_3 := blk_frozen BK440.out 3
                      have hfz48_4 := blk_frozen BK440.out 4
                      have hfz48_5 := blk_frozen BK440.out 5
                      have hfz48_6 := blk_frozen BK440.out 6
                      have hfz48_7 := blk_frozen BK440.out 7
                      have hfz48_8 := blk_frozen BK440.out 8
                      go_upto_region 10 with (first | ((with_reducible refine gate_callee (f := 33) rfl ?_); refine goesL_ (some 42) rfl rfl Try.func33 (by kernel_rfl) rfl #[.int .u32 a0, .int .u32 a1, .agg #[.int .i64 a2_0, .int .i64 a2_1, .int .u32 a2_2, .int .u32 a2_3, .int .i64 a2_4, .int .i64 a2_5, .int .i64 a2_6, .slice A2_7 l2_7.length c2_7, .slice A2_8 l2_8.length c2_8]] rfl (by (try simp only [List.map_toArray, List.map_cons, List.map_nil]); first | done | rfl | (simp only [List.length_drop, List.length_take]; rfl)) ?_; (with_reducible refine (castellanref5_Build.calls kj4 a0 a1 a2_0 a2_1 a2_2 a2_3 a2_4 a2_5 a2_6 _ _ l2_7 _ _ l2_8 t442 t445 _ ?side1 ?side2 ?side3 ?side4 A21.out).mono ?_); (case side1 => repeat (first | exact (Kd.C_below HR2_7.out HB.out) | (with_reducible refine Kd.C_alloc ?_ _) | (with_reducible refine Kd.C_drewN ?_ _) | (with_reducible refine Kd.C_drew ?_))); (case side2 => exact HC2_7.out); (case side3 => repeat (first | exact (Kd.C_below HR2_8.out HB.out) | (with_reducible refine Kd.C_alloc ?_ _) | (with_reducible refine Kd.C_drewN ?_ _) | (with_reducible refine Kd.C_drew ?_))); (case side4 => exact HC2_8.out); rintro e w49 ⟨v443, rfl, ho0, hb⟩; refine ⟨_, rfl, ?_⟩; have n0_ := Aside0.mk (Kd.R_lower ho0 (below_size (by repeat (first | (with_reducible first | exact HB.out | apply below_alloc | apply pw_below_drewN | apply below_drew1 | refine below_set ?_ GE440.out) | exact HB.out)))); have n1_ := Aside0.mk (blk_below (g := gb440) (o := .cells #[.int .i64 a2_0, .int .i64 a2_1, .int .u32 a2_2, .int .u32 a2_3, .int .i64 a2_4, .int .i64 a2_5, .int .i64 a2_6, .slice A2_7 l2_7.length c2_7, .slice A2_8 l2_8.length c2_8] 59 (0, 0)) (by (with_reducible repeat (first | refine blk_drewN ?_ _ | refine blk_drew ?_ | refine blk_alloc ?_ _)); exact BK440.out) hb); have n2_ := Aside0.mk (below_step (by repeat (first | (with_reducible first | exact HB.out | apply below_alloc | apply pw_below_drewN | apply below_drew1 | refine below_set ?_ GE440.out) | exact HB.out)) hb); clear BK440; clear HB; have HO444 := n0_; have BK440 := n1_; have HB := n2_; clear n0_ n1_ n2_; (try clear hb); (try clear hb2); (try clear hk); (try clear hi); (try clear ho0); obtain ⟨Ao50, co50, eo50⟩ := Kd.R_slice HO444.out; subst eo50) | ((with_reducible refine gate_callee (f := 26) rfl ?_); refine goesL_ (some 51) rfl rfl Try.func26 (by kernel_rfl) rfl #[.agg #[.int .i64 0, .int .i64 0, .bool false, .bool false, .int .i64 a3, .int .i64 7, .int .i64 6, .int .u32 a0, .int .u32 a1, .slice none 0 0, .slice Ao50 t442.length co50]] rfl (by (try simp only [List.map_toArray, List.map_cons, List.map_nil]); first | done | rfl | (simp only [List.length_drop, List.length_take]; rfl)) ?_; (refine (castellanref4_Build.calls kj4 0 0 false false a3 7 6 a0 a1 _ _ ([] : List Int) _ _ t442 t446 t449 _ ?side1 ?side2 ?side3 ?side4 A22.out).mono ?_); (case side1 => exact Kd.C_nil _ _); (case side2 => exact Nat.le_refl _); (case side3 => repeat (first | exact (Kd.R_reads' HO444.out).2.2 | (with_reducible refine Kd.C_alloc ?_ _) | (with_reducible refine Kd.C_drewN ?_ _) | (with_reducible refine Kd.C_drew ?_))); (case side4 => exact (Kd.R_reads' HO444.out).2.1); rintro e w51 ⟨v447, rfl, ho0, hb⟩; refine ⟨_, rfl, ?_⟩; have n0_ := Aside0.mk (Kd.R_elder' (by (with_reducible repeat (first | apply Kd.R_alloc | apply Kd.R_drewN | apply Kd.R_drew)); exact HO444.out) (Kd.R_base ho0) hb); have n1_ := Aside0.mk (Kd.R_lower (Kd.R_new' ho0 (Kd.R_lt (by (with_reducible repeat (first | apply Kd.R_alloc | apply Kd.R_drewN | apply Kd.R_drew)); exact HO444.out))) (below_size (by repeat (first | (with_reducible first | exact HB.out | apply below_alloc | apply pw_below_drewN | apply below_drew1 | refine below_set ?_ GE440.out) | exact HB.out)))); have n2_ := Aside0.mk (blk_below (g := gb440) (o := .cells #[.int .i64 a2_0, .int .i64 a2_1, .int .u32 a2_2, .int .u32 a2_3, .int .i64 a2_4, .int .i64 a2_5, .int .i64 a2_6, .slice A2_7 l2_7.length c2_7, .slice A2_8 l2_8.length c2_8] 59 (0, 0)) (by (with_reducible repeat (first | refine blk_drewN ?_ _ | refine blk_drew ?_ | refine blk_alloc ?_ _)); exact BK440.out) hb); have n3_ := Aside0.mk (below_step (by repeat (first | (with_reducible first | exact HB.out | apply below_alloc | apply pw_below_drewN | apply below_drew1 | refine below_set ?_ GE440.out) | exact HB.out)) hb); clear HO444; clear BK440; clear HB; have HO444 := n0_; have HO448 := n1_; have BK440 := n2_; have HB := n3_; clear n0_ n1_ n2_ n3_; (try clear hb); (try clear hb2); (try clear hk); (try clear hi); (try clear ho0); obtain ⟨Ao52, co52, eo52⟩ := Kd.R_slice HO448.out; subst eo52) | ((with_reducible refine gate_callee (f := 35) rfl ?_); refine goesL_ (some 56) rfl rfl Try.func35 (by kernel_rfl) rfl #[.slice Ao52 t446.length co52] rfl (by (try simp only [List.map_toArray, List.map_cons, List.map_nil]); first | done | rfl | (simp only [List.length_drop, List.length_take]; rfl)) ?_; have HO := Aside0.mk (Owns.one_own HB.out BK440.out GE440.out (by decide)); have HF : True := trivial; refine (pack_Parse.calls kj4 _ _ t446 t450 t451 t452 t453 t454 t455 t456 t457 t458 t459 t462 t465 t466 t467 t468 t469 t470 t471 t472 _ (Kd.R_reads' HO448.out).2.2 (Kd.R_reads' HO448.out).2.1 A23.out).mono ?_; rintro e w1 ⟨v1, v2, rfl, h1, h2, hb1⟩; obtain ⟨Ax, cx, rfl⟩ := Kd.R_slice h1; obtain ⟨Ay, cy, rfl⟩ := Kd.R_slice h2; refine ⟨_, rfl, ?_⟩; replace HO := Aside0.mk (HO.out.call2 hb1 h1 h2); clear hb1 h1 h2; clear HF; have HF := HO.out.facts; simp only [OwnsM.Facts, and_true] at HF) | ((with_reducible refine gate_dst (N := 13) rfl ?_); (try (refine gate_guard (by rfl) ?_; dsimp only)); refine ow_box HO rfl (N := 13) rfl #[.int .i64 0, .int .i64 0, .bool false, .bool false, .int .i64 0, .int .i64 0, .int .i64 0, .int .u32 0, .int .u32 0, .slice none 0 0, .slice none 0 0, .int .i64 0, .int .i64 0, .int .i64 0, .int .i64 0, .int .i64 0, .int .i64 0, .pointer none] 29 ?hr rfl ?_; (case hr => first | (go_simp; done) | (go_simp; rfl)); clear HO HF; intro g13 w1 HO; have HF := HO.out.facts; simp only [OwnsM.Facts, and_true] at HF) | ((with_reducible refine gate_store (p := 13) rfl ?_); (first | refine ow_put HO rfl rfl 0 rfl (ty := 29) rfl _ rfl rfl (by kernel_rfl) rfl rfl ?_); clear HO HF; intro w1 HO; simp only [List.set_cons_zero, List.set_cons_succ, List.setIfInBounds_toArray] at HO; have HF := HO.out.facts; simp only [OwnsM.Facts, and_true] at HF))
                      have HO1_ := Aside0.mk HO.out.drew
                      clear HO HF
                      have HO := HO1_
                      clear HO1_
                      refine start_ (n := 40) (S := fun w' => w'.heap[g13]? = some (.cells #[.int .i64 t450, .int .i64 t451, .bool t452, .bool t453, .int .i64 t454, .int .i64 t455, .int .i64 t456, .int .u32 t457, .int .u32 t458, .slice Ax t459.length cx, .slice Ay t462.length cy, .int .i64 t465, .int .i64 t466, .int .i64 t467, .int .i64 t468, .int .i64 t469, .int .i64 t470, .pointer t471] 29 (0, 0)) ∧ w'.heap[gb440]? = some (.cells #[.int .i64 a2_0, .int .i64 a2_1, .int .u32 a2_2, .int .u32 a2_3, .int .i64 a2_4, .int .i64 a2_5, .int .i64 a2_6, .slice A2_7 l2_7.length c2_7, .slice A2_8 l2_8.length c2_8] 59 (0, 0))) (ds := []) #[false, false, false, false, false, false, false, false, false, false, false, false, false, false, false, false, false, false, false, false, false, false, false, false, false, false, false, false, false, false, false, false, false, false, false, false, false, false, false, false] (by kernel_rfl) rfl rfl ⟨(HO.out.at_ 0 rfl), (HO.out.at_ 1 rfl)⟩ (fun hHeld => ?_); refine with_tabW castellanlaw8_PackPorts.tab10 castellanlaw8_PackPorts.bits10 (fun HT_ HW_ => ?_)
                      generalize w1.drew = w1 at HO hHeld ⊢
                      refine pure_ (i := 0) (N := some 80) (v := ?_) (a' := ?_) #[true, false, false, false, false, false, false, false, false, false, false, false, false, false, false, false, false, false, false, false, false, false, false, false, false, false, false, false, false, false, false, false, false, false, false, false, false, false, false, false] rfl rfl (any_of HT_.out (by kernel_rfl)) (fun _ _ _ h => h) (Or.inl ⟨by rfl, ?_⟩) ?_ ?_
                      rotate_left
                      · intro w'
                        go_simp
                        with_reducible rfl
                      rotate_left
                      · simp only [Act.put, List.setIfInBounds_toArray, List.set_cons_zero, List.set_cons_succ, i64_w, i32_w]
                        rfl
                      refine take_ (i := 1) (N := some 81) (v := ?_) (a' := ?_) #[true, true, false, false, false, false, false, false, false, false, false, false, false, false, false, false, false, false, false, false, false, false, false, false, false, false, false, false, false, false, false, false, false, false, false, false, false, false, false, false] rfl rfl (take_ofW HT_.out HW_.out (by kernel_rfl)) (fun _ _ _ h => h) (Or.inl ⟨by rfl, ?_⟩) hHeld ?_ ?_
                      rotate_left
                      · rintro w' ⟨s0, s1⟩
                        have F0 := fun j => blk_cell s0 j
                        have F1 := fun j => blk_cell s1 j
                        clear s0 s1
                        go_simp
                        with_reducible rfl
                      rotate_left
                      · simp only [Act.put, List.setIfInBounds_toArray, List.set_cons_zero, List.set_cons_succ, i64_w, i32_w]
                        rfl
                      refine pure_ (i := 2) (N := some 82) (v := ?_) (a' := ?_) #[true, true, true, false, false, false, false, false, false, false, false, false, false, false, false, false, false, false, false, false, false, false, false, false, false, false, false, false, false, false, false, false, false, false, false, false, false, false, false, false] rfl rfl (any_of HT_.out (by kernel_rfl)) (fun _ _ _ h => h) (Or.inl ⟨by rfl, ?_⟩) ?_ ?_
                      rotate_left
                      · intro w'
                        go_simp
                        with_reducible rfl
                      rotate_left
                      · simp only [Act.put, List.setIfInBounds_toArray, List.set_cons_zero, List.set_cons_succ, i64_w, i32_w]
                        rfl
                      refine pure_ (i := 3) (N := some 83) (v := ?_) (a' := ?_) #[true, true, true, true, false, false, false, false, false, false, false, false, false, false, false, false, false, false, false, false, false, false, false, false, false, false, false, false, false, false, false, false, false, false, false, false, false, false, false, false] rfl rfl (any_of HT_.out (by kernel_rfl)) (fun _ _ _ h => h) (Or.inl ⟨by rfl, ?_⟩) ?_ ?_
                      rotate_left
                      · intro w'
                        go_simp
                        with_reducible rfl
                      rotate_left
                      · simp only [Act.put, List.setIfInBounds_toArray, List.set_cons_zero, List.set_cons_succ, i64_w, i32_w]
                        rfl
                      refine pure_ (i := 4) (N := some 84) (v := ?_) (a' := ?_) #[true, true, true, true, true, false, false, false, false, false, false, false, false, false, false, false, false, false, false, false, false, false, false, false, false, false, false, false, false, false, false, false, false, false, false, false, false, false, false, false] rfl rfl (any_of HT_.out (by kernel_rfl)) (fun _ _ _ h => h) (Or.inl ⟨by rfl, ?_⟩) ?_ ?_
                      rotate_left
                      · intro w'
                        go_simp
                        with_reducible rfl
                      rotate_left
                      · simp only [Act.put, List.setIfInBounds_toArray, List.set_cons_zero, List.set_cons_succ, i64_w, i32_w]
                        rfl
                      refine pure_ (i := 6) (N := some 86) (v := ?_) (a' := ?_) #[true, true, true, true, true, false, true, false, false, false, false, false, false, false, false, false, false, false, false, false, false, false, false, false, false, false, false, false, false, false, false, false, false, false, false, false, false, false, false, false] rfl rfl (any_of HT_.out (by kernel_rfl)) (fun _ _ _ h => h) (Or.inl ⟨by rfl, ?_⟩) ?_ ?_
                      rotate_left
                      · intro w'
                        go_simp
                        with_reducible rfl
                      rotate_left
                      · simp only [Act.put, List.setIfInBounds_toArray, List.set_cons_zero, List.set_cons_succ, i64_w, i32_w]
                        rfl
                      refine take_ (i := 5) (N := some 85) (v := ?_) (a' := ?_) #[true, true, true, true, true, true, true, false, false, false, false, false, false, false, false, false, false, false, false, false, false, false, false, false, false, false, false, false, false, false, false, false, false, false, false, false, false, false, false, false] rfl rfl (take_ofW HT_.out HW_.out (by kernel_rfl)) (fun _ _ _ h => h) (Or.inl ⟨by rfl, ?_⟩) hHeld ?_ ?_
                      rotate_left
                      · rintro w' ⟨s0, s1⟩
                        have F0 := fun j => blk_cell s0 j
                        have F1 := fun j => blk_cell s1 j
                        clear s0 s1
                        go_simp
                        with_reducible rfl
                      rotate_left
                      · simp only [Act.put, List.setIfInBounds_toArray, List.set_cons_zero, List.set_cons_succ, i64_w, i32_w]
                        rfl
                      refine take_ (i := 7) (N := some 87) (v := ?_) (a' := ?_) #[true, true, true, true, true, true, true, true, false, false, false, false, false, false, false, false, false, false, false, false, false, false, false, false, false, false, false, false, false, false, false, false, false, false, false, false, false, false, false, false] rfl rfl (take_ofW HT_.out HW_.out (by kernel_rfl)) (fun _ _ _ h => h) (Or.inl ⟨by rfl, ?_⟩) hHeld ?_ ?_
                      rotate_left
                      · rintro w' ⟨s0, s1⟩
                        have F0 := fun j => blk_cell s0 j
                        have F1 := fun j => blk_cell s1 j
                        clear s0 s1
                        go_simp
                        with_reducible rfl
                      rotate_left
                      · simp only [Act.put, List.setIfInBounds_toArray, List.set_cons_zero, List.set_cons_succ, i64_w, i32_w]
                        rfl
                      refine pure_ (i := 8) (N := some 88) (v := ?_) (a' := ?_) #[true, true, true, true, true, true, true, true, true, false, false, false, false, false, false, false, false, false, false, false, false, false, false, false, false, false, false, false, false, false, false, false, false, false, false, false, false, false, false, false] rfl rfl (any_of HT_.out (by kernel_rfl)) (fun _ _ _ h => h) (Or.inl ⟨by rfl, ?_⟩) ?_ ?_
                      rotate_left
                      · intro w'
                        go_simp
                        with_reducible rfl
                      rotate_left
                      · simp only [Act.put, List.setIfInBounds_toArray, List.set_cons_zero, List.set_cons_succ, i64_w, i32_w]
                        rfl
                      refine pure_ (i := 9) (N := some 89) (v := ?_) (a' := ?_) #[true, true, true, true, true, true, true, true, true, true, false, false, false, false, false, false, false, false, false, false, false, false, false, false, false, false, false, false, false, false, false, false, false, false, false, false, false, false, false, false] rfl rfl (any_of HT_.out (by kernel_rfl)) (fun _ _ _ h => h) (Or.inl ⟨by rfl, ?_⟩) ?_ ?_
                      rotate_left
                      · intro w'
                        go_simp
                        with_reducible rfl
                      rotate_left
                      · simp only [Act.put, List.setIfInBounds_toArray, List.set_cons_zero, List.set_cons_succ, i64_w, i32_w]
                        rfl
                      refine pure_ (i := 10) (N := some 90) (v := ?_) (a' := ?_) #[true, true, true, true, true, true, true, true, true, true, true, false, false, false, false, false, false, false, false, false, false, false, false, false, false, false, false, false, false, false, false, false, false, false, false, false, false, false, false, false] rfl rfl (any_of HT_.out (by kernel_rfl)) (fun _ _ _ h => h) (Or.inl ⟨by rfl, ?_⟩) ?_ ?_
                      rotate_left
                      · intro w'
                        go_simp
                        with_reducible rfl
                      rotate_left
                      · simp only [Act.put, List.setIfInBounds_toArray, List.set_cons_zero, List.set_cons_succ, i64_w, i32_w]
                        rfl
                      refine pure_ (i := 11) (N := some 91) (v := ?_) (a' := ?_) #[true, true, true, true, true, true, true, true, true, true, true, true, false, false, false, false, false, false, false, false, false, false, false, false, false, false, false, false, false, false, false, false, false, false, false, false, false, false, false, false] rfl rfl (any_of HT_.out (by kernel_rfl)) (fun _ _ _ h => h) (Or.inl ⟨by rfl, ?_⟩) ?_ ?_
                      rotate_left
                      · intro w'
                        go_simp
                        with_reducible rfl
                      rotate_left
                      · simp only [Act.put, List.setIfInBounds_toArray, List.set_cons_zero, List.set_cons_succ, i64_w, i32_w]
                        rfl
                      refine pure_ (i := 13) (N := some 93) (v := ?_) (a' := ?_) #[true, true, true, true, true, true, true, true, true, true, true, true, false, true, false, false, false, false, false, false, false, false, false, false, false, false, false, false, false, false, false, false, false, false, false, false, false, false, false, false] rfl rfl (any_of HT_.out (by kernel_rfl)) (fun _ _ _ h => h) (Or.inl ⟨by rfl, ?_⟩) ?_ ?_
                      rotate_left
                      · intro w'
                        go_simp
                        with_reducible rfl
                      rotate_left
                      · simp only [Act.put, List.setIfInBounds_toArray, List.set_cons_zero, List.set_cons_succ, i64_w, i32_w]
                        rfl
                      refine take_ (i := 12) (N := some 92) (v := ?_) (a' := ?_) #[true, true, true, true, true, true, true, true, true, true, true, true, true, true, false, false, false, false, false, false, false, false, false, false, false, false, false, false, false, false, false, false, false, false, false, false, false, false, false, false] rfl rfl (take_ofW HT_.out HW_.out (by kernel_rfl)) (fun _ _ _ h => h) (Or.inl ⟨by rfl, ?_⟩) hHeld ?_ ?_
                      rotate_left
                      · rintro w' ⟨s0, s1⟩
                        have F0 := fun j => blk_cell s0 j
                        have F1 := fun j => blk_cell s1 j
                        clear s0 s1
                        go_simp
                        with_reducible rfl
                      rotate_left
                      · simp only [Act.put, List.setIfInBounds_toArray, List.set_cons_zero, List.set_cons_succ, i64_w, i32_w]
                        rfl
                      refine take_ (i := 14) (N := some 94) (v := ?_) (a' := ?_) #[true, true, true, true, true, true, true, true, true, true, true, true, true, true, true, false, false, false, false, false, false, false, false, false, false, false, false, false, false, false, false, false, false, false, false, false, false, false, false, false] rfl rfl (take_ofW HT_.out HW_.out (by kernel_rfl)) (fun _ _ _ h => h) (Or.inl ⟨by rfl, ?_⟩) hHeld ?_ ?_
                      rotate_left
                      · rintro w' ⟨s0, s1⟩
                        have F0 := fun j => blk_cell s0 j
                        have F1 := fun j => blk_cell s1 j
                        clear s0 s1
                        go_simp
                        with_reducible rfl
                      rotate_left
                      · simp only [Act.put, List.setIfInBounds_toArray, List.set_cons_zero, List.set_cons_succ, i64_w, i32_w]
                        rfl
                      refine pure_ (i := 15) (N := some 95) (v := ?_) (a' := ?_) #[true, true, true, true, true, true, true, true, true, true, true, true, true, true, true, true, false, false, false, false, false, false, false, false, false, false, false, false, false, false, false, false, false, false, false, false, false, false, false, false] rfl rfl (any_of HT_.out (by kernel_rfl)) (fun _ _ _ h => h) (Or.inl ⟨by rfl, ?_⟩) ?_ ?_
                      rotate_left
                      · intro w'
                        go_simp
                        with_reducible rfl
                      rotate_left
                      · simp only [Act.put, List.setIfInBounds_toArray, List.set_cons_zero, List.set_cons_succ, i64_w, i32_w]
                        rfl
                      refine pure_ (i := 16) (N := some 96) (v := ?_) (a' := ?_) #[true, true, true, true, true, true, true, true, true, true, true, true, true, true, true, true, true, false, false, false, false, false, false, false, false, false, false, false, false, false, false, false, false, false, false, false, false, false, false, false] rfl rfl (any_of HT_.out (by kernel_rfl)) (fun _ _ _ h => h) (Or.inl ⟨by rfl, ?_⟩) ?_ ?_
                      rotate_left
                      · intro w'
                        go_simp
                        with_reducible rfl
                      rotate_left
                      · simp only [Act.put, List.setIfInBounds_toArray, List.set_cons_zero, List.set_cons_succ, i64_w, i32_w]
                        rfl
                      refine pure_ (i := 17) (N := some 97) (v := ?_) (a' := ?_) #[true, true, true, true, true, true, true, true, true, true, true, true, true, true, true, true, true, true, false, false, false, false, false, false, false, false, false, false, false, false, false, false, false, false, false, false, false, false, false, false] rfl rfl (any_of HT_.out (by kernel_rfl)) (fun _ _ _ h => h) (Or.inl ⟨by rfl, ?_⟩) ?_ ?_
                      rotate_left
                      · intro w'
                        go_simp
                        with_reducible rfl
                      rotate_left
                      · simp only [Act.put, List.setIfInBounds_toArray, List.set_cons_zero, List.set_cons_succ, i64_w, i32_w]
                        rfl
                      refine pure_ (i := 18) (N := some 98) (v := ?_) (a' := ?_) #[true, true, true, true, true, true, true, true, true, true, true, true, true, true, true, true, true, true, true, false, false, false, false, false, false, false, false, false, false, false, false, false, false, false, false, false, false, false, false, false] rfl rfl (any_of HT_.out (by kernel_rfl)) (fun _ _ _ h => h) (Or.inl ⟨by rfl, ?_⟩) ?_ ?_
                      rotate_left
                      · intro w'
                        go_simp
                        with_reducible rfl
                      rotate_left
                      · simp only [Act.put, List.setIfInBounds_toArray, List.set_cons_zero, List.set_cons_succ, i64_w, i32_w]
                        rfl
                      refine pure_ (i := 20) (N := some 100) (v := ?_) (a' := ?_) #[true, true, true, true, true, true, true, true, true, true, true, true, true, true, true, true, true, true, true, false, true, false, false, false, false, false, false, false, false, false, false, false, false, false, false, false, false, false, false, false] rfl rfl (any_of HT_.out (by kernel_rfl)) (fun _ _ _ h => h) (Or.inl ⟨by rfl, ?_⟩) ?_ ?_
                      rotate_left
                      · intro w'
                        go_simp
                        with_reducible rfl
                      rotate_left
                      · simp only [Act.put, List.setIfInBounds_toArray, List.set_cons_zero, List.set_cons_succ, i64_w, i32_w]
                        rfl
                      refine take_ (i := 19) (N := some 99) (v := ?_) (a' := ?_) #[true, true, true, true, true, true, true, true, true, true, true, true, true, true, true, true, true, true, true, true, true, false, false, false, false, false, false, false, false, false, false, false, false, false, false, false, false, false, false, false] rfl rfl (take_ofW HT_.out HW_.out (by kernel_rfl)) (fun _ _ _ h => h) (Or.inl ⟨by rfl, ?_⟩) hHeld ?_ ?_
                      rotate_left
                      · rintro w' ⟨s0, s1⟩
                        have F0 := fun j => blk_cell s0 j
                        have F1 := fun j => blk_cell s1 j
                        clear s0 s1
                        go_simp
                        with_reducible rfl
                      rotate_left
                      · simp only [Act.put, List.setIfInBounds_toArray, List.set_cons_zero, List.set_cons_succ, i64_w, i32_w]
                        rfl
                      refine take_ (i := 21) (N := some 101) (v := ?_) (a' := ?_) #[true, true, true, true, true, true, true, true, true, true, true, true, true, true, true, true, true, true, true, true, true, true, false, false, false, false, false, false, false, false, false, false, false, false, false, false, false, false, false, false] rfl rfl (take_ofW HT_.out HW_.out (by kernel_rfl)) (fun _ _ _ h => h) (Or.inl ⟨by rfl, ?_⟩) hHeld ?_ ?_
                      rotate_left
                      · rintro w' ⟨s0, s1⟩
                        have F0 := fun j => blk_cell s0 j
                        have F1 := fun j => blk_cell s1 j
                        clear s0 s1
                        go_simp
                        with_reducible rfl
                      rotate_left
                      · simp only [Act.put, List.setIfInBounds_toArray, List.set_cons_zero, List.set_cons_succ, i64_w, i32_w]
                        rfl
                      refine pure_ (i := 22) (N := some 102) (v := ?_) (a' := ?_) #[true, true, true, true, true, true, true, true, true, true, true, true, true, true, true, true, true, true, true, true, true, true, true, false, false, false, false, false, false, false, false, false, false, false, false, false, false, false, false, false] rfl rfl (any_of HT_.out (by kernel_rfl)) (fun _ _ _ h => h) (Or.inl ⟨by rfl, ?_⟩) ?_ ?_
                      rotate_left
                      · intro w'
                        go_simp
                        with_reducible rfl
                      rotate_left
                      · simp only [Act.put, List.setIfInBounds_toArray, List.set_cons_zero, List.set_cons_succ, i64_w, i32_w]
                        rfl
                      refine pure_ (i := 23) (N := some 103) (v := ?_) (a' := ?_) #[true, true, true, true, true, true, true, true, true, true, true, true, true, true, true, true, true, true, true, true, true, true, true, true, false, false, false, false, false, false, false, false, false, false, false, false, false, false, false, false] rfl rfl (any_of HT_.out (by kernel_rfl)) (fun _ _ _ h => h) (Or.inl ⟨by rfl, ?_⟩) ?_ ?_
                      rotate_left
                      · intro w'
                        go_simp
                        with_reducible rfl
                      rotate_left
                      · simp only [Act.put, List.setIfInBounds_toArray, List.set_cons_zero, List.set_cons_succ, i64_w, i32_w]
                        rfl
                      refine pure_ (i := 24) (N := some 104) (v := ?_) (a' := ?_) #[true, true, true, true, true, true, true, true, true, true, true, true, true, true, true, true, true, true, true, true, true, true, true, true, true, false, false, false, false, false, false, false, false, false, false, false, false, false, false, false] rfl rfl (any_of HT_.out (by kernel_rfl)) (fun _ _ _ h => h) (Or.inl ⟨by rfl, ?_⟩) ?_ ?_
                      rotate_left
                      · intro w'
                        go_simp
                        with_reducible rfl
                      rotate_left
                      · simp only [Act.put, List.setIfInBounds_toArray, List.set_cons_zero, List.set_cons_succ, i64_w, i32_w]
                        rfl
                      refine pure_ (i := 27) (N := some 107) (v := ?_) (a' := ?_) #[true, true, true, true, true, true, true, true, true, true, true, true, true, true, true, true, true, true, true, true, true, true, true, true, true, false, false, true, false, false, false, false, false, false, false, false, false, false, false, false] rfl rfl (any_of HT_.out (by kernel_rfl)) (fun _ _ _ h => h) (Or.inl ⟨by rfl, ?_⟩) ?_ ?_
                      rotate_left
                      · intro w'
                        go_simp
                        with_reducible rfl
                      rotate_left
                      · simp only [Act.put, List.setIfInBounds_toArray, List.set_cons_zero, List.set_cons_succ, i64_w, i32_w]
                        rfl
                      refine pure_ (i := 28) (N := some 108) (v := ?_) (a' := ?_) #[true, true, true, true, true, true, true, true, true, true, true, true, true, true, true, true, true, true, true, true, true, true, true, true, true, false, false, true, true, false, false, false, false, false, false, false, false, false, false, false] rfl rfl (any_of HT_.out (by kernel_rfl)) (fun _ _ _ h => h) (Or.inl ⟨by rfl, ?_⟩) ?_ ?_
                      rotate_left
                      · intro w'
                        go_simp
                        with_reducible rfl
                      rotate_left
                      · simp only [Act.put, List.setIfInBounds_toArray, List.set_cons_zero, List.set_cons_succ, i64_w, i32_w]
                        rfl
                      refine pure_ (i := 29) (N := some 109) (v := ?_) (a' := ?_) #[true, true, true, true, true, true, true, true, true, true, true, true, true, true, true, true, true, true, true, true, true, true, true, true, true, false, false, true, true, true, false, false, false, false, false, false, false, false, false, false] rfl rfl (any_of HT_.out (by kernel_rfl)) (fun _ _ _ h => h) (Or.inl ⟨by rfl, ?_⟩) ?_ ?_
                      rotate_left
                      · intro w'
                        go_simp
                        with_reducible rfl
                      rotate_left
                      · simp only [Act.put, List.setIfInBounds_toArray, List.set_cons_zero, List.set_cons_succ, i64_w, i32_w]
                        rfl
                      refine pure_ (i := 31) (N := some 111) (v := ?_) (a' := ?_) #[true, true, true, true, true, true, true, true, true, true, true, true, true, true, true, true, true, true, true, true, true, true, true, true, true, false, false, true, true, true, false, true, false, false, false, false, false, false, false, false] rfl rfl (any_of HT_.out (by kernel_rfl)) (fun _ _ _ h => h) (Or.inl ⟨by rfl, ?_⟩) ?_ ?_
                      rotate_left
                      · intro w'
                        go_simp
                        with_reducible rfl
                      rotate_left
                      · simp only [Act.put, List.setIfInBounds_toArray, List.set_cons_zero, List.set_cons_succ, i64_w, i32_w]
                        rfl
                      refine take_ (i := 25) (N := some 105) (v := ?_) (a' := ?_) #[true, true, true, true, true, true, true, true, true, true, true, true, true, true, true, true, true, true, true, true, true, true, true, true, true, true, false, true, true, true, false, true, false, false, false, false, false, false, false, false] rfl rfl (take_ofW HT_.out HW_.out (by kernel_rfl)) (fun _ _ _ h => h) (Or.inl ⟨by rfl, ?_⟩) hHeld ?_ ?_
                      rotate_left
                      · rintro w' ⟨s0, s1⟩
                        refine exec_load_row 29 (.tmp 13) ?ho ?hx s0 Try.underlying29 rfl ?hi
                        case ho => rfl
                        case hx => rfl
                        case hi => kernel_rfl
                      rotate_left
                      · simp only [Act.put, List.setIfInBounds_toArray, List.set_cons_zero, List.set_cons_succ, i64_w, i32_w]
                        rfl
                      refine take_ (i := 30) (N := some 110) (v := ?_) (a' := ?_) #[true, true, true, true, true, true, true, true, true, true, true, true, true, true, true, true, true, true, true, true, true, true, true, true, true, true, false, true, true, true, true, true, false, false, false, false, false, false, false, false] rfl rfl (take_ofW HT_.out HW_.out (by kernel_rfl)) (fun _ _ _ h => h) (Or.inl ⟨by rfl, ?_⟩) hHeld ?_ ?_
                      rotate_left
                      · rintro w' ⟨s0, s1⟩
                        have F0 := fun j => blk_cell s0 j
                        have F1 := fun j => blk_cell s1 j
                        clear s0 s1
                        go_simp
                        with_reducible rfl
                      rotate_left
                      · simp only [Act.put, List.setIfInBounds_toArray, List.set_cons_zero, List.set_cons_succ, i64_w, i32_w]
                        rfl
                      refine take_ (i := 32) (N := some 112) (v := ?_) (a' := ?_) #[true, true, true, true, true, true, true, true, true, true, true, true, true, true, true, true, true, true, true, true, true, true, true, true, true, true, false, true, true, true, true, true, true, false, false, false, false, false, false, false] rfl rfl (take_ofW HT_.out HW_.out (by kernel_rfl)) (fun _ _ _ h => h) (Or.inl ⟨by rfl, ?_⟩) hHeld ?_ ?_
                      rotate_left
                      · rintro w' ⟨s0, s1⟩
                        have F0 := fun j => blk_cell s0 j
                        have F1 := fun j => blk_cell s1 j
                        clear s0 s1
                        go_simp
                        with_reducible rfl
                      rotate_left
                      · simp only [Act.put, List.setIfInBounds_toArray, List.set_cons_zero, List.set_cons_succ, i64_w, i32_w]
                        rfl
                      refine pure_ (i := 33) (N := some 113) (v := ?_) (a' := ?_) #[true, true, true, true, true, true, true, true, true, true, true, true, true, true, true, true, true, true, true, true, true, true, true, true, true, true, false, true, true, true, true, true, true, true, false, false, false, false, false, false] rfl rfl (any_of HT_.out (by kernel_rfl)) (fun _ _ _ h => h) (Or.inl ⟨by rfl, ?_⟩) ?_ ?_
                      rotate_left
                      · intro w'
                        go_simp
                        with_reducible rfl
                      rotate_left
                      · simp only [Act.put, List.setIfInBounds_toArray, List.set_cons_zero, List.set_cons_succ, i64_w, i32_w]
                        rfl
                      refine one_ (i := 26) (N := some 106) #[true, true, true, true, true, true, true, true, true, true, true, true, true, true, true, true, true, true, true, true, true, true, true, true, true, true, true, true, true, true, true, true, true, true, false, false, false, false, false, false] rfl rfl (one_of HT_.out (by kernel_rfl)) (by decide) (fun K hK => ?_)
                      refine goes_ Try.func16 (by kernel_rfl) rfl #[.agg #[.int .i64 t450, .int .i64 t451, .bool t452, .bool t453, .int .i64 t454, .int .i64 t455, .int .i64 t456, .int .u32 t457, .int .u32 t458, .slice Ax t459.length cx, .slice Ay t462.length cy, .int .i64 t465, .int .i64 t466, .int .i64 t467, .int .i64 t468, .int .i64 t469, .int .i64 t470, .pointer t471]] (by rfl) rfl rfl (by (try simp only [List.map_toArray, List.map_cons, List.map_nil]); first | done | rfl | (simp only [List.length_drop, List.length_take]; rfl)) ?_
                      refine (pack_KeyOf.calls t450 t451 t452 t453 t454 t455 t456 t457 t458 _ _ t459 _ _ t462 t465 t466 t467 t468 t469 t470 t471 t475 t476 t477 t478 t479 _ (HO.out.rd 1 rfl) (HO.out.cap 1 rfl) (HO.out.rd 0 rfl) (HO.out.cap 0 rfl) A45.out).mono ?_
                      rintro e w1 ⟨rfl, hb1⟩
                      refine ⟨_, rfl, ?_⟩
                      replace HO := Aside0.mk (HO.out.step hb1)
                      clear hb1
                      refine hK.out _ _ ⟨(HO.out.at_ 0 rfl), (HO.out.at_ 1 rfl)⟩ (fun hHeld => ?_)
                      clear hK K
                      refine norm_ (a' := ?_) ?_ ?_
                      rotate_left
                      · show Act.put _ (some 106) _ = _
                        simp only [Act.put, List.setIfInBounds_toArray, List.set_cons_zero, List.set_cons_succ, i64_w, i32_w]
                        rfl
                      refine pure_ (i := 34) (N := some 114) (v := ?_) (a' := ?_) #[true, true, true, true, true, true, true, true, true, true, true, true, true, true, true, true, true, true, true, true, true, true, true, true, true, true, true, true, true, true, true, true, true, true, true, false, false, false, false, false] rfl rfl (any_of HT_.out (by kernel_rfl)) (fun _ _ _ h => h) (Or.inl ⟨by rfl, ?_⟩) ?_ ?_
                      rotate_left
                      · intro w'
                        go_simp
                        with_reducible rfl
                      rotate_left
                      · simp only [Act.put, List.setIfInBounds_toArray, List.set_cons_zero, List.set_cons_succ, i64_w, i32_w]
                        rfl
                      refine pure_ (i := 35) (N := some 115) (v := ?_) (a' := ?_) #[true, true, true, true, true, true, true, true, true, true, true, true, true, true, true, true, true, true, true, true, true, true, true, true, true, true, true, true, true, true, true, true, true, true, true, true, false, false, false, false] rfl rfl (any_of HT_.out (by kernel_rfl)) (fun _ _ _ h => h) (Or.inl ⟨by rfl, ?_⟩) ?_ ?_
                      rotate_left
                      · intro w'
                        go_simp
                        with_reducible rfl
                      rotate_left
                      · simp only [Act.put, List.setIfInBounds_toArray, List.set_cons_zero, List.set_cons_succ, i64_w, i32_w]
                        rfl
                      refine pure_ (i := 36) (N := some 116) (v := ?_) (a' := ?_) #[true, true, true, true, true, true, true, true, true, true, true, true, true, true, true, true, true, true, true, true, true, true, true, true, true, true, true, true, true, true, true, true, true, true, true, true, true, false, false, false] rfl rfl (any_of HT_.out (by kernel_rfl)) (fun _ _ _ h => h) (Or.inl ⟨by rfl, ?_⟩) ?_ ?_
                      rotate_left
                      · intro w'
                        go_simp
                        with_reducible rfl
                      rotate_left
                      · simp only [Act.put, List.setIfInBounds_toArray, List.set_cons_zero, List.set_cons_succ, i64_w, i32_w]
                        rfl
                      refine one_ (i := 37) (N := some 117) #[true, true, true, true, true, true, true, true, true, true, true, true, true, true, true, true, true, true, true, true, true, true, true, true, true, true, true, true, true, true, true, true, true, true, true, true, true, true, false, false] rfl rfl (one_of HT_.out (by kernel_rfl)) (by decide) (fun K hK => ?_)
                      refine goes_ Try.func24 (by kernel_rfl) rfl #[] (by rfl) rfl rfl (by (try simp only [List.map_toArray, List.map_cons, List.map_nil]); first | done | rfl | (simp only [List.length_drop, List.length_take]; rfl)) ?_
                      refine (castellanlaw8_known.calls  t480 _ A47.out).mono ?_
                      rintro e w1 ⟨rfl, hb1⟩
                      refine ⟨_, rfl, ?_⟩
                      replace HO := Aside0.mk (HO.out.step hb1)
                      clear hb1
                      refine hK.out _ _ ⟨(HO.out.at_ 0 rfl), (HO.out.at_ 1 rfl)⟩ (fun hHeld => ?_)
                      clear hK K
                      refine norm_ (a' := ?_) ?_ ?_
                      rotate_left
                      · show Act.put _ (some 117) _ = _
                        simp only [Act.put, List.setIfInBounds_toArray, List.set_cons_zero, List.set_cons_succ, i64_w, i32_w]
                        rfl
                      refine pure_ (i := 38) (N := some 118) (v := ?_) (a' := ?_) #[true, true, true, true, true, true, true, true, true, true, true, true, true, true, true, true, true, true, true, true, true, true, true, true, true, true, true, true, true, true, true, true, true, true, true, true, true, true, true, false] rfl rfl (any_of HT_.out (by kernel_rfl)) (fun _ _ _ h => h) (Or.inl ⟨by rfl, ?_⟩) ?_ ?_
                      rotate_left
                      · intro w'
                        go_simp
                        with_reducible rfl
                      rotate_left
                      · simp only [Act.put, List.setIfInBounds_toArray, List.set_cons_zero, List.set_cons_succ, i64_w, i32_w]
                        rfl
                      refine pure_ (i := 39) (N := some 8) (v := ?_) (a' := ?_) #[true, true, true, true, true, true, true, true, true, true, true, true, true, true, true, true, true, true, true, true, true, true, true, true, true, true, true, true, true, true, true, true, true, true, true, true, true, true, true, true] rfl rfl (any_of HT_.out (by kernel_rfl)) (fun _ _ _ h => h) (Or.inl ⟨by rfl, ?_⟩) ?_ ?_
                      rotate_left
                      · intro w'
                        go_simp
                        with_reducible rfl
                      rotate_left
                      · simp only [Act.put, List.setIfInBounds_toArray, List.set_cons_zero, List.set_cons_succ, i64_w, i32_w]
                        rfl
                      refine done_ (done_of HT_.out (by kernel_rfl)) ?_
                      have HF := HO.out.facts; simp only [OwnsM.Facts, and_true] at HF
                      go_wp2
                      go_ret
                      exact ⟨by first | rfl | (simp [errW_none, errW_some] <;> rfl) | (simp [*, errW_none, errW_some] <;> rfl), HO.out.below⟩
                    · rw [if_neg c46] at H
                      have c46b0 : (t475 == 6 && (t476 == a0 && (t477 == a1 && (t478 == a2_0 && (t479 == a2_1))))) = false := by simpa using c46
                      (try (have c46b1 : decide (t475 = 6 && (t476 == a0 && (t477 == a1 && (t478 == a2_0 && (t479 == a2_1))))) = false := by simpa using c46))
                      (try (have c46b2 : (t475 == 6 && (t476 == a0 && (t477 == a1 && (t478 == a2_0 && (t479 == a2_1))))) = false := by simpa using c46))
                      (try (have c46b3 : ¬ (t475 = 6 && (t476 == a0 && (t477 == a1 && (t478 == a2_0 && (t479 == a2_1))))) := by simpa using c46))
                      clear c46
                      exact absurd (H.trans (congrArg some HRT.out)) (by simp)
                  · rw [if_neg c44] at H
                    have c44b0 : (t468 == a2_4) = false := beq_eq_false_iff_ne.mpr c44
                    have c44b1 : (t468 != a2_4) = true := bne_iff_ne.mpr c44
                    exact absurd (H.trans (congrArg some HRT.out)) (by simp)
                · rw [if_neg c43] at H
                  have c43b0 : (t467 == a2_1) = false := beq_eq_false_iff_ne.mpr c43
                  have c43b1 : (t467 != a2_1) = true := bne_iff_ne.mpr c43
                  exact absurd (H.trans (congrArg some HRT.out)) (by simp)
              · rw [if_neg c42] at H
                have c42b0 : (t466 == a2_0) = false := beq_eq_false_iff_ne.mpr c42
                have c42b1 : (t466 != a2_0) = true := bne_iff_ne.mpr c42
                exact absurd (H.trans (congrArg some HRT.out)) (by simp)
            · rw [if_neg c41] at H
              have c41b0 : (t465 == 0) = false := beq_eq_false_iff_ne.mpr c41
              have c41b1 : (t465 != 0) = true := bne_iff_ne.mpr c41
              exact absurd (H.trans (congrArg some HRT.out)) (by simp)
        · rw [if_neg c24] at H
          have c24b0 : (t472 == 0) = false := beq_eq_false_iff_ne.mpr c24
          have c24b1 : (t472 != 0) = true := bne_iff_ne.mpr c24
          exact absurd (H.trans (congrArg some HRT.out)) (by simp)

/-- THE ONE PURE STATEMENT of castellanlaw8_PackPorts: yours. -/
def castellanlaw8_PackPorts.Pure : Prop := ∀ (a0 : Int) (a1 : Int) (a2_0 : Int) (a2_1 : Int) (a2_2 : Int) (a2_3 : Int) (a2_4 : Int) (a2_5 : Int) (a2_6 : Int) (l2_7 : List Int) (l2_8 : List Int) (a3 : Int), (Lit.int .u32 a0).wf = true → (Lit.int .u32 a1).wf = true → (Lit.int .i64 a2_0).wf = true → (Lit.int .i64 a2_1).wf = true → (Lit.int .u32 a2_2).wf = true → (Lit.int .u32 a2_3).wf = true → (Lit.int .i64 a2_4).wf = true → (Lit.int .i64 a2_5).wf = true → (Lit.int .i64 a2_6).wf = true → l2_7.length ≤ maxLen → l2_7.length * 1 ≤ 140737488351232 → (∀ x ∈ l2_7, (Lit.int .u8 x).wf = true) → l2_8.length ≤ maxLen → l2_8.length * 1 ≤ 140737488351232 → (∀ x ∈ l2_8, (Lit.int .u8 x).wf = true) → (Lit.int .i64 a3).wf = true → ∃ k, castellanlaw8_PackPorts.f k a0 a1 a2_0 a2_1 a2_2 a2_3 a2_4 a2_5 a2_6 l2_7 l2_8 a3 = some true
theorem castellanlaw8_PackPorts.walk (P : castellanlaw8_PackPorts.Pure) (a0 : Int) (a1 : Int) (a2_0 : Int) (a2_1 : Int) (a2_2 : Int) (a2_3 : Int) (a2_4 : Int) (a2_5 : Int) (a2_6 : Int) (a2_7 : Option Addr) (len2_7 cap2_7 : Nat) (z2_7 : List Int) (a2_8 : Option Addr) (len2_8 cap2_8 : Nat) (z2_8 : List Int) (a3 : Int) (w : World) (w0 : (Lit.int .u32 a0).wf = true) (w1 : (Lit.int .u32 a1).wf = true) (w2_0 : (Lit.int .i64 a2_0).wf = true) (w2_1 : (Lit.int .i64 a2_1).wf = true) (w2_2 : (Lit.int .u32 a2_2).wf = true) (w2_3 : (Lit.int .u32 a2_3).wf = true) (w2_4 : (Lit.int .i64 a2_4).wf = true) (w2_5 : (Lit.int .i64 a2_5).wf = true) (w2_6 : (Lit.int .i64 a2_6).wf = true) (w2_7 : (a2_7 = none ∧ len2_7 = 0 ∧ cap2_7 = 0 ∧ z2_7 = []) ∨ ∃ x, a2_7 = some x ∧ len2_7 ≤ cap2_7 ∧ cap2_7 ≤ maxLen ∧ z2_7.length = cap2_7 ∧ (∀ i, i < z2_7.length → w.cell? (x.add i) = some (.int .u8 (z2_7.getD i 0))) ∧ ∀ n ∈ z2_7, (Lit.int .u8 n).wf = true) (y2_7 : len2_7 * 1 ≤ 140737488351232) (w2_8 : (a2_8 = none ∧ len2_8 = 0 ∧ cap2_8 = 0 ∧ z2_8 = []) ∨ ∃ x, a2_8 = some x ∧ len2_8 ≤ cap2_8 ∧ cap2_8 ≤ maxLen ∧ z2_8.length = cap2_8 ∧ (∀ i, i < z2_8.length → w.cell? (x.add i) = some (.int .u8 (z2_8.getD i 0))) ∧ ∀ n ∈ z2_8, (Lit.int .u8 n).wf = true) (y2_8 : len2_8 * 1 ≤ 140737488351232) (w3 : (Lit.int .i64 a3).wf = true) :
    Calls Try.prog 11 #[.int .u32 a0, .int .u32 a1, .agg #[.int .i64 a2_0, .int .i64 a2_1, .int .u32 a2_2, .int .u32 a2_3, .int .i64 a2_4, .int .i64 a2_5, .int .i64 a2_6, .slice a2_7 len2_7 cap2_7, .slice a2_8 len2_8 cap2_8], .int .i64 a3] w fun e w' => e = .returned (.bool true) ∧ Below w.heap.size w w' := by
  obtain ⟨l2_7, rfl, hr2_7, hm2_7, hw2_7, hc2_7⟩ := ReadsInt.ofRowC w2_7
  obtain ⟨l2_8, rfl, hr2_8, hm2_8, hw2_8, hc2_8⟩ := ReadsInt.ofRowC w2_8
  obtain ⟨k, h⟩ := P a0 a1 a2_0 a2_1 a2_2 a2_3 a2_4 a2_5 a2_6 l2_7 l2_8 a3 w0 w1 w2_0 w2_1 w2_2 w2_3 w2_4 w2_5 w2_6 hm2_7 y2_7 hw2_7 hm2_8 y2_8 hw2_8 w3
  refine (castellanlaw8_PackPorts.calls k a0 a1 a2_0 a2_1 a2_2 a2_3 a2_4 a2_5 a2_6 _ _ l2_7 _ _ l2_8 a3 true w (Kd.C_of_reads (d := (0 : Int)) (h1 := fun _ => rfl) hr2_7) hc2_7 (Kd.C_of_reads (d := (0 : Int)) (h1 := fun _ => rfl) hr2_8) hc2_8 rfl h).mono ?_
  rintro e w' ⟨rfl, hd⟩
  exact ⟨rfl, hd⟩

end Go.Proofs.Ytkdibloahkhgoaa.QPackPorts
