-- written by myprint.py, a program of this session's over the kit's printer
import Derived.Test.YtkdibloahkhgoaaQReplyPacketsx0
import Derived.Test.YtkdibloahkhgoaaQReplyPacketsx1
namespace Go.Proofs.Ytkdibloahkhgoaa.QReplyPackets
open Go.RowKit Go.Proofs.YtkdibloahkhgoaaW.PrintWords Go.Proofs.YtkdibloahkhgoaaW.PrintLast Go.Proofs.YtkdibloahkhgoaaW.PrintMore
attribute [local go_sem] max2_int min2_int max_two min_two max_three min_three max_four min_four   -- for this text's walks alone
set_option linter.unusedVariables false
set_option linter.unusedSimpArgs false

/-! ### castellanref4_Build: function 26 -/
mutual
def castellanref4_Build.j0 : Nat → Int → Int → Int → Int → Bool → Bool → Int → Int → Int → Int → Int → List Int → List Int → Option (List Int × Int)
 | 0, _, _, _, _, _, _, _, _, _, _, _, _, _ => none
 | k + 1, x4, x5, x122000, x122001, x122002, x122003, x122004, x122005, x122006, x122007, x122008, x122009, x122010 => if x122003 = true then (castellanref4_Build.j1 k x4 (Go.bits .or .i64 x5 8192) x122000 x122001 x122002 x122003 x122004 x122005 x122006 x122007 x122008 x122009 x122010) else (castellanref4_Build.j1 k x4 x5 x122000 x122001 x122002 x122003 x122004 x122005 x122006 x122007 x122008 x122009 x122010)
def castellanref4_Build.j1 : Nat → Int → Int → Int → Int → Bool → Bool → Int → Int → Int → Int → Int → List Int → List Int → Option (List Int × Int)
 | 0, _, _, _, _, _, _, _, _, _, _, _, _, _ => none
 | k + 1, x4, x5, x122000, x122001, x122002, x122003, x122004, x122005, x122006, x122007, x122008, x122009, x122010 => (some (([(wrap64 (64 + (wrap64 (Int.tdiv x4 4)))) % 256, (x122000) % 256] : List Int) : List Int)).bind fun y123 => ((castellanref1_Put16.f (wrap64 (x4 + (x122010.length : Int)))).bind fun t126 => (if y123.length + t126.length < 140737488355328 then ((some (y123 ++ t126 : List Int)).bind fun y129 => ((castellanref1_Put16.f x122001).bind fun t132 => (if y129.length + t132.length < 140737488355328 then ((some (y129 ++ t132 : List Int)).bind fun y135 => ((castellanref1_Put16.f x5).bind fun t138 => (if y135.length + t138.length < 140737488355328 then ((some (y135 ++ t138 : List Int)).bind fun y141 => ((some (([(x122005) % 256, (x122006) % 256, 0, 0] : List Int) : List Int)).bind fun y144 => (if y141.length + y144.length < 140737488355328 then ((some (y141 ++ y144 : List Int)).bind fun y147 => ((castellanref1_Put32.f x122007).bind fun t150 => (if y147.length + t150.length < 140737488355328 then ((some (y147 ++ t150 : List Int)).bind fun y153 => ((castellanref1_Put32.f x122008).bind fun t156 => (if y153.length + t156.length < 140737488355328 then ((some (y153 ++ t156 : List Int)).bind fun y159 => (if y159.length + x122009.length < 140737488355328 then ((some (y159 ++ x122009 : List Int)).bind fun y162 => ((castellanref2_Of.f k y162).bind fun t165 => ((castellanref1_Put16.f t165).bind fun t166 => (if 0 < (t166.length : Int) then (if 1 < (t166.length : Int) then (if 10 < (y162.length : Int) then (if 11 < (y162.length : Int) then ((some ((y162.set (10 : Int).toNat (rd t166 0)).set (11 : Int).toNat (rd t166 1) : List Int)).bind fun y172 => (if y172.length + x122010.length < 140737488355328 then (some ((y172 ++ x122010), 0)) else (none))) else (none)) else (none)) else (none)) else (none))))) else (none))) else (none)))) else (none)))) else (none)))) else (none)))) else (none)))) else (none)))
end
def castellanref4_Build.f (k : Nat) (a0_0 : Int) (a0_1 : Int) (a0_2 : Bool) (a0_3 : Bool) (a0_4 : Int) (a0_5 : Int) (a0_6 : Int) (a0_7 : Int) (a0_8 : Int) (l0_9 : List Int) (l0_10 : List Int) : Option (List Int × Int) := (castellanref4_Is.f a0_0 a0_1 a0_2 a0_3 a0_4 a0_5 a0_6 a0_7 a0_8 l0_9 l0_10).bind fun t122 => (if t122 = true then (if (wrap64 ((wrap64 (20 + (l0_9.length : Int))) + (l0_10.length : Int))) > 65535 then (some (([] : List Int), 5)) else (if a0_2 = true then (castellanref4_Build.j0 k (wrap64 (20 + (l0_9.length : Int))) (Go.bits .or .i64 a0_4 16384) a0_0 a0_1 a0_2 a0_3 a0_4 a0_5 a0_6 a0_7 a0_8 l0_9 l0_10) else (castellanref4_Build.j0 k (wrap64 (20 + (l0_9.length : Int))) a0_4 a0_0 a0_1 a0_2 a0_3 a0_4 a0_5 a0_6 a0_7 a0_8 l0_9 l0_10))) else (some (([] : List Int), 1)))
theorem castellanref4_Build.mono_l : ∀ k, (∀ y0 y1 y2 y3 y4 y5 y6 y7 y8 y9 y10 y11 y12, LeO (castellanref4_Build.j0 k y0 y1 y2 y3 y4 y5 y6 y7 y8 y9 y10 y11 y12) (castellanref4_Build.j0 (k + 1) y0 y1 y2 y3 y4 y5 y6 y7 y8 y9 y10 y11 y12)) ∧ (∀ y0 y1 y2 y3 y4 y5 y6 y7 y8 y9 y10 y11 y12, LeO (castellanref4_Build.j1 k y0 y1 y2 y3 y4 y5 y6 y7 y8 y9 y10 y11 y12) (castellanref4_Build.j1 (k + 1) y0 y1 y2 y3 y4 y5 y6 y7 y8 y9 y10 y11 y12))
 | 0 => ⟨fun _ _ _ _ _ _ _ _ _ _ _ _ _ r h => by simp [castellanref4_Build.j0] at h, fun _ _ _ _ _ _ _ _ _ _ _ _ _ r h => by simp [castellanref4_Build.j1] at h⟩
 | k + 1 => by
  obtain ⟨ih0, ih1⟩ := castellanref4_Build.mono_l k
  refine ⟨?_, ?_⟩
  ·intro y0 y1 y2 y3 y4 y5 y6 y7 y8 y9 y10 y11 y12
   unfold castellanref4_Build.j0
   repeat' first
   | (with_reducible exact ih0 _ _ _ _ _ _ _ _ _ _ _ _ _)
   | (with_reducible exact ih1 _ _ _ _ _ _ _ _ _ _ _ _ _)
   | (with_reducible exact castellanref2_Of.mono _ _)
   | (with_reducible exact LeO.refl _)
   | (with_reducible exact LeO.none _)
   | (with_reducible refine LeO.ite ?_ ?_)
   | (with_reducible refine LeO.bind ?_ (fun _ => ?_))
   | exact ih0 _ _ _ _ _ _ _ _ _ _ _ _ _
   | exact ih1 _ _ _ _ _ _ _ _ _ _ _ _ _
   | exact castellanref2_Of.mono _ _
   | exact LeO.none _
   | refine LeO.ite ?_ ?_
   | refine LeO.bind ?_ (fun _ => ?_)
  ·intro y0 y1 y2 y3 y4 y5 y6 y7 y8 y9 y10 y11 y12
   unfold castellanref4_Build.j1
   repeat' first
   | (with_reducible exact ih0 _ _ _ _ _ _ _ _ _ _ _ _ _)
   | (with_reducible exact ih1 _ _ _ _ _ _ _ _ _ _ _ _ _)
   | (with_reducible exact castellanref2_Of.mono _ _)
   | (with_reducible exact LeO.refl _)
   | (with_reducible exact LeO.none _)
   | (with_reducible refine LeO.ite ?_ ?_)
   | (with_reducible refine LeO.bind ?_ (fun _ => ?_))
   | exact ih0 _ _ _ _ _ _ _ _ _ _ _ _ _
   | exact ih1 _ _ _ _ _ _ _ _ _ _ _ _ _
   | exact castellanref2_Of.mono _ _
   | exact LeO.none _
   | refine LeO.ite ?_ ?_
   | refine LeO.bind ?_ (fun _ => ?_)
theorem castellanref4_Build.mono : ∀ a0 a1 a2 a3 a4 a5 a6 a7 a8 a9 a10 k, LeO (castellanref4_Build.f k a0 a1 a2 a3 a4 a5 a6 a7 a8 a9 a10) (castellanref4_Build.f (k + 1) a0 a1 a2 a3 a4 a5 a6 a7 a8 a9 a10) := by
 intro a0 a1 a2 a3 a4 a5 a6 a7 a8 a9 a10 k
 obtain ⟨ih0, ih1⟩ := castellanref4_Build.mono_l k
 unfold castellanref4_Build.f
 repeat' first
   | (with_reducible exact ih0 _ _ _ _ _ _ _ _ _ _ _ _ _)
   | (with_reducible exact ih1 _ _ _ _ _ _ _ _ _ _ _ _ _)
   | (with_reducible exact castellanref2_Of.mono _ _)
   | (with_reducible exact LeO.refl _)
   | (with_reducible exact LeO.none _)
   | (with_reducible refine LeO.ite ?_ ?_)
   | (with_reducible refine LeO.bind ?_ (fun _ => ?_))
   | exact ih0 _ _ _ _ _ _ _ _ _ _ _ _ _
   | exact ih1 _ _ _ _ _ _ _ _ _ _ _ _ _
   | exact castellanref2_Of.mono _ _
   | exact LeO.none _
   | refine LeO.ite ?_ ?_
   | refine LeO.bind ?_ (fun _ => ?_)
def castellanref4_Build.T11 : Bool × List (List Nat × List Nat) := (true, [([], []), ([0], [0]), ([1], [1]), ([2], [2]), ([], []), ([4], [4]), ([5], [5]), ([3, 6], [3, 6]), ([], []), ([], []), ([9], [9]), ([10], [10]), ([8, 11], [8, 11]), ([12], [12]), ([7, 13, 13], [7, 13]), ([14, 14, 0, 1, 2, 3, 4, 5, 6, 7, 8, 9, 10, 11, 12, 13, 14], [14])])
def castellanref4_Build.B11 : List Nat := [0, 1, 3, 7, 0, 16, 48, 127, 0, 0, 512, 1536, 3840, 7936, 16383, 32767]
theorem castellanref4_Build.tab11 : rtab .any (opsOf Try.f26 11) = castellanref4_Build.T11 := by kernel_rfl
theorem castellanref4_Build.bits11 : waitsOk castellanref4_Build.T11.2 castellanref4_Build.B11 = true := by kernel_rfl
def castellanref4_Build.T14 : Bool × List (List Nat × List Nat) := (true, [([], []), ([], []), ([1], [1]), ([2], [2]), ([0, 3, 3], [0, 3]), ([], []), ([5], [5]), ([6, 4], [6]), ([4, 7, 7], [4, 7]), ([8, 8, 0, 1, 2, 3, 4, 5, 6, 7, 8], [0, 8])])
def castellanref4_Build.B14 : List Nat := [0, 0, 2, 6, 15, 0, 32, 127, 255, 511]
theorem castellanref4_Build.tab14 : rtab .any (opsOf Try.f26 14) = castellanref4_Build.T14 := by kernel_rfl
theorem castellanref4_Build.bits14 : waitsOk castellanref4_Build.T14.2 castellanref4_Build.B14 = true := by kernel_rfl
def castellanref4_Build.T17 : Bool × List (List Nat × List Nat) := (true, [([], []), ([], []), ([], []), ([2], [2]), ([3], [3]), ([], []), ([5], [5]), ([6], [6]), ([0, 0, 2, 3, 4, 7], [0]), ([8, 4, 0, 2, 3, 4, 7], [4, 8]), ([1, 0, 1, 2, 3, 4, 5, 6, 7, 8, 9], [1]), ([10, 7, 9, 0, 1, 2, 3, 4, 5, 6, 7, 8, 9], [7, 10])])
def castellanref4_Build.B17 : List Nat := [0, 0, 0, 4, 12, 0, 32, 96, 253, 509, 1023, 2047]
theorem castellanref4_Build.tab17 : rtab .any (opsOf Try.f26 17) = castellanref4_Build.T17 := by kernel_rfl
theorem castellanref4_Build.bits17 : waitsOk castellanref4_Build.T17.2 castellanref4_Build.B17 = true := by kernel_rfl
set_option maxHeartbeats 8000000 in
set_option maxRecDepth 100000 in
theorem castellanref4_Build.calls (k : Nat) (a0_0 : Int) (a0_1 : Int) (a0_2 : Bool) (a0_3 : Bool) (a0_4 : Int) (a0_5 : Int) (a0_6 : Int) (a0_7 : Int) (a0_8 : Int) (A0_9 : Option Addr) (c0_9 : Nat) (l0_9 : List Int) (A0_10 : Option Addr) (c0_10 : Nat) (l0_10 : List Int) (r1 : List Int) (r2 : Int) (w : World) (hr0_9 : Kd.C (Kd.int .u8) w A0_9 l0_9.length l0_9) (hc0_9 : l0_9.length ≤ c0_9) (hr0_10 : Kd.C (Kd.int .u8) w A0_10 l0_10.length l0_10) (hc0_10 : l0_10.length ≤ c0_10) (h : castellanref4_Build.f k a0_0 a0_1 a0_2 a0_3 a0_4 a0_5 a0_6 a0_7 a0_8 l0_9 l0_10 = some (r1, r2)) :
  Calls Try.prog 26 #[.agg #[.int .i64 a0_0, .int .i64 a0_1, .bool a0_2, .bool a0_3, .int .i64 a0_4, .int .i64 a0_5, .int .i64 a0_6, .int .u32 a0_7, .int .u32 a0_8, .slice A0_9 l0_9.length c0_9, .slice A0_10 l0_10.length c0_10]] w fun e w' => ∃ v0_ : Value, e = .returned (.tuple #[v0_, .int .i64 r2]) ∧ Kd.R (Kd.int .u8) 5 w' w.heap.size (fun _ => True) v0_ r1 ∧ Below w.heap.size w w' := by
 have hu26 := Try.underlying26
 have HR0_9 := Aside0.mk hr0_9
 have HC0_9 := Aside0.mk hc0_9
 clear hr0_9 hc0_9
 have HR0_10 := Aside0.mk hr0_10
 have HC0_10 := Aside0.mk hc0_10
 clear hr0_10 hc0_10
 have HB := Aside0.mk (Below.refl w.heap.size w)
 have H : ((castellanref4_Is.f a0_0 a0_1 a0_2 a0_3 a0_4 a0_5 a0_6 a0_7 a0_8 l0_9 l0_10).bind fun t122 => (if t122 = true then (if (wrap64 ((wrap64 (20 + (l0_9.length : Int))) + (l0_10.length : Int))) > 65535 then (some (([] : List Int), 5)) else (if a0_2 = true then (castellanref4_Build.j0 k (wrap64 (20 + (l0_9.length : Int))) (Go.bits .or .i64 a0_4 16384) a0_0 a0_1 a0_2 a0_3 a0_4 a0_5 a0_6 a0_7 a0_8 l0_9 l0_10) else (castellanref4_Build.j0 k (wrap64 (20 + (l0_9.length : Int))) a0_4 a0_0 a0_1 a0_2 a0_3 a0_4 a0_5 a0_6 a0_7 a0_8 l0_9 l0_10))) else (some (([] : List Int), 1)))) = some (r1, r2) := h
 clear h
 replace H := Option.bind_eq_some_iff.mp H
 obtain ⟨t122, A20, H⟩ := H
 replace H : (if t122 = true then (if (wrap64 ((wrap64 (20 + (l0_9.length : Int))) + (l0_10.length : Int))) > 65535 then (some (([] : List Int), 5)) else (if a0_2 = true then (castellanref4_Build.j0 k (wrap64 (20 + (l0_9.length : Int))) (Go.bits .or .i64 a0_4 16384) a0_0 a0_1 a0_2 a0_3 a0_4 a0_5 a0_6 a0_7 a0_8 l0_9 l0_10) else (castellanref4_Build.j0 k (wrap64 (20 + (l0_9.length : Int))) a0_4 a0_0 a0_1 a0_2 a0_3 a0_4 a0_5 a0_6 a0_7 a0_8 l0_9 l0_10))) else (some (([] : List Int), 1))) = some (r1, r2) := H
 have A2 := Aside0.mk A20
 clear A20
 by_cases c3 : t122 = true
 ·subst c3
  have H1 : (if (wrap64 ((wrap64 (20 + (l0_9.length : Int))) + (l0_10.length : Int))) > 65535 then (some (([] : List Int), 5)) else (if a0_2 = true then (castellanref4_Build.j0 k (wrap64 (20 + (l0_9.length : Int))) (Go.bits .or .i64 a0_4 16384) a0_0 a0_1 a0_2 a0_3 a0_4 a0_5 a0_6 a0_7 a0_8 l0_9 l0_10) else (castellanref4_Build.j0 k (wrap64 (20 + (l0_9.length : Int))) a0_4 a0_0 a0_1 a0_2 a0_3 a0_4 a0_5 a0_6 a0_7 a0_8 l0_9 l0_10))) = some (r1, r2) := by rw [if_pos rfl] at H; exact H
  clear H
  have H := H1
  clear H1
  by_cases c4 : (wrap64 ((wrap64 (20 + (l0_9.length : Int))) + (l0_10.length : Int))) > 65535
  ·rw [if_pos c4] at H
   have c4b0 : decide (65535 < (wrap64 ((wrap64 (20 + (l0_9.length : Int))) + (l0_10.length : Int)))) = true := decide_eq_true c4
   clear c4
   simp only [Option.some.injEq, Prod.mk.injEq] at H
   obtain ⟨rfl, rfl⟩ := H
   go_enter Try.func26, Try.ntmps26
   go_wp2_with (first | ((with_reducible refine gate_dst (N := 1) rfl ?_); refine box_event ?hg (N := 1) ?hd (cs := #[.int .i64 a0_0, .int .i64 a0_1, .bool a0_2, .bool a0_3, .int .i64 a0_4, .int .i64 a0_5, .int .i64 a0_6, .int .u32 a0_7, .int .u32 a0_8, .slice A0_9 l0_9.length c0_9, .slice A0_10 l0_10.length c0_10]) (t := 26) ?hr ?_; (case hd => rfl); (case hg => rfl); (case hr => first | (go_simp; done) | (go_simp; rfl)); intro gb121 hg w5 hbox hb; have n0_ := Aside0.mk (below_step (by repeat (first | (with_reducible first | exact HB.out | apply below_alloc | apply pw_below_drewN | apply below_drew1) | exact HB.out)) hb); have n1_ := Aside0.mk (hbox); have n2_ := Aside0.mk ((by rw [hg]; exact (below_size (by repeat (first | (with_reducible first | exact HB.out | apply below_alloc | apply pw_below_drewN | apply below_drew1) | exact HB.out))) : w.heap.size ≤ gb121)); have n3_ := Aside0.mk ((by rw [hg]; exact (below_size (by repeat (first | (with_reducible first | exact HB.out | apply below_alloc | apply pw_below_drewN | apply below_drew1) | exact HB.out))) : w.heap.size ≤ gb121)); clear HB; have HB := n0_; have BK121 := n1_; have GW121 := n2_; have GE121 := n3_; clear n0_ n1_ n2_ n3_; clear hb hbox hg; have hcz6 := fun j => blk_cell BK121.out j; have hfz6 := fun j => blk_frozen BK121.out j) | ((with_reducible refine gate_callee (f := 25) rfl ?_); refine goesL_ (some 9) rfl rfl Try.func25 (by kernel_rfl) rfl #[.agg #[.int .i64 a0_0, .int .i64 a0_1, .bool a0_2, .bool a0_3, .int .i64 a0_4, .int .i64 a0_5, .int .i64 a0_6, .int .u32 a0_7, .int .u32 a0_8, .slice A0_9 l0_9.length c0_9, .slice A0_10 l0_10.length c0_10]] rfl (by (try simp only [List.map_toArray, List.map_cons, List.map_nil]); first | done | rfl | (simp only [List.length_drop, List.length_take]; rfl)) ?_; (with_reducible refine (castellanref4_Is.calls a0_0 a0_1 a0_2 a0_3 a0_4 a0_5 a0_6 a0_7 a0_8 _ _ l0_9 _ _ l0_10 true _ ?side1 ?side2 ?side3 ?side4 A2.out).mono ?_); (case side1 => repeat (first | exact (Kd.C_below HR0_9.out HB.out) | (with_reducible refine Kd.C_alloc ?_ _) | (with_reducible refine Kd.C_drewN ?_ _) | (with_reducible refine Kd.C_drew ?_))); (case side2 => exact HC0_9.out); (case side3 => repeat (first | exact (Kd.C_below HR0_10.out HB.out) | (with_reducible refine Kd.C_alloc ?_ _) | (with_reducible refine Kd.C_drewN ?_ _) | (with_reducible refine Kd.C_drew ?_))); (case side4 => exact HC0_10.out); rintro e w7 ⟨rfl, hb⟩; refine ⟨_, rfl, ?_⟩; have n0_ := Aside0.mk (blk_below (g := gb121) (o := .cells #[.int .i64 a0_0, .int .i64 a0_1, .bool a0_2, .bool a0_3, .int .i64 a0_4, .int .i64 a0_5, .int .i64 a0_6, .int .u32 a0_7, .int .u32 a0_8, .slice A0_9 l0_9.length c0_9, .slice A0_10 l0_10.length c0_10] 26 (0, 0)) (by (with_reducible repeat (first | refine blk_drewN ?_ _ | refine blk_drew ?_ | refine blk_alloc ?_ _)); exact BK121.out) hb); have n1_ := Aside0.mk (below_step (by repeat (first | (with_reducible first | exact HB.out | apply below_alloc | apply pw_below_drewN | apply below_drew1 | refine below_set ?_ GE121.out) | exact HB.out)) hb); clear BK121; clear HB; have BK121 := n0_; have HB := n1_; clear n0_ n1_; (try clear hb); (try clear hb2); (try clear hk); (try clear hi); have hcz8 := fun j => blk_cell BK121.out j; have hfz8 := fun j => blk_frozen BK121.out j))
   go_ret2
   exact ⟨_, by first | rfl | (simp [errW_none, errW_some] <;> rfl) | (simp [*, errW_none, errW_some] <;> rfl), by first | exact Kd.R_nil _ _ _ _ _ | exact Kd.N_nil _ _ _ _ _ | exact Kd.V_nil _ _ _ _ _ | exact Kd.Q_nil _ _ _ _ _ | exact Kd.S_nil _ _ _ _ _, by repeat (first | (with_reducible first | exact HB.out | apply below_alloc | apply pw_below_drewN | apply below_drew1 | refine below_set ?_ GE121.out) | exact HB.out)⟩
  ·rw [if_neg c4] at H
   have c4b0 : decide (65535 < (wrap64 ((wrap64 (20 + (l0_9.length : Int))) + (l0_10.length : Int)))) = false := decide_eq_false c4
   clear c4
   have HC9 := Aside0.mk H
   clear H
   go_enter Try.func26, Try.ntmps26
   go_upto_if 24 with (first | ((with_reducible refine gate_dst (N := 1) rfl ?_); refine box_event ?hg (N := 1) ?hd (cs := #[.int .i64 a0_0, .int .i64 a0_1, .bool a0_2, .bool a0_3, .int .i64 a0_4, .int .i64 a0_5, .int .i64 a0_6, .int .u32 a0_7, .int .u32 a0_8, .slice A0_9 l0_9.length c0_9, .slice A0_10 l0_10.length c0_10]) (t := 26) ?hr ?_; (case hd => rfl); (case hg => rfl); (case hr => first | (go_simp; done) | (go_simp; rfl)); intro gb121 hg w10 hbox hb; have n0_ := Aside0.mk (below_step (by repeat (first | (with_reducible first | exact HB.out | apply below_alloc | apply pw_below_drewN | apply below_drew1) | exact HB.out)) hb); have n1_ := Aside0.mk (hbox); have n2_ := Aside0.mk ((by rw [hg]; exact (below_size (by repeat (first | (with_reducible first | exact HB.out | apply below_alloc | apply pw_below_drewN | apply below_drew1) | exact HB.out))) : w.heap.size ≤ gb121)); have n3_ := Aside0.mk ((by rw [hg]; exact (below_size (by repeat (first | (with_reducible first | exact HB.out | apply below_alloc | apply pw_below_drewN | apply below_drew1) | exact HB.out))) : w.heap.size ≤ gb121)); clear HB; have HB := n0_; have BK121 := n1_; have GW121 := n2_; have GE121 := n3_; clear n0_ n1_ n2_ n3_; clear hb hbox hg; have hcz11 := fun j => blk_cell BK121.out j; have hfz11 := fun j => blk_frozen BK121.out j) | ((with_reducible refine gate_callee (f := 25) rfl ?_); refine goesL_ (some 9) rfl rfl Try.func25 (by kernel_rfl) rfl #[.agg #[.int .i64 a0_0, .int .i64 a0_1, .bool a0_2, .bool a0_3, .int .i64 a0_4, .int .i64 a0_5, .int .i64 a0_6, .int .u32 a0_7, .int .u32 a0_8, .slice A0_9 l0_9.length c0_9, .slice A0_10 l0_10.length c0_10]] rfl (by (try simp only [List.map_toArray, List.map_cons, List.map_nil]); first | done | rfl | (simp only [List.length_drop, List.length_take]; rfl)) ?_; (with_reducible refine (castellanref4_Is.calls a0_0 a0_1 a0_2 a0_3 a0_4 a0_5 a0_6 a0_7 a0_8 _ _ l0_9 _ _ l0_10 true _ ?side1 ?side2 ?side3 ?side4 A2.out).mono ?_); (case side1 => repeat (first | exact (Kd.C_below HR0_9.out HB.out) | (with_reducible refine Kd.C_alloc ?_ _) | (with_reducible refine Kd.C_drewN ?_ _) | (with_reducible refine Kd.C_drew ?_))); (case side2 => exact HC0_9.out); (case side3 => repeat (first | exact (Kd.C_below HR0_10.out HB.out) | (with_reducible refine Kd.C_alloc ?_ _) | (with_reducible refine Kd.C_drewN ?_ _) | (with_reducible refine Kd.C_drew ?_))); (case side4 => exact HC0_10.out); rintro e w12 ⟨rfl, hb⟩; refine ⟨_, rfl, ?_⟩; have n0_ := Aside0.mk (blk_below (g := gb121) (o := .cells #[.int .i64 a0_0, .int .i64 a0_1, .bool a0_2, .bool a0_3, .int .i64 a0_4, .int .i64 a0_5, .int .i64 a0_6, .int .u32 a0_7, .int .u32 a0_8, .slice A0_9 l0_9.length c0_9, .slice A0_10 l0_10.length c0_10] 26 (0, 0)) (by (with_reducible repeat (first | refine blk_drewN ?_ _ | refine blk_drew ?_ | refine blk_alloc ?_ _)); exact BK121.out) hb); have n1_ := Aside0.mk (below_step (by repeat (first | (with_reducible first | exact HB.out | apply below_alloc | apply pw_below_drewN | apply below_drew1 | refine below_set ?_ GE121.out) | exact HB.out)) hb); clear BK121; clear HB; have BK121 := n0_; have HB := n1_; clear n0_ n1_; (try clear hb); (try clear hb2); (try clear hk); (try clear hi); have hcz13 := fun j => blk_cell BK121.out j; have hfz13 := fun j => blk_frozen BK121.out j))
   (try simp only [Act.put, List.setIfInBounds_toArray, List.set_cons_zero, List.set_cons_succ])
   go_cut [5] (fun v5 wc => ∃ (kq : Nat) (x5_8 : Int), v5 = .int .i64 x5_8 ∧ Aside0 (castellanref4_Build.j0 kq (wrap64 (20 + (l0_9.length : Int))) x5_8 a0_0 a0_1 a0_2 a0_3 a0_4 a0_5 a0_6 a0_7 a0_8 l0_9 l0_10 = some (r1, r2)) ∧ Aside0 (kq ≤ k) ∧ Aside0 (wc.heap[gb121]? = some (.cells #[.int .i64 a0_0, .int .i64 a0_1, .bool a0_2, .bool a0_3, .int .i64 a0_4, .int .i64 a0_5, .int .i64 a0_6, .int .u32 a0_7, .int .u32 a0_8, (.slice A0_9 l0_9.length c0_9), (.slice A0_10 l0_10.length c0_10)] 26 (0, 0))) ∧ Aside0 (Below w.heap.size w wc))
   case first =>
    have H := HC9.out
    clear HC9
    by_cases c14 : a0_2 = true
    ·subst c14
     have H1 : (castellanref4_Build.j0 k (wrap64 (20 + (l0_9.length : Int))) (Go.bits .or .i64 a0_4 16384) a0_0 a0_1 true a0_3 a0_4 a0_5 a0_6 a0_7 a0_8 l0_9 l0_10) = some (r1, r2) := by rw [if_pos rfl] at H; exact H
     clear H
     have H := H1
     clear H1
     have H' := Aside0.mk H
     clear H
     go_wp2
     go_meet
     case rel => exact ⟨_, (Go.bits .or .i64 a0_4 16384), (by first | rfl | (simp; done) | (simp [*]; done)), H', ⟨by first | omega | exact Nat.le_refl _⟩, ⟨by (with_reducible repeat (first | refine blk_drewN ?_ _ | refine blk_drew ?_ | refine blk_alloc ?_ _)); exact BK121.out⟩, ⟨by repeat (first | (with_reducible first | exact HB.out | apply below_alloc | apply pw_below_drewN | apply below_drew1 | refine below_set ?_ GE121.out) | exact HB.out)⟩⟩
    ·replace c14 := Bool.eq_false_iff.mpr c14
     subst c14
     have H1 : (castellanref4_Build.j0 k (wrap64 (20 + (l0_9.length : Int))) a0_4 a0_0 a0_1 false a0_3 a0_4 a0_5 a0_6 a0_7 a0_8 l0_9 l0_10) = some (r1, r2) := by rw [if_neg (show ¬ (false = true) by decide)] at H; exact H
     clear H
     have H := H1
     clear H1
     have H' := Aside0.mk H
     clear H
     go_wp2
     go_meet
     case rel => exact ⟨_, (a0_4), (by first | rfl | (simp; done) | (simp [*]; done)), H', ⟨by first | omega | exact Nat.le_refl _⟩, ⟨by (with_reducible repeat (first | refine blk_drewN ?_ _ | refine blk_drew ?_ | refine blk_alloc ?_ _)); exact BK121.out⟩, ⟨by repeat (first | (with_reducible first | exact HB.out | apply below_alloc | apply pw_below_drewN | apply below_drew1 | refine below_set ?_ GE121.out) | exact HB.out)⟩⟩
   case rest =>
    clear HC9
    try clear c1
    try clear c2
    try clear p2
    try clear c3
    try clear c4
    try clear c4b0
    try clear p6
    try clear c14
    try clear hcz11
    try clear hcz13
    try clear hcz6
    try clear hcz8
    try clear hfz11
    try clear hfz13
    try clear hfz6
    try clear hfz8
    obtain ⟨kq, x5_8, rfl, HA, HJ8, BK121, HB⟩ := hcut
    cases kq with
    | zero => exact absurd HA.out (by simp [castellanref4_Build.j0])
    | succ kj8 =>
     have H := HA.out
     clear HA
     simp only [castellanref4_Build.j0] at H
     have HC15 := Aside0.mk H
     clear H
     have hcz16 := fun j => blk_cell BK121.out j
     have hfz16 := fun j => blk_frozen BK121.out j
     go_upto_if 28 with (fail)
     go_cut [5] (fun v5 wc => ∃ (kq : Nat) (x5_14 : Int), v5 = .int .i64 x5_14 ∧ Aside0 (castellanref4_Build.j1 kq (wrap64 (20 + (l0_9.length : Int))) x5_14 a0_0 a0_1 a0_2 a0_3 a0_4 a0_5 a0_6 a0_7 a0_8 l0_9 l0_10 = some (r1, r2)) ∧ Aside0 (kq ≤ kj8) ∧ Aside0 (wc.heap[gb121]? = some (.cells #[.int .i64 a0_0, .int .i64 a0_1, .bool a0_2, .bool a0_3, .int .i64 a0_4, .int .i64 a0_5, .int .i64 a0_6, .int .u32 a0_7, .int .u32 a0_8, (.slice A0_9 l0_9.length c0_9), (.slice A0_10 l0_10.length c0_10)] 26 (0, 0))) ∧ Aside0 (Below w.heap.size w wc))
     case first =>
      have H := HC15.out
      clear HC15
      by_cases c17 : a0_3 = true
      ·subst c17
       have H1 : (castellanref4_Build.j1 kj8 (wrap64 (20 + (l0_9.length : Int))) (Go.bits .or .i64 x5_8 8192) a0_0 a0_1 a0_2 true a0_4 a0_5 a0_6 a0_7 a0_8 l0_9 l0_10) = some (r1, r2) := by rw [if_pos rfl] at H; exact H
       clear H
       have H := H1
       clear H1
       have H' := Aside0.mk H
       clear H
       go_wp2
       go_meet
       case rel => exact ⟨_, (Go.bits .or .i64 x5_8 8192), (by first | rfl | (simp; done) | (simp [*]; done)), H', ⟨by have := HJ8.out; first | omega | exact Nat.le_refl _⟩, ⟨by (with_reducible repeat (first | refine blk_drewN ?_ _ | refine blk_drew ?_ | refine blk_alloc ?_ _)); exact BK121.out⟩, ⟨by repeat (first | (with_reducible first | exact HB.out | apply below_alloc | apply pw_below_drewN | apply below_drew1 | refine below_set ?_ GE121.out) | exact HB.out)⟩⟩
      ·replace c17 := Bool.eq_false_iff.mpr c17
       subst c17
       have H1 : (castellanref4_Build.j1 kj8 (wrap64 (20 + (l0_9.length : Int))) x5_8 a0_0 a0_1 a0_2 false a0_4 a0_5 a0_6 a0_7 a0_8 l0_9 l0_10) = some (r1, r2) := by rw [if_neg (show ¬ (false = true) by decide)] at H; exact H
       clear H
       have H := H1
       clear H1
       have H' := Aside0.mk H
       clear H
       go_wp2
       go_meet
       case rel => exact ⟨_, (x5_8), (by first | rfl | (simp; done) | (simp [*]; done)), H', ⟨by have := HJ8.out; first | omega | exact Nat.le_refl _⟩, ⟨by (with_reducible repeat (first | refine blk_drewN ?_ _ | refine blk_drew ?_ | refine blk_alloc ?_ _)); exact BK121.out⟩, ⟨by repeat (first | (with_reducible first | exact HB.out | apply below_alloc | apply pw_below_drewN | apply below_drew1 | refine below_set ?_ GE121.out) | exact HB.out)⟩⟩
     case rest =>
      clear HC15
      try clear c1
      try clear c2
      try clear p2
      try clear c3
      try clear c4
      try clear c4b0
      try clear p6
      try clear c14
      try clear c17
      try clear hcz11
      try clear hcz13
      try clear hcz16
      try clear hcz6
      try clear hcz8
      try clear hfz11
      try clear hfz13
      try clear hfz16
      try clear hfz6
      try clear hfz8
      try clear p2
      try clear p6
      obtain ⟨kq, x5_14, rfl, HA, HJ14, BK121, HB⟩ := hcut
      cases kq with
      | zero => exact absurd HA.out (by simp [castellanref4_Build.j1])
      | succ kj14 =>
       have H := HA.out
       clear HA
       simp only [castellanref4_Build.j1] at H
       obtain ⟨y123, hy123⟩ : ∃ y_ : List Int, y_ = (([(wrap64 (64 + (wrap64 (Int.tdiv (wrap64 (20 + (l0_9.length : Int))) 4)))) % 256, (a0_0) % 256] : List Int)) := ⟨_, rfl⟩
       replace H : ((castellanref1_Put16.f (wrap64 ((wrap64 (20 + (l0_9.length : Int))) + (l0_10.length : Int)))).bind fun t126 => (if y123.length + t126.length < 140737488355328 then ((some (y123 ++ t126 : List Int)).bind fun y129 => ((castellanref1_Put16.f a0_1).bind fun t132 => (if y129.length + t132.length < 140737488355328 then ((some (y129 ++ t132 : List Int)).bind fun y135 => ((castellanref1_Put16.f x5_14).bind fun t138 => (if y135.length + t138.length < 140737488355328 then ((some (y135 ++ t138 : List Int)).bind fun y141 => ((some (([(a0_5) % 256, (a0_6) % 256, 0, 0] : List Int) : List Int)).bind fun y144 => (if y141.length + y144.length < 140737488355328 then ((some (y141 ++ y144 : List Int)).bind fun y147 => ((castellanref1_Put32.f a0_7).bind fun t150 => (if y147.length + t150.length < 140737488355328 then ((some (y147 ++ t150 : List Int)).bind fun y153 => ((castellanref1_Put32.f a0_8).bind fun t156 => (if y153.length + t156.length < 140737488355328 then ((some (y153 ++ t156 : List Int)).bind fun y159 => (if y159.length + l0_9.length < 140737488355328 then ((some (y159 ++ l0_9 : List Int)).bind fun y162 => ((castellanref2_Of.f kj14 y162).bind fun t165 => ((castellanref1_Put16.f t165).bind fun t166 => (if 0 < (t166.length : Int) then (if 1 < (t166.length : Int) then (if 10 < (y162.length : Int) then (if 11 < (y162.length : Int) then ((some ((y162.set (10 : Int).toNat (rd t166 0)).set (11 : Int).toNat (rd t166 1) : List Int)).bind fun y172 => (if y172.length + l0_10.length < 140737488355328 then (some ((y172 ++ l0_10), 0)) else (none))) else (none)) else (none)) else (none)) else (none))))) else (none))) else (none)))) else (none)))) else (none)))) else (none)))) else (none)))) else (none))) = some (r1, r2) := by first | (rw [hy123]; with_reducible exact H) | (have H2_ := (Option.bind_some _ _).symm.trans H; rw [hy123]; with_reducible exact H2_) | (have H2_ := (Option.bind_some _ _).symm.trans H; with_reducible exact H2_) | with_reducible exact H | (rw [hy123]; exact H) | exact H
       have Ny123 := Aside0.mk hy123
       clear hy123
       replace H := Option.bind_eq_some_iff.mp H
       obtain ⟨t126, A180, H⟩ := H
       replace H : (if y123.length + t126.length < 140737488355328 then ((some (y123 ++ t126 : List Int)).bind fun y129 => ((castellanref1_Put16.f a0_1).bind fun t132 => (if y129.length + t132.length < 140737488355328 then ((some (y129 ++ t132 : List Int)).bind fun y135 => ((castellanref1_Put16.f x5_14).bind fun t138 => (if y135.length + t138.length < 140737488355328 then ((some (y135 ++ t138 : List Int)).bind fun y141 => ((some (([(a0_5) % 256, (a0_6) % 256, 0, 0] : List Int) : List Int)).bind fun y144 => (if y141.length + y144.length < 140737488355328 then ((some (y141 ++ y144 : List Int)).bind fun y147 => ((castellanref1_Put32.f a0_7).bind fun t150 => (if y147.length + t150.length < 140737488355328 then ((some (y147 ++ t150 : List Int)).bind fun y153 => ((castellanref1_Put32.f a0_8).bind fun t156 => (if y153.length + t156.length < 140737488355328 then ((some (y153 ++ t156 : List Int)).bind fun y159 => (if y159.length + l0_9.length < 140737488355328 then ((some (y159 ++ l0_9 : List Int)).bind fun y162 => ((castellanref2_Of.f kj14 y162).bind fun t165 => ((castellanref1_Put16.f t165).bind fun t166 => (if 0 < (t166.length : Int) then (if 1 < (t166.length : Int) then (if 10 < (y162.length : Int) then (if 11 < (y162.length : Int) then ((some ((y162.set (10 : Int).toNat (rd t166 0)).set (11 : Int).toNat (rd t166 1) : List Int)).bind fun y172 => (if y172.length + l0_10.length < 140737488355328 then (some ((y172 ++ l0_10), 0)) else (none))) else (none)) else (none)) else (none)) else (none))))) else (none))) else (none)))) else (none)))) else (none)))) else (none)))) else (none)))) else (none)) = some (r1, r2) := H
       have A18 := Aside0.mk A180
       clear A180
       by_cases c19 : y123.length + t126.length < 140737488355328
       ·rw [if_pos c19] at H
        have LMc19 := Aside0.mk c19
        clear c19
        obtain ⟨y129, hy129⟩ : ∃ y_ : List Int, y_ = (y123 ++ t126) := ⟨_, rfl⟩
        replace H : ((castellanref1_Put16.f a0_1).bind fun t132 => (if y129.length + t132.length < 140737488355328 then ((some (y129 ++ t132 : List Int)).bind fun y135 => ((castellanref1_Put16.f x5_14).bind fun t138 => (if y135.length + t138.length < 140737488355328 then ((some (y135 ++ t138 : List Int)).bind fun y141 => ((some (([(a0_5) % 256, (a0_6) % 256, 0, 0] : List Int) : List Int)).bind fun y144 => (if y141.length + y144.length < 140737488355328 then ((some (y141 ++ y144 : List Int)).bind fun y147 => ((castellanref1_Put32.f a0_7).bind fun t150 => (if y147.length + t150.length < 140737488355328 then ((some (y147 ++ t150 : List Int)).bind fun y153 => ((castellanref1_Put32.f a0_8).bind fun t156 => (if y153.length + t156.length < 140737488355328 then ((some (y153 ++ t156 : List Int)).bind fun y159 => (if y159.length + l0_9.length < 140737488355328 then ((some (y159 ++ l0_9 : List Int)).bind fun y162 => ((castellanref2_Of.f kj14 y162).bind fun t165 => ((castellanref1_Put16.f t165).bind fun t166 => (if 0 < (t166.length : Int) then (if 1 < (t166.length : Int) then (if 10 < (y162.length : Int) then (if 11 < (y162.length : Int) then ((some ((y162.set (10 : Int).toNat (rd t166 0)).set (11 : Int).toNat (rd t166 1) : List Int)).bind fun y172 => (if y172.length + l0_10.length < 140737488355328 then (some ((y172 ++ l0_10), 0)) else (none))) else (none)) else (none)) else (none)) else (none))))) else (none))) else (none)))) else (none)))) else (none)))) else (none)))) else (none))) = some (r1, r2) := by first | (rw [hy129]; with_reducible exact H) | (have H2_ := (Option.bind_some _ _).symm.trans H; rw [hy129]; with_reducible exact H2_) | (have H2_ := (Option.bind_some _ _).symm.trans H; with_reducible exact H2_) | with_reducible exact H | (rw [hy129]; exact H) | exact H
        have Ny129 := Aside0.mk hy129
        clear hy129
        replace H := Option.bind_eq_some_iff.mp H
        obtain ⟨t132, A200, H⟩ := H
        replace H : (if y129.length + t132.length < 140737488355328 then ((some (y129 ++ t132 : List Int)).bind fun y135 => ((castellanref1_Put16.f x5_14).bind fun t138 => (if y135.length + t138.length < 140737488355328 then ((some (y135 ++ t138 : List Int)).bind fun y141 => ((some (([(a0_5) % 256, (a0_6) % 256, 0, 0] : List Int) : List Int)).bind fun y144 => (if y141.length + y144.length < 140737488355328 then ((some (y141 ++ y144 : List Int)).bind fun y147 => ((castellanref1_Put32.f a0_7).bind fun t150 => (if y147.length + t150.length < 140737488355328 then ((some (y147 ++ t150 : List Int)).bind fun y153 => ((castellanref1_Put32.f a0_8).bind fun t156 => (if y153.length + t156.length < 140737488355328 then ((some (y153 ++ t156 : List Int)).bind fun y159 => (if y159.length + l0_9.length < 140737488355328 then ((some (y159 ++ l0_9 : List Int)).bind fun y162 => ((castellanref2_Of.f kj14 y162).bind fun t165 => ((castellanref1_Put16.f t165).bind fun t166 => (if 0 < (t166.length : Int) then (if 1 < (t166.length : Int) then (if 10 < (y162.length : Int) then (if 11 < (y162.length : Int) then ((some ((y162.set (10 : Int).toNat (rd t166 0)).set (11 : Int).toNat (rd t166 1) : List Int)).bind fun y172 => (if y172.length + l0_10.length < 140737488355328 then (some ((y172 ++ l0_10), 0)) else (none))) else (none)) else (none)) else (none)) else (none))))) else (none))) else (none)))) else (none)))) else (none)))) else (none)))) else (none)) = some (r1, r2) := H
        have A20 := Aside0.mk A200
        clear A200
        by_cases c21 : y129.length + t132.length < 140737488355328
        ·rw [if_pos c21] at H
         have LMc21 := Aside0.mk c21
         clear c21
         obtain ⟨y135, hy135⟩ : ∃ y_ : List Int, y_ = (y129 ++ t132) := ⟨_, rfl⟩
         replace H : ((castellanref1_Put16.f x5_14).bind fun t138 => (if y135.length + t138.length < 140737488355328 then ((some (y135 ++ t138 : List Int)).bind fun y141 => ((some (([(a0_5) % 256, (a0_6) % 256, 0, 0] : List Int) : List Int)).bind fun y144 => (if y141.length + y144.length < 140737488355328 then ((some (y141 ++ y144 : List Int)).bind fun y147 => ((castellanref1_Put32.f a0_7).bind fun t150 => (if y147.length + t150.length < 140737488355328 then ((some (y147 ++ t150 : List Int)).bind fun y153 => ((castellanref1_Put32.f a0_8).bind fun t156 => (if y153.length + t156.length < 140737488355328 then ((some (y153 ++ t156 : List Int)).bind fun y159 => (if y159.length + l0_9.length < 140737488355328 then ((some (y159 ++ l0_9 : List Int)).bind fun y162 => ((castellanref2_Of.f kj14 y162).bind fun t165 => ((castellanref1_Put16.f t165).bind fun t166 => (if 0 < (t166.length : Int) then (if 1 < (t166.length : Int) then (if 10 < (y162.length : Int) then (if 11 < (y162.length : Int) then ((some ((y162.set (10 : Int).toNat (rd t166 0)).set (11 : Int).toNat (rd t166 1) : List Int)).bind fun y172 => (if y172.length + l0_10.length < 140737488355328 then (some ((y172 ++ l0_10), 0)) else (none))) else (none)) else (none)) else (none)) else (none))))) else (none))) else (none)))) else (none)))) else (none)))) else (none))) = some (r1, r2) := by first | (rw [hy135]; with_reducible exact H) | (have H2_ := (Option.bind_some _ _).symm.trans H; rw [hy135]; with_reducible exact H2_) | (have H2_ := (Option.bind_some _ _).symm.trans H; with_reducible exact H2_) | with_reducible exact H | (rw [hy135]; exact H) | exact H
         have Ny135 := Aside0.mk hy135
         clear hy135
         replace H := Option.bind_eq_some_iff.mp H
         obtain ⟨t138, A220, H⟩ := H
         replace H : (if y135.length + t138.length < 140737488355328 then ((some (y135 ++ t138 : List Int)).bind fun y141 => ((some (([(a0_5) % 256, (a0_6) % 256, 0, 0] : List Int) : List Int)).bind fun y144 => (if y141.length + y144.length < 140737488355328 then ((some (y141 ++ y144 : List Int)).bind fun y147 => ((castellanref1_Put32.f a0_7).bind fun t150 => (if y147.length + t150.length < 140737488355328 then ((some (y147 ++ t150 : List Int)).bind fun y153 => ((castellanref1_Put32.f a0_8).bind fun t156 => (if y153.length + t156.length < 140737488355328 then ((some (y153 ++ t156 : List Int)).bind fun y159 => (if y159.length + l0_9.length < 140737488355328 then ((some (y159 ++ l0_9 : List Int)).bind fun y162 => ((castellanref2_Of.f kj14 y162).bind fun t165 => ((castellanref1_Put16.f t165).bind fun t166 => (if 0 < (t166.length : Int) then (if 1 < (t166.length : Int) then (if 10 < (y162.length : Int) then (if 11 < (y162.length : Int) then ((some ((y162.set (10 : Int).toNat (rd t166 0)).set (11 : Int).toNat (rd t166 1) : List Int)).bind fun y172 => (if y172.length + l0_10.length < 140737488355328 then (some ((y172 ++ l0_10), 0)) else (none))) else (none)) else (none)) else (none)) else (none))))) else (none))) else (none)))) else (none)))) else (none)))) else (none)) = some (r1, r2) := H
         have A22 := Aside0.mk A220
         clear A220
         by_cases c23 : y135.length + t138.length < 140737488355328
         ·rw [if_pos c23] at H
          have LMc23 := Aside0.mk c23
          clear c23
          obtain ⟨y141, hy141⟩ : ∃ y_ : List Int, y_ = (y135 ++ t138) := ⟨_, rfl⟩
          replace H : ((some (([(a0_5) % 256, (a0_6) % 256, 0, 0] : List Int) : List Int)).bind fun y144 => (if y141.length + y144.length < 140737488355328 then ((some (y141 ++ y144 : List Int)).bind fun y147 => ((castellanref1_Put32.f a0_7).bind fun t150 => (if y147.length + t150.length < 140737488355328 then ((some (y147 ++ t150 : List Int)).bind fun y153 => ((castellanref1_Put32.f a0_8).bind fun t156 => (if y153.length + t156.length < 140737488355328 then ((some (y153 ++ t156 : List Int)).bind fun y159 => (if y159.length + l0_9.length < 140737488355328 then ((some (y159 ++ l0_9 : List Int)).bind fun y162 => ((castellanref2_Of.f kj14 y162).bind fun t165 => ((castellanref1_Put16.f t165).bind fun t166 => (if 0 < (t166.length : Int) then (if 1 < (t166.length : Int) then (if 10 < (y162.length : Int) then (if 11 < (y162.length : Int) then ((some ((y162.set (10 : Int).toNat (rd t166 0)).set (11 : Int).toNat (rd t166 1) : List Int)).bind fun y172 => (if y172.length + l0_10.length < 140737488355328 then (some ((y172 ++ l0_10), 0)) else (none))) else (none)) else (none)) else (none)) else (none))))) else (none))) else (none)))) else (none)))) else (none))) = some (r1, r2) := by first | (rw [hy141]; with_reducible exact H) | (have H2_ := (Option.bind_some _ _).symm.trans H; rw [hy141]; with_reducible exact H2_) | (have H2_ := (Option.bind_some _ _).symm.trans H; with_reducible exact H2_) | with_reducible exact H | (rw [hy141]; exact H) | exact H
          have Ny141 := Aside0.mk hy141
          clear hy141
          obtain ⟨y144, hy144⟩ : ∃ y_ : List Int, y_ = (([(a0_5) % 256, (a0_6) % 256, 0, 0] : List Int)) := ⟨_, rfl⟩
          replace H : (if y141.length + y144.length < 140737488355328 then ((some (y141 ++ y144 : List Int)).bind fun y147 => ((castellanref1_Put32.f a0_7).bind fun t150 => (if y147.length + t150.length < 140737488355328 then ((some (y147 ++ t150 : List Int)).bind fun y153 => ((castellanref1_Put32.f a0_8).bind fun t156 => (if y153.length + t156.length < 140737488355328 then ((some (y153 ++ t156 : List Int)).bind fun y159 => (if y159.length + l0_9.length < 140737488355328 then ((some (y159 ++ l0_9 : List Int)).bind fun y162 => ((castellanref2_Of.f kj14 y162).bind fun t165 => ((castellanref1_Put16.f t165).bind fun t166 => (if 0 < (t166.length : Int) then (if 1 < (t166.length : Int) then (if 10 < (y162.length : Int) then (if 11 < (y162.length : Int) then ((some ((y162.set (10 : Int).toNat (rd t166 0)).set (11 : Int).toNat (rd t166 1) : List Int)).bind fun y172 => (if y172.length + l0_10.length < 140737488355328 then (some ((y172 ++ l0_10), 0)) else (none))) else (none)) else (none)) else (none)) else (none))))) else (none))) else (none)))) else (none)))) else (none)) = some (r1, r2) := by first | (rw [hy144]; with_reducible exact H) | (have H2_ := (Option.bind_some _ _).symm.trans H; rw [hy144]; with_reducible exact H2_) | (have H2_ := (Option.bind_some _ _).symm.trans H; with_reducible exact H2_) | with_reducible exact H | (rw [hy144]; exact H) | exact H
          have Ny144 := Aside0.mk hy144
          clear hy144
          by_cases c24 : y141.length + y144.length < 140737488355328
          ·rw [if_pos c24] at H
           have LMc24 := Aside0.mk c24
           clear c24
           obtain ⟨y147, hy147⟩ : ∃ y_ : List Int, y_ = (y141 ++ y144) := ⟨_, rfl⟩
           replace H : ((castellanref1_Put32.f a0_7).bind fun t150 => (if y147.length + t150.length < 140737488355328 then ((some (y147 ++ t150 : List Int)).bind fun y153 => ((castellanref1_Put32.f a0_8).bind fun t156 => (if y153.length + t156.length < 140737488355328 then ((some (y153 ++ t156 : List Int)).bind fun y159 => (if y159.length + l0_9.length < 140737488355328 then ((some (y159 ++ l0_9 : List Int)).bind fun y162 => ((castellanref2_Of.f kj14 y162).bind fun t165 => ((castellanref1_Put16.f t165).bind fun t166 => (if 0 < (t166.length : Int) then (if 1 < (t166.length : Int) then (if 10 < (y162.length : Int) then (if 11 < (y162.length : Int) then ((some ((y162.set (10 : Int).toNat (rd t166 0)).set (11 : Int).toNat (rd t166 1) : List Int)).bind fun y172 => (if y172.length + l0_10.length < 140737488355328 then (some ((y172 ++ l0_10), 0)) else (none))) else (none)) else (none)) else (none)) else (none))))) else (none))) else (none)))) else (none))) = some (r1, r2) := by first | (rw [hy147]; with_reducible exact H) | (have H2_ := (Option.bind_some _ _).symm.trans H; rw [hy147]; with_reducible exact H2_) | (have H2_ := (Option.bind_some _ _).symm.trans H; with_reducible exact H2_) | with_reducible exact H | (rw [hy147]; exact H) | exact H
           have Ny147 := Aside0.mk hy147
           clear hy147
           replace H := Option.bind_eq_some_iff.mp H
           obtain ⟨t150, A250, H⟩ := H
           replace H : (if y147.length + t150.length < 140737488355328 then ((some (y147 ++ t150 : List Int)).bind fun y153 => ((castellanref1_Put32.f a0_8).bind fun t156 => (if y153.length + t156.length < 140737488355328 then ((some (y153 ++ t156 : List Int)).bind fun y159 => (if y159.length + l0_9.length < 140737488355328 then ((some (y159 ++ l0_9 : List Int)).bind fun y162 => ((castellanref2_Of.f kj14 y162).bind fun t165 => ((castellanref1_Put16.f t165).bind fun t166 => (if 0 < (t166.length : Int) then (if 1 < (t166.length : Int) then (if 10 < (y162.length : Int) then (if 11 < (y162.length : Int) then ((some ((y162.set (10 : Int).toNat (rd t166 0)).set (11 : Int).toNat (rd t166 1) : List Int)).bind fun y172 => (if y172.length + l0_10.length < 140737488355328 then (some ((y172 ++ l0_10), 0)) else (none))) else (none)) else (none)) else (none)) else (none))))) else (none))) else (none)))) else (none)) = some (r1, r2) := H
           have A25 := Aside0.mk A250
           clear A250
           by_cases c26 : y147.length + t150.length < 140737488355328
           ·rw [if_pos c26] at H
            have LMc26 := Aside0.mk c26
            clear c26
            obtain ⟨y153, hy153⟩ : ∃ y_ : List Int, y_ = (y147 ++ t150) := ⟨_, rfl⟩
            replace H : ((castellanref1_Put32.f a0_8).bind fun t156 => (if y153.length + t156.length < 140737488355328 then ((some (y153 ++ t156 : List Int)).bind fun y159 => (if y159.length + l0_9.length < 140737488355328 then ((some (y159 ++ l0_9 : List Int)).bind fun y162 => ((castellanref2_Of.f kj14 y162).bind fun t165 => ((castellanref1_Put16.f t165).bind fun t166 => (if 0 < (t166.length : Int) then (if 1 < (t166.length : Int) then (if 10 < (y162.length : Int) then (if 11 < (y162.length : Int) then ((some ((y162.set (10 : Int).toNat (rd t166 0)).set (11 : Int).toNat (rd t166 1) : List Int)).bind fun y172 => (if y172.length + l0_10.length < 140737488355328 then (some ((y172 ++ l0_10), 0)) else (none))) else (none)) else (none)) else (none)) else (none))))) else (none))) else (none))) = some (r1, r2) := by first | (rw [hy153]; with_reducible exact H) | (have H2_ := (Option.bind_some _ _).symm.trans H; rw [hy153]; with_reducible exact H2_) | (have H2_ := (Option.bind_some _ _).symm.trans H; with_reducible exact H2_) | with_reducible exact H | (rw [hy153]; exact H) | exact H
            have Ny153 := Aside0.mk hy153
            clear hy153
            replace H := Option.bind_eq_some_iff.mp H
            obtain ⟨t156, A270, H⟩ := H
            replace H : (if y153.length + t156.length < 140737488355328 then ((some (y153 ++ t156 : List Int)).bind fun y159 => (if y159.length + l0_9.length < 140737488355328 then ((some (y159 ++ l0_9 : List Int)).bind fun y162 => ((castellanref2_Of.f kj14 y162).bind fun t165 => ((castellanref1_Put16.f t165).bind fun t166 => (if 0 < (t166.length : Int) then (if 1 < (t166.length : Int) then (if 10 < (y162.length : Int) then (if 11 < (y162.length : Int) then ((some ((y162.set (10 : Int).toNat (rd t166 0)).set (11 : Int).toNat (rd t166 1) : List Int)).bind fun y172 => (if y172.length + l0_10.length < 140737488355328 then (some ((y172 ++ l0_10), 0)) else (none))) else (none)) else (none)) else (none)) else (none))))) else (none))) else (none)) = some (r1, r2) := H
            have A27 := Aside0.mk A270
            clear A270
            by_cases c28 : y153.length + t156.length < 140737488355328
            ·rw [if_pos c28] at H
             have LMc28 := Aside0.mk c28
             clear c28
             obtain ⟨y159, hy159⟩ : ∃ y_ : List Int, y_ = (y153 ++ t156) := ⟨_, rfl⟩
             replace H : (if y159.length + l0_9.length < 140737488355328 then ((some (y159 ++ l0_9 : List Int)).bind fun y162 => ((castellanref2_Of.f kj14 y162).bind fun t165 => ((castellanref1_Put16.f t165).bind fun t166 => (if 0 < (t166.length : Int) then (if 1 < (t166.length : Int) then (if 10 < (y162.length : Int) then (if 11 < (y162.length : Int) then ((some ((y162.set (10 : Int).toNat (rd t166 0)).set (11 : Int).toNat (rd t166 1) : List Int)).bind fun y172 => (if y172.length + l0_10.length < 140737488355328 then (some ((y172 ++ l0_10), 0)) else (none))) else (none)) else (none)) else (none)) else (none))))) else (none)) = some (r1, r2) := by first | (rw [hy159]; with_reducible exact H) | (have H2_ := (Option.bind_some _ _).symm.trans H; rw [hy159]; with_reducible exact H2_) | (have H2_ := (Option.bind_some _ _).symm.trans H; with_reducible exact H2_) | with_reducible exact H | (rw [hy159]; exact H) | exact H
             have Ny159 := Aside0.mk hy159
             clear hy159
             by_cases c29 : y159.length + l0_9.length < 140737488355328
             ·rw [if_pos c29] at H
              have LMc29 := Aside0.mk c29
              clear c29
              obtain ⟨y162, hy162⟩ : ∃ y_ : List Int, y_ = (y159 ++ l0_9) := ⟨_, rfl⟩
              replace H : ((castellanref2_Of.f kj14 y162).bind fun t165 => ((castellanref1_Put16.f t165).bind fun t166 => (if 0 < (t166.length : Int) then (if 1 < (t166.length : Int) then (if 10 < (y162.length : Int) then (if 11 < (y162.length : Int) then ((some ((y162.set (10 : Int).toNat (rd t166 0)).set (11 : Int).toNat (rd t166 1) : List Int)).bind fun y172 => (if y172.length + l0_10.length < 140737488355328 then (some ((y172 ++ l0_10), 0)) else (none))) else (none)) else (none)) else (none)) else (none)))) = some (r1, r2) := by first | (rw [hy162]; with_reducible exact H) | (have H2_ := (Option.bind_some _ _).symm.trans H; rw [hy162]; with_reducible exact H2_) | (have H2_ := (Option.bind_some _ _).symm.trans H; with_reducible exact H2_) | with_reducible exact H | (rw [hy162]; exact H) | exact H
              have Ny162 := Aside0.mk hy162
              clear hy162
              replace H := Option.bind_eq_some_iff.mp H
              obtain ⟨t165, A300, H⟩ := H
              replace H : ((castellanref1_Put16.f t165).bind fun t166 => (if 0 < (t166.length : Int) then (if 1 < (t166.length : Int) then (if 10 < (y162.length : Int) then (if 11 < (y162.length : Int) then ((some ((y162.set (10 : Int).toNat (rd t166 0)).set (11 : Int).toNat (rd t166 1) : List Int)).bind fun y172 => (if y172.length + l0_10.length < 140737488355328 then (some ((y172 ++ l0_10), 0)) else (none))) else (none)) else (none)) else (none)) else (none))) = some (r1, r2) := H
              have A30 := Aside0.mk A300
              clear A300
              replace H := Option.bind_eq_some_iff.mp H
              obtain ⟨t166, A310, H⟩ := H
              replace H : (if 0 < (t166.length : Int) then (if 1 < (t166.length : Int) then (if 10 < (y162.length : Int) then (if 11 < (y162.length : Int) then ((some ((y162.set (10 : Int).toNat (rd t166 0)).set (11 : Int).toNat (rd t166 1) : List Int)).bind fun y172 => (if y172.length + l0_10.length < 140737488355328 then (some ((y172 ++ l0_10), 0)) else (none))) else (none)) else (none)) else (none)) else (none)) = some (r1, r2) := H
              have A31 := Aside0.mk A310
              clear A310
              by_cases c32 : 0 < (t166.length : Int)
              ·rw [if_pos c32] at H
               have c32b0 : decide (0 < (t166.length : Int)) = true := decide_eq_true c32
               have c32b1 : decide (0 < t166.length) = true := decide_eq_true (by omega)
               clear c32
               by_cases c33 : 1 < (t166.length : Int)
               ·rw [if_pos c33] at H
                have c33b0 : decide (1 < (t166.length : Int)) = true := decide_eq_true c33
                have c33b1 : decide (1 < t166.length) = true := decide_eq_true (by omega)
                clear c33
                by_cases c34 : 10 < (y162.length : Int)
                ·rw [if_pos c34] at H
                 have c34b0 : decide (10 < (y162.length : Int)) = true := decide_eq_true c34
                 have c34b1 : decide (10 < y162.length) = true := decide_eq_true (by omega)
                 clear c34
                 obtain ⟨y171, hy171⟩ : ∃ y_ : List Int, y_ = (y162.set (10 : Int).toNat (rd t166 0)) := ⟨_, rfl⟩
                 replace H : (if 11 < (y162.length : Int) then ((some (y171.set (11 : Int).toNat (rd t166 1) : List Int)).bind fun y172 => (if y172.length + l0_10.length < 140737488355328 then (some ((y172 ++ l0_10), 0)) else (none))) else (none)) = some (r1, r2) := by first | (rw [hy171]; with_reducible exact H) | (have H2_ := (Option.bind_some _ _).symm.trans H; rw [hy171]; with_reducible exact H2_) | (have H2_ := (Option.bind_some _ _).symm.trans H; with_reducible exact H2_) | with_reducible exact H | (rw [hy171]; exact H) | exact H
                 have Ny171 := Aside0.mk hy171
                 clear hy171
                 by_cases c36 : 11 < (y162.length : Int)
                 ·rw [if_pos c36] at H
                  have c36b0 : decide (11 < (y162.length : Int)) = true := decide_eq_true c36
                  have c36b1 : decide (11 < y162.length) = true := decide_eq_true (by omega)
                  clear c36
                  obtain ⟨y172, hy172⟩ : ∃ y_ : List Int, y_ = (y171.set (11 : Int).toNat (rd t166 1)) := ⟨_, rfl⟩
                  replace H : (if y172.length + l0_10.length < 140737488355328 then (some ((y172 ++ l0_10), 0)) else (none)) = some (r1, r2) := by first | (rw [hy172]; with_reducible exact H) | (have H2_ := (Option.bind_some _ _).symm.trans H; rw [hy172]; with_reducible exact H2_) | (have H2_ := (Option.bind_some _ _).symm.trans H; with_reducible exact H2_) | with_reducible exact H | (rw [hy172]; exact H) | exact H
                  have Ny172 := Aside0.mk hy172
                  clear hy172
                  by_cases c38 : y172.length + l0_10.length < 140737488355328
                  ·rw [if_pos c38] at H
                   have LMc38 := Aside0.mk c38
                   clear c38
                   obtain ⟨y173, hy173⟩ : ∃ y_ : List Int, y_ = (y172 ++ l0_10) := ⟨_, rfl⟩
                   replace H : (some (y173, 0)) = some (r1, r2) := by first | (rw [hy173]; with_reducible exact H) | (have H2_ := (Option.bind_some _ _).symm.trans H; rw [hy173]; with_reducible exact H2_) | (have H2_ := (Option.bind_some _ _).symm.trans H; with_reducible exact H2_) | with_reducible exact H | (rw [hy173]; exact H) | exact H
                   have Ny173 := Aside0.mk hy173
                   clear hy173
                   simp only [Option.some.injEq, Prod.mk.injEq] at H
                   obtain ⟨rfl, rfl⟩ := H
                   have HO := Aside0.mk (Owns.one_own HB.out BK121.out GE121.out (by decide))
                   clear HB BK121
                   have HF := HO.out.facts; simp only [OwnsM.Facts, and_true] at HF
                   go_upto_region 11 with (fail)
                   go_cut [6] (fun v6 wx => ∃ v1 : Value, v6 = v1 ∧ Aside0 (Owns w wx [(gb121, #[.int .i64 a0_0, .int .i64 a0_1, .bool a0_2, .bool a0_3, .int .i64 a0_4, .int .i64 a0_5, .int .i64 a0_6, .int .u32 a0_7, .int .u32 a0_8, (.slice A0_9 l0_9.length c0_9), (.slice A0_10 l0_10.length c0_10)], 26)] [(v1, y129)]))
                   case first =>
                    have HO1_ := Aside0.mk HO.out.drew
                    clear HO HF
                    have HO := HO1_
                    clear HO1_
                    refine start_ (n := 16) (S := fun w' => w'.cell? ⟨gb121, 0, none⟩ = some (.int .i64 a0_0) ∧ w'.cell? ⟨gb121, 10, none⟩ = some ((.slice A0_10 l0_10.length c0_10))) (ds := []) #[false, false, false, false, false, false, false, false, false, false, false, false, false, false, false, false] (by kernel_rfl) rfl rfl ⟨(HO.out.cell 0 0 rfl rfl), (HO.out.cell 0 10 rfl rfl)⟩ (fun hHeld => ?_); refine with_tabW castellanref4_Build.tab11 castellanref4_Build.bits11 (fun HT_ HW_ => ?_)
                    generalize wc.drew = w1 at HO hHeld ⊢
                    refine pure_ (i := 0) (N := some 31) (v := ?_) (a' := ?_) #[true, false, false, false, false, false, false, false, false, false, false, false, false, false, false, false] rfl rfl (any_of HT_.out (by kernel_rfl)) (fun _ _ _ h => h) (Or.inl ⟨by rfl, ?_⟩) ?_ ?_
                    rotate_left
                    ·intro w'
                     go_simp
                     with_reducible rfl
                    rotate_left
                    ·simp only [Act.put, List.setIfInBounds_toArray, List.set_cons_zero, List.set_cons_succ, i64_w, i32_w]
                     rfl
                    refine pure_ (i := 1) (N := some 32) (v := ?_) (a' := ?_) #[true, true, false, false, false, false, false, false, false, false, false, false, false, false, false, false] rfl rfl (any_of HT_.out (by kernel_rfl)) (fun _ _ _ h => h) (Or.inl ⟨by rfl, ?_⟩) ?_ ?_
                    rotate_left
                    ·intro w'
                     go_simp
                     with_reducible rfl
                    rotate_left
                    ·simp only [Act.put, List.setIfInBounds_toArray, List.set_cons_zero, List.set_cons_succ, i64_w, i32_w]
                     rfl
                    refine pure_ (i := 2) (N := some 33) (v := ?_) (a' := ?_) #[true, true, true, false, false, false, false, false, false, false, false, false, false, false, false, false] rfl rfl (any_of HT_.out (by kernel_rfl)) (fun _ _ _ h => h) (Or.inl ⟨by rfl, ?_⟩) ?_ ?_
                    rotate_left
                    ·intro w'
                     go_simp
                     with_reducible rfl
                    rotate_left
                    ·simp only [Act.put, List.setIfInBounds_toArray, List.set_cons_zero, List.set_cons_succ, i64_w, i32_w]
                     rfl
                    refine pure_ (i := 3) (N := some 34) (v := ?_) (a' := ?_) #[true, true, true, true, false, false, false, false, false, false, false, false, false, false, false, false] rfl rfl (any_of HT_.out (by kernel_rfl)) (fun _ _ _ h => h) (Or.inl ⟨by rfl, ?_⟩) ?_ ?_
                    rotate_left
                    ·intro w'
                     go_simp
                     with_reducible rfl
                    rotate_left
                    ·simp only [Act.put, List.setIfInBounds_toArray, List.set_cons_zero, List.set_cons_succ, i64_w, i32_w]
                     rfl
                    refine pure_ (i := 4) (N := some 35) (v := ?_) (a' := ?_) #[true, true, true, true, true, false, false, false, false, false, false, false, false, false, false, false] rfl rfl (any_of HT_.out (by kernel_rfl)) (fun _ _ _ h => h) (Or.inl ⟨by rfl, ?_⟩) ?_ ?_
                    rotate_left
                    ·intro w'
                     go_simp
                     with_reducible rfl
                    rotate_left
                    ·simp only [Act.put, List.setIfInBounds_toArray, List.set_cons_zero, List.set_cons_succ, i64_w, i32_w]
                     rfl
                    refine pure_ (i := 8) (N := some 39) (v := ?_) (a' := ?_) #[true, true, true, true, true, false, false, false, true, false, false, false, false, false, false, false] rfl rfl (any_of HT_.out (by kernel_rfl)) (fun _ _ _ h => h) (Or.inl ⟨by rfl, ?_⟩) ?_ ?_
                    rotate_left
                    ·intro w'
                     go_simp
                     with_reducible rfl
                    rotate_left
                    ·simp only [Act.put, List.setIfInBounds_toArray, List.set_cons_zero, List.set_cons_succ, i64_w, i32_w]
                     rfl
                    refine pure_ (i := 9) (N := some 40) (v := ?_) (a' := ?_) #[true, true, true, true, true, false, false, false, true, true, false, false, false, false, false, false] rfl rfl (any_of HT_.out (by kernel_rfl)) (fun _ _ _ h => h) (Or.inl ⟨by rfl, ?_⟩) ?_ ?_
                    rotate_left
                    ·intro w'
                     go_simp
                     with_reducible rfl
                    rotate_left
                    ·simp only [Act.put, List.setIfInBounds_toArray, List.set_cons_zero, List.set_cons_succ, i64_w, i32_w]
                     rfl
                    refine take_ (i := 5) (N := some 36) (v := ?_) (a' := ?_) #[true, true, true, true, true, true, false, false, true, true, false, false, false, false, false, false] rfl rfl (take_ofW HT_.out HW_.out (by kernel_rfl)) (fun _ _ _ h => h) (Or.inl ⟨by rfl, ?_⟩) hHeld ?_ ?_
                    rotate_left
                    ·rintro w' ⟨s0, s1⟩
                     go_simp
                     with_reducible rfl
                    rotate_left
                    ·simp only [Act.put, List.setIfInBounds_toArray, List.set_cons_zero, List.set_cons_succ, i64_w, i32_w]
                     rfl
                    refine pure_ (i := 6) (N := some 37) (v := ?_) (a' := ?_) #[true, true, true, true, true, true, true, false, true, true, false, false, false, false, false, false] rfl rfl (any_of HT_.out (by kernel_rfl)) (fun _ _ _ h => h) (Or.inl ⟨by rfl, ?_⟩) ?_ ?_
                    rotate_left
                    ·intro w'
                     go_simp
                     with_reducible rfl
                    rotate_left
                    ·simp only [Act.put, List.setIfInBounds_toArray, List.set_cons_zero, List.set_cons_succ, i64_w, i32_w]
                     rfl
                    refine take_ (i := 10) (N := some 41) (v := ?_) (a' := ?_) #[true, true, true, true, true, true, true, false, true, true, true, false, false, false, false, false] rfl rfl (take_ofW HT_.out HW_.out (by kernel_rfl)) (fun _ _ _ h => h) (Or.inl ⟨by rfl, ?_⟩) hHeld ?_ ?_
                    rotate_left
                    ·rintro w' ⟨s0, s1⟩
                     go_simp
                     with_reducible rfl
                    rotate_left
                    ·simp only [Act.put, List.setIfInBounds_toArray, List.set_cons_zero, List.set_cons_succ, i64_w, i32_w]
                     rfl
                    refine pure_ (i := 11) (N := some 42) (v := ?_) (a' := ?_) #[true, true, true, true, true, true, true, false, true, true, true, true, false, false, false, false] rfl rfl (any_of HT_.out (by kernel_rfl)) (fun _ _ _ h => h) (Or.inl ⟨by rfl, ?_⟩) ?_ ?_
                    rotate_left
                    ·intro w'
                     go_simp
                     with_reducible rfl
                    rotate_left
                    ·simp only [Act.put, List.setIfInBounds_toArray, List.set_cons_zero, List.set_cons_succ, i64_w, i32_w]
                     rfl
                    refine pure_ (i := 12) (N := some 43) (v := ?_) (a' := ?_) #[true, true, true, true, true, true, true, false, true, true, true, true, true, false, false, false] rfl rfl (any_of HT_.out (by kernel_rfl)) (fun _ _ _ h => h) (Or.inl ⟨by rfl, ?_⟩) ?_ ?_
                    rotate_left
                    ·intro w'
                     go_simp
                     with_reducible rfl
                    rotate_left
                    ·simp only [Act.put, List.setIfInBounds_toArray, List.set_cons_zero, List.set_cons_succ, i64_w, i32_w]
                     rfl
                    refine two_ (i := 7) (j := 13) (Ni := some 38) (Nj := some 44) #[true, true, true, true, true, true, true, true, true, true, true, true, true, false, false, false] #[true, true, true, true, true, true, true, false, true, true, true, true, true, true, false, false] rfl rfl rfl rfl (two_of HT_.out (by kernel_rfl)) (by decide) (by decide) (fun K hK => ?_) (fun K hK => ?_)
                    ·skip
                     refine ow_lit_step HO (by rfl) (N := 38) rfl ([(wrap64 (64 + (wrap64 (Int.tdiv (wrap64 (20 + (l0_9.length : Int))) 4)))) % 256, (a0_0) % 256] : List Int) [.int .u8 ((wrap64 (64 + (wrap64 (Int.tdiv (wrap64 (20 + (l0_9.length : Int))) 4)))) % 256), .int .u8 ((a0_0) % 256)] ?hr ?hp (by simp) (fun v1 w1 HO1_ => ?_); (case hr => first | (go_simp; done) | (go_simp; simp only [IntKind.wrap_u8]; done) | (go_simp; rfl)); (case hp => exact Reps.one (show (fun (x : Int) (cs : List Value) => cs = [Value.int .u8 x]) ((wrap64 (64 + (wrap64 (Int.tdiv (wrap64 (20 + (l0_9.length : Int))) 4)))) % 256) [.int .u8 ((wrap64 (64 + (wrap64 (Int.tdiv (wrap64 (20 + (l0_9.length : Int))) 4)))) % 256)] from rfl) (Reps.one (show (fun (x : Int) (cs : List Value) => cs = [Value.int .u8 x]) ((a0_0) % 256) [.int .u8 ((a0_0) % 256)] from rfl) (Reps.none _ _)))
                     clear HO
                     have HO := HO1_
                     clear HO1_
                     rw [← Ny123.out] at HO
                     obtain ⟨Ay123, cy123, rfl⟩ := Kd.R_slice (HO.out.row 0 rfl)
                     refine hK.out _ _ ⟨(HO.out.cell 0 0 rfl rfl), (HO.out.cell 0 10 rfl rfl)⟩ (fun hHeld => ?_)
                     clear hK K
                     refine norm_ (a' := ?_) ?_ ?_
                     rotate_left
                     ·show Act.put _ (some 38) _ = _
                      simp only [Act.put, List.setIfInBounds_toArray, List.set_cons_zero, List.set_cons_succ, i64_w, i32_w]
                      rfl
                     refine one_ (i := 13) (N := some 44) #[true, true, true, true, true, true, true, true, true, true, true, true, true, true, false, false] rfl rfl (one_of HT_.out (by kernel_rfl)) (by decide) (fun K hK => ?_)
                     refine goes_ Try.func43 (by kernel_rfl) rfl #[.int .i64 (wrap64 ((wrap64 (20 + (l0_9.length : Int))) + (l0_10.length : Int)))] (by rfl) rfl rfl (by (try simp only [List.map_toArray, List.map_cons, List.map_nil]); first | done | rfl | (simp only [List.length_drop, List.length_take]; rfl)) ?_
                     refine (castellanref1_Put16.calls (wrap64 ((wrap64 (20 + (l0_9.length : Int))) + (l0_10.length : Int))) t126 _ A18.out).mono ?_
                     rintro e w1 ⟨v1, rfl, h1, hb⟩
                     refine ⟨_, rfl, ?_⟩
                     replace HO := Aside0.mk (HO.out.call1 hb h1)
                     obtain ⟨At126, ct126, rfl⟩ := Kd.R_slice (HO.out.row 0 rfl)
                     refine hK.out _ _ ⟨(HO.out.cell 0 0 rfl rfl), (HO.out.cell 0 10 rfl rfl)⟩ (fun hHeld => ?_)
                     clear hK K
                     refine norm_ (a' := ?_) ?_ ?_
                     rotate_left
                     ·show Act.put _ (some 44) _ = _
                      simp only [Act.put, List.setIfInBounds_toArray, List.set_cons_zero, List.set_cons_succ, i64_w, i32_w]
                      rfl
                     refine one_ (i := 14) (N := some 45) #[true, true, true, true, true, true, true, true, true, true, true, true, true, true, true, false] rfl rfl (one_of HT_.out (by kernel_rfl)) (by decide) (fun K hK => ?_)
                     refine ow_app_step HO (by rfl) 1 rfl (.tmp 38) (.tmp 44) 24 rfl Try.underlying24 info5 rfl rfl (HO.out.rd 0 rfl) (LMc19.out) (fun v1 w1 HO1_ => ?_)
                     clear HO
                     have HO := HO1_
                     clear HO1_
                     simp only [List.set_cons_zero, List.set_cons_succ] at HO
                     rw [← Ny129.out] at HO
                     obtain ⟨Ay129, cy129, rfl⟩ := Kd.R_slice (HO.out.row 1 rfl)
                     refine hK.out _ _ ⟨(HO.out.cell 0 0 rfl rfl), (HO.out.cell 0 10 rfl rfl)⟩ (fun hHeld => ?_)
                     clear hK K
                     refine norm_ (a' := ?_) ?_ ?_
                     rotate_left
                     ·show Act.put _ (some 45) _ = _
                      simp only [Act.put, List.setIfInBounds_toArray, List.set_cons_zero, List.set_cons_succ, i64_w, i32_w]
                      rfl
                     refine pure_ (i := 15) (N := some 6) (v := ?_) (a' := ?_) #[true, true, true, true, true, true, true, true, true, true, true, true, true, true, true, true] rfl rfl (any_of HT_.out (by kernel_rfl)) (fun _ _ _ h => h) (Or.inl ⟨by rfl, ?_⟩) ?_ ?_
                     rotate_left
                     ·intro w'
                      go_simp
                      with_reducible rfl
                     rotate_left
                     ·simp only [Act.put, List.setIfInBounds_toArray, List.set_cons_zero, List.set_cons_succ, i64_w, i32_w]
                      rfl
                     refine done_ (done_of HT_.out (by kernel_rfl)) ?_
                     go_wp2
                     go_meet
                     case rel => exact ⟨_, rfl, ⟨HO.out.keep1 1 rfl⟩⟩
                    ·skip
                     refine goes_ Try.func43 (by kernel_rfl) rfl #[.int .i64 (wrap64 ((wrap64 (20 + (l0_9.length : Int))) + (l0_10.length : Int)))] (by rfl) rfl rfl (by (try simp only [List.map_toArray, List.map_cons, List.map_nil]); first | done | rfl | (simp only [List.length_drop, List.length_take]; rfl)) ?_
                     refine (castellanref1_Put16.calls (wrap64 ((wrap64 (20 + (l0_9.length : Int))) + (l0_10.length : Int))) t126 _ A18.out).mono ?_
                     rintro e w1 ⟨v1, rfl, h1, hb⟩
                     refine ⟨_, rfl, ?_⟩
                     replace HO := Aside0.mk (HO.out.call1 hb h1)
                     obtain ⟨At126, ct126, rfl⟩ := Kd.R_slice (HO.out.row 0 rfl)
                     refine hK.out _ _ ⟨(HO.out.cell 0 0 rfl rfl), (HO.out.cell 0 10 rfl rfl)⟩ (fun hHeld => ?_)
                     clear hK K
                     refine norm_ (a' := ?_) ?_ ?_
                     rotate_left
                     ·show Act.put _ (some 44) _ = _
                      simp only [Act.put, List.setIfInBounds_toArray, List.set_cons_zero, List.set_cons_succ, i64_w, i32_w]
                      rfl
                     refine one_ (i := 7) (N := some 38) #[true, true, true, true, true, true, true, true, true, true, true, true, true, true, false, false] rfl rfl (one_of HT_.out (by kernel_rfl)) (by decide) (fun K hK => ?_)
                     refine ow_lit_step HO (by rfl) (N := 38) rfl ([(wrap64 (64 + (wrap64 (Int.tdiv (wrap64 (20 + (l0_9.length : Int))) 4)))) % 256, (a0_0) % 256] : List Int) [.int .u8 ((wrap64 (64 + (wrap64 (Int.tdiv (wrap64 (20 + (l0_9.length : Int))) 4)))) % 256), .int .u8 ((a0_0) % 256)] ?hr ?hp (by simp) (fun v1 w1 HO1_ => ?_); (case hr => first | (go_simp; done) | (go_simp; simp only [IntKind.wrap_u8]; done) | (go_simp; rfl)); (case hp => exact Reps.one (show (fun (x : Int) (cs : List Value) => cs = [Value.int .u8 x]) ((wrap64 (64 + (wrap64 (Int.tdiv (wrap64 (20 + (l0_9.length : Int))) 4)))) % 256) [.int .u8 ((wrap64 (64 + (wrap64 (Int.tdiv (wrap64 (20 + (l0_9.length : Int))) 4)))) % 256)] from rfl) (Reps.one (show (fun (x : Int) (cs : List Value) => cs = [Value.int .u8 x]) ((a0_0) % 256) [.int .u8 ((a0_0) % 256)] from rfl) (Reps.none _ _)))
                     clear HO
                     have HO := HO1_
                     clear HO1_
                     rw [← Ny123.out] at HO
                     obtain ⟨Ay123, cy123, rfl⟩ := Kd.R_slice (HO.out.row 0 rfl)
                     refine hK.out _ _ ⟨(HO.out.cell 0 0 rfl rfl), (HO.out.cell 0 10 rfl rfl)⟩ (fun hHeld => ?_)
                     clear hK K
                     refine norm_ (a' := ?_) ?_ ?_
                     rotate_left
                     ·show Act.put _ (some 38) _ = _
                      simp only [Act.put, List.setIfInBounds_toArray, List.set_cons_zero, List.set_cons_succ, i64_w, i32_w]
                      rfl
                     refine one_ (i := 14) (N := some 45) #[true, true, true, true, true, true, true, true, true, true, true, true, true, true, true, false] rfl rfl (one_of HT_.out (by kernel_rfl)) (by decide) (fun K hK => ?_)
                     refine ow_app_step HO (by rfl) 0 rfl (.tmp 38) (.tmp 44) 24 rfl Try.underlying24 info5 rfl rfl (HO.out.rd 1 rfl) (LMc19.out) (fun v1 w1 HO1_ => ?_)
                     clear HO
                     have HO := HO1_
                     clear HO1_
                     simp only [List.set_cons_zero, List.set_cons_succ] at HO
                     rw [← Ny129.out] at HO
                     obtain ⟨Ay129, cy129, rfl⟩ := Kd.R_slice (HO.out.row 0 rfl)
                     refine hK.out _ _ ⟨(HO.out.cell 0 0 rfl rfl), (HO.out.cell 0 10 rfl rfl)⟩ (fun hHeld => ?_)
                     clear hK K
                     refine norm_ (a' := ?_) ?_ ?_
                     rotate_left
                     ·show Act.put _ (some 45) _ = _
                      simp only [Act.put, List.setIfInBounds_toArray, List.set_cons_zero, List.set_cons_succ, i64_w, i32_w]
                      rfl
                     refine pure_ (i := 15) (N := some 6) (v := ?_) (a' := ?_) #[true, true, true, true, true, true, true, true, true, true, true, true, true, true, true, true] rfl rfl (any_of HT_.out (by kernel_rfl)) (fun _ _ _ h => h) (Or.inl ⟨by rfl, ?_⟩) ?_ ?_
                     rotate_left
                     ·intro w'
                      go_simp
                      with_reducible rfl
                     rotate_left
                     ·simp only [Act.put, List.setIfInBounds_toArray, List.set_cons_zero, List.set_cons_succ, i64_w, i32_w]
                      rfl
                     refine done_ (done_of HT_.out (by kernel_rfl)) ?_
                     go_wp2
                     go_meet
                     case rel => exact ⟨_, rfl, ⟨HO.out.keep1 0 rfl⟩⟩
                   case rest =>
                    clear HO HF
                    obtain ⟨v1, rfl, HO⟩ := hcut
                    obtain ⟨Ay129, cy129, rfl⟩ := Kd.R_slice (HO.out.row 0 rfl)
                    have HF := HO.out.facts; simp only [OwnsM.Facts, and_true] at HF
                    go_upto_region 14 with (first | ((with_reducible refine gate_callee (f := 43) rfl ?_); refine goesL_ (some 49) rfl rfl Try.func43 (by kernel_rfl) rfl #[.int .i64 a0_1] rfl (by (try simp only [List.map_toArray, List.map_cons, List.map_nil]); first | done | rfl | (simp only [List.length_drop, List.length_take]; rfl)) ?_; refine (castellanref1_Put16.calls a0_1 t132 _ A20.out).mono ?_; rintro e w1 ⟨v1, rfl, h1, hb⟩; refine ⟨_, rfl, ?_⟩; replace HO := Aside0.mk (HO.out.call1 hb h1); obtain ⟨At132, ct132, rfl⟩ := Kd.R_slice (HO.out.row 0 rfl); clear HF; have HF := HO.out.facts; simp only [OwnsM.Facts, and_true] at HF) | ((with_reducible refine gate_builtin (b := .append) (xs := #[.tmp 46, .tmp 49]) rfl ?_); at_builtin; refine ow_app HO rfl 1 rfl (.tmp 46) (.tmp 49) 24 rfl Try.underlying24 info5 rfl rfl (HO.out.rd 0 rfl) (LMc21.out) ?_; clear HO HF; intro v1 w1 HO; simp only [List.set_cons_zero, List.set_cons_succ] at HO; rw [← Ny135.out] at HO; replace HO := Aside0.mk (HO.out.keep1 1 rfl); obtain ⟨Ay135, cy135, rfl⟩ := Kd.R_slice (HO.out.row 0 rfl); have HF := HO.out.facts; simp only [OwnsM.Facts, and_true] at HF) | ((with_reducible refine gate_callee (f := 43) rfl ?_); refine goesL_ (some 52) rfl rfl Try.func43 (by kernel_rfl) rfl #[.int .i64 x5_14] rfl (by (try simp only [List.map_toArray, List.map_cons, List.map_nil]); first | done | rfl | (simp only [List.length_drop, List.length_take]; rfl)) ?_; refine (castellanref1_Put16.calls x5_14 t138 _ A22.out).mono ?_; rintro e w1 ⟨v1, rfl, h1, hb⟩; refine ⟨_, rfl, ?_⟩; replace HO := Aside0.mk (HO.out.call1 hb h1); obtain ⟨At138, ct138, rfl⟩ := Kd.R_slice (HO.out.row 0 rfl); clear HF; have HF := HO.out.facts; simp only [OwnsM.Facts, and_true] at HF) | ((with_reducible refine gate_builtin (b := .append) (xs := #[.tmp 50, .tmp 52]) rfl ?_); at_builtin; refine ow_app HO rfl 1 rfl (.tmp 50) (.tmp 52) 24 rfl Try.underlying24 info5 rfl rfl (HO.out.rd 0 rfl) (LMc23.out) ?_; clear HO HF; intro v1 w1 HO; simp only [List.set_cons_zero, List.set_cons_succ] at HO; rw [← Ny141.out] at HO; replace HO := Aside0.mk (HO.out.keep1 1 rfl); obtain ⟨Ay141, cy141, rfl⟩ := Kd.R_slice (HO.out.row 0 rfl); have HF := HO.out.facts; simp only [OwnsM.Facts, and_true] at HF) | ((with_reducible refine gate_dst (N := 61) rfl ?_); refine ow_lit HO rfl (N := 61) rfl ([(a0_5) % 256, (a0_6) % 256, 0, 0] : List Int) [.int .u8 ((a0_5) % 256), .int .u8 ((a0_6) % 256), .int .u8 (0), .int .u8 (0)] ?hr ?hp (by simp) ?_; (case hr => first | (go_simp; done) | (go_simp; simp only [IntKind.wrap_u8]; done) | (go_simp; rfl)); (case hp => exact Reps.one (show (fun (x : Int) (cs : List Value) => cs = [Value.int .u8 x]) ((a0_5) % 256) [.int .u8 ((a0_5) % 256)] from rfl) (Reps.one (show (fun (x : Int) (cs : List Value) => cs = [Value.int .u8 x]) ((a0_6) % 256) [.int .u8 ((a0_6) % 256)] from rfl) (Reps.one (show (fun (x : Int) (cs : List Value) => cs = [Value.int .u8 x]) (0) [.int .u8 (0)] from rfl) (Reps.one (show (fun (x : Int) (cs : List Value) => cs = [Value.int .u8 x]) (0) [.int .u8 (0)] from rfl) (Reps.none _ _))))); clear HO HF; intro v1 w1 HO; rw [← Ny144.out] at HO; obtain ⟨Ay144, cy144, rfl⟩ := Kd.R_slice (HO.out.row 0 rfl); have HF := HO.out.facts; simp only [OwnsM.Facts, and_true] at HF) | ((with_reducible refine gate_builtin (b := .append) (xs := #[.tmp 54, .tmp 61]) rfl ?_); at_builtin; refine ow_app HO rfl 1 rfl (.tmp 54) (.tmp 61) 24 rfl Try.underlying24 info5 rfl rfl (HO.out.rd 0 rfl) (LMc24.out) ?_; clear HO HF; intro v1 w1 HO; simp only [List.set_cons_zero, List.set_cons_succ] at HO; rw [← Ny147.out] at HO; replace HO := Aside0.mk (HO.out.keep1 1 rfl); obtain ⟨Ay147, cy147, rfl⟩ := Kd.R_slice (HO.out.row 0 rfl); have HF := HO.out.facts; simp only [OwnsM.Facts, and_true] at HF))
                    have HO1_ := Aside0.mk HO.out.drew
                    clear HO HF
                    have HO := HO1_
                    clear HO1_
                    refine start_ (n := 10) (S := fun w' => w'.cell? ⟨gb121, 7, none⟩ = some (.int .u32 a0_7) ∧ w'.cell? ⟨gb121, 8, none⟩ = some (.int .u32 a0_8)) (ds := []) #[false, false, false, false, false, false, false, false, false, false] (by kernel_rfl) rfl rfl ⟨(HO.out.cell 0 7 rfl rfl), (HO.out.cell 0 8 rfl rfl)⟩ (fun hHeld => ?_); refine with_tabW castellanref4_Build.tab14 castellanref4_Build.bits14 (fun HT_ HW_ => ?_)
                    generalize w1.drew = w1 at HO hHeld ⊢
                    refine pure_ (i := 0) (N := some 63) (v := ?_) (a' := ?_) #[true, false, false, false, false, false, false, false, false, false] rfl rfl (any_of HT_.out (by kernel_rfl)) (fun _ _ _ h => h) (Or.inl ⟨by rfl, ?_⟩) ?_ ?_
                    rotate_left
                    ·intro w'
                     go_simp
                     with_reducible rfl
                    rotate_left
                    ·simp only [Act.put, List.setIfInBounds_toArray, List.set_cons_zero, List.set_cons_succ, i64_w, i32_w]
                     rfl
                    refine pure_ (i := 1) (N := some 64) (v := ?_) (a' := ?_) #[true, true, false, false, false, false, false, false, false, false] rfl rfl (any_of HT_.out (by kernel_rfl)) (fun _ _ _ h => h) (Or.inl ⟨by rfl, ?_⟩) ?_ ?_
                    rotate_left
                    ·intro w'
                     go_simp
                     with_reducible rfl
                    rotate_left
                    ·simp only [Act.put, List.setIfInBounds_toArray, List.set_cons_zero, List.set_cons_succ, i64_w, i32_w]
                     rfl
                    refine pure_ (i := 5) (N := some 68) (v := ?_) (a' := ?_) #[true, true, false, false, false, true, false, false, false, false] rfl rfl (any_of HT_.out (by kernel_rfl)) (fun _ _ _ h => h) (Or.inl ⟨by rfl, ?_⟩) ?_ ?_
                    rotate_left
                    ·intro w'
                     go_simp
                     with_reducible rfl
                    rotate_left
                    ·simp only [Act.put, List.setIfInBounds_toArray, List.set_cons_zero, List.set_cons_succ, i64_w, i32_w]
                     rfl
                    refine take_ (i := 2) (N := some 65) (v := ?_) (a' := ?_) #[true, true, true, false, false, true, false, false, false, false] rfl rfl (take_ofW HT_.out HW_.out (by kernel_rfl)) (fun _ _ _ h => h) (Or.inl ⟨by rfl, ?_⟩) hHeld ?_ ?_
                    rotate_left
                    ·rintro w' ⟨s0, s1⟩
                     go_simp
                     with_reducible rfl
                    rotate_left
                    ·simp only [Act.put, List.setIfInBounds_toArray, List.set_cons_zero, List.set_cons_succ, i64_w, i32_w]
                     rfl
                    refine take_ (i := 6) (N := some 69) (v := ?_) (a' := ?_) #[true, true, true, false, false, true, true, false, false, false] rfl rfl (take_ofW HT_.out HW_.out (by kernel_rfl)) (fun _ _ _ h => h) (Or.inl ⟨by rfl, ?_⟩) hHeld ?_ ?_
                    rotate_left
                    ·rintro w' ⟨s0, s1⟩
                     go_simp
                     with_reducible rfl
                    rotate_left
                    ·simp only [Act.put, List.setIfInBounds_toArray, List.set_cons_zero, List.set_cons_succ, i64_w, i32_w]
                     rfl
                    refine one_ (i := 3) (N := some 66) #[true, true, true, true, false, true, true, false, false, false] rfl rfl (one_of HT_.out (by kernel_rfl)) (by decide) (fun K hK => ?_)
                    refine goes_ Try.func44 (by kernel_rfl) rfl #[.int .u32 a0_7] (by rfl) rfl rfl (by (try simp only [List.map_toArray, List.map_cons, List.map_nil]); first | done | rfl | (simp only [List.length_drop, List.length_take]; rfl)) ?_
                    refine (castellanref1_Put32.calls a0_7 t150 _ A25.out).mono ?_
                    rintro e w1 ⟨v1, rfl, h1, hb⟩
                    refine ⟨_, rfl, ?_⟩
                    replace HO := Aside0.mk (HO.out.call1 hb h1)
                    obtain ⟨At150, ct150, rfl⟩ := Kd.R_slice (HO.out.row 0 rfl)
                    refine hK.out _ _ ⟨(HO.out.cell 0 7 rfl rfl), (HO.out.cell 0 8 rfl rfl)⟩ (fun hHeld => ?_)
                    clear hK K
                    refine norm_ (a' := ?_) ?_ ?_
                    rotate_left
                    ·show Act.put _ (some 66) _ = _
                     simp only [Act.put, List.setIfInBounds_toArray, List.set_cons_zero, List.set_cons_succ, i64_w, i32_w]
                     rfl
                    refine one_ (i := 4) (N := some 67) #[true, true, true, true, true, true, true, false, false, false] rfl rfl (one_of HT_.out (by kernel_rfl)) (by decide) (fun K hK => ?_)
                    refine ow_app_step HO (by rfl) 1 rfl (.tmp 63) (.tmp 66) 24 rfl Try.underlying24 info5 rfl rfl (HO.out.rd 0 rfl) (LMc26.out) (fun v1 w1 HO1_ => ?_)
                    clear HO
                    have HO := HO1_
                    clear HO1_
                    simp only [List.set_cons_zero, List.set_cons_succ] at HO
                    rw [← Ny153.out] at HO
                    obtain ⟨Ay153, cy153, rfl⟩ := Kd.R_slice (HO.out.row 1 rfl)
                    refine hK.out _ _ ⟨(HO.out.cell 0 7 rfl rfl), (HO.out.cell 0 8 rfl rfl)⟩ (fun hHeld => ?_)
                    clear hK K
                    refine norm_ (a' := ?_) ?_ ?_
                    rotate_left
                    ·show Act.put _ (some 67) _ = _
                     simp only [Act.put, List.setIfInBounds_toArray, List.set_cons_zero, List.set_cons_succ, i64_w, i32_w]
                     rfl
                    refine one_ (i := 7) (N := some 70) #[true, true, true, true, true, true, true, true, false, false] rfl rfl (one_of HT_.out (by kernel_rfl)) (by decide) (fun K hK => ?_)
                    refine goes_ Try.func44 (by kernel_rfl) rfl #[.int .u32 a0_8] (by rfl) rfl rfl (by (try simp only [List.map_toArray, List.map_cons, List.map_nil]); first | done | rfl | (simp only [List.length_drop, List.length_take]; rfl)) ?_
                    refine (castellanref1_Put32.calls a0_8 t156 _ A27.out).mono ?_
                    rintro e w1 ⟨v1, rfl, h1, hb⟩
                    refine ⟨_, rfl, ?_⟩
                    replace HO := Aside0.mk (HO.out.call1 hb h1)
                    obtain ⟨At156, ct156, rfl⟩ := Kd.R_slice (HO.out.row 0 rfl)
                    refine hK.out _ _ ⟨(HO.out.cell 0 7 rfl rfl), (HO.out.cell 0 8 rfl rfl)⟩ (fun hHeld => ?_)
                    clear hK K
                    refine norm_ (a' := ?_) ?_ ?_
                    rotate_left
                    ·show Act.put _ (some 70) _ = _
                     simp only [Act.put, List.setIfInBounds_toArray, List.set_cons_zero, List.set_cons_succ, i64_w, i32_w]
                     rfl
                    refine one_ (i := 8) (N := some 71) #[true, true, true, true, true, true, true, true, true, false] rfl rfl (one_of HT_.out (by kernel_rfl)) (by decide) (fun K hK => ?_)
                    refine ow_app_step HO (by rfl) 2 rfl (.tmp 67) (.tmp 70) 24 rfl Try.underlying24 info5 rfl rfl (HO.out.rd 0 rfl) (LMc28.out) (fun v1 w1 HO1_ => ?_)
                    clear HO
                    have HO := HO1_
                    clear HO1_
                    simp only [List.set_cons_zero, List.set_cons_succ] at HO
                    rw [← Ny159.out] at HO
                    obtain ⟨Ay159, cy159, rfl⟩ := Kd.R_slice (HO.out.row 2 rfl)
                    refine hK.out _ _ ⟨(HO.out.cell 0 7 rfl rfl), (HO.out.cell 0 8 rfl rfl)⟩ (fun hHeld => ?_)
                    clear hK K
                    refine norm_ (a' := ?_) ?_ ?_
                    rotate_left
                    ·show Act.put _ (some 71) _ = _
                     simp only [Act.put, List.setIfInBounds_toArray, List.set_cons_zero, List.set_cons_succ, i64_w, i32_w]
                     rfl
                    refine pure_ (i := 9) (N := some 6) (v := ?_) (a' := ?_) #[true, true, true, true, true, true, true, true, true, true] rfl rfl (any_of HT_.out (by kernel_rfl)) (fun _ _ _ h => h) (Or.inl ⟨by rfl, ?_⟩) ?_ ?_
                    rotate_left
                    ·intro w'
                     go_simp
                     with_reducible rfl
                    rotate_left
                    ·simp only [Act.put, List.setIfInBounds_toArray, List.set_cons_zero, List.set_cons_succ, i64_w, i32_w]
                     rfl
                    refine done_ (done_of HT_.out (by kernel_rfl)) ?_
                    replace HO := Aside0.mk (HO.out.keep1 2 rfl)
                    have HF := HO.out.facts; simp only [OwnsM.Facts, and_true] at HF
                    go_upto_region 17 with (first | ((with_reducible refine gate_builtin (b := .append) (xs := #[.tmp 72, .tmp 74]) rfl ?_); at_builtin; refine ow_app HO rfl 0 rfl (.tmp 72) (.tmp 74) 24 rfl Try.underlying24 info5 rfl rfl (HO.out.old HR0_9.out) (LMc29.out) ?_; clear HO HF; intro v1 w1 HO; simp only [List.set_cons_zero, List.set_cons_succ] at HO; rw [← Ny162.out] at HO; replace HO := Aside0.mk (HO.out.keep1 0 rfl); obtain ⟨Ay162, cy162, rfl⟩ := Kd.R_slice (HO.out.row 0 rfl); have HF := HO.out.facts; simp only [OwnsM.Facts, and_true] at HF) | ((with_reducible refine gate_callee (f := 45) rfl ?_); refine goesL_ (some 77) rfl rfl Try.func45 (by kernel_rfl) rfl #[.slice Ay162 y162.length cy162] rfl (by (try simp only [List.map_toArray, List.map_cons, List.map_nil]); first | done | rfl | (simp only [List.length_drop, List.length_take]; rfl)) ?_; refine (castellanref2_Of.calls kj14 _ _ y162 t165 _ (HO.out.rd 0 rfl) (HO.out.cap 0 rfl) A30.out).mono ?_; rintro e w1 ⟨rfl, hd⟩; refine ⟨_, rfl, ?_⟩; replace HO := Aside0.mk (HO.out.drawn hd); clear HF; have HF := HO.out.facts; simp only [OwnsM.Facts, and_true] at HF) | ((with_reducible refine gate_callee (f := 43) rfl ?_); refine goesL_ (some 78) rfl rfl Try.func43 (by kernel_rfl) rfl #[.int .i64 t165] rfl (by (try simp only [List.map_toArray, List.map_cons, List.map_nil]); first | done | rfl | (simp only [List.length_drop, List.length_take]; rfl)) ?_; refine (castellanref1_Put16.calls t165 t166 _ A31.out).mono ?_; rintro e w1 ⟨v1, rfl, h1, hb⟩; refine ⟨_, rfl, ?_⟩; replace HO := Aside0.mk (HO.out.call1 hb h1); obtain ⟨At166, ct166, rfl⟩ := Kd.R_slice (HO.out.row 0 rfl); clear HF; have HF := HO.out.facts; simp only [OwnsM.Facts, and_true] at HF))
                    have q0_ : 1 < t166.length := by have h_ := of_decide_eq_true (show decide (1 < t166.length) = true from by first | (with_reducible assumption) | assumption); exact h_
                    have q1_ : 11 < y162.length := by have h_ := of_decide_eq_true (show decide (11 < y162.length) = true from by first | (with_reducible assumption) | assumption); exact h_
                    obtain ⟨gs, cs_, es⟩ := HO.out.rowform 0 rfl (by omega)
                    cases es
                    obtain ⟨gt, ct_, et⟩ := HO.out.rowform 1 rfl (by omega)
                    cases et
                    have b0_ := HO.out.rowcell 1 rfl 10 (by omega)
                    have b1_ := HO.out.rowcell 1 rfl 11 (by omega)
                    have n0_ : (10 < y162.length) = True := eq_true (by omega)
                    have n1_ : (11 < y162.length) = True := eq_true (by omega)
                    have n2_ : (0 < t166.length) = True := eq_true (by omega)
                    have n3_ : (1 < t166.length) = True := eq_true (by omega)
                    have m0_ : (10 < (y162.length : Int)) = True := eq_true (by omega)
                    have m1_ : (11 < (y162.length : Int)) = True := eq_true (by omega)
                    have m2_ : (0 < (t166.length : Int)) = True := eq_true (by omega)
                    have m3_ : (1 < (t166.length : Int)) = True := eq_true (by omega)
                    clear b0_ b1_ HF
                    have HF : True := trivial
                    have HO1_ := Aside0.mk HO.out.drew
                    clear HO HF
                    have HO := HO1_
                    clear HO1_
                    refine start_ (n := 12) (S := fun w' => w'.cell? ⟨gs, 0, none⟩ = some (.int .u8 (rd t166 0)) ∧ w'.cell? ⟨gs, 1, none⟩ = some (.int .u8 (rd t166 1))) (ds := [9, 11]) #[false, false, false, false, false, false, false, false, false, false, false, false] (by kernel_rfl) rfl rfl ⟨(HO.out.rowcell 0 rfl 0 (by omega)).1, (HO.out.rowcell 0 rfl 1 (by omega)).1⟩ (fun hHeld => ?_); refine with_tabW castellanref4_Build.tab17 castellanref4_Build.bits17 (fun HT_ HW_ => ?_)
                    generalize w1.drew = w1 at HO hHeld ⊢
                    refine pure_ (i := 0) (N := some 79) (v := ?_) (a' := ?_) #[true, false, false, false, false, false, false, false, false, false, false, false] rfl rfl (any_of HT_.out (by kernel_rfl)) (fun _ _ _ h => h) (Or.inl ⟨by rfl, ?_⟩) ?_ ?_
                    rotate_left
                    ·intro w'
                     go_simp
                     with_reducible rfl
                    rotate_left
                    ·simp only [Act.put, List.setIfInBounds_toArray, List.set_cons_zero, List.set_cons_succ, i64_w, i32_w]
                     rfl
                    refine pure_ (i := 1) (N := some 80) (v := ?_) (a' := ?_) #[true, true, false, false, false, false, false, false, false, false, false, false] rfl rfl (any_of HT_.out (by kernel_rfl)) (fun _ _ _ h => h) (Or.inl ⟨by rfl, ?_⟩) ?_ ?_
                    rotate_left
                    ·intro w'
                     go_simp
                     with_reducible rfl
                    rotate_left
                    ·simp only [Act.put, List.setIfInBounds_toArray, List.set_cons_zero, List.set_cons_succ, i64_w, i32_w]
                     rfl
                    refine pure_ (i := 2) (N := some 81) (v := ?_) (a' := ?_) #[true, true, true, false, false, false, false, false, false, false, false, false] rfl rfl (any_of HT_.out (by kernel_rfl)) (fun _ _ _ h => h) (Or.inl ⟨by rfl, ?_⟩) ?_ ?_
                    rotate_left
                    ·intro w'
                     go_simp
                     with_reducible rfl
                    rotate_left
                    ·simp only [Act.put, List.setIfInBounds_toArray, List.set_cons_zero, List.set_cons_succ, i64_w, i32_w]
                     rfl
                    refine pure_ (i := 3) (N := some 82) (v := ?_) (a' := ?_) #[true, true, true, true, false, false, false, false, false, false, false, false] rfl rfl (any_of HT_.out (by kernel_rfl)) (fun _ _ _ h => h) (Or.inl ⟨by rfl, ?_⟩) ?_ ?_
                    rotate_left
                    ·intro w'
                     go_simp
                     with_reducible rfl
                    rotate_left
                    ·simp only [Act.put, List.setIfInBounds_toArray, List.set_cons_zero, List.set_cons_succ, i64_w, i32_w]
                     rfl
                    refine pure_ (i := 5) (N := some 84) (v := ?_) (a' := ?_) #[true, true, true, true, false, true, false, false, false, false, false, false] rfl rfl (any_of HT_.out (by kernel_rfl)) (fun _ _ _ h => h) (Or.inl ⟨by rfl, ?_⟩) ?_ ?_
                    rotate_left
                    ·intro w'
                     go_simp
                     with_reducible rfl
                    rotate_left
                    ·simp only [Act.put, List.setIfInBounds_toArray, List.set_cons_zero, List.set_cons_succ, i64_w, i32_w]
                     rfl
                    refine pure_ (i := 6) (N := some 85) (v := ?_) (a' := ?_) #[true, true, true, true, false, true, true, false, false, false, false, false] rfl rfl (any_of HT_.out (by kernel_rfl)) (fun _ _ _ h => h) (Or.inl ⟨by rfl, ?_⟩) ?_ ?_
                    rotate_left
                    ·intro w'
                     go_simp
                     with_reducible rfl
                    rotate_left
                    ·simp only [Act.put, List.setIfInBounds_toArray, List.set_cons_zero, List.set_cons_succ, i64_w, i32_w]
                     rfl
                    refine take_ (i := 4) (N := some 83) (v := ?_) (a' := ?_) #[true, true, true, true, true, true, true, false, false, false, false, false] rfl rfl (take_ofW HT_.out HW_.out (by kernel_rfl)) (fun _ _ _ h => h) (Or.inl ⟨by rfl, ?_⟩) hHeld ?_ ?_
                    rotate_left
                    ·rintro w' ⟨s0, s1⟩
                     go_simp
                     with_reducible rfl
                    rotate_left
                    ·simp only [Act.put, List.setIfInBounds_toArray, List.set_cons_zero, List.set_cons_succ, i64_w, i32_w]
                     rfl
                    refine take_ (i := 7) (N := some 86) (v := ?_) (a' := ?_) #[true, true, true, true, true, true, true, true, false, false, false, false] rfl rfl (take_ofW HT_.out HW_.out (by kernel_rfl)) (fun _ _ _ h => h) (Or.inl ⟨by rfl, ?_⟩) hHeld ?_ ?_
                    rotate_left
                    ·rintro w' ⟨s0, s1⟩
                     go_simp
                     with_reducible rfl
                    rotate_left
                    ·simp only [Act.put, List.setIfInBounds_toArray, List.set_cons_zero, List.set_cons_succ, i64_w, i32_w]
                     rfl
                    refine pure_ (i := 8) (N := some 87) (v := ?_) (a' := ?_) #[true, true, true, true, true, true, true, true, true, false, false, false] rfl rfl (any_of HT_.out (by kernel_rfl)) (fun _ _ _ h => h) (Or.inl ⟨by rfl, ?_⟩) ?_ ?_
                    rotate_left
                    ·intro w'
                     go_simp
                     with_reducible rfl
                    rotate_left
                    ·simp only [Act.put, List.setIfInBounds_toArray, List.set_cons_zero, List.set_cons_succ, i64_w, i32_w]
                     rfl
                    refine last_ (i := 9) (N := none) #[true, true, true, true, true, true, true, true, true, true, false, false] rfl rfl (one_of HT_.out (by kernel_rfl)) (by decide) (fun K hK => ?_)
                    have b0_ := HO.out.rowcell 1 rfl 10 (by omega)
                    refine ow_putb_step HO (by rfl) rfl 1 rfl 10 (rd t166 0) ?hr (fun w1 HO1_ => ?_); (case hr => first | (go_simp; done) | (go_simp; rfl))
                    clear b0_
                    clear HO
                    have HO := HO1_
                    clear HO1_
                    simp only [List.set_cons_zero, List.set_cons_succ] at HO
                    rw [show y162.set 10 (rd t166 0) = y171 from Ny171.out.symm] at HO
                    refine hK.out _ _ ?_
                    clear hK K
                    refine pure_ (i := 10) (N := some 88) (v := ?_) (a' := ?_) #[true, true, true, true, true, true, true, true, true, true, true, false] rfl rfl (any_of HT_.out (by kernel_rfl)) (fun _ _ _ h => h) (Or.inl ⟨by rfl, ?_⟩) ?_ ?_
                    rotate_left
                    ·intro w'
                     go_simp
                     with_reducible rfl
                    rotate_left
                    ·simp only [Act.put, List.setIfInBounds_toArray, List.set_cons_zero, List.set_cons_succ, i64_w, i32_w]
                     rfl
                    refine last_ (i := 11) (N := none) #[true, true, true, true, true, true, true, true, true, true, true, true] rfl rfl (one_of HT_.out (by kernel_rfl)) (by decide) (fun K hK => ?_)
                    have b0_ := HO.out.rowcell 1 rfl 11 (by rw [Ny171.out, List.length_set]; omega)
                    refine ow_putb_step HO (by rfl) rfl 1 rfl 11 (rd t166 1) ?hr (fun w1 HO1_ => ?_); (case hr => first | (go_simp; done) | (go_simp; rfl))
                    clear b0_
                    clear HO
                    have HO := HO1_
                    clear HO1_
                    simp only [List.set_cons_zero, List.set_cons_succ] at HO
                    rw [show y171.set 11 (rd t166 1) = y172 from Ny172.out.symm] at HO
                    refine hK.out _ _ ?_
                    clear hK K
                    refine done_ (done_of HT_.out (by kernel_rfl)) ?_
                    replace HO := Aside0.mk (HO.out.keep1 1 rfl)
                    have HF := HO.out.facts; simp only [OwnsM.Facts, and_true] at HF
                    go_wp2_with (first | ((with_reducible refine gate_builtin (b := .append) (xs := #[.tmp 89, .tmp 91]) rfl ?_); at_builtin; refine ow_app HO rfl 0 rfl (.tmp 89) (.tmp 91) 24 rfl Try.underlying24 info5 rfl rfl (HO.out.old HR0_10.out) (LMc38.out) ?_; clear HO HF; intro v1 w1 HO; simp only [List.set_cons_zero, List.set_cons_succ] at HO; rw [← Ny173.out] at HO; replace HO := Aside0.mk (HO.out.keep1 0 rfl); obtain ⟨Ay173, cy173, rfl⟩ := Kd.R_slice (HO.out.row 0 rfl); have HF := HO.out.facts; simp only [OwnsM.Facts, and_true] at HF))
                    go_ret2
                    exact ⟨_, by first | rfl | (simp; done) | (simp [*]; done), HO.out.row 0 rfl, HO.out.below⟩
                  ·rw [if_neg c38] at H
                   exact absurd H (by simp)
                 ·rw [if_neg c36] at H
                  exact absurd H (by simp)
                ·rw [if_neg c34] at H
                 exact absurd H (by simp)
               ·rw [if_neg c33] at H
                exact absurd H (by simp)
              ·rw [if_neg c32] at H
               exact absurd H (by simp)
             ·rw [if_neg c29] at H
              exact absurd H (by simp)
            ·rw [if_neg c28] at H
             exact absurd H (by simp)
           ·rw [if_neg c26] at H
            exact absurd H (by simp)
          ·rw [if_neg c24] at H
           exact absurd H (by simp)
         ·rw [if_neg c23] at H
          exact absurd H (by simp)
        ·rw [if_neg c21] at H
         exact absurd H (by simp)
       ·rw [if_neg c19] at H
        exact absurd H (by simp)
 ·replace c3 := Bool.eq_false_iff.mpr c3
  subst c3
  have H1 : (some (([] : List Int), 1)) = some (r1, r2) := by rw [if_neg (show ¬ (false = true) by decide)] at H; exact H
  clear H
  have H := H1
  clear H1
  simp only [Option.some.injEq, Prod.mk.injEq] at H
  obtain ⟨rfl, rfl⟩ := H
  go_enter Try.func26, Try.ntmps26
  go_wp2_with (first | ((with_reducible refine gate_dst (N := 1) rfl ?_); refine box_event ?hg (N := 1) ?hd (cs := #[.int .i64 a0_0, .int .i64 a0_1, .bool a0_2, .bool a0_3, .int .i64 a0_4, .int .i64 a0_5, .int .i64 a0_6, .int .u32 a0_7, .int .u32 a0_8, .slice A0_9 l0_9.length c0_9, .slice A0_10 l0_10.length c0_10]) (t := 26) ?hr ?_; (case hd => rfl); (case hg => rfl); (case hr => first | (go_simp; done) | (go_simp; rfl)); intro gb121 hg w76 hbox hb; have n0_ := Aside0.mk (below_step (by repeat (first | (with_reducible first | exact HB.out | apply below_alloc | apply pw_below_drewN | apply below_drew1) | exact HB.out)) hb); have n1_ := Aside0.mk (hbox); have n2_ := Aside0.mk ((by rw [hg]; exact (below_size (by repeat (first | (with_reducible first | exact HB.out | apply below_alloc | apply pw_below_drewN | apply below_drew1) | exact HB.out))) : w.heap.size ≤ gb121)); have n3_ := Aside0.mk ((by rw [hg]; exact (below_size (by repeat (first | (with_reducible first | exact HB.out | apply below_alloc | apply pw_below_drewN | apply below_drew1) | exact HB.out))) : w.heap.size ≤ gb121)); clear HB; have HB := n0_; have BK121 := n1_; have GW121 := n2_; have GE121 := n3_; clear n0_ n1_ n2_ n3_; clear hb hbox hg; have hcz77 := fun j => blk_cell BK121.out j; have hfz77 := fun j => blk_frozen BK121.out j) | ((with_reducible refine gate_callee (f := 25) rfl ?_); refine goesL_ (some 9) rfl rfl Try.func25 (by kernel_rfl) rfl #[.agg #[.int .i64 a0_0, .int .i64 a0_1, .bool a0_2, .bool a0_3, .int .i64 a0_4, .int .i64 a0_5, .int .i64 a0_6, .int .u32 a0_7, .int .u32 a0_8, .slice A0_9 l0_9.length c0_9, .slice A0_10 l0_10.length c0_10]] rfl (by (try simp only [List.map_toArray, List.map_cons, List.map_nil]); first | done | rfl | (simp only [List.length_drop, List.length_take]; rfl)) ?_; (with_reducible refine (castellanref4_Is.calls a0_0 a0_1 a0_2 a0_3 a0_4 a0_5 a0_6 a0_7 a0_8 _ _ l0_9 _ _ l0_10 false _ ?side1 ?side2 ?side3 ?side4 A2.out).mono ?_); (case side1 => repeat (first | exact (Kd.C_below HR0_9.out HB.out) | (with_reducible refine Kd.C_alloc ?_ _) | (with_reducible refine Kd.C_drewN ?_ _) | (with_reducible refine Kd.C_drew ?_))); (case side2 => exact HC0_9.out); (case side3 => repeat (first | exact (Kd.C_below HR0_10.out HB.out) | (with_reducible refine Kd.C_alloc ?_ _) | (with_reducible refine Kd.C_drewN ?_ _) | (with_reducible refine Kd.C_drew ?_))); (case side4 => exact HC0_10.out); rintro e w78 ⟨rfl, hb⟩; refine ⟨_, rfl, ?_⟩; have n0_ := Aside0.mk (blk_below (g := gb121) (o := .cells #[.int .i64 a0_0, .int .i64 a0_1, .bool a0_2, .bool a0_3, .int .i64 a0_4, .int .i64 a0_5, .int .i64 a0_6, .int .u32 a0_7, .int .u32 a0_8, .slice A0_9 l0_9.length c0_9, .slice A0_10 l0_10.length c0_10] 26 (0, 0)) (by (with_reducible repeat (first | refine blk_drewN ?_ _ | refine blk_drew ?_ | refine blk_alloc ?_ _)); exact BK121.out) hb); have n1_ := Aside0.mk (below_step (by repeat (first | (with_reducible first | exact HB.out | apply below_alloc | apply pw_below_drewN | apply below_drew1 | refine below_set ?_ GE121.out) | exact HB.out)) hb); clear BK121; clear HB; have BK121 := n0_; have HB := n1_; clear n0_ n1_; (try clear hb); (try clear hb2); (try clear hk); (try clear hi)))
  go_ret2
  exact ⟨_, by first | rfl | (simp [errW_none, errW_some] <;> rfl) | (simp [*, errW_none, errW_some] <;> rfl), by first | exact Kd.R_nil _ _ _ _ _ | exact Kd.N_nil _ _ _ _ _ | exact Kd.V_nil _ _ _ _ _ | exact Kd.Q_nil _ _ _ _ _ | exact Kd.S_nil _ _ _ _ _, by repeat (first | (with_reducible first | exact HB.out | apply below_alloc | apply pw_below_drewN | apply below_drew1 | refine below_set ?_ GE121.out) | exact HB.out)⟩

end Go.Proofs.Ytkdibloahkhgoaa.QReplyPackets
