-- written by myprint.py, a program of this session's over the kit's printer
import Derived.Test.YtkdibloahkhgoaaQPackPortsx0
import Derived.Test.YtkdibloahkhgoaaQPackPortsx2
namespace Go.Proofs.Ytkdibloahkhgoaa.QPackPorts
open Go.RowKit Go.Proofs.YtkdibloahkhgoaaW.PrintWords Go.Proofs.YtkdibloahkhgoaaW.PrintLast Go.Proofs.YtkdibloahkhgoaaW.PrintMore
attribute [local go_sem] max2_int min2_int max_two min_two max_three min_three max_four min_four   -- for this text's walks alone
set_option linter.unusedVariables false
set_option linter.unusedSimpArgs false

/-! ### castellanref4_Build: function 26 -/
mutual
def castellanref4_Build.j0 : Nat → Int → Int → Int → Int → Bool → Bool → Int → Int → Int → Int → Int → List Int → List Int → Option (List Int × Int)
  | 0, _, _, _, _, _, _, _, _, _, _, _, _, _ => none
  | k + 1, x4, x5, x119000, x119001, x119002, x119003, x119004, x119005, x119006, x119007, x119008, x119009, x119010 => if x119003 = true then (castellanref4_Build.j1 k x4 (Go.bits .or .i64 x5 8192) x119000 x119001 x119002 x119003 x119004 x119005 x119006 x119007 x119008 x119009 x119010) else (castellanref4_Build.j1 k x4 x5 x119000 x119001 x119002 x119003 x119004 x119005 x119006 x119007 x119008 x119009 x119010)
def castellanref4_Build.j1 : Nat → Int → Int → Int → Int → Bool → Bool → Int → Int → Int → Int → Int → List Int → List Int → Option (List Int × Int)
  | 0, _, _, _, _, _, _, _, _, _, _, _, _, _ => none
  | k + 1, x4, x5, x119000, x119001, x119002, x119003, x119004, x119005, x119006, x119007, x119008, x119009, x119010 => (some (([(wrap64 (64 + (wrap64 (Int.tdiv x4 4)))) % 256, (x119000) % 256] : List Int) : List Int)).bind fun y120 => ((castellanref1_Put16.f (wrap64 (x4 + (x119010.length : Int)))).bind fun t123 => (if y120.length + t123.length < 140737488355328 then ((some (y120 ++ t123 : List Int)).bind fun y126 => ((castellanref1_Put16.f x119001).bind fun t129 => (if y126.length + t129.length < 140737488355328 then ((some (y126 ++ t129 : List Int)).bind fun y132 => ((castellanref1_Put16.f x5).bind fun t135 => (if y132.length + t135.length < 140737488355328 then ((some (y132 ++ t135 : List Int)).bind fun y138 => ((some (([(x119005) % 256, (x119006) % 256, 0, 0] : List Int) : List Int)).bind fun y141 => (if y138.length + y141.length < 140737488355328 then ((some (y138 ++ y141 : List Int)).bind fun y144 => ((castellanref1_Put32.f x119007).bind fun t147 => (if y144.length + t147.length < 140737488355328 then ((some (y144 ++ t147 : List Int)).bind fun y150 => ((castellanref1_Put32.f x119008).bind fun t153 => (if y150.length + t153.length < 140737488355328 then ((some (y150 ++ t153 : List Int)).bind fun y156 => (if y156.length + x119009.length < 140737488355328 then ((some (y156 ++ x119009 : List Int)).bind fun y159 => ((castellanref2_Of.f k y159).bind fun t162 => ((castellanref1_Put16.f t162).bind fun t163 => (if 0 < (t163.length : Int) then (if 1 < (t163.length : Int) then (if 10 < (y159.length : Int) then (if 11 < (y159.length : Int) then ((some ((y159.set (10 : Int).toNat (rd t163 0)).set (11 : Int).toNat (rd t163 1) : List Int)).bind fun y169 => (if y169.length + x119010.length < 140737488355328 then (some ((y169 ++ x119010), 0)) else (none))) else (none)) else (none)) else (none)) else (none))))) else (none))) else (none)))) else (none)))) else (none)))) else (none)))) else (none)))) else (none)))
end
def castellanref4_Build.f (k : Nat) (a0_0 : Int) (a0_1 : Int) (a0_2 : Bool) (a0_3 : Bool) (a0_4 : Int) (a0_5 : Int) (a0_6 : Int) (a0_7 : Int) (a0_8 : Int) (l0_9 : List Int) (l0_10 : List Int) : Option (List Int × Int) := (castellanref4_Is.f a0_0 a0_1 a0_2 a0_3 a0_4 a0_5 a0_6 a0_7 a0_8 l0_9 l0_10).bind fun t119 => (if t119 = true then (if (wrap64 ((wrap64 (20 + (l0_9.length : Int))) + (l0_10.length : Int))) > 65535 then (some (([] : List Int), 5)) else (if a0_2 = true then (castellanref4_Build.j0 k (wrap64 (20 + (l0_9.length : Int))) (Go.bits .or .i64 a0_4 16384) a0_0 a0_1 a0_2 a0_3 a0_4 a0_5 a0_6 a0_7 a0_8 l0_9 l0_10) else (castellanref4_Build.j0 k (wrap64 (20 + (l0_9.length : Int))) a0_4 a0_0 a0_1 a0_2 a0_3 a0_4 a0_5 a0_6 a0_7 a0_8 l0_9 l0_10))) else (some (([] : List Int), 1)))
theorem castellanref4_Build.mono_l : ∀ k, (∀ y0 y1 y2 y3 y4 y5 y6 y7 y8 y9 y10 y11 y12, LeO (castellanref4_Build.j0 k y0 y1 y2 y3 y4 y5 y6 y7 y8 y9 y10 y11 y12) (castellanref4_Build.j0 (k + 1) y0 y1 y2 y3 y4 y5 y6 y7 y8 y9 y10 y11 y12)) ∧ (∀ y0 y1 y2 y3 y4 y5 y6 y7 y8 y9 y10 y11 y12, LeO (castellanref4_Build.j1 k y0 y1 y2 y3 y4 y5 y6 y7 y8 y9 y10 y11 y12) (castellanref4_Build.j1 (k + 1) y0 y1 y2 y3 y4 y5 y6 y7 y8 y9 y10 y11 y12))
  | 0 => ⟨fun _ _ _ _ _ _ _ _ _ _ _ _ _ r h => by simp [castellanref4_Build.j0] at h, fun _ _ _ _ _ _ _ _ _ _ _ _ _ r h => by simp [castellanref4_Build.j1] at h⟩
  | k + 1 => by
    obtain ⟨ih0, ih1⟩ := castellanref4_Build.mono_l k
    refine ⟨?_, ?_⟩
    · intro y0 y1 y2 y3 y4 y5 y6 y7 y8 y9 y10 y11 y12
      unfold castellanref4_Build.j0
      repeat' first
      | (with_reducible exact ih0 _ _ _ _ _ _ _ _ _ _ _ _ _)
      | (with_reducible exact ih1 _ _ _ _ _ _ _ _ _ _ _ _ _)
      | (with_reducible exact castellanref2_Of.mono _ _)
      | (with_reducible exact LeO.refl _)
      | (with_reducible exact LeO.none _)
      | (with_reducible refine LeO.ite ?_ ?_)
      | (with_reducible refine LeO.bind ?_ (fun _ => ?_))
      | exact ih0 _ _ _ _ _ _ _ _ _ _ _ _ _
      | exact ih1 _ _ _ _ _ _ _ _ _ _ _ _ _
      | exact castellanref2_Of.mono _ _
      | exact LeO.none _
      | refine LeO.ite ?_ ?_
      | refine LeO.bind ?_ (fun _ => ?_)
    · intro y0 y1 y2 y3 y4 y5 y6 y7 y8 y9 y10 y11 y12
      unfold castellanref4_Build.j1
      repeat' first
      | (with_reducible exact ih0 _ _ _ _ _ _ _ _ _ _ _ _ _)
      | (with_reducible exact ih1 _ _ _ _ _ _ _ _ _ _ _ _ _)
      | (with_reducible exact castellanref2_Of.mono _ _)
      | (with_reducible exact LeO.refl _)
      | (with_reducible exact LeO.none _)
      | (with_reducible refine LeO.ite ?_ ?_)
      | (with_reducible refine LeO.bind ?_ (fun _ => ?_))
      | exact ih0 _ _ _ _ _ _ _ _ _ _ _ _ _
      | exact ih1 _ _ _ _ _ _ _ _ _ _ _ _ _
      | exact castellanref2_Of.mono _ _
      | exact LeO.none _
      | refine LeO.ite ?_ ?_
      | refine LeO.bind ?_ (fun _ => ?_)
theorem castellanref4_Build.mono : ∀ a0 a1 a2 a3 a4 a5 a6 a7 a8 a9 a10 k, LeO (castellanref4_Build.f k a0 a1 a2 a3 a4 a5 a6 a7 a8 a9 a10) (castellanref4_Build.f (k + 1) a0 a1 a2 a3 a4 a5 a6 a7 a8 a9 a10) := by
  intro a0 a1 a2 a3 a4 a5 a6 a7 a8 a9 a10 k
  obtain ⟨ih0, ih1⟩ := castellanref4_Build.mono_l k
  unfold castellanref4_Build.f
  repeat' first
      | (with_reducible exact ih0 _ _ _ _ _ _ _ _ _ _ _ _ _)
      | (with_reducible exact ih1 _ _ _ _ _ _ _ _ _ _ _ _ _)
      | (with_reducible exact castellanref2_Of.mono _ _)
      | (with_reducible exact LeO.refl _)
      | (with_reducible exact LeO.none _)
      | (with_reducible refine LeO.ite ?_ ?_)
      | (with_reducible refine LeO.bind ?_ (fun _ => ?_))
      | exact ih0 _ _ _ _ _ _ _ _ _ _ _ _ _
      | exact ih1 _ _ _ _ _ _ _ _ _ _ _ _ _
      | exact castellanref2_Of.mono _ _
      | exact LeO.none _
      | refine LeO.ite ?_ ?_
      | refine LeO.bind ?_ (fun _ => ?_)
def castellanref4_Build.T11 : Bool × List (List Nat × List Nat) := (true, [([], []), ([0], [0]), ([1], [1]), ([2], [2]), ([], []), ([4], [4]), ([5], [5]), ([3, 6], [3, 6]), ([], []), ([], []), ([9], [9]), ([10], [10]), ([8, 11], [8, 11]), ([12], [12]), ([7, 13, 13], [7, 13]), ([14, 14, 0, 1, 2, 3, 4, 5, 6, 7, 8, 9, 10, 11, 12, 13, 14], [14])])
def castellanref4_Build.B11 : List Nat := [0, 1, 3, 7, 0, 16, 48, 127, 0, 0, 512, 1536, 3840, 7936, 16383, 32767]
theorem castellanref4_Build.tab11 : rtab .any (opsOf Try.f26 11) = castellanref4_Build.T11 := by kernel_rfl
theorem castellanref4_Build.bits11 : waitsOk castellanref4_Build.T11.2 castellanref4_Build.B11 = true := by kernel_rfl
def castellanref4_Build.T14 : Bool × List (List Nat × List Nat) := (true, [([], []), ([], []), ([1], [1]), ([2], [2]), ([0, 3, 3], [0, 3]), ([], []), ([5], [5]), ([6, 4], [6]), ([4, 7, 7], [4, 7]), ([8, 8, 0, 1, 2, 3, 4, 5, 6, 7, 8], [0, 8])])
def castellanref4_Build.B14 : List Nat := [0, 0, 2, 6, 15, 0, 32, 127, 255, 511]
theorem castellanref4_Build.tab14 : rtab .any (opsOf Try.f26 14) = castellanref4_Build.T14 := by kernel_rfl
theorem castellanref4_Build.bits14 : waitsOk castellanref4_Build.T14.2 castellanref4_Build.B14 = true := by kernel_rfl
def castellanref4_Build.T17 : Bool × List (List Nat × List Nat) := (true, [([], []), ([], []), ([], []), ([2], [2]), ([3], [3]), ([], []), ([5], [5]), ([6], [6]), ([0, 0, 2, 3, 4, 7], [0]), ([8, 4, 0, 2, 3, 4, 7], [4, 8]), ([1, 0, 1, 2, 3, 4, 5, 6, 7, 8, 9], [1]), ([10, 7, 9, 0, 1, 2, 3, 4, 5, 6, 7, 8, 9], [7, 10])])
def castellanref4_Build.B17 : List Nat := [0, 0, 0, 4, 12, 0, 32, 96, 253, 509, 1023, 2047]
theorem castellanref4_Build.tab17 : rtab .any (opsOf Try.f26 17) = castellanref4_Build.T17 := by kernel_rfl
theorem castellanref4_Build.bits17 : waitsOk castellanref4_Build.T17.2 castellanref4_Build.B17 = true := by kernel_rfl
set_option maxHeartbeats 8000000 in
set_option maxRecDepth 100000 in
theorem castellanref4_Build.calls (k : Nat) (a0_0 : Int) (a0_1 : Int) (a0_2 : Bool) (a0_3 : Bool) (a0_4 : Int) (a0_5 : Int) (a0_6 : Int) (a0_7 : Int) (a0_8 : Int) (A0_9 : Option Addr) (c0_9 : Nat) (l0_9 : List Int) (A0_10 : Option Addr) (c0_10 : Nat) (l0_10 : List Int) (r1 : List Int) (r2 : Int) (w : World) (hr0_9 : Kd.C (Kd.int .u8) w A0_9 l0_9.length l0_9) (hc0_9 : l0_9.length ≤ c0_9) (hr0_10 : Kd.C (Kd.int .u8) w A0_10 l0_10.length l0_10) (hc0_10 : l0_10.length ≤ c0_10) (h : castellanref4_Build.f k a0_0 a0_1 a0_2 a0_3 a0_4 a0_5 a0_6 a0_7 a0_8 l0_9 l0_10 = some (r1, r2)) :
    Calls Try.prog 26 #[.agg #[.int .i64 a0_0, .int .i64 a0_1, .bool a0_2, .bool a0_3, .int .i64 a0_4, .int .i64 a0_5, .int .i64 a0_6, .int .u32 a0_7, .int .u32 a0_8, .slice A0_9 l0_9.length c0_9, .slice A0_10 l0_10.length c0_10]] w fun e w' => ∃ v0_ : Value, e = .returned (.tuple #[v0_, .int .i64 r2]) ∧ Kd.R (Kd.int .u8) 5 w' w.heap.size (fun _ => True) v0_ r1 ∧ Below w.heap.size w w' := by
  have hu26 := Try.underlying26
  have HR0_9 := Aside0.mk hr0_9
  have HC0_9 := Aside0.mk hc0_9
  clear hr0_9 hc0_9
  have HR0_10 := Aside0.mk hr0_10
  have HC0_10 := Aside0.mk hc0_10
  clear hr0_10 hc0_10
  have HB := Aside0.mk (Below.refl w.heap.size w)
  have H : ((castellanref4_Is.f a0_0 a0_1 a0_2 a0_3 a0_4 a0_5 a0_6 a0_7 a0_8 l0_9 l0_10).bind fun t119 => (if t119 = true then (if (wrap64 ((wrap64 (20 + (l0_9.length : Int))) + (l0_10.length : Int))) > 65535 then (some (([] : List Int), 5)) else (if a0_2 = true then (castellanref4_Build.j0 k (wrap64 (20 + (l0_9.length : Int))) (Go.bits .or .i64 a0_4 16384) a0_0 a0_1 a0_2 a0_3 a0_4 a0_5 a0_6 a0_7 a0_8 l0_9 l0_10) else (castellanref4_Build.j0 k (wrap64 (20 + (l0_9.length : Int))) a0_4 a0_0 a0_1 a0_2 a0_3 a0_4 a0_5 a0_6 a0_7 a0_8 l0_9 l0_10))) else (some (([] : List Int), 1)))) = some (r1, r2) := h
  clear h
  replace H := Option.bind_eq_some_iff.mp H
  obtain ⟨t119, A20, H⟩ := H
  replace H : (if t119 = true then (if (wrap64 ((wrap64 (20 + (l0_9.length : Int))) + (l0_10.length : Int))) > 65535 then (some (([] : List Int), 5)) else (if a0_2 = true then (castellanref4_Build.j0 k (wrap64 (20 + (l0_9.length : Int))) (Go.bits .or .i64 a0_4 16384) a0_0 a0_1 a0_2 a0_3 a0_4 a0_5 a0_6 a0_7 a0_8 l0_9 l0_10) else (castellanref4_Build.j0 k (wrap64 (20 + (l0_9.length : Int))) a0_4 a0_0 a0_1 a0_2 a0_3 a0_4 a0_5 a0_6 a0_7 a0_8 l0_9 l0_10))) else (some (([] : List Int), 1))) = some (r1, r2) := H
  have A2 := Aside0.mk A20
  clear A20
  by_cases c3 : t119 = true
  · subst c3
    have H1 : (if (wrap64 ((wrap64 (20 + (l0_9.length : Int))) + (l0_10.length : Int))) > 65535 then (some (([] : List Int), 5)) else (if a0_2 = true then (castellanref4_Build.j0 k (wrap64 (20 + (l0_9.length : Int))) (Go.bits .or .i64 a0_4 16384) a0_0 a0_1 a0_2 a0_3 a0_4 a0_5 a0_6 a0_7 a0_8 l0_9 l0_10) else (castellanref4_Build.j0 k (wrap64 (20 + (l0_9.length : Int))) a0_4 a0_0 a0_1 a0_2 a0_3 a0_4 a0_5 a0_6 a0_7 a0_8 l0_9 l0_10))) = some (r1, r2) := by rw [if_pos rfl] at H; exact H
    clear H
    have H := H1
    clear H1
    by_cases c4 : (wrap64 ((wrap64 (20 + (l0_9.length : Int))) + (l0_10.length : Int))) > 65535
    · rw [if_pos c4] at H
      have c4b0 : decide (65535 < (wrap64 ((wrap64 (20 + (l0_9.length : Int))) + (l0_10.length : Int)))) = true := decide_eq_true c4
      clear c4
      simp only [Option.some.injEq, Prod.mk.injEq] at H
      obtain ⟨rfl, rfl⟩ := H
      go_enter Try.func26, Try.ntmps26
      go_wp2_with (first | ((with_reducible refine gate_dst (N := 1) rfl ?_); refine box_event ?hg (N := 1) ?hd (cs := #[.int .i64 a0_0, .int .i64 a0_1, .bool a0_2, .bool a0_3, .int .i64 a0_4, .int .i64 a0_5, .int .i64 a0_6, .int .u32 a0_7, .int .u32 a0_8, .slice A0_9 l0_9.length c0_9, .slice A0_10 l0_10.length c0_10]) (t := 26) ?hr ?_; (case hd => rfl); (case hg => rfl); (case hr => first | (go_simp; done) | (go_simp; rfl)); intro gb118 hg w5 hbox hb; have n0_ := Aside0.mk (below_step (by repeat (first | (with_reducible first | exact HB.out | apply below_alloc | apply pw_below_drewN | apply below_drew1) | exact HB.out)) hb); have n1_ := Aside0.mk (hbox); have n2_ := Aside0.mk ((by rw [hg]; exact (below_size (by repeat (first | (with_reducible first | exact HB.out | apply below_alloc | apply pw_below_drewN | apply below_drew1) | exact HB.out))) : w.heap.size ≤ gb118)); have n3_ := Aside0.mk ((by rw [hg]; exact (below_size (by repeat (first | (with_reducible first | exact HB.out | apply below_alloc | apply pw_below_drewN | apply below_drew1) | exact HB.out))) : w.heap.size ≤ gb118)); clear HB; have HB := n0_; have BK118 := n1_; have GW118 := n2_; have GE118 := n3_; clear n0_ n1_ n2_ n3_; clear hb hbox hg; have hcz6_0 : w5.cell? ⟨gb118, 0, none⟩ = some (.int .i64 a0_0) := (blk_cell BK118.out 0).trans rfl; have hcz6_1 : w5.cell? ⟨gb118, 1, none⟩ = some (.int .i64 a0_1) := (blk_cell BK118.out 1).trans rfl; have hcz6_2 : w5.cell? ⟨gb118, 2, none⟩ = some (.bool a0_2) := (blk_cell BK118.out 2).trans rfl; have hcz6_3 : w5.cell? ⟨gb118, 3, none⟩ = some (.bool a0_3) := (blk_cell BK118.out 3).trans rfl; have hcz6_4 : w5.cell? ⟨gb118, 4, none⟩ = some (.int .i64 a0_4) := (blk_cell BK118.out 4).trans rfl; have hcz6_5 : w5.cell? ⟨gb118, 5, none⟩ = some (.int .i64 a0_5) := (blk_cell BK118.out 5).trans rfl; have hcz6_6 : w5.cell? ⟨gb118, 6, none⟩ = some (.int .i64 a0_6) := (blk_cell BK118.out 6).trans rfl; have hcz6_7 : w5.cell? ⟨gb118, 7, none⟩ = some (.int .u32 a0_7) := (blk_cell BK118.out 7).trans rfl; have hcz6_8 : w5.cell? ⟨gb118, 8, none⟩ = some (.int .u32 a0_8) := (blk_cell BK118.out 8).trans rfl; have hcz6_9 : w5.cell? ⟨gb118, 9, none⟩ = some (.slice A0_9 l0_9.length c0_9) := (blk_cell BK118.out 9).trans rfl; have hcz6_10 : w5.cell? ⟨gb118, 10, none⟩ = some (.slice A0_10 l0_10.length c0_10) := (blk_cell BK118.out 10).trans rfl; have hfz6_0 := blk_frozen BK118.out 0; have hfz6_1 := blk_frozen BK118.out 1; have hfz6_2 := blk_frozen BK118.out 2; have hfz6_3 := blk_frozen BK118.out 3; have hfz6_4 := blk_frozen BK118.out 4; have hfz6_5 := blk_frozen BK118.out 5; have hfz6_6 := blk_frozen BK118.out 6; have hfz6_7 := blk_frozen BK118.out 7; have hfz6_8 := blk_frozen BK118.out 8; have hfz6_9 := blk_frozen BK118.out 9; have hfz6_10 := blk_frozen BK118.out 10) | ((with_reducible refine gate_callee (f := 25) rfl ?_); refine goesL_ (some 9) rfl rfl Try.func25 (by kernel_rfl) rfl #[.agg #[.int .i64 a0_0, .int .i64 a0_1, .bool a0_2, .bool a0_3, .int .i64 a0_4, .int .i64 a0_5, .int .i64 a0_6, .int .u32 a0_7, .int .u32 a0_8, .slice A0_9 l0_9.length c0_9, .slice A0_10 l0_10.length c0_10]] rfl (by (try simp only [List.map_toArray, List.map_cons, List.map_nil]); first | done | rfl | (simp only [List.length_drop, List.length_take]; rfl)) ?_; (with_reducible refine (castellanref4_Is.calls a0_0 a0_1 a0_2 a0_3 a0_4 a0_5 a0_6 a0_7 a0_8 _ _ l0_9 _ _ l0_10 true _ ?side1 ?side2 ?side3 ?side4 A2.out).mono ?_); (case side1 => repeat (first | exact (Kd.C_below HR0_9.out HB.out) | (with_reducible refine Kd.C_alloc ?_ _) | (with_reducible refine Kd.C_drewN ?_ _) | (with_reducible refine Kd.C_drew ?_))); (case side2 => exact HC0_9.out); (case side3 => repeat (first | exact (Kd.C_below HR0_10.out HB.out) | (with_reducible refine Kd.C_alloc ?_ _) | (with_reducible refine Kd.C_drewN ?_ _) | (with_reducible refine Kd.C_drew ?_))); (case side4 => exact HC0_10.out); rintro e w7 ⟨rfl, hb⟩; refine ⟨_, rfl, ?_⟩; have n0_ := Aside0.mk (blk_below (g := gb118) (o := .cells #[.int .i64 a0_0, .int .i64 a0_1, .bool a0_2, .bool a0_3, .int .i64 a0_4, .int .i64 a0_5, .int .i64 a0_6, .int .u32 a0_7, .int .u32 a0_8, .slice A0_9 l0_9.length c0_9, .slice A0_10 l0_10.length c0_10] 26 (0, 0)) (by (with_reducible repeat (first | refine blk_drewN ?_ _ | refine blk_drew ?_ | refine blk_alloc ?_ _)); exact BK118.out) hb); have n1_ := Aside0.mk (below_step (by repeat (first | (with_reducible first | exact HB.out | apply below_alloc | apply pw_below_drewN | apply below_drew1 | refine below_set ?_ GE118.out) | exact HB.out)) hb); clear BK118; clear HB; have BK118 := n0_; have HB := n1_; clear n0_ n1_; (try clear hb); (try clear hb2); (try clear hk); (try clear hi); have hcz8_0 : w7.cell? ⟨gb118, 0, none⟩ = some (.int .i64 a0_0) := (blk_cell BK118.out 0).trans rfl; have hcz8_1 : w7.cell? ⟨gb118, 1, none⟩ = some (.int .i64 a0_1) := (blk_cell BK118.out 1).trans rfl; have hcz8_2 : w7.cell? ⟨gb118, 2, none⟩ = some (.bool a0_2) := (blk_cell BK118.out 2).trans rfl; have hcz8_3 : w7.cell? ⟨gb118, 3, none⟩ = some (.bool a0_3) := (blk_cell BK118.out 3).trans rfl; have hcz8_4 : w7.cell? ⟨gb118, 4, none⟩ = some (.int .i64 a0_4) := (blk_cell BK118.out 4).trans rfl; have hcz8_5 : w7.cell? ⟨gb118, 5, none⟩ = some (.int .i64 a0_5) := (blk_cell BK118.out 5).trans rfl; have hcz8_6 : w7.cell? ⟨gb118, 6, none⟩ = some (.int .i64 a0_6) := (blk_cell BK118.out 6).trans rfl; have hcz8_7 : w7.cell? ⟨gb118, 7, none⟩ = some (.int .u32 a0_7) := (blk_cell BK118.out 7).trans rfl; have hcz8_8 : w7.cell? ⟨gb118, 8, none⟩ = some (.int .u32 a0_8) := (blk_cell BK118.out 8).trans rfl; have hcz8_9 : w7.cell? ⟨gb118, 9, none⟩ = some (.slice A0_9 l0_9.length c0_9) := (blk_cell BK118.out 9).trans rfl; have hcz8_10 : w7.cell? ⟨gb118, 10, none⟩ = some (.slice A0_10 l0_10.length c0_10) := (blk_cell BK118.out 10).trans rfl; have hfz8_0 := blk_frozen BK118.out 0; have hfz8_1 := blk_frozen BK118.out 1; have hfz8_2 := blk_frozen BK118.out 2; have hfz8_3 := blk_frozen BK118.out 3; have hfz8_4 := blk_frozen BK118.out 4; have hfz8_5 := blk_frozen BK118.out 5; have hfz8_6 := blk_frozen BK118.out 6; have hfz8_7 := blk_frozen BK118.out 7; have hfz8_8 := blk_frozen BK118.out 8; have hfz8_9 := blk_frozen BK118.out 9; have hfz8_10 := blk_frozen BK118.out 10))
      go_ret2
      exact ⟨_, by first | rfl | (simp [errW_none, errW_some] <;> rfl) | (simp [*, errW_none, errW_some] <;> rfl), by first | exact Kd.R_nil _ _ _ _ _ | exact Kd.N_nil _ _ _ _ _ | exact Kd.V_nil _ _ _ _ _ | exact Kd.Q_nil _ _ _ _ _ | exact Kd.S_nil _ _ _ _ _, by repeat (first | (with_reducible first | exact HB.out | apply below_alloc | apply pw_below_drewN | apply below_drew1 | refine below_set ?_ GE118.out) | exact HB.out)⟩
    · rw [if_neg c4] at H
      have c4b0 : decide (65535 < (wrap64 ((wrap64 (20 + (l0_9.length : Int))) + (l0_10.length : Int)))) = false := decide_eq_false c4
      clear c4
      have HC9 := Aside0.mk H
      clear H
      go_enter Try.func26, Try.ntmps26
      go_upto_if 24 with (first | ((with_reducible refine gate_dst (N := 1) rfl ?_); refine box_event ?hg (N := 1) ?hd (cs := #[.int .i64 a0_0, .int .i64 a0_1, .bool a0_2, .bool a0_3, .int .i64 a0_4, .int .i64 a0_5, .int .i64 a0_6, .int .u32 a0_7, .int .u32 a0_8, .slice A0_9 l0_9.length c0_9, .slice A0_10 l0_10.length c0_10]) (t := 26) ?hr ?_; (case hd => rfl); (case hg => rfl); (case hr => first | (go_simp; done) | (go_simp; rfl)); intro gb118 hg w10 hbox hb; have n0_ := Aside0.mk (below_step (by repeat (first | (with_reducible first | exact HB.out | apply below_alloc | apply pw_below_drewN | apply below_drew1) | exact HB.out)) hb); have n1_ := Aside0.mk (hbox); have n2_ := Aside0.mk ((by rw [hg]; exact (below_size (by repeat (first | (with_reducible first | exact HB.out | apply below_alloc | apply pw_below_drewN | apply below_drew1) | exact HB.out))) : w.heap.size ≤ gb118)); have n3_ := Aside0.mk ((by rw [hg]; exact (below_size (by repeat (first | (with_reducible first | exact HB.out | apply below_alloc | apply pw_below_drewN | apply below_drew1) | exact HB.out))) : w.heap.size ≤ gb118)); clear HB; have HB := n0_; have BK118 := n1_; have GW118 := n2_; have GE118 := n3_; clear n0_ n1_ n2_ n3_; clear hb hbox hg; have hcz11_0 : w10.cell? ⟨gb118, 0, none⟩ = some (.int .i64 a0_0) := (blk_cell BK118.out 0).trans rfl; have hcz11_1 : w10.cell? ⟨gb118, 1, none⟩ = some (.int .i64 a0_1) := (blk_cell BK118.out 1).trans rfl; have hcz11_2 : w10.cell? ⟨gb118, 2, none⟩ = some (.bool a0_2) := (blk_cell BK118.out 2).trans rfl; have hcz11_3 : w10.cell? ⟨gb118, 3, none⟩ = some (.bool a0_3) := (blk_cell BK118.out 3).trans rfl; have hcz11_4 : w10.cell? ⟨gb118, 4, none⟩ = some (.int .i64 a0_4) := (blk_cell BK118.out 4).trans rfl; have hcz11_5 : w10.cell? ⟨gb118, 5, none⟩ = some (.int .i64 a0_5) := (blk_cell BK118.out 5).trans rfl; have hcz11_6 : w10.cell? ⟨gb118, 6, none⟩ = some (.int .i64 a0_6) := (blk_cell BK118.out 6).trans rfl; have hcz11_7 : w10.cell? ⟨gb118, 7, none⟩ = some (.int .u32 a0_7) := (blk_cell BK118.out 7).trans rfl; have hcz11_8 : w10.cell? ⟨gb118, 8, none⟩ = some (.int .u32 a0_8) := (blk_cell BK118.out 8).trans rfl; have hcz11_9 : w10.cell? ⟨gb118, 9, none⟩ = some (.slice A0_9 l0_9.length c0_9) := (blk_cell BK118.out 9).trans rfl; have hcz11_10 : w10.cell? ⟨gb118, 10, none⟩ = some (.slice A0_10 l0_10.length c0_10) := (blk_cell BK118.out 10).trans rfl; have hfz11_0 := blk_frozen BK118.out 0; have hfz11_1 := blk_frozen BK118.out 1; have hfz11_2 := blk_frozen BK118.out 2; have hfz11_3 := blk_frozen BK118.out 3; have hfz11_4 := blk_frozen BK118.out 4; have hfz11_5 := blk_frozen BK118.out 5; have hfz11_6 := blk_frozen BK118.out 6; have hfz11_7 := blk_frozen BK118.out 7; have hfz11_8 := blk_frozen BK118.out 8; have hfz11_9 := blk_frozen BK118.out 9; have hfz11_10 := blk_frozen BK118.out 10) | ((with_reducible refine gate_callee (f := 25) rfl ?_); refine goesL_ (some 9) rfl rfl Try.func25 (by kernel_rfl) rfl #[.agg #[.int .i64 a0_0, .int .i64 a0_1, .bool a0_2, .bool a0_3, .int .i64 a0_4, .int .i64 a0_5, .int .i64 a0_6, .int .u32 a0_7, .int .u32 a0_8, .slice A0_9 l0_9.length c0_9, .slice A0_10 l0_10.length c0_10]] rfl (by (try simp only [List.map_toArray, List.map_cons, List.map_nil]); first | done | rfl | (simp only [List.length_drop, List.length_take]; rfl)) ?_; (with_reducible refine (castellanref4_Is.calls a0_0 a0_1 a0_2 a0_3 a0_4 a0_5 a0_6 a0_7 a0_8 _ _ l0_9 _ _ l0_10 true _ ?side1 ?side2 ?side3 ?side4 A2.out).mono ?_); (case side1 => repeat (first | exact (Kd.C_below HR0_9.out HB.out) | (with_reducible refine Kd.C_alloc ?_ _) | (with_reducible refine Kd.C_drewN ?_ _) | (with_reducible refine Kd.C_drew ?_))); (case side2 => exact HC0_9.out); (case side3 => repeat (first | exact (Kd.C_below HR0_10.out HB.out) | (with_reducible refine Kd.C_alloc ?_ _) | (with_reducible refine Kd.C_drewN ?_ _) | (with_reducible refine Kd.C_drew ?_))); (case side4 => exact HC0_10.out); rintro e w12 ⟨rfl, hb⟩; refine ⟨_, rfl, ?_⟩; have n0_ := Aside0.mk (blk_below (g := gb118) (o := .cells #[.int .i64 a0_0, .int .i64 a0_1, .bool a0_2, .bool a0_3, .int .i64 a0_4, .int .i64 a0_5, .int .i64 a0_6, .int .u32 a0_7, .int .u32 a0_8, .slice A0_9 l0_9.length c0_9, .slice A0_10 l0_10.length c0_10] 26 (0, 0)) (by (with_reducible repeat (first | refine blk_drewN ?_ _ | refine blk_drew ?_ | refine blk_alloc ?_ _)); exact BK118.out) hb); have n1_ := Aside0.mk (below_step (by repeat (first | (with_reducible first | exact HB.out | apply below_alloc | apply pw_below_drewN | apply below_drew1 | refine below_set ?_ GE118.out) | exact HB.out)) hb); clear BK118; clear HB; have BK118 := n0_; have HB := n1_; clear n0_ n1_; (try clear hb); (try clear hb2); (try clear hk); (try clear hi); have hcz13_0 : w12.cell? ⟨gb118, 0, none⟩ = some (.int .i64 a0_0) := (blk_cell BK118.out 0).trans rfl; have hcz13_1 : w12.cell? ⟨gb118, 1, none⟩ = some (.int .i64 a0_1) := (blk_cell BK118.out 1).trans rfl; have hcz13_2 : w12.cell? ⟨gb118, 2, none⟩ = some (.bool a0_2) := (blk_cell BK118.out 2).trans rfl; have hcz13_3 : w12.cell? ⟨gb118, 3, none⟩ = some (.bool a0_3) := (blk_cell BK118.out 3).trans rfl; have hcz13_4 : w12.cell? ⟨gb118, 4, none⟩ = some (.int .i64 a0_4) := (blk_cell BK118.out 4).trans rfl; have hcz13_5 : w12.cell? ⟨gb118, 5, none⟩ = some (.int .i64 a0_5) := (blk_cell BK118.out 5).trans rfl; have hcz13_6 : w12.cell? ⟨gb118, 6, none⟩ = some (.int .i64 a0_6) := (blk_cell BK118.out 6).trans rfl; have hcz13_7 : w12.cell? ⟨gb118, 7, none⟩ = some (.int .u32 a0_7) := (blk_cell BK118.out 7).trans rfl; have hcz13_8 : w12.cell? ⟨gb118, 8, none⟩ = some (.int .u32 a0_8) := (blk_cell BK118.out 8).trans rfl; have hcz13_9 : w12.cell? ⟨gb118, 9, none⟩ = some (.slice A0_9 l0_9.length c0_9) := (blk_cell BK118.out 9).trans rfl; have hcz13_10 : w12.cell? ⟨gb118, 10, none⟩ = some (.slice A0_10 l0_10.length c0_10) := (blk_cell BK118.out 10).trans rfl; have hfz13_0 := blk_frozen BK118.out 0; have hfz13_1 := blk_frozen BK118.out 1; have hfz13_2 := blk_frozen BK118.out 2; have hfz13_3 := blk_frozen BK118.out 3; have hfz13_4 := blk_frozen BK118.out 4; have hfz13_5 := blk_frozen BK118.out 5; have hfz13_6 := blk_frozen BK118.out 6; have hfz13_7 := blk_frozen BK118.out 7; have hfz13_8 := blk_frozen BK118.out 8; have hfz13_9 := blk_frozen BK118.out 9; have hfz13_10 := blk_frozen BK118.out 10))
      (try simp only [Act.put, List.setIfInBounds_toArray, List.set_cons_zero, List.set_cons_succ])
      go_cut [5] (fun v5 wc => ∃ (kq : Nat) (x5_8 : Int), v5 = .int .i64 x5_8 ∧ Aside0 (castellanref4_Build.j0 kq (wrap64 (20 + (l0_9.length : Int))) x5_8 a0_0 a0_1 a0_2 a0_3 a0_4 a0_5 a0_6 a0_7 a0_8 l0_9 l0_10 = some (r1, r2)) ∧ Aside0 (kq ≤ k) ∧ Aside0 (wc.heap[gb118]? = some (.cells #[.int .i64 a0_0, .int .i64 a0_1, .bool a0_2, .bool a0_3, .int .i64 a0_4, .int .i64 a0_5, .int .i64 a0_6, .int .u32 a0_7, .int .u32 a0_8, (.slice A0_9 l0_9.length c0_9), (.slice A0_10 l0_10.length c0_10)] 26 (0, 0))) ∧ Aside0 (Below w.heap.size w wc))
      case first =>
        have H := HC9.out
        clear HC9
        by_cases c14 : a0_2 = true
        · subst c14
          have H1 : (castellanref4_Build.j0 k (wrap64 (20 + (l0_9.length : Int))) (Go.bits .or .i64 a0_4 16384) a0_0 a0_1 true a0_3 a0_4 a0_5 a0_6 a0_7 a0_8 l0_9 l0_10) = some (r1, r2) := by rw [if_pos rfl] at H; exact H
          clear H
          have H := H1
          clear H1
          have H' := Aside0.mk H
          clear H
          go_wp2
          go_meet
          case rel => exact ⟨_, (Go.bits .or .i64 a0_4 16384), (by first | rfl | (simp; done) | (simp [*]; done)), H', ⟨by first | omega | exact Nat.le_refl _⟩, ⟨by (with_reducible repeat (first | refine blk_drewN ?_ _ | refine blk_drew ?_ | refine blk_alloc ?_ _)); exact BK118.out⟩, ⟨by repeat (first | (with_reducible first | exact HB.out | apply below_alloc | apply pw_below_drewN | apply below_drew1 | refine below_set ?_ GE118.out) | exact HB.out)⟩⟩
        · replace c14 := Bool.eq_false_iff.mpr c14
          subst c14
          have H1 : (castellanref4_Build.j0 k (wrap64 (20 + (l0_9.length : Int))) a0_4 a0_0 a0_1 false a0_3 a0_4 a0_5 a0_6 a0_7 a0_8 l0_9 l0_10) = some (r1, r2) := by rw [if_neg (show ¬ (false = true) by decide)] at H; exact H
          clear H
          have H := H1
          clear H1
          have H' := Aside0.mk H
          clear H
          go_wp2
          go_meet
          case rel => exact ⟨_, (a0_4), (by first | rfl | (simp; done) | (simp [*]; done)), H', ⟨by first | omega | exact Nat.le_refl _⟩, ⟨by (with_reducible repeat (first | refine blk_drewN ?_ _ | refine blk_drew ?_ | refine blk_alloc ?_ _)); exact BK118.out⟩, ⟨by repeat (first | (with_reducible first | exact HB.out | apply below_alloc | apply pw_below_drewN | apply below_drew1 | refine below_set ?_ GE118.out) | exact HB.out)⟩⟩
      case rest =>
        clear HC9
        try clear c1
        try clear c2
        try clear p2
        try clear c3
        try clear c4
        try clear c4b0
        try clear p6
        try clear c14
        try clear hcz11_0
        try clear hcz11_1
        try clear hcz11_10
        try clear hcz11_2
        try clear hcz11_3
        try clear hcz11_4
        try clear hcz11_5
        try clear hcz11_6
        try clear hcz11_7
        try clear hcz11_8
        try clear hcz11_9
        try clear hcz13_0
        try clear hcz13_1
        try clear hcz13_10
        try clear hcz13_2
        try clear hcz13_3
        try clear hcz13_4
        try clear hcz13_5
        try clear hcz13_6
        try clear hcz13_7
        try clear hcz13_8
        try clear hcz13_9
        try clear hcz6_0
        try clear hcz6_1
        try clear hcz6_10
        try clear hcz6_2
        try clear hcz6_3
        try clear hcz6_4
        try clear hcz6_5
        try clear hcz6_6
        try clear hcz6_7
        try clear hcz6_8
        try clear hcz6_9
        try clear hcz8_0
        try clear hcz8_1
        try clear hcz8_10
        try clear hcz8_2
        try clear hcz8_3
        try clear hcz8_4
        try clear hcz8_5
        try clear hcz8_6
        try clear hcz8_7
        try clear hcz8_8
        try clear hcz8_9
        try clear hfz11_0
        try clear hfz11_1
        try clear hfz11_10
        try clear hfz11_2
        try clear hfz11_3
        try clear hfz11_4
        try clear hfz11_5
        try clear hfz11_6
        try clear hfz11_7
        try clear hfz11_8
        try clear hfz11_9
        try clear hfz13_0
        try clear hfz13_1
        try clear hfz13_10
        try clear hfz13_2
        try clear hfz13_3
        try clear hfz13_4
        try clear hfz13_5
        try clear hfz13_6
        try clear hfz13_7
        try clear hfz13_8
        try clear hfz13_9
        try clear hfz6_0
        try clear hfz6_1
        try clear hfz6_10
        try clear hfz6_2
        try clear hfz6_3
        try clear hfz6_4
        try clear hfz6_5
        try clear hfz6_6
        try clear hfz6_7
        try clear hfz6_8
        try clear hfz6_9
        try clear hfz8_0
        try clear hfz8_1
        try clear hfz8_10
        try clear hfz8_2
        try clear hfz8_3
        try clear hfz8_4
        try clear hfz8_5
        try clear hfz8_6
        try clear hfz8_7
        try clear hfz8_8
        try clear hfz8_9
        obtain ⟨kq, x5_8, rfl, HA, HJ8, BK118, HB⟩ := hcut
        cases kq with
        | zero => exact absurd HA.out (by simp [castellanref4_Build.j0])
        | succ kj8 =>
          have H := HA.out
          clear HA
          simp only [castellanref4_Build.j0] at H
          have HC15 := Aside0.mk H
          clear H
          have hcz16_0 : wc.cell? ⟨gb118, 0, none⟩ = some (.int .i64 a0_0) := (blk_cell BK118.out 0).trans rfl
          have hcz16_1 : wc.cell? ⟨gb118, 1, none⟩ = some (.int .i64 a0_1) := (blk_cell BK118.out 1).trans rfl
          have hcz16_2 : wc.cell? ⟨gb118, 2, none⟩ = some (.bool a0_2) := (blk_cell BK118.out 2).trans rfl
          have hcz16_3 : wc.cell? ⟨gb118, 3, none⟩ = some (.bool a0_3) := (blk_cell BK118.out 3).trans rfl
          have hcz16_4 : wc.cell? ⟨gb118, 4, none⟩ = some (.int .i64 a0_4) := (blk_cell BK118.out 4).trans rfl
          have hcz16_5 : wc.cell? ⟨gb118, 5, none⟩ = some (.int .i64 a0_5) := (blk_cell BK118.out 5).trans rfl
          have hcz16_6 : wc.cell? ⟨gb118, 6, none⟩ = some (.int .i64 a0_6) := (blk_cell BK118.out 6).trans rfl
          have hcz16_7 : wc.cell? ⟨gb118, 7, none⟩ = some (.int .u32 a0_7) := (blk_cell BK118.out 7).trans rfl
          have hcz16_8 : wc.cell? ⟨gb118, 8, none⟩ = some (.int .u32 a0_8) := (blk_cell BK118.out 8).trans rfl
          have hcz16_9 : wc.cell? ⟨gb118, 9, none⟩ = some (.slice A0_9 l0_9.length c0_9) := (blk_cell BK118.out 9).trans rfl
          have hcz16_10 : wc.cell? ⟨gb118, 10, none⟩ = some (.slice A0_10 l0_10.length c0_10) := (blk_cell BK118.out 10).trans rfl
          have hfz16_0 := blk_frozen BK118.out 0
          have hfz16_1 := blk_frozen BK118.out 1
          have hfz16_2 := blk_frozen BK118.out 2
          have hfz16_3 := blk_frozen BK118.out 3
          have hfz16_4 := blk_frozen BK118.out 4
          have hfz16_5 := blk_frozen BK118.out 5
          have hfz16_6 := blk_frozen BK118.out 6
          have hfz16_7 := blk_frozen BK118.out 7
          have hfz16_8 := blk_frozen BK118.out 8
          have hfz16_9 := blk_frozen BK118.out 9
          have hfz16_10 := blk_frozen BK118.out 10
          go_upto_if 28 with (fail)
          go_cut [5] (fun v5 wc => ∃ (kq : Nat) (x5_14 : Int), v5 = .int .i64 x5_14 ∧ Aside0 (castellanref4_Build.j1 kq (wrap64 (20 + (l0_9.length : Int))) x5_14 a0_0 a0_1 a0_2 a0_3 a0_4 a0_5 a0_6 a0_7 a0_8 l0_9 l0_10 = some (r1, r2)) ∧ Aside0 (kq ≤ kj8) ∧ Aside0 (wc.heap[gb118]? = some (.cells #[.int .i64 a0_0, .int .i64 a0_1, .bool a0_2, .bool a0_3, .int .i64 a0_4, .int .i64 a0_5, .int .i64 a0_6, .int .u32 a0_7, .int .u32 a0_8, (.slice A0_9 l0_9.length c0_9), (.slice A0_10 l0_10.length c0_10)] 26 (0, 0))) ∧ Aside0 (Below w.heap.size w wc))
          case first =>
            have H := HC15.out
            clear HC15
            by_cases c17 : a0_3 = true
            · subst c17
              have H1 : (castellanref4_Build.j1 kj8 (wrap64 (20 + (l0_9.length : Int))) (Go.bits .or .i64 x5_8 8192) a0_0 a0_1 a0_2 true a0_4 a0_5 a0_6 a0_7 a0_8 l0_9 l0_10) = some (r1, r2) := by rw [if_pos rfl] at H; exact H
              clear H
              have H := H1
              clear H1
              have H' := Aside0.mk H
              clear H
              go_wp2
              go_meet
              case rel => exact ⟨_, (Go.bits .or .i64 x5_8 8192), (by first | rfl | (simp; done) | (simp [*]; done)), H', ⟨by have := HJ8.out; first | omega | exact Nat.le_refl _⟩, ⟨by (with_reducible repeat (first | refine blk_drewN ?_ _ | refine blk_drew ?_ | refine blk_alloc ?_ _)); exact BK118.out⟩, ⟨by repeat (first | (with_reducible first | exact HB.out | apply below_alloc | apply pw_below_drewN | apply below_drew1 | refine below_set ?_ GE118.out) | exact HB.out)⟩⟩
            · replace c17 := Bool.eq_false_iff.mpr c17
              subst c17
              have H1 : (castellanref4_Build.j1 kj8 (wrap64 (20 + (l0_9.length : Int))) x5_8 a0_0 a0_1 a0_2 false a0_4 a0_5 a0_6 a0_7 a0_8 l0_9 l0_10) = some (r1, r2) := by rw [if_neg (show ¬ (false = true) by decide)] at H; exact H
              clear H
              have H := H1
              clear H1
              have H' := Aside0.mk H
              clear H
              go_wp2
              go_meet
              case rel => exact ⟨_, (x5_8), (by first | rfl | (simp; done) | (simp [*]; done)), H', ⟨by have := HJ8.out; first | omega | exact Nat.le_refl _⟩, ⟨by (with_reducible repeat (first | refine blk_drewN ?_ _ | refine blk_drew ?_ | refine blk_alloc ?_ _)); exact BK118.out⟩, ⟨by repeat (first | (with_reducible first | exact HB.out | apply below_alloc | apply pw_below_drewN | apply below_drew1 | refine below_set ?_ GE118.out) | exact HB.out)⟩⟩
          case rest =>
            clear HC15
            try clear c1
            try clear c2
            try clear p2
            try clear c3
            try clear c4
            try clear c4b0
            try clear p6
            try clear c14
            try clear c17
            try clear hcz11_0
            try clear hcz11_1
            try clear hcz11_10
            try clear hcz11_2
            try clear hcz11_3
            try clear hcz11_4
            try clear hcz11_5
            try clear hcz11_6
            try clear hcz11_7
            try clear hcz11_8
            try clear hcz11_9
            try clear hcz13_0
            try clear hcz13_1
            try clear hcz13_10
            try clear hcz13_2
            try clear hcz13_3
            try clear hcz13_4
            try clear hcz13_5
            try clear hcz13_6
            try clear hcz13_7
            try clear hcz13_8
            try clear hcz13_9
            try clear hcz16_0
            try clear hcz16_1
            try clear hcz16_10
            try clear hcz16_2
            try clear hcz16_3
            try clear hcz16_4
            try clear hcz16_5
            try clear hcz16_6
            try clear hcz16_7
            try clear hcz16_8
            try clear hcz16_9
            try clear hcz6_0
            try clear hcz6_1
            try clear hcz6_10
            try clear hcz6_2
            try clear hcz6_3
            try clear hcz6_4
            try clear hcz6_5
            try clear hcz6_6
            try clear hcz6_7
            try clear hcz6_8
            try clear hcz6_9
            try clear hcz8_0
            try clear hcz8_1
            try clear hcz8_10
            try clear hcz8_2
            try clear hcz8_3
            try clear hcz8_4
            try clear hcz8_5
            try clear hcz8_6
            try clear hcz8_7
            try clear hcz8_8
            try clear hcz8_9
            try clear hfz11_0
            try clear hfz11_1
            try clear hfz11_10
            try clear hfz11_2
            try clear hfz11_3
            try clear hfz11_4
            try clear hfz11_5
            try clear hfz11_6
            try clear hfz11_7
            try clear hfz11_8
            try clear hfz11_9
            try clear hfz13_0
            try clear hfz13_1
            try clear hfz13_10
            try clear hfz13_2
            try clear hfz13_3
            try clear hfz13_4
            try clear hfz13_5
            try clear hfz13_6
            try clear hfz13_7
            try clear hfz13_8
            try clear hfz13_9
            try clear hfz16_0
            try clear hfz16_1
            try clear hfz16_10
            try clear hfz16_2
            try clear hfz16_3
            try clear hfz16_4
            try clear hfz16_5
            try clear hfz16_6
            try clear hfz16_7
            try clear hfz16_8
            try clear hfz16_9
            try clear hfz6_0
            try clear hfz6_1
            try clear hfz6_10
            try clear hfz6_2
            try clear hfz6_3
            try clear hfz6_4
            try clear hfz6_5
            try clear hfz6_6
            try clear hfz6_7
            try clear hfz6_8
            try clear hfz6_9
            try clear hfz8_0
            try clear hfz8_1
            try clear hfz8_10
            try clear hfz8_2
            try clear hfz8_3
            try clear hfz8_4
            try clear hfz8_5
            try clear hfz8_6
            try clear hfz8_7
            try clear hfz8_8
            try clear hfz8_9
            try clear p2
            try clear p6
            obtain ⟨kq, x5_14, rfl, HA, HJ14, BK118, HB⟩ := hcut
            cases kq with
            | zero => exact absurd HA.out (by simp [castellanref4_Build.j1])
            | succ kj14 =>
              have H := HA.out
              clear HA
              simp only [castellanref4_Build.j1] at H
              obtain ⟨y120, hy120⟩ : ∃ y_ : List Int, y_ = (([(wrap64 (64 + (wrap64 (Int.tdiv (wrap64 (20 + (l0_9.length : Int))) 4)))) % 256, (a0_0) % 256] : List Int)) := ⟨_, rfl⟩
              replace H : ((castellanref1_Put16.f (wrap64 ((wrap64 (20 + (l0_9.length : Int))) + (l0_10.length : Int)))).bind fun t123 => (if y120.length + t123.length < 140737488355328 then ((some (y120 ++ t123 : List Int)).bind fun y126 => ((castellanref1_Put16.f a0_1).bind fun t129 => (if y126.length + t129.length < 140737488355328 then ((some (y126 ++ t129 : List Int)).bind fun y132 => ((castellanref1_Put16.f x5_14).bind fun t135 => (if y132.length + t135.length < 140737488355328 then ((some (y132 ++ t135 : List Int)).bind fun y138 => ((some (([(a0_5) % 256, (a0_6) % 256, 0, 0] : List Int) : List Int)).bind fun y141 => (if y138.length + y141.length < 140737488355328 then ((some (y138 ++ y141 : List Int)).bind fun y144 => ((castellanref1_Put32.f a0_7).bind fun t147 => (if y144.length + t147.length < 140737488355328 then ((some (y144 ++ t147 : List Int)).bind fun y150 => ((castellanref1_Put32.f a0_8).bind fun t153 => (if y150.length + t153.length < 140737488355328 then ((some (y150 ++ t153 : List Int)).bind fun y156 => (if y156.length + l0_9.length < 140737488355328 then ((some (y156 ++ l0_9 : List Int)).bind fun y159 => ((castellanref2_Of.f kj14 y159).bind fun t162 => ((castellanref1_Put16.f t162).bind fun t163 => (if 0 < (t163.length : Int) then (if 1 < (t163.length : Int) then (if 10 < (y159.length : Int) then (if 11 < (y159.length : Int) then ((some ((y159.set (10 : Int).toNat (rd t163 0)).set (11 : Int).toNat (rd t163 1) : List Int)).bind fun y169 => (if y169.length + l0_10.length < 140737488355328 then (some ((y169 ++ l0_10), 0)) else (none))) else (none)) else (none)) else (none)) else (none))))) else (none))) else (none)))) else (none)))) else (none)))) else (none)))) else (none)))) else (none))) = some (r1, r2) := by first | (rw [hy120]; with_reducible exact H) | (have H2_ := (Option.bind_some _ _).symm.trans H; rw [hy120]; with_reducible exact H2_) | (have H2_ := (Option.bind_some _ _).symm.trans H; with_reducible exact H2_) | with_reducible exact H | (rw [hy120]; exact H) | exact H
              have Ny120 := Aside0.mk hy120
              clear hy120
              replace H := Option.bind_eq_some_iff.mp H
              obtain ⟨t123, A180, H⟩ := H
              replace H : (if y120.length + t123.length < 140737488355328 then ((some (y120 ++ t123 : List Int)).bind fun y126 => ((castellanref1_Put16.f a0_1).bind fun t129 => (if y126.length + t129.length < 140737488355328 then ((some (y126 ++ t129 : List Int)).bind fun y132 => ((castellanref1_Put16.f x5_14).bind fun t135 => (if y132.length + t135.length < 140737488355328 then ((some (y132 ++ t135 : List Int)).bind fun y138 => ((some (([(a0_5) % 256, (a0_6) % 256, 0, 0] : List Int) : List Int)).bind fun y141 => (if y138.length + y141.length < 140737488355328 then ((some (y138 ++ y141 : List Int)).bind fun y144 => ((castellanref1_Put32.f a0_7).bind fun t147 => (if y144.length + t147.length < 140737488355328 then ((some (y144 ++ t147 : List Int)).bind fun y150 => ((castellanref1_Put32.f a0_8).bind fun t153 => (if y150.length + t153.length < 140737488355328 then ((some (y150 ++ t153 : List Int)).bind fun y156 => (if y156.length + l0_9.length < 140737488355328 then ((some (y156 ++ l0_9 : List Int)).bind fun y159 => ((castellanref2_Of.f kj14 y159).bind fun t162 => ((castellanref1_Put16.f t162).bind fun t163 => (if 0 < (t163.length : Int) then (if 1 < (t163.length : Int) then (if 10 < (y159.length : Int) then (if 11 < (y159.length : Int) then ((some ((y159.set (10 : Int).toNat (rd t163 0)).set (11 : Int).toNat (rd t163 1) : List Int)).bind fun y169 => (if y169.length + l0_10.length < 140737488355328 then (some ((y169 ++ l0_10), 0)) else (none))) else (none)) else (none)) else (none)) else (none))))) else (none))) else (none)))) else (none)))) else (none)))) else (none)))) else (none)))) else (none)) = some (r1, r2) := H
              have A18 := Aside0.mk A180
              clear A180
              by_cases c19 : y120.length + t123.length < 140737488355328
              · rw [if_pos c19] at H
                have LMc19 := Aside0.mk c19
                clear c19
                obtain ⟨y126, hy126⟩ : ∃ y_ : List Int, y_ = (y120 ++ t123) := ⟨_, rfl⟩
                replace H : ((castellanref1_Put16.f a0_1).bind fun t129 => (if y126.length + t129.length < 140737488355328 then ((some (y126 ++ t129 : List Int)).bind fun y132 => ((castellanref1_Put16.f x5_14).bind fun t135 => (if y132.length + t135.length < 140737488355328 then ((some (y132 ++ t135 : List Int)).bind fun y138 => ((some (([(a0_5) % 256, (a0_6) % 256, 0, 0] : List Int) : List Int)).bind fun y141 => (if y138.length + y141.length < 140737488355328 then ((some (y138 ++ y141 : List Int)).bind fun y144 => ((castellanref1_Put32.f a0_7).bind fun t147 => (if y144.length + t147.length < 140737488355328 then ((some (y144 ++ t147 : List Int)).bind fun y150 => ((castellanref1_Put32.f a0_8).bind fun t153 => (if y150.length + t153.length < 140737488355328 then ((some (y150 ++ t153 : List Int)).bind fun y156 => (if y156.length + l0_9.length < 140737488355328 then ((some (y156 ++ l0_9 : List Int)).bind fun y159 => ((castellanref2_Of.f kj14 y159).bind fun t162 => ((castellanref1_Put16.f t162).bind fun t163 => (if 0 < (t163.length : Int) then (if 1 < (t163.length : Int) then (if 10 < (y159.length : Int) then (if 11 < (y159.length : Int) then ((some ((y159.set (10 : Int).toNat (rd t163 0)).set (11 : Int).toNat (rd t163 1) : List Int)).bind fun y169 => (if y169.length + l0_10.length < 140737488355328 then (some ((y169 ++ l0_10), 0)) else (none))) else (none)) else (none)) else (none)) else (none))))) else (none))) else (none)))) else (none)))) else (none)))) else (none)))) else (none))) = some (r1, r2) := by first | (rw [hy126]; with_reducible exact H) | (have H2_ := (Option.bind_some _ _).symm.trans H; rw [hy126]; with_reducible exact H2_) | (have H2_ := (Option.bind_some _ _).symm.trans H; with_reducible exact H2_) | with_reducible exact H | (rw [hy126]; exact H) | exact H
                have Ny126 := Aside0.mk hy126
                clear hy126
                replace H := Option.bind_eq_some_iff.mp H
                obtain ⟨t129, A200, H⟩ := H
                replace H : (if y126.length + t129.length < 140737488355328 then ((some (y126 ++ t129 : List Int)).bind fun y132 => ((castellanref1_Put16.f x5_14).bind fun t135 => (if y132.length + t135.length < 140737488355328 then ((some (y132 ++ t135 : List Int)).bind fun y138 => ((some (([(a0_5) % 256, (a0_6) % 256, 0, 0] : List Int) : List Int)).bind fun y141 => (if y138.length + y141.length < 140737488355328 then ((some (y138 ++ y141 : List Int)).bind fun y144 => ((castellanref1_Put32.f a0_7).bind fun t147 => (if y144.length + t147.length < 140737488355328 then ((some (y144 ++ t147 : List Int)).bind fun y150 => ((castellanref1_Put32.f a0_8).bind fun t153 => (if y150.length + t153.length < 140737488355328 then ((some (y150 ++ t153 : List Int)).bind fun y156 => (if y156.length + l0_9.length < 140737488355328 then ((some (y156 ++ l0_9 : List Int)).bind fun y159 => ((castellanref2_Of.f kj14 y159).bind fun t162 => ((castellanref1_Put16.f t162).bind fun t163 => (if 0 < (t163.length : Int) then (if 1 < (t163.length : Int) then (if 10 < (y159.length : Int) then (if 11 < (y159.length : Int) then ((some ((y159.set (10 : Int).toNat (rd t163 0)).set (11 : Int).toNat (rd t163 1) : List Int)).bind fun y169 => (if y169.length + l0_10.length < 140737488355328 then (some ((y169 ++ l0_10), 0)) else (none))) else (none)) else (none)) else (none)) else (none))))) else (none))) else (none)))) else (none)))) else (none)))) else (none)))) else (none)) = some (r1, r2) := H
                have A20 := Aside0.mk A200
                clear A200
                by_cases c21 : y126.length + t129.length < 140737488355328
                · rw [if_pos c21] at H
                  have LMc21 := Aside0.mk c21
                  clear c21
                  obtain ⟨y132, hy132⟩ : ∃ y_ : List Int, y_ = (y126 ++ t129) := ⟨_, rfl⟩
                  replace H : ((castellanref1_Put16.f x5_14).bind fun t135 => (if y132.length + t135.length < 140737488355328 then ((some (y132 ++ t135 : List Int)).bind fun y138 => ((some (([(a0_5) % 256, (a0_6) % 256, 0, 0] : List Int) : List Int)).bind fun y141 => (if y138.length + y141.length < 140737488355328 then ((some (y138 ++ y141 : List Int)).bind fun y144 => ((castellanref1_Put32.f a0_7).bind fun t147 => (if y144.length + t147.length < 140737488355328 then ((some (y144 ++ t147 : List Int)).bind fun y150 => ((castellanref1_Put32.f a0_8).bind fun t153 => (if y150.length + t153.length < 140737488355328 then ((some (y150 ++ t153 : List Int)).bind fun y156 => (if y156.length + l0_9.length < 140737488355328 then ((some (y156 ++ l0_9 : List Int)).bind fun y159 => ((castellanref2_Of.f kj14 y159).bind fun t162 => ((castellanref1_Put16.f t162).bind fun t163 => (if 0 < (t163.length : Int) then (if 1 < (t163.length : Int) then (if 10 < (y159.length : Int) then (if 11 < (y159.length : Int) then ((some ((y159.set (10 : Int).toNat (rd t163 0)).set (11 : Int).toNat (rd t163 1) : List Int)).bind fun y169 => (if y169.length + l0_10.length < 140737488355328 then (some ((y169 ++ l0_10), 0)) else (none))) else (none)) else (none)) else (none)) else (none))))) else (none))) else (none)))) else (none)))) else (none)))) else (none))) = some (r1, r2) := by first | (rw [hy132]; with_reducible exact H) | (have H2_ := (Option.bind_some _ _).symm.trans H; rw [hy132]; with_reducible exact H2_) | (have H2_ := (Option.bind_some _ _).symm.trans H; with_reducible exact H2_) | with_reducible exact H | (rw [hy132]; exact H) | exact H
                  have Ny132 := Aside0.mk hy132
                  clear hy132
                  replace H := Option.bind_eq_some_iff.mp H
                  obtain ⟨t135, A220, H⟩ := H
                  replace H : (if y132.length + t135.length < 140737488355328 then ((some (y132 ++ t135 : List Int)).bind fun y138 => ((some (([(a0_5) % 256, (a0_6) % 256, 0, 0] : List Int) : List Int)).bind fun y141 => (if y138.length + y141.length < 140737488355328 then ((some (y138 ++ y141 : List Int)).bind fun y144 => ((castellanref1_Put32.f a0_7).bind fun t147 => (if y144.length + t147.length < 140737488355328 then ((some (y144 ++ t147 : List Int)).bind fun y150 => ((castellanref1_Put32.f a0_8).bind fun t153 => (if y150.length + t153.length < 140737488355328 then ((some (y150 ++ t153 : List Int)).bind fun y156 => (if y156.length + l0_9.length < 140737488355328 then ((some (y156 ++ l0_9 : List Int)).bind fun y159 => ((castellanref2_Of.f kj14 y159).bind fun t162 => ((castellanref1_Put16.f t162).bind fun t163 => (if 0 < (t163.length : Int) then (if 1 < (t163.length : Int) then (if 10 < (y159.length : Int) then (if 11 < (y159.length : Int) then ((some ((y159.set (10 : Int).toNat (rd t163 0)).set (11 : Int).toNat (rd t163 1) : List Int)).bind fun y169 => (if y169.length + l0_10.length < 140737488355328 then (some ((y169 ++ l0_10), 0)) else (none))) else (none)) else (none)) else (none)) else (none))))) else (none))) else (none)))) else (none)))) else (none)))) else (none)) = some (r1, r2) := H
                  have A22 := Aside0.mk A220
                  clear A220
                  by_cases c23 : y132.length + t135.length < 140737488355328
                  · rw [if_pos c23] at H
                    have LMc23 := Aside0.mk c23
                    clear c23
                    obtain ⟨y138, hy138⟩ : ∃ y_ : List Int, y_ = (y132 ++ t135) := ⟨_, rfl⟩
                    replace H : ((some (([(a0_5) % 256, (a0_6) % 256, 0, 0] : List Int) : List Int)).bind fun y141 => (if y138.length + y141.length < 140737488355328 then ((some (y138 ++ y141 : List Int)).bind fun y144 => ((castellanref1_Put32.f a0_7).bind fun t147 => (if y144.length + t147.length < 140737488355328 then ((some (y144 ++ t147 : List Int)).bind fun y150 => ((castellanref1_Put32.f a0_8).bind fun t153 => (if y150.length + t153.length < 140737488355328 then ((some (y150 ++ t153 : List Int)).bind fun y156 => (if y156.length + l0_9.length < 140737488355328 then ((some (y156 ++ l0_9 : List Int)).bind fun y159 => ((castellanref2_Of.f kj14 y159).bind fun t162 => ((castellanref1_Put16.f t162).bind fun t163 => (if 0 < (t163.length : Int) then (if 1 < (t163.length : Int) then (if 10 < (y159.length : Int) then (if 11 < (y159.length : Int) then ((some ((y159.set (10 : Int).toNat (rd t163 0)).set (11 : Int).toNat (rd t163 1) : List Int)).bind fun y169 => (if y169.length + l0_10.length < 140737488355328 then (some ((y169 ++ l0_10), 0)) else (none))) else (none)) else (none)) else (none)) else (none))))) else (none))) else (none)))) else (none)))) else (none))) = some (r1, r2) := by first | (rw [hy138]; with_reducible exact H) | (have H2_ := (Option.bind_some _ _).symm.trans H; rw [hy138]; with_reducible exact H2_) | (have H2_ := (Option.bind_some _ _).symm.trans H; with_reducible exact H2_) | with_reducible exact H | (rw [hy138]; exact H) | exact H
                    have Ny138 := Aside0.mk hy138
                    clear hy138
                    obtain ⟨y141, hy141⟩ : ∃ y_ : List Int, y_ = (([(a0_5) % 256, (a0_6) % 256, 0, 0] : List Int)) := ⟨_, rfl⟩
                    replace H : (if y138.length + y141.length < 140737488355328 then ((some (y138 ++ y141 : List Int)).bind fun y144 => ((castellanref1_Put32.f a0_7).bind fun t147 => (if y144.length + t147.length < 140737488355328 then ((some (y144 ++ t147 : List Int)).bind fun y150 => ((castellanref1_Put32.f a0_8).bind fun t153 => (if y150.length + t153.length < 140737488355328 then ((some (y150 ++ t153 : List Int)).bind fun y156 => (if y156.length + l0_9.length < 140737488355328 then ((some (y156 ++ l0_9 : List Int)).bind fun y159 => ((castellanref2_Of.f kj14 y159).bind fun t162 => ((castellanref1_Put16.f t162).bind fun t163 => (if 0 < (t163.length : Int) then (if 1 < (t163.length : Int) then (if 10 < (y159.length : Int) then (if 11 < (y159.length : Int) then ((some ((y159.set (10 : Int).toNat (rd t163 0)).set (11 : Int).toNat (rd t163 1) : List Int)).bind fun y169 => (if y169.length + l0_10.length < 140737488355328 then (some ((y169 ++ l0_10), 0)) else (none))) else (none)) else (none)) else (none)) else (none))))) else (none))) else (none)))) else (none)))) else (none)) = some (r1, r2) := by first | (rw [hy141]; with_reducible exact H) | (have H2_ := (Option.bind_some _ _).symm.trans H; rw [hy141]; with_reducible exact H2_) | (have H2_ := (Option.bind_some _ _).symm.trans H; with_reducible exact H2_) | with_reducible exact H | (rw [hy141]; exact H) | exact H
                    have Ny141 := Aside0.mk hy141
                    clear hy141
                    by_cases c24 : y138.length + y141.length < 140737488355328
                    · rw [if_pos c24] at H
                      have LMc24 := Aside0.mk c24
                      clear c24
                      obtain ⟨y144, hy144⟩ : ∃ y_ : List Int, y_ = (y138 ++ y141) := ⟨_, rfl⟩
                      replace H : ((castellanref1_Put32.f a0_7).bind fun t147 => (if y144.length + t147.length < 140737488355328 then ((some (y144 ++ t147 : List Int)).bind fun y150 => ((castellanref1_Put32.f a0_8).bind fun t153 => (if y150.length + t153.length < 140737488355328 then ((some (y150 ++ t153 : List Int)).bind fun y156 => (if y156.length + l0_9.length < 140737488355328 then ((some (y156 ++ l0_9 : List Int)).bind fun y159 => ((castellanref2_Of.f kj14 y159).bind fun t162 => ((castellanref1_Put16.f t162).bind fun t163 => (if 0 < (t163.length : Int) then (if 1 < (t163.length : Int) then (if 10 < (y159.length : Int) then (if 11 < (y159.length : Int) then ((some ((y159.set (10 : Int).toNat (rd t163 0)).set (11 : Int).toNat (rd t163 1) : List Int)).bind fun y169 => (if y169.length + l0_10.length < 140737488355328 then (some ((y169 ++ l0_10), 0)) else (none))) else (none)) else (none)) else (none)) else (none))))) else (none))) else (none)))) else (none))) = some (r1, r2) := by first | (rw [hy144]; with_reducible exact H) | (have H2_ := (Option.bind_some _ _).symm.trans H; rw [hy144]; with_reducible exact H2_) | (have H2_ := (Option.bind_some _ _).symm.trans H; with_reducible exact H2_) | with_reducible exact H | (rw [hy144]; exact H) | exact H
                      have Ny144 := Aside0.mk hy144
                      clear hy144
                      replace H := Option.bind_eq_some_iff.mp H
                      obtain ⟨t147, A250, H⟩ := H
                      replace H : (if y144.length + t147.length < 140737488355328 then ((some (y144 ++ t147 : List Int)).bind fun y150 => ((castellanref1_Put32.f a0_8).bind fun t153 => (if y150.length + t153.length < 140737488355328 then ((some (y150 ++ t153 : List Int)).bind fun y156 => (if y156.length + l0_9.length < 140737488355328 then ((some (y156 ++ l0_9 : List Int)).bind fun y159 => ((castellanref2_Of.f kj14 y159).bind fun t162 => ((castellanref1_Put16.f t162).bind fun t163 => (if 0 < (t163.length : Int) then (if 1 < (t163.length : Int) then (if 10 < (y159.length : Int) then (if 11 < (y159.length : Int) then ((some ((y159.set (10 : Int).toNat (rd t163 0)).set (11 : Int).toNat (rd t163 1) : List Int)).bind fun y169 => (if y169.length + l0_10.length < 140737488355328 then (some ((y169 ++ l0_10), 0)) else (none))) else (none)) else (none)) else (none)) else (none))))) else (none))) else (none)))) else (none)) = some (r1, r2) := H
                      have A25 := Aside0.mk A250
                      clear A250
                      by_cases c26 : y144.length + t147.length < 140737488355328
                      · rw [if_pos c26] at H
                        have LMc26 := Aside0.mk c26
                        clear c26
                        obtain ⟨y150, hy150⟩ : ∃ y_ : List Int, y_ = (y144 ++ t147) := ⟨_, rfl⟩
                        replace H : ((castellanref1_Put32.f a0_8).bind fun t153 => (if y150.length + t153.length < 140737488355328 then ((some (y150 ++ t153 : List Int)).bind fun y156 => (if y156.length + l0_9.length < 140737488355328 then ((some (y156 ++ l0_9 : List Int)).bind fun y159 => ((castellanref2_Of.f kj14 y159).bind fun t162 => ((castellanref1_Put16.f t162).bind fun t163 => (if 0 < (t163.length : Int) then (if 1 < (t163.length : Int) then (if 10 < (y159.length : Int) then (if 11 < (y159.length : Int) then ((some ((y159.set (10 : Int).toNat (rd t163 0)).set (11 : Int).toNat (rd t163 1) : List Int)).bind fun y169 => (if y169.length + l0_10.length < 140737488355328 then (some ((y169 ++ l0_10), 0)) else (none))) else (none)) else (none)) else (none)) else (none))))) else (none))) else (none))) = some (r1, r2) := by first | (rw [hy150]; with_reducible exact H) | (have H2_ := (Option.bind_some _ _).symm.trans H; rw [hy150]; with_reducible exact H2_) | (have H2_ := (Option.bind_some _ _).symm.trans H; with_reducible exact H2_) | with_reducible exact H | (rw [hy150]; exact H) | exact H
                        have Ny150 := Aside0.mk hy150
                        clear hy150
                        replace H := Option.bind_eq_some_iff.mp H
                        obtain ⟨t153, A270, H⟩ := H
                        replace H : (if y150.length + t153.length < 140737488355328 then ((some (y150 ++ t153 : List Int)).bind fun y156 => (if y156.length + l0_9.length < 140737488355328 then ((some (y156 ++ l0_9 : List Int)).bind fun y159 => ((castellanref2_Of.f kj14 y159).bind fun t162 => ((castellanref1_Put16.f t162).bind fun t163 => (if 0 < (t163.length : Int) then (if 1 < (t163.length : Int) then (if 10 < (y159.length : Int) then (if 11 < (y159.length : Int) then ((some ((y159.set (10 : Int).toNat (rd t163 0)).set (11 : Int).toNat (rd t163 1) : List Int)).bind fun y169 => (if y169.length + l0_10.length < 140737488355328 then (some ((y169 ++ l0_10), 0)) else (none))) else (none)) else (none)) else (none)) else (none))))) else (none))) else (none)) = some (r1, r2) := H
                        have A27 := Aside0.mk A270
                        clear A270
                        by_cases c28 : y150.length + t153.length < 140737488355328
                        · rw [if_pos c28] at H
                          have LMc28 := Aside0.mk c28
                          clear c28
                          obtain ⟨y156, hy156⟩ : ∃ y_ : List Int, y_ = (y150 ++ t153) := ⟨_, rfl⟩
                          replace H : (if y156.length + l0_9.length < 140737488355328 then ((some (y156 ++ l0_9 : List Int)).bind fun y159 => ((castellanref2_Of.f kj14 y159).bind fun t162 => ((castellanref1_Put16.f t162).bind fun t163 => (if 0 < (t163.length : Int) then (if 1 < (t163.length : Int) then (if 10 < (y159.length : Int) then (if 11 < (y159.length : Int) then ((some ((y159.set (10 : Int).toNat (rd t163 0)).set (11 : Int).toNat (rd t163 1) : List Int)).bind fun y169 => (if y169.length + l0_10.length < 140737488355328 then (some ((y169 ++ l0_10), 0)) else (none))) else (none)) else (none)) else (none)) else (none))))) else (none)) = some (r1, r2) := by first | (rw [hy156]; with_reducible exact H) | (have H2_ := (Option.bind_some _ _).symm.trans H; rw [hy156]; with_reducible exact H2_) | (have H2_ := (Option.bind_some _ _).symm.trans H; with_reducible exact H2_) | with_reducible exact H | (rw [hy156]; exact H) | exact H
                          have Ny156 := Aside0.mk hy156
                          clear hy156
                          by_cases c29 : y156.length + l0_9.length < 140737488355328
                          · rw [if_pos c29] at H
                            have LMc29 := Aside0.mk c29
                            clear c29
                            obtain ⟨y159, hy159⟩ : ∃ y_ : List Int, y_ = (y156 ++ l0_9) := ⟨_, rfl⟩
                            replace H : ((castellanref2_Of.f kj14 y159).bind fun t162 => ((castellanref1_Put16.f t162).bind fun t163 => (if 0 < (t163.length : Int) then (if 1 < (t163.length : Int) then (if 10 < (y159.length : Int) then (if 11 < (y159.length : Int) then ((some ((y159.set (10 : Int).toNat (rd t163 0)).set (11 : Int).toNat (rd t163 1) : List Int)).bind fun y169 => (if y169.length + l0_10.length < 140737488355328 then (some ((y169 ++ l0_10), 0)) else (none))) else (none)) else (none)) else (none)) else (none)))) = some (r1, r2) := by first | (rw [hy159]; with_reducible exact H) | (have H2_ := (Option.bind_some _ _).symm.trans H; rw [hy159]; with_reducible exact H2_) | (have H2_ := (Option.bind_some _ _).symm.trans H; with_reducible exact H2_) | with_reducible exact H | (rw [hy159]; exact H) | exact H
                            have Ny159 := Aside0.mk hy159
                            clear hy159
                            replace H := Option.bind_eq_some_iff.mp H
                            obtain ⟨t162, A300, H⟩ := H
                            replace H : ((castellanref1_Put16.f t162).bind fun t163 => (if 0 < (t163.length : Int) then (if 1 < (t163.length : Int) then (if 10 < (y159.length : Int) then (if 11 < (y159.length : Int) then ((some ((y159.set (10 : Int).toNat (rd t163 0)).set (11 : Int).toNat (rd t163 1) : List Int)).bind fun y169 => (if y169.length + l0_10.length < 140737488355328 then (some ((y169 ++ l0_10), 0)) else (none))) else (none)) else (none)) else (none)) else (none))) = some (r1, r2) := H
                            have A30 := Aside0.mk A300
                            clear A300
                            replace H := Option.bind_eq_some_iff.mp H
                            obtain ⟨t163, A310, H⟩ := H
                            replace H : (if 0 < (t163.length : Int) then (if 1 < (t163.length : Int) then (if 10 < (y159.length : Int) then (if 11 < (y159.length : Int) then ((some ((y159.set (10 : Int).toNat (rd t163 0)).set (11 : Int).toNat (rd t163 1) : List Int)).bind fun y169 => (if y169.length + l0_10.length < 140737488355328 then (some ((y169 ++ l0_10), 0)) else (none))) else (none)) else (none)) else (none)) else (none)) = some (r1, r2) := H
                            have A31 := Aside0.mk A310
                            clear A310
                            by_cases c32 : 0 < (t163.length : Int)
                            · rw [if_pos c32] at H
                              have c32b0 : decide (0 < (t163.length : Int)) = true := decide_eq_true c32
                              have c32b1 : decide (0 < t163.length) = true := decide_eq_true (by omega)
                              clear c32
                              by_cases c33 : 1 < (t163.length : Int)
                              · rw [if_pos c33] at H
                                have c33b0 : decide (1 < (t163.length : Int)) = true := decide_eq_true c33
                                have c33b1 : decide (1 < t163.length) = true := decide_eq_true (by omega)
                                clear c33
                                by_cases c34 : 10 < (y159.length : Int)
                                · rw [if_pos c34] at H
                                  have c34b0 : decide (10 < (y159.length : Int)) = true := decide_eq_true c34
                                  have c34b1 : decide (10 < y159.length) = true := decide_eq_true (by omega)
                                  clear c34
                                  obtain ⟨y168, hy168⟩ : ∃ y_ : List Int, y_ = (y159.set (10 : Int).toNat (rd t163 0)) := ⟨_, rfl⟩
                                  replace H : (if 11 < (y159.length : Int) then ((some (y168.set (11 : Int).toNat (rd t163 1) : List Int)).bind fun y169 => (if y169.length + l0_10.length < 140737488355328 then (some ((y169 ++ l0_10), 0)) else (none))) else (none)) = some (r1, r2) := by first | (rw [hy168]; with_reducible exact H) | (have H2_ := (Option.bind_some _ _).symm.trans H; rw [hy168]; with_reducible exact H2_) | (have H2_ := (Option.bind_some _ _).symm.trans H; with_reducible exact H2_) | with_reducible exact H | (rw [hy168]; exact H) | exact H
                                  have Ny168 := Aside0.mk hy168
                                  clear hy168
                                  by_cases c36 : 11 < (y159.length : Int)
                                  · rw [if_pos c36] at H
                                    have c36b0 : decide (11 < (y159.length : Int)) = true := decide_eq_true c36
                                    have c36b1 : decide (11 < y159.length) = true := decide_eq_true (by omega)
                                    clear c36
                                    obtain ⟨y169, hy169⟩ : ∃ y_ : List Int, y_ = (y168.set (11 : Int).toNat (rd t163 1)) := ⟨_, rfl⟩
                                    replace H : (if y169.length + l0_10.length < 140737488355328 then (some ((y169 ++ l0_10), 0)) else (none)) = some (r1, r2) := by first | (rw [hy169]; with_reducible exact H) | (have H2_ := (Option.bind_some _ _).symm.trans H; rw [hy169]; with_reducible exact H2_) | (have H2_ := (Option.bind_some _ _).symm.trans H; with_reducible exact H2_) | with_reducible exact H | (rw [hy169]; exact H) | exact H
                                    have Ny169 := Aside0.mk hy169
                                    clear hy169
                                    by_cases c38 : y169.length + l0_10.length < 140737488355328
                                    · rw [if_pos c38] at H
                                      have LMc38 := Aside0.mk c38
                                      clear c38
                                      obtain ⟨y170, hy170⟩ : ∃ y_ : List Int, y_ = (y169 ++ l0_10) := ⟨_, rfl⟩
                                      replace H : (some (y170, 0)) = some (r1, r2) := by first | (rw [hy170]; with_reducible exact H) | (have H2_ := (Option.bind_some _ _).symm.trans H; rw [hy170]; with_reducible exact H2_) | (have H2_ := (Option.bind_some _ _).symm.trans H; with_reducible exact H2_) | with_reducible exact H | (rw [hy170]; exact H) | exact H
                                      have Ny170 := Aside0.mk hy170
                                      clear hy170
                                      simp only [Option.some.injEq, Prod.mk.injEq] at H
                                      obtain ⟨rfl, rfl⟩ := H
                                      have HO := Aside0.mk (Owns.one_own HB.out BK118.out GE118.out (by decide))
                                      clear HB BK118
                                      have HF := HO.out.facts; simp only [OwnsM.Facts, and_true] at HF
                                      go_upto_region 11 with (fail)
                                      go_cut [6] (fun v6 wx => ∃ v1 : Value, v6 = v1 ∧ Aside0 (Owns w wx [(gb118, #[.int .i64 a0_0, .int .i64 a0_1, .bool a0_2, .bool a0_3, .int .i64 a0_4, .int .i64 a0_5, .int .i64 a0_6, .int .u32 a0_7, .int .u32 a0_8, (.slice A0_9 l0_9.length c0_9), (.slice A0_10 l0_10.length c0_10)], 26)] [(v1, y126)]))
                                      case first =>
                                        have HO1_ := Aside0.mk HO.out.drew
                                        clear HO HF
                                        have HO := HO1_
                                        clear HO1_
                                        refine start_ (n := 16) (S := fun w' => w'.cell? ⟨gb118, 0, none⟩ = some (.int .i64 a0_0) ∧ w'.cell? ⟨gb118, 10, none⟩ = some ((.slice A0_10 l0_10.length c0_10))) (ds := []) #[false, false, false, false, false, false, false, false, false, false, false, false, false, false, false, false] (by kernel_rfl) rfl rfl ⟨(HO.out.cell 0 0 rfl rfl), (HO.out.cell 0 10 rfl rfl)⟩ (fun hHeld => ?_); refine with_tabW castellanref4_Build.tab11 castellanref4_Build.bits11 (fun HT_ HW_ => ?_)
                                        generalize wc.drew = w1 at HO hHeld ⊢
                                        refine pure_ (i := 0) (N := some 31) (v := ?_) (a' := ?_) #[true, false, false, false, false, false, false, false, false, false, false, false, false, false, false, false] rfl rfl (any_of HT_.out (by kernel_rfl)) (fun _ _ _ h => h) (Or.inl ⟨by rfl, ?_⟩) ?_ ?_
                                        rotate_left
                                        · intro w'
                                          go_simp
                                          with_reducible rfl
                                        rotate_left
                                        · simp only [Act.put, List.setIfInBounds_toArray, List.set_cons_zero, List.set_cons_succ, i64_w, i32_w]
                                          rfl
                                        refine pure_ (i := 1) (N := some 32) (v := ?_) (a' := ?_) #[true, true, false, false, false, false, false, false, false, false, false, false, false, false, false, false] rfl rfl (any_of HT_.out (by kernel_rfl)) (fun _ _ _ h => h) (Or.inl ⟨by rfl, ?_⟩) ?_ ?_
                                        rotate_left
                                        · intro w'
                                          go_simp
                                          with_reducible rfl
                                        rotate_left
                                        · simp only [Act.put, List.setIfInBounds_toArray, List.set_cons_zero, List.set_cons_succ, i64_w, i32_w]
                                          rfl
                                        refine pure_ (i := 2) (N := some 33) (v := ?_) (a' := ?_) #[true, true, true, false, false, false, false, false, false, false, false, false, false, false, false, false] rfl rfl (any_of HT_.out (by kernel_rfl)) (fun _ _ _ h => h) (Or.inl ⟨by rfl, ?_⟩) ?_ ?_
                                        rotate_left
                                        · intro w'
                                          go_simp
                                          with_reducible rfl
                                        rotate_left
                                        · simp only [Act.put, List.setIfInBounds_toArray, List.set_cons_zero, List.set_cons_succ, i64_w, i32_w]
                                          rfl
                                        refine pure_ (i := 3) (N := some 34) (v := ?_) (a' := ?_) #[true, true, true, true, false, false, false, false, false, false, false, false, false, false, false, false] rfl rfl (any_of HT_.out (by kernel_rfl)) (fun _ _ _ h => h) (Or.inl ⟨by rfl, ?_⟩) ?_ ?_
                                        rotate_left
                                        · intro w'
                                          go_simp
                                          with_reducible rfl
                                        rotate_left
                                        · simp only [Act.put, List.setIfInBounds_toArray, List.set_cons_zero, List.set_cons_succ, i64_w, i32_w]
                                          rfl
                                        refine pure_ (i := 4) (N := some 35) (v := ?_) (a' := ?_) #[true, true, true, true, true, false, false, false, false, false, false, false, false, false, false, false] rfl rfl (any_of HT_.out (by kernel_rfl)) (fun _ _ _ h => h) (Or.inl ⟨by rfl, ?_⟩) ?_ ?_
                                        rotate_left
                                        · intro w'
                                          go_simp
                                          with_reducible rfl
                                        rotate_left
                                        · simp only [Act.put, List.setIfInBounds_toArray, List.set_cons_zero, List.set_cons_succ, i64_w, i32_w]
                                          rfl
                                        refine pure_ (i := 8) (N := some 39) (v := ?_) (a' := ?_) #[true, true, true, true, true, false, false, false, true, false, false, false, false, false, false, false] rfl rfl (any_of HT_.out (by kernel_rfl)) (fun _ _ _ h => h) (Or.inl ⟨by rfl, ?_⟩) ?_ ?_
                                        rotate_left
                                        · intro w'
                                          go_simp
                                          with_reducible rfl
                                        rotate_left
                                        · simp only [Act.put, List.setIfInBounds_toArray, List.set_cons_zero, List.set_cons_succ, i64_w, i32_w]
                                          rfl
                                        refine pure_ (i := 9) (N := some 40) (v := ?_) (a' := ?_) #[true, true, true, true, true, false, false, false, true, true, false, false, false, false, false, false] rfl rfl (any_of HT_.out (by kernel_rfl)) (fun _ _ _ h => h) (Or.inl ⟨by rfl, ?_⟩) ?_ ?_
                                        rotate_left
                                        · intro w'
                                          go_simp
                                          with_reducible rfl
                                        rotate_left
                                        · simp only [Act.put, List.setIfInBounds_toArray, List.set_cons_zero, List.set_cons_succ, i64_w, i32_w]
                                          rfl
                                        refine take_ (i := 5) (N := some 36) (v := ?_) (a' := ?_) #[true, true, true, true, true, true, false, false, true, true, false, false, false, false, false, false] rfl rfl (take_ofW HT_.out HW_.out (by kernel_rfl)) (fun _ _ _ h => h) (Or.inl ⟨by rfl, ?_⟩) hHeld ?_ ?_
                                        rotate_left
                                        · rintro w' ⟨s0, s1⟩
                                          go_simp
                                          with_reducible rfl
                                        rotate_left
                                        · simp only [Act.put, List.setIfInBounds_toArray, List.set_cons_zero, List.set_cons_succ, i64_w, i32_w]
                                          rfl
                                        refine pure_ (i := 6) (N := some 37) (v := ?_) (a' := ?_) #[true, true, true, true, true, true, true, false, true, true, false, false, false, false, false, false] rfl rfl (any_of HT_.out (by kernel_rfl)) (fun _ _ _ h => h) (Or.inl ⟨by rfl, ?_⟩) ?_ ?_
                                        rotate_left
                                        · intro w'
                                          go_simp
                                          with_reducible rfl
                                        rotate_left
                                        · simp only [Act.put, List.setIfInBounds_toArray, List.set_cons_zero, List.set_cons_succ, i64_w, i32_w]
                                          rfl
                                        refine take_ (i := 10) (N := some 41) (v := ?_) (a' := ?_) #[true, true, true, true, true, true, true, false, true, true, true, false, false, false, false, false] rfl rfl (take_ofW HT_.out HW_.out (by kernel_rfl)) (fun _ _ _ h => h) (Or.inl ⟨by rfl, ?_⟩) hHeld ?_ ?_
                                        rotate_left
                                        · rintro w' ⟨s0, s1⟩
                                          go_simp
                                          with_reducible rfl
                                        rotate_left
                                        · simp only [Act.put, List.setIfInBounds_toArray, List.set_cons_zero, List.set_cons_succ, i64_w, i32_w]
                                          rfl
                                        refine pure_ (i := 11) (N := some 42) (v := ?_) (a' := ?_) #[true, true, true, true, true, true, true, false, true, true, true, true, false, false, false, false] rfl rfl (any_of HT_.out (by kernel_rfl)) (fun _ _ _ h => h) (Or.inl ⟨by rfl, ?_⟩) ?_ ?_
                                        rotate_left
                                        · intro w'
                                          go_simp
                                          with_reducible rfl
                                        rotate_left
                                        · simp only [Act.put, List.setIfInBounds_toArray, List.set_cons_zero, List.set_cons_succ, i64_w, i32_w]
                                          rfl
                                        refine pure_ (i := 12) (N := some 43) (v := ?_) (a' := ?_) #[true, true, true, true, true, true, true, false, true, true, true, true, true, false, false, false] rfl rfl (any_of HT_.out (by kernel_rfl)) (fun _ _ _ h => h) (Or.inl ⟨by rfl, ?_⟩) ?_ ?_
                                        rotate_left
                                        · intro w'
                                          go_simp
                                          with_reducible rfl
                                        rotate_left
                                        · simp only [Act.put, List.setIfInBounds_toArray, List.set_cons_zero, List.set_cons_succ, i64_w, i32_w]
                                          rfl
                                        refine two_ (i := 7) (j := 13) (Ni := some 38) (Nj := some 44) #[true, true, true, true, true, true, true, true, true, true, true, true, true, false, false, false] #[true, true, true, true, true, true, true, false, true, true, true, true, true, true, false, false] rfl rfl rfl rfl (two_of HT_.out (by kernel_rfl)) (by decide) (by decide) (fun K hK => ?_) (fun K hK => ?_)
                                        · skip
                                          refine ow_lit_step HO (by rfl) (N := 38) rfl ([(wrap64 (64 + (wrap64 (Int.tdiv (wrap64 (20 + (l0_9.length : Int))) 4)))) % 256, (a0_0) % 256] : List Int) [.int .u8 ((wrap64 (64 + (wrap64 (Int.tdiv (wrap64 (20 + (l0_9.length : Int))) 4)))) % 256), .int .u8 ((a0_0) % 256)] ?hr ?hp (by simp) (fun v1 w1 HO1_ => ?_); (case hr => first | (go_simp; done) | (go_simp; simp only [IntKind.wrap_u8]; done) | (go_simp; rfl)); (case hp => exact Reps.one (show (fun (x : Int) (cs : List Value) => cs = [Value.int .u8 x]) ((wrap64 (64 + (wrap64 (Int.tdiv (wrap64 (20 + (l0_9.length : Int))) 4)))) % 256) [.int .u8 ((wrap64 (64 + (wrap64 (Int.tdiv (wrap64 (20 + (l0_9.length : Int))) 4)))) % 256)] from rfl) (Reps.one (show (fun (x : Int) (cs : List Value) => cs = [Value.int .u8 x]) ((a0_0) % 256) [.int .u8 ((a0_0) % 256)] from rfl) (Reps.none _ _)))
                                          clear HO
                                          have HO := HO1_
                                          clear HO1_
                                          rw [← Ny120.out] at HO
                                          obtain ⟨Ay120, cy120, rfl⟩ := Kd.R_slice (HO.out.row 0 rfl)
                                          refine hK.out _ _ ⟨(HO.out.cell 0 0 rfl rfl), (HO.out.cell 0 10 rfl rfl)⟩ (fun hHeld => ?_)
                                          clear hK K
                                          refine norm_ (a' := ?_) ?_ ?_
                                          rotate_left
                                          · show Act.put _ (some 38) _ = _
                                            simp only [Act.put, List.setIfInBounds_toArray, List.set_cons_zero, List.set_cons_succ, i64_w, i32_w]
                                            rfl
                                          refine one_ (i := 13) (N := some 44) #[true, true, true, true, true, true, true, true, true, true, true, true, true, true, false, false] rfl rfl (one_of HT_.out (by kernel_rfl)) (by decide) (fun K hK => ?_)
                                          refine goes_ Try.func43 (by kernel_rfl) rfl #[.int .i64 (wrap64 ((wrap64 (20 + (l0_9.length : Int))) + (l0_10.length : Int)))] (by rfl) rfl rfl (by (try simp only [List.map_toArray, List.map_cons, List.map_nil]); first | done | rfl | (simp only [List.length_drop, List.length_take]; rfl)) ?_
                                          refine (castellanref1_Put16.calls (wrap64 ((wrap64 (20 + (l0_9.length : Int))) + (l0_10.length : Int))) t123 _ A18.out).mono ?_
                                          rintro e w1 ⟨v1, rfl, h1, hb⟩
                                          refine ⟨_, rfl, ?_⟩
                                          replace HO := Aside0.mk (HO.out.call1 hb h1)
                                          obtain ⟨At123, ct123, rfl⟩ := Kd.R_slice (HO.out.row 0 rfl)
                                          refine hK.out _ _ ⟨(HO.out.cell 0 0 rfl rfl), (HO.out.cell 0 10 rfl rfl)⟩ (fun hHeld => ?_)
                                          clear hK K
                                          refine norm_ (a' := ?_) ?_ ?_
                                          rotate_left
                                          · show Act.put _ (some 44) _ = _
                                            simp only [Act.put, List.setIfInBounds_toArray, List.set_cons_zero, List.set_cons_succ, i64_w, i32_w]
                                            rfl
                                          refine one_ (i := 14) (N := some 45) #[true, true, true, true, true, true, true, true, true, true, true, true, true, true, true, false] rfl rfl (one_of HT_.out (by kernel_rfl)) (by decide) (fun K hK => ?_)
                                          refine ow_app_step HO (by rfl) 1 rfl (.tmp 38) (.tmp 44) 24 rfl Try.underlying24 info5 rfl rfl (HO.out.rd 0 rfl) (LMc19.out) (fun v1 w1 HO1_ => ?_)
                                          clear HO
                                          have HO := HO1_
                                          clear HO1_
                                          simp only [List.set_cons_zero, List.set_cons_succ] at HO
                                          rw [← Ny126.out] at HO
                                          obtain ⟨Ay126, cy126, rfl⟩ := Kd.R_slice (HO.out.row 1 rfl)
                                          refine hK.out _ _ ⟨(HO.out.cell 0 0 rfl rfl), (HO.out.cell 0 10 rfl rfl)⟩ (fun hHeld => ?_)
                                          clear hK K
                                          refine norm_ (a' := ?_) ?_ ?_
                                          rotate_left
                                          · show Act.put _ (some 45) _ = _
                                            simp only [Act.put, List.setIfInBounds_toArray, List.set_cons_zero, List.set_cons_succ, i64_w, i32_w]
                                            rfl
                                          refine pure_ (i := 15) (N := some 6) (v := ?_) (a' := ?_) #[true, true, true, true, true, true, true, true, true, true, true, true, true, true, true, true] rfl rfl (any_of HT_.out (by kernel_rfl)) (fun _ _ _ h => h) (Or.inl ⟨by rfl, ?_⟩) ?_ ?_
                                          rotate_left
                                          · intro w'
                                            go_simp
                                            with_reducible rfl
                                          rotate_left
                                          · simp only [Act.put, List.setIfInBounds_toArray, List.set_cons_zero, List.set_cons_succ, i64_w, i32_w]
                                            rfl
                                          refine done_ (done_of HT_.out (by kernel_rfl)) ?_
                                          go_wp2
                                          go_meet
                                          case rel => exact ⟨_, rfl, ⟨HO.out.keep1 1 rfl⟩⟩
                                        · skip
                                          refine goes_ Try.func43 (by kernel_rfl) rfl #[.int .i64 (wrap64 ((wrap64 (20 + (l0_9.length : Int))) + (l0_10.length : Int)))] (by rfl) rfl rfl (by (try simp only [List.map_toArray, List.map_cons, List.map_nil]); first | done | rfl | (simp only [List.length_drop, List.length_take]; rfl)) ?_
                                          refine (castellanref1_Put16.calls (wrap64 ((wrap64 (20 + (l0_9.length : Int))) + (l0_10.length : Int))) t123 _ A18.out).mono ?_
                                          rintro e w1 ⟨v1, rfl, h1, hb⟩
                                          refine ⟨_, rfl, ?_⟩
                                          replace HO := Aside0.mk (HO.out.call1 hb h1)
                                          obtain ⟨At123, ct123, rfl⟩ := Kd.R_slice (HO.out.row 0 rfl)
                                          refine hK.out _ _ ⟨(HO.out.cell 0 0 rfl rfl), (HO.out.cell 0 10 rfl rfl)⟩ (fun hHeld => ?_)
                                          clear hK K
                                          refine norm_ (a' := ?_) ?_ ?_
                                          rotate_left
                                          · show Act.put _ (some 44) _ = _
                                            simp only [Act.put, List.setIfInBounds_toArray, List.set_cons_zero, List.set_cons_succ, i64_w, i32_w]
                                            rfl
                                          refine one_ (i := 7) (N := some 38) #[true, true, true, true, true, true, true, true, true, true, true, true, true, true, false, false] rfl rfl (one_of HT_.out (by kernel_rfl)) (by decide) (fun K hK => ?_)
                                          refine ow_lit_step HO (by rfl) (N := 38) rfl ([(wrap64 (64 + (wrap64 (Int.tdiv (wrap64 (20 + (l0_9.length : Int))) 4)))) % 256, (a0_0) % 256] : List Int) [.int .u8 ((wrap64 (64 + (wrap64 (Int.tdiv (wrap64 (20 + (l0_9.length : Int))) 4)))) % 256), .int .u8 ((a0_0) % 256)] ?hr ?hp (by simp) (fun v1 w1 HO1_ => ?_); (case hr => first | (go_simp; done) | (go_simp; simp only [IntKind.wrap_u8]; done) | (go_simp; rfl)); (case hp => exact Reps.one (show (fun (x : Int) (cs : List Value) => cs = [Value.int .u8 x]) ((wrap64 (64 + (wrap64 (Int.tdiv (wrap64 (20 + (l0_9.length : Int))) 4)))) % 256) [.int .u8 ((wrap64 (64 + (wrap64 (Int.tdiv (wrap64 (20 + (l0_9.length : Int))) 4)))) % 256)] from rfl) (Reps.one (show (fun (x : Int) (cs : List Value) => cs = [Value.int .u8 x]) ((a0_0) % 256) [.int .u8 ((a0_0) % 256)] from rfl) (Reps.none _ _)))
                                          clear HO
                                          have HO := HO1_
                                          clear HO1_
                                          rw [← Ny120.out] at HO
                                          obtain ⟨Ay120, cy120, rfl⟩ := Kd.R_slice (HO.out.row 0 rfl)
                                          refine hK.out _ _ ⟨(HO.out.cell 0 0 rfl rfl), (HO.out.cell 0 10 rfl rfl)⟩ (fun hHeld => ?_)
                                          clear hK K
                                          refine norm_ (a' := ?_) ?_ ?_
                                          rotate_left
                                          · show Act.put _ (some 38) _ = _
                                            simp only [Act.put, List.setIfInBounds_toArray, List.set_cons_zero, List.set_cons_succ, i64_w, i32_w]
                                            rfl
                                          refine one_ (i := 14) (N := some 45) #[true, true, true, true, true, true, true, true, true, true, true, true, true, true, true, false] rfl rfl (one_of HT_.out (by kernel_rfl)) (by decide) (fun K hK => ?_)
                                          refine ow_app_step HO (by rfl) 0 rfl (.tmp 38) (.tmp 44) 24 rfl Try.underlying24 info5 rfl rfl (HO.out.rd 1 rfl) (LMc19.out) (fun v1 w1 HO1_ => ?_)
                                          clear HO
                                          have HO := HO1_
                                          clear HO1_
                                          simp only [List.set_cons_zero, List.set_cons_succ] at HO
                                          rw [← Ny126.out] at HO
                                          obtain ⟨Ay126, cy126, rfl⟩ := Kd.R_slice (HO.out.row 0 rfl)
                                          refine hK.out _ _ ⟨(HO.out.cell 0 0 rfl rfl), (HO.out.cell 0 10 rfl rfl)⟩ (fun hHeld => ?_)
                                          clear hK K
                                          refine norm_ (a' := ?_) ?_ ?_
                                          rotate_left
                                          · show Act.put _ (some 45) _ = _
                                            simp only [Act.put, List.setIfInBounds_toArray, List.set_cons_zero, List.set_cons_succ, i64_w, i32_w]
                                            rfl
                                          refine pure_ (i := 15) (N := some 6) (v := ?_) (a' := ?_) #[true, true, true, true, true, true, true, true, true, true, true, true, true, true, true, true] rfl rfl (any_of HT_.out (by kernel_rfl)) (fun _ _ _ h => h) (Or.inl ⟨by rfl, ?_⟩) ?_ ?_
                                          rotate_left
                                          · intro w'
                                            go_simp
                                            with_reducible rfl
                                          rotate_left
                                          · simp only [Act.put, List.setIfInBounds_toArray, List.set_cons_zero, List.set_cons_succ, i64_w, i32_w]
                                            rfl
                                          refine done_ (done_of HT_.out (by kernel_rfl)) ?_
                                          go_wp2
                                          go_meet
                                          case rel => exact ⟨_, rfl, ⟨HO.out.keep1 0 rfl⟩⟩
                                      case rest =>
                                        clear HO HF
                                        obtain ⟨v1, rfl, HO⟩ := hcut
                                        obtain ⟨Ay126, cy126, rfl⟩ := Kd.R_slice (HO.out.row 0 rfl)
                                        have HF := HO.out.facts; simp only [OwnsM.Facts, and_true] at HF
                                        go_upto_region 14 with (first | ((with_reducible refine gate_callee (f := 43) rfl ?_); refine goesL_ (some 49) rfl rfl Try.func43 (by kernel_rfl) rfl #[.int .i64 a0_1] rfl (by (try simp only [List.map_toArray, List.map_cons, List.map_nil]); first | done | rfl | (simp only [List.length_drop, List.length_take]; rfl)) ?_; refine (castellanref1_Put16.calls a0_1 t129 _ A20.out).mono ?_; rintro e w1 ⟨v1, rfl, h1, hb⟩; refine ⟨_, rfl, ?_⟩; replace HO := Aside0.mk (HO.out.call1 hb h1); obtain ⟨At129, ct129, rfl⟩ := Kd.R_slice (HO.out.row 0 rfl); clear HF; have HF := HO.out.facts; simp only [OwnsM.Facts, and_true] at HF) | ((with_reducible refine gate_builtin (b := .append) (xs := #[.tmp 46, .tmp 49]) rfl ?_); at_builtin; refine ow_app HO rfl 1 rfl (.tmp 46) (.tmp 49) 24 rfl Try.underlying24 info5 rfl rfl (HO.out.rd 0 rfl) (LMc21.out) ?_; clear HO HF; intro v1 w1 HO; simp only [List.set_cons_zero, List.set_cons_succ] at HO; rw [← Ny132.out] at HO; replace HO := Aside0.mk (HO.out.keep1 1 rfl); obtain ⟨Ay132, cy132, rfl⟩ := Kd.R_slice (HO.out.row 0 rfl); have HF := HO.out.facts; simp only [OwnsM.Facts, and_true] at HF) | ((with_reducible refine gate_callee (f := 43) rfl ?_); refine goesL_ (some 52) rfl rfl Try.func43 (by kernel_rfl) rfl #[.int .i64 x5_14] rfl (by (try simp only [List.map_toArray, List.map_cons, List.map_nil]); first | done | rfl | (simp only [List.length_drop, List.length_take]; rfl)) ?_; refine (castellanref1_Put16.calls x5_14 t135 _ A22.out).mono ?_; rintro e w1 ⟨v1, rfl, h1, hb⟩; refine ⟨_, rfl, ?_⟩; replace HO := Aside0.mk (HO.out.call1 hb h1); obtain ⟨At135, ct135, rfl⟩ := Kd.R_slice (HO.out.row 0 rfl); clear HF; have HF := HO.out.facts; simp only [OwnsM.Facts, and_true] at HF) | ((with_reducible refine gate_builtin (b := .append) (xs := #[.tmp 50, .tmp 52]) rfl ?_); at_builtin; refine ow_app HO rfl 1 rfl (.tmp 50) (.tmp 52) 24 rfl Try.underlying24 info5 rfl rfl (HO.out.rd 0 rfl) (LMc23.out) ?_; clear HO HF; intro v1 w1 HO; simp only [List.set_cons_zero, List.set_cons_succ] at HO; rw [← Ny138.out] at HO; replace HO := Aside0.mk (HO.out.keep1 1 rfl); obtain ⟨Ay138, cy138, rfl⟩ := Kd.R_slice (HO.out.row 0 rfl); have HF := HO.out.facts; simp only [OwnsM.Facts, and_true] at HF) | ((with_reducible refine gate_dst (N := 61) rfl ?_); refine ow_lit HO rfl (N := 61) rfl ([(a0_5) % 256, (a0_6) % 256, 0, 0] : List Int) [.int .u8 ((a0_5) % 256), .int .u8 ((a0_6) % 256), .int .u8 (0), .int .u8 (0)] ?hr ?hp (by simp) ?_; (case hr => first | (go_simp; done) | (go_simp; simp only [IntKind.wrap_u8]; done) | (go_simp; rfl)); (case hp => exact Reps.one (show (fun (x : Int) (cs : List Value) => cs = [Value.int .u8 x]) ((a0_5) % 256) [.int .u8 ((a0_5) % 256)] from rfl) (Reps.one (show (fun (x : Int) (cs : List Value) => cs = [Value.int .u8 x]) ((a0_6) % 256) [.int .u8 ((a0_6) % 256)] from rfl) (Reps.one (show (fun (x : Int) (cs : List Value) => cs = [Value.int .u8 x]) (0) [.int .u8 (0)] from rfl) (Reps.one (show (fun (x : Int) (cs : List Value) => cs = [Value.int .u8 x]) (0) [.int .u8 (0)] from rfl) (Reps.none _ _))))); clear HO HF; intro v1 w1 HO; rw [← Ny141.out] at HO; obtain ⟨Ay141, cy141, rfl⟩ := Kd.R_slice (HO.out.row 0 rfl); have HF := HO.out.facts; simp only [OwnsM.Facts, and_true] at HF) | ((with_reducible refine gate_builtin (b := .append) (xs := #[.tmp 54, .tmp 61]) rfl ?_); at_builtin; refine ow_app HO rfl 1 rfl (.tmp 54) (.tmp 61) 24 rfl Try.underlying24 info5 rfl rfl (HO.out.rd 0 rfl) (LMc24.out) ?_; clear HO HF; intro v1 w1 HO; simp only [List.set_cons_zero, List.set_cons_succ] at HO; rw [← Ny144.out] at HO; replace HO := Aside0.mk (HO.out.keep1 1 rfl); obtain ⟨Ay144, cy144, rfl⟩ := Kd.R_slice (HO.out.row 0 rfl); have HF := HO.out.facts; simp only [OwnsM.Facts, and_true] at HF))
                                        have HO1_ := Aside0.mk HO.out.drew
                                        clear HO HF
                                        have HO := HO1_
                                        clear HO1_
                                        refine start_ (n := 10) (S := fun w' => w'.cell? ⟨gb118, 7, none⟩ = some (.int .u32 a0_7) ∧ w'.cell? ⟨gb118, 8, none⟩ = some (.int .u32 a0_8)) (ds := []) #[false, false, false, false, false, false, false, false, false, false] (by kernel_rfl) rfl rfl ⟨(HO.out.cell 0 7 rfl rfl), (HO.out.cell 0 8 rfl rfl)⟩ (fun hHeld => ?_); refine with_tabW castellanref4_Build.tab14 castellanref4_Build.bits14 (fun HT_ HW_ => ?_)
                                        generalize w1.drew = w1 at HO hHeld ⊢
                                        refine pure_ (i := 0) (N := some 63) (v := ?_) (a' := ?_) #[true, false, false, false, false, false, false, false, false, false] rfl rfl (any_of HT_.out (by kernel_rfl)) (fun _ _ _ h => h) (Or.inl ⟨by rfl, ?_⟩) ?_ ?_
                                        rotate_left
                                        · intro w'
                                          go_simp
                                          with_reducible rfl
                                        rotate_left
                                        · simp only [Act.put, List.setIfInBounds_toArray, List.set_cons_zero, List.set_cons_succ, i64_w, i32_w]
                                          rfl
                                        refine pure_ (i := 1) (N := some 64) (v := ?_) (a' := ?_) #[true, true, false, false, false, false, false, false, false, false] rfl rfl (any_of HT_.out (by kernel_rfl)) (fun _ _ _ h => h) (Or.inl ⟨by rfl, ?_⟩) ?_ ?_
                                        rotate_left
                                        · intro w'
                                          go_simp
                                          with_reducible rfl
                                        rotate_left
                                        · simp only [Act.put, List.setIfInBounds_toArray, List.set_cons_zero, List.set_cons_succ, i64_w, i32_w]
                                          rfl
                                        refine pure_ (i := 5) (N := some 68) (v := ?_) (a' := ?_) #[true, true, false, false, false, true, false, false, false, false] rfl rfl (any_of HT_.out (by kernel_rfl)) (fun _ _ _ h => h) (Or.inl ⟨by rfl, ?_⟩) ?_ ?_
                                        rotate_left
                                        · intro w'
                                          go_simp
                                          with_reducible rfl
                                        rotate_left
                                        · simp only [Act.put, List.setIfInBounds_toArray, List.set_cons_zero, List.set_cons_succ, i64_w, i32_w]
                                          rfl
                                        refine take_ (i := 2) (N := some 65) (v := ?_) (a' := ?_) #[true, true, true, false, false, true, false, false, false, false] rfl rfl (take_ofW HT_.out HW_.out (by kernel_rfl)) (fun _ _ _ h => h) (Or.inl ⟨by rfl, ?_⟩) hHeld ?_ ?_
                                        rotate_left
                                        · rintro w' ⟨s0, s1⟩
                                          go_simp
                                          with_reducible rfl
                                        rotate_left
                                        · simp only [Act.put, List.setIfInBounds_toArray, List.set_cons_zero, List.set_cons_succ, i64_w, i32_w]
                                          rfl
                                        refine take_ (i := 6) (N := some 69) (v := ?_) (a' := ?_) #[true, true, true, false, false, true, true, false, false, false] rfl rfl (take_ofW HT_.out HW_.out (by kernel_rfl)) (fun _ _ _ h => h) (Or.inl ⟨by rfl, ?_⟩) hHeld ?_ ?_
                                        rotate_left
                                        · rintro w' ⟨s0, s1⟩
                                          go_simp
                                          with_reducible rfl
                                        rotate_left
                                        · simp only [Act.put, List.setIfInBounds_toArray, List.set_cons_zero, List.set_cons_succ, i64_w, i32_w]
                                          rfl
                                        refine one_ (i := 3) (N := some 66) #[true, true, true, true, false, true, true, false, false, false] rfl rfl (one_of HT_.out (by kernel_rfl)) (by decide) (fun K hK => ?_)
                                        refine goes_ Try.func44 (by kernel_rfl) rfl #[.int .u32 a0_7] (by rfl) rfl rfl (by (try simp only [List.map_toArray, List.map_cons, List.map_nil]); first | done | rfl | (simp only [List.length_drop, List.length_take]; rfl)) ?_
                                        refine (castellanref1_Put32.calls a0_7 t147 _ A25.out).mono ?_
                                        rintro e w1 ⟨v1, rfl, h1, hb⟩
                                        refine ⟨_, rfl, ?_⟩
                                        replace HO := Aside0.mk (HO.out.call1 hb h1)
                                        obtain ⟨At147, ct147, rfl⟩ := Kd.R_slice (HO.out.row 0 rfl)
                                        refine hK.out _ _ ⟨(HO.out.cell 0 7 rfl rfl), (HO.out.cell 0 8 rfl rfl)⟩ (fun hHeld => ?_)
                                        clear hK K
                                        refine norm_ (a' := ?_) ?_ ?_
                                        rotate_left
                                        · show Act.put _ (some 66) _ = _
                                          simp only [Act.put, List.setIfInBounds_toArray, List.set_cons_zero, List.set_cons_succ, i64_w, i32_w]
                                          rfl
                                        refine one_ (i := 4) (N := some 67) #[true, true, true, true, true, true, true, false, false, false] rfl rfl (one_of HT_.out (by kernel_rfl)) (by decide) (fun K hK => ?_)
                                        refine ow_app_step HO (by rfl) 1 rfl (.tmp 63) (.tmp 66) 24 rfl Try.underlying24 info5 rfl rfl (HO.out.rd 0 rfl) (LMc26.out) (fun v1 w1 HO1_ => ?_)
                                        clear HO
                                        have HO := HO1_
                                        clear HO1_
                                        simp only [List.set_cons_zero, List.set_cons_succ] at HO
                                        rw [← Ny150.out] at HO
                                        obtain ⟨Ay150, cy150, rfl⟩ := Kd.R_slice (HO.out.row 1 rfl)
                                        refine hK.out _ _ ⟨(HO.out.cell 0 7 rfl rfl), (HO.out.cell 0 8 rfl rfl)⟩ (fun hHeld => ?_)
                                        clear hK K
                                        refine norm_ (a' := ?_) ?_ ?_
                                        rotate_left
                                        · show Act.put _ (some 67) _ = _
                                          simp only [Act.put, List.setIfInBounds_toArray, List.set_cons_zero, List.set_cons_succ, i64_w, i32_w]
                                          rfl
                                        refine one_ (i := 7) (N := some 70) #[true, true, true, true, true, true, true, true, false, false] rfl rfl (one_of HT_.out (by kernel_rfl)) (by decide) (fun K hK => ?_)
                                        refine goes_ Try.func44 (by kernel_rfl) rfl #[.int .u32 a0_8] (by rfl) rfl rfl (by (try simp only [List.map_toArray, List.map_cons, List.map_nil]); first | done | rfl | (simp only [List.length_drop, List.length_take]; rfl)) ?_
                                        refine (castellanref1_Put32.calls a0_8 t153 _ A27.out).mono ?_
                                        rintro e w1 ⟨v1, rfl, h1, hb⟩
                                        refine ⟨_, rfl, ?_⟩
                                        replace HO := Aside0.mk (HO.out.call1 hb h1)
                                        obtain ⟨At153, ct153, rfl⟩ := Kd.R_slice (HO.out.row 0 rfl)
                                        refine hK.out _ _ ⟨(HO.out.cell 0 7 rfl rfl), (HO.out.cell 0 8 rfl rfl)⟩ (fun hHeld => ?_)
                                        clear hK K
                                        refine norm_ (a' := ?_) ?_ ?_
                                        rotate_left
                                        · show Act.put _ (some 70) _ = _
                                          simp only [Act.put, List.setIfInBounds_toArray, List.set_cons_zero, List.set_cons_succ, i64_w, i32_w]
                                          rfl
                                        refine one_ (i := 8) (N := some 71) #[true, true, true, true, true, true, true, true, true, false] rfl rfl (one_of HT_.out (by kernel_rfl)) (by decide) (fun K hK => ?_)
                                        refine ow_app_step HO (by rfl) 2 rfl (.tmp 67) (.tmp 70) 24 rfl Try.underlying24 info5 rfl rfl (HO.out.rd 0 rfl) (LMc28.out) (fun v1 w1 HO1_ => ?_)
                                        clear HO
                                        have HO := HO1_
                                        clear HO1_
                                        simp only [List.set_cons_zero, List.set_cons_succ] at HO
                                        rw [← Ny156.out] at HO
                                        obtain ⟨Ay156, cy156, rfl⟩ := Kd.R_slice (HO.out.row 2 rfl)
                                        refine hK.out _ _ ⟨(HO.out.cell 0 7 rfl rfl), (HO.out.cell 0 8 rfl rfl)⟩ (fun hHeld => ?_)
                                        clear hK K
                                        refine norm_ (a' := ?_) ?_ ?_
                                        rotate_left
                                        · show Act.put _ (some 71) _ = _
                                          simp only [Act.put, List.setIfInBounds_toArray, List.set_cons_zero, List.set_cons_succ, i64_w, i32_w]
                                          rfl
                                        refine pure_ (i := 9) (N := some 6) (v := ?_) (a' := ?_) #[true, true, true, true, true, true, true, true, true, true] rfl rfl (any_of HT_.out (by kernel_rfl)) (fun _ _ _ h => h) (Or.inl ⟨by rfl, ?_⟩) ?_ ?_
                                        rotate_left
                                        · intro w'
                                          go_simp
                                          with_reducible rfl
                                        rotate_left
                                        · simp only [Act.put, List.setIfInBounds_toArray, List.set_cons_zero, List.set_cons_succ, i64_w, i32_w]
                                          rfl
                                        refine done_ (done_of HT_.out (by kernel_rfl)) ?_
                                        replace HO := Aside0.mk (HO.out.keep1 2 rfl)
                                        have HF := HO.out.facts; simp only [OwnsM.Facts, and_true] at HF
                                        go_upto_region 17 with (first | ((with_reducible refine gate_builtin (b := .append) (xs := #[.tmp 72, .tmp 74]) rfl ?_); at_builtin; refine ow_app HO rfl 0 rfl (.tmp 72) (.tmp 74) 24 rfl Try.underlying24 info5 rfl rfl (HO.out.old HR0_9.out) (LMc29.out) ?_; clear HO HF; intro v1 w1 HO; simp only [List.set_cons_zero, List.set_cons_succ] at HO; rw [← Ny159.out] at HO; replace HO := Aside0.mk (HO.out.keep1 0 rfl); obtain ⟨Ay159, cy159, rfl⟩ := Kd.R_slice (HO.out.row 0 rfl); have HF := HO.out.facts; simp only [OwnsM.Facts, and_true] at HF) | ((with_reducible refine gate_callee (f := 45) rfl ?_); refine goesL_ (some 77) rfl rfl Try.func45 (by kernel_rfl) rfl #[.slice Ay159 y159.length cy159] rfl (by (try simp only [List.map_toArray, List.map_cons, List.map_nil]); first | done | rfl | (simp only [List.length_drop, List.length_take]; rfl)) ?_; refine (castellanref2_Of.calls kj14 _ _ y159 t162 _ (HO.out.rd 0 rfl) (HO.out.cap 0 rfl) A30.out).mono ?_; rintro e w1 ⟨rfl, hd⟩; refine ⟨_, rfl, ?_⟩; replace HO := Aside0.mk (HO.out.drawn hd); clear HF; have HF := HO.out.facts; simp only [OwnsM.Facts, and_true] at HF) | ((with_reducible refine gate_callee (f := 43) rfl ?_); refine goesL_ (some 78) rfl rfl Try.func43 (by kernel_rfl) rfl #[.int .i64 t162] rfl (by (try simp only [List.map_toArray, List.map_cons, List.map_nil]); first | done | rfl | (simp only [List.length_drop, List.length_take]; rfl)) ?_; refine (castellanref1_Put16.calls t162 t163 _ A31.out).mono ?_; rintro e w1 ⟨v1, rfl, h1, hb⟩; refine ⟨_, rfl, ?_⟩; replace HO := Aside0.mk (HO.out.call1 hb h1); obtain ⟨At163, ct163, rfl⟩ := Kd.R_slice (HO.out.row 0 rfl); clear HF; have HF := HO.out.facts; simp only [OwnsM.Facts, and_true] at HF))
                                        have q0_ : 1 < t163.length := by have h_ := of_decide_eq_true (show decide (1 < t163.length) = true from by first | (with_reducible assumption) | assumption); exact h_
                                        have q1_ : 11 < y159.length := by have h_ := of_decide_eq_true (show decide (11 < y159.length) = true from by first | (with_reducible assumption) | assumption); exact h_
                                        obtain ⟨gs, cs_, es⟩ := HO.out.rowform 0 rfl (by omega)
                                        cases es
                                        obtain ⟨gt, ct_, et⟩ := HO.out.rowform 1 rfl (by omega)
                                        cases et
                                        have b0_ := HO.out.rowcell 1 rfl 10 (by omega)
                                        have b1_ := HO.out.rowcell 1 rfl 11 (by omega)
                                        have n0_ : (10 < y159.length) = True := eq_true (by omega)
                                        have n1_ : (11 < y159.length) = True := eq_true (by omega)
                                        have n2_ : (0 < t163.length) = True := eq_true (by omega)
                                        have n3_ : (1 < t163.length) = True := eq_true (by omega)
                                        have m0_ : (10 < (y159.length : Int)) = True := eq_true (by omega)
                                        have m1_ : (11 < (y159.length : Int)) = True := eq_true (by omega)
                                        have m2_ : (0 < (t163.length : Int)) = True := eq_true (by omega)
                                        have m3_ : (1 < (t163.length : Int)) = True := eq_true (by omega)
                                        clear b0_ b1_ HF
                                        have HF : True := trivial
                                        have HO1_ := Aside0.mk HO.out.drew
                                        clear HO HF
                                        have HO := HO1_
                                        clear HO1_
                                        refine start_ (n := 12) (S := fun w' => w'.cell? ⟨gs, 0, none⟩ = some (.int .u8 (rd t163 0)) ∧ w'.cell? ⟨gs, 1, none⟩ = some (.int .u8 (rd t163 1))) (ds := [9, 11]) #[false, false, false, false, false, false, false, false, false, false, false, false] (by kernel_rfl) rfl rfl ⟨(HO.out.rowcell 0 rfl 0 (by omega)).1, (HO.out.rowcell 0 rfl 1 (by omega)).1⟩ (fun hHeld => ?_); refine with_tabW castellanref4_Build.tab17 castellanref4_Build.bits17 (fun HT_ HW_ => ?_)
                                        generalize w1.drew = w1 at HO hHeld ⊢
                                        refine pure_ (i := 0) (N := some 79) (v := ?_) (a' := ?_) #[true, false, false, false, false, false, false, false, false, false, false, false] rfl rfl (any_of HT_.out (by kernel_rfl)) (fun _ _ _ h => h) (Or.inl ⟨by rfl, ?_⟩) ?_ ?_
                                        rotate_left
                                        · intro w'
                                          go_simp
                                          with_reducible rfl
                                        rotate_left
                                        · simp only [Act.put, List.setIfInBounds_toArray, List.set_cons_zero, List.set_cons_succ, i64_w, i32_w]
                                          rfl
                                        refine pure_ (i := 1) (N := some 80) (v := ?_) (a' := ?_) #[true, true, false, false, false, false, false, false, false, false, false, false] rfl rfl (any_of HT_.out (by kernel_rfl)) (fun _ _ _ h => h) (Or.inl ⟨by rfl, ?_⟩) ?_ ?_
                                        rotate_left
                                        · intro w'
                                          go_simp
                                          with_reducible rfl
                                        rotate_left
                                        · simp only [Act.put, List.setIfInBounds_toArray, List.set_cons_zero, List.set_cons_succ, i64_w, i32_w]
                                          rfl
                                        refine pure_ (i := 2) (N := some 81) (v := ?_) (a' := ?_) #[true, true, true, false, false, false, false, false, false, false, false, false] rfl rfl (any_of HT_.out (by kernel_rfl)) (fun _ _ _ h => h) (Or.inl ⟨by rfl, ?_⟩) ?_ ?_
                                        rotate_left
                                        · intro w'
                                          go_simp
                                          with_reducible rfl
                                        rotate_left
                                        · simp only [Act.put, List.setIfInBounds_toArray, List.set_cons_zero, List.set_cons_succ, i64_w, i32_w]
                                          rfl
                                        refine pure_ (i := 3) (N := some 82) (v := ?_) (a' := ?_) #[true, true, true, true, false, false, false, false, false, false, false, false] rfl rfl (any_of HT_.out (by kernel_rfl)) (fun _ _ _ h => h) (Or.inl ⟨by rfl, ?_⟩) ?_ ?_
                                        rotate_left
                                        · intro w'
                                          go_simp
                                          with_reducible rfl
                                        rotate_left
                                        · simp only [Act.put, List.setIfInBounds_toArray, List.set_cons_zero, List.set_cons_succ, i64_w, i32_w]
                                          rfl
                                        refine pure_ (i := 5) (N := some 84) (v := ?_) (a' := ?_) #[true, true, true, true, false, true, false, false, false, false, false, false] rfl rfl (any_of HT_.out (by kernel_rfl)) (fun _ _ _ h => h) (Or.inl ⟨by rfl, ?_⟩) ?_ ?_
                                        rotate_left
                                        · intro w'
                                          go_simp
                                          with_reducible rfl
                                        rotate_left
                                        · simp only [Act.put, List.setIfInBounds_toArray, List.set_cons_zero, List.set_cons_succ, i64_w, i32_w]
                                          rfl
                                        refine pure_ (i := 6) (N := some 85) (v := ?_) (a' := ?_) #[true, true, true, true, false, true, true, false, false, false, false, false] rfl rfl (any_of HT_.out (by kernel_rfl)) (fun _ _ _ h => h) (Or.inl ⟨by rfl, ?_⟩) ?_ ?_
                                        rotate_left
                                        · intro w'
                                          go_simp
                                          with_reducible rfl
                                        rotate_left
                                        · simp only [Act.put, List.setIfInBounds_toArray, List.set_cons_zero, List.set_cons_succ, i64_w, i32_w]
                                          rfl
                                        refine take_ (i := 4) (N := some 83) (v := ?_) (a' := ?_) #[true, true, true, true, true, true, true, false, false, false, false, false] rfl rfl (take_ofW HT_.out HW_.out (by kernel_rfl)) (fun _ _ _ h => h) (Or.inl ⟨by rfl, ?_⟩) hHeld ?_ ?_
                                        rotate_left
                                        · rintro w' ⟨s0, s1⟩
                                          go_simp
                                          with_reducible rfl
                                        rotate_left
                                        · simp only [Act.put, List.setIfInBounds_toArray, List.set_cons_zero, List.set_cons_succ, i64_w, i32_w]
                                          rfl
                                        refine take_ (i := 7) (N := some 86) (v := ?_) (a' := ?_) #[true, true, true, true, true, true, true, true, false, false, false, false] rfl rfl (take_ofW HT_.out HW_.out (by kernel_rfl)) (fun _ _ _ h => h) (Or.inl ⟨by rfl, ?_⟩) hHeld ?_ ?_
                                        rotate_left
                                        · rintro w' ⟨s0, s1⟩
                                          go_simp
                                          with_reducible rfl
                                        rotate_left
                                        · simp only [Act.put, List.setIfInBounds_toArray, List.set_cons_zero, List.set_cons_succ, i64_w, i32_w]
                                          rfl
                                        refine pure_ (i := 8) (N := some 87) (v := ?_) (a' := ?_) #[true, true, true, true, true, true, true, true, true, false, false, false] rfl rfl (any_of HT_.out (by kernel_rfl)) (fun _ _ _ h => h) (Or.inl ⟨by rfl, ?_⟩) ?_ ?_
                                        rotate_left
                                        · intro w'
                                          go_simp
                                          with_reducible rfl
                                        rotate_left
                                        · simp only [Act.put, List.setIfInBounds_toArray, List.set_cons_zero, List.set_cons_succ, i64_w, i32_w]
                                          rfl
                                        refine last_ (i := 9) (N := none) #[true, true, true, true, true, true, true, true, true, true, false, false] rfl rfl (one_of HT_.out (by kernel_rfl)) (by decide) (fun K hK => ?_)
                                        have b0_ := HO.out.rowcell 1 rfl 10 (by omega)
                                        refine ow_putb_step HO (by rfl) rfl 1 rfl 10 (rd t163 0) ?hr (fun w1 HO1_ => ?_); (case hr => first | (go_simp; done) | (go_simp; rfl))
                                        clear b0_
                                        clear HO
                                        have HO := HO1_
                                        clear HO1_
                                        simp only [List.set_cons_zero, List.set_cons_succ] at HO
                                        rw [show y159.set 10 (rd t163 0) = y168 from Ny168.out.symm] at HO
                                        refine hK.out _ _ ?_
                                        clear hK K
                                        refine pure_ (i := 10) (N := some 88) (v := ?_) (a' := ?_) #[true, true, true, true, true, true, true, true, true, true, true, false] rfl rfl (any_of HT_.out (by kernel_rfl)) (fun _ _ _ h => h) (Or.inl ⟨by rfl, ?_⟩) ?_ ?_
                                        rotate_left
                                        · intro w'
                                          go_simp
                                          with_reducible rfl
                                        rotate_left
                                        · simp only [Act.put, List.setIfInBounds_toArray, List.set_cons_zero, List.set_cons_succ, i64_w, i32_w]
                                          rfl
                                        refine last_ (i := 11) (N := none) #[true, true, true, true, true, true, true, true, true, true, true, true] rfl rfl (one_of HT_.out (by kernel_rfl)) (by decide) (fun K hK => ?_)
                                        have b0_ := HO.out.rowcell 1 rfl 11 (by rw [Ny168.out, List.length_set]; omega)
                                        refine ow_putb_step HO (by rfl) rfl 1 rfl 11 (rd t163 1) ?hr (fun w1 HO1_ => ?_); (case hr => first | (go_simp; done) | (go_simp; rfl))
                                        clear b0_
                                        clear HO
                                        have HO := HO1_
                                        clear HO1_
                                        simp only [List.set_cons_zero, List.set_cons_succ] at HO
                                        rw [show y168.set 11 (rd t163 1) = y169 from Ny169.out.symm] at HO
                                        refine hK.out _ _ ?_
                                        clear hK K
                                        refine done_ (done_of HT_.out (by kernel_rfl)) ?_
                                        replace HO := Aside0.mk (HO.out.keep1 1 rfl)
                                        have HF := HO.out.facts; simp only [OwnsM.Facts, and_true] at HF
                                        go_wp2_with (first | ((with_reducible refine gate_builtin (b := .append) (xs := #[.tmp 89, .tmp 91]) rfl ?_); at_builtin; refine ow_app HO rfl 0 rfl (.tmp 89) (.tmp 91) 24 rfl Try.underlying24 info5 rfl rfl (HO.out.old HR0_10.out) (LMc38.out) ?_; clear HO HF; intro v1 w1 HO; simp only [List.set_cons_zero, List.set_cons_succ] at HO; rw [← Ny170.out] at HO; replace HO := Aside0.mk (HO.out.keep1 0 rfl); obtain ⟨Ay170, cy170, rfl⟩ := Kd.R_slice (HO.out.row 0 rfl); have HF := HO.out.facts; simp only [OwnsM.Facts, and_true] at HF))
                                        go_ret2
                                        exact ⟨_, by first | rfl | (simp; done) | (simp [*]; done), HO.out.row 0 rfl, HO.out.below⟩
                                    · rw [if_neg c38] at H
                                      exact absurd H (by simp)
                                  · rw [if_neg c36] at H
                                    exact absurd H (by simp)
                                · rw [if_neg c34] at H
                                  exact absurd H (by simp)
                              · rw [if_neg c33] at H
                                exact absurd H (by simp)
                            · rw [if_neg c32] at H
                              exact absurd H (by simp)
                          · rw [if_neg c29] at H
                            exact absurd H (by simp)
                        · rw [if_neg c28] at H
                          exact absurd H (by simp)
                      · rw [if_neg c26] at H
                        exact absurd H (by simp)
                    · rw [if_neg c24] at H
                      exact absurd H (by simp)
                  · rw [if_neg c23] at H
                    exact absurd H (by simp)
                · rw [if_neg c21] at H
                  exact absurd H (by simp)
              · rw [if_neg c19] at H
                exact absurd H (by simp)
  · replace c3 := Bool.eq_false_iff.mpr c3
    subst c3
    have H1 : (some (([] : List Int), 1)) = some (r1, r2) := by rw [if_neg (show ¬ (false = true) by decide)] at H; exact H
    clear H
    have H := H1
    clear H1
    simp only [Option.some.injEq, Prod.mk.injEq] at H
    obtain ⟨rfl, rfl⟩ := H
    go_enter Try.func26, Try.ntmps26
    go_wp2_with (first | ((with_reducible refine gate_dst (N := 1) rfl ?_); refine box_event ?hg (N := 1) ?hd (cs := #[.int .i64 a0_0, .int .i64 a0_1, .bool a0_2, .bool a0_3, .int .i64 a0_4, .int .i64 a0_5, .int .i64 a0_6, .int .u32 a0_7, .int .u32 a0_8, .slice A0_9 l0_9.length c0_9, .slice A0_10 l0_10.length c0_10]) (t := 26) ?hr ?_; (case hd => rfl); (case hg => rfl); (case hr => first | (go_simp; done) | (go_simp; rfl)); intro gb118 hg w76 hbox hb; have n0_ := Aside0.mk (below_step (by repeat (first | (with_reducible first | exact HB.out | apply below_alloc | apply pw_below_drewN | apply below_drew1) | exact HB.out)) hb); have n1_ := Aside0.mk (hbox); have n2_ := Aside0.mk ((by rw [hg]; exact (below_size (by repeat (first | (with_reducible first | exact HB.out | apply below_alloc | apply pw_below_drewN | apply below_drew1) | exact HB.out))) : w.heap.size ≤ gb118)); have n3_ := Aside0.mk ((by rw [hg]; exact (below_size (by repeat (first | (with_reducible first | exact HB.out | apply below_alloc | apply pw_below_drewN | apply below_drew1) | exact HB.out))) : w.heap.size ≤ gb118)); clear HB; have HB := n0_; have BK118 := n1_; have GW118 := n2_; have GE118 := n3_; clear n0_ n1_ n2_ n3_; clear hb hbox hg; have hcz77_0 : w76.cell? ⟨gb118, 0, none⟩ = some (.int .i64 a0_0) := (blk_cell BK118.out 0).trans rfl; have hcz77_1 : w76.cell? ⟨gb118, 1, none⟩ = some (.int .i64 a0_1) := (blk_cell BK118.out 1).trans rfl; have hcz77_2 : w76.cell? ⟨gb118, 2, none⟩ = some (.bool a0_2) := (blk_cell BK118.out 2).trans rfl; have hcz77_3 : w76.cell? ⟨gb118, 3, none⟩ = some (.bool a0_3) := (blk_cell BK118.out 3).trans rfl; have hcz77_4 : w76.cell? ⟨gb118, 4, none⟩ = some (.int .i64 a0_4) := (blk_cell BK118.out 4).trans rfl; have hcz77_5 : w76.cell? ⟨gb118, 5, none⟩ = some (.int .i64 a0_5) := (blk_cell BK118.out 5).trans rfl; have hcz77_6 : w76.cell? ⟨gb118, 6, none⟩ = some (.int .i64 a0_6) := (blk_cell BK118.out 6).trans rfl; have hcz77_7 : w76.cell? ⟨gb118, 7, none⟩ = some (.int .u32 a0_7) := (blk_cell BK118.out 7).trans rfl; have hcz77_8 : w76.cell? ⟨gb118, 8, none⟩ = some (.int .u32 a0_8) := (blk_cell BK118.out 8).trans rfl; have hcz77_9 : w76.cell? ⟨gb118, 9, none⟩ = some (.slice A0_9 l0_9.length c0_9) := (blk_cell BK118.out 9).trans rfl; have hcz77_10 : w76.cell? ⟨gb118, 10, none⟩ = some (.slice A0_10 l0_10.length c0_10) := (blk_cell BK118.out 10).trans rfl; have hfz77_0 := blk_frozen BK118.out 0; have hfz77_1 := blk_frozen BK118.out 1; have hfz77_2 := blk_frozen BK118.out 2; have hfz77_3 := blk_frozen BK118.out 3; have hfz77_4 := blk_frozen BK118.out 4; have hfz77_5 := blk_frozen BK118.out 5; have hfz77_6 := blk_frozen BK118.out 6; have hfz77_7 := blk_frozen BK118.out 7; have hfz77_8 := blk_frozen BK118.out 8; have hfz77_9 := blk_frozen BK118.out 9; have hfz77_10 := blk_frozen BK118.out 10) | ((with_reducible refine gate_callee (f := 25) rfl ?_); refine goesL_ (some 9) rfl rfl Try.func25 (by kernel_rfl) rfl #[.agg #[.int .i64 a0_0, .int .i64 a0_1, .bool a0_2, .bool a0_3, .int .i64 a0_4, .int .i64 a0_5, .int .i64 a0_6, .int .u32 a0_7, .int .u32 a0_8, .slice A0_9 l0_9.length c0_9, .slice A0_10 l0_10.length c0_10]] rfl (by (try simp only [List.map_toArray, List.map_cons, List.map_nil]); first | done | rfl | (simp only [List.length_drop, List.length_take]; rfl)) ?_; (with_reducible refine (castellanref4_Is.calls a0_0 a0_1 a0_2 a0_3 a0_4 a0_5 a0_6 a0_7 a0_8 _ _ l0_9 _ _ l0_10 false _ ?side1 ?side2 ?side3 ?side4 A2.out).mono ?_); (case side1 => repeat (first | exact (Kd.C_below HR0_9.out HB.out) | (with_reducible refine Kd.C_alloc ?_ _) | (with_reducible refine Kd.C_drewN ?_ _) | (with_reducible refine Kd.C_drew ?_))); (case side2 => exact HC0_9.out); (case side3 => repeat (first | exact (Kd.C_below HR0_10.out HB.out) | (with_reducible refine Kd.C_alloc ?_ _) | (with_reducible refine Kd.C_drewN ?_ _) | (with_reducible refine Kd.C_drew ?_))); (case side4 => exact HC0_10.out); rintro e w78 ⟨rfl, hb⟩; refine ⟨_, rfl, ?_⟩; have n0_ := Aside0.mk (blk_below (g := gb118) (o := .cells #[.int .i64 a0_0, .int .i64 a0_1, .bool a0_2, .bool a0_3, .int .i64 a0_4, .int .i64 a0_5, .int .i64 a0_6, .int .u32 a0_7, .int .u32 a0_8, .slice A0_9 l0_9.length c0_9, .slice A0_10 l0_10.length c0_10] 26 (0, 0)) (by (with_reducible repeat (first | refine blk_drewN ?_ _ | refine blk_drew ?_ | refine blk_alloc ?_ _)); exact BK118.out) hb); have n1_ := Aside0.mk (below_step (by repeat (first | (with_reducible first | exact HB.out | apply below_alloc | apply pw_below_drewN | apply below_drew1 | refine below_set ?_ GE118.out) | exact HB.out)) hb); clear BK118; clear HB; have BK118 := n0_; have HB := n1_; clear n0_ n1_; (try clear hb); (try clear hb2); (try clear hk); (try clear hi)))
    go_ret2
    exact ⟨_, by first | rfl | (simp [errW_none, errW_some] <;> rfl) | (simp [*, errW_none, errW_some] <;> rfl), by first | exact Kd.R_nil _ _ _ _ _ | exact Kd.N_nil _ _ _ _ _ | exact Kd.V_nil _ _ _ _ _ | exact Kd.Q_nil _ _ _ _ _ | exact Kd.S_nil _ _ _ _ _, by repeat (first | (with_reducible first | exact HB.out | apply below_alloc | apply pw_below_drewN | apply below_drew1 | refine below_set ?_ GE118.out) | exact HB.out)⟩

end Go.Proofs.Ytkdibloahkhgoaa.QPackPorts
