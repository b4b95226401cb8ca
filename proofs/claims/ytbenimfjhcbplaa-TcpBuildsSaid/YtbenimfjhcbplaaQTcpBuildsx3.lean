-- written by myprint.py, a program of this session's over the kit's printer
import Derived.Test.YtbenimfjhcbplaaQTcpBuildsx0
import Derived.Test.YtbenimfjhcbplaaQTcpBuildsx1
import Derived.Test.YtbenimfjhcbplaaQTcpBuildsx2
namespace Go.Proofs.Ytbenimfjhcbplaa.QTcpBuilds
open Go.RowKit Go.Proofs.YtbenimfjhcbplaaW.PrintWords Go.Proofs.YtbenimfjhcbplaaW.PrintLast Go.Proofs.YtbenimfjhcbplaaW.PrintMore
attribute [local go_sem] max2_int min2_int max_two min_two max_three min_three max_four min_four   -- for this text's walks alone
set_option linter.unusedVariables false
set_option linter.unusedSimpArgs false

/-! ### tcp_Build: function 25 -/
def tcp_Build.j0 : Nat → Int → Int → Int → Bool → Int → Int → Int → Int → Int → Int → Int → List Int → List Int → Option (List Int × Int)
  | 0, _, _, _, _, _, _, _, _, _, _, _, _, _ => none
  | k + 1, x0, x1, x8, x62, x161000, x161001, x161002, x161003, x161004, x161005, x161006, x161007, x161008 => if x62 = true then (some (([] : List Int), 1)) else ((word_Put16.f x161000).bind fun t166 => ((word_Put16.f x161001).bind fun t169 => ((word_Put32.f x161002).bind fun t172 => ((word_Put32.f x161003).bind fun t175 => ((word_Put16.f x161005).bind fun t181 => ((word_Put16.f x161006).bind fun t187 => ((word_Join.f k (([t166, t169, t172, t175, (([(wrap64 ((wrap64 (Int.tdiv x8 4)) * 16)) % 256, (x161004) % 256] : List Int)), t181, (([0, 0] : List Int)), t187, x161007, x161008] : List (List Int)))).bind fun t193 => ((sum_Pseudo.f k x0 x1 6 (t193.length : Int)).bind fun t196 => ((sum_Of.f k (([t196, t193] : List (List Int)))).bind fun t202 => ((word_Put16.f t202).bind fun t203 => (if 0 < (t203.length : Int) then (if 16 < (t193.length : Int) then (if 1 < (t203.length : Int) then (if 17 < (t193.length : Int) then (some (((t193.set (16 : Int).toNat (rd t203 0)).set (17 : Int).toNat (rd t203 1)), 0)) else (none)) else (none)) else (none)) else (none))))))))))))
def tcp_Build.f (k : Nat) (a0 : Int) (a1 : Int) (a2_0 : Int) (a2_1 : Int) (a2_2 : Int) (a2_3 : Int) (a2_4 : Int) (a2_5 : Int) (a2_6 : Int) (l2_7 : List Int) (l2_8 : List Int) : Option (List Int × Int) := (tcp_isIn.f a2_0 65535).bind fun t161 => (if t161 = true then ((tcp_isIn.f a2_1 65535).bind fun t162 => (if t162 = true then ((tcp_isIn.f a2_5 65535).bind fun t163 => (if t163 = true then ((tcp_isIn.f a2_6 65535).bind fun t164 => (if t164 = true then ((tcp_isIn.f a2_4 63).bind fun t165 => (if t165 = true then (if ((l2_7.length : Int) % 4) = 0 then (if (l2_7.length : Int) > 40 then (tcp_Build.j0 k a0 a1 (wrap64 (20 + (l2_7.length : Int))) true a2_0 a2_1 a2_2 a2_3 a2_4 a2_5 a2_6 l2_7 l2_8) else (tcp_Build.j0 k a0 a1 (wrap64 (20 + (l2_7.length : Int))) (decide ((l2_8.length : Int) > (wrap64 (65000 - (wrap64 (20 + (l2_7.length : Int))))))) a2_0 a2_1 a2_2 a2_3 a2_4 a2_5 a2_6 l2_7 l2_8)) else (tcp_Build.j0 k a0 a1 (wrap64 (20 + (l2_7.length : Int))) true a2_0 a2_1 a2_2 a2_3 a2_4 a2_5 a2_6 l2_7 l2_8)) else (tcp_Build.j0 k a0 a1 (wrap64 (20 + (l2_7.length : Int))) true a2_0 a2_1 a2_2 a2_3 a2_4 a2_5 a2_6 l2_7 l2_8))) else (tcp_Build.j0 k a0 a1 (wrap64 (20 + (l2_7.length : Int))) true a2_0 a2_1 a2_2 a2_3 a2_4 a2_5 a2_6 l2_7 l2_8))) else (tcp_Build.j0 k a0 a1 (wrap64 (20 + (l2_7.length : Int))) true a2_0 a2_1 a2_2 a2_3 a2_4 a2_5 a2_6 l2_7 l2_8))) else (tcp_Build.j0 k a0 a1 (wrap64 (20 + (l2_7.length : Int))) true a2_0 a2_1 a2_2 a2_3 a2_4 a2_5 a2_6 l2_7 l2_8))) else (tcp_Build.j0 k a0 a1 (wrap64 (20 + (l2_7.length : Int))) true a2_0 a2_1 a2_2 a2_3 a2_4 a2_5 a2_6 l2_7 l2_8))
theorem tcp_Build.mono_l : ∀ k, (∀ y0 y1 y2 y3 y4 y5 y6 y7 y8 y9 y10 y11 y12, LeO (tcp_Build.j0 k y0 y1 y2 y3 y4 y5 y6 y7 y8 y9 y10 y11 y12) (tcp_Build.j0 (k + 1) y0 y1 y2 y3 y4 y5 y6 y7 y8 y9 y10 y11 y12))
  | 0 => fun _ _ _ _ _ _ _ _ _ _ _ _ _ r h => by simp [tcp_Build.j0] at h
  | k + 1 => by
    have ih0 := tcp_Build.mono_l k
    · intro y0 y1 y2 y3 y4 y5 y6 y7 y8 y9 y10 y11 y12
      unfold tcp_Build.j0
      repeat' first
      | (with_reducible exact ih0 _ _ _ _ _ _ _ _ _ _ _ _ _)
      | (with_reducible exact sum_Of.mono _ _)
      | (with_reducible exact sum_Pseudo.mono _ _ _ _ _)
      | (with_reducible exact word_Join.mono _ _)
      | (with_reducible exact LeO.refl _)
      | (with_reducible exact LeO.none _)
      | (with_reducible refine LeO.ite ?_ ?_)
      | (with_reducible refine LeO.bind ?_ (fun _ => ?_))
      | exact ih0 _ _ _ _ _ _ _ _ _ _ _ _ _
      | exact sum_Of.mono _ _
      | exact sum_Pseudo.mono _ _ _ _ _
      | exact word_Join.mono _ _
      | exact LeO.none _
      | refine LeO.ite ?_ ?_
      | refine LeO.bind ?_ (fun _ => ?_)
theorem tcp_Build.mono : ∀ a0 a1 a2 a3 a4 a5 a6 a7 a8 a9 a10 k, LeO (tcp_Build.f k a0 a1 a2 a3 a4 a5 a6 a7 a8 a9 a10) (tcp_Build.f (k + 1) a0 a1 a2 a3 a4 a5 a6 a7 a8 a9 a10) := by
  intro a0 a1 a2 a3 a4 a5 a6 a7 a8 a9 a10 k
  have ih0 := tcp_Build.mono_l k
  unfold tcp_Build.f
  repeat' first
      | (with_reducible exact ih0 _ _ _ _ _ _ _ _ _ _ _ _ _)
      | (with_reducible exact sum_Of.mono _ _)
      | (with_reducible exact sum_Pseudo.mono _ _ _ _ _)
      | (with_reducible exact word_Join.mono _ _)
      | (with_reducible exact LeO.refl _)
      | (with_reducible exact LeO.none _)
      | (with_reducible refine LeO.ite ?_ ?_)
      | (with_reducible refine LeO.bind ?_ (fun _ => ?_))
      | exact ih0 _ _ _ _ _ _ _ _ _ _ _ _ _
      | exact sum_Of.mono _ _
      | exact sum_Pseudo.mono _ _ _ _ _
      | exact word_Join.mono _ _
      | exact LeO.none _
      | refine LeO.ite ?_ ?_
      | refine LeO.bind ?_ (fun _ => ?_)
def tcp_Build.T4 : Bool × List (List Nat × List Nat) := (true, [([], []), ([0], [0]), ([1], [1]), ([], []), ([3], [3]), ([4, 2], [4]), ([], []), ([6], [6]), ([7, 5], [7]), ([], []), ([9], [9]), ([10, 8], [10]), ([], []), ([12], [12]), ([13], [13]), ([14], [14]), ([], []), ([16], [16]), ([17], [17]), ([15, 18], [15, 18]), ([], []), ([20], [20]), ([21, 11], [21]), ([], []), ([], []), ([24], [24]), ([25, 22], [25]), ([], []), ([27], [27]), ([], []), ([29], [29]), ([2, 5, 8, 11, 19, 22, 23, 26, 28, 30], [2, 5, 8, 11, 19, 22, 23, 26, 28, 30]), ([31, 26], [31]), ([32, 32, 0, 1, 2, 3, 4, 5, 6, 7, 8, 9, 10, 11, 12, 13, 14, 15, 16, 17, 18, 19, 20, 21, 22, 23, 24, 25, 26, 27, 28, 29, 30, 31, 32], [32])])
def tcp_Build.B4 : List Nat := [0, 1, 3, 0, 8, 31, 0, 64, 255, 0, 512, 2047, 0, 4096, 12288, 28672, 0, 65536, 196608, 520192, 0, 1048576, 3149823, 0, 0, 16777216, 57675775, 0, 134217728, 0, 536870912, 2147483647, 4294967295, 8589934591]
theorem tcp_Build.tab4 : rtab .any (opsOf Try.f25 4) = tcp_Build.T4 := by kernel_rfl
theorem tcp_Build.bits4 : waitsOk tcp_Build.T4.2 tcp_Build.B4 = true := by kernel_rfl
set_option maxHeartbeats 8000000 in
set_option maxRecDepth 100000 in
theorem tcp_Build.calls (k : Nat) (a0 : Int) (a1 : Int) (a2_0 : Int) (a2_1 : Int) (a2_2 : Int) (a2_3 : Int) (a2_4 : Int) (a2_5 : Int) (a2_6 : Int) (P2_7_ : Nat → Prop) (A2_7 : Option Addr) (c2_7 : Nat) (l2_7 : List Int) (P2_8_ : Nat → Prop) (A2_8 : Option Addr) (c2_8 : Nat) (l2_8 : List Int) (r1 : List Int) (r2 : Int) (w : World) (hs2_7 : Kd.V (Kd.int .u8) 5 w w.heap.size (fun k_ => P2_7_ k_) (.slice A2_7 l2_7.length c2_7) l2_7) (hs2_8 : Kd.V (Kd.int .u8) 5 w w.heap.size (fun k_ => P2_8_ k_) (.slice A2_8 l2_8.length c2_8) l2_8) (h : tcp_Build.f k a0 a1 a2_0 a2_1 a2_2 a2_3 a2_4 a2_5 a2_6 l2_7 l2_8 = some (r1, r2)) :
    Calls Try.prog 25 #[.int .u32 a0, .int .u32 a1, .agg #[.int .i64 a2_0, .int .i64 a2_1, .int .u32 a2_2, .int .u32 a2_3, .int .i64 a2_4, .int .i64 a2_5, .int .i64 a2_6, .slice A2_7 l2_7.length c2_7, .slice A2_8 l2_8.length c2_8]] w fun e w' => ∃ v0_ : Value, e = .returned (.tuple #[v0_, .int .i64 r2]) ∧ Kd.R (Kd.int .u8) 5 w' w.heap.size (fun k_ => (w.heap.size ≤ k_)) v0_ r1 ∧ Below w.heap.size w w' := by
  have hu27 := Try.underlying27
  have HO2_7 := Aside0.mk (show Kd.V (Kd.int .u8) 5 w w.heap.size (fun k_ => ((P2_7_ k_ ∨ P2_8_ k_) ∨ w.heap.size ≤ k_)) (.slice A2_7 l2_7.length c2_7) l2_7 from Kd.V_mono hs2_7 (fun k_ hk => by first | exact .inl (.inl hk) | exact okw hk))
  have HO2_8 := Aside0.mk (show Kd.V (Kd.int .u8) 5 w w.heap.size (fun k_ => ((P2_7_ k_ ∨ P2_8_ k_) ∨ w.heap.size ≤ k_)) (.slice A2_8 l2_8.length c2_8) l2_8 from Kd.V_mono hs2_8 (fun k_ hk => by first | exact .inl (.inr hk) | exact okw hk))
  have HB := Aside0.mk (Below.refl w.heap.size w)
  have H : ((tcp_isIn.f a2_0 65535).bind fun t161 => (if t161 = true then ((tcp_isIn.f a2_1 65535).bind fun t162 => (if t162 = true then ((tcp_isIn.f a2_5 65535).bind fun t163 => (if t163 = true then ((tcp_isIn.f a2_6 65535).bind fun t164 => (if t164 = true then ((tcp_isIn.f a2_4 63).bind fun t165 => (if t165 = true then (if ((l2_7.length : Int) % 4) = 0 then (if (l2_7.length : Int) > 40 then (tcp_Build.j0 k a0 a1 (wrap64 (20 + (l2_7.length : Int))) true a2_0 a2_1 a2_2 a2_3 a2_4 a2_5 a2_6 l2_7 l2_8) else (tcp_Build.j0 k a0 a1 (wrap64 (20 + (l2_7.length : Int))) (decide ((l2_8.length : Int) > (wrap64 (65000 - (wrap64 (20 + (l2_7.length : Int))))))) a2_0 a2_1 a2_2 a2_3 a2_4 a2_5 a2_6 l2_7 l2_8)) else (tcp_Build.j0 k a0 a1 (wrap64 (20 + (l2_7.length : Int))) true a2_0 a2_1 a2_2 a2_3 a2_4 a2_5 a2_6 l2_7 l2_8)) else (tcp_Build.j0 k a0 a1 (wrap64 (20 + (l2_7.length : Int))) true a2_0 a2_1 a2_2 a2_3 a2_4 a2_5 a2_6 l2_7 l2_8))) else (tcp_Build.j0 k a0 a1 (wrap64 (20 + (l2_7.length : Int))) true a2_0 a2_1 a2_2 a2_3 a2_4 a2_5 a2_6 l2_7 l2_8))) else (tcp_Build.j0 k a0 a1 (wrap64 (20 + (l2_7.length : Int))) true a2_0 a2_1 a2_2 a2_3 a2_4 a2_5 a2_6 l2_7 l2_8))) else (tcp_Build.j0 k a0 a1 (wrap64 (20 + (l2_7.length : Int))) true a2_0 a2_1 a2_2 a2_3 a2_4 a2_5 a2_6 l2_7 l2_8))) else (tcp_Build.j0 k a0 a1 (wrap64 (20 + (l2_7.length : Int))) true a2_0 a2_1 a2_2 a2_3 a2_4 a2_5 a2_6 l2_7 l2_8))) = some (r1, r2) := h
  clear h
  have HC4 := Aside0.mk H
  clear H
  go_enter Try.func25, Try.ntmps25
  go_upto_region 2 with (first | ((with_reducible refine gate_dst (N := 5) rfl ?_); (try (refine gate_guard (by rfl) ?_; dsimp only)); refine box_event ?hg (N := 5) ?hd (cs := #[.int .i64 a2_0, .int .i64 a2_1, .int .u32 a2_2, .int .u32 a2_3, .int .i64 a2_4, .int .i64 a2_5, .int .i64 a2_6, .slice A2_7 l2_7.length c2_7, .slice A2_8 l2_8.length c2_8]) (t := 27) ?hr ?_; (case hd => rfl); (case hg => rfl); (case hr => first | (go_simp; done) | (go_simp; rfl)); intro gb160 hg w5 hbox hb; have n0_ := Aside0.mk (Kd.V_below (Kd.V_elderB (by (with_reducible repeat (first | apply Kd.V_alloc | apply Kd.V_drewN | apply Kd.V_drew)); exact HO2_7.out) gb160 (Nat.le_of_eq hg.symm)) hb); have n1_ := Aside0.mk (Kd.V_below (Kd.V_elderB (by (with_reducible repeat (first | apply Kd.V_alloc | apply Kd.V_drewN | apply Kd.V_drew)); exact HO2_8.out) gb160 (Nat.le_of_eq hg.symm)) hb); have n2_ := Aside0.mk (below_step (by repeat (first | (with_reducible first | exact HB.out | apply below_alloc | apply pw_below_drewN | apply below_drew1) | exact HB.out)) hb); have n3_ := Aside0.mk (hbox); have n4_ := Aside0.mk ((by rw [hg]; exact (below_size (by repeat (first | (with_reducible first | exact HB.out | apply below_alloc | apply pw_below_drewN | apply below_drew1) | exact HB.out))) : w.heap.size ≤ gb160)); have n5_ := Aside0.mk ((by rw [hg]; exact (below_size (by repeat (first | (with_reducible first | exact HB.out | apply below_alloc | apply pw_below_drewN | apply below_drew1) | exact HB.out))) : w.heap.size ≤ gb160)); clear HO2_7; clear HO2_8; clear HB; have HO2_7 := n0_; have HO2_8 := n1_; have HB := n2_; have BK160 := n3_; have GW160 := n4_; have GE160 := n5_; clear n0_ n1_ n2_ n3_ n4_ n5_; clear hb hbox hg; have hcz6_0 : w5.cell? ⟨gb160, 0, none⟩ = some (.int .i64 a2_0) := (blk_cell BK160.out 0).trans rfl; have hcz6_1 : w5.cell? ⟨gb160, 1, none⟩ = some (.int .i64 a2_1) := (blk_cell BK160.out 1).trans rfl; have hcz6_2 : w5.cell? ⟨gb160, 2, none⟩ = some (.int .u32 a2_2) := (blk_cell BK160.out 2).trans rfl; have hcz6_3 : w5.cell? ⟨gb160, 3, none⟩ = some (.int .u32 a2_3) := (blk_cell BK160.out 3).trans rfl; have hcz6_4 : w5.cell? ⟨gb160, 4, none⟩ = some (.int .i64 a2_4) := (blk_cell BK160.out 4).trans rfl; have hcz6_5 : w5.cell? ⟨gb160, 5, none⟩ = some (.int .i64 a2_5) := (blk_cell BK160.out 5).trans rfl; have hcz6_6 : w5.cell? ⟨gb160, 6, none⟩ = some (.int .i64 a2_6) := (blk_cell BK160.out 6).trans rfl; have hcz6_7 : w5.cell? ⟨gb160, 7, none⟩ = some (.slice A2_7 l2_7.length c2_7) := (blk_cell BK160.out 7).trans rfl; have hcz6_8 : w5.cell? ⟨gb160, 8, none⟩ = some (.slice A2_8 l2_8.length c2_8) := (blk_cell BK160.out 8).trans rfl; have hfz6_0 := blk_frozen BK160.out 0; have hfz6_1 := blk_frozen BK160.out 1; have hfz6_2 := blk_frozen BK160.out 2; have hfz6_3 := blk_frozen BK160.out 3; have hfz6_4 := blk_frozen BK160.out 4; have hfz6_5 := blk_frozen BK160.out 5; have hfz6_6 := blk_frozen BK160.out 6; have hfz6_7 := blk_frozen BK160.out 7; have hfz6_8 := blk_frozen BK160.out 8))
  (try simp only [Act.put, List.setIfInBounds_toArray, List.set_cons_zero, List.set_cons_succ])
  go_cut [62] (fun v62 wc => ∃ (kq : Nat) (x62_3 : Bool), v62 = .bool x62_3 ∧ Aside0 (tcp_Build.j0 kq a0 a1 (wrap64 (20 + (l2_7.length : Int))) x62_3 a2_0 a2_1 a2_2 a2_3 a2_4 a2_5 a2_6 l2_7 l2_8 = some (r1, r2)) ∧ Aside0 (kq ≤ k) ∧ Aside0 (Kd.V (Kd.int .u8) 5 wc w.heap.size (fun k_ => ((P2_7_ k_ ∨ P2_8_ k_) ∨ w.heap.size ≤ k_) ∧ k_ ≠ gb160) (.slice A2_7 l2_7.length c2_7) l2_7) ∧ Aside0 (Kd.V (Kd.int .u8) 5 wc w.heap.size (fun k_ => ((P2_7_ k_ ∨ P2_8_ k_) ∨ w.heap.size ≤ k_) ∧ k_ ≠ gb160) (.slice A2_8 l2_8.length c2_8) l2_8) ∧ Aside0 (wc.heap[gb160]? = some (.cells #[.int .i64 a2_0, .int .i64 a2_1, .int .u32 a2_2, .int .u32 a2_3, .int .i64 a2_4, .int .i64 a2_5, .int .i64 a2_6, (.slice A2_7 l2_7.length c2_7), (.slice A2_8 l2_8.length c2_8)] 27 (0, 0))) ∧ Aside0 (Below w.heap.size w wc))
  case first =>
    have H := HC4.out
    clear HC4
    replace H := Option.bind_eq_some_iff.mp H
    obtain ⟨t161, A70, H⟩ := H
    replace H : (if t161 = true then ((tcp_isIn.f a2_1 65535).bind fun t162 => (if t162 = true then ((tcp_isIn.f a2_5 65535).bind fun t163 => (if t163 = true then ((tcp_isIn.f a2_6 65535).bind fun t164 => (if t164 = true then ((tcp_isIn.f a2_4 63).bind fun t165 => (if t165 = true then (if ((l2_7.length : Int) % 4) = 0 then (if (l2_7.length : Int) > 40 then (tcp_Build.j0 k a0 a1 (wrap64 (20 + (l2_7.length : Int))) true a2_0 a2_1 a2_2 a2_3 a2_4 a2_5 a2_6 l2_7 l2_8) else (tcp_Build.j0 k a0 a1 (wrap64 (20 + (l2_7.length : Int))) (decide ((l2_8.length : Int) > (wrap64 (65000 - (wrap64 (20 + (l2_7.length : Int))))))) a2_0 a2_1 a2_2 a2_3 a2_4 a2_5 a2_6 l2_7 l2_8)) else (tcp_Build.j0 k a0 a1 (wrap64 (20 + (l2_7.length : Int))) true a2_0 a2_1 a2_2 a2_3 a2_4 a2_5 a2_6 l2_7 l2_8)) else (tcp_Build.j0 k a0 a1 (wrap64 (20 + (l2_7.length : Int))) true a2_0 a2_1 a2_2 a2_3 a2_4 a2_5 a2_6 l2_7 l2_8))) else (tcp_Build.j0 k a0 a1 (wrap64 (20 + (l2_7.length : Int))) true a2_0 a2_1 a2_2 a2_3 a2_4 a2_5 a2_6 l2_7 l2_8))) else (tcp_Build.j0 k a0 a1 (wrap64 (20 + (l2_7.length : Int))) true a2_0 a2_1 a2_2 a2_3 a2_4 a2_5 a2_6 l2_7 l2_8))) else (tcp_Build.j0 k a0 a1 (wrap64 (20 + (l2_7.length : Int))) true a2_0 a2_1 a2_2 a2_3 a2_4 a2_5 a2_6 l2_7 l2_8))) else (tcp_Build.j0 k a0 a1 (wrap64 (20 + (l2_7.length : Int))) true a2_0 a2_1 a2_2 a2_3 a2_4 a2_5 a2_6 l2_7 l2_8)) = some (r1, r2) := H
    have A7 := Aside0.mk A70
    clear A70
    by_cases c8 : t161 = true
    · subst c8
      have H1 : ((tcp_isIn.f a2_1 65535).bind fun t162 => (if t162 = true then ((tcp_isIn.f a2_5 65535).bind fun t163 => (if t163 = true then ((tcp_isIn.f a2_6 65535).bind fun t164 => (if t164 = true then ((tcp_isIn.f a2_4 63).bind fun t165 => (if t165 = true then (if ((l2_7.length : Int) % 4) = 0 then (if (l2_7.length : Int) > 40 then (tcp_Build.j0 k a0 a1 (wrap64 (20 + (l2_7.length : Int))) true a2_0 a2_1 a2_2 a2_3 a2_4 a2_5 a2_6 l2_7 l2_8) else (tcp_Build.j0 k a0 a1 (wrap64 (20 + (l2_7.length : Int))) (decide ((l2_8.length : Int) > (wrap64 (65000 - (wrap64 (20 + (l2_7.length : Int))))))) a2_0 a2_1 a2_2 a2_3 a2_4 a2_5 a2_6 l2_7 l2_8)) else (tcp_Build.j0 k a0 a1 (wrap64 (20 + (l2_7.length : Int))) true a2_0 a2_1 a2_2 a2_3 a2_4 a2_5 a2_6 l2_7 l2_8)) else (tcp_Build.j0 k a0 a1 (wrap64 (20 + (l2_7.length : Int))) true a2_0 a2_1 a2_2 a2_3 a2_4 a2_5 a2_6 l2_7 l2_8))) else (tcp_Build.j0 k a0 a1 (wrap64 (20 + (l2_7.length : Int))) true a2_0 a2_1 a2_2 a2_3 a2_4 a2_5 a2_6 l2_7 l2_8))) else (tcp_Build.j0 k a0 a1 (wrap64 (20 + (l2_7.length : Int))) true a2_0 a2_1 a2_2 a2_3 a2_4 a2_5 a2_6 l2_7 l2_8))) else (tcp_Build.j0 k a0 a1 (wrap64 (20 + (l2_7.length : Int))) true a2_0 a2_1 a2_2 a2_3 a2_4 a2_5 a2_6 l2_7 l2_8))) = some (r1, r2) := by rw [if_pos rfl] at H; exact H
      clear H
      have H := H1
      clear H1
      replace H := Option.bind_eq_some_iff.mp H
      obtain ⟨t162, A90, H⟩ := H
      replace H : (if t162 = true then ((tcp_isIn.f a2_5 65535).bind fun t163 => (if t163 = true then ((tcp_isIn.f a2_6 65535).bind fun t164 => (if t164 = true then ((tcp_isIn.f a2_4 63).bind fun t165 => (if t165 = true then (if ((l2_7.length : Int) % 4) = 0 then (if (l2_7.length : Int) > 40 then (tcp_Build.j0 k a0 a1 (wrap64 (20 + (l2_7.length : Int))) true a2_0 a2_1 a2_2 a2_3 a2_4 a2_5 a2_6 l2_7 l2_8) else (tcp_Build.j0 k a0 a1 (wrap64 (20 + (l2_7.length : Int))) (decide ((l2_8.length : Int) > (wrap64 (65000 - (wrap64 (20 + (l2_7.length : Int))))))) a2_0 a2_1 a2_2 a2_3 a2_4 a2_5 a2_6 l2_7 l2_8)) else (tcp_Build.j0 k a0 a1 (wrap64 (20 + (l2_7.length : Int))) true a2_0 a2_1 a2_2 a2_3 a2_4 a2_5 a2_6 l2_7 l2_8)) else (tcp_Build.j0 k a0 a1 (wrap64 (20 + (l2_7.length : Int))) true a2_0 a2_1 a2_2 a2_3 a2_4 a2_5 a2_6 l2_7 l2_8))) else (tcp_Build.j0 k a0 a1 (wrap64 (20 + (l2_7.length : Int))) true a2_0 a2_1 a2_2 a2_3 a2_4 a2_5 a2_6 l2_7 l2_8))) else (tcp_Build.j0 k a0 a1 (wrap64 (20 + (l2_7.length : Int))) true a2_0 a2_1 a2_2 a2_3 a2_4 a2_5 a2_6 l2_7 l2_8))) else (tcp_Build.j0 k a0 a1 (wrap64 (20 + (l2_7.length : Int))) true a2_0 a2_1 a2_2 a2_3 a2_4 a2_5 a2_6 l2_7 l2_8)) = some (r1, r2) := H
      have A9 := Aside0.mk A90
      clear A90
      by_cases c10 : t162 = true
      · subst c10
        have H1 : ((tcp_isIn.f a2_5 65535).bind fun t163 => (if t163 = true then ((tcp_isIn.f a2_6 65535).bind fun t164 => (if t164 = true then ((tcp_isIn.f a2_4 63).bind fun t165 => (if t165 = true then (if ((l2_7.length : Int) % 4) = 0 then (if (l2_7.length : Int) > 40 then (tcp_Build.j0 k a0 a1 (wrap64 (20 + (l2_7.length : Int))) true a2_0 a2_1 a2_2 a2_3 a2_4 a2_5 a2_6 l2_7 l2_8) else (tcp_Build.j0 k a0 a1 (wrap64 (20 + (l2_7.length : Int))) (decide ((l2_8.length : Int) > (wrap64 (65000 - (wrap64 (20 + (l2_7.length : Int))))))) a2_0 a2_1 a2_2 a2_3 a2_4 a2_5 a2_6 l2_7 l2_8)) else (tcp_Build.j0 k a0 a1 (wrap64 (20 + (l2_7.length : Int))) true a2_0 a2_1 a2_2 a2_3 a2_4 a2_5 a2_6 l2_7 l2_8)) else (tcp_Build.j0 k a0 a1 (wrap64 (20 + (l2_7.length : Int))) true a2_0 a2_1 a2_2 a2_3 a2_4 a2_5 a2_6 l2_7 l2_8))) else (tcp_Build.j0 k a0 a1 (wrap64 (20 + (l2_7.length : Int))) true a2_0 a2_1 a2_2 a2_3 a2_4 a2_5 a2_6 l2_7 l2_8))) else (tcp_Build.j0 k a0 a1 (wrap64 (20 + (l2_7.length : Int))) true a2_0 a2_1 a2_2 a2_3 a2_4 a2_5 a2_6 l2_7 l2_8))) = some (r1, r2) := by rw [if_pos rfl] at H; exact H
        clear H
        have H := H1
        clear H1
        replace H := Option.bind_eq_some_iff.mp H
        obtain ⟨t163, A110, H⟩ := H
        replace H : (if t163 = true then ((tcp_isIn.f a2_6 65535).bind fun t164 => (if t164 = true then ((tcp_isIn.f a2_4 63).bind fun t165 => (if t165 = true then (if ((l2_7.length : Int) % 4) = 0 then (if (l2_7.length : Int) > 40 then (tcp_Build.j0 k a0 a1 (wrap64 (20 + (l2_7.length : Int))) true a2_0 a2_1 a2_2 a2_3 a2_4 a2_5 a2_6 l2_7 l2_8) else (tcp_Build.j0 k a0 a1 (wrap64 (20 + (l2_7.length : Int))) (decide ((l2_8.length : Int) > (wrap64 (65000 - (wrap64 (20 + (l2_7.length : Int))))))) a2_0 a2_1 a2_2 a2_3 a2_4 a2_5 a2_6 l2_7 l2_8)) else (tcp_Build.j0 k a0 a1 (wrap64 (20 + (l2_7.length : Int))) true a2_0 a2_1 a2_2 a2_3 a2_4 a2_5 a2_6 l2_7 l2_8)) else (tcp_Build.j0 k a0 a1 (wrap64 (20 + (l2_7.length : Int))) true a2_0 a2_1 a2_2 a2_3 a2_4 a2_5 a2_6 l2_7 l2_8))) else (tcp_Build.j0 k a0 a1 (wrap64 (20 + (l2_7.length : Int))) true a2_0 a2_1 a2_2 a2_3 a2_4 a2_5 a2_6 l2_7 l2_8))) else (tcp_Build.j0 k a0 a1 (wrap64 (20 + (l2_7.length : Int))) true a2_0 a2_1 a2_2 a2_3 a2_4 a2_5 a2_6 l2_7 l2_8)) = some (r1, r2) := H
        have A11 := Aside0.mk A110
        clear A110
        by_cases c12 : t163 = true
        · subst c12
          have H1 : ((tcp_isIn.f a2_6 65535).bind fun t164 => (if t164 = true then ((tcp_isIn.f a2_4 63).bind fun t165 => (if t165 = true then (if ((l2_7.length : Int) % 4) = 0 then (if (l2_7.length : Int) > 40 then (tcp_Build.j0 k a0 a1 (wrap64 (20 + (l2_7.length : Int))) true a2_0 a2_1 a2_2 a2_3 a2_4 a2_5 a2_6 l2_7 l2_8) else (tcp_Build.j0 k a0 a1 (wrap64 (20 + (l2_7.length : Int))) (decide ((l2_8.length : Int) > (wrap64 (65000 - (wrap64 (20 + (l2_7.length : Int))))))) a2_0 a2_1 a2_2 a2_3 a2_4 a2_5 a2_6 l2_7 l2_8)) else (tcp_Build.j0 k a0 a1 (wrap64 (20 + (l2_7.length : Int))) true a2_0 a2_1 a2_2 a2_3 a2_4 a2_5 a2_6 l2_7 l2_8)) else (tcp_Build.j0 k a0 a1 (wrap64 (20 + (l2_7.length : Int))) true a2_0 a2_1 a2_2 a2_3 a2_4 a2_5 a2_6 l2_7 l2_8))) else (tcp_Build.j0 k a0 a1 (wrap64 (20 + (l2_7.length : Int))) true a2_0 a2_1 a2_2 a2_3 a2_4 a2_5 a2_6 l2_7 l2_8))) = some (r1, r2) := by rw [if_pos rfl] at H; exact H
          clear H
          have H := H1
          clear H1
          replace H := Option.bind_eq_some_iff.mp H
          obtain ⟨t164, A130, H⟩ := H
          replace H : (if t164 = true then ((tcp_isIn.f a2_4 63).bind fun t165 => (if t165 = true then (if ((l2_7.length : Int) % 4) = 0 then (if (l2_7.length : Int) > 40 then (tcp_Build.j0 k a0 a1 (wrap64 (20 + (l2_7.length : Int))) true a2_0 a2_1 a2_2 a2_3 a2_4 a2_5 a2_6 l2_7 l2_8) else (tcp_Build.j0 k a0 a1 (wrap64 (20 + (l2_7.length : Int))) (decide ((l2_8.length : Int) > (wrap64 (65000 - (wrap64 (20 + (l2_7.length : Int))))))) a2_0 a2_1 a2_2 a2_3 a2_4 a2_5 a2_6 l2_7 l2_8)) else (tcp_Build.j0 k a0 a1 (wrap64 (20 + (l2_7.length : Int))) true a2_0 a2_1 a2_2 a2_3 a2_4 a2_5 a2_6 l2_7 l2_8)) else (tcp_Build.j0 k a0 a1 (wrap64 (20 + (l2_7.length : Int))) true a2_0 a2_1 a2_2 a2_3 a2_4 a2_5 a2_6 l2_7 l2_8))) else (tcp_Build.j0 k a0 a1 (wrap64 (20 + (l2_7.length : Int))) true a2_0 a2_1 a2_2 a2_3 a2_4 a2_5 a2_6 l2_7 l2_8)) = some (r1, r2) := H
          have A13 := Aside0.mk A130
          clear A130
          by_cases c14 : t164 = true
          · subst c14
            have H1 : ((tcp_isIn.f a2_4 63).bind fun t165 => (if t165 = true then (if ((l2_7.length : Int) % 4) = 0 then (if (l2_7.length : Int) > 40 then (tcp_Build.j0 k a0 a1 (wrap64 (20 + (l2_7.length : Int))) true a2_0 a2_1 a2_2 a2_3 a2_4 a2_5 a2_6 l2_7 l2_8) else (tcp_Build.j0 k a0 a1 (wrap64 (20 + (l2_7.length : Int))) (decide ((l2_8.length : Int) > (wrap64 (65000 - (wrap64 (20 + (l2_7.length : Int))))))) a2_0 a2_1 a2_2 a2_3 a2_4 a2_5 a2_6 l2_7 l2_8)) else (tcp_Build.j0 k a0 a1 (wrap64 (20 + (l2_7.length : Int))) true a2_0 a2_1 a2_2 a2_3 a2_4 a2_5 a2_6 l2_7 l2_8)) else (tcp_Build.j0 k a0 a1 (wrap64 (20 + (l2_7.length : Int))) true a2_0 a2_1 a2_2 a2_3 a2_4 a2_5 a2_6 l2_7 l2_8))) = some (r1, r2) := by rw [if_pos rfl] at H; exact H
            clear H
            have H := H1
            clear H1
            replace H := Option.bind_eq_some_iff.mp H
            obtain ⟨t165, A150, H⟩ := H
            replace H : (if t165 = true then (if ((l2_7.length : Int) % 4) = 0 then (if (l2_7.length : Int) > 40 then (tcp_Build.j0 k a0 a1 (wrap64 (20 + (l2_7.length : Int))) true a2_0 a2_1 a2_2 a2_3 a2_4 a2_5 a2_6 l2_7 l2_8) else (tcp_Build.j0 k a0 a1 (wrap64 (20 + (l2_7.length : Int))) (decide ((l2_8.length : Int) > (wrap64 (65000 - (wrap64 (20 + (l2_7.length : Int))))))) a2_0 a2_1 a2_2 a2_3 a2_4 a2_5 a2_6 l2_7 l2_8)) else (tcp_Build.j0 k a0 a1 (wrap64 (20 + (l2_7.length : Int))) true a2_0 a2_1 a2_2 a2_3 a2_4 a2_5 a2_6 l2_7 l2_8)) else (tcp_Build.j0 k a0 a1 (wrap64 (20 + (l2_7.length : Int))) true a2_0 a2_1 a2_2 a2_3 a2_4 a2_5 a2_6 l2_7 l2_8)) = some (r1, r2) := H
            have A15 := Aside0.mk A150
            clear A150
            by_cases c16 : t165 = true
            · subst c16
              have H1 : (if ((l2_7.length : Int) % 4) = 0 then (if (l2_7.length : Int) > 40 then (tcp_Build.j0 k a0 a1 (wrap64 (20 + (l2_7.length : Int))) true a2_0 a2_1 a2_2 a2_3 a2_4 a2_5 a2_6 l2_7 l2_8) else (tcp_Build.j0 k a0 a1 (wrap64 (20 + (l2_7.length : Int))) (decide ((l2_8.length : Int) > (wrap64 (65000 - (wrap64 (20 + (l2_7.length : Int))))))) a2_0 a2_1 a2_2 a2_3 a2_4 a2_5 a2_6 l2_7 l2_8)) else (tcp_Build.j0 k a0 a1 (wrap64 (20 + (l2_7.length : Int))) true a2_0 a2_1 a2_2 a2_3 a2_4 a2_5 a2_6 l2_7 l2_8)) = some (r1, r2) := by rw [if_pos rfl] at H; exact H
              clear H
              have H := H1
              clear H1
              by_cases c17 : ((l2_7.length : Int) % 4) = 0
              · rw [if_pos c17] at H
                have c17b0 : (((l2_7.length : Int) % 4) == 0) = true := beq_iff_eq.mpr c17
                have c17b1 : (((l2_7.length : Int) % 4) != 0) = false := bne_eq_false_iff_eq.mpr c17
                clear c17
                (first | rw [c17b0] | (simp only [i64_w, i32_w]; rw [c17b0]) | skip)
                by_cases c18 : (l2_7.length : Int) > 40
                · rw [if_pos c18] at H
                  have c18b0 : decide (40 < (l2_7.length : Int)) = true := decide_eq_true c18
                  have c18b1 : decide (40 < l2_7.length) = true := decide_eq_true (by omega)
                  clear c18
                  have H' := Aside0.mk H
                  clear H
                  have hcz19_0 : w5.cell? ⟨gb160, 0, none⟩ = some (.int .i64 a2_0) := (blk_cell BK160.out 0).trans rfl
                  have hcz19_1 : w5.cell? ⟨gb160, 1, none⟩ = some (.int .i64 a2_1) := (blk_cell BK160.out 1).trans rfl
                  have hcz19_2 : w5.cell? ⟨gb160, 2, none⟩ = some (.int .u32 a2_2) := (blk_cell BK160.out 2).trans rfl
                  have hcz19_3 : w5.cell? ⟨gb160, 3, none⟩ = some (.int .u32 a2_3) := (blk_cell BK160.out 3).trans rfl
                  have hcz19_4 : w5.cell? ⟨gb160, 4, none⟩ = some (.int .i64 a2_4) := (blk_cell BK160.out 4).trans rfl
                  have hcz19_5 : w5.cell? ⟨gb160, 5, none⟩ = some (.int .i64 a2_5) := (blk_cell BK160.out 5).trans rfl
                  have hcz19_6 : w5.cell? ⟨gb160, 6, none⟩ = some (.int .i64 a2_6) := (blk_cell BK160.out 6).trans rfl
                  have hcz19_7 : w5.cell? ⟨gb160, 7, none⟩ = some (.slice A2_7 l2_7.length c2_7) := (blk_cell BK160.out 7).trans rfl
                  have hcz19_8 : w5.cell? ⟨gb160, 8, none⟩ = some (.slice A2_8 l2_8.length c2_8) := (blk_cell BK160.out 8).trans rfl
                  have hfz19_0 := blk_frozen BK160.out 0
                  have hfz19_1 := blk_frozen BK160.out 1
                  have hfz19_2 := blk_frozen BK160.out 2
                  have hfz19_3 := blk_frozen BK160.out 3
                  have hfz19_4 := blk_frozen BK160.out 4
                  have hfz19_5 := blk_frozen BK160.out 5
                  have hfz19_6 := blk_frozen BK160.out 6
                  have hfz19_7 := blk_frozen BK160.out 7
                  have hfz19_8 := blk_frozen BK160.out 8
                  go_wp2_with (first | ((with_reducible refine gate_callee (f := 47) rfl ?_); refine goesL_ (some 16) rfl rfl Try.func47 (by kernel_rfl) rfl #[.int .i64 a2_0, .int .i64 65535] rfl (by (try simp only [List.map_toArray, List.map_cons, List.map_nil]); first | done | rfl | (simp only [List.length_drop, List.length_take]; rfl)) ?_; (with_reducible refine (tcp_isIn.calls a2_0 65535 true _ A7.out).mono ?_); rintro e w' ⟨rfl, ⟨nd, rfl⟩⟩; refine ⟨_, rfl, ?_⟩) | (go_at_call 47; (with_reducible refine (tcp_isIn.calls a2_1 65535 true _ A9.out).mono ?_); rintro e w' ⟨rfl, ⟨nd, rfl⟩⟩) | (go_at_call 47; (with_reducible refine (tcp_isIn.calls a2_5 65535 true _ A11.out).mono ?_); rintro e w' ⟨rfl, ⟨nd, rfl⟩⟩) | (go_at_call 47; (with_reducible refine (tcp_isIn.calls a2_6 65535 true _ A13.out).mono ?_); rintro e w' ⟨rfl, ⟨nd, rfl⟩⟩) | (go_at_call 47; (with_reducible refine (tcp_isIn.calls a2_4 63 true _ A15.out).mono ?_); rintro e w' ⟨rfl, ⟨nd, rfl⟩⟩))
                  go_meet
                  case rel => exact ⟨_, (true), (by first | rfl | (simp; done) | (simp [*]; done)), H', ⟨by first | omega | exact Nat.le_refl _⟩, ⟨by (with_reducible repeat (first | apply Kd.V_alloc | apply Kd.V_drewN | apply Kd.V_drew)); exact HO2_7.out⟩, ⟨by (with_reducible repeat (first | apply Kd.V_alloc | apply Kd.V_drewN | apply Kd.V_drew)); exact HO2_8.out⟩, ⟨by (with_reducible repeat (first | refine blk_drewN ?_ _ | refine blk_drew ?_ | refine blk_alloc ?_ _)); exact BK160.out⟩, ⟨by repeat (first | (with_reducible first | exact HB.out | apply below_alloc | apply pw_below_drewN | apply below_drew1 | refine below_set ?_ GE160.out) | exact HB.out)⟩⟩
                · rw [if_neg c18] at H
                  have c18b0 : decide (40 < (l2_7.length : Int)) = false := decide_eq_false c18
                  have c18b1 : decide (40 < l2_7.length) = false := decide_eq_false (by omega)
                  clear c18
                  have H' := Aside0.mk H
                  clear H
                  have hcz20_0 : w5.cell? ⟨gb160, 0, none⟩ = some (.int .i64 a2_0) := (blk_cell BK160.out 0).trans rfl
                  have hcz20_1 : w5.cell? ⟨gb160, 1, none⟩ = some (.int .i64 a2_1) := (blk_cell BK160.out 1).trans rfl
                  have hcz20_2 : w5.cell? ⟨gb160, 2, none⟩ = some (.int .u32 a2_2) := (blk_cell BK160.out 2).trans rfl
                  have hcz20_3 : w5.cell? ⟨gb160, 3, none⟩ = some (.int .u32 a2_3) := (blk_cell BK160.out 3).trans rfl
                  have hcz20_4 : w5.cell? ⟨gb160, 4, none⟩ = some (.int .i64 a2_4) := (blk_cell BK160.out 4).trans rfl
                  have hcz20_5 : w5.cell? ⟨gb160, 5, none⟩ = some (.int .i64 a2_5) := (blk_cell BK160.out 5).trans rfl
                  have hcz20_6 : w5.cell? ⟨gb160, 6, none⟩ = some (.int .i64 a2_6) := (blk_cell BK160.out 6).trans rfl
                  have hcz20_7 : w5.cell? ⟨gb160, 7, none⟩ = some (.slice A2_7 l2_7.length c2_7) := (blk_cell BK160.out 7).trans rfl
                  have hcz20_8 : w5.cell? ⟨gb160, 8, none⟩ = some (.slice A2_8 l2_8.length c2_8) := (blk_cell BK160.out 8).trans rfl
                  have hfz20_0 := blk_frozen BK160.out 0
                  have hfz20_1 := blk_frozen BK160.out 1
                  have hfz20_2 := blk_frozen BK160.out 2
                  have hfz20_3 := blk_frozen BK160.out 3
                  have hfz20_4 := blk_frozen BK160.out 4
                  have hfz20_5 := blk_frozen BK160.out 5
                  have hfz20_6 := blk_frozen BK160.out 6
                  have hfz20_7 := blk_frozen BK160.out 7
                  have hfz20_8 := blk_frozen BK160.out 8
                  go_wp2_with (first | ((with_reducible refine gate_callee (f := 47) rfl ?_); refine goesL_ (some 16) rfl rfl Try.func47 (by kernel_rfl) rfl #[.int .i64 a2_0, .int .i64 65535] rfl (by (try simp only [List.map_toArray, List.map_cons, List.map_nil]); first | done | rfl | (simp only [List.length_drop, List.length_take]; rfl)) ?_; (with_reducible refine (tcp_isIn.calls a2_0 65535 true _ A7.out).mono ?_); rintro e w' ⟨rfl, ⟨nd, rfl⟩⟩; refine ⟨_, rfl, ?_⟩) | (go_at_call 47; (with_reducible refine (tcp_isIn.calls a2_1 65535 true _ A9.out).mono ?_); rintro e w' ⟨rfl, ⟨nd, rfl⟩⟩) | (go_at_call 47; (with_reducible refine (tcp_isIn.calls a2_5 65535 true _ A11.out).mono ?_); rintro e w' ⟨rfl, ⟨nd, rfl⟩⟩) | (go_at_call 47; (with_reducible refine (tcp_isIn.calls a2_6 65535 true _ A13.out).mono ?_); rintro e w' ⟨rfl, ⟨nd, rfl⟩⟩) | (go_at_call 47; (with_reducible refine (tcp_isIn.calls a2_4 63 true _ A15.out).mono ?_); rintro e w' ⟨rfl, ⟨nd, rfl⟩⟩))
                  go_meet
                  case rel => exact ⟨_, (decide ((l2_8.length : Int) > (wrap64 (65000 - (wrap64 (20 + (l2_7.length : Int))))))), (by first | rfl | (simp; done) | (simp [*]; done)), H', ⟨by first | omega | exact Nat.le_refl _⟩, ⟨by (with_reducible repeat (first | apply Kd.V_alloc | apply Kd.V_drewN | apply Kd.V_drew)); exact HO2_7.out⟩, ⟨by (with_reducible repeat (first | apply Kd.V_alloc | apply Kd.V_drewN | apply Kd.V_drew)); exact HO2_8.out⟩, ⟨by (with_reducible repeat (first | refine blk_drewN ?_ _ | refine blk_drew ?_ | refine blk_alloc ?_ _)); exact BK160.out⟩, ⟨by repeat (first | (with_reducible first | exact HB.out | apply below_alloc | apply pw_below_drewN | apply below_drew1 | refine below_set ?_ GE160.out) | exact HB.out)⟩⟩
              · rw [if_neg c17] at H
                have c17b0 : (((l2_7.length : Int) % 4) == 0) = false := beq_eq_false_iff_ne.mpr c17
                have c17b1 : (((l2_7.length : Int) % 4) != 0) = true := bne_iff_ne.mpr c17
                (first | rw [c17b0] | (simp only [i64_w, i32_w]; rw [c17b0]) | skip)
                have H' := Aside0.mk H
                clear H
                have hcz21_0 : w5.cell? ⟨gb160, 0, none⟩ = some (.int .i64 a2_0) := (blk_cell BK160.out 0).trans rfl
                have hcz21_1 : w5.cell? ⟨gb160, 1, none⟩ = some (.int .i64 a2_1) := (blk_cell BK160.out 1).trans rfl
                have hcz21_2 : w5.cell? ⟨gb160, 2, none⟩ = some (.int .u32 a2_2) := (blk_cell BK160.out 2).trans rfl
                have hcz21_3 : w5.cell? ⟨gb160, 3, none⟩ = some (.int .u32 a2_3) := (blk_cell BK160.out 3).trans rfl
                have hcz21_4 : w5.cell? ⟨gb160, 4, none⟩ = some (.int .i64 a2_4) := (blk_cell BK160.out 4).trans rfl
                have hcz21_5 : w5.cell? ⟨gb160, 5, none⟩ = some (.int .i64 a2_5) := (blk_cell BK160.out 5).trans rfl
                have hcz21_6 : w5.cell? ⟨gb160, 6, none⟩ = some (.int .i64 a2_6) := (blk_cell BK160.out 6).trans rfl
                have hcz21_7 : w5.cell? ⟨gb160, 7, none⟩ = some (.slice A2_7 l2_7.length c2_7) := (blk_cell BK160.out 7).trans rfl
                have hcz21_8 : w5.cell? ⟨gb160, 8, none⟩ = some (.slice A2_8 l2_8.length c2_8) := (blk_cell BK160.out 8).trans rfl
                have hfz21_0 := blk_frozen BK160.out 0
                have hfz21_1 := blk_frozen BK160.out 1
                have hfz21_2 := blk_frozen BK160.out 2
                have hfz21_3 := blk_frozen BK160.out 3
                have hfz21_4 := blk_frozen BK160.out 4
                have hfz21_5 := blk_frozen BK160.out 5
                have hfz21_6 := blk_frozen BK160.out 6
                have hfz21_7 := blk_frozen BK160.out 7
                have hfz21_8 := blk_frozen BK160.out 8
                go_wp2_with (first | ((with_reducible refine gate_callee (f := 47) rfl ?_); refine goesL_ (some 16) rfl rfl Try.func47 (by kernel_rfl) rfl #[.int .i64 a2_0, .int .i64 65535] rfl (by (try simp only [List.map_toArray, List.map_cons, List.map_nil]); first | done | rfl | (simp only [List.length_drop, List.length_take]; rfl)) ?_; (with_reducible refine (tcp_isIn.calls a2_0 65535 true _ A7.out).mono ?_); rintro e w' ⟨rfl, ⟨nd, rfl⟩⟩; refine ⟨_, rfl, ?_⟩) | (go_at_call 47; (with_reducible refine (tcp_isIn.calls a2_1 65535 true _ A9.out).mono ?_); rintro e w' ⟨rfl, ⟨nd, rfl⟩⟩) | (go_at_call 47; (with_reducible refine (tcp_isIn.calls a2_5 65535 true _ A11.out).mono ?_); rintro e w' ⟨rfl, ⟨nd, rfl⟩⟩) | (go_at_call 47; (with_reducible refine (tcp_isIn.calls a2_6 65535 true _ A13.out).mono ?_); rintro e w' ⟨rfl, ⟨nd, rfl⟩⟩) | (go_at_call 47; (with_reducible refine (tcp_isIn.calls a2_4 63 true _ A15.out).mono ?_); rintro e w' ⟨rfl, ⟨nd, rfl⟩⟩))
                go_meet
                case rel => exact ⟨_, (true), (by first | rfl | (simp; done) | (simp [*]; done)), H', ⟨by first | omega | exact Nat.le_refl _⟩, ⟨by (with_reducible repeat (first | apply Kd.V_alloc | apply Kd.V_drewN | apply Kd.V_drew)); exact HO2_7.out⟩, ⟨by (with_reducible repeat (first | apply Kd.V_alloc | apply Kd.V_drewN | apply Kd.V_drew)); exact HO2_8.out⟩, ⟨by (with_reducible repeat (first | refine blk_drewN ?_ _ | refine blk_drew ?_ | refine blk_alloc ?_ _)); exact BK160.out⟩, ⟨by repeat (first | (with_reducible first | exact HB.out | apply below_alloc | apply pw_below_drewN | apply below_drew1 | refine below_set ?_ GE160.out) | exact HB.out)⟩⟩
            · replace c16 := Bool.eq_false_iff.mpr c16
              subst c16
              have H1 : (tcp_Build.j0 k a0 a1 (wrap64 (20 + (l2_7.length : Int))) true a2_0 a2_1 a2_2 a2_3 a2_4 a2_5 a2_6 l2_7 l2_8) = some (r1, r2) := by rw [if_neg (show ¬ (false = true) by decide)] at H; exact H
              clear H
              have H := H1
              clear H1
              have H' := Aside0.mk H
              clear H
              have hcz22_0 : w5.cell? ⟨gb160, 0, none⟩ = some (.int .i64 a2_0) := (blk_cell BK160.out 0).trans rfl
              have hcz22_1 : w5.cell? ⟨gb160, 1, none⟩ = some (.int .i64 a2_1) := (blk_cell BK160.out 1).trans rfl
              have hcz22_2 : w5.cell? ⟨gb160, 2, none⟩ = some (.int .u32 a2_2) := (blk_cell BK160.out 2).trans rfl
              have hcz22_3 : w5.cell? ⟨gb160, 3, none⟩ = some (.int .u32 a2_3) := (blk_cell BK160.out 3).trans rfl
              have hcz22_4 : w5.cell? ⟨gb160, 4, none⟩ = some (.int .i64 a2_4) := (blk_cell BK160.out 4).trans rfl
              have hcz22_5 : w5.cell? ⟨gb160, 5, none⟩ = some (.int .i64 a2_5) := (blk_cell BK160.out 5).trans rfl
              have hcz22_6 : w5.cell? ⟨gb160, 6, none⟩ = some (.int .i64 a2_6) := (blk_cell BK160.out 6).trans rfl
              have hcz22_7 : w5.cell? ⟨gb160, 7, none⟩ = some (.slice A2_7 l2_7.length c2_7) := (blk_cell BK160.out 7).trans rfl
              have hcz22_8 : w5.cell? ⟨gb160, 8, none⟩ = some (.slice A2_8 l2_8.length c2_8) := (blk_cell BK160.out 8).trans rfl
              have hfz22_0 := blk_frozen BK160.out 0
              have hfz22_1 := blk_frozen BK160.out 1
              have hfz22_2 := blk_frozen BK160.out 2
              have hfz22_3 := blk_frozen BK160.out 3
              have hfz22_4 := blk_frozen BK160.out 4
              have hfz22_5 := blk_frozen BK160.out 5
              have hfz22_6 := blk_frozen BK160.out 6
              have hfz22_7 := blk_frozen BK160.out 7
              have hfz22_8 := blk_frozen BK160.out 8
              go_wp2_with (first | ((with_reducible refine gate_callee (f := 47) rfl ?_); refine goesL_ (some 16) rfl rfl Try.func47 (by kernel_rfl) rfl #[.int .i64 a2_0, .int .i64 65535] rfl (by (try simp only [List.map_toArray, List.map_cons, List.map_nil]); first | done | rfl | (simp only [List.length_drop, List.length_take]; rfl)) ?_; (with_reducible refine (tcp_isIn.calls a2_0 65535 true _ A7.out).mono ?_); rintro e w' ⟨rfl, ⟨nd, rfl⟩⟩; refine ⟨_, rfl, ?_⟩) | (go_at_call 47; (with_reducible refine (tcp_isIn.calls a2_1 65535 true _ A9.out).mono ?_); rintro e w' ⟨rfl, ⟨nd, rfl⟩⟩) | (go_at_call 47; (with_reducible refine (tcp_isIn.calls a2_5 65535 true _ A11.out).mono ?_); rintro e w' ⟨rfl, ⟨nd, rfl⟩⟩) | (go_at_call 47; (with_reducible refine (tcp_isIn.calls a2_6 65535 true _ A13.out).mono ?_); rintro e w' ⟨rfl, ⟨nd, rfl⟩⟩) | (go_at_call 47; (with_reducible refine (tcp_isIn.calls a2_4 63 false _ A15.out).mono ?_); rintro e w' ⟨rfl, ⟨nd, rfl⟩⟩))
              go_meet
              case rel => exact ⟨_, (true), (by first | rfl | (simp; done) | (simp [*]; done)), H', ⟨by first | omega | exact Nat.le_refl _⟩, ⟨by (with_reducible repeat (first | apply Kd.V_alloc | apply Kd.V_drewN | apply Kd.V_drew)); exact HO2_7.out⟩, ⟨by (with_reducible repeat (first | apply Kd.V_alloc | apply Kd.V_drewN | apply Kd.V_drew)); exact HO2_8.out⟩, ⟨by (with_reducible repeat (first | refine blk_drewN ?_ _ | refine blk_drew ?_ | refine blk_alloc ?_ _)); exact BK160.out⟩, ⟨by repeat (first | (with_reducible first | exact HB.out | apply below_alloc | apply pw_below_drewN | apply below_drew1 | refine below_set ?_ GE160.out) | exact HB.out)⟩⟩
          · replace c14 := Bool.eq_false_iff.mpr c14
            subst c14
            have H1 : (tcp_Build.j0 k a0 a1 (wrap64 (20 + (l2_7.length : Int))) true a2_0 a2_1 a2_2 a2_3 a2_4 a2_5 a2_6 l2_7 l2_8) = some (r1, r2) := by rw [if_neg (show ¬ (false = true) by decide)] at H; exact H
            clear H
            have H := H1
            clear H1
            have H' := Aside0.mk H
            clear H
            have hcz23_0 : w5.cell? ⟨gb160, 0, none⟩ = some (.int .i64 a2_0) := (blk_cell BK160.out 0).trans rfl
            have hcz23_1 : w5.cell? ⟨gb160, 1, none⟩ = some (.int .i64 a2_1) := (blk_cell BK160.out 1).trans rfl
            have hcz23_2 : w5.cell? ⟨gb160, 2, none⟩ = some (.int .u32 a2_2) := (blk_cell BK160.out 2).trans rfl
            have hcz23_3 : w5.cell? ⟨gb160, 3, none⟩ = some (.int .u32 a2_3) := (blk_cell BK160.out 3).trans rfl
            have hcz23_4 : w5.cell? ⟨gb160, 4, none⟩ = some (.int .i64 a2_4) := (blk_cell BK160.out 4).trans rfl
            have hcz23_5 : w5.cell? ⟨gb160, 5, none⟩ = some (.int .i64 a2_5) := (blk_cell BK160.out 5).trans rfl
            have hcz23_6 : w5.cell? ⟨gb160, 6, none⟩ = some (.int .i64 a2_6) := (blk_cell BK160.out 6).trans rfl
            have hcz23_7 : w5.cell? ⟨gb160, 7, none⟩ = some (.slice A2_7 l2_7.length c2_7) := (blk_cell BK160.out 7).trans rfl
            have hcz23_8 : w5.cell? ⟨gb160, 8, none⟩ = some (.slice A2_8 l2_8.length c2_8) := (blk_cell BK160.out 8).trans rfl
            have hfz23_0 := blk_frozen BK160.out 0
            have hfz23_1 := blk_frozen BK160.out 1
            have hfz23_2 := blk_frozen BK160.out 2
            have hfz23_3 := blk_frozen BK160.out 3
            have hfz23_4 := blk_frozen BK160.out 4
            have hfz23_5 := blk_frozen BK160.out 5
            have hfz23_6 := blk_frozen BK160.out 6
            have hfz23_7 := blk_frozen BK160.out 7
            have hfz23_8 := blk_frozen BK160.out 8
            go_wp2_with (first | ((with_reducible refine gate_callee (f := 47) rfl ?_); refine goesL_ (some 16) rfl rfl Try.func47 (by kernel_rfl) rfl #[.int .i64 a2_0, .int .i64 65535] rfl (by (try simp only [List.map_toArray, List.map_cons, List.map_nil]); first | done | rfl | (simp only [List.length_drop, List.length_take]; rfl)) ?_; (with_reducible refine (tcp_isIn.calls a2_0 65535 true _ A7.out).mono ?_); rintro e w' ⟨rfl, ⟨nd, rfl⟩⟩; refine ⟨_, rfl, ?_⟩) | (go_at_call 47; (with_reducible refine (tcp_isIn.calls a2_1 65535 true _ A9.out).mono ?_); rintro e w' ⟨rfl, ⟨nd, rfl⟩⟩) | (go_at_call 47; (with_reducible refine (tcp_isIn.calls a2_5 65535 true _ A11.out).mono ?_); rintro e w' ⟨rfl, ⟨nd, rfl⟩⟩) | (go_at_call 47; (with_reducible refine (tcp_isIn.calls a2_6 65535 false _ A13.out).mono ?_); rintro e w' ⟨rfl, ⟨nd, rfl⟩⟩))
            go_meet
            case rel => exact ⟨_, (true), (by first | rfl | (simp; done) | (simp [*]; done)), H', ⟨by first | omega | exact Nat.le_refl _⟩, ⟨by (with_reducible repeat (first | apply Kd.V_alloc | apply Kd.V_drewN | apply Kd.V_drew)); exact HO2_7.out⟩, ⟨by (with_reducible repeat (first | apply Kd.V_alloc | apply Kd.V_drewN | apply Kd.V_drew)); exact HO2_8.out⟩, ⟨by (with_reducible repeat (first | refine blk_drewN ?_ _ | refine blk_drew ?_ | refine blk_alloc ?_ _)); exact BK160.out⟩, ⟨by repeat (first | (with_reducible first | exact HB.out | apply below_alloc | apply pw_below_drewN | apply below_drew1 | refine below_set ?_ GE160.out) | exact HB.out)⟩⟩
        · replace c12 := Bool.eq_false_iff.mpr c12
          subst c12
          have H1 : (tcp_Build.j0 k a0 a1 (wrap64 (20 + (l2_7.length : Int))) true a2_0 a2_1 a2_2 a2_3 a2_4 a2_5 a2_6 l2_7 l2_8) = some (r1, r2) := by rw [if_neg (show ¬ (false = true) by decide)] at H; exact H
          clear H
          have H := H1
          clear H1
          have H' := Aside0.mk H
          clear H
          have hcz24_0 : w5.cell? ⟨gb160, 0, none⟩ = some (.int .i64 a2_0) := (blk_cell BK160.out 0).trans rfl
          have hcz24_1 : w5.cell? ⟨gb160, 1, none⟩ = some (.int .i64 a2_1) := (blk_cell BK160.out 1).trans rfl
          have hcz24_2 : w5.cell? ⟨gb160, 2, none⟩ = some (.int .u32 a2_2) := (blk_cell BK160.out 2).trans rfl
          have hcz24_3 : w5.cell? ⟨gb160, 3, none⟩ = some (.int .u32 a2_3) := (blk_cell BK160.out 3).trans rfl
          have hcz24_4 : w5.cell? ⟨gb160, 4, none⟩ = some (.int .i64 a2_4) := (blk_cell BK160.out 4).trans rfl
          have hcz24_5 : w5.cell? ⟨gb160, 5, none⟩ = some (.int .i64 a2_5) := (blk_cell BK160.out 5).trans rfl
          have hcz24_6 : w5.cell? ⟨gb160, 6, none⟩ = some (.int .i64 a2_6) := (blk_cell BK160.out 6).trans rfl
          have hcz24_7 : w5.cell? ⟨gb160, 7, none⟩ = some (.slice A2_7 l2_7.length c2_7) := (blk_cell BK160.out 7).trans rfl
          have hcz24_8 : w5.cell? ⟨gb160, 8, none⟩ = some (.slice A2_8 l2_8.length c2_8) := (blk_cell BK160.out 8).trans rfl
          have hfz24_0 := blk_frozen BK160.out 0
          have hfz24_1 := blk_frozen BK160.out 1
          have hfz24_2 := blk_frozen BK160.out 2
          have hfz24_3 := blk_frozen BK160.out 3
          have hfz24_4 := blk_frozen BK160.out 4
          have hfz24_5 := blk_frozen BK160.out 5
          have hfz24_6 := blk_frozen BK160.out 6
          have hfz24_7 := blk_frozen BK160.out 7
          have hfz24_8 := blk_frozen BK160.out 8
          go_wp2_with (first | ((with_reducible refine gate_callee (f := 47) rfl ?_); refine goesL_ (some 16) rfl rfl Try.func47 (by kernel_rfl) rfl #[.int .i64 a2_0, .int .i64 65535] rfl (by (try simp only [List.map_toArray, List.map_cons, List.map_nil]); first | done | rfl | (simp only [List.length_drop, List.length_take]; rfl)) ?_; (with_reducible refine (tcp_isIn.calls a2_0 65535 true _ A7.out).mono ?_); rintro e w' ⟨rfl, ⟨nd, rfl⟩⟩; refine ⟨_, rfl, ?_⟩) | (go_at_call 47; (with_reducible refine (tcp_isIn.calls a2_1 65535 true _ A9.out).mono ?_); rintro e w' ⟨rfl, ⟨nd, rfl⟩⟩) | (go_at_call 47; (with_reducible refine (tcp_isIn.calls a2_5 65535 false _ A11.out).mono ?_); rintro e w' ⟨rfl, ⟨nd, rfl⟩⟩))
          go_meet
          case rel => exact ⟨_, (true), (by first | rfl | (simp; done) | (simp [*]; done)), H', ⟨by first | omega | exact Nat.le_refl _⟩, ⟨by (with_reducible repeat (first | apply Kd.V_alloc | apply Kd.V_drewN | apply Kd.V_drew)); exact HO2_7.out⟩, ⟨by (with_reducible repeat (first | apply Kd.V_alloc | apply Kd.V_drewN | apply Kd.V_drew)); exact HO2_8.out⟩, ⟨by (with_reducible repeat (first | refine blk_drewN ?_ _ | refine blk_drew ?_ | refine blk_alloc ?_ _)); exact BK160.out⟩, ⟨by repeat (first | (with_reducible first | exact HB.out | apply below_alloc | apply pw_below_drewN | apply below_drew1 | refine below_set ?_ GE160.out) | exact HB.out)⟩⟩
      · replace c10 := Bool.eq_false_iff.mpr c10
        subst c10
        have H1 : (tcp_Build.j0 k a0 a1 (wrap64 (20 + (l2_7.length : Int))) true a2_0 a2_1 a2_2 a2_3 a2_4 a2_5 a2_6 l2_7 l2_8) = some (r1, r2) := by rw [if_neg (show ¬ (false = true) by decide)] at H; exact H
        clear H
        have H := H1
        clear H1
        have H' := Aside0.mk H
        clear H
        have hcz25_0 : w5.cell? ⟨gb160, 0, none⟩ = some (.int .i64 a2_0) := (blk_cell BK160.out 0).trans rfl
        have hcz25_1 : w5.cell? ⟨gb160, 1, none⟩ = some (.int .i64 a2_1) := (blk_cell BK160.out 1).trans rfl
        have hcz25_2 : w5.cell? ⟨gb160, 2, none⟩ = some (.int .u32 a2_2) := (blk_cell BK160.out 2).trans rfl
        have hcz25_3 : w5.cell? ⟨gb160, 3, none⟩ = some (.int .u32 a2_3) := (blk_cell BK160.out 3).trans rfl
        have hcz25_4 : w5.cell? ⟨gb160, 4, none⟩ = some (.int .i64 a2_4) := (blk_cell BK160.out 4).trans rfl
        have hcz25_5 : w5.cell? ⟨gb160, 5, none⟩ = some (.int .i64 a2_5) := (blk_cell BK160.out 5).trans rfl
        have hcz25_6 : w5.cell? ⟨gb160, 6, none⟩ = some (.int .i64 a2_6) := (blk_cell BK160.out 6).trans rfl
        have hcz25_7 : w5.cell? ⟨gb160, 7, none⟩ = some (.slice A2_7 l2_7.length c2_7) := (blk_cell BK160.out 7).trans rfl
        have hcz25_8 : w5.cell? ⟨gb160, 8, none⟩ = some (.slice A2_8 l2_8.length c2_8) := (blk_cell BK160.out 8).trans rfl
        have hfz25_0 := blk_frozen BK160.out 0
        have hfz25_1 := blk_frozen BK160.out 1
        have hfz25_2 := blk_frozen BK160.out 2
        have hfz25_3 := blk_frozen BK160.out 3
        have hfz25_4 := blk_frozen BK160.out 4
        have hfz25_5 := blk_frozen BK160.out 5
        have hfz25_6 := blk_frozen BK160.out 6
        have hfz25_7 := blk_frozen BK160.out 7
        have hfz25_8 := blk_frozen BK160.out 8
        go_wp2_with (first | ((with_reducible refine gate_callee (f := 47) rfl ?_); refine goesL_ (some 16) rfl rfl Try.func47 (by kernel_rfl) rfl #[.int .i64 a2_0, .int .i64 65535] rfl (by (try simp only [List.map_toArray, List.map_cons, List.map_nil]); first | done | rfl | (simp only [List.length_drop, List.length_take]; rfl)) ?_; (with_reducible refine (tcp_isIn.calls a2_0 65535 true _ A7.out).mono ?_); rintro e w' ⟨rfl, ⟨nd, rfl⟩⟩; refine ⟨_, rfl, ?_⟩) | (go_at_call 47; (with_reducible refine (tcp_isIn.calls a2_1 65535 false _ A9.out).mono ?_); rintro e w' ⟨rfl, ⟨nd, rfl⟩⟩))
        go_meet
        case rel => exact ⟨_, (true), (by first | rfl | (simp; done) | (simp [*]; done)), H', ⟨by first | omega | exact Nat.le_refl _⟩, ⟨by (with_reducible repeat (first | apply Kd.V_alloc | apply Kd.V_drewN | apply Kd.V_drew)); exact HO2_7.out⟩, ⟨by (with_reducible repeat (first | apply Kd.V_alloc | apply Kd.V_drewN | apply Kd.V_drew)); exact HO2_8.out⟩, ⟨by (with_reducible repeat (first | refine blk_drewN ?_ _ | refine blk_drew ?_ | refine blk_alloc ?_ _)); exact BK160.out⟩, ⟨by repeat (first | (with_reducible first | exact HB.out | apply below_alloc | apply pw_below_drewN | apply below_drew1 | refine below_set ?_ GE160.out) | exact HB.out)⟩⟩
    · replace c8 := Bool.eq_false_iff.mpr c8
      subst c8
      have H1 : (tcp_Build.j0 k a0 a1 (wrap64 (20 + (l2_7.length : Int))) true a2_0 a2_1 a2_2 a2_3 a2_4 a2_5 a2_6 l2_7 l2_8) = some (r1, r2) := by rw [if_neg (show ¬ (false = true) by decide)] at H; exact H
      clear H
      have H := H1
      clear H1
      have H' := Aside0.mk H
      clear H
      have hcz26_0 : w5.cell? ⟨gb160, 0, none⟩ = some (.int .i64 a2_0) := (blk_cell BK160.out 0).trans rfl
      have hcz26_1 : w5.cell? ⟨gb160, 1, none⟩ = some (.int .i64 a2_1) := (blk_cell BK160.out 1).trans rfl
      have hcz26_2 : w5.cell? ⟨gb160, 2, none⟩ = some (.int .u32 a2_2) := (blk_cell BK160.out 2).trans rfl
      have hcz26_3 : w5.cell? ⟨gb160, 3, none⟩ = some (.int .u32 a2_3) := (blk_cell BK160.out 3).trans rfl
      have hcz26_4 : w5.cell? ⟨gb160, 4, none⟩ = some (.int .i64 a2_4) := (blk_cell BK160.out 4).trans rfl
      have hcz26_5 : w5.cell? ⟨gb160, 5, none⟩ = some (.int .i64 a2_5) := (blk_cell BK160.out 5).trans rfl
      have hcz26_6 : w5.cell? ⟨gb160, 6, none⟩ = some (.int .i64 a2_6) := (blk_cell BK160.out 6).trans rfl
      have hcz26_7 : w5.cell? ⟨gb160, 7, none⟩ = some (.slice A2_7 l2_7.length c2_7) := (blk_cell BK160.out 7).trans rfl
      have hcz26_8 : w5.cell? ⟨gb160, 8, none⟩ = some (.slice A2_8 l2_8.length c2_8) := (blk_cell BK160.out 8).trans rfl
      have hfz26_0 := blk_frozen BK160.out 0
      have hfz26_1 := blk_frozen BK160.out 1
      have hfz26_2 := blk_frozen BK160.out 2
      have hfz26_3 := blk_frozen BK160.out 3
      have hfz26_4 := blk_frozen BK160.out 4
      have hfz26_5 := blk_frozen BK160.out 5
      have hfz26_6 := blk_frozen BK160.out 6
      have hfz26_7 := blk_frozen BK160.out 7
      have hfz26_8 := blk_frozen BK160.out 8
      go_wp2_with (first | ((with_reducible refine gate_callee (f := 47) rfl ?_); refine goesL_ (some 16) rfl rfl Try.func47 (by kernel_rfl) rfl #[.int .i64 a2_0, .int .i64 65535] rfl (by (try simp only [List.map_toArray, List.map_cons, List.map_nil]); first | done | rfl | (simp only [List.length_drop, List.length_take]; rfl)) ?_; (with_reducible refine (tcp_isIn.calls a2_0 65535 false _ A7.out).mono ?_); rintro e w' ⟨rfl, ⟨nd, rfl⟩⟩; refine ⟨_, rfl, ?_⟩))
      go_meet
      case rel => exact ⟨_, (true), (by first | rfl | (simp; done) | (simp [*]; done)), H', ⟨by first | omega | exact Nat.le_refl _⟩, ⟨by (with_reducible repeat (first | apply Kd.V_alloc | apply Kd.V_drewN | apply Kd.V_drew)); exact HO2_7.out⟩, ⟨by (with_reducible repeat (first | apply Kd.V_alloc | apply Kd.V_drewN | apply Kd.V_drew)); exact HO2_8.out⟩, ⟨by (with_reducible repeat (first | refine blk_drewN ?_ _ | refine blk_drew ?_ | refine blk_alloc ?_ _)); exact BK160.out⟩, ⟨by repeat (first | (with_reducible first | exact HB.out | apply below_alloc | apply pw_below_drewN | apply below_drew1 | refine below_set ?_ GE160.out) | exact HB.out)⟩⟩
  case rest =>
    clear HC4
    try clear c1
    try clear c2
    try clear p2
    try clear c4
    try clear p6
    try clear c8
    try clear c10
    try clear c12
    try clear c14
    try clear c16
    try clear c17
    try clear c17b0
    try clear c17b1
    try clear c18
    try clear c18b0
    try clear c18b1
    try clear c25
    try clear hcz19_0
    try clear hcz19_1
    try clear hcz19_2
    try clear hcz19_3
    try clear hcz19_4
    try clear hcz19_5
    try clear hcz19_6
    try clear hcz19_7
    try clear hcz19_8
    try clear hcz20_0
    try clear hcz20_1
    try clear hcz20_2
    try clear hcz20_3
    try clear hcz20_4
    try clear hcz20_5
    try clear hcz20_6
    try clear hcz20_7
    try clear hcz20_8
    try clear hcz21_0
    try clear hcz21_1
    try clear hcz21_2
    try clear hcz21_3
    try clear hcz21_4
    try clear hcz21_5
    try clear hcz21_6
    try clear hcz21_7
    try clear hcz21_8
    try clear hcz22_0
    try clear hcz22_1
    try clear hcz22_2
    try clear hcz22_3
    try clear hcz22_4
    try clear hcz22_5
    try clear hcz22_6
    try clear hcz22_7
    try clear hcz22_8
    try clear hcz23_0
    try clear hcz23_1
    try clear hcz23_2
    try clear hcz23_3
    try clear hcz23_4
    try clear hcz23_5
    try clear hcz23_6
    try clear hcz23_7
    try clear hcz23_8
    try clear hcz24_0
    try clear hcz24_1
    try clear hcz24_2
    try clear hcz24_3
    try clear hcz24_4
    try clear hcz24_5
    try clear hcz24_6
    try clear hcz24_7
    try clear hcz24_8
    try clear hcz25_0
    try clear hcz25_1
    try clear hcz25_2
    try clear hcz25_3
    try clear hcz25_4
    try clear hcz25_5
    try clear hcz25_6
    try clear hcz25_7
    try clear hcz25_8
    try clear hcz26_0
    try clear hcz26_1
    try clear hcz26_2
    try clear hcz26_3
    try clear hcz26_4
    try clear hcz26_5
    try clear hcz26_6
    try clear hcz26_7
    try clear hcz26_8
    try clear hcz6_0
    try clear hcz6_1
    try clear hcz6_2
    try clear hcz6_3
    try clear hcz6_4
    try clear hcz6_5
    try clear hcz6_6
    try clear hcz6_7
    try clear hcz6_8
    try clear hfz19_0
    try clear hfz19_1
    try clear hfz19_2
    try clear hfz19_3
    try clear hfz19_4
    try clear hfz19_5
    try clear hfz19_6
    try clear hfz19_7
    try clear hfz19_8
    try clear hfz20_0
    try clear hfz20_1
    try clear hfz20_2
    try clear hfz20_3
    try clear hfz20_4
    try clear hfz20_5
    try clear hfz20_6
    try clear hfz20_7
    try clear hfz20_8
    try clear hfz21_0
    try clear hfz21_1
    try clear hfz21_2
    try clear hfz21_3
    try clear hfz21_4
    try clear hfz21_5
    try clear hfz21_6
    try clear hfz21_7
    try clear hfz21_8
    try clear hfz22_0
    try clear hfz22_1
    try clear hfz22_2
    try clear hfz22_3
    try clear hfz22_4
    try clear hfz22_5
    try clear hfz22_6
    try clear hfz22_7
    try clear hfz22_8
    try clear hfz23_0
    try clear hfz23_1
    try clear hfz23_2
    try clear hfz23_3
    try clear hfz23_4
    try clear hfz23_5
    try clear hfz23_6
    try clear hfz23_7
    try clear hfz23_8
    try clear hfz24_0
    try clear hfz24_1
    try clear hfz24_2
    try clear hfz24_3
    try clear hfz24_4
    try clear hfz24_5
    try clear hfz24_6
    try clear hfz24_7
    try clear hfz24_8
    try clear hfz25_0
    try clear hfz25_1
    try clear hfz25_2
    try clear hfz25_3
    try clear hfz25_4
    try clear hfz25_5
    try clear hfz25_6
    try clear hfz25_7
    try clear hfz25_8
    try clear hfz26_0
    try clear hfz26_1
    try clear hfz26_2
    try clear hfz26_3
    try clear hfz26_4
    try clear hfz26_5
    try clear hfz26_6
    try clear hfz26_7
    try clear hfz26_8
    try clear hfz6_0
    try clear hfz6_1
    try clear hfz6_2
    try clear hfz6_3
    try clear hfz6_4
    try clear hfz6_5
    try clear hfz6_6
    try clear hfz6_7
    try clear hfz6_8
    obtain ⟨kq, x62_3, rfl, HA, HJ3, HO_161007, HO_161008, BK160, HB⟩ := hcut
    cases kq with
    | zero => exact absurd HA.out (by simp [tcp_Build.j0])
    | succ kj3 =>
      have H := HA.out
      clear HA
      simp only [tcp_Build.j0] at H
      by_cases c27 : x62_3 = true
      · subst c27
        have H1 : (some (([] : List Int), 1)) = some (r1, r2) := by rw [if_pos rfl] at H; exact H
        clear H
        have H := H1
        clear H1
        simp only [Option.some.injEq, Prod.mk.injEq] at H
        obtain ⟨rfl, rfl⟩ := H
        go_wp2
        go_ret2
        exact ⟨_, by first | rfl | (simp [errW_none, errW_some] <;> rfl) | (simp [*, errW_none, errW_some] <;> rfl), by first | exact Kd.R_nil _ _ _ _ _ | exact Kd.N_nil _ _ _ _ _ | exact Kd.V_nil _ _ _ _ _ | exact Kd.Q_nil _ _ _ _ _ | exact Kd.S_nil _ _ _ _ _, by repeat (first | (with_reducible first | exact HB.out | apply below_alloc | apply pw_below_drewN | apply below_drew1 | refine below_set ?_ GE160.out) | exact HB.out)⟩
      · replace c27 := Bool.eq_false_iff.mpr c27
        subst c27
        have H1 : ((word_Put16.f a2_0).bind fun t166 => ((word_Put16.f a2_1).bind fun t169 => ((word_Put32.f a2_2).bind fun t172 => ((word_Put32.f a2_3).bind fun t175 => ((word_Put16.f a2_5).bind fun t181 => ((word_Put16.f a2_6).bind fun t187 => ((word_Join.f kj3 (([t166, t169, t172, t175, (([(wrap64 ((wrap64 (Int.tdiv (wrap64 (20 + (l2_7.length : Int))) 4)) * 16)) % 256, (a2_4) % 256] : List Int)), t181, (([0, 0] : List Int)), t187, l2_7, l2_8] : List (List Int)))).bind fun t193 => ((sum_Pseudo.f kj3 a0 a1 6 (t193.length : Int)).bind fun t196 => ((sum_Of.f kj3 (([t196, t193] : List (List Int)))).bind fun t202 => ((word_Put16.f t202).bind fun t203 => (if 0 < (t203.length : Int) then (if 16 < (t193.length : Int) then (if 1 < (t203.length : Int) then (if 17 < (t193.length : Int) then (some (((t193.set (16 : Int).toNat (rd t203 0)).set (17 : Int).toNat (rd t203 1)), 0)) else (none)) else (none)) else (none)) else (none)))))))))))) = some (r1, r2) := by rw [if_neg (show ¬ (false = true) by decide)] at H; exact H
        clear H
        have H := H1
        clear H1
        replace H := Option.bind_eq_some_iff.mp H
        obtain ⟨t166, A280, H⟩ := H
        replace H : ((word_Put16.f a2_1).bind fun t169 => ((word_Put32.f a2_2).bind fun t172 => ((word_Put32.f a2_3).bind fun t175 => ((word_Put16.f a2_5).bind fun t181 => ((word_Put16.f a2_6).bind fun t187 => ((word_Join.f kj3 (([t166, t169, t172, t175, (([(wrap64 ((wrap64 (Int.tdiv (wrap64 (20 + (l2_7.length : Int))) 4)) * 16)) % 256, (a2_4) % 256] : List Int)), t181, (([0, 0] : List Int)), t187, l2_7, l2_8] : List (List Int)))).bind fun t193 => ((sum_Pseudo.f kj3 a0 a1 6 (t193.length : Int)).bind fun t196 => ((sum_Of.f kj3 (([t196, t193] : List (List Int)))).bind fun t202 => ((word_Put16.f t202).bind fun t203 => (if 0 < (t203.length : Int) then (if 16 < (t193.length : Int) then (if 1 < (t203.length : Int) then (if 17 < (t193.length : Int) then (some (((t193.set (16 : Int).toNat (rd t203 0)).set (17 : Int).toNat (rd t203 1)), 0)) else (none)) else (none)) else (none)) else (none))))))))))) = some (r1, r2) := H
        have A28 := Aside0.mk A280
        clear A280
        replace H := Option.bind_eq_some_iff.mp H
        obtain ⟨t169, A290, H⟩ := H
        replace H : ((word_Put32.f a2_2).bind fun t172 => ((word_Put32.f a2_3).bind fun t175 => ((word_Put16.f a2_5).bind fun t181 => ((word_Put16.f a2_6).bind fun t187 => ((word_Join.f kj3 (([t166, t169, t172, t175, (([(wrap64 ((wrap64 (Int.tdiv (wrap64 (20 + (l2_7.length : Int))) 4)) * 16)) % 256, (a2_4) % 256] : List Int)), t181, (([0, 0] : List Int)), t187, l2_7, l2_8] : List (List Int)))).bind fun t193 => ((sum_Pseudo.f kj3 a0 a1 6 (t193.length : Int)).bind fun t196 => ((sum_Of.f kj3 (([t196, t193] : List (List Int)))).bind fun t202 => ((word_Put16.f t202).bind fun t203 => (if 0 < (t203.length : Int) then (if 16 < (t193.length : Int) then (if 1 < (t203.length : Int) then (if 17 < (t193.length : Int) then (some (((t193.set (16 : Int).toNat (rd t203 0)).set (17 : Int).toNat (rd t203 1)), 0)) else (none)) else (none)) else (none)) else (none)))))))))) = some (r1, r2) := H
        have A29 := Aside0.mk A290
        clear A290
        replace H := Option.bind_eq_some_iff.mp H
        obtain ⟨t172, A300, H⟩ := H
        replace H : ((word_Put32.f a2_3).bind fun t175 => ((word_Put16.f a2_5).bind fun t181 => ((word_Put16.f a2_6).bind fun t187 => ((word_Join.f kj3 (([t166, t169, t172, t175, (([(wrap64 ((wrap64 (Int.tdiv (wrap64 (20 + (l2_7.length : Int))) 4)) * 16)) % 256, (a2_4) % 256] : List Int)), t181, (([0, 0] : List Int)), t187, l2_7, l2_8] : List (List Int)))).bind fun t193 => ((sum_Pseudo.f kj3 a0 a1 6 (t193.length : Int)).bind fun t196 => ((sum_Of.f kj3 (([t196, t193] : List (List Int)))).bind fun t202 => ((word_Put16.f t202).bind fun t203 => (if 0 < (t203.length : Int) then (if 16 < (t193.length : Int) then (if 1 < (t203.length : Int) then (if 17 < (t193.length : Int) then (some (((t193.set (16 : Int).toNat (rd t203 0)).set (17 : Int).toNat (rd t203 1)), 0)) else (none)) else (none)) else (none)) else (none))))))))) = some (r1, r2) := H
        have A30 := Aside0.mk A300
        clear A300
        replace H := Option.bind_eq_some_iff.mp H
        obtain ⟨t175, A310, H⟩ := H
        replace H : ((word_Put16.f a2_5).bind fun t181 => ((word_Put16.f a2_6).bind fun t187 => ((word_Join.f kj3 (([t166, t169, t172, t175, (([(wrap64 ((wrap64 (Int.tdiv (wrap64 (20 + (l2_7.length : Int))) 4)) * 16)) % 256, (a2_4) % 256] : List Int)), t181, (([0, 0] : List Int)), t187, l2_7, l2_8] : List (List Int)))).bind fun t193 => ((sum_Pseudo.f kj3 a0 a1 6 (t193.length : Int)).bind fun t196 => ((sum_Of.f kj3 (([t196, t193] : List (List Int)))).bind fun t202 => ((word_Put16.f t202).bind fun t203 => (if 0 < (t203.length : Int) then (if 16 < (t193.length : Int) then (if 1 < (t203.length : Int) then (if 17 < (t193.length : Int) then (some (((t193.set (16 : Int).toNat (rd t203 0)).set (17 : Int).toNat (rd t203 1)), 0)) else (none)) else (none)) else (none)) else (none)))))))) = some (r1, r2) := H
        have A31 := Aside0.mk A310
        clear A310
        obtain ⟨y178, hy178⟩ : ∃ y_ : List Int, y_ = (([(wrap64 ((wrap64 (Int.tdiv (wrap64 (20 + (l2_7.length : Int))) 4)) * 16)) % 256, (a2_4) % 256] : List Int)) := ⟨_, rfl⟩
        replace H : ((word_Put16.f a2_5).bind fun t181 => ((word_Put16.f a2_6).bind fun t187 => ((word_Join.f kj3 (([t166, t169, t172, t175, y178, t181, (([0, 0] : List Int)), t187, l2_7, l2_8] : List (List Int)))).bind fun t193 => ((sum_Pseudo.f kj3 a0 a1 6 (t193.length : Int)).bind fun t196 => ((sum_Of.f kj3 (([t196, t193] : List (List Int)))).bind fun t202 => ((word_Put16.f t202).bind fun t203 => (if 0 < (t203.length : Int) then (if 16 < (t193.length : Int) then (if 1 < (t203.length : Int) then (if 17 < (t193.length : Int) then (some (((t193.set (16 : Int).toNat (rd t203 0)).set (17 : Int).toNat (rd t203 1)), 0)) else (none)) else (none)) else (none)) else (none)))))))) = some (r1, r2) := by first | (rw [hy178]; with_reducible exact H) | (have H2_ := (Option.bind_some _ _).symm.trans H; rw [hy178]; with_reducible exact H2_) | (have H2_ := (Option.bind_some _ _).symm.trans H; with_reducible exact H2_) | with_reducible exact H | (rw [hy178]; exact H) | exact H
        have Ny178 := Aside0.mk hy178
        clear hy178
        replace H := Option.bind_eq_some_iff.mp H
        obtain ⟨t181, A320, H⟩ := H
        replace H : ((word_Put16.f a2_6).bind fun t187 => ((word_Join.f kj3 (([t166, t169, t172, t175, y178, t181, (([0, 0] : List Int)), t187, l2_7, l2_8] : List (List Int)))).bind fun t193 => ((sum_Pseudo.f kj3 a0 a1 6 (t193.length : Int)).bind fun t196 => ((sum_Of.f kj3 (([t196, t193] : List (List Int)))).bind fun t202 => ((word_Put16.f t202).bind fun t203 => (if 0 < (t203.length : Int) then (if 16 < (t193.length : Int) then (if 1 < (t203.length : Int) then (if 17 < (t193.length : Int) then (some (((t193.set (16 : Int).toNat (rd t203 0)).set (17 : Int).toNat (rd t203 1)), 0)) else (none)) else (none)) else (none)) else (none))))))) = some (r1, r2) := H
        have A32 := Aside0.mk A320
        clear A320
        obtain ⟨y184, hy184⟩ : ∃ y_ : List Int, y_ = (([0, 0] : List Int)) := ⟨_, rfl⟩
        replace H : ((word_Put16.f a2_6).bind fun t187 => ((word_Join.f kj3 (([t166, t169, t172, t175, y178, t181, y184, t187, l2_7, l2_8] : List (List Int)))).bind fun t193 => ((sum_Pseudo.f kj3 a0 a1 6 (t193.length : Int)).bind fun t196 => ((sum_Of.f kj3 (([t196, t193] : List (List Int)))).bind fun t202 => ((word_Put16.f t202).bind fun t203 => (if 0 < (t203.length : Int) then (if 16 < (t193.length : Int) then (if 1 < (t203.length : Int) then (if 17 < (t193.length : Int) then (some (((t193.set (16 : Int).toNat (rd t203 0)).set (17 : Int).toNat (rd t203 1)), 0)) else (none)) else (none)) else (none)) else (none))))))) = some (r1, r2) := by first | (rw [hy184]; with_reducible exact H) | (have H2_ := (Option.bind_some _ _).symm.trans H; rw [hy184]; with_reducible exact H2_) | (have H2_ := (Option.bind_some _ _).symm.trans H; with_reducible exact H2_) | with_reducible exact H | (rw [hy184]; exact H) | exact H
        have Ny184 := Aside0.mk hy184
        clear hy184
        replace H := Option.bind_eq_some_iff.mp H
        obtain ⟨t187, A330, H⟩ := H
        replace H : ((word_Join.f kj3 (([t166, t169, t172, t175, y178, t181, y184, t187, l2_7, l2_8] : List (List Int)))).bind fun t193 => ((sum_Pseudo.f kj3 a0 a1 6 (t193.length : Int)).bind fun t196 => ((sum_Of.f kj3 (([t196, t193] : List (List Int)))).bind fun t202 => ((word_Put16.f t202).bind fun t203 => (if 0 < (t203.length : Int) then (if 16 < (t193.length : Int) then (if 1 < (t203.length : Int) then (if 17 < (t193.length : Int) then (some (((t193.set (16 : Int).toNat (rd t203 0)).set (17 : Int).toNat (rd t203 1)), 0)) else (none)) else (none)) else (none)) else (none)))))) = some (r1, r2) := H
        have A33 := Aside0.mk A330
        clear A330
        obtain ⟨y190, hy190⟩ : ∃ y_ : List (List Int), y_ = (([t166, t169, t172, t175, y178, t181, y184, t187, l2_7, l2_8] : List (List Int))) := ⟨_, rfl⟩
        replace H : ((word_Join.f kj3 y190).bind fun t193 => ((sum_Pseudo.f kj3 a0 a1 6 (t193.length : Int)).bind fun t196 => ((sum_Of.f kj3 (([t196, t193] : List (List Int)))).bind fun t202 => ((word_Put16.f t202).bind fun t203 => (if 0 < (t203.length : Int) then (if 16 < (t193.length : Int) then (if 1 < (t203.length : Int) then (if 17 < (t193.length : Int) then (some (((t193.set (16 : Int).toNat (rd t203 0)).set (17 : Int).toNat (rd t203 1)), 0)) else (none)) else (none)) else (none)) else (none)))))) = some (r1, r2) := by first | (rw [hy190]; with_reducible exact H) | (have H2_ := (Option.bind_some _ _).symm.trans H; rw [hy190]; with_reducible exact H2_) | (have H2_ := (Option.bind_some _ _).symm.trans H; with_reducible exact H2_) | with_reducible exact H | (rw [hy190]; exact H) | exact H
        have Ny190 := Aside0.mk hy190
        clear hy190
        replace H := Option.bind_eq_some_iff.mp H
        obtain ⟨t193, A340, H⟩ := H
        replace H : ((sum_Pseudo.f kj3 a0 a1 6 (t193.length : Int)).bind fun t196 => ((sum_Of.f kj3 (([t196, t193] : List (List Int)))).bind fun t202 => ((word_Put16.f t202).bind fun t203 => (if 0 < (t203.length : Int) then (if 16 < (t193.length : Int) then (if 1 < (t203.length : Int) then (if 17 < (t193.length : Int) then (some (((t193.set (16 : Int).toNat (rd t203 0)).set (17 : Int).toNat (rd t203 1)), 0)) else (none)) else (none)) else (none)) else (none))))) = some (r1, r2) := H
        have A34 := Aside0.mk A340
        clear A340
        replace H := Option.bind_eq_some_iff.mp H
        obtain ⟨t196, A350, H⟩ := H
        replace H : ((sum_Of.f kj3 (([t196, t193] : List (List Int)))).bind fun t202 => ((word_Put16.f t202).bind fun t203 => (if 0 < (t203.length : Int) then (if 16 < (t193.length : Int) then (if 1 < (t203.length : Int) then (if 17 < (t193.length : Int) then (some (((t193.set (16 : Int).toNat (rd t203 0)).set (17 : Int).toNat (rd t203 1)), 0)) else (none)) else (none)) else (none)) else (none)))) = some (r1, r2) := H
        have A35 := Aside0.mk A350
        clear A350
        obtain ⟨y199, hy199⟩ : ∃ y_ : List (List Int), y_ = (([t196, t193] : List (List Int))) := ⟨_, rfl⟩
        replace H : ((sum_Of.f kj3 y199).bind fun t202 => ((word_Put16.f t202).bind fun t203 => (if 0 < (t203.length : Int) then (if 16 < (t193.length : Int) then (if 1 < (t203.length : Int) then (if 17 < (t193.length : Int) then (some (((t193.set (16 : Int).toNat (rd t203 0)).set (17 : Int).toNat (rd t203 1)), 0)) else (none)) else (none)) else (none)) else (none)))) = some (r1, r2) := by first | (rw [hy199]; with_reducible exact H) | (have H2_ := (Option.bind_some _ _).symm.trans H; rw [hy199]; with_reducible exact H2_) | (have H2_ := (Option.bind_some _ _).symm.trans H; with_reducible exact H2_) | with_reducible exact H | (rw [hy199]; exact H) | exact H
        have Ny199 := Aside0.mk hy199
        clear hy199
        replace H := Option.bind_eq_some_iff.mp H
        obtain ⟨t202, A360, H⟩ := H
        replace H : ((word_Put16.f t202).bind fun t203 => (if 0 < (t203.length : Int) then (if 16 < (t193.length : Int) then (if 1 < (t203.length : Int) then (if 17 < (t193.length : Int) then (some (((t193.set (16 : Int).toNat (rd t203 0)).set (17 : Int).toNat (rd t203 1)), 0)) else (none)) else (none)) else (none)) else (none))) = some (r1, r2) := H
        have A36 := Aside0.mk A360
        clear A360
        replace H := Option.bind_eq_some_iff.mp H
        obtain ⟨t203, A370, H⟩ := H
        replace H : (if 0 < (t203.length : Int) then (if 16 < (t193.length : Int) then (if 1 < (t203.length : Int) then (if 17 < (t193.length : Int) then (some (((t193.set (16 : Int).toNat (rd t203 0)).set (17 : Int).toNat (rd t203 1)), 0)) else (none)) else (none)) else (none)) else (none)) = some (r1, r2) := H
        have A37 := Aside0.mk A370
        clear A370
        by_cases c38 : 0 < (t203.length : Int)
        · rw [if_pos c38] at H
          have c38b0 : decide (0 < (t203.length : Int)) = true := decide_eq_true c38
          have c38b1 : decide (0 < t203.length) = true := decide_eq_true (by omega)
          clear c38
          by_cases c39 : 16 < (t193.length : Int)
          · rw [if_pos c39] at H
            have c39b0 : decide (16 < (t193.length : Int)) = true := decide_eq_true c39
            have c39b1 : decide (16 < t193.length) = true := decide_eq_true (by omega)
            clear c39
            obtain ⟨y207, hy207⟩ : ∃ y_ : List Int, y_ = (t193.set (16 : Int).toNat (rd t203 0)) := ⟨_, rfl⟩
            replace H : (if 1 < (t203.length : Int) then (if 17 < (t193.length : Int) then (some ((y207.set (17 : Int).toNat (rd t203 1)), 0)) else (none)) else (none)) = some (r1, r2) := by first | (rw [hy207]; with_reducible exact H) | (have H2_ := (Option.bind_some _ _).symm.trans H; rw [hy207]; with_reducible exact H2_) | (have H2_ := (Option.bind_some _ _).symm.trans H; with_reducible exact H2_) | with_reducible exact H | (rw [hy207]; exact H) | exact H
            have Ny207 := Aside0.mk hy207
            clear hy207
            by_cases c41 : 1 < (t203.length : Int)
            · rw [if_pos c41] at H
              have c41b0 : decide (1 < (t203.length : Int)) = true := decide_eq_true c41
              have c41b1 : decide (1 < t203.length) = true := decide_eq_true (by omega)
              clear c41
              by_cases c42 : 17 < (t193.length : Int)
              · rw [if_pos c42] at H
                have c42b0 : decide (17 < (t193.length : Int)) = true := decide_eq_true c42
                have c42b1 : decide (17 < t193.length) = true := decide_eq_true (by omega)
                clear c42
                obtain ⟨y209, hy209⟩ : ∃ y_ : List Int, y_ = (y207.set (17 : Int).toNat (rd t203 1)) := ⟨_, rfl⟩
                replace H : (some (y209, 0)) = some (r1, r2) := by first | (rw [hy209]; with_reducible exact H) | (have H2_ := (Option.bind_some _ _).symm.trans H; rw [hy209]; with_reducible exact H2_) | (have H2_ := (Option.bind_some _ _).symm.trans H; with_reducible exact H2_) | with_reducible exact H | (rw [hy209]; exact H) | exact H
                have Ny209 := Aside0.mk hy209
                clear hy209
                simp only [Option.some.injEq, Prod.mk.injEq] at H
                obtain ⟨rfl, rfl⟩ := H
                try go_wp2
                have n0_ := Aside0.mk (Kd.V_drew HO_161007.out)
                have n1_ := Aside0.mk (Kd.V_drew HO_161008.out)
                have n2_ := Aside0.mk (blk_drew BK160.out)
                have n3_ := Aside0.mk (below_drew1 HB.out)
                clear HO_161007
                clear HO_161008
                clear BK160
                clear HB
                have HO_161007 := n0_
                have HO_161008 := n1_
                have BK160 := n2_
                have HB := n3_
                clear n0_ n1_ n2_ n3_
                refine start_ (n := 34) (S := fun w' => True) (ds := []) #[false, false, false, false, false, false, false, false, false, false, false, false, false, false, false, false, false, false, false, false, false, false, false, false, false, false, false, false, false, false, false, false, false, false] (by kernel_rfl) rfl rfl trivial (fun hHeld => ?_); refine with_tabW tcp_Build.tab4 tcp_Build.bits4 (fun HT_ HW_ => ?_)
                generalize wc.drew = w44 at HO_161007 HO_161008 BK160 HB hHeld ⊢
                refine pure_ (i := 0) (N := some 63) (v := ?_) (a' := ?_) #[true, false, false, false, false, false, false, false, false, false, false, false, false, false, false, false, false, false, false, false, false, false, false, false, false, false, false, false, false, false, false, false, false, false] rfl rfl (any_of HT_.out (by kernel_rfl)) (fun _ _ _ h => h) (Or.inl ⟨by rfl, ?_⟩) ?_ ?_
                rotate_left
                · intro w'
                  go_simp
                  with_reducible rfl
                rotate_left
                · simp only [Act.put, List.setIfInBounds_toArray, List.set_cons_zero, List.set_cons_succ, i64_w, i32_w]
                  rfl
                refine pure_ (i := 3) (N := some 66) (v := ?_) (a' := ?_) #[true, false, false, true, false, false, false, false, false, false, false, false, false, false, false, false, false, false, false, false, false, false, false, false, false, false, false, false, false, false, false, false, false, false] rfl rfl (any_of HT_.out (by kernel_rfl)) (fun _ _ _ h => h) (Or.inl ⟨by rfl, ?_⟩) ?_ ?_
                rotate_left
                · intro w'
                  go_simp
                  with_reducible rfl
                rotate_left
                · simp only [Act.put, List.setIfInBounds_toArray, List.set_cons_zero, List.set_cons_succ, i64_w, i32_w]
                  rfl
                refine pure_ (i := 6) (N := some 69) (v := ?_) (a' := ?_) #[true, false, false, true, false, false, true, false, false, false, false, false, false, false, false, false, false, false, false, false, false, false, false, false, false, false, false, false, false, false, false, false, false, false] rfl rfl (any_of HT_.out (by kernel_rfl)) (fun _ _ _ h => h) (Or.inl ⟨by rfl, ?_⟩) ?_ ?_
                rotate_left
                · intro w'
                  go_simp
                  with_reducible rfl
                rotate_left
                · simp only [Act.put, List.setIfInBounds_toArray, List.set_cons_zero, List.set_cons_succ, i64_w, i32_w]
                  rfl
                refine pure_ (i := 9) (N := some 72) (v := ?_) (a' := ?_) #[true, false, false, true, false, false, true, false, false, true, false, false, false, false, false, false, false, false, false, false, false, false, false, false, false, false, false, false, false, false, false, false, false, false] rfl rfl (any_of HT_.out (by kernel_rfl)) (fun _ _ _ h => h) (Or.inl ⟨by rfl, ?_⟩) ?_ ?_
                rotate_left
                · intro w'
                  go_simp
                  with_reducible rfl
                rotate_left
                · simp only [Act.put, List.setIfInBounds_toArray, List.set_cons_zero, List.set_cons_succ, i64_w, i32_w]
                  rfl
                refine pure_ (i := 12) (N := some 75) (v := ?_) (a' := ?_) #[true, false, false, true, false, false, true, false, false, true, false, false, true, false, false, false, false, false, false, false, false, false, false, false, false, false, false, false, false, false, false, false, false, false] rfl rfl (any_of HT_.out (by kernel_rfl)) (fun _ _ _ h => h) (Or.inl ⟨by rfl, ?_⟩) ?_ ?_
                rotate_left
                · intro w'
                  go_simp
                  with_reducible rfl
                rotate_left
                · simp only [Act.put, List.setIfInBounds_toArray, List.set_cons_zero, List.set_cons_succ, i64_w, i32_w]
                  rfl
                refine pure_ (i := 16) (N := some 79) (v := ?_) (a' := ?_) #[true, false, false, true, false, false, true, false, false, true, false, false, true, false, false, false, true, false, false, false, false, false, false, false, false, false, false, false, false, false, false, false, false, false] rfl rfl (any_of HT_.out (by kernel_rfl)) (fun _ _ _ h => h) (Or.inl ⟨by rfl, ?_⟩) ?_ ?_
                rotate_left
                · intro w'
                  go_simp
                  with_reducible rfl
                rotate_left
                · simp only [Act.put, List.setIfInBounds_toArray, List.set_cons_zero, List.set_cons_succ, i64_w, i32_w]
                  rfl
                refine pure_ (i := 20) (N := some 83) (v := ?_) (a' := ?_) #[true, false, false, true, false, false, true, false, false, true, false, false, true, false, false, false, true, false, false, false, true, false, false, false, false, false, false, false, false, false, false, false, false, false] rfl rfl (any_of HT_.out (by kernel_rfl)) (fun _ _ _ h => h) (Or.inl ⟨by rfl, ?_⟩) ?_ ?_
                rotate_left
                · intro w'
                  go_simp
                  with_reducible rfl
                rotate_left
                · simp only [Act.put, List.setIfInBounds_toArray, List.set_cons_zero, List.set_cons_succ, i64_w, i32_w]
                  rfl
                refine pure_ (i := 24) (N := some 87) (v := ?_) (a' := ?_) #[true, false, false, true, false, false, true, false, false, true, false, false, true, false, false, false, true, false, false, false, true, false, false, false, true, false, false, false, false, false, false, false, false, false] rfl rfl (any_of HT_.out (by kernel_rfl)) (fun _ _ _ h => h) (Or.inl ⟨by rfl, ?_⟩) ?_ ?_
                rotate_left
                · intro w'
                  go_simp
                  with_reducible rfl
                rotate_left
                · simp only [Act.put, List.setIfInBounds_toArray, List.set_cons_zero, List.set_cons_succ, i64_w, i32_w]
                  rfl
                refine pure_ (i := 27) (N := some 90) (v := ?_) (a' := ?_) #[true, false, false, true, false, false, true, false, false, true, false, false, true, false, false, false, true, false, false, false, true, false, false, false, true, false, false, true, false, false, false, false, false, false] rfl rfl (any_of HT_.out (by kernel_rfl)) (fun _ _ _ h => h) (Or.inl ⟨by rfl, ?_⟩) ?_ ?_
                rotate_left
                · intro w'
                  go_simp
                  with_reducible rfl
                rotate_left
                · simp only [Act.put, List.setIfInBounds_toArray, List.set_cons_zero, List.set_cons_succ, i64_w, i32_w]
                  rfl
                refine pure_ (i := 29) (N := some 92) (v := ?_) (a' := ?_) #[true, false, false, true, false, false, true, false, false, true, false, false, true, false, false, false, true, false, false, false, true, false, false, false, true, false, false, true, false, true, false, false, false, false] rfl rfl (any_of HT_.out (by kernel_rfl)) (fun _ _ _ h => h) (Or.inl ⟨by rfl, ?_⟩) ?_ ?_
                rotate_left
                · intro w'
                  go_simp
                  with_reducible rfl
                rotate_left
                · simp only [Act.put, List.setIfInBounds_toArray, List.set_cons_zero, List.set_cons_succ, i64_w, i32_w]
                  rfl
                refine inv_at [1, 2, 4, 5, 7, 8, 10, 11, 13, 14, 15, 17, 18, 19, 21, 22, 23, 25, 26, 28, 30, 31, 32, 33] (fun a0_ b a w' => ∃ (v167 : Value) (v170 : Value) (v173 : Value) (v176 : Value) (v179 : Value) (v182 : Value) (v185 : Value) (v188 : Value) (v191 : Value) (v194 : Value) (m33_ : Value), a = putSel a0_ b [(1, 64, .int .i64 a2_0), (2, 65, v167), (4, 67, .int .i64 a2_1), (5, 68, v170), (7, 70, .int .u32 a2_2), (8, 71, v173), (10, 73, .int .u32 a2_3), (11, 74, v176), (13, 76, .int .i64 (wrap64 (Int.tdiv (wrap64 (20 + (l2_7.length : Int))) 4))), (14, 77, .int .i64 (wrap64 ((wrap64 (Int.tdiv (wrap64 (20 + (l2_7.length : Int))) 4)) * 16))), (15, 78, .int .u8 ((wrap64 ((wrap64 (Int.tdiv (wrap64 (20 + (l2_7.length : Int))) 4)) * 16)) % 256)), (17, 80, .int .i64 a2_4), (18, 81, .int .u8 ((a2_4) % 256)), (19, 82, v179), (21, 84, .int .i64 a2_5), (22, 85, v182), (23, 86, v185), (25, 88, .int .i64 a2_6), (26, 89, v188), (28, 91, .slice A2_7 l2_7.length c2_7), (30, 93, .slice A2_8 l2_8.length c2_8), (31, 94, v191), (32, 95, v194), (33, 9, m33_)] ∧ (Kd.V (Kd.int .u8) 5 w' w.heap.size (fun k_ => ((P2_7_ k_ ∨ P2_8_ k_) ∨ w.heap.size ≤ k_) ∧ k_ ≠ gb160) (.slice A2_7 l2_7.length c2_7) l2_7) ∧ (Kd.V (Kd.int .u8) 5 w' w.heap.size (fun k_ => ((P2_7_ k_ ∨ P2_8_ k_) ∨ w.heap.size ≤ k_) ∧ k_ ≠ gb160) (.slice A2_8 l2_8.length c2_8) l2_8) ∧ (w'.heap[gb160]? = some (.cells #[.int .i64 a2_0, .int .i64 a2_1, .int .u32 a2_2, .int .u32 a2_3, .int .i64 a2_4, .int .i64 a2_5, .int .i64 a2_6, .slice A2_7 l2_7.length c2_7, .slice A2_8 l2_8.length c2_8] 27 (0, 0))) ∧ (Below w.heap.size w w') ∧ (b 2 = true → Kd.R (Kd.int .u8) 5 w' w.heap.size (fun k_ => (w.heap.size ≤ k_)) v167 t166) ∧ (b 5 = true → Kd.R (Kd.int .u8) 5 w' w.heap.size (fun k_ => (w.heap.size ≤ k_)) v170 t169) ∧ (b 8 = true → Kd.R (Kd.int .u8) 5 w' w.heap.size (fun k_ => (w.heap.size ≤ k_)) v173 t172) ∧ (b 11 = true → Kd.R (Kd.int .u8) 5 w' w.heap.size (fun k_ => (w.heap.size ≤ k_)) v176 t175) ∧ (b 19 = true → Kd.R (Kd.int .u8) 5 w' w.heap.size (fun k_ => (w.heap.size ≤ k_)) v179 y178) ∧ (b 22 = true → Kd.R (Kd.int .u8) 5 w' w.heap.size (fun k_ => (w.heap.size ≤ k_)) v182 t181) ∧ (b 23 = true → Kd.R (Kd.int .u8) 5 w' w.heap.size (fun k_ => (w.heap.size ≤ k_)) v185 y184) ∧ (b 26 = true → Kd.R (Kd.int .u8) 5 w' w.heap.size (fun k_ => (w.heap.size ≤ k_)) v188 t187) ∧ (b 31 = true → b 32 = false → Kd.N (Kd.slice 5 (Kd.int .u8)) 25 w' w.heap.size (fun k_ => ((P2_7_ k_ ∨ P2_8_ k_) ∨ w.heap.size ≤ k_) ∧ k_ ≠ gb160) v191 y190) ∧ (b 32 = true → Kd.R (Kd.int .u8) 5 w' w.heap.size (fun k_ => (w.heap.size ≤ k_)) v194 t193) ∧ (b 33 = true → (m33_ : Value) = v194)) HT_.out HW_.out (by kernel_rfl) (by kernel_rfl) ?_ ?_ ?_
                · exact ⟨.bool false, .bool false, .bool false, .bool false, .bool false, .bool false, .bool false, .bool false, .bool false, .bool false, .bool false, by simp only [putSel, Bool.false_eq_true, if_false], (by first | exact HO_161007.out | exact Kd.V_mono HO_161007.out (fun _ hk => by exact okw hk)), (by first | exact HO_161008.out | exact Kd.V_mono HO_161008.out (fun _ hk => by exact okw hk)), BK160.out, HB.out, fun h_ => absurd h_ (by decide), fun h_ => absurd h_ (by decide), fun h_ => absurd h_ (by decide), fun h_ => absurd h_ (by decide), fun h_ => absurd h_ (by decide), fun h_ => absurd h_ (by decide), fun h_ => absurd h_ (by decide), fun h_ => absurd h_ (by decide), fun h_ => absurd h_ (by decide), fun h_ => absurd h_ (by decide), fun h_ => absurd h_ (by decide)⟩
                · skip
                  clear BK160 HB HO_161007 HO_161008
                  refine steps_cons ?_ ?_
                  · rintro b a w' ⟨v167, v170, v173, v176, v179, v182, v185, v188, v191, v194, m33_, ha, Q_HO_161007, Q_HO_161008, Q_BK160, Q_HB, Q_HO168, Q_HO171, Q_HO174, Q_HO177, Q_HO180, Q_HO183, Q_HO186, Q_HO189, Q_HO192, Q_HO195, Q_X33_⟩ hb_ hon hoff
                    refine ⟨_, rfl, fun K hK => ?_⟩
                    have e63 : a.tmps[63]? = some (.pointer (some ⟨gb160, 0, none⟩)) := by rw [ha]; exact (putSel_off rfl).trans rfl
                    replace ha := Aside0.mk ha
                    have HO_161007 := Aside0.mk Q_HO_161007
                    have HO_161008 := Aside0.mk Q_HO_161008
                    have BK160 := Aside0.mk Q_BK160
                    have HB := Aside0.mk Q_HB
                    have hc0_ : w'.cell? ⟨gb160, 0, none⟩ = some (.int .i64 a2_0) := (blk_cell BK160.out 0).trans rfl
                    have hc1_ : w'.cell? ⟨gb160, 1, none⟩ = some (.int .i64 a2_1) := (blk_cell BK160.out 1).trans rfl
                    have hc2_ : w'.cell? ⟨gb160, 2, none⟩ = some (.int .u32 a2_2) := (blk_cell BK160.out 2).trans rfl
                    have hc3_ : w'.cell? ⟨gb160, 3, none⟩ = some (.int .u32 a2_3) := (blk_cell BK160.out 3).trans rfl
                    have hc4_ : w'.cell? ⟨gb160, 4, none⟩ = some (.int .i64 a2_4) := (blk_cell BK160.out 4).trans rfl
                    have hc5_ : w'.cell? ⟨gb160, 5, none⟩ = some (.int .i64 a2_5) := (blk_cell BK160.out 5).trans rfl
                    have hc6_ : w'.cell? ⟨gb160, 6, none⟩ = some (.int .i64 a2_6) := (blk_cell BK160.out 6).trans rfl
                    have hc7_ : w'.cell? ⟨gb160, 7, none⟩ = some (.slice A2_7 l2_7.length c2_7) := (blk_cell BK160.out 7).trans rfl
                    have hc8_ : w'.cell? ⟨gb160, 8, none⟩ = some (.slice A2_8 l2_8.length c2_8) := (blk_cell BK160.out 8).trans rfl
                    refine value_ (w1 := w') (v := .int .i64 a2_0) (by rfl) rfl ?_ ?_
                    · go_simp
                      (try simp only [i64_w])
                      try rfl
                    refine hK.out _ _ ⟨v167, v170, v173, v176, v179, v182, v185, v188, v191, v194, m33_, (by rw [ha.out]; exact putSel_upk 0 hb_ rfl rfl rfl), Q_HO_161007, Q_HO_161008, Q_BK160, Q_HB, fun h0_ => absurd ((hoff 2 (by kernel_rfl)).symm.trans h0_) (by decide), fun h0_ => absurd ((hoff 5 (by kernel_rfl)).symm.trans h0_) (by decide), fun h0_ => absurd ((hoff 8 (by kernel_rfl)).symm.trans h0_) (by decide), fun h0_ => absurd ((hoff 11 (by kernel_rfl)).symm.trans h0_) (by decide), Q_HO180, fun h0_ => absurd ((hoff 22 (by kernel_rfl)).symm.trans h0_) (by decide), Q_HO186, fun h0_ => absurd ((hoff 26 (by kernel_rfl)).symm.trans h0_) (by decide), fun h0_ _ => absurd ((hoff 31 (by kernel_rfl)).symm.trans h0_) (by decide), fun h0_ => absurd ((hoff 32 (by kernel_rfl)).symm.trans h0_) (by decide), fun h0_ => absurd ((hoff 33 (by kernel_rfl)).symm.trans h0_) (by decide)⟩
                  refine steps_cons ?_ ?_
                  · rintro b a w' ⟨v167, v170, v173, v176, v179, v182, v185, v188, v191, v194, m33_, ha, Q_HO_161007, Q_HO_161008, Q_BK160, Q_HB, Q_HO168, Q_HO171, Q_HO174, Q_HO177, Q_HO180, Q_HO183, Q_HO186, Q_HO189, Q_HO192, Q_HO195, Q_X33_⟩ hb_ hon hoff
                    refine ⟨_, rfl, fun K hK => ?_⟩
                    have e64 : a.tmps[64]? = some (.int .i64 a2_0) := by rw [ha]; exact putSel_on (e := (1, 64, .int .i64 a2_0)) 0 rfl rfl (hon 1 (by kernel_rfl)) rfl
                    replace ha := Aside0.mk ha
                    have HO_161007 := Aside0.mk Q_HO_161007
                    have HO_161008 := Aside0.mk Q_HO_161008
                    have BK160 := Aside0.mk Q_BK160
                    have HB := Aside0.mk Q_HB
                    refine goes_ Try.func49 (by kernel_rfl) rfl #[.int .i64 a2_0] (by rfl) rfl rfl (by first | (simp only [List.map_toArray, List.map_cons, List.map_nil, Act.eval, Array.getD_eq_getD_getElem?, Option.getD_some, e64]; done) | (simp only [List.map_toArray, List.map_cons, List.map_nil, Act.eval, Array.getD_eq_getD_getElem?, Option.getD_some, e64]; rfl)) ?_
                    with_reducible refine (word_Put16.calls a2_0 t166 _ A28.out).mono ?_
                    rintro e w45 ⟨v167, rfl, ho0, hb⟩
                    refine ⟨_, rfl, ?_⟩
                    have n0_ := Aside0.mk (Kd.V_elder' (by (with_reducible repeat (first | apply Kd.V_alloc | apply Kd.V_drewN | apply Kd.V_drew)); exact HO_161007.out) (Kd.R_base ho0) hb)
                    have n1_ := Aside0.mk (Kd.V_elder' (by (with_reducible repeat (first | apply Kd.V_alloc | apply Kd.V_drewN | apply Kd.V_drew)); exact HO_161008.out) (Kd.R_base ho0) hb)
                    have n2_ := Aside0.mk (Kd.R_lower (Kd.R_newM (M := fun k_ => (w.heap.size ≤ k_)) ho0 (below_size (by repeat (first | (with_reducible first | exact HB.out | apply below_alloc | apply pw_below_drewN | apply below_drew1 | refine below_set ?_ GE160.out) | exact HB.out))) (fun k_ h_ => h_)) (below_size (by repeat (first | (with_reducible first | exact HB.out | apply below_alloc | apply pw_below_drewN | apply below_drew1 | refine below_set ?_ GE160.out) | exact HB.out))))
                    have n3_ := Aside0.mk (blk_below (g := gb160) (o := .cells #[.int .i64 a2_0, .int .i64 a2_1, .int .u32 a2_2, .int .u32 a2_3, .int .i64 a2_4, .int .i64 a2_5, .int .i64 a2_6, .slice A2_7 l2_7.length c2_7, .slice A2_8 l2_8.length c2_8] 27 (0, 0)) (by (with_reducible repeat (first | refine blk_drewN ?_ _ | refine blk_drew ?_ | refine blk_alloc ?_ _)); exact BK160.out) hb)
                    have n4_ := Aside0.mk (below_step (by repeat (first | (with_reducible first | exact HB.out | apply below_alloc | apply pw_below_drewN | apply below_drew1 | refine below_set ?_ GE160.out) | exact HB.out)) hb)
                    have z_HO180 := fun (h0_ : b 19 = true) => (show Kd.R (Kd.int .u8) 5 w45 w.heap.size (fun k_ => (w.heap.size ≤ k_)) v179 y178 from by first | exact (Kd.R_elder' (by (with_reducible repeat (first | apply Kd.R_alloc | apply Kd.R_drewN | apply Kd.R_drew)); exact (Q_HO180 h0_)) (Kd.R_base ho0) hb) | exact Kd.R_mono (Kd.R_elder' (by (with_reducible repeat (first | apply Kd.R_alloc | apply Kd.R_drewN | apply Kd.R_drew)); exact (Q_HO180 h0_)) (Kd.R_base ho0) hb) (fun _ h_ => by first | trivial | exact h_ | exact h_.1))
                    have z_HO186 := fun (h0_ : b 23 = true) => (show Kd.R (Kd.int .u8) 5 w45 w.heap.size (fun k_ => (w.heap.size ≤ k_)) v185 y184 from by first | exact (Kd.R_elder' (by (with_reducible repeat (first | apply Kd.R_alloc | apply Kd.R_drewN | apply Kd.R_drew)); exact (Q_HO186 h0_)) (Kd.R_base ho0) hb) | exact Kd.R_mono (Kd.R_elder' (by (with_reducible repeat (first | apply Kd.R_alloc | apply Kd.R_drewN | apply Kd.R_drew)); exact (Q_HO186 h0_)) (Kd.R_base ho0) hb) (fun _ h_ => by first | trivial | exact h_ | exact h_.1))
                    clear HO_161007
                    clear HO_161008
                    clear BK160
                    clear HB
                    have HO_161007 := n0_
                    have HO_161008 := n1_
                    have HO168 := n2_
                    have BK160 := n3_
                    have HB := n4_
                    clear n0_ n1_ n2_ n3_ n4_
                    (try clear hb)
                    (try clear hb2)
                    (try clear hk)
                    (try clear hi)
                    (try clear ho0)
                    refine hK.out _ _ ⟨v167, v170, v173, v176, v179, v182, v185, v188, v191, v194, m33_, (by rw [ha.out]; exact putSel_upk 1 hb_ rfl rfl rfl), (by first | ((with_reducible repeat (first | apply Kd.V_alloc | apply Kd.V_drewN | apply Kd.V_drew)); exact Kd.V_mono HO_161007.out (fun _ hk => by first | exact ⟨hk.1.1, ⟨hk.2, hk.1.2⟩⟩ | exact okw hk)) | ((with_reducible repeat (first | apply Kd.V_alloc | apply Kd.V_drewN | apply Kd.V_drew)); exact Kd.V_mono HO_161007.out (fun _ hk => by first | trivial | exact hk | exact hk.1 | exact hk.2 | exact hk.1.1 | exact okw hk))), (by first | ((with_reducible repeat (first | apply Kd.V_alloc | apply Kd.V_drewN | apply Kd.V_drew)); exact Kd.V_mono HO_161008.out (fun _ hk => by first | exact ⟨hk.1.1, ⟨hk.2, hk.1.2⟩⟩ | exact okw hk)) | ((with_reducible repeat (first | apply Kd.V_alloc | apply Kd.V_drewN | apply Kd.V_drew)); exact Kd.V_mono HO_161008.out (fun _ hk => by first | trivial | exact hk | exact hk.1 | exact hk.2 | exact hk.1.1 | exact okw hk))), (by (with_reducible repeat (first | refine blk_drewN ?_ _ | refine blk_drew ?_ | refine blk_alloc ?_ _)); exact BK160.out), (by repeat (first | (with_reducible first | exact HB.out | apply below_alloc | apply pw_below_drewN | apply below_drew1 | refine below_set ?_ GE160.out) | exact HB.out)), fun _ => (by first | ((with_reducible repeat (first | apply Kd.R_alloc | apply Kd.R_drewN | apply Kd.R_drew)); exact Kd.R_mono HO168.out (fun _ hk => hk.1)) | ((with_reducible repeat (first | apply Kd.R_alloc | apply Kd.R_drewN | apply Kd.R_drew)); exact Kd.R_mono HO168.out (fun _ hk => by first | trivial | exact hk | exact hk.1 | exact hk.2 | exact hk.1.1 | exact okw hk))), fun h0_ => absurd ((hoff 5 (by kernel_rfl)).symm.trans h0_) (by decide), fun h0_ => absurd ((hoff 8 (by kernel_rfl)).symm.trans h0_) (by decide), fun h0_ => absurd ((hoff 11 (by kernel_rfl)).symm.trans h0_) (by decide), z_HO180, fun h0_ => absurd ((hoff 22 (by kernel_rfl)).symm.trans h0_) (by decide), z_HO186, fun h0_ => absurd ((hoff 26 (by kernel_rfl)).symm.trans h0_) (by decide), fun h0_ _ => absurd ((hoff 31 (by kernel_rfl)).symm.trans h0_) (by decide), fun h0_ => absurd ((hoff 32 (by kernel_rfl)).symm.trans h0_) (by decide), fun h0_ => absurd ((hoff 33 (by kernel_rfl)).symm.trans h0_) (by decide)⟩
                  refine steps_cons ?_ ?_
                  · rintro b a w' ⟨v167, v170, v173, v176, v179, v182, v185, v188, v191, v194, m33_, ha, Q_HO_161007, Q_HO_161008, Q_BK160, Q_HB, Q_HO168, Q_HO171, Q_HO174, Q_HO177, Q_HO180, Q_HO183, Q_HO186, Q_HO189, Q_HO192, Q_HO195, Q_X33_⟩ hb_ hon hoff
                    refine ⟨_, rfl, fun K hK => ?_⟩
                    have e66 : a.tmps[66]? = some (.pointer (some ⟨gb160, 1, none⟩)) := by rw [ha]; exact (putSel_off rfl).trans rfl
                    replace ha := Aside0.mk ha
                    have HO_161007 := Aside0.mk Q_HO_161007
                    have HO_161008 := Aside0.mk Q_HO_161008
                    have BK160 := Aside0.mk Q_BK160
                    have HB := Aside0.mk Q_HB
                    have hc0_ : w'.cell? ⟨gb160, 0, none⟩ = some (.int .i64 a2_0) := (blk_cell BK160.out 0).trans rfl
                    have hc1_ : w'.cell? ⟨gb160, 1, none⟩ = some (.int .i64 a2_1) := (blk_cell BK160.out 1).trans rfl
                    have hc2_ : w'.cell? ⟨gb160, 2, none⟩ = some (.int .u32 a2_2) := (blk_cell BK160.out 2).trans rfl
                    have hc3_ : w'.cell? ⟨gb160, 3, none⟩ = some (.int .u32 a2_3) := (blk_cell BK160.out 3).trans rfl
                    have hc4_ : w'.cell? ⟨gb160, 4, none⟩ = some (.int .i64 a2_4) := (blk_cell BK160.out 4).trans rfl
                    have hc5_ : w'.cell? ⟨gb160, 5, none⟩ = some (.int .i64 a2_5) := (blk_cell BK160.out 5).trans rfl
                    have hc6_ : w'.cell? ⟨gb160, 6, none⟩ = some (.int .i64 a2_6) := (blk_cell BK160.out 6).trans rfl
                    have hc7_ : w'.cell? ⟨gb160, 7, none⟩ = some (.slice A2_7 l2_7.length c2_7) := (blk_cell BK160.out 7).trans rfl
                    have hc8_ : w'.cell? ⟨gb160, 8, none⟩ = some (.slice A2_8 l2_8.length c2_8) := (blk_cell BK160.out 8).trans rfl
                    refine value_ (w1 := w') (v := .int .i64 a2_1) (by rfl) rfl ?_ ?_
                    · go_simp
                      (try simp only [i64_w])
                      try rfl
                    refine hK.out _ _ ⟨v167, v170, v173, v176, v179, v182, v185, v188, v191, v194, m33_, (by rw [ha.out]; exact putSel_upk 2 hb_ rfl rfl rfl), Q_HO_161007, Q_HO_161008, Q_BK160, Q_HB, Q_HO168, fun h0_ => absurd ((hoff 5 (by kernel_rfl)).symm.trans h0_) (by decide), fun h0_ => absurd ((hoff 8 (by kernel_rfl)).symm.trans h0_) (by decide), fun h0_ => absurd ((hoff 11 (by kernel_rfl)).symm.trans h0_) (by decide), Q_HO180, fun h0_ => absurd ((hoff 22 (by kernel_rfl)).symm.trans h0_) (by decide), Q_HO186, fun h0_ => absurd ((hoff 26 (by kernel_rfl)).symm.trans h0_) (by decide), fun h0_ _ => absurd ((hoff 31 (by kernel_rfl)).symm.trans h0_) (by decide), fun h0_ => absurd ((hoff 32 (by kernel_rfl)).symm.trans h0_) (by decide), fun h0_ => absurd ((hoff 33 (by kernel_rfl)).symm.trans h0_) (by decide)⟩
                  refine steps_cons ?_ ?_
                  · rintro b a w' ⟨v167, v170, v173, v176, v179, v182, v185, v188, v191, v194, m33_, ha, Q_HO_161007, Q_HO_161008, Q_BK160, Q_HB, Q_HO168, Q_HO171, Q_HO174, Q_HO177, Q_HO180, Q_HO183, Q_HO186, Q_HO189, Q_HO192, Q_HO195, Q_X33_⟩ hb_ hon hoff
                    refine ⟨_, rfl, fun K hK => ?_⟩
                    have e67 : a.tmps[67]? = some (.int .i64 a2_1) := by rw [ha]; exact putSel_on (e := (4, 67, .int .i64 a2_1)) 2 rfl rfl (hon 4 (by kernel_rfl)) rfl
                    replace ha := Aside0.mk ha
                    have HO_161007 := Aside0.mk Q_HO_161007
                    have HO_161008 := Aside0.mk Q_HO_161008
                    have BK160 := Aside0.mk Q_BK160
                    have HB := Aside0.mk Q_HB
                    have HO168 := Aside0.mk (Q_HO168 (hon 2 (by kernel_rfl)))
                    refine goes_ Try.func49 (by kernel_rfl) rfl #[.int .i64 a2_1] (by rfl) rfl rfl (by first | (simp only [List.map_toArray, List.map_cons, List.map_nil, Act.eval, Array.getD_eq_getD_getElem?, Option.getD_some, e67]; done) | (simp only [List.map_toArray, List.map_cons, List.map_nil, Act.eval, Array.getD_eq_getD_getElem?, Option.getD_some, e67]; rfl)) ?_
                    with_reducible refine (word_Put16.calls a2_1 t169 _ A29.out).mono ?_
                    rintro e w47 ⟨v170, rfl, ho0, hb⟩
                    refine ⟨_, rfl, ?_⟩
                    have n0_ := Aside0.mk (Kd.V_elder' (by (with_reducible repeat (first | apply Kd.V_alloc | apply Kd.V_drewN | apply Kd.V_drew)); exact HO_161007.out) (Kd.R_base ho0) hb)
                    have n1_ := Aside0.mk (Kd.V_elder' (by (with_reducible repeat (first | apply Kd.V_alloc | apply Kd.V_drewN | apply Kd.V_drew)); exact HO_161008.out) (Kd.R_base ho0) hb)
                    have n2_ := Aside0.mk (Kd.R_elder' (by (with_reducible repeat (first | apply Kd.R_alloc | apply Kd.R_drewN | apply Kd.R_drew)); exact HO168.out) (Kd.R_base ho0) hb)
                    have n3_ := Aside0.mk (Kd.R_lower (Kd.R_new' (Kd.R_newM (M := fun k_ => (w.heap.size ≤ k_)) ho0 (below_size (by repeat (first | (with_reducible first | exact HB.out | apply below_alloc | apply pw_below_drewN | apply below_drew1 | refine below_set ?_ GE160.out) | exact HB.out))) (fun k_ h_ => h_)) (Kd.R_lt (by (with_reducible repeat (first | apply Kd.R_alloc | apply Kd.R_drewN | apply Kd.R_drew)); exact HO168.out))) (below_size (by repeat (first | (with_reducible first | exact HB.out | apply below_alloc | apply pw_below_drewN | apply below_drew1 | refine below_set ?_ GE160.out) | exact HB.out))))
                    have n4_ := Aside0.mk (blk_below (g := gb160) (o := .cells #[.int .i64 a2_0, .int .i64 a2_1, .int .u32 a2_2, .int .u32 a2_3, .int .i64 a2_4, .int .i64 a2_5, .int .i64 a2_6, .slice A2_7 l2_7.length c2_7, .slice A2_8 l2_8.length c2_8] 27 (0, 0)) (by (with_reducible repeat (first | refine blk_drewN ?_ _ | refine blk_drew ?_ | refine blk_alloc ?_ _)); exact BK160.out) hb)
                    have n5_ := Aside0.mk (below_step (by repeat (first | (with_reducible first | exact HB.out | apply below_alloc | apply pw_below_drewN | apply below_drew1 | refine below_set ?_ GE160.out) | exact HB.out)) hb)
                    have z_HO180 := fun (h0_ : b 19 = true) => (show Kd.R (Kd.int .u8) 5 w47 w.heap.size (fun k_ => (w.heap.size ≤ k_)) v179 y178 from by first | exact (Kd.R_elder' (by (with_reducible repeat (first | apply Kd.R_alloc | apply Kd.R_drewN | apply Kd.R_drew)); exact (Q_HO180 h0_)) (Kd.R_base ho0) hb) | exact Kd.R_mono (Kd.R_elder' (by (with_reducible repeat (first | apply Kd.R_alloc | apply Kd.R_drewN | apply Kd.R_drew)); exact (Q_HO180 h0_)) (Kd.R_base ho0) hb) (fun _ h_ => by first | trivial | exact h_ | exact h_.1))
                    have z_HO186 := fun (h0_ : b 23 = true) => (show Kd.R (Kd.int .u8) 5 w47 w.heap.size (fun k_ => (w.heap.size ≤ k_)) v185 y184 from by first | exact (Kd.R_elder' (by (with_reducible repeat (first | apply Kd.R_alloc | apply Kd.R_drewN | apply Kd.R_drew)); exact (Q_HO186 h0_)) (Kd.R_base ho0) hb) | exact Kd.R_mono (Kd.R_elder' (by (with_reducible repeat (first | apply Kd.R_alloc | apply Kd.R_drewN | apply Kd.R_drew)); exact (Q_HO186 h0_)) (Kd.R_base ho0) hb) (fun _ h_ => by first | trivial | exact h_ | exact h_.1))
                    clear HO_161007
                    clear HO_161008
                    clear HO168
                    clear BK160
                    clear HB
                    have HO_161007 := n0_
                    have HO_161008 := n1_
                    have HO168 := n2_
                    have HO171 := n3_
                    have BK160 := n4_
                    have HB := n5_
                    clear n0_ n1_ n2_ n3_ n4_ n5_
                    (try clear hb)
                    (try clear hb2)
                    (try clear hk)
                    (try clear hi)
                    (try clear ho0)
                    refine hK.out _ _ ⟨v167, v170, v173, v176, v179, v182, v185, v188, v191, v194, m33_, (by rw [ha.out]; exact putSel_upk 3 hb_ rfl rfl rfl), (by first | ((with_reducible repeat (first | apply Kd.V_alloc | apply Kd.V_drewN | apply Kd.V_drew)); exact Kd.V_mono HO_161007.out (fun _ hk => by first | exact ⟨hk.1.1, ⟨hk.1.2.1, ⟨hk.2, hk.1.2.2⟩⟩⟩ | exact okw hk)) | ((with_reducible repeat (first | apply Kd.V_alloc | apply Kd.V_drewN | apply Kd.V_drew)); exact Kd.V_mono HO_161007.out (fun _ hk => by first | trivial | exact hk | exact hk.1 | exact hk.2 | exact hk.1.1 | exact okw hk))), (by first | ((with_reducible repeat (first | apply Kd.V_alloc | apply Kd.V_drewN | apply Kd.V_drew)); exact Kd.V_mono HO_161008.out (fun _ hk => by first | exact ⟨hk.1.1, ⟨hk.1.2.1, ⟨hk.2, hk.1.2.2⟩⟩⟩ | exact okw hk)) | ((with_reducible repeat (first | apply Kd.V_alloc | apply Kd.V_drewN | apply Kd.V_drew)); exact Kd.V_mono HO_161008.out (fun _ hk => by first | trivial | exact hk | exact hk.1 | exact hk.2 | exact hk.1.1 | exact okw hk))), (by (with_reducible repeat (first | refine blk_drewN ?_ _ | refine blk_drew ?_ | refine blk_alloc ?_ _)); exact BK160.out), (by repeat (first | (with_reducible first | exact HB.out | apply below_alloc | apply pw_below_drewN | apply below_drew1 | refine below_set ?_ GE160.out) | exact HB.out)), fun _ => (by first | ((with_reducible repeat (first | apply Kd.R_alloc | apply Kd.R_drewN | apply Kd.R_drew)); exact HO168.out) | ((with_reducible repeat (first | apply Kd.R_alloc | apply Kd.R_drewN | apply Kd.R_drew)); exact Kd.R_mono HO168.out (fun _ hk => by first | trivial | exact hk | exact hk.1 | exact hk.2 | exact hk.1.1 | exact okw hk))), fun _ => (by first | ((with_reducible repeat (first | apply Kd.R_alloc | apply Kd.R_drewN | apply Kd.R_drew)); exact Kd.R_mono HO171.out (fun _ hk => by first | exact ⟨hk.1.1, hk.2⟩ | exact okw hk)) | ((with_reducible repeat (first | apply Kd.R_alloc | apply Kd.R_drewN | apply Kd.R_drew)); exact Kd.R_mono HO171.out (fun _ hk => by first | trivial | exact hk | exact hk.1 | exact hk.2 | exact hk.1.1 | exact okw hk))), fun h0_ => absurd ((hoff 8 (by kernel_rfl)).symm.trans h0_) (by decide), fun h0_ => absurd ((hoff 11 (by kernel_rfl)).symm.trans h0_) (by decide), z_HO180, fun h0_ => absurd ((hoff 22 (by kernel_rfl)).symm.trans h0_) (by decide), z_HO186, fun h0_ => absurd ((hoff 26 (by kernel_rfl)).symm.trans h0_) (by decide), fun h0_ _ => absurd ((hoff 31 (by kernel_rfl)).symm.trans h0_) (by decide), fun h0_ => absurd ((hoff 32 (by kernel_rfl)).symm.trans h0_) (by decide), fun h0_ => absurd ((hoff 33 (by kernel_rfl)).symm.trans h0_) (by decide)⟩
                  refine steps_cons ?_ ?_
                  · rintro b a w' ⟨v167, v170, v173, v176, v179, v182, v185, v188, v191, v194, m33_, ha, Q_HO_161007, Q_HO_161008, Q_BK160, Q_HB, Q_HO168, Q_HO171, Q_HO174, Q_HO177, Q_HO180, Q_HO183, Q_HO186, Q_HO189, Q_HO192, Q_HO195, Q_X33_⟩ hb_ hon hoff
                    refine ⟨_, rfl, fun K hK => ?_⟩
                    have e69 : a.tmps[69]? = some (.pointer (some ⟨gb160, 2, none⟩)) := by rw [ha]; exact (putSel_off rfl).trans rfl
                    replace ha := Aside0.mk ha
                    have HO_161007 := Aside0.mk Q_HO_161007
                    have HO_161008 := Aside0.mk Q_HO_161008
                    have BK160 := Aside0.mk Q_BK160
                    have HB := Aside0.mk Q_HB
                    have hc0_ : w'.cell? ⟨gb160, 0, none⟩ = some (.int .i64 a2_0) := (blk_cell BK160.out 0).trans rfl
                    have hc1_ : w'.cell? ⟨gb160, 1, none⟩ = some (.int .i64 a2_1) := (blk_cell BK160.out 1).trans rfl
                    have hc2_ : w'.cell? ⟨gb160, 2, none⟩ = some (.int .u32 a2_2) := (blk_cell BK160.out 2).trans rfl
                    have hc3_ : w'.cell? ⟨gb160, 3, none⟩ = some (.int .u32 a2_3) := (blk_cell BK160.out 3).trans rfl
                    have hc4_ : w'.cell? ⟨gb160, 4, none⟩ = some (.int .i64 a2_4) := (blk_cell BK160.out 4).trans rfl
                    have hc5_ : w'.cell? ⟨gb160, 5, none⟩ = some (.int .i64 a2_5) := (blk_cell BK160.out 5).trans rfl
                    have hc6_ : w'.cell? ⟨gb160, 6, none⟩ = some (.int .i64 a2_6) := (blk_cell BK160.out 6).trans rfl
                    have hc7_ : w'.cell? ⟨gb160, 7, none⟩ = some (.slice A2_7 l2_7.length c2_7) := (blk_cell BK160.out 7).trans rfl
                    have hc8_ : w'.cell? ⟨gb160, 8, none⟩ = some (.slice A2_8 l2_8.length c2_8) := (blk_cell BK160.out 8).trans rfl
                    refine value_ (w1 := w') (v := .int .u32 a2_2) (by rfl) rfl ?_ ?_
                    · go_simp
                      (try simp only [i64_w])
                      try rfl
                    refine hK.out _ _ ⟨v167, v170, v173, v176, v179, v182, v185, v188, v191, v194, m33_, (by rw [ha.out]; exact putSel_upk 4 hb_ rfl rfl rfl), Q_HO_161007, Q_HO_161008, Q_BK160, Q_HB, Q_HO168, Q_HO171, fun h0_ => absurd ((hoff 8 (by kernel_rfl)).symm.trans h0_) (by decide), fun h0_ => absurd ((hoff 11 (by kernel_rfl)).symm.trans h0_) (by decide), Q_HO180, fun h0_ => absurd ((hoff 22 (by kernel_rfl)).symm.trans h0_) (by decide), Q_HO186, fun h0_ => absurd ((hoff 26 (by kernel_rfl)).symm.trans h0_) (by decide), fun h0_ _ => absurd ((hoff 31 (by kernel_rfl)).symm.trans h0_) (by decide), fun h0_ => absurd ((hoff 32 (by kernel_rfl)).symm.trans h0_) (by decide), fun h0_ => absurd ((hoff 33 (by kernel_rfl)).symm.trans h0_) (by decide)⟩
                  refine steps_cons ?_ ?_
                  · rintro b a w' ⟨v167, v170, v173, v176, v179, v182, v185, v188, v191, v194, m33_, ha, Q_HO_161007, Q_HO_161008, Q_BK160, Q_HB, Q_HO168, Q_HO171, Q_HO174, Q_HO177, Q_HO180, Q_HO183, Q_HO186, Q_HO189, Q_HO192, Q_HO195, Q_X33_⟩ hb_ hon hoff
                    refine ⟨_, rfl, fun K hK => ?_⟩
                    have e70 : a.tmps[70]? = some (.int .u32 a2_2) := by rw [ha]; exact putSel_on (e := (7, 70, .int .u32 a2_2)) 4 rfl rfl (hon 7 (by kernel_rfl)) rfl
                    replace ha := Aside0.mk ha
                    have HO_161007 := Aside0.mk Q_HO_161007
                    have HO_161008 := Aside0.mk Q_HO_161008
                    have BK160 := Aside0.mk Q_BK160
                    have HB := Aside0.mk Q_HB
                    have HO168 := Aside0.mk (Q_HO168 (hon 2 (by kernel_rfl)))
                    have HO171 := Aside0.mk (Q_HO171 (hon 5 (by kernel_rfl)))
                    refine goes_ Try.func50 (by kernel_rfl) rfl #[.int .u32 a2_2] (by rfl) rfl rfl (by first | (simp only [List.map_toArray, List.map_cons, List.map_nil, Act.eval, Array.getD_eq_getD_getElem?, Option.getD_some, e70]; done) | (simp only [List.map_toArray, List.map_cons, List.map_nil, Act.eval, Array.getD_eq_getD_getElem?, Option.getD_some, e70]; rfl)) ?_
                    with_reducible refine (word_Put32.calls a2_2 t172 _ A30.out).mono ?_
                    rintro e w48 ⟨v173, rfl, ho0, hb⟩
                    refine ⟨_, rfl, ?_⟩
                    have n0_ := Aside0.mk (Kd.V_elder' (by (with_reducible repeat (first | apply Kd.V_alloc | apply Kd.V_drewN | apply Kd.V_drew)); exact HO_161007.out) (Kd.R_base ho0) hb)
                    have n1_ := Aside0.mk (Kd.V_elder' (by (with_reducible repeat (first | apply Kd.V_alloc | apply Kd.V_drewN | apply Kd.V_drew)); exact HO_161008.out) (Kd.R_base ho0) hb)
                    have n2_ := Aside0.mk (Kd.R_elder' (by (with_reducible repeat (first | apply Kd.R_alloc | apply Kd.R_drewN | apply Kd.R_drew)); exact HO168.out) (Kd.R_base ho0) hb)
                    have n3_ := Aside0.mk (Kd.R_elder' (by (with_reducible repeat (first | apply Kd.R_alloc | apply Kd.R_drewN | apply Kd.R_drew)); exact HO171.out) (Kd.R_base ho0) hb)
                    have n4_ := Aside0.mk (Kd.R_lower (Kd.R_new' (Kd.R_new' (Kd.R_newM (M := fun k_ => (w.heap.size ≤ k_)) ho0 (below_size (by repeat (first | (with_reducible first | exact HB.out | apply below_alloc | apply pw_below_drewN | apply below_drew1 | refine below_set ?_ GE160.out) | exact HB.out))) (fun k_ h_ => h_)) (Kd.R_lt (by (with_reducible repeat (first | apply Kd.R_alloc | apply Kd.R_drewN | apply Kd.R_drew)); exact HO168.out))) (Kd.R_lt (by (with_reducible repeat (first | apply Kd.R_alloc | apply Kd.R_drewN | apply Kd.R_drew)); exact HO171.out))) (below_size (by repeat (first | (with_reducible first | exact HB.out | apply below_alloc | apply pw_below_drewN | apply below_drew1 | refine below_set ?_ GE160.out) | exact HB.out))))
                    have n5_ := Aside0.mk (blk_below (g := gb160) (o := .cells #[.int .i64 a2_0, .int .i64 a2_1, .int .u32 a2_2, .int .u32 a2_3, .int .i64 a2_4, .int .i64 a2_5, .int .i64 a2_6, .slice A2_7 l2_7.length c2_7, .slice A2_8 l2_8.length c2_8] 27 (0, 0)) (by (with_reducible repeat (first | refine blk_drewN ?_ _ | refine blk_drew ?_ | refine blk_alloc ?_ _)); exact BK160.out) hb)
                    have n6_ := Aside0.mk (below_step (by repeat (first | (with_reducible first | exact HB.out | apply below_alloc | apply pw_below_drewN | apply below_drew1 | refine below_set ?_ GE160.out) | exact HB.out)) hb)
                    have z_HO180 := fun (h0_ : b 19 = true) => (show Kd.R (Kd.int .u8) 5 w48 w.heap.size (fun k_ => (w.heap.size ≤ k_)) v179 y178 from by first | exact (Kd.R_elder' (by (with_reducible repeat (first | apply Kd.R_alloc | apply Kd.R_drewN | apply Kd.R_drew)); exact (Q_HO180 h0_)) (Kd.R_base ho0) hb) | exact Kd.R_mono (Kd.R_elder' (by (with_reducible repeat (first | apply Kd.R_alloc | apply Kd.R_drewN | apply Kd.R_drew)); exact (Q_HO180 h0_)) (Kd.R_base ho0) hb) (fun _ h_ => by first | trivial | exact h_ | exact h_.1))
                    have z_HO186 := fun (h0_ : b 23 = true) => (show Kd.R (Kd.int .u8) 5 w48 w.heap.size (fun k_ => (w.heap.size ≤ k_)) v185 y184 from by first | exact (Kd.R_elder' (by (with_reducible repeat (first | apply Kd.R_alloc | apply Kd.R_drewN | apply Kd.R_drew)); exact (Q_HO186 h0_)) (Kd.R_base ho0) hb) | exact Kd.R_mono (Kd.R_elder' (by (with_reducible repeat (first | apply Kd.R_alloc | apply Kd.R_drewN | apply Kd.R_drew)); exact (Q_HO186 h0_)) (Kd.R_base ho0) hb) (fun _ h_ => by first | trivial | exact h_ | exact h_.1))
                    clear HO_161007
                    clear HO_161008
                    clear HO168
                    clear HO171
                    clear BK160
                    clear HB
                    have HO_161007 := n0_
                    have HO_161008 := n1_
                    have HO168 := n2_
                    have HO171 := n3_
                    have HO174 := n4_
                    have BK160 := n5_
                    have HB := n6_
                    clear n0_ n1_ n2_ n3_ n4_ n5_ n6_
                    (try clear hb)
                    (try clear hb2)
                    (try clear hk)
                    (try clear hi)
                    (try clear ho0)
                    refine hK.out _ _ ⟨v167, v170, v173, v176, v179, v182, v185, v188, v191, v194, m33_, (by rw [ha.out]; exact putSel_upk 5 hb_ rfl rfl rfl), (by first | ((with_reducible repeat (first | apply Kd.V_alloc | apply Kd.V_drewN | apply Kd.V_drew)); exact Kd.V_mono HO_161007.out (fun _ hk => by first | exact ⟨hk.1.1, ⟨hk.1.2.1, ⟨hk.1.2.2.1, ⟨hk.2, hk.1.2.2.2⟩⟩⟩⟩ | exact okw hk)) | ((with_reducible repeat (first | apply Kd.V_alloc | apply Kd.V_drewN | apply Kd.V_drew)); exact Kd.V_mono HO_161007.out (fun _ hk => by first | trivial | exact hk | exact hk.1 | exact hk.2 | exact hk.1.1 | exact okw hk))), (by first | ((with_reducible repeat (first | apply Kd.V_alloc | apply Kd.V_drewN | apply Kd.V_drew)); exact Kd.V_mono HO_161008.out (fun _ hk => by first | exact ⟨hk.1.1, ⟨hk.1.2.1, ⟨hk.1.2.2.1, ⟨hk.2, hk.1.2.2.2⟩⟩⟩⟩ | exact okw hk)) | ((with_reducible repeat (first | apply Kd.V_alloc | apply Kd.V_drewN | apply Kd.V_drew)); exact Kd.V_mono HO_161008.out (fun _ hk => by first | trivial | exact hk | exact hk.1 | exact hk.2 | exact hk.1.1 | exact okw hk))), (by (with_reducible repeat (first | refine blk_drewN ?_ _ | refine blk_drew ?_ | refine blk_alloc ?_ _)); exact BK160.out), (by repeat (first | (with_reducible first | exact HB.out | apply below_alloc | apply pw_below_drewN | apply below_drew1 | refine below_set ?_ GE160.out) | exact HB.out)), fun _ => (by first | ((with_reducible repeat (first | apply Kd.R_alloc | apply Kd.R_drewN | apply Kd.R_drew)); exact Kd.R_mono HO168.out (fun _ hk => by first | exact ⟨hk.1.1, ⟨hk.1.2, hk.2⟩⟩ | exact okw hk)) | ((with_reducible repeat (first | apply Kd.R_alloc | apply Kd.R_drewN | apply Kd.R_drew)); exact Kd.R_mono HO168.out (fun _ hk => by first | trivial | exact hk | exact hk.1 | exact hk.2 | exact hk.1.1 | exact okw hk))), fun _ => (by first | ((with_reducible repeat (first | apply Kd.R_alloc | apply Kd.R_drewN | apply Kd.R_drew)); exact Kd.R_mono HO171.out (fun _ hk => by first | exact ⟨hk.1.1, ⟨hk.1.2, hk.2⟩⟩ | exact okw hk)) | ((with_reducible repeat (first | apply Kd.R_alloc | apply Kd.R_drewN | apply Kd.R_drew)); exact Kd.R_mono HO171.out (fun _ hk => by first | trivial | exact hk | exact hk.1 | exact hk.2 | exact hk.1.1 | exact okw hk))), fun _ => (by first | ((with_reducible repeat (first | apply Kd.R_alloc | apply Kd.R_drewN | apply Kd.R_drew)); exact Kd.R_mono HO174.out (fun _ hk => by first | exact ⟨hk.1.1.1, ⟨hk.1.2, hk.2⟩⟩ | exact okw hk)) | ((with_reducible repeat (first | apply Kd.R_alloc | apply Kd.R_drewN | apply Kd.R_drew)); exact Kd.R_mono HO174.out (fun _ hk => by first | trivial | exact hk | exact hk.1 | exact hk.2 | exact hk.1.1 | exact okw hk))), fun h0_ => absurd ((hoff 11 (by kernel_rfl)).symm.trans h0_) (by decide), z_HO180, fun h0_ => absurd ((hoff 22 (by kernel_rfl)).symm.trans h0_) (by decide), z_HO186, fun h0_ => absurd ((hoff 26 (by kernel_rfl)).symm.trans h0_) (by decide), fun h0_ _ => absurd ((hoff 31 (by kernel_rfl)).symm.trans h0_) (by decide), fun h0_ => absurd ((hoff 32 (by kernel_rfl)).symm.trans h0_) (by decide), fun h0_ => absurd ((hoff 33 (by kernel_rfl)).symm.trans h0_) (by decide)⟩
                  refine steps_cons ?_ ?_
                  · rintro b a w' ⟨v167, v170, v173, v176, v179, v182, v185, v188, v191, v194, m33_, ha, Q_HO_161007, Q_HO_161008, Q_BK160, Q_HB, Q_HO168, Q_HO171, Q_HO174, Q_HO177, Q_HO180, Q_HO183, Q_HO186, Q_HO189, Q_HO192, Q_HO195, Q_X33_⟩ hb_ hon hoff
                    refine ⟨_, rfl, fun K hK => ?_⟩
                    have e72 : a.tmps[72]? = some (.pointer (some ⟨gb160, 3, none⟩)) := by rw [ha]; exact (putSel_off rfl).trans rfl
                    replace ha := Aside0.mk ha
                    have HO_161007 := Aside0.mk Q_HO_161007
                    have HO_161008 := Aside0.mk Q_HO_161008
                    have BK160 := Aside0.mk Q_BK160
                    have HB := Aside0.mk Q_HB
                    have hc0_ : w'.cell? ⟨gb160, 0, none⟩ = some (.int .i64 a2_0) := (blk_cell BK160.out 0).trans rfl
                    have hc1_ : w'.cell? ⟨gb160, 1, none⟩ = some (.int .i64 a2_1) := (blk_cell BK160.out 1).trans rfl
                    have hc2_ : w'.cell? ⟨gb160, 2, none⟩ = some (.int .u32 a2_2) := (blk_cell BK160.out 2).trans rfl
                    have hc3_ : w'.cell? ⟨gb160, 3, none⟩ = some (.int .u32 a2_3) := (blk_cell BK160.out 3).trans rfl
                    have hc4_ : w'.cell? ⟨gb160, 4, none⟩ = some (.int .i64 a2_4) := (blk_cell BK160.out 4).trans rfl
                    have hc5_ : w'.cell? ⟨gb160, 5, none⟩ = some (.int .i64 a2_5) := (blk_cell BK160.out 5).trans rfl
                    have hc6_ : w'.cell? ⟨gb160, 6, none⟩ = some (.int .i64 a2_6) := (blk_cell BK160.out 6).trans rfl
                    have hc7_ : w'.cell? ⟨gb160, 7, none⟩ = some (.slice A2_7 l2_7.length c2_7) := (blk_cell BK160.out 7).trans rfl
                    have hc8_ : w'.cell? ⟨gb160, 8, none⟩ = some (.slice A2_8 l2_8.length c2_8) := (blk_cell BK160.out 8).trans rfl
                    refine value_ (w1 := w') (v := .int .u32 a2_3) (by rfl) rfl ?_ ?_
                    · go_simp
                      (try simp only [i64_w])
                      try rfl
                    refine hK.out _ _ ⟨v167, v170, v173, v176, v179, v182, v185, v188, v191, v194, m33_, (by rw [ha.out]; exact putSel_upk 6 hb_ rfl rfl rfl), Q_HO_161007, Q_HO_161008, Q_BK160, Q_HB, Q_HO168, Q_HO171, Q_HO174, fun h0_ => absurd ((hoff 11 (by kernel_rfl)).symm.trans h0_) (by decide), Q_HO180, fun h0_ => absurd ((hoff 22 (by kernel_rfl)).symm.trans h0_) (by decide), Q_HO186, fun h0_ => absurd ((hoff 26 (by kernel_rfl)).symm.trans h0_) (by decide), fun h0_ _ => absurd ((hoff 31 (by kernel_rfl)).symm.trans h0_) (by decide), fun h0_ => absurd ((hoff 32 (by kernel_rfl)).symm.trans h0_) (by decide), fun h0_ => absurd ((hoff 33 (by kernel_rfl)).symm.trans h0_) (by decide)⟩
                  refine steps_cons ?_ ?_
                  · rintro b a w' ⟨v167, v170, v173, v176, v179, v182, v185, v188, v191, v194, m33_, ha, Q_HO_161007, Q_HO_161008, Q_BK160, Q_HB, Q_HO168, Q_HO171, Q_HO174, Q_HO177, Q_HO180, Q_HO183, Q_HO186, Q_HO189, Q_HO192, Q_HO195, Q_X33_⟩ hb_ hon hoff
                    refine ⟨_, rfl, fun K hK => ?_⟩
                    have e73 : a.tmps[73]? = some (.int .u32 a2_3) := by rw [ha]; exact putSel_on (e := (10, 73, .int .u32 a2_3)) 6 rfl rfl (hon 10 (by kernel_rfl)) rfl
                    replace ha := Aside0.mk ha
                    have HO_161007 := Aside0.mk Q_HO_161007
                    have HO_161008 := Aside0.mk Q_HO_161008
                    have BK160 := Aside0.mk Q_BK160
                    have HB := Aside0.mk Q_HB
                    have HO168 := Aside0.mk (Q_HO168 (hon 2 (by kernel_rfl)))
                    have HO171 := Aside0.mk (Q_HO171 (hon 5 (by kernel_rfl)))
                    have HO174 := Aside0.mk (Q_HO174 (hon 8 (by kernel_rfl)))
                    refine goes_ Try.func50 (by kernel_rfl) rfl #[.int .u32 a2_3] (by rfl) rfl rfl (by first | (simp only [List.map_toArray, List.map_cons, List.map_nil, Act.eval, Array.getD_eq_getD_getElem?, Option.getD_some, e73]; done) | (simp only [List.map_toArray, List.map_cons, List.map_nil, Act.eval, Array.getD_eq_getD_getElem?, Option.getD_some, e73]; rfl)) ?_
                    with_reducible refine (word_Put32.calls a2_3 t175 _ A31.out).mono ?_
                    rintro e w49 ⟨v176, rfl, ho0, hb⟩
                    refine ⟨_, rfl, ?_⟩
                    have n0_ := Aside0.mk (Kd.V_elder' (by (with_reducible repeat (first | apply Kd.V_alloc | apply Kd.V_drewN | apply Kd.V_drew)); exact HO_161007.out) (Kd.R_base ho0) hb)
                    have n1_ := Aside0.mk (Kd.V_elder' (by (with_reducible repeat (first | apply Kd.V_alloc | apply Kd.V_drewN | apply Kd.V_drew)); exact HO_161008.out) (Kd.R_base ho0) hb)
                    have n2_ := Aside0.mk (Kd.R_elder' (by (with_reducible repeat (first | apply Kd.R_alloc | apply Kd.R_drewN | apply Kd.R_drew)); exact HO168.out) (Kd.R_base ho0) hb)
                    have n3_ := Aside0.mk (Kd.R_elder' (by (with_reducible repeat (first | apply Kd.R_alloc | apply Kd.R_drewN | apply Kd.R_drew)); exact HO171.out) (Kd.R_base ho0) hb)
                    have n4_ := Aside0.mk (Kd.R_elder' (by (with_reducible repeat (first | apply Kd.R_alloc | apply Kd.R_drewN | apply Kd.R_drew)); exact HO174.out) (Kd.R_base ho0) hb)
                    have n5_ := Aside0.mk (Kd.R_lower (Kd.R_new' (Kd.R_new' (Kd.R_new' (Kd.R_newM (M := fun k_ => (w.heap.size ≤ k_)) ho0 (below_size (by repeat (first | (with_reducible first | exact HB.out | apply below_alloc | apply pw_below_drewN | apply below_drew1 | refine below_set ?_ GE160.out) | exact HB.out))) (fun k_ h_ => h_)) (Kd.R_lt (by (with_reducible repeat (first | apply Kd.R_alloc | apply Kd.R_drewN | apply Kd.R_drew)); exact HO168.out))) (Kd.R_lt (by (with_reducible repeat (first | apply Kd.R_alloc | apply Kd.R_drewN | apply Kd.R_drew)); exact HO171.out))) (Kd.R_lt (by (with_reducible repeat (first | apply Kd.R_alloc | apply Kd.R_drewN | apply Kd.R_drew)); exact HO174.out))) (below_size (by repeat (first | (with_reducible first | exact HB.out | apply below_alloc | apply pw_below_drewN | apply below_drew1 | refine below_set ?_ GE160.out) | exact HB.out))))
                    have n6_ := Aside0.mk (blk_below (g := gb160) (o := .cells #[.int .i64 a2_0, .int .i64 a2_1, .int .u32 a2_2, .int .u32 a2_3, .int .i64 a2_4, .int .i64 a2_5, .int .i64 a2_6, .slice A2_7 l2_7.length c2_7, .slice A2_8 l2_8.length c2_8] 27 (0, 0)) (by (with_reducible repeat (first | refine blk_drewN ?_ _ | refine blk_drew ?_ | refine blk_alloc ?_ _)); exact BK160.out) hb)
                    have n7_ := Aside0.mk (below_step (by repeat (first | (with_reducible first | exact HB.out | apply below_alloc | apply pw_below_drewN | apply below_drew1 | refine below_set ?_ GE160.out) | exact HB.out)) hb)
                    have z_HO180 := fun (h0_ : b 19 = true) => (show Kd.R (Kd.int .u8) 5 w49 w.heap.size (fun k_ => (w.heap.size ≤ k_)) v179 y178 from by first | exact (Kd.R_elder' (by (with_reducible repeat (first | apply Kd.R_alloc | apply Kd.R_drewN | apply Kd.R_drew)); exact (Q_HO180 h0_)) (Kd.R_base ho0) hb) | exact Kd.R_mono (Kd.R_elder' (by (with_reducible repeat (first | apply Kd.R_alloc | apply Kd.R_drewN | apply Kd.R_drew)); exact (Q_HO180 h0_)) (Kd.R_base ho0) hb) (fun _ h_ => by first | trivial | exact h_ | exact h_.1))
                    have z_HO186 := fun (h0_ : b 23 = true) => (show Kd.R (Kd.int .u8) 5 w49 w.heap.size (fun k_ => (w.heap.size ≤ k_)) v185 y184 from by first | exact (Kd.R_elder' (by (with_reducible repeat (first | apply Kd.R_alloc | apply Kd.R_drewN | apply Kd.R_drew)); exact (Q_HO186 h0_)) (Kd.R_base ho0) hb) | exact Kd.R_mono (Kd.R_elder' (by (with_reducible repeat (first | apply Kd.R_alloc | apply Kd.R_drewN | apply Kd.R_drew)); exact (Q_HO186 h0_)) (Kd.R_base ho0) hb) (fun _ h_ => by first | trivial | exact h_ | exact h_.1))
                    clear HO_161007
                    clear HO_161008
                    clear HO168
                    clear HO171
                    clear HO174
                    clear BK160
                    clear HB
                    have HO_161007 := n0_
                    have HO_161008 := n1_
                    have HO168 := n2_
                    have HO171 := n3_
                    have HO174 := n4_
                    have HO177 := n5_
                    have BK160 := n6_
                    have HB := n7_
                    clear n0_ n1_ n2_ n3_ n4_ n5_ n6_ n7_
                    (try clear hb)
                    (try clear hb2)
                    (try clear hk)
                    (try clear hi)
                    (try clear ho0)
                    refine hK.out _ _ ⟨v167, v170, v173, v176, v179, v182, v185, v188, v191, v194, m33_, (by rw [ha.out]; exact putSel_upk 7 hb_ rfl rfl rfl), (by first | ((with_reducible repeat (first | apply Kd.V_alloc | apply Kd.V_drewN | apply Kd.V_drew)); exact Kd.V_mono HO_161007.out (fun _ hk => by first | exact ⟨hk.1.1, ⟨hk.1.2.1, ⟨hk.1.2.2.1, ⟨hk.1.2.2.2.1, ⟨hk.2, hk.1.2.2.2.2⟩⟩⟩⟩⟩ | exact okw hk)) | ((with_reducible repeat (first | apply Kd.V_alloc | apply Kd.V_drewN | apply Kd.V_drew)); exact Kd.V_mono HO_161007.out (fun _ hk => by first | trivial | exact hk | exact hk.1 | exact hk.2 | exact hk.1.1 | exact okw hk))), (by first | ((with_reducible repeat (first | apply Kd.V_alloc | apply Kd.V_drewN | apply Kd.V_drew)); exact Kd.V_mono HO_161008.out (fun _ hk => by first | exact ⟨hk.1.1, ⟨hk.1.2.1, ⟨hk.1.2.2.1, ⟨hk.1.2.2.2.1, ⟨hk.2, hk.1.2.2.2.2⟩⟩⟩⟩⟩ | exact okw hk)) | ((with_reducible repeat (first | apply Kd.V_alloc | apply Kd.V_drewN | apply Kd.V_drew)); exact Kd.V_mono HO_161008.out (fun _ hk => by first | trivial | exact hk | exact hk.1 | exact hk.2 | exact hk.1.1 | exact okw hk))), (by (with_reducible repeat (first | refine blk_drewN ?_ _ | refine blk_drew ?_ | refine blk_alloc ?_ _)); exact BK160.out), (by repeat (first | (with_reducible first | exact HB.out | apply below_alloc | apply pw_below_drewN | apply below_drew1 | refine below_set ?_ GE160.out) | exact HB.out)), fun _ => (by first | ((with_reducible repeat (first | apply Kd.R_alloc | apply Kd.R_drewN | apply Kd.R_drew)); exact Kd.R_mono HO168.out (fun _ hk => by first | exact ⟨hk.1.1, ⟨hk.1.2.1, ⟨hk.1.2.2, hk.2⟩⟩⟩ | exact okw hk)) | ((with_reducible repeat (first | apply Kd.R_alloc | apply Kd.R_drewN | apply Kd.R_drew)); exact Kd.R_mono HO168.out (fun _ hk => by first | trivial | exact hk | exact hk.1 | exact hk.2 | exact hk.1.1 | exact okw hk))), fun _ => (by first | ((with_reducible repeat (first | apply Kd.R_alloc | apply Kd.R_drewN | apply Kd.R_drew)); exact Kd.R_mono HO171.out (fun _ hk => by first | exact ⟨hk.1.1, ⟨hk.1.2.1, ⟨hk.1.2.2, hk.2⟩⟩⟩ | exact okw hk)) | ((with_reducible repeat (first | apply Kd.R_alloc | apply Kd.R_drewN | apply Kd.R_drew)); exact Kd.R_mono HO171.out (fun _ hk => by first | trivial | exact hk | exact hk.1 | exact hk.2 | exact hk.1.1 | exact okw hk))), fun _ => (by first | ((with_reducible repeat (first | apply Kd.R_alloc | apply Kd.R_drewN | apply Kd.R_drew)); exact Kd.R_mono HO174.out (fun _ hk => by first | exact ⟨hk.1.1, ⟨hk.1.2.1, ⟨hk.1.2.2, hk.2⟩⟩⟩ | exact okw hk)) | ((with_reducible repeat (first | apply Kd.R_alloc | apply Kd.R_drewN | apply Kd.R_drew)); exact Kd.R_mono HO174.out (fun _ hk => by first | trivial | exact hk | exact hk.1 | exact hk.2 | exact hk.1.1 | exact okw hk))), fun _ => (by first | ((with_reducible repeat (first | apply Kd.R_alloc | apply Kd.R_drewN | apply Kd.R_drew)); exact Kd.R_mono HO177.out (fun _ hk => by first | exact ⟨hk.1.1.1.1, ⟨hk.1.1.2, ⟨hk.1.2, hk.2⟩⟩⟩ | exact okw hk)) | ((with_reducible repeat (first | apply Kd.R_alloc | apply Kd.R_drewN | apply Kd.R_drew)); exact Kd.R_mono HO177.out (fun _ hk => by first | trivial | exact hk | exact hk.1 | exact hk.2 | exact hk.1.1 | exact okw hk))), z_HO180, fun h0_ => absurd ((hoff 22 (by kernel_rfl)).symm.trans h0_) (by decide), z_HO186, fun h0_ => absurd ((hoff 26 (by kernel_rfl)).symm.trans h0_) (by decide), fun h0_ _ => absurd ((hoff 31 (by kernel_rfl)).symm.trans h0_) (by decide), fun h0_ => absurd ((hoff 32 (by kernel_rfl)).symm.trans h0_) (by decide), fun h0_ => absurd ((hoff 33 (by kernel_rfl)).symm.trans h0_) (by decide)⟩
                  refine steps_cons ?_ ?_
                  · rintro b a w' ⟨v167, v170, v173, v176, v179, v182, v185, v188, v191, v194, m33_, ha, Q_HO_161007, Q_HO_161008, Q_BK160, Q_HB, Q_HO168, Q_HO171, Q_HO174, Q_HO177, Q_HO180, Q_HO183, Q_HO186, Q_HO189, Q_HO192, Q_HO195, Q_X33_⟩ hb_ hon hoff
                    refine ⟨_, rfl, fun K hK => ?_⟩
                    have e75 : a.tmps[75]? = some (.int .i64 (wrap64 (20 + (l2_7.length : Int)))) := by rw [ha]; exact (putSel_off rfl).trans rfl
                    replace ha := Aside0.mk ha
                    have HO_161007 := Aside0.mk Q_HO_161007
                    have HO_161008 := Aside0.mk Q_HO_161008
                    have BK160 := Aside0.mk Q_BK160
                    have HB := Aside0.mk Q_HB
                    refine value_ (w1 := w') (v := .int .i64 (wrap64 (Int.tdiv (wrap64 (20 + (l2_7.length : Int))) 4))) (by rfl) rfl ?_ ?_
                    · go_simp
                      (try simp only [i64_w])
                      try rfl
                    refine hK.out _ _ ⟨v167, v170, v173, v176, v179, v182, v185, v188, v191, v194, m33_, (by rw [ha.out]; exact putSel_upk 8 hb_ rfl rfl rfl), Q_HO_161007, Q_HO_161008, Q_BK160, Q_HB, Q_HO168, Q_HO171, Q_HO174, Q_HO177, fun h0_ => absurd ((hoff 19 (by kernel_rfl)).symm.trans h0_) (by decide), Q_HO183, Q_HO186, Q_HO189, fun h0_ _ => absurd ((hoff 31 (by kernel_rfl)).symm.trans h0_) (by decide), fun h0_ => absurd ((hoff 32 (by kernel_rfl)).symm.trans h0_) (by decide), fun h0_ => absurd ((hoff 33 (by kernel_rfl)).symm.trans h0_) (by decide)⟩
                  refine steps_cons ?_ ?_
                  · rintro b a w' ⟨v167, v170, v173, v176, v179, v182, v185, v188, v191, v194, m33_, ha, Q_HO_161007, Q_HO_161008, Q_BK160, Q_HB, Q_HO168, Q_HO171, Q_HO174, Q_HO177, Q_HO180, Q_HO183, Q_HO186, Q_HO189, Q_HO192, Q_HO195, Q_X33_⟩ hb_ hon hoff
                    refine ⟨_, rfl, fun K hK => ?_⟩
                    have e76 : a.tmps[76]? = some (.int .i64 (wrap64 (Int.tdiv (wrap64 (20 + (l2_7.length : Int))) 4))) := by rw [ha]; exact putSel_on (e := (13, 76, .int .i64 (wrap64 (Int.tdiv (wrap64 (20 + (l2_7.length : Int))) 4)))) 8 rfl rfl (hon 13 (by kernel_rfl)) rfl
                    replace ha := Aside0.mk ha
                    have HO_161007 := Aside0.mk Q_HO_161007
                    have HO_161008 := Aside0.mk Q_HO_161008
                    have BK160 := Aside0.mk Q_BK160
                    have HB := Aside0.mk Q_HB
                    refine value_ (w1 := w') (v := .int .i64 (wrap64 ((wrap64 (Int.tdiv (wrap64 (20 + (l2_7.length : Int))) 4)) * 16))) (by rfl) rfl ?_ ?_
                    · go_simp
                      (try simp only [i64_w])
                      try rfl
                    refine hK.out _ _ ⟨v167, v170, v173, v176, v179, v182, v185, v188, v191, v194, m33_, (by rw [ha.out]; exact putSel_upk 9 hb_ rfl rfl rfl), Q_HO_161007, Q_HO_161008, Q_BK160, Q_HB, Q_HO168, Q_HO171, Q_HO174, Q_HO177, fun h0_ => absurd ((hoff 19 (by kernel_rfl)).symm.trans h0_) (by decide), Q_HO183, Q_HO186, Q_HO189, fun h0_ _ => absurd ((hoff 31 (by kernel_rfl)).symm.trans h0_) (by decide), fun h0_ => absurd ((hoff 32 (by kernel_rfl)).symm.trans h0_) (by decide), fun h0_ => absurd ((hoff 33 (by kernel_rfl)).symm.trans h0_) (by decide)⟩
                  refine steps_cons ?_ ?_
                  · rintro b a w' ⟨v167, v170, v173, v176, v179, v182, v185, v188, v191, v194, m33_, ha, Q_HO_161007, Q_HO_161008, Q_BK160, Q_HB, Q_HO168, Q_HO171, Q_HO174, Q_HO177, Q_HO180, Q_HO183, Q_HO186, Q_HO189, Q_HO192, Q_HO195, Q_X33_⟩ hb_ hon hoff
                    refine ⟨_, rfl, fun K hK => ?_⟩
                    have e77 : a.tmps[77]? = some (.int .i64 (wrap64 ((wrap64 (Int.tdiv (wrap64 (20 + (l2_7.length : Int))) 4)) * 16))) := by rw [ha]; exact putSel_on (e := (14, 77, .int .i64 (wrap64 ((wrap64 (Int.tdiv (wrap64 (20 + (l2_7.length : Int))) 4)) * 16)))) 9 rfl rfl (hon 14 (by kernel_rfl)) rfl
                    replace ha := Aside0.mk ha
                    have HO_161007 := Aside0.mk Q_HO_161007
                    have HO_161008 := Aside0.mk Q_HO_161008
                    have BK160 := Aside0.mk Q_BK160
                    have HB := Aside0.mk Q_HB
                    refine value_ (w1 := w') (v := .int .u8 ((wrap64 ((wrap64 (Int.tdiv (wrap64 (20 + (l2_7.length : Int))) 4)) * 16)) % 256)) (by rfl) rfl ?_ ?_
                    · go_simp
                      (try simp only [i64_w])
                      try (first | exact IntKind.wrap_u8 _ | rfl)
                    refine hK.out _ _ ⟨v167, v170, v173, v176, v179, v182, v185, v188, v191, v194, m33_, (by rw [ha.out]; exact putSel_upk 10 hb_ rfl rfl rfl), Q_HO_161007, Q_HO_161008, Q_BK160, Q_HB, Q_HO168, Q_HO171, Q_HO174, Q_HO177, fun h0_ => absurd ((hoff 19 (by kernel_rfl)).symm.trans h0_) (by decide), Q_HO183, Q_HO186, Q_HO189, fun h0_ _ => absurd ((hoff 31 (by kernel_rfl)).symm.trans h0_) (by decide), fun h0_ => absurd ((hoff 32 (by kernel_rfl)).symm.trans h0_) (by decide), fun h0_ => absurd ((hoff 33 (by kernel_rfl)).symm.trans h0_) (by decide)⟩
                  refine steps_cons ?_ ?_
                  · rintro b a w' ⟨v167, v170, v173, v176, v179, v182, v185, v188, v191, v194, m33_, ha, Q_HO_161007, Q_HO_161008, Q_BK160, Q_HB, Q_HO168, Q_HO171, Q_HO174, Q_HO177, Q_HO180, Q_HO183, Q_HO186, Q_HO189, Q_HO192, Q_HO195, Q_X33_⟩ hb_ hon hoff
                    refine ⟨_, rfl, fun K hK => ?_⟩
                    have e79 : a.tmps[79]? = some (.pointer (some ⟨gb160, 4, none⟩)) := by rw [ha]; exact (putSel_off rfl).trans rfl
                    replace ha := Aside0.mk ha
                    have HO_161007 := Aside0.mk Q_HO_161007
                    have HO_161008 := Aside0.mk Q_HO_161008
                    have BK160 := Aside0.mk Q_BK160
                    have HB := Aside0.mk Q_HB
                    have hc0_ : w'.cell? ⟨gb160, 0, none⟩ = some (.int .i64 a2_0) := (blk_cell BK160.out 0).trans rfl
                    have hc1_ : w'.cell? ⟨gb160, 1, none⟩ = some (.int .i64 a2_1) := (blk_cell BK160.out 1).trans rfl
                    have hc2_ : w'.cell? ⟨gb160, 2, none⟩ = some (.int .u32 a2_2) := (blk_cell BK160.out 2).trans rfl
                    have hc3_ : w'.cell? ⟨gb160, 3, none⟩ = some (.int .u32 a2_3) := (blk_cell BK160.out 3).trans rfl
                    have hc4_ : w'.cell? ⟨gb160, 4, none⟩ = some (.int .i64 a2_4) := (blk_cell BK160.out 4).trans rfl
                    have hc5_ : w'.cell? ⟨gb160, 5, none⟩ = some (.int .i64 a2_5) := (blk_cell BK160.out 5).trans rfl
                    have hc6_ : w'.cell? ⟨gb160, 6, none⟩ = some (.int .i64 a2_6) := (blk_cell BK160.out 6).trans rfl
                    have hc7_ : w'.cell? ⟨gb160, 7, none⟩ = some (.slice A2_7 l2_7.length c2_7) := (blk_cell BK160.out 7).trans rfl
                    have hc8_ : w'.cell? ⟨gb160, 8, none⟩ = some (.slice A2_8 l2_8.length c2_8) := (blk_cell BK160.out 8).trans rfl
                    refine value_ (w1 := w') (v := .int .i64 a2_4) (by rfl) rfl ?_ ?_
                    · go_simp
                      (try simp only [i64_w])
                      try rfl
                    refine hK.out _ _ ⟨v167, v170, v173, v176, v179, v182, v185, v188, v191, v194, m33_, (by rw [ha.out]; exact putSel_upk 11 hb_ rfl rfl rfl), Q_HO_161007, Q_HO_161008, Q_BK160, Q_HB, Q_HO168, Q_HO171, Q_HO174, Q_HO177, fun h0_ => absurd ((hoff 19 (by kernel_rfl)).symm.trans h0_) (by decide), Q_HO183, Q_HO186, Q_HO189, fun h0_ _ => absurd ((hoff 31 (by kernel_rfl)).symm.trans h0_) (by decide), fun h0_ => absurd ((hoff 32 (by kernel_rfl)).symm.trans h0_) (by decide), fun h0_ => absurd ((hoff 33 (by kernel_rfl)).symm.trans h0_) (by decide)⟩
                  refine steps_cons ?_ ?_
                  · rintro b a w' ⟨v167, v170, v173, v176, v179, v182, v185, v188, v191, v194, m33_, ha, Q_HO_161007, Q_HO_161008, Q_BK160, Q_HB, Q_HO168, Q_HO171, Q_HO174, Q_HO177, Q_HO180, Q_HO183, Q_HO186, Q_HO189, Q_HO192, Q_HO195, Q_X33_⟩ hb_ hon hoff
                    refine ⟨_, rfl, fun K hK => ?_⟩
                    have e80 : a.tmps[80]? = some (.int .i64 a2_4) := by rw [ha]; exact putSel_on (e := (17, 80, .int .i64 a2_4)) 11 rfl rfl (hon 17 (by kernel_rfl)) rfl
                    replace ha := Aside0.mk ha
                    have HO_161007 := Aside0.mk Q_HO_161007
                    have HO_161008 := Aside0.mk Q_HO_161008
                    have BK160 := Aside0.mk Q_BK160
                    have HB := Aside0.mk Q_HB
                    refine value_ (w1 := w') (v := .int .u8 ((a2_4) % 256)) (by rfl) rfl ?_ ?_
                    · go_simp
                      (try simp only [i64_w])
                      try (first | exact IntKind.wrap_u8 _ | rfl)
                    refine hK.out _ _ ⟨v167, v170, v173, v176, v179, v182, v185, v188, v191, v194, m33_, (by rw [ha.out]; exact putSel_upk 12 hb_ rfl rfl rfl), Q_HO_161007, Q_HO_161008, Q_BK160, Q_HB, Q_HO168, Q_HO171, Q_HO174, Q_HO177, fun h0_ => absurd ((hoff 19 (by kernel_rfl)).symm.trans h0_) (by decide), Q_HO183, Q_HO186, Q_HO189, fun h0_ _ => absurd ((hoff 31 (by kernel_rfl)).symm.trans h0_) (by decide), fun h0_ => absurd ((hoff 32 (by kernel_rfl)).symm.trans h0_) (by decide), fun h0_ => absurd ((hoff 33 (by kernel_rfl)).symm.trans h0_) (by decide)⟩
                  refine steps_cons ?_ ?_
                  · rintro b a w' ⟨v167, v170, v173, v176, v179, v182, v185, v188, v191, v194, m33_, ha, Q_HO_161007, Q_HO_161008, Q_BK160, Q_HB, Q_HO168, Q_HO171, Q_HO174, Q_HO177, Q_HO180, Q_HO183, Q_HO186, Q_HO189, Q_HO192, Q_HO195, Q_X33_⟩ hb_ hon hoff
                    refine ⟨_, rfl, fun K hK => ?_⟩
                    have e78 : a.tmps[78]? = some (.int .u8 ((wrap64 ((wrap64 (Int.tdiv (wrap64 (20 + (l2_7.length : Int))) 4)) * 16)) % 256)) := by rw [ha]; exact putSel_on (e := (15, 78, .int .u8 ((wrap64 ((wrap64 (Int.tdiv (wrap64 (20 + (l2_7.length : Int))) 4)) * 16)) % 256))) 10 rfl rfl (hon 15 (by kernel_rfl)) rfl
                    have e81 : a.tmps[81]? = some (.int .u8 ((a2_4) % 256)) := by rw [ha]; exact putSel_on (e := (18, 81, .int .u8 ((a2_4) % 256))) 12 rfl rfl (hon 18 (by kernel_rfl)) rfl
                    replace ha := Aside0.mk ha
                    have HO_161007 := Aside0.mk Q_HO_161007
                    have HO_161008 := Aside0.mk Q_HO_161008
                    have BK160 := Aside0.mk Q_BK160
                    have HB := Aside0.mk Q_HB
                    refine Kd.R_lit_step (Kd.int .u8) _ 5 ?hg (N := 82) ?hd (xs := ([(wrap64 ((wrap64 (Int.tdiv (wrap64 (20 + (l2_7.length : Int))) 4)) * 16)) % 256, (a2_4) % 256] : List Int)) (inner := [.int .u8 ((wrap64 ((wrap64 (Int.tdiv (wrap64 (20 + (l2_7.length : Int))) 4)) * 16)) % 256), .int .u8 ((a2_4) % 256)]) (ok := fun _ => True) (okp := fun _ => True) ?hr ?hp (fun _ hk => hk) trivial (Below.refl _ _) (Nat.le_refl _) (by simp) ?_; (case hd => rfl); (case hg => rfl); (case hr => first | (go_simp; done) | (go_simp; rfl)); (case hp => exact (Reps.one (show Kd.M (Kd.int .u8) _ _ _ ((wrap64 ((wrap64 (Int.tdiv (wrap64 (20 + (l2_7.length : Int))) 4)) * 16)) % 256) [.int .u8 ((wrap64 ((wrap64 (Int.tdiv (wrap64 (20 + (l2_7.length : Int))) 4)) * 16)) % 256)] from rfl) (Reps.one (show Kd.M (Kd.int .u8) _ _ _ ((a2_4) % 256) [.int .u8 ((a2_4) % 256)] from rfl) (Reps.none _ _))))
                    intro v179 w45 ho46 hb hg_ hnew_
                    clear hg_ hnew_
                    (first | rw [← Ny178.out] at ho46 | (simp only [Int.reduceToNat] at ho46; rw [← Ny178.out] at ho46))
                    have n0_ := Aside0.mk (Kd.V_elder' (by (with_reducible repeat (first | apply Kd.V_alloc | apply Kd.V_drewN | apply Kd.V_drew)); exact HO_161007.out) (Kd.R_base ho46) hb)
                    have n1_ := Aside0.mk (Kd.V_elder' (by (with_reducible repeat (first | apply Kd.V_alloc | apply Kd.V_drewN | apply Kd.V_drew)); exact HO_161008.out) (Kd.R_base ho46) hb)
                    have n2_ := Aside0.mk (Kd.R_lower (Kd.R_newM (M := fun k_ => (w.heap.size ≤ k_)) ho46 (below_size (by repeat (first | (with_reducible first | exact HB.out | apply below_alloc | apply pw_below_drewN | apply below_drew1 | refine below_set ?_ GE160.out) | exact HB.out))) (fun k_ h_ => h_)) (below_size (by repeat (first | (with_reducible first | exact HB.out | apply below_alloc | apply pw_below_drewN | apply below_drew1 | refine below_set ?_ GE160.out) | exact HB.out))))
                    have n3_ := Aside0.mk (blk_below (g := gb160) (o := .cells #[.int .i64 a2_0, .int .i64 a2_1, .int .u32 a2_2, .int .u32 a2_3, .int .i64 a2_4, .int .i64 a2_5, .int .i64 a2_6, .slice A2_7 l2_7.length c2_7, .slice A2_8 l2_8.length c2_8] 27 (0, 0)) (by (with_reducible repeat (first | refine blk_drewN ?_ _ | refine blk_drew ?_ | refine blk_alloc ?_ _)); exact BK160.out) hb)
                    have n4_ := Aside0.mk (below_step (by repeat (first | (with_reducible first | exact HB.out | apply below_alloc | apply pw_below_drewN | apply below_drew1 | refine below_set ?_ GE160.out) | exact HB.out)) hb)
                    have z_HO168 := fun (h0_ : b 2 = true) => (show Kd.R (Kd.int .u8) 5 w45 w.heap.size (fun k_ => (w.heap.size ≤ k_)) v167 t166 from by first | exact (Kd.R_elder' (by (with_reducible repeat (first | apply Kd.R_alloc | apply Kd.R_drewN | apply Kd.R_drew)); exact (Q_HO168 h0_)) (Kd.R_base ho46) hb) | exact Kd.R_mono (Kd.R_elder' (by (with_reducible repeat (first | apply Kd.R_alloc | apply Kd.R_drewN | apply Kd.R_drew)); exact (Q_HO168 h0_)) (Kd.R_base ho46) hb) (fun _ h_ => by first | trivial | exact h_ | exact h_.1))
                    have z_HO171 := fun (h0_ : b 5 = true) => (show Kd.R (Kd.int .u8) 5 w45 w.heap.size (fun k_ => (w.heap.size ≤ k_)) v170 t169 from by first | exact (Kd.R_elder' (by (with_reducible repeat (first | apply Kd.R_alloc | apply Kd.R_drewN | apply Kd.R_drew)); exact (Q_HO171 h0_)) (Kd.R_base ho46) hb) | exact Kd.R_mono (Kd.R_elder' (by (with_reducible repeat (first | apply Kd.R_alloc | apply Kd.R_drewN | apply Kd.R_drew)); exact (Q_HO171 h0_)) (Kd.R_base ho46) hb) (fun _ h_ => by first | trivial | exact h_ | exact h_.1))
                    have z_HO174 := fun (h0_ : b 8 = true) => (show Kd.R (Kd.int .u8) 5 w45 w.heap.size (fun k_ => (w.heap.size ≤ k_)) v173 t172 from by first | exact (Kd.R_elder' (by (with_reducible repeat (first | apply Kd.R_alloc | apply Kd.R_drewN | apply Kd.R_drew)); exact (Q_HO174 h0_)) (Kd.R_base ho46) hb) | exact Kd.R_mono (Kd.R_elder' (by (with_reducible repeat (first | apply Kd.R_alloc | apply Kd.R_drewN | apply Kd.R_drew)); exact (Q_HO174 h0_)) (Kd.R_base ho46) hb) (fun _ h_ => by first | trivial | exact h_ | exact h_.1))
                    have z_HO177 := fun (h0_ : b 11 = true) => (show Kd.R (Kd.int .u8) 5 w45 w.heap.size (fun k_ => (w.heap.size ≤ k_)) v176 t175 from by first | exact (Kd.R_elder' (by (with_reducible repeat (first | apply Kd.R_alloc | apply Kd.R_drewN | apply Kd.R_drew)); exact (Q_HO177 h0_)) (Kd.R_base ho46) hb) | exact Kd.R_mono (Kd.R_elder' (by (with_reducible repeat (first | apply Kd.R_alloc | apply Kd.R_drewN | apply Kd.R_drew)); exact (Q_HO177 h0_)) (Kd.R_base ho46) hb) (fun _ h_ => by first | trivial | exact h_ | exact h_.1))
                    have z_HO183 := fun (h0_ : b 22 = true) => (show Kd.R (Kd.int .u8) 5 w45 w.heap.size (fun k_ => (w.heap.size ≤ k_)) v182 t181 from by first | exact (Kd.R_elder' (by (with_reducible repeat (first | apply Kd.R_alloc | apply Kd.R_drewN | apply Kd.R_drew)); exact (Q_HO183 h0_)) (Kd.R_base ho46) hb) | exact Kd.R_mono (Kd.R_elder' (by (with_reducible repeat (first | apply Kd.R_alloc | apply Kd.R_drewN | apply Kd.R_drew)); exact (Q_HO183 h0_)) (Kd.R_base ho46) hb) (fun _ h_ => by first | trivial | exact h_ | exact h_.1))
                    have z_HO186 := fun (h0_ : b 23 = true) => (show Kd.R (Kd.int .u8) 5 w45 w.heap.size (fun k_ => (w.heap.size ≤ k_)) v185 y184 from by first | exact (Kd.R_elder' (by (with_reducible repeat (first | apply Kd.R_alloc | apply Kd.R_drewN | apply Kd.R_drew)); exact (Q_HO186 h0_)) (Kd.R_base ho46) hb) | exact Kd.R_mono (Kd.R_elder' (by (with_reducible repeat (first | apply Kd.R_alloc | apply Kd.R_drewN | apply Kd.R_drew)); exact (Q_HO186 h0_)) (Kd.R_base ho46) hb) (fun _ h_ => by first | trivial | exact h_ | exact h_.1))
                    have z_HO189 := fun (h0_ : b 26 = true) => (show Kd.R (Kd.int .u8) 5 w45 w.heap.size (fun k_ => (w.heap.size ≤ k_)) v188 t187 from by first | exact (Kd.R_elder' (by (with_reducible repeat (first | apply Kd.R_alloc | apply Kd.R_drewN | apply Kd.R_drew)); exact (Q_HO189 h0_)) (Kd.R_base ho46) hb) | exact Kd.R_mono (Kd.R_elder' (by (with_reducible repeat (first | apply Kd.R_alloc | apply Kd.R_drewN | apply Kd.R_drew)); exact (Q_HO189 h0_)) (Kd.R_base ho46) hb) (fun _ h_ => by first | trivial | exact h_ | exact h_.1))
                    clear HO_161007
                    clear HO_161008
                    clear BK160
                    clear HB
                    have HO_161007 := n0_
                    have HO_161008 := n1_
                    have HO180 := n2_
                    have BK160 := n3_
                    have HB := n4_
                    clear n0_ n1_ n2_ n3_ n4_
                    clear hb ho46
                    refine hK.out _ _ ⟨v167, v170, v173, v176, v179, v182, v185, v188, v191, v194, m33_, (by rw [ha.out]; exact putSel_upk 13 hb_ rfl rfl rfl), (by first | ((with_reducible repeat (first | apply Kd.V_alloc | apply Kd.V_drewN | apply Kd.V_drew)); exact Kd.V_mono HO_161007.out (fun _ hk => by first | exact ⟨hk.1.1, ⟨hk.2, hk.1.2⟩⟩ | exact okw hk)) | ((with_reducible repeat (first | apply Kd.V_alloc | apply Kd.V_drewN | apply Kd.V_drew)); exact Kd.V_mono HO_161007.out (fun _ hk => by first | trivial | exact hk | exact hk.1 | exact hk.2 | exact hk.1.1 | exact okw hk))), (by first | ((with_reducible repeat (first | apply Kd.V_alloc | apply Kd.V_drewN | apply Kd.V_drew)); exact Kd.V_mono HO_161008.out (fun _ hk => by first | exact ⟨hk.1.1, ⟨hk.2, hk.1.2⟩⟩ | exact okw hk)) | ((with_reducible repeat (first | apply Kd.V_alloc | apply Kd.V_drewN | apply Kd.V_drew)); exact Kd.V_mono HO_161008.out (fun _ hk => by first | trivial | exact hk | exact hk.1 | exact hk.2 | exact hk.1.1 | exact okw hk))), (by (with_reducible repeat (first | refine blk_drewN ?_ _ | refine blk_drew ?_ | refine blk_alloc ?_ _)); exact BK160.out), (by repeat (first | (with_reducible first | exact HB.out | apply below_alloc | apply pw_below_drewN | apply below_drew1 | refine below_set ?_ GE160.out) | exact HB.out)), z_HO168, z_HO171, z_HO174, z_HO177, fun _ => (by first | ((with_reducible repeat (first | apply Kd.R_alloc | apply Kd.R_drewN | apply Kd.R_drew)); exact Kd.R_mono HO180.out (fun _ hk => hk.1)) | ((with_reducible repeat (first | apply Kd.R_alloc | apply Kd.R_drewN | apply Kd.R_drew)); exact Kd.R_mono HO180.out (fun _ hk => by first | trivial | exact hk | exact hk.1 | exact hk.2 | exact hk.1.1 | exact okw hk))), z_HO183, z_HO186, z_HO189, fun h0_ _ => absurd ((hoff 31 (by kernel_rfl)).symm.trans h0_) (by decide), fun h0_ => absurd ((hoff 32 (by kernel_rfl)).symm.trans h0_) (by decide), fun h0_ => absurd ((hoff 33 (by kernel_rfl)).symm.trans h0_) (by decide)⟩
                  refine steps_cons ?_ ?_
                  · rintro b a w' ⟨v167, v170, v173, v176, v179, v182, v185, v188, v191, v194, m33_, ha, Q_HO_161007, Q_HO_161008, Q_BK160, Q_HB, Q_HO168, Q_HO171, Q_HO174, Q_HO177, Q_HO180, Q_HO183, Q_HO186, Q_HO189, Q_HO192, Q_HO195, Q_X33_⟩ hb_ hon hoff
                    refine ⟨_, rfl, fun K hK => ?_⟩
                    have e83 : a.tmps[83]? = some (.pointer (some ⟨gb160, 5, none⟩)) := by rw [ha]; exact (putSel_off rfl).trans rfl
                    replace ha := Aside0.mk ha
                    have HO_161007 := Aside0.mk Q_HO_161007
                    have HO_161008 := Aside0.mk Q_HO_161008
                    have BK160 := Aside0.mk Q_BK160
                    have HB := Aside0.mk Q_HB
                    have hc0_ : w'.cell? ⟨gb160, 0, none⟩ = some (.int .i64 a2_0) := (blk_cell BK160.out 0).trans rfl
                    have hc1_ : w'.cell? ⟨gb160, 1, none⟩ = some (.int .i64 a2_1) := (blk_cell BK160.out 1).trans rfl
                    have hc2_ : w'.cell? ⟨gb160, 2, none⟩ = some (.int .u32 a2_2) := (blk_cell BK160.out 2).trans rfl
                    have hc3_ : w'.cell? ⟨gb160, 3, none⟩ = some (.int .u32 a2_3) := (blk_cell BK160.out 3).trans rfl
                    have hc4_ : w'.cell? ⟨gb160, 4, none⟩ = some (.int .i64 a2_4) := (blk_cell BK160.out 4).trans rfl
                    have hc5_ : w'.cell? ⟨gb160, 5, none⟩ = some (.int .i64 a2_5) := (blk_cell BK160.out 5).trans rfl
                    have hc6_ : w'.cell? ⟨gb160, 6, none⟩ = some (.int .i64 a2_6) := (blk_cell BK160.out 6).trans rfl
                    have hc7_ : w'.cell? ⟨gb160, 7, none⟩ = some (.slice A2_7 l2_7.length c2_7) := (blk_cell BK160.out 7).trans rfl
                    have hc8_ : w'.cell? ⟨gb160, 8, none⟩ = some (.slice A2_8 l2_8.length c2_8) := (blk_cell BK160.out 8).trans rfl
                    refine value_ (w1 := w') (v := .int .i64 a2_5) (by rfl) rfl ?_ ?_
                    · go_simp
                      (try simp only [i64_w])
                      try rfl
                    refine hK.out _ _ ⟨v167, v170, v173, v176, v179, v182, v185, v188, v191, v194, m33_, (by rw [ha.out]; exact putSel_upk 14 hb_ rfl rfl rfl), Q_HO_161007, Q_HO_161008, Q_BK160, Q_HB, Q_HO168, Q_HO171, Q_HO174, Q_HO177, Q_HO180, fun h0_ => absurd ((hoff 22 (by kernel_rfl)).symm.trans h0_) (by decide), Q_HO186, fun h0_ => absurd ((hoff 26 (by kernel_rfl)).symm.trans h0_) (by decide), fun h0_ _ => absurd ((hoff 31 (by kernel_rfl)).symm.trans h0_) (by decide), fun h0_ => absurd ((hoff 32 (by kernel_rfl)).symm.trans h0_) (by decide), fun h0_ => absurd ((hoff 33 (by kernel_rfl)).symm.trans h0_) (by decide)⟩
                  refine steps_cons ?_ ?_
                  · rintro b a w' ⟨v167, v170, v173, v176, v179, v182, v185, v188, v191, v194, m33_, ha, Q_HO_161007, Q_HO_161008, Q_BK160, Q_HB, Q_HO168, Q_HO171, Q_HO174, Q_HO177, Q_HO180, Q_HO183, Q_HO186, Q_HO189, Q_HO192, Q_HO195, Q_X33_⟩ hb_ hon hoff
                    refine ⟨_, rfl, fun K hK => ?_⟩
                    have e84 : a.tmps[84]? = some (.int .i64 a2_5) := by rw [ha]; exact putSel_on (e := (21, 84, .int .i64 a2_5)) 14 rfl rfl (hon 21 (by kernel_rfl)) rfl
                    replace ha := Aside0.mk ha
                    have HO_161007 := Aside0.mk Q_HO_161007
                    have HO_161008 := Aside0.mk Q_HO_161008
                    have BK160 := Aside0.mk Q_BK160
                    have HB := Aside0.mk Q_HB
                    have HO168 := Aside0.mk (Q_HO168 (hon 2 (by kernel_rfl)))
                    have HO171 := Aside0.mk (Q_HO171 (hon 5 (by kernel_rfl)))
                    have HO174 := Aside0.mk (Q_HO174 (hon 8 (by kernel_rfl)))
                    have HO177 := Aside0.mk (Q_HO177 (hon 11 (by kernel_rfl)))
                    refine goes_ Try.func49 (by kernel_rfl) rfl #[.int .i64 a2_5] (by rfl) rfl rfl (by first | (simp only [List.map_toArray, List.map_cons, List.map_nil, Act.eval, Array.getD_eq_getD_getElem?, Option.getD_some, e84]; done) | (simp only [List.map_toArray, List.map_cons, List.map_nil, Act.eval, Array.getD_eq_getD_getElem?, Option.getD_some, e84]; rfl)) ?_
                    with_reducible refine (word_Put16.calls a2_5 t181 _ A32.out).mono ?_
                    rintro e w50 ⟨v182, rfl, ho0, hb⟩
                    refine ⟨_, rfl, ?_⟩
                    have n0_ := Aside0.mk (Kd.V_elder' (by (with_reducible repeat (first | apply Kd.V_alloc | apply Kd.V_drewN | apply Kd.V_drew)); exact HO_161007.out) (Kd.R_base ho0) hb)
                    have n1_ := Aside0.mk (Kd.V_elder' (by (with_reducible repeat (first | apply Kd.V_alloc | apply Kd.V_drewN | apply Kd.V_drew)); exact HO_161008.out) (Kd.R_base ho0) hb)
                    have n2_ := Aside0.mk (Kd.R_elder' (by (with_reducible repeat (first | apply Kd.R_alloc | apply Kd.R_drewN | apply Kd.R_drew)); exact HO168.out) (Kd.R_base ho0) hb)
                    have n3_ := Aside0.mk (Kd.R_elder' (by (with_reducible repeat (first | apply Kd.R_alloc | apply Kd.R_drewN | apply Kd.R_drew)); exact HO171.out) (Kd.R_base ho0) hb)
                    have n4_ := Aside0.mk (Kd.R_elder' (by (with_reducible repeat (first | apply Kd.R_alloc | apply Kd.R_drewN | apply Kd.R_drew)); exact HO174.out) (Kd.R_base ho0) hb)
                    have n5_ := Aside0.mk (Kd.R_elder' (by (with_reducible repeat (first | apply Kd.R_alloc | apply Kd.R_drewN | apply Kd.R_drew)); exact HO177.out) (Kd.R_base ho0) hb)
                    have n6_ := Aside0.mk (Kd.R_lower (Kd.R_new' (Kd.R_new' (Kd.R_new' (Kd.R_new' (Kd.R_newM (M := fun k_ => (w.heap.size ≤ k_)) ho0 (below_size (by repeat (first | (with_reducible first | exact HB.out | apply below_alloc | apply pw_below_drewN | apply below_drew1 | refine below_set ?_ GE160.out) | exact HB.out))) (fun k_ h_ => h_)) (Kd.R_lt (by (with_reducible repeat (first | apply Kd.R_alloc | apply Kd.R_drewN | apply Kd.R_drew)); exact HO168.out))) (Kd.R_lt (by (with_reducible repeat (first | apply Kd.R_alloc | apply Kd.R_drewN | apply Kd.R_drew)); exact HO171.out))) (Kd.R_lt (by (with_reducible repeat (first | apply Kd.R_alloc | apply Kd.R_drewN | apply Kd.R_drew)); exact HO174.out))) (Kd.R_lt (by (with_reducible repeat (first | apply Kd.R_alloc | apply Kd.R_drewN | apply Kd.R_drew)); exact HO177.out))) (below_size (by repeat (first | (with_reducible first | exact HB.out | apply below_alloc | apply pw_below_drewN | apply below_drew1 | refine below_set ?_ GE160.out) | exact HB.out))))
                    have n7_ := Aside0.mk (blk_below (g := gb160) (o := .cells #[.int .i64 a2_0, .int .i64 a2_1, .int .u32 a2_2, .int .u32 a2_3, .int .i64 a2_4, .int .i64 a2_5, .int .i64 a2_6, .slice A2_7 l2_7.length c2_7, .slice A2_8 l2_8.length c2_8] 27 (0, 0)) (by (with_reducible repeat (first | refine blk_drewN ?_ _ | refine blk_drew ?_ | refine blk_alloc ?_ _)); exact BK160.out) hb)
                    have n8_ := Aside0.mk (below_step (by repeat (first | (with_reducible first | exact HB.out | apply below_alloc | apply pw_below_drewN | apply below_drew1 | refine below_set ?_ GE160.out) | exact HB.out)) hb)
                    have z_HO180 := fun (h0_ : b 19 = true) => (show Kd.R (Kd.int .u8) 5 w50 w.heap.size (fun k_ => (w.heap.size ≤ k_)) v179 y178 from by first | exact (Kd.R_elder' (by (with_reducible repeat (first | apply Kd.R_alloc | apply Kd.R_drewN | apply Kd.R_drew)); exact (Q_HO180 h0_)) (Kd.R_base ho0) hb) | exact Kd.R_mono (Kd.R_elder' (by (with_reducible repeat (first | apply Kd.R_alloc | apply Kd.R_drewN | apply Kd.R_drew)); exact (Q_HO180 h0_)) (Kd.R_base ho0) hb) (fun _ h_ => by first | trivial | exact h_ | exact h_.1))
                    have z_HO186 := fun (h0_ : b 23 = true) => (show Kd.R (Kd.int .u8) 5 w50 w.heap.size (fun k_ => (w.heap.size ≤ k_)) v185 y184 from by first | exact (Kd.R_elder' (by (with_reducible repeat (first | apply Kd.R_alloc | apply Kd.R_drewN | apply Kd.R_drew)); exact (Q_HO186 h0_)) (Kd.R_base ho0) hb) | exact Kd.R_mono (Kd.R_elder' (by (with_reducible repeat (first | apply Kd.R_alloc | apply Kd.R_drewN | apply Kd.R_drew)); exact (Q_HO186 h0_)) (Kd.R_base ho0) hb) (fun _ h_ => by first | trivial | exact h_ | exact h_.1))
                    clear HO_161007
                    clear HO_161008
                    clear HO168
                    clear HO171
                    clear HO174
                    clear HO177
                    clear BK160
                    clear HB
                    have HO_161007 := n0_
                    have HO_161008 := n1_
                    have HO168 := n2_
                    have HO171 := n3_
                    have HO174 := n4_
                    have HO177 := n5_
                    have HO183 := n6_
                    have BK160 := n7_
                    have HB := n8_
                    clear n0_ n1_ n2_ n3_ n4_ n5_ n6_ n7_ n8_
                    (try clear hb)
                    (try clear hb2)
                    (try clear hk)
                    (try clear hi)
                    (try clear ho0)
                    refine hK.out _ _ ⟨v167, v170, v173, v176, v179, v182, v185, v188, v191, v194, m33_, (by rw [ha.out]; exact putSel_upk 15 hb_ rfl rfl rfl), (by first | ((with_reducible repeat (first | apply Kd.V_alloc | apply Kd.V_drewN | apply Kd.V_drew)); exact Kd.V_mono HO_161007.out (fun _ hk => by first | exact ⟨hk.1.1, ⟨hk.1.2.1, ⟨hk.1.2.2.1, ⟨hk.1.2.2.2.1, ⟨hk.1.2.2.2.2.1, ⟨hk.2, hk.1.2.2.2.2.2⟩⟩⟩⟩⟩⟩ | exact okw hk)) | ((with_reducible repeat (first | apply Kd.V_alloc | apply Kd.V_drewN | apply Kd.V_drew)); exact Kd.V_mono HO_161007.out (fun _ hk => by first | trivial | exact hk | exact hk.1 | exact hk.2 | exact hk.1.1 | exact okw hk))), (by first | ((with_reducible repeat (first | apply Kd.V_alloc | apply Kd.V_drewN | apply Kd.V_drew)); exact Kd.V_mono HO_161008.out (fun _ hk => by first | exact ⟨hk.1.1, ⟨hk.1.2.1, ⟨hk.1.2.2.1, ⟨hk.1.2.2.2.1, ⟨hk.1.2.2.2.2.1, ⟨hk.2, hk.1.2.2.2.2.2⟩⟩⟩⟩⟩⟩ | exact okw hk)) | ((with_reducible repeat (first | apply Kd.V_alloc | apply Kd.V_drewN | apply Kd.V_drew)); exact Kd.V_mono HO_161008.out (fun _ hk => by first | trivial | exact hk | exact hk.1 | exact hk.2 | exact hk.1.1 | exact okw hk))), (by (with_reducible repeat (first | refine blk_drewN ?_ _ | refine blk_drew ?_ | refine blk_alloc ?_ _)); exact BK160.out), (by repeat (first | (with_reducible first | exact HB.out | apply below_alloc | apply pw_below_drewN | apply below_drew1 | refine below_set ?_ GE160.out) | exact HB.out)), fun _ => (by first | ((with_reducible repeat (first | apply Kd.R_alloc | apply Kd.R_drewN | apply Kd.R_drew)); exact Kd.R_mono HO168.out (fun _ hk => by first | exact ⟨hk.1.1, ⟨hk.1.2.1, ⟨hk.1.2.2.1, ⟨hk.1.2.2.2, hk.2⟩⟩⟩⟩ | exact okw hk)) | ((with_reducible repeat (first | apply Kd.R_alloc | apply Kd.R_drewN | apply Kd.R_drew)); exact Kd.R_mono HO168.out (fun _ hk => by first | trivial | exact hk | exact hk.1 | exact hk.2 | exact hk.1.1 | exact okw hk))), fun _ => (by first | ((with_reducible repeat (first | apply Kd.R_alloc | apply Kd.R_drewN | apply Kd.R_drew)); exact Kd.R_mono HO171.out (fun _ hk => by first | exact ⟨hk.1.1, ⟨hk.1.2.1, ⟨hk.1.2.2.1, ⟨hk.1.2.2.2, hk.2⟩⟩⟩⟩ | exact okw hk)) | ((with_reducible repeat (first | apply Kd.R_alloc | apply Kd.R_drewN | apply Kd.R_drew)); exact Kd.R_mono HO171.out (fun _ hk => by first | trivial | exact hk | exact hk.1 | exact hk.2 | exact hk.1.1 | exact okw hk))), fun _ => (by first | ((with_reducible repeat (first | apply Kd.R_alloc | apply Kd.R_drewN | apply Kd.R_drew)); exact Kd.R_mono HO174.out (fun _ hk => by first | exact ⟨hk.1.1, ⟨hk.1.2.1, ⟨hk.1.2.2.1, ⟨hk.1.2.2.2, hk.2⟩⟩⟩⟩ | exact okw hk)) | ((with_reducible repeat (first | apply Kd.R_alloc | apply Kd.R_drewN | apply Kd.R_drew)); exact Kd.R_mono HO174.out (fun _ hk => by first | trivial | exact hk | exact hk.1 | exact hk.2 | exact hk.1.1 | exact okw hk))), fun _ => (by first | ((with_reducible repeat (first | apply Kd.R_alloc | apply Kd.R_drewN | apply Kd.R_drew)); exact Kd.R_mono HO177.out (fun _ hk => by first | exact ⟨hk.1.1, ⟨hk.1.2.1, ⟨hk.1.2.2.1, ⟨hk.1.2.2.2, hk.2⟩⟩⟩⟩ | exact okw hk)) | ((with_reducible repeat (first | apply Kd.R_alloc | apply Kd.R_drewN | apply Kd.R_drew)); exact Kd.R_mono HO177.out (fun _ hk => by first | trivial | exact hk | exact hk.1 | exact hk.2 | exact hk.1.1 | exact okw hk))), z_HO180, fun _ => (by first | ((with_reducible repeat (first | apply Kd.R_alloc | apply Kd.R_drewN | apply Kd.R_drew)); exact Kd.R_mono HO183.out (fun _ hk => by first | exact ⟨hk.1.1.1.1.1, ⟨hk.1.1.1.2, ⟨hk.1.1.2, ⟨hk.1.2, hk.2⟩⟩⟩⟩ | exact okw hk)) | ((with_reducible repeat (first | apply Kd.R_alloc | apply Kd.R_drewN | apply Kd.R_drew)); exact Kd.R_mono HO183.out (fun _ hk => by first | trivial | exact hk | exact hk.1 | exact hk.2 | exact hk.1.1 | exact okw hk))), z_HO186, fun h0_ => absurd ((hoff 26 (by kernel_rfl)).symm.trans h0_) (by decide), fun h0_ _ => absurd ((hoff 31 (by kernel_rfl)).symm.trans h0_) (by decide), fun h0_ => absurd ((hoff 32 (by kernel_rfl)).symm.trans h0_) (by decide), fun h0_ => absurd ((hoff 33 (by kernel_rfl)).symm.trans h0_) (by decide)⟩
                  refine steps_cons ?_ ?_
                  · rintro b a w' ⟨v167, v170, v173, v176, v179, v182, v185, v188, v191, v194, m33_, ha, Q_HO_161007, Q_HO_161008, Q_BK160, Q_HB, Q_HO168, Q_HO171, Q_HO174, Q_HO177, Q_HO180, Q_HO183, Q_HO186, Q_HO189, Q_HO192, Q_HO195, Q_X33_⟩ hb_ hon hoff
                    refine ⟨_, rfl, fun K hK => ?_⟩
                    replace ha := Aside0.mk ha
                    have HO_161007 := Aside0.mk Q_HO_161007
                    have HO_161008 := Aside0.mk Q_HO_161008
                    have BK160 := Aside0.mk Q_BK160
                    have HB := Aside0.mk Q_HB
                    refine Kd.R_lit_step (Kd.int .u8) _ 5 ?hg (N := 86) ?hd (xs := ([0, 0] : List Int)) (inner := [.int .u8 0, .int .u8 0]) (ok := fun _ => True) (okp := fun _ => True) ?hr ?hp (fun _ hk => hk) trivial (Below.refl _ _) (Nat.le_refl _) (by simp) ?_; (case hd => rfl); (case hg => rfl); (case hr => first | (go_simp; done) | (go_simp; rfl)); (case hp => exact (Reps.one (show Kd.M (Kd.int .u8) _ _ _ 0 [.int .u8 0] from rfl) (Reps.one (show Kd.M (Kd.int .u8) _ _ _ 0 [.int .u8 0] from rfl) (Reps.none _ _))))
                    intro v185 w45 ho46 hb hg_ hnew_
                    clear hg_ hnew_
                    (first | rw [← Ny184.out] at ho46 | (simp only [Int.reduceToNat] at ho46; rw [← Ny184.out] at ho46))
                    have n0_ := Aside0.mk (Kd.V_elder' (by (with_reducible repeat (first | apply Kd.V_alloc | apply Kd.V_drewN | apply Kd.V_drew)); exact HO_161007.out) (Kd.R_base ho46) hb)
                    have n1_ := Aside0.mk (Kd.V_elder' (by (with_reducible repeat (first | apply Kd.V_alloc | apply Kd.V_drewN | apply Kd.V_drew)); exact HO_161008.out) (Kd.R_base ho46) hb)
                    have n2_ := Aside0.mk (Kd.R_lower (Kd.R_newM (M := fun k_ => (w.heap.size ≤ k_)) ho46 (below_size (by repeat (first | (with_reducible first | exact HB.out | apply below_alloc | apply pw_below_drewN | apply below_drew1 | refine below_set ?_ GE160.out) | exact HB.out))) (fun k_ h_ => h_)) (below_size (by repeat (first | (with_reducible first | exact HB.out | apply below_alloc | apply pw_below_drewN | apply below_drew1 | refine below_set ?_ GE160.out) | exact HB.out))))
                    have n3_ := Aside0.mk (blk_below (g := gb160) (o := .cells #[.int .i64 a2_0, .int .i64 a2_1, .int .u32 a2_2, .int .u32 a2_3, .int .i64 a2_4, .int .i64 a2_5, .int .i64 a2_6, .slice A2_7 l2_7.length c2_7, .slice A2_8 l2_8.length c2_8] 27 (0, 0)) (by (with_reducible repeat (first | refine blk_drewN ?_ _ | refine blk_drew ?_ | refine blk_alloc ?_ _)); exact BK160.out) hb)
                    have n4_ := Aside0.mk (below_step (by repeat (first | (with_reducible first | exact HB.out | apply below_alloc | apply pw_below_drewN | apply below_drew1 | refine below_set ?_ GE160.out) | exact HB.out)) hb)
                    have z_HO168 := fun (h0_ : b 2 = true) => (show Kd.R (Kd.int .u8) 5 w45 w.heap.size (fun k_ => (w.heap.size ≤ k_)) v167 t166 from by first | exact (Kd.R_elder' (by (with_reducible repeat (first | apply Kd.R_alloc | apply Kd.R_drewN | apply Kd.R_drew)); exact (Q_HO168 h0_)) (Kd.R_base ho46) hb) | exact Kd.R_mono (Kd.R_elder' (by (with_reducible repeat (first | apply Kd.R_alloc | apply Kd.R_drewN | apply Kd.R_drew)); exact (Q_HO168 h0_)) (Kd.R_base ho46) hb) (fun _ h_ => by first | trivial | exact h_ | exact h_.1))
                    have z_HO171 := fun (h0_ : b 5 = true) => (show Kd.R (Kd.int .u8) 5 w45 w.heap.size (fun k_ => (w.heap.size ≤ k_)) v170 t169 from by first | exact (Kd.R_elder' (by (with_reducible repeat (first | apply Kd.R_alloc | apply Kd.R_drewN | apply Kd.R_drew)); exact (Q_HO171 h0_)) (Kd.R_base ho46) hb) | exact Kd.R_mono (Kd.R_elder' (by (with_reducible repeat (first | apply Kd.R_alloc | apply Kd.R_drewN | apply Kd.R_drew)); exact (Q_HO171 h0_)) (Kd.R_base ho46) hb) (fun _ h_ => by first | trivial | exact h_ | exact h_.1))
                    have z_HO174 := fun (h0_ : b 8 = true) => (show Kd.R (Kd.int .u8) 5 w45 w.heap.size (fun k_ => (w.heap.size ≤ k_)) v173 t172 from by first | exact (Kd.R_elder' (by (with_reducible repeat (first | apply Kd.R_alloc | apply Kd.R_drewN | apply Kd.R_drew)); exact (Q_HO174 h0_)) (Kd.R_base ho46) hb) | exact Kd.R_mono (Kd.R_elder' (by (with_reducible repeat (first | apply Kd.R_alloc | apply Kd.R_drewN | apply Kd.R_drew)); exact (Q_HO174 h0_)) (Kd.R_base ho46) hb) (fun _ h_ => by first | trivial | exact h_ | exact h_.1))
                    have z_HO177 := fun (h0_ : b 11 = true) => (show Kd.R (Kd.int .u8) 5 w45 w.heap.size (fun k_ => (w.heap.size ≤ k_)) v176 t175 from by first | exact (Kd.R_elder' (by (with_reducible repeat (first | apply Kd.R_alloc | apply Kd.R_drewN | apply Kd.R_drew)); exact (Q_HO177 h0_)) (Kd.R_base ho46) hb) | exact Kd.R_mono (Kd.R_elder' (by (with_reducible repeat (first | apply Kd.R_alloc | apply Kd.R_drewN | apply Kd.R_drew)); exact (Q_HO177 h0_)) (Kd.R_base ho46) hb) (fun _ h_ => by first | trivial | exact h_ | exact h_.1))
                    have z_HO180 := fun (h0_ : b 19 = true) => (show Kd.R (Kd.int .u8) 5 w45 w.heap.size (fun k_ => (w.heap.size ≤ k_)) v179 y178 from by first | exact (Kd.R_elder' (by (with_reducible repeat (first | apply Kd.R_alloc | apply Kd.R_drewN | apply Kd.R_drew)); exact (Q_HO180 h0_)) (Kd.R_base ho46) hb) | exact Kd.R_mono (Kd.R_elder' (by (with_reducible repeat (first | apply Kd.R_alloc | apply Kd.R_drewN | apply Kd.R_drew)); exact (Q_HO180 h0_)) (Kd.R_base ho46) hb) (fun _ h_ => by first | trivial | exact h_ | exact h_.1))
                    have z_HO183 := fun (h0_ : b 22 = true) => (show Kd.R (Kd.int .u8) 5 w45 w.heap.size (fun k_ => (w.heap.size ≤ k_)) v182 t181 from by first | exact (Kd.R_elder' (by (with_reducible repeat (first | apply Kd.R_alloc | apply Kd.R_drewN | apply Kd.R_drew)); exact (Q_HO183 h0_)) (Kd.R_base ho46) hb) | exact Kd.R_mono (Kd.R_elder' (by (with_reducible repeat (first | apply Kd.R_alloc | apply Kd.R_drewN | apply Kd.R_drew)); exact (Q_HO183 h0_)) (Kd.R_base ho46) hb) (fun _ h_ => by first | trivial | exact h_ | exact h_.1))
                    have z_HO189 := fun (h0_ : b 26 = true) => (show Kd.R (Kd.int .u8) 5 w45 w.heap.size (fun k_ => (w.heap.size ≤ k_)) v188 t187 from by first | exact (Kd.R_elder' (by (with_reducible repeat (first | apply Kd.R_alloc | apply Kd.R_drewN | apply Kd.R_drew)); exact (Q_HO189 h0_)) (Kd.R_base ho46) hb) | exact Kd.R_mono (Kd.R_elder' (by (with_reducible repeat (first | apply Kd.R_alloc | apply Kd.R_drewN | apply Kd.R_drew)); exact (Q_HO189 h0_)) (Kd.R_base ho46) hb) (fun _ h_ => by first | trivial | exact h_ | exact h_.1))
                    clear HO_161007
                    clear HO_161008
                    clear BK160
                    clear HB
                    have HO_161007 := n0_
                    have HO_161008 := n1_
                    have HO186 := n2_
                    have BK160 := n3_
                    have HB := n4_
                    clear n0_ n1_ n2_ n3_ n4_
                    clear hb ho46
                    refine hK.out _ _ ⟨v167, v170, v173, v176, v179, v182, v185, v188, v191, v194, m33_, (by rw [ha.out]; exact putSel_upk 16 hb_ rfl rfl rfl), (by first | ((with_reducible repeat (first | apply Kd.V_alloc | apply Kd.V_drewN | apply Kd.V_drew)); exact Kd.V_mono HO_161007.out (fun _ hk => by first | exact ⟨hk.1.1, ⟨hk.2, hk.1.2⟩⟩ | exact okw hk)) | ((with_reducible repeat (first | apply Kd.V_alloc | apply Kd.V_drewN | apply Kd.V_drew)); exact Kd.V_mono HO_161007.out (fun _ hk => by first | trivial | exact hk | exact hk.1 | exact hk.2 | exact hk.1.1 | exact okw hk))), (by first | ((with_reducible repeat (first | apply Kd.V_alloc | apply Kd.V_drewN | apply Kd.V_drew)); exact Kd.V_mono HO_161008.out (fun _ hk => by first | exact ⟨hk.1.1, ⟨hk.2, hk.1.2⟩⟩ | exact okw hk)) | ((with_reducible repeat (first | apply Kd.V_alloc | apply Kd.V_drewN | apply Kd.V_drew)); exact Kd.V_mono HO_161008.out (fun _ hk => by first | trivial | exact hk | exact hk.1 | exact hk.2 | exact hk.1.1 | exact okw hk))), (by (with_reducible repeat (first | refine blk_drewN ?_ _ | refine blk_drew ?_ | refine blk_alloc ?_ _)); exact BK160.out), (by repeat (first | (with_reducible first | exact HB.out | apply below_alloc | apply pw_below_drewN | apply below_drew1 | refine below_set ?_ GE160.out) | exact HB.out)), z_HO168, z_HO171, z_HO174, z_HO177, z_HO180, z_HO183, fun _ => (by first | ((with_reducible repeat (first | apply Kd.R_alloc | apply Kd.R_drewN | apply Kd.R_drew)); exact Kd.R_mono HO186.out (fun _ hk => hk.1)) | ((with_reducible repeat (first | apply Kd.R_alloc | apply Kd.R_drewN | apply Kd.R_drew)); exact Kd.R_mono HO186.out (fun _ hk => by first | trivial | exact hk | exact hk.1 | exact hk.2 | exact hk.1.1 | exact okw hk))), z_HO189, fun h0_ _ => absurd ((hoff 31 (by kernel_rfl)).symm.trans h0_) (by decide), fun h0_ => absurd ((hoff 32 (by kernel_rfl)).symm.trans h0_) (by decide), fun h0_ => absurd ((hoff 33 (by kernel_rfl)).symm.trans h0_) (by decide)⟩
                  refine steps_cons ?_ ?_
                  · rintro b a w' ⟨v167, v170, v173, v176, v179, v182, v185, v188, v191, v194, m33_, ha, Q_HO_161007, Q_HO_161008, Q_BK160, Q_HB, Q_HO168, Q_HO171, Q_HO174, Q_HO177, Q_HO180, Q_HO183, Q_HO186, Q_HO189, Q_HO192, Q_HO195, Q_X33_⟩ hb_ hon hoff
                    refine ⟨_, rfl, fun K hK => ?_⟩
                    have e87 : a.tmps[87]? = some (.pointer (some ⟨gb160, 6, none⟩)) := by rw [ha]; exact (putSel_off rfl).trans rfl
                    replace ha := Aside0.mk ha
                    have HO_161007 := Aside0.mk Q_HO_161007
                    have HO_161008 := Aside0.mk Q_HO_161008
                    have BK160 := Aside0.mk Q_BK160
                    have HB := Aside0.mk Q_HB
                    have hc0_ : w'.cell? ⟨gb160, 0, none⟩ = some (.int .i64 a2_0) := (blk_cell BK160.out 0).trans rfl
                    have hc1_ : w'.cell? ⟨gb160, 1, none⟩ = some (.int .i64 a2_1) := (blk_cell BK160.out 1).trans rfl
                    have hc2_ : w'.cell? ⟨gb160, 2, none⟩ = some (.int .u32 a2_2) := (blk_cell BK160.out 2).trans rfl
                    have hc3_ : w'.cell? ⟨gb160, 3, none⟩ = some (.int .u32 a2_3) := (blk_cell BK160.out 3).trans rfl
                    have hc4_ : w'.cell? ⟨gb160, 4, none⟩ = some (.int .i64 a2_4) := (blk_cell BK160.out 4).trans rfl
                    have hc5_ : w'.cell? ⟨gb160, 5, none⟩ = some (.int .i64 a2_5) := (blk_cell BK160.out 5).trans rfl
                    have hc6_ : w'.cell? ⟨gb160, 6, none⟩ = some (.int .i64 a2_6) := (blk_cell BK160.out 6).trans rfl
                    have hc7_ : w'.cell? ⟨gb160, 7, none⟩ = some (.slice A2_7 l2_7.length c2_7) := (blk_cell BK160.out 7).trans rfl
                    have hc8_ : w'.cell? ⟨gb160, 8, none⟩ = some (.slice A2_8 l2_8.length c2_8) := (blk_cell BK160.out 8).trans rfl
                    refine value_ (w1 := w') (v := .int .i64 a2_6) (by rfl) rfl ?_ ?_
                    · go_simp
                      (try simp only [i64_w])
                      try rfl
                    refine hK.out _ _ ⟨v167, v170, v173, v176, v179, v182, v185, v188, v191, v194, m33_, (by rw [ha.out]; exact putSel_upk 17 hb_ rfl rfl rfl), Q_HO_161007, Q_HO_161008, Q_BK160, Q_HB, Q_HO168, Q_HO171, Q_HO174, Q_HO177, Q_HO180, Q_HO183, Q_HO186, fun h0_ => absurd ((hoff 26 (by kernel_rfl)).symm.trans h0_) (by decide), fun h0_ _ => absurd ((hoff 31 (by kernel_rfl)).symm.trans h0_) (by decide), fun h0_ => absurd ((hoff 32 (by kernel_rfl)).symm.trans h0_) (by decide), fun h0_ => absurd ((hoff 33 (by kernel_rfl)).symm.trans h0_) (by decide)⟩
                  refine steps_cons ?_ ?_
                  · rintro b a w' ⟨v167, v170, v173, v176, v179, v182, v185, v188, v191, v194, m33_, ha, Q_HO_161007, Q_HO_161008, Q_BK160, Q_HB, Q_HO168, Q_HO171, Q_HO174, Q_HO177, Q_HO180, Q_HO183, Q_HO186, Q_HO189, Q_HO192, Q_HO195, Q_X33_⟩ hb_ hon hoff
                    refine ⟨_, rfl, fun K hK => ?_⟩
                    have e88 : a.tmps[88]? = some (.int .i64 a2_6) := by rw [ha]; exact putSel_on (e := (25, 88, .int .i64 a2_6)) 17 rfl rfl (hon 25 (by kernel_rfl)) rfl
                    replace ha := Aside0.mk ha
                    have HO_161007 := Aside0.mk Q_HO_161007
                    have HO_161008 := Aside0.mk Q_HO_161008
                    have BK160 := Aside0.mk Q_BK160
                    have HB := Aside0.mk Q_HB
                    have HO168 := Aside0.mk (Q_HO168 (hon 2 (by kernel_rfl)))
                    have HO171 := Aside0.mk (Q_HO171 (hon 5 (by kernel_rfl)))
                    have HO174 := Aside0.mk (Q_HO174 (hon 8 (by kernel_rfl)))
                    have HO177 := Aside0.mk (Q_HO177 (hon 11 (by kernel_rfl)))
                    have HO183 := Aside0.mk (Q_HO183 (hon 22 (by kernel_rfl)))
                    refine goes_ Try.func49 (by kernel_rfl) rfl #[.int .i64 a2_6] (by rfl) rfl rfl (by first | (simp only [List.map_toArray, List.map_cons, List.map_nil, Act.eval, Array.getD_eq_getD_getElem?, Option.getD_some, e88]; done) | (simp only [List.map_toArray, List.map_cons, List.map_nil, Act.eval, Array.getD_eq_getD_getElem?, Option.getD_some, e88]; rfl)) ?_
                    with_reducible refine (word_Put16.calls a2_6 t187 _ A33.out).mono ?_
                    rintro e w51 ⟨v188, rfl, ho0, hb⟩
                    refine ⟨_, rfl, ?_⟩
                    have n0_ := Aside0.mk (Kd.V_elder' (by (with_reducible repeat (first | apply Kd.V_alloc | apply Kd.V_drewN | apply Kd.V_drew)); exact HO_161007.out) (Kd.R_base ho0) hb)
                    have n1_ := Aside0.mk (Kd.V_elder' (by (with_reducible repeat (first | apply Kd.V_alloc | apply Kd.V_drewN | apply Kd.V_drew)); exact HO_161008.out) (Kd.R_base ho0) hb)
                    have n2_ := Aside0.mk (Kd.R_elder' (by (with_reducible repeat (first | apply Kd.R_alloc | apply Kd.R_drewN | apply Kd.R_drew)); exact HO168.out) (Kd.R_base ho0) hb)
                    have n3_ := Aside0.mk (Kd.R_elder' (by (with_reducible repeat (first | apply Kd.R_alloc | apply Kd.R_drewN | apply Kd.R_drew)); exact HO171.out) (Kd.R_base ho0) hb)
                    have n4_ := Aside0.mk (Kd.R_elder' (by (with_reducible repeat (first | apply Kd.R_alloc | apply Kd.R_drewN | apply Kd.R_drew)); exact HO174.out) (Kd.R_base ho0) hb)
                    have n5_ := Aside0.mk (Kd.R_elder' (by (with_reducible repeat (first | apply Kd.R_alloc | apply Kd.R_drewN | apply Kd.R_drew)); exact HO177.out) (Kd.R_base ho0) hb)
                    have n6_ := Aside0.mk (Kd.R_elder' (by (with_reducible repeat (first | apply Kd.R_alloc | apply Kd.R_drewN | apply Kd.R_drew)); exact HO183.out) (Kd.R_base ho0) hb)
                    have n7_ := Aside0.mk (Kd.R_lower (Kd.R_new' (Kd.R_new' (Kd.R_new' (Kd.R_new' (Kd.R_new' (Kd.R_newM (M := fun k_ => (w.heap.size ≤ k_)) ho0 (below_size (by repeat (first | (with_reducible first | exact HB.out | apply below_alloc | apply pw_below_drewN | apply below_drew1 | refine below_set ?_ GE160.out) | exact HB.out))) (fun k_ h_ => h_)) (Kd.R_lt (by (with_reducible repeat (first | apply Kd.R_alloc | apply Kd.R_drewN | apply Kd.R_drew)); exact HO168.out))) (Kd.R_lt (by (with_reducible repeat (first | apply Kd.R_alloc | apply Kd.R_drewN | apply Kd.R_drew)); exact HO171.out))) (Kd.R_lt (by (with_reducible repeat (first | apply Kd.R_alloc | apply Kd.R_drewN | apply Kd.R_drew)); exact HO174.out))) (Kd.R_lt (by (with_reducible repeat (first | apply Kd.R_alloc | apply Kd.R_drewN | apply Kd.R_drew)); exact HO177.out))) (Kd.R_lt (by (with_reducible repeat (first | apply Kd.R_alloc | apply Kd.R_drewN | apply Kd.R_drew)); exact HO183.out))) (below_size (by repeat (first | (with_reducible first | exact HB.out | apply below_alloc | apply pw_below_drewN | apply below_drew1 | refine below_set ?_ GE160.out) | exact HB.out))))
                    have n8_ := Aside0.mk (blk_below (g := gb160) (o := .cells #[.int .i64 a2_0, .int .i64 a2_1, .int .u32 a2_2, .int .u32 a2_3, .int .i64 a2_4, .int .i64 a2_5, .int .i64 a2_6, .slice A2_7 l2_7.length c2_7, .slice A2_8 l2_8.length c2_8] 27 (0, 0)) (by (with_reducible repeat (first | refine blk_drewN ?_ _ | refine blk_drew ?_ | refine blk_alloc ?_ _)); exact BK160.out) hb)
                    have n9_ := Aside0.mk (below_step (by repeat (first | (with_reducible first | exact HB.out | apply below_alloc | apply pw_below_drewN | apply below_drew1 | refine below_set ?_ GE160.out) | exact HB.out)) hb)
                    have z_HO180 := fun (h0_ : b 19 = true) => (show Kd.R (Kd.int .u8) 5 w51 w.heap.size (fun k_ => (w.heap.size ≤ k_)) v179 y178 from by first | exact (Kd.R_elder' (by (with_reducible repeat (first | apply Kd.R_alloc | apply Kd.R_drewN | apply Kd.R_drew)); exact (Q_HO180 h0_)) (Kd.R_base ho0) hb) | exact Kd.R_mono (Kd.R_elder' (by (with_reducible repeat (first | apply Kd.R_alloc | apply Kd.R_drewN | apply Kd.R_drew)); exact (Q_HO180 h0_)) (Kd.R_base ho0) hb) (fun _ h_ => by first | trivial | exact h_ | exact h_.1))
                    have z_HO186 := fun (h0_ : b 23 = true) => (show Kd.R (Kd.int .u8) 5 w51 w.heap.size (fun k_ => (w.heap.size ≤ k_)) v185 y184 from by first | exact (Kd.R_elder' (by (with_reducible repeat (first | apply Kd.R_alloc | apply Kd.R_drewN | apply Kd.R_drew)); exact (Q_HO186 h0_)) (Kd.R_base ho0) hb) | exact Kd.R_mono (Kd.R_elder' (by (with_reducible repeat (first | apply Kd.R_alloc | apply Kd.R_drewN | apply Kd.R_drew)); exact (Q_HO186 h0_)) (Kd.R_base ho0) hb) (fun _ h_ => by first | trivial | exact h_ | exact h_.1))
                    clear HO_161007
                    clear HO_161008
                    clear HO168
                    clear HO171
                    clear HO174
                    clear HO177
                    clear HO183
                    clear BK160
                    clear HB
                    have HO_161007 := n0_
                    have HO_161008 := n1_
                    have HO168 := n2_
                    have HO171 := n3_
                    have HO174 := n4_
                    have HO177 := n5_
                    have HO183 := n6_
                    have HO189 := n7_
                    have BK160 := n8_
                    have HB := n9_
                    clear n0_ n1_ n2_ n3_ n4_ n5_ n6_ n7_ n8_ n9_
                    (try clear hb)
                    (try clear hb2)
                    (try clear hk)
                    (try clear hi)
                    (try clear ho0)
                    refine hK.out _ _ ⟨v167, v170, v173, v176, v179, v182, v185, v188, v191, v194, m33_, (by rw [ha.out]; exact putSel_upk 18 hb_ rfl rfl rfl), (by first | ((with_reducible repeat (first | apply Kd.V_alloc | apply Kd.V_drewN | apply Kd.V_drew)); exact Kd.V_mono HO_161007.out (fun _ hk => by first | exact ⟨hk.1.1, ⟨hk.1.2.1, ⟨hk.1.2.2.1, ⟨hk.1.2.2.2.1, ⟨hk.1.2.2.2.2.1, ⟨hk.1.2.2.2.2.2.1, ⟨hk.2, hk.1.2.2.2.2.2.2⟩⟩⟩⟩⟩⟩⟩ | exact okw hk)) | ((with_reducible repeat (first | apply Kd.V_alloc | apply Kd.V_drewN | apply Kd.V_drew)); exact Kd.V_mono HO_161007.out (fun _ hk => by first | trivial | exact hk | exact hk.1 | exact hk.2 | exact hk.1.1 | exact okw hk))), (by first | ((with_reducible repeat (first | apply Kd.V_alloc | apply Kd.V_drewN | apply Kd.V_drew)); exact Kd.V_mono HO_161008.out (fun _ hk => by first | exact ⟨hk.1.1, ⟨hk.1.2.1, ⟨hk.1.2.2.1, ⟨hk.1.2.2.2.1, ⟨hk.1.2.2.2.2.1, ⟨hk.1.2.2.2.2.2.1, ⟨hk.2, hk.1.2.2.2.2.2.2⟩⟩⟩⟩⟩⟩⟩ | exact okw hk)) | ((with_reducible repeat (first | apply Kd.V_alloc | apply Kd.V_drewN | apply Kd.V_drew)); exact Kd.V_mono HO_161008.out (fun _ hk => by first | trivial | exact hk | exact hk.1 | exact hk.2 | exact hk.1.1 | exact okw hk))), (by (with_reducible repeat (first | refine blk_drewN ?_ _ | refine blk_drew ?_ | refine blk_alloc ?_ _)); exact BK160.out), (by repeat (first | (with_reducible first | exact HB.out | apply below_alloc | apply pw_below_drewN | apply below_drew1 | refine below_set ?_ GE160.out) | exact HB.out)), fun _ => (by first | ((with_reducible repeat (first | apply Kd.R_alloc | apply Kd.R_drewN | apply Kd.R_drew)); exact Kd.R_mono HO168.out (fun _ hk => by first | exact ⟨hk.1.1, ⟨hk.1.2.1, ⟨hk.1.2.2.1, ⟨hk.1.2.2.2.1, ⟨hk.1.2.2.2.2, hk.2⟩⟩⟩⟩⟩ | exact okw hk)) | ((with_reducible repeat (first | apply Kd.R_alloc | apply Kd.R_drewN | apply Kd.R_drew)); exact Kd.R_mono HO168.out (fun _ hk => by first | trivial | exact hk | exact hk.1 | exact hk.2 | exact hk.1.1 | exact okw hk))), fun _ => (by first | ((with_reducible repeat (first | apply Kd.R_alloc | apply Kd.R_drewN | apply Kd.R_drew)); exact Kd.R_mono HO171.out (fun _ hk => by first | exact ⟨hk.1.1, ⟨hk.1.2.1, ⟨hk.1.2.2.1, ⟨hk.1.2.2.2.1, ⟨hk.1.2.2.2.2, hk.2⟩⟩⟩⟩⟩ | exact okw hk)) | ((with_reducible repeat (first | apply Kd.R_alloc | apply Kd.R_drewN | apply Kd.R_drew)); exact Kd.R_mono HO171.out (fun _ hk => by first | trivial | exact hk | exact hk.1 | exact hk.2 | exact hk.1.1 | exact okw hk))), fun _ => (by first | ((with_reducible repeat (first | apply Kd.R_alloc | apply Kd.R_drewN | apply Kd.R_drew)); exact Kd.R_mono HO174.out (fun _ hk => by first | exact ⟨hk.1.1, ⟨hk.1.2.1, ⟨hk.1.2.2.1, ⟨hk.1.2.2.2.1, ⟨hk.1.2.2.2.2, hk.2⟩⟩⟩⟩⟩ | exact okw hk)) | ((with_reducible repeat (first | apply Kd.R_alloc | apply Kd.R_drewN | apply Kd.R_drew)); exact Kd.R_mono HO174.out (fun _ hk => by first | trivial | exact hk | exact hk.1 | exact hk.2 | exact hk.1.1 | exact okw hk))), fun _ => (by first | ((with_reducible repeat (first | apply Kd.R_alloc | apply Kd.R_drewN | apply Kd.R_drew)); exact Kd.R_mono HO177.out (fun _ hk => by first | exact ⟨hk.1.1, ⟨hk.1.2.1, ⟨hk.1.2.2.1, ⟨hk.1.2.2.2.1, ⟨hk.1.2.2.2.2, hk.2⟩⟩⟩⟩⟩ | exact okw hk)) | ((with_reducible repeat (first | apply Kd.R_alloc | apply Kd.R_drewN | apply Kd.R_drew)); exact Kd.R_mono HO177.out (fun _ hk => by first | trivial | exact hk | exact hk.1 | exact hk.2 | exact hk.1.1 | exact okw hk))), z_HO180, fun _ => (by first | ((with_reducible repeat (first | apply Kd.R_alloc | apply Kd.R_drewN | apply Kd.R_drew)); exact Kd.R_mono HO183.out (fun _ hk => by first | exact ⟨hk.1.1, ⟨hk.1.2.1, ⟨hk.1.2.2.1, ⟨hk.1.2.2.2.1, ⟨hk.1.2.2.2.2, hk.2⟩⟩⟩⟩⟩ | exact okw hk)) | ((with_reducible repeat (first | apply Kd.R_alloc | apply Kd.R_drewN | apply Kd.R_drew)); exact Kd.R_mono HO183.out (fun _ hk => by first | trivial | exact hk | exact hk.1 | exact hk.2 | exact hk.1.1 | exact okw hk))), z_HO186, fun _ => (by first | ((with_reducible repeat (first | apply Kd.R_alloc | apply Kd.R_drewN | apply Kd.R_drew)); exact Kd.R_mono HO189.out (fun _ hk => by first | exact ⟨hk.1.1.1.1.1.1, ⟨hk.1.1.1.1.2, ⟨hk.1.1.1.2, ⟨hk.1.1.2, ⟨hk.1.2, hk.2⟩⟩⟩⟩⟩ | exact okw hk)) | ((with_reducible repeat (first | apply Kd.R_alloc | apply Kd.R_drewN | apply Kd.R_drew)); exact Kd.R_mono HO189.out (fun _ hk => by first | trivial | exact hk | exact hk.1 | exact hk.2 | exact hk.1.1 | exact okw hk))), fun h0_ _ => absurd ((hoff 31 (by kernel_rfl)).symm.trans h0_) (by decide), fun h0_ => absurd ((hoff 32 (by kernel_rfl)).symm.trans h0_) (by decide), fun h0_ => absurd ((hoff 33 (by kernel_rfl)).symm.trans h0_) (by decide)⟩
                  refine steps_cons ?_ ?_
                  · rintro b a w' ⟨v167, v170, v173, v176, v179, v182, v185, v188, v191, v194, m33_, ha, Q_HO_161007, Q_HO_161008, Q_BK160, Q_HB, Q_HO168, Q_HO171, Q_HO174, Q_HO177, Q_HO180, Q_HO183, Q_HO186, Q_HO189, Q_HO192, Q_HO195, Q_X33_⟩ hb_ hon hoff
                    refine ⟨_, rfl, fun K hK => ?_⟩
                    have e90 : a.tmps[90]? = some (.pointer (some ⟨gb160, 7, none⟩)) := by rw [ha]; exact (putSel_off rfl).trans rfl
                    replace ha := Aside0.mk ha
                    have HO_161007 := Aside0.mk Q_HO_161007
                    have HO_161008 := Aside0.mk Q_HO_161008
                    have BK160 := Aside0.mk Q_BK160
                    have HB := Aside0.mk Q_HB
                    have hc0_ : w'.cell? ⟨gb160, 0, none⟩ = some (.int .i64 a2_0) := (blk_cell BK160.out 0).trans rfl
                    have hc1_ : w'.cell? ⟨gb160, 1, none⟩ = some (.int .i64 a2_1) := (blk_cell BK160.out 1).trans rfl
                    have hc2_ : w'.cell? ⟨gb160, 2, none⟩ = some (.int .u32 a2_2) := (blk_cell BK160.out 2).trans rfl
                    have hc3_ : w'.cell? ⟨gb160, 3, none⟩ = some (.int .u32 a2_3) := (blk_cell BK160.out 3).trans rfl
                    have hc4_ : w'.cell? ⟨gb160, 4, none⟩ = some (.int .i64 a2_4) := (blk_cell BK160.out 4).trans rfl
                    have hc5_ : w'.cell? ⟨gb160, 5, none⟩ = some (.int .i64 a2_5) := (blk_cell BK160.out 5).trans rfl
                    have hc6_ : w'.cell? ⟨gb160, 6, none⟩ = some (.int .i64 a2_6) := (blk_cell BK160.out 6).trans rfl
                    have hc7_ : w'.cell? ⟨gb160, 7, none⟩ = some (.slice A2_7 l2_7.length c2_7) := (blk_cell BK160.out 7).trans rfl
                    have hc8_ : w'.cell? ⟨gb160, 8, none⟩ = some (.slice A2_8 l2_8.length c2_8) := (blk_cell BK160.out 8).trans rfl
                    refine value_ (w1 := w') (v := .slice A2_7 l2_7.length c2_7) (by rfl) rfl ?_ ?_
                    · go_simp
                      (try simp only [i64_w])
                      try rfl
                    refine hK.out _ _ ⟨v167, v170, v173, v176, v179, v182, v185, v188, v191, v194, m33_, (by rw [ha.out]; exact putSel_upk 19 hb_ rfl rfl rfl), Q_HO_161007, Q_HO_161008, Q_BK160, Q_HB, Q_HO168, Q_HO171, Q_HO174, Q_HO177, Q_HO180, Q_HO183, Q_HO186, Q_HO189, fun h0_ _ => absurd ((hoff 31 (by kernel_rfl)).symm.trans h0_) (by decide), fun h0_ => absurd ((hoff 32 (by kernel_rfl)).symm.trans h0_) (by decide), fun h0_ => absurd ((hoff 33 (by kernel_rfl)).symm.trans h0_) (by decide)⟩
                  refine steps_cons ?_ ?_
                  · rintro b a w' ⟨v167, v170, v173, v176, v179, v182, v185, v188, v191, v194, m33_, ha, Q_HO_161007, Q_HO_161008, Q_BK160, Q_HB, Q_HO168, Q_HO171, Q_HO174, Q_HO177, Q_HO180, Q_HO183, Q_HO186, Q_HO189, Q_HO192, Q_HO195, Q_X33_⟩ hb_ hon hoff
                    refine ⟨_, rfl, fun K hK => ?_⟩
                    have e92 : a.tmps[92]? = some (.pointer (some ⟨gb160, 8, none⟩)) := by rw [ha]; exact (putSel_off rfl).trans rfl
                    replace ha := Aside0.mk ha
                    have HO_161007 := Aside0.mk Q_HO_161007
                    have HO_161008 := Aside0.mk Q_HO_161008
                    have BK160 := Aside0.mk Q_BK160
                    have HB := Aside0.mk Q_HB
                    have hc0_ : w'.cell? ⟨gb160, 0, none⟩ = some (.int .i64 a2_0) := (blk_cell BK160.out 0).trans rfl
                    have hc1_ : w'.cell? ⟨gb160, 1, none⟩ = some (.int .i64 a2_1) := (blk_cell BK160.out 1).trans rfl
                    have hc2_ : w'.cell? ⟨gb160, 2, none⟩ = some (.int .u32 a2_2) := (blk_cell BK160.out 2).trans rfl
                    have hc3_ : w'.cell? ⟨gb160, 3, none⟩ = some (.int .u32 a2_3) := (blk_cell BK160.out 3).trans rfl
                    have hc4_ : w'.cell? ⟨gb160, 4, none⟩ = some (.int .i64 a2_4) := (blk_cell BK160.out 4).trans rfl
                    have hc5_ : w'.cell? ⟨gb160, 5, none⟩ = some (.int .i64 a2_5) := (blk_cell BK160.out 5).trans rfl
                    have hc6_ : w'.cell? ⟨gb160, 6, none⟩ = some (.int .i64 a2_6) := (blk_cell BK160.out 6).trans rfl
                    have hc7_ : w'.cell? ⟨gb160, 7, none⟩ = some (.slice A2_7 l2_7.length c2_7) := (blk_cell BK160.out 7).trans rfl
                    have hc8_ : w'.cell? ⟨gb160, 8, none⟩ = some (.slice A2_8 l2_8.length c2_8) := (blk_cell BK160.out 8).trans rfl
                    refine value_ (w1 := w') (v := .slice A2_8 l2_8.length c2_8) (by rfl) rfl ?_ ?_
                    · go_simp
                      (try simp only [i64_w])
                      try rfl
                    refine hK.out _ _ ⟨v167, v170, v173, v176, v179, v182, v185, v188, v191, v194, m33_, (by rw [ha.out]; exact putSel_upk 20 hb_ rfl rfl rfl), Q_HO_161007, Q_HO_161008, Q_BK160, Q_HB, Q_HO168, Q_HO171, Q_HO174, Q_HO177, Q_HO180, Q_HO183, Q_HO186, Q_HO189, fun h0_ _ => absurd ((hoff 31 (by kernel_rfl)).symm.trans h0_) (by decide), fun h0_ => absurd ((hoff 32 (by kernel_rfl)).symm.trans h0_) (by decide), fun h0_ => absurd ((hoff 33 (by kernel_rfl)).symm.trans h0_) (by decide)⟩
                  refine steps_cons ?_ ?_
                  · rintro b a w' ⟨v167, v170, v173, v176, v179, v182, v185, v188, v191, v194, m33_, ha, Q_HO_161007, Q_HO_161008, Q_BK160, Q_HB, Q_HO168, Q_HO171, Q_HO174, Q_HO177, Q_HO180, Q_HO183, Q_HO186, Q_HO189, Q_HO192, Q_HO195, Q_X33_⟩ hb_ hon hoff
                    refine ⟨_, rfl, fun K hK => ?_⟩
                    have e65 : a.tmps[65]? = some (v167) := by rw [ha]; exact putSel_on (e := (2, 65, v167)) 1 rfl rfl (hon 2 (by kernel_rfl)) rfl
                    have e68 : a.tmps[68]? = some (v170) := by rw [ha]; exact putSel_on (e := (5, 68, v170)) 3 rfl rfl (hon 5 (by kernel_rfl)) rfl
                    have e71 : a.tmps[71]? = some (v173) := by rw [ha]; exact putSel_on (e := (8, 71, v173)) 5 rfl rfl (hon 8 (by kernel_rfl)) rfl
                    have e74 : a.tmps[74]? = some (v176) := by rw [ha]; exact putSel_on (e := (11, 74, v176)) 7 rfl rfl (hon 11 (by kernel_rfl)) rfl
                    have e82 : a.tmps[82]? = some (v179) := by rw [ha]; exact putSel_on (e := (19, 82, v179)) 13 rfl rfl (hon 19 (by kernel_rfl)) rfl
                    have e85 : a.tmps[85]? = some (v182) := by rw [ha]; exact putSel_on (e := (22, 85, v182)) 15 rfl rfl (hon 22 (by kernel_rfl)) rfl
                    have e86 : a.tmps[86]? = some (v185) := by rw [ha]; exact putSel_on (e := (23, 86, v185)) 16 rfl rfl (hon 23 (by kernel_rfl)) rfl
                    have e89 : a.tmps[89]? = some (v188) := by rw [ha]; exact putSel_on (e := (26, 89, v188)) 18 rfl rfl (hon 26 (by kernel_rfl)) rfl
                    have e91 : a.tmps[91]? = some (.slice A2_7 l2_7.length c2_7) := by rw [ha]; exact putSel_on (e := (28, 91, .slice A2_7 l2_7.length c2_7)) 19 rfl rfl (hon 28 (by kernel_rfl)) rfl
                    have e93 : a.tmps[93]? = some (.slice A2_8 l2_8.length c2_8) := by rw [ha]; exact putSel_on (e := (30, 93, .slice A2_8 l2_8.length c2_8)) 20 rfl rfl (hon 30 (by kernel_rfl)) rfl
                    replace ha := Aside0.mk ha
                    have HO_161007 := Aside0.mk Q_HO_161007
                    have HO_161008 := Aside0.mk Q_HO_161008
                    have BK160 := Aside0.mk Q_BK160
                    have HB := Aside0.mk Q_HB
                    have HO168 := Aside0.mk (Q_HO168 (hon 2 (by kernel_rfl)))
                    have HO171 := Aside0.mk (Q_HO171 (hon 5 (by kernel_rfl)))
                    have HO174 := Aside0.mk (Q_HO174 (hon 8 (by kernel_rfl)))
                    have HO177 := Aside0.mk (Q_HO177 (hon 11 (by kernel_rfl)))
                    have HO180 := Aside0.mk (Q_HO180 (hon 19 (by kernel_rfl)))
                    have HO183 := Aside0.mk (Q_HO183 (hon 22 (by kernel_rfl)))
                    have HO186 := Aside0.mk (Q_HO186 (hon 23 (by kernel_rfl)))
                    have HO189 := Aside0.mk (Q_HO189 (hon 26 (by kernel_rfl)))
                    obtain ⟨Ao56, co56, eo56⟩ := Kd.R_slice HO168.out
                    (first | subst eo56 | (injection eo56 with f1_ f2_ f3_; have f4_ := f1_.symm; have f5_ := f3_.symm; clear f1_ f2_ f3_; subst f4_; subst f5_))
                    obtain ⟨Ao57, co57, eo57⟩ := Kd.R_slice HO171.out
                    (first | subst eo57 | (injection eo57 with f1_ f2_ f3_; have f4_ := f1_.symm; have f5_ := f3_.symm; clear f1_ f2_ f3_; subst f4_; subst f5_))
                    obtain ⟨Ao58, co58, eo58⟩ := Kd.R_slice HO174.out
                    (first | subst eo58 | (injection eo58 with f1_ f2_ f3_; have f4_ := f1_.symm; have f5_ := f3_.symm; clear f1_ f2_ f3_; subst f4_; subst f5_))
                    obtain ⟨Ao59, co59, eo59⟩ := Kd.R_slice HO177.out
                    (first | subst eo59 | (injection eo59 with f1_ f2_ f3_; have f4_ := f1_.symm; have f5_ := f3_.symm; clear f1_ f2_ f3_; subst f4_; subst f5_))
                    obtain ⟨Ao60, co60, eo60⟩ := Kd.R_slice HO180.out
                    (first | subst eo60 | (injection eo60 with f1_ f2_ f3_; have f4_ := f1_.symm; have f5_ := f3_.symm; clear f1_ f2_ f3_; subst f4_; subst f5_))
                    obtain ⟨Ao61, co61, eo61⟩ := Kd.R_slice HO183.out
                    (first | subst eo61 | (injection eo61 with f1_ f2_ f3_; have f4_ := f1_.symm; have f5_ := f3_.symm; clear f1_ f2_ f3_; subst f4_; subst f5_))
                    obtain ⟨Ao62, co62, eo62⟩ := Kd.R_slice HO186.out
                    (first | subst eo62 | (injection eo62 with f1_ f2_ f3_; have f4_ := f1_.symm; have f5_ := f3_.symm; clear f1_ f2_ f3_; subst f4_; subst f5_))
                    obtain ⟨Ao63, co63, eo63⟩ := Kd.R_slice HO189.out
                    (first | subst eo63 | (injection eo63 with f1_ f2_ f3_; have f4_ := f1_.symm; have f5_ := f3_.symm; clear f1_ f2_ f3_; subst f4_; subst f5_))
                    refine Kd.N_lit_step (Kd.slice 5 (Kd.int .u8)) _ 25 ?hg (N' := 94) ?hd (xs := ([t166, t169, t172, t175, y178, t181, y184, t187, l2_7, l2_8] : List (List Int))) (inner := [.slice Ao56 t166.length co56, .slice Ao57 t169.length co57, .slice Ao58 t172.length co58, .slice Ao59 t175.length co59, .slice Ao60 y178.length co60, .slice Ao61 t181.length co61, .slice Ao62 y184.length co62, .slice Ao63 t187.length co63, .slice A2_7 l2_7.length c2_7, .slice A2_8 l2_8.length c2_8]) (ok := (fun k_ => ((P2_7_ k_ ∨ P2_8_ k_) ∨ w.heap.size ≤ k_) ∧ k_ ≠ gb160)) (okp := (fun k_ => ((P2_7_ k_ ∨ P2_8_ k_) ∨ w.heap.size ≤ k_) ∧ k_ ≠ gb160)) ?hr ?hp (fun _ hk => hk) ((show ∀ k_, w'.heap.size ≤ k_ → (fun k_ => ((P2_7_ k_ ∨ P2_8_ k_) ∨ w.heap.size ≤ k_) ∧ k_ ≠ gb160) k_ from fun k_ hk => ⟨(.inr (Nat.le_trans (below_size (by repeat (first | (with_reducible first | exact HB.out | apply below_alloc | apply pw_below_drewN | apply below_drew1 | refine below_set ?_ GE160.out) | exact HB.out))) hk)), Kd.freshB (g := gb160) (o := .cells #[.int .i64 a2_0, .int .i64 a2_1, .int .u32 a2_2, .int .u32 a2_3, .int .i64 a2_4, .int .i64 a2_5, .int .i64 a2_6, .slice A2_7 l2_7.length c2_7, .slice A2_8 l2_8.length c2_8] 27 (0, 0)) (by (with_reducible repeat (first | refine blk_drewN ?_ _ | refine blk_drew ?_ | refine blk_alloc ?_ _)); exact BK160.out) k_ hk⟩) _ (Nat.le_refl _)) (Below.refl _ _) (Nat.le_refl _) (by simp) ?_; (case hd => rfl); (case hg => rfl); (case hr => first | (go_simp; done) | (go_simp; rfl)); (case hp => exact (Reps.one (show Kd.FK (Kd.slice 5 (Kd.int .u8)) _ _ t166 [.slice Ao56 t166.length co56] from (by first | exact Kd.FK_slice_mk (Kd.R_reads' (Kd.R_mono (ok' := (fun k_ => ((P2_7_ k_ ∨ P2_8_ k_) ∨ w.heap.size ≤ k_) ∧ k_ ≠ gb160)) (Kd.R_types (HO168.out) BK160.out (by decide)) (fun k_ hk => by first | exact ⟨(.inr (hk.1.1)), hk.2⟩ | exact okw hk))).2.1 (Kd.R_F (Kd.R_mono (ok' := (fun k_ => ((P2_7_ k_ ∨ P2_8_ k_) ∨ w.heap.size ≤ k_) ∧ k_ ≠ gb160)) (Kd.R_types (HO168.out) BK160.out (by decide)) (fun k_ hk => by first | exact ⟨(.inr (hk.1.1)), hk.2⟩ | exact okw hk))) | exact FK_slice_of (Kd.R_reads' (Kd.R_mono (ok' := (fun k_ => ((P2_7_ k_ ∨ P2_8_ k_) ∨ w.heap.size ≤ k_) ∧ k_ ≠ gb160)) (Kd.R_types (HO168.out) BK160.out (by decide)) (fun k_ hk => by first | exact ⟨(.inr (hk.1.1)), hk.2⟩ | exact okw hk))).1 (Kd.R_reads' (Kd.R_mono (ok' := (fun k_ => ((P2_7_ k_ ∨ P2_8_ k_) ∨ w.heap.size ≤ k_) ∧ k_ ≠ gb160)) (Kd.R_types (HO168.out) BK160.out (by decide)) (fun k_ hk => by first | exact ⟨(.inr (hk.1.1)), hk.2⟩ | exact okw hk))).2.1 (Kd.R_F (Kd.R_mono (ok' := (fun k_ => ((P2_7_ k_ ∨ P2_8_ k_) ∨ w.heap.size ≤ k_) ∧ k_ ≠ gb160)) (Kd.R_types (HO168.out) BK160.out (by decide)) (fun k_ hk => by first | exact ⟨(.inr (hk.1.1)), hk.2⟩ | exact okw hk))))) (Reps.one (show Kd.FK (Kd.slice 5 (Kd.int .u8)) _ _ t169 [.slice Ao57 t169.length co57] from (by first | exact Kd.FK_slice_mk (Kd.R_reads' (Kd.R_mono (ok' := (fun k_ => ((P2_7_ k_ ∨ P2_8_ k_) ∨ w.heap.size ≤ k_) ∧ k_ ≠ gb160)) (Kd.R_types (HO171.out) BK160.out (by decide)) (fun k_ hk => by first | exact ⟨(.inr (hk.1.1)), hk.2⟩ | exact okw hk))).2.1 (Kd.R_F (Kd.R_mono (ok' := (fun k_ => ((P2_7_ k_ ∨ P2_8_ k_) ∨ w.heap.size ≤ k_) ∧ k_ ≠ gb160)) (Kd.R_types (HO171.out) BK160.out (by decide)) (fun k_ hk => by first | exact ⟨(.inr (hk.1.1)), hk.2⟩ | exact okw hk))) | exact FK_slice_of (Kd.R_reads' (Kd.R_mono (ok' := (fun k_ => ((P2_7_ k_ ∨ P2_8_ k_) ∨ w.heap.size ≤ k_) ∧ k_ ≠ gb160)) (Kd.R_types (HO171.out) BK160.out (by decide)) (fun k_ hk => by first | exact ⟨(.inr (hk.1.1)), hk.2⟩ | exact okw hk))).1 (Kd.R_reads' (Kd.R_mono (ok' := (fun k_ => ((P2_7_ k_ ∨ P2_8_ k_) ∨ w.heap.size ≤ k_) ∧ k_ ≠ gb160)) (Kd.R_types (HO171.out) BK160.out (by decide)) (fun k_ hk => by first | exact ⟨(.inr (hk.1.1)), hk.2⟩ | exact okw hk))).2.1 (Kd.R_F (Kd.R_mono (ok' := (fun k_ => ((P2_7_ k_ ∨ P2_8_ k_) ∨ w.heap.size ≤ k_) ∧ k_ ≠ gb160)) (Kd.R_types (HO171.out) BK160.out (by decide)) (fun k_ hk => by first | exact ⟨(.inr (hk.1.1)), hk.2⟩ | exact okw hk))))) (Reps.one (show Kd.FK (Kd.slice 5 (Kd.int .u8)) _ _ t172 [.slice Ao58 t172.length co58] from (by first | exact Kd.FK_slice_mk (Kd.R_reads' (Kd.R_mono (ok' := (fun k_ => ((P2_7_ k_ ∨ P2_8_ k_) ∨ w.heap.size ≤ k_) ∧ k_ ≠ gb160)) (Kd.R_types (HO174.out) BK160.out (by decide)) (fun k_ hk => by first | exact ⟨(.inr (hk.1.1)), hk.2⟩ | exact okw hk))).2.1 (Kd.R_F (Kd.R_mono (ok' := (fun k_ => ((P2_7_ k_ ∨ P2_8_ k_) ∨ w.heap.size ≤ k_) ∧ k_ ≠ gb160)) (Kd.R_types (HO174.out) BK160.out (by decide)) (fun k_ hk => by first | exact ⟨(.inr (hk.1.1)), hk.2⟩ | exact okw hk))) | exact FK_slice_of (Kd.R_reads' (Kd.R_mono (ok' := (fun k_ => ((P2_7_ k_ ∨ P2_8_ k_) ∨ w.heap.size ≤ k_) ∧ k_ ≠ gb160)) (Kd.R_types (HO174.out) BK160.out (by decide)) (fun k_ hk => by first | exact ⟨(.inr (hk.1.1)), hk.2⟩ | exact okw hk))).1 (Kd.R_reads' (Kd.R_mono (ok' := (fun k_ => ((P2_7_ k_ ∨ P2_8_ k_) ∨ w.heap.size ≤ k_) ∧ k_ ≠ gb160)) (Kd.R_types (HO174.out) BK160.out (by decide)) (fun k_ hk => by first | exact ⟨(.inr (hk.1.1)), hk.2⟩ | exact okw hk))).2.1 (Kd.R_F (Kd.R_mono (ok' := (fun k_ => ((P2_7_ k_ ∨ P2_8_ k_) ∨ w.heap.size ≤ k_) ∧ k_ ≠ gb160)) (Kd.R_types (HO174.out) BK160.out (by decide)) (fun k_ hk => by first | exact ⟨(.inr (hk.1.1)), hk.2⟩ | exact okw hk))))) (Reps.one (show Kd.FK (Kd.slice 5 (Kd.int .u8)) _ _ t175 [.slice Ao59 t175.length co59] from (by first | exact Kd.FK_slice_mk (Kd.R_reads' (Kd.R_mono (ok' := (fun k_ => ((P2_7_ k_ ∨ P2_8_ k_) ∨ w.heap.size ≤ k_) ∧ k_ ≠ gb160)) (Kd.R_types (HO177.out) BK160.out (by decide)) (fun k_ hk => by first | exact ⟨(.inr (hk.1.1)), hk.2⟩ | exact okw hk))).2.1 (Kd.R_F (Kd.R_mono (ok' := (fun k_ => ((P2_7_ k_ ∨ P2_8_ k_) ∨ w.heap.size ≤ k_) ∧ k_ ≠ gb160)) (Kd.R_types (HO177.out) BK160.out (by decide)) (fun k_ hk => by first | exact ⟨(.inr (hk.1.1)), hk.2⟩ | exact okw hk))) | exact FK_slice_of (Kd.R_reads' (Kd.R_mono (ok' := (fun k_ => ((P2_7_ k_ ∨ P2_8_ k_) ∨ w.heap.size ≤ k_) ∧ k_ ≠ gb160)) (Kd.R_types (HO177.out) BK160.out (by decide)) (fun k_ hk => by first | exact ⟨(.inr (hk.1.1)), hk.2⟩ | exact okw hk))).1 (Kd.R_reads' (Kd.R_mono (ok' := (fun k_ => ((P2_7_ k_ ∨ P2_8_ k_) ∨ w.heap.size ≤ k_) ∧ k_ ≠ gb160)) (Kd.R_types (HO177.out) BK160.out (by decide)) (fun k_ hk => by first | exact ⟨(.inr (hk.1.1)), hk.2⟩ | exact okw hk))).2.1 (Kd.R_F (Kd.R_mono (ok' := (fun k_ => ((P2_7_ k_ ∨ P2_8_ k_) ∨ w.heap.size ≤ k_) ∧ k_ ≠ gb160)) (Kd.R_types (HO177.out) BK160.out (by decide)) (fun k_ hk => by first | exact ⟨(.inr (hk.1.1)), hk.2⟩ | exact okw hk))))) (Reps.one (show Kd.FK (Kd.slice 5 (Kd.int .u8)) _ _ y178 [.slice Ao60 y178.length co60] from (by first | exact Kd.FK_slice_mk (Kd.R_reads' (Kd.R_mono (ok' := (fun k_ => ((P2_7_ k_ ∨ P2_8_ k_) ∨ w.heap.size ≤ k_) ∧ k_ ≠ gb160)) (Kd.R_types (HO180.out) BK160.out (by decide)) (fun k_ hk => by first | exact ⟨(.inr (hk.1.1)), hk.2⟩ | exact okw hk))).2.1 (Kd.R_F (Kd.R_mono (ok' := (fun k_ => ((P2_7_ k_ ∨ P2_8_ k_) ∨ w.heap.size ≤ k_) ∧ k_ ≠ gb160)) (Kd.R_types (HO180.out) BK160.out (by decide)) (fun k_ hk => by first | exact ⟨(.inr (hk.1.1)), hk.2⟩ | exact okw hk))) | exact FK_slice_of (Kd.R_reads' (Kd.R_mono (ok' := (fun k_ => ((P2_7_ k_ ∨ P2_8_ k_) ∨ w.heap.size ≤ k_) ∧ k_ ≠ gb160)) (Kd.R_types (HO180.out) BK160.out (by decide)) (fun k_ hk => by first | exact ⟨(.inr (hk.1.1)), hk.2⟩ | exact okw hk))).1 (Kd.R_reads' (Kd.R_mono (ok' := (fun k_ => ((P2_7_ k_ ∨ P2_8_ k_) ∨ w.heap.size ≤ k_) ∧ k_ ≠ gb160)) (Kd.R_types (HO180.out) BK160.out (by decide)) (fun k_ hk => by first | exact ⟨(.inr (hk.1.1)), hk.2⟩ | exact okw hk))).2.1 (Kd.R_F (Kd.R_mono (ok' := (fun k_ => ((P2_7_ k_ ∨ P2_8_ k_) ∨ w.heap.size ≤ k_) ∧ k_ ≠ gb160)) (Kd.R_types (HO180.out) BK160.out (by decide)) (fun k_ hk => by first | exact ⟨(.inr (hk.1.1)), hk.2⟩ | exact okw hk))))) (Reps.one (show Kd.FK (Kd.slice 5 (Kd.int .u8)) _ _ t181 [.slice Ao61 t181.length co61] from (by first | exact Kd.FK_slice_mk (Kd.R_reads' (Kd.R_mono (ok' := (fun k_ => ((P2_7_ k_ ∨ P2_8_ k_) ∨ w.heap.size ≤ k_) ∧ k_ ≠ gb160)) (Kd.R_types (HO183.out) BK160.out (by decide)) (fun k_ hk => by first | exact ⟨(.inr (hk.1.1)), hk.2⟩ | exact okw hk))).2.1 (Kd.R_F (Kd.R_mono (ok' := (fun k_ => ((P2_7_ k_ ∨ P2_8_ k_) ∨ w.heap.size ≤ k_) ∧ k_ ≠ gb160)) (Kd.R_types (HO183.out) BK160.out (by decide)) (fun k_ hk => by first | exact ⟨(.inr (hk.1.1)), hk.2⟩ | exact okw hk))) | exact FK_slice_of (Kd.R_reads' (Kd.R_mono (ok' := (fun k_ => ((P2_7_ k_ ∨ P2_8_ k_) ∨ w.heap.size ≤ k_) ∧ k_ ≠ gb160)) (Kd.R_types (HO183.out) BK160.out (by decide)) (fun k_ hk => by first | exact ⟨(.inr (hk.1.1)), hk.2⟩ | exact okw hk))).1 (Kd.R_reads' (Kd.R_mono (ok' := (fun k_ => ((P2_7_ k_ ∨ P2_8_ k_) ∨ w.heap.size ≤ k_) ∧ k_ ≠ gb160)) (Kd.R_types (HO183.out) BK160.out (by decide)) (fun k_ hk => by first | exact ⟨(.inr (hk.1.1)), hk.2⟩ | exact okw hk))).2.1 (Kd.R_F (Kd.R_mono (ok' := (fun k_ => ((P2_7_ k_ ∨ P2_8_ k_) ∨ w.heap.size ≤ k_) ∧ k_ ≠ gb160)) (Kd.R_types (HO183.out) BK160.out (by decide)) (fun k_ hk => by first | exact ⟨(.inr (hk.1.1)), hk.2⟩ | exact okw hk))))) (Reps.one (show Kd.FK (Kd.slice 5 (Kd.int .u8)) _ _ y184 [.slice Ao62 y184.length co62] from (by first | exact Kd.FK_slice_mk (Kd.R_reads' (Kd.R_mono (ok' := (fun k_ => ((P2_7_ k_ ∨ P2_8_ k_) ∨ w.heap.size ≤ k_) ∧ k_ ≠ gb160)) (Kd.R_types (HO186.out) BK160.out (by decide)) (fun k_ hk => by first | exact ⟨(.inr (hk.1.1)), hk.2⟩ | exact okw hk))).2.1 (Kd.R_F (Kd.R_mono (ok' := (fun k_ => ((P2_7_ k_ ∨ P2_8_ k_) ∨ w.heap.size ≤ k_) ∧ k_ ≠ gb160)) (Kd.R_types (HO186.out) BK160.out (by decide)) (fun k_ hk => by first | exact ⟨(.inr (hk.1.1)), hk.2⟩ | exact okw hk))) | exact FK_slice_of (Kd.R_reads' (Kd.R_mono (ok' := (fun k_ => ((P2_7_ k_ ∨ P2_8_ k_) ∨ w.heap.size ≤ k_) ∧ k_ ≠ gb160)) (Kd.R_types (HO186.out) BK160.out (by decide)) (fun k_ hk => by first | exact ⟨(.inr (hk.1.1)), hk.2⟩ | exact okw hk))).1 (Kd.R_reads' (Kd.R_mono (ok' := (fun k_ => ((P2_7_ k_ ∨ P2_8_ k_) ∨ w.heap.size ≤ k_) ∧ k_ ≠ gb160)) (Kd.R_types (HO186.out) BK160.out (by decide)) (fun k_ hk => by first | exact ⟨(.inr (hk.1.1)), hk.2⟩ | exact okw hk))).2.1 (Kd.R_F (Kd.R_mono (ok' := (fun k_ => ((P2_7_ k_ ∨ P2_8_ k_) ∨ w.heap.size ≤ k_) ∧ k_ ≠ gb160)) (Kd.R_types (HO186.out) BK160.out (by decide)) (fun k_ hk => by first | exact ⟨(.inr (hk.1.1)), hk.2⟩ | exact okw hk))))) (Reps.one (show Kd.FK (Kd.slice 5 (Kd.int .u8)) _ _ t187 [.slice Ao63 t187.length co63] from (by first | exact Kd.FK_slice_mk (Kd.R_reads' (Kd.R_mono (ok' := (fun k_ => ((P2_7_ k_ ∨ P2_8_ k_) ∨ w.heap.size ≤ k_) ∧ k_ ≠ gb160)) (Kd.R_types (HO189.out) BK160.out (by decide)) (fun k_ hk => by first | exact ⟨(.inr (hk.1.1)), hk.2⟩ | exact okw hk))).2.1 (Kd.R_F (Kd.R_mono (ok' := (fun k_ => ((P2_7_ k_ ∨ P2_8_ k_) ∨ w.heap.size ≤ k_) ∧ k_ ≠ gb160)) (Kd.R_types (HO189.out) BK160.out (by decide)) (fun k_ hk => by first | exact ⟨(.inr (hk.1.1)), hk.2⟩ | exact okw hk))) | exact FK_slice_of (Kd.R_reads' (Kd.R_mono (ok' := (fun k_ => ((P2_7_ k_ ∨ P2_8_ k_) ∨ w.heap.size ≤ k_) ∧ k_ ≠ gb160)) (Kd.R_types (HO189.out) BK160.out (by decide)) (fun k_ hk => by first | exact ⟨(.inr (hk.1.1)), hk.2⟩ | exact okw hk))).1 (Kd.R_reads' (Kd.R_mono (ok' := (fun k_ => ((P2_7_ k_ ∨ P2_8_ k_) ∨ w.heap.size ≤ k_) ∧ k_ ≠ gb160)) (Kd.R_types (HO189.out) BK160.out (by decide)) (fun k_ hk => by first | exact ⟨(.inr (hk.1.1)), hk.2⟩ | exact okw hk))).2.1 (Kd.R_F (Kd.R_mono (ok' := (fun k_ => ((P2_7_ k_ ∨ P2_8_ k_) ∨ w.heap.size ≤ k_) ∧ k_ ≠ gb160)) (Kd.R_types (HO189.out) BK160.out (by decide)) (fun k_ hk => by first | exact ⟨(.inr (hk.1.1)), hk.2⟩ | exact okw hk))))) (Reps.one (show Kd.FK (Kd.slice 5 (Kd.int .u8)) _ _ l2_7 [.slice A2_7 l2_7.length c2_7] from (by first | exact Kd.FK_slice_mk (Kd.V_reads' (e := 0) (base := 0) (Kd.V_mono (ok' := (fun k_ => ((P2_7_ k_ ∨ P2_8_ k_) ∨ w.heap.size ≤ k_) ∧ k_ ≠ gb160)) (HO_161007.out) (fun k_ hk => by first | exact ⟨hk.1, hk.2.2.2.2.2.2.2.2.2⟩ | exact okw hk))).2.1 (Kd.V_F (e := 0) (base := 0) (Kd.V_mono (ok' := (fun k_ => ((P2_7_ k_ ∨ P2_8_ k_) ∨ w.heap.size ≤ k_) ∧ k_ ≠ gb160)) (HO_161007.out) (fun k_ hk => by first | exact ⟨hk.1, hk.2.2.2.2.2.2.2.2.2⟩ | exact okw hk))) | exact FK_slice_of (Kd.V_reads' (e := 0) (base := 0) (Kd.V_mono (ok' := (fun k_ => ((P2_7_ k_ ∨ P2_8_ k_) ∨ w.heap.size ≤ k_) ∧ k_ ≠ gb160)) (HO_161007.out) (fun k_ hk => by first | exact ⟨hk.1, hk.2.2.2.2.2.2.2.2.2⟩ | exact okw hk))).1 (Kd.V_reads' (e := 0) (base := 0) (Kd.V_mono (ok' := (fun k_ => ((P2_7_ k_ ∨ P2_8_ k_) ∨ w.heap.size ≤ k_) ∧ k_ ≠ gb160)) (HO_161007.out) (fun k_ hk => by first | exact ⟨hk.1, hk.2.2.2.2.2.2.2.2.2⟩ | exact okw hk))).2.1 (Kd.V_F (e := 0) (base := 0) (Kd.V_mono (ok' := (fun k_ => ((P2_7_ k_ ∨ P2_8_ k_) ∨ w.heap.size ≤ k_) ∧ k_ ≠ gb160)) (HO_161007.out) (fun k_ hk => by first | exact ⟨hk.1, hk.2.2.2.2.2.2.2.2.2⟩ | exact okw hk))))) (Reps.one (show Kd.FK (Kd.slice 5 (Kd.int .u8)) _ _ l2_8 [.slice A2_8 l2_8.length c2_8] from (by first | exact Kd.FK_slice_mk (Kd.V_reads' (e := 0) (base := 0) (Kd.V_mono (ok' := (fun k_ => ((P2_7_ k_ ∨ P2_8_ k_) ∨ w.heap.size ≤ k_) ∧ k_ ≠ gb160)) (HO_161008.out) (fun k_ hk => by first | exact ⟨hk.1, hk.2.2.2.2.2.2.2.2.2⟩ | exact okw hk))).2.1 (Kd.V_F (e := 0) (base := 0) (Kd.V_mono (ok' := (fun k_ => ((P2_7_ k_ ∨ P2_8_ k_) ∨ w.heap.size ≤ k_) ∧ k_ ≠ gb160)) (HO_161008.out) (fun k_ hk => by first | exact ⟨hk.1, hk.2.2.2.2.2.2.2.2.2⟩ | exact okw hk))) | exact FK_slice_of (Kd.V_reads' (e := 0) (base := 0) (Kd.V_mono (ok' := (fun k_ => ((P2_7_ k_ ∨ P2_8_ k_) ∨ w.heap.size ≤ k_) ∧ k_ ≠ gb160)) (HO_161008.out) (fun k_ hk => by first | exact ⟨hk.1, hk.2.2.2.2.2.2.2.2.2⟩ | exact okw hk))).1 (Kd.V_reads' (e := 0) (base := 0) (Kd.V_mono (ok' := (fun k_ => ((P2_7_ k_ ∨ P2_8_ k_) ∨ w.heap.size ≤ k_) ∧ k_ ≠ gb160)) (HO_161008.out) (fun k_ hk => by first | exact ⟨hk.1, hk.2.2.2.2.2.2.2.2.2⟩ | exact okw hk))).2.1 (Kd.V_F (e := 0) (base := 0) (Kd.V_mono (ok' := (fun k_ => ((P2_7_ k_ ∨ P2_8_ k_) ∨ w.heap.size ≤ k_) ∧ k_ ≠ gb160)) (HO_161008.out) (fun k_ hk => by first | exact ⟨hk.1, hk.2.2.2.2.2.2.2.2.2⟩ | exact okw hk))))) (Reps.none _ _))))))))))))
                    intro v191 w64 ho65 hb hg_ hnew_
                    clear hg_ hnew_
                    (first | rw [← Ny190.out] at ho65 | (simp only [Int.reduceToNat] at ho65; rw [← Ny190.out] at ho65))
                    have n0_ := Aside0.mk (Kd.V_elder' (by (with_reducible repeat (first | apply Kd.V_alloc | apply Kd.V_drewN | apply Kd.V_drew)); exact HO_161007.out) (Kd.N_base ho65) hb)
                    have n1_ := Aside0.mk (Kd.V_elder' (by (with_reducible repeat (first | apply Kd.V_alloc | apply Kd.V_drewN | apply Kd.V_drew)); exact HO_161008.out) (Kd.N_base ho65) hb)
                    have n2_ := Aside0.mk (Kd.R_below (by (with_reducible repeat (first | apply Kd.R_alloc | apply Kd.R_drewN | apply Kd.R_drew)); exact HO168.out) hb)
                    have n3_ := Aside0.mk (Kd.R_below (by (with_reducible repeat (first | apply Kd.R_alloc | apply Kd.R_drewN | apply Kd.R_drew)); exact HO171.out) hb)
                    have n4_ := Aside0.mk (Kd.R_below (by (with_reducible repeat (first | apply Kd.R_alloc | apply Kd.R_drewN | apply Kd.R_drew)); exact HO174.out) hb)
                    have n5_ := Aside0.mk (Kd.R_below (by (with_reducible repeat (first | apply Kd.R_alloc | apply Kd.R_drewN | apply Kd.R_drew)); exact HO177.out) hb)
                    have n6_ := Aside0.mk (Kd.R_below (by (with_reducible repeat (first | apply Kd.R_alloc | apply Kd.R_drewN | apply Kd.R_drew)); exact HO180.out) hb)
                    have n7_ := Aside0.mk (Kd.R_below (by (with_reducible repeat (first | apply Kd.R_alloc | apply Kd.R_drewN | apply Kd.R_drew)); exact HO183.out) hb)
                    have n8_ := Aside0.mk (Kd.R_below (by (with_reducible repeat (first | apply Kd.R_alloc | apply Kd.R_drewN | apply Kd.R_drew)); exact HO186.out) hb)
                    have n9_ := Aside0.mk (Kd.R_below (by (with_reducible repeat (first | apply Kd.R_alloc | apply Kd.R_drewN | apply Kd.R_drew)); exact HO189.out) hb)
                    have n10_ := Aside0.mk (Kd.N_lower ho65 (below_size (by repeat (first | (with_reducible first | exact HB.out | apply below_alloc | apply pw_below_drewN | apply below_drew1 | refine below_set ?_ GE160.out) | exact HB.out))))
                    have n11_ := Aside0.mk (blk_below (g := gb160) (o := .cells #[.int .i64 a2_0, .int .i64 a2_1, .int .u32 a2_2, .int .u32 a2_3, .int .i64 a2_4, .int .i64 a2_5, .int .i64 a2_6, .slice A2_7 l2_7.length c2_7, .slice A2_8 l2_8.length c2_8] 27 (0, 0)) (by (with_reducible repeat (first | refine blk_drewN ?_ _ | refine blk_drew ?_ | refine blk_alloc ?_ _)); exact BK160.out) hb)
                    have n12_ := Aside0.mk (below_step (by repeat (first | (with_reducible first | exact HB.out | apply below_alloc | apply pw_below_drewN | apply below_drew1 | refine below_set ?_ GE160.out) | exact HB.out)) hb)
                    clear HO_161007
                    clear HO_161008
                    clear HO168
                    clear HO171
                    clear HO174
                    clear HO177
                    clear HO180
                    clear HO183
                    clear HO186
                    clear HO189
                    clear BK160
                    clear HB
                    have HO_161007 := n0_
                    have HO_161008 := n1_
                    have HO168 := n2_
                    have HO171 := n3_
                    have HO174 := n4_
                    have HO177 := n5_
                    have HO180 := n6_
                    have HO183 := n7_
                    have HO186 := n8_
                    have HO189 := n9_
                    have HO192 := n10_
                    have BK160 := n11_
                    have HB := n12_
                    clear n0_ n1_ n2_ n3_ n4_ n5_ n6_ n7_ n8_ n9_ n10_ n11_ n12_
                    clear hb ho65
                    refine hK.out _ _ ⟨.slice Ao56 t166.length co56, .slice Ao57 t169.length co57, .slice Ao58 t172.length co58, .slice Ao59 t175.length co59, .slice Ao60 y178.length co60, .slice Ao61 t181.length co61, .slice Ao62 y184.length co62, .slice Ao63 t187.length co63, v191, v194, m33_, (by rw [ha.out]; exact putSel_upk 21 hb_ rfl rfl rfl), (by first | ((with_reducible repeat (first | apply Kd.V_alloc | apply Kd.V_drewN | apply Kd.V_drew)); exact Kd.V_mono HO_161007.out (fun _ hk => by first | exact ⟨hk.1.1, ⟨hk.1.2.1, ⟨hk.1.2.2.1, ⟨hk.1.2.2.2.1, ⟨hk.1.2.2.2.2.1, ⟨hk.1.2.2.2.2.2.1, ⟨hk.1.2.2.2.2.2.2.1, ⟨hk.1.2.2.2.2.2.2.2.1, ⟨hk.1.2.2.2.2.2.2.2.2.1, ⟨hk.2, hk.1.2.2.2.2.2.2.2.2.2⟩⟩⟩⟩⟩⟩⟩⟩⟩⟩ | exact okw hk)) | ((with_reducible repeat (first | apply Kd.V_alloc | apply Kd.V_drewN | apply Kd.V_drew)); exact Kd.V_mono HO_161007.out (fun _ hk => by first | trivial | exact hk | exact hk.1 | exact hk.2 | exact hk.1.1 | exact okw hk))), (by first | ((with_reducible repeat (first | apply Kd.V_alloc | apply Kd.V_drewN | apply Kd.V_drew)); exact Kd.V_mono HO_161008.out (fun _ hk => by first | exact ⟨hk.1.1, ⟨hk.1.2.1, ⟨hk.1.2.2.1, ⟨hk.1.2.2.2.1, ⟨hk.1.2.2.2.2.1, ⟨hk.1.2.2.2.2.2.1, ⟨hk.1.2.2.2.2.2.2.1, ⟨hk.1.2.2.2.2.2.2.2.1, ⟨hk.1.2.2.2.2.2.2.2.2.1, ⟨hk.2, hk.1.2.2.2.2.2.2.2.2.2⟩⟩⟩⟩⟩⟩⟩⟩⟩⟩ | exact okw hk)) | ((with_reducible repeat (first | apply Kd.V_alloc | apply Kd.V_drewN | apply Kd.V_drew)); exact Kd.V_mono HO_161008.out (fun _ hk => by first | trivial | exact hk | exact hk.1 | exact hk.2 | exact hk.1.1 | exact okw hk))), (by (with_reducible repeat (first | refine blk_drewN ?_ _ | refine blk_drew ?_ | refine blk_alloc ?_ _)); exact BK160.out), (by repeat (first | (with_reducible first | exact HB.out | apply below_alloc | apply pw_below_drewN | apply below_drew1 | refine below_set ?_ GE160.out) | exact HB.out)), fun _ => (by first | ((with_reducible repeat (first | apply Kd.R_alloc | apply Kd.R_drewN | apply Kd.R_drew)); exact HO168.out) | ((with_reducible repeat (first | apply Kd.R_alloc | apply Kd.R_drewN | apply Kd.R_drew)); exact Kd.R_mono HO168.out (fun _ hk => by first | trivial | exact hk | exact hk.1 | exact hk.2 | exact hk.1.1 | exact okw hk))), fun _ => (by first | ((with_reducible repeat (first | apply Kd.R_alloc | apply Kd.R_drewN | apply Kd.R_drew)); exact HO171.out) | ((with_reducible repeat (first | apply Kd.R_alloc | apply Kd.R_drewN | apply Kd.R_drew)); exact Kd.R_mono HO171.out (fun _ hk => by first | trivial | exact hk | exact hk.1 | exact hk.2 | exact hk.1.1 | exact okw hk))), fun _ => (by first | ((with_reducible repeat (first | apply Kd.R_alloc | apply Kd.R_drewN | apply Kd.R_drew)); exact HO174.out) | ((with_reducible repeat (first | apply Kd.R_alloc | apply Kd.R_drewN | apply Kd.R_drew)); exact Kd.R_mono HO174.out (fun _ hk => by first | trivial | exact hk | exact hk.1 | exact hk.2 | exact hk.1.1 | exact okw hk))), fun _ => (by first | ((with_reducible repeat (first | apply Kd.R_alloc | apply Kd.R_drewN | apply Kd.R_drew)); exact HO177.out) | ((with_reducible repeat (first | apply Kd.R_alloc | apply Kd.R_drewN | apply Kd.R_drew)); exact Kd.R_mono HO177.out (fun _ hk => by first | trivial | exact hk | exact hk.1 | exact hk.2 | exact hk.1.1 | exact okw hk))), fun _ => (by first | ((with_reducible repeat (first | apply Kd.R_alloc | apply Kd.R_drewN | apply Kd.R_drew)); exact HO180.out) | ((with_reducible repeat (first | apply Kd.R_alloc | apply Kd.R_drewN | apply Kd.R_drew)); exact Kd.R_mono HO180.out (fun _ hk => by first | trivial | exact hk | exact hk.1 | exact hk.2 | exact hk.1.1 | exact okw hk))), fun _ => (by first | ((with_reducible repeat (first | apply Kd.R_alloc | apply Kd.R_drewN | apply Kd.R_drew)); exact HO183.out) | ((with_reducible repeat (first | apply Kd.R_alloc | apply Kd.R_drewN | apply Kd.R_drew)); exact Kd.R_mono HO183.out (fun _ hk => by first | trivial | exact hk | exact hk.1 | exact hk.2 | exact hk.1.1 | exact okw hk))), fun _ => (by first | ((with_reducible repeat (first | apply Kd.R_alloc | apply Kd.R_drewN | apply Kd.R_drew)); exact HO186.out) | ((with_reducible repeat (first | apply Kd.R_alloc | apply Kd.R_drewN | apply Kd.R_drew)); exact Kd.R_mono HO186.out (fun _ hk => by first | trivial | exact hk | exact hk.1 | exact hk.2 | exact hk.1.1 | exact okw hk))), fun _ => (by first | ((with_reducible repeat (first | apply Kd.R_alloc | apply Kd.R_drewN | apply Kd.R_drew)); exact HO189.out) | ((with_reducible repeat (first | apply Kd.R_alloc | apply Kd.R_drewN | apply Kd.R_drew)); exact Kd.R_mono HO189.out (fun _ hk => by first | trivial | exact hk | exact hk.1 | exact hk.2 | exact hk.1.1 | exact okw hk))), fun _ _ => (by first | ((with_reducible repeat (first | apply Kd.N_alloc | apply Kd.N_drewN | apply Kd.N_drew)); exact HO192.out) | ((with_reducible repeat (first | apply Kd.N_alloc | apply Kd.N_drewN | apply Kd.N_drew)); exact Kd.N_mono HO192.out (fun _ hk => by first | trivial | exact hk | exact hk.1 | exact hk.2 | exact hk.1.1 | exact okw hk))), fun h0_ => absurd ((hoff 32 (by kernel_rfl)).symm.trans h0_) (by decide), fun h0_ => absurd ((hoff 33 (by kernel_rfl)).symm.trans h0_) (by decide)⟩
                  refine steps_cons ?_ ?_
                  · rintro b a w' ⟨v167, v170, v173, v176, v179, v182, v185, v188, v191, v194, m33_, ha, Q_HO_161007, Q_HO_161008, Q_BK160, Q_HB, Q_HO168, Q_HO171, Q_HO174, Q_HO177, Q_HO180, Q_HO183, Q_HO186, Q_HO189, Q_HO192, Q_HO195, Q_X33_⟩ hb_ hon hoff
                    refine ⟨_, rfl, fun K hK => ?_⟩
                    have e94 : a.tmps[94]? = some (v191) := by rw [ha]; exact putSel_on (e := (31, 94, v191)) 21 rfl rfl (hon 31 (by kernel_rfl)) rfl
                    replace ha := Aside0.mk ha
                    have HO_161007 := Aside0.mk Q_HO_161007
                    have HO_161008 := Aside0.mk Q_HO_161008
                    have BK160 := Aside0.mk Q_BK160
                    have HB := Aside0.mk Q_HB
                    have HO168 := Aside0.mk (Q_HO168 (hon 2 (by kernel_rfl)))
                    have HO171 := Aside0.mk (Q_HO171 (hon 5 (by kernel_rfl)))
                    have HO174 := Aside0.mk (Q_HO174 (hon 8 (by kernel_rfl)))
                    have HO177 := Aside0.mk (Q_HO177 (hon 11 (by kernel_rfl)))
                    have HO180 := Aside0.mk (Q_HO180 (hon 19 (by kernel_rfl)))
                    have HO183 := Aside0.mk (Q_HO183 (hon 22 (by kernel_rfl)))
                    have HO186 := Aside0.mk (Q_HO186 (hon 23 (by kernel_rfl)))
                    have HO189 := Aside0.mk (Q_HO189 (hon 26 (by kernel_rfl)))
                    have HO192 := Aside0.mk (Q_HO192 (hon 31 (by kernel_rfl)) hb_)
                    obtain ⟨Ao66, co66, eo66⟩ := Kd.N_slice HO192.out
                    (first | subst eo66 | (injection eo66 with f1_ f2_ f3_; have f4_ := f1_.symm; have f5_ := f3_.symm; clear f1_ f2_ f3_; subst f4_; subst f5_))
                    refine goes_ Try.func48 (by kernel_rfl) rfl #[.slice Ao66 y190.length co66] (by rfl) rfl rfl (by first | (simp only [List.map_toArray, List.map_cons, List.map_nil, Act.eval, Array.getD_eq_getD_getElem?, Option.getD_some, e94]; done) | (simp only [List.map_toArray, List.map_cons, List.map_nil, Act.eval, Array.getD_eq_getD_getElem?, Option.getD_some, e94]; rfl)) ?_
                    with_reducible refine (word_Join.calls kj3 _ _ y190 t193 _ ?side1 ?side2 A34.out).mono ?_
                    (case side1 => repeat (first | exact (Kd.N_reads' HO192.out).2.2 | (with_reducible refine Kd.C_alloc ?_ _) | (with_reducible refine Kd.C_drewN ?_ _) | (with_reducible refine Kd.C_drew ?_)))
                    (case side2 => exact (Kd.N_reads' HO192.out).2.1)
                    rintro e w67 ⟨v194, rfl, ho0, hb⟩
                    refine ⟨_, rfl, ?_⟩
                    have n0_ := Aside0.mk (Kd.V_elder' (by (with_reducible repeat (first | apply Kd.V_alloc | apply Kd.V_drewN | apply Kd.V_drew)); exact HO_161007.out) (Kd.R_base ho0) hb)
                    have n1_ := Aside0.mk (Kd.V_elder' (by (with_reducible repeat (first | apply Kd.V_alloc | apply Kd.V_drewN | apply Kd.V_drew)); exact HO_161008.out) (Kd.R_base ho0) hb)
                    have n2_ := Aside0.mk (Kd.R_elder' (by (with_reducible repeat (first | apply Kd.R_alloc | apply Kd.R_drewN | apply Kd.R_drew)); exact HO168.out) (Kd.R_base ho0) hb)
                    have n3_ := Aside0.mk (Kd.R_elder' (by (with_reducible repeat (first | apply Kd.R_alloc | apply Kd.R_drewN | apply Kd.R_drew)); exact HO171.out) (Kd.R_base ho0) hb)
                    have n4_ := Aside0.mk (Kd.R_elder' (by (with_reducible repeat (first | apply Kd.R_alloc | apply Kd.R_drewN | apply Kd.R_drew)); exact HO174.out) (Kd.R_base ho0) hb)
                    have n5_ := Aside0.mk (Kd.R_elder' (by (with_reducible repeat (first | apply Kd.R_alloc | apply Kd.R_drewN | apply Kd.R_drew)); exact HO177.out) (Kd.R_base ho0) hb)
                    have n6_ := Aside0.mk (Kd.R_elder' (by (with_reducible repeat (first | apply Kd.R_alloc | apply Kd.R_drewN | apply Kd.R_drew)); exact HO180.out) (Kd.R_base ho0) hb)
                    have n7_ := Aside0.mk (Kd.R_elder' (by (with_reducible repeat (first | apply Kd.R_alloc | apply Kd.R_drewN | apply Kd.R_drew)); exact HO183.out) (Kd.R_base ho0) hb)
                    have n8_ := Aside0.mk (Kd.R_elder' (by (with_reducible repeat (first | apply Kd.R_alloc | apply Kd.R_drewN | apply Kd.R_drew)); exact HO186.out) (Kd.R_base ho0) hb)
                    have n9_ := Aside0.mk (Kd.R_elder' (by (with_reducible repeat (first | apply Kd.R_alloc | apply Kd.R_drewN | apply Kd.R_drew)); exact HO189.out) (Kd.R_base ho0) hb)
                    have n10_ := Aside0.mk (Kd.N_elder' (by (with_reducible repeat (first | apply Kd.N_alloc | apply Kd.N_drewN | apply Kd.N_drew)); exact HO192.out) (Kd.R_base ho0) hb)
                    have n11_ := Aside0.mk (Kd.R_lower (Kd.R_new' (Kd.R_new' (Kd.R_new' (Kd.R_new' (Kd.R_new' (Kd.R_new' (Kd.R_new' (Kd.R_new' (Kd.R_newM (M := fun k_ => (w.heap.size ≤ k_)) ho0 (below_size (by repeat (first | (with_reducible first | exact HB.out | apply below_alloc | apply pw_below_drewN | apply below_drew1 | refine below_set ?_ GE160.out) | exact HB.out))) (fun k_ h_ => h_)) (Kd.R_lt (by (with_reducible repeat (first | apply Kd.R_alloc | apply Kd.R_drewN | apply Kd.R_drew)); exact HO168.out))) (Kd.R_lt (by (with_reducible repeat (first | apply Kd.R_alloc | apply Kd.R_drewN | apply Kd.R_drew)); exact HO171.out))) (Kd.R_lt (by (with_reducible repeat (first | apply Kd.R_alloc | apply Kd.R_drewN | apply Kd.R_drew)); exact HO174.out))) (Kd.R_lt (by (with_reducible repeat (first | apply Kd.R_alloc | apply Kd.R_drewN | apply Kd.R_drew)); exact HO177.out))) (Kd.R_lt (by (with_reducible repeat (first | apply Kd.R_alloc | apply Kd.R_drewN | apply Kd.R_drew)); exact HO180.out))) (Kd.R_lt (by (with_reducible repeat (first | apply Kd.R_alloc | apply Kd.R_drewN | apply Kd.R_drew)); exact HO183.out))) (Kd.R_lt (by (with_reducible repeat (first | apply Kd.R_alloc | apply Kd.R_drewN | apply Kd.R_drew)); exact HO186.out))) (Kd.R_lt (by (with_reducible repeat (first | apply Kd.R_alloc | apply Kd.R_drewN | apply Kd.R_drew)); exact HO189.out))) (below_size (by repeat (first | (with_reducible first | exact HB.out | apply below_alloc | apply pw_below_drewN | apply below_drew1 | refine below_set ?_ GE160.out) | exact HB.out))))
                    have n12_ := Aside0.mk (blk_below (g := gb160) (o := .cells #[.int .i64 a2_0, .int .i64 a2_1, .int .u32 a2_2, .int .u32 a2_3, .int .i64 a2_4, .int .i64 a2_5, .int .i64 a2_6, .slice A2_7 l2_7.length c2_7, .slice A2_8 l2_8.length c2_8] 27 (0, 0)) (by (with_reducible repeat (first | refine blk_drewN ?_ _ | refine blk_drew ?_ | refine blk_alloc ?_ _)); exact BK160.out) hb)
                    have n13_ := Aside0.mk (below_step (by repeat (first | (with_reducible first | exact HB.out | apply below_alloc | apply pw_below_drewN | apply below_drew1 | refine below_set ?_ GE160.out) | exact HB.out)) hb)
                    clear HO_161007
                    clear HO_161008
                    clear HO168
                    clear HO171
                    clear HO174
                    clear HO177
                    clear HO180
                    clear HO183
                    clear HO186
                    clear HO189
                    clear HO192
                    clear BK160
                    clear HB
                    have HO_161007 := n0_
                    have HO_161008 := n1_
                    have HO168 := n2_
                    have HO171 := n3_
                    have HO174 := n4_
                    have HO177 := n5_
                    have HO180 := n6_
                    have HO183 := n7_
                    have HO186 := n8_
                    have HO189 := n9_
                    have HO192 := n10_
                    have HO195 := n11_
                    have BK160 := n12_
                    have HB := n13_
                    clear n0_ n1_ n2_ n3_ n4_ n5_ n6_ n7_ n8_ n9_ n10_ n11_ n12_ n13_
                    (try clear hb)
                    (try clear hb2)
                    (try clear hk)
                    (try clear hi)
                    (try clear ho0)
                    refine hK.out _ _ ⟨v167, v170, v173, v176, v179, v182, v185, v188, .slice Ao66 y190.length co66, v194, m33_, (by rw [ha.out]; exact putSel_upk 22 hb_ rfl rfl rfl), (by first | ((with_reducible repeat (first | apply Kd.V_alloc | apply Kd.V_drewN | apply Kd.V_drew)); exact Kd.V_mono HO_161007.out (fun _ hk => by first | exact ⟨hk.1.1, ⟨hk.1.2.1, ⟨hk.1.2.2.1, ⟨hk.1.2.2.2.1, ⟨hk.1.2.2.2.2.1, ⟨hk.1.2.2.2.2.2.1, ⟨hk.1.2.2.2.2.2.2.1, ⟨hk.1.2.2.2.2.2.2.2.1, ⟨hk.1.2.2.2.2.2.2.2.2.1, ⟨hk.2, hk.1.2.2.2.2.2.2.2.2.2.2⟩⟩⟩⟩⟩⟩⟩⟩⟩⟩ | exact okw hk)) | ((with_reducible repeat (first | apply Kd.V_alloc | apply Kd.V_drewN | apply Kd.V_drew)); exact Kd.V_mono HO_161007.out (fun _ hk => by first | trivial | exact hk | exact hk.1 | exact hk.2 | exact hk.1.1 | exact okw hk))), (by first | ((with_reducible repeat (first | apply Kd.V_alloc | apply Kd.V_drewN | apply Kd.V_drew)); exact Kd.V_mono HO_161008.out (fun _ hk => by first | exact ⟨hk.1.1, ⟨hk.1.2.1, ⟨hk.1.2.2.1, ⟨hk.1.2.2.2.1, ⟨hk.1.2.2.2.2.1, ⟨hk.1.2.2.2.2.2.1, ⟨hk.1.2.2.2.2.2.2.1, ⟨hk.1.2.2.2.2.2.2.2.1, ⟨hk.1.2.2.2.2.2.2.2.2.1, ⟨hk.2, hk.1.2.2.2.2.2.2.2.2.2.2⟩⟩⟩⟩⟩⟩⟩⟩⟩⟩ | exact okw hk)) | ((with_reducible repeat (first | apply Kd.V_alloc | apply Kd.V_drewN | apply Kd.V_drew)); exact Kd.V_mono HO_161008.out (fun _ hk => by first | trivial | exact hk | exact hk.1 | exact hk.2 | exact hk.1.1 | exact okw hk))), (by (with_reducible repeat (first | refine blk_drewN ?_ _ | refine blk_drew ?_ | refine blk_alloc ?_ _)); exact BK160.out), (by repeat (first | (with_reducible first | exact HB.out | apply below_alloc | apply pw_below_drewN | apply below_drew1 | refine below_set ?_ GE160.out) | exact HB.out)), fun _ => (by first | ((with_reducible repeat (first | apply Kd.R_alloc | apply Kd.R_drewN | apply Kd.R_drew)); exact Kd.R_mono HO168.out (fun _ hk => by first | exact ⟨hk.1.1, ⟨hk.1.2.1, ⟨hk.1.2.2.1, ⟨hk.1.2.2.2.1, ⟨hk.1.2.2.2.2.1, ⟨hk.1.2.2.2.2.2.1, ⟨hk.1.2.2.2.2.2.2.1, ⟨hk.1.2.2.2.2.2.2.2, hk.2⟩⟩⟩⟩⟩⟩⟩⟩ | exact okw hk)) | ((with_reducible repeat (first | apply Kd.R_alloc | apply Kd.R_drewN | apply Kd.R_drew)); exact Kd.R_mono HO168.out (fun _ hk => by first | trivial | exact hk | exact hk.1 | exact hk.2 | exact hk.1.1 | exact okw hk))), fun _ => (by first | ((with_reducible repeat (first | apply Kd.R_alloc | apply Kd.R_drewN | apply Kd.R_drew)); exact Kd.R_mono HO171.out (fun _ hk => by first | exact ⟨hk.1.1, ⟨hk.1.2.1, ⟨hk.1.2.2.1, ⟨hk.1.2.2.2.1, ⟨hk.1.2.2.2.2.1, ⟨hk.1.2.2.2.2.2.1, ⟨hk.1.2.2.2.2.2.2.1, ⟨hk.1.2.2.2.2.2.2.2, hk.2⟩⟩⟩⟩⟩⟩⟩⟩ | exact okw hk)) | ((with_reducible repeat (first | apply Kd.R_alloc | apply Kd.R_drewN | apply Kd.R_drew)); exact Kd.R_mono HO171.out (fun _ hk => by first | trivial | exact hk | exact hk.1 | exact hk.2 | exact hk.1.1 | exact okw hk))), fun _ => (by first | ((with_reducible repeat (first | apply Kd.R_alloc | apply Kd.R_drewN | apply Kd.R_drew)); exact Kd.R_mono HO174.out (fun _ hk => by first | exact ⟨hk.1.1, ⟨hk.1.2.1, ⟨hk.1.2.2.1, ⟨hk.1.2.2.2.1, ⟨hk.1.2.2.2.2.1, ⟨hk.1.2.2.2.2.2.1, ⟨hk.1.2.2.2.2.2.2.1, ⟨hk.1.2.2.2.2.2.2.2, hk.2⟩⟩⟩⟩⟩⟩⟩⟩ | exact okw hk)) | ((with_reducible repeat (first | apply Kd.R_alloc | apply Kd.R_drewN | apply Kd.R_drew)); exact Kd.R_mono HO174.out (fun _ hk => by first | trivial | exact hk | exact hk.1 | exact hk.2 | exact hk.1.1 | exact okw hk))), fun _ => (by first | ((with_reducible repeat (first | apply Kd.R_alloc | apply Kd.R_drewN | apply Kd.R_drew)); exact Kd.R_mono HO177.out (fun _ hk => by first | exact ⟨hk.1.1, ⟨hk.1.2.1, ⟨hk.1.2.2.1, ⟨hk.1.2.2.2.1, ⟨hk.1.2.2.2.2.1, ⟨hk.1.2.2.2.2.2.1, ⟨hk.1.2.2.2.2.2.2.1, ⟨hk.1.2.2.2.2.2.2.2, hk.2⟩⟩⟩⟩⟩⟩⟩⟩ | exact okw hk)) | ((with_reducible repeat (first | apply Kd.R_alloc | apply Kd.R_drewN | apply Kd.R_drew)); exact Kd.R_mono HO177.out (fun _ hk => by first | trivial | exact hk | exact hk.1 | exact hk.2 | exact hk.1.1 | exact okw hk))), fun _ => (by first | ((with_reducible repeat (first | apply Kd.R_alloc | apply Kd.R_drewN | apply Kd.R_drew)); exact Kd.R_mono HO180.out (fun _ hk => by first | exact ⟨hk.1.1, ⟨hk.1.2.1, ⟨hk.1.2.2.1, ⟨hk.1.2.2.2.1, ⟨hk.1.2.2.2.2.1, ⟨hk.1.2.2.2.2.2.1, ⟨hk.1.2.2.2.2.2.2.1, ⟨hk.1.2.2.2.2.2.2.2, hk.2⟩⟩⟩⟩⟩⟩⟩⟩ | exact okw hk)) | ((with_reducible repeat (first | apply Kd.R_alloc | apply Kd.R_drewN | apply Kd.R_drew)); exact Kd.R_mono HO180.out (fun _ hk => by first | trivial | exact hk | exact hk.1 | exact hk.2 | exact hk.1.1 | exact okw hk))), fun _ => (by first | ((with_reducible repeat (first | apply Kd.R_alloc | apply Kd.R_drewN | apply Kd.R_drew)); exact Kd.R_mono HO183.out (fun _ hk => by first | exact ⟨hk.1.1, ⟨hk.1.2.1, ⟨hk.1.2.2.1, ⟨hk.1.2.2.2.1, ⟨hk.1.2.2.2.2.1, ⟨hk.1.2.2.2.2.2.1, ⟨hk.1.2.2.2.2.2.2.1, ⟨hk.1.2.2.2.2.2.2.2, hk.2⟩⟩⟩⟩⟩⟩⟩⟩ | exact okw hk)) | ((with_reducible repeat (first | apply Kd.R_alloc | apply Kd.R_drewN | apply Kd.R_drew)); exact Kd.R_mono HO183.out (fun _ hk => by first | trivial | exact hk | exact hk.1 | exact hk.2 | exact hk.1.1 | exact okw hk))), fun _ => (by first | ((with_reducible repeat (first | apply Kd.R_alloc | apply Kd.R_drewN | apply Kd.R_drew)); exact Kd.R_mono HO186.out (fun _ hk => by first | exact ⟨hk.1.1, ⟨hk.1.2.1, ⟨hk.1.2.2.1, ⟨hk.1.2.2.2.1, ⟨hk.1.2.2.2.2.1, ⟨hk.1.2.2.2.2.2.1, ⟨hk.1.2.2.2.2.2.2.1, ⟨hk.1.2.2.2.2.2.2.2, hk.2⟩⟩⟩⟩⟩⟩⟩⟩ | exact okw hk)) | ((with_reducible repeat (first | apply Kd.R_alloc | apply Kd.R_drewN | apply Kd.R_drew)); exact Kd.R_mono HO186.out (fun _ hk => by first | trivial | exact hk | exact hk.1 | exact hk.2 | exact hk.1.1 | exact okw hk))), fun _ => (by first | ((with_reducible repeat (first | apply Kd.R_alloc | apply Kd.R_drewN | apply Kd.R_drew)); exact Kd.R_mono HO189.out (fun _ hk => by first | exact ⟨hk.1.1, ⟨hk.1.2.1, ⟨hk.1.2.2.1, ⟨hk.1.2.2.2.1, ⟨hk.1.2.2.2.2.1, ⟨hk.1.2.2.2.2.2.1, ⟨hk.1.2.2.2.2.2.2.1, ⟨hk.1.2.2.2.2.2.2.2, hk.2⟩⟩⟩⟩⟩⟩⟩⟩ | exact okw hk)) | ((with_reducible repeat (first | apply Kd.R_alloc | apply Kd.R_drewN | apply Kd.R_drew)); exact Kd.R_mono HO189.out (fun _ hk => by first | trivial | exact hk | exact hk.1 | exact hk.2 | exact hk.1.1 | exact okw hk))), fun _ h1_ => absurd ((up_self b 32).symm.trans h1_) (by decide), fun _ => (by first | ((with_reducible repeat (first | apply Kd.R_alloc | apply Kd.R_drewN | apply Kd.R_drew)); exact Kd.R_mono HO195.out (fun _ hk => by first | exact ⟨hk.1.1.1.1.1.1.1.1.1, ⟨hk.1.1.1.1.1.1.1.2, ⟨hk.1.1.1.1.1.1.2, ⟨hk.1.1.1.1.1.2, ⟨hk.1.1.1.1.2, ⟨hk.1.1.1.2, ⟨hk.1.1.2, ⟨hk.1.2, hk.2⟩⟩⟩⟩⟩⟩⟩⟩ | exact okw hk)) | ((with_reducible repeat (first | apply Kd.R_alloc | apply Kd.R_drewN | apply Kd.R_drew)); exact Kd.R_mono HO195.out (fun _ hk => by first | trivial | exact hk | exact hk.1 | exact hk.2 | exact hk.1.1 | exact okw hk))), fun h0_ => absurd ((hoff 33 (by kernel_rfl)).symm.trans h0_) (by decide)⟩
                  refine steps_cons ?_ ?_
                  · rintro b a w' ⟨v167, v170, v173, v176, v179, v182, v185, v188, v191, v194, m33_, ha, Q_HO_161007, Q_HO_161008, Q_BK160, Q_HB, Q_HO168, Q_HO171, Q_HO174, Q_HO177, Q_HO180, Q_HO183, Q_HO186, Q_HO189, Q_HO192, Q_HO195, Q_X33_⟩ hb_ hon hoff
                    refine ⟨_, rfl, fun K hK => ?_⟩
                    have e95 : a.tmps[95]? = some (v194) := by rw [ha]; exact putSel_on (e := (32, 95, v194)) 22 rfl rfl (hon 32 (by kernel_rfl)) rfl
                    replace ha := Aside0.mk ha
                    have HO_161007 := Aside0.mk Q_HO_161007
                    have HO_161008 := Aside0.mk Q_HO_161008
                    have BK160 := Aside0.mk Q_BK160
                    have HB := Aside0.mk Q_HB
                    have HO168 := Aside0.mk (Q_HO168 (hon 2 (by kernel_rfl)))
                    have HO171 := Aside0.mk (Q_HO171 (hon 5 (by kernel_rfl)))
                    have HO174 := Aside0.mk (Q_HO174 (hon 8 (by kernel_rfl)))
                    have HO177 := Aside0.mk (Q_HO177 (hon 11 (by kernel_rfl)))
                    have HO180 := Aside0.mk (Q_HO180 (hon 19 (by kernel_rfl)))
                    have HO183 := Aside0.mk (Q_HO183 (hon 22 (by kernel_rfl)))
                    have HO186 := Aside0.mk (Q_HO186 (hon 23 (by kernel_rfl)))
                    have HO189 := Aside0.mk (Q_HO189 (hon 26 (by kernel_rfl)))
                    have HO195 := Aside0.mk (Q_HO195 (hon 32 (by kernel_rfl)))
                    refine value_ (w1 := w') (v := v194) (by rfl) rfl ?_ ?_
                    · go_simp
                      (try simp only [i64_w])
                      try rfl
                    refine hK.out _ _ ⟨v167, v170, v173, v176, v179, v182, v185, v188, v191, v194, (v194), (by rw [ha.out]; exact putSel_upk 23 hb_ rfl rfl rfl), Q_HO_161007, Q_HO_161008, Q_BK160, Q_HB, Q_HO168, Q_HO171, Q_HO174, Q_HO177, Q_HO180, Q_HO183, Q_HO186, Q_HO189, fun _ h1_ => absurd ((hon 32 (by kernel_rfl)).symm.trans h1_) (by decide), Q_HO195, fun _ => rfl⟩
                  exact steps_nil
                rintro b a w67 hall ⟨v167, v170, v173, v176, v179, v182, v185, v188, v191, v194, m33_, ha, Q_HO_161007, Q_HO_161008, Q_BK160, Q_HB, Q_HO168, Q_HO171, Q_HO174, Q_HO177, Q_HO180, Q_HO183, Q_HO186, Q_HO189, Q_HO192, Q_HO195, Q_X33_⟩
                clear BK160 HB HO_161007 HO_161008
                have hb1_ := hall 1 (by kernel_rfl)
                have hb2_ := hall 2 (by kernel_rfl)
                have hb4_ := hall 4 (by kernel_rfl)
                have hb5_ := hall 5 (by kernel_rfl)
                have hb7_ := hall 7 (by kernel_rfl)
                have hb8_ := hall 8 (by kernel_rfl)
                have hb10_ := hall 10 (by kernel_rfl)
                have hb11_ := hall 11 (by kernel_rfl)
                have hb13_ := hall 13 (by kernel_rfl)
                have hb14_ := hall 14 (by kernel_rfl)
                have hb15_ := hall 15 (by kernel_rfl)
                have hb17_ := hall 17 (by kernel_rfl)
                have hb18_ := hall 18 (by kernel_rfl)
                have hb19_ := hall 19 (by kernel_rfl)
                have hb21_ := hall 21 (by kernel_rfl)
                have hb22_ := hall 22 (by kernel_rfl)
                have hb23_ := hall 23 (by kernel_rfl)
                have hb25_ := hall 25 (by kernel_rfl)
                have hb26_ := hall 26 (by kernel_rfl)
                have hb28_ := hall 28 (by kernel_rfl)
                have hb30_ := hall 30 (by kernel_rfl)
                have hb31_ := hall 31 (by kernel_rfl)
                have hb32_ := hall 32 (by kernel_rfl)
                have hb33_ := hall 33 (by kernel_rfl)
                subst ha
                obtain rfl := Q_X33_ hb33_
                simp only [putSel, hb1_, hb2_, hb4_, hb5_, hb7_, hb8_, hb10_, hb11_, hb13_, hb14_, hb15_, hb17_, hb18_, hb19_, hb21_, hb22_, hb23_, hb25_, hb26_, hb28_, hb30_, hb31_, hb32_, hb33_, if_true, Act.put, List.setIfInBounds_toArray, List.set_cons_zero, List.set_cons_succ]
                have HO_161007 := Aside0.mk Q_HO_161007
                clear Q_HO_161007
                have HO_161008 := Aside0.mk Q_HO_161008
                clear Q_HO_161008
                have BK160 := Aside0.mk Q_BK160
                clear Q_BK160
                have HB := Aside0.mk Q_HB
                clear Q_HB
                have HO168 := Aside0.mk (Q_HO168 hb2_)
                clear Q_HO168
                have HO171 := Aside0.mk (Q_HO171 hb5_)
                clear Q_HO171
                have HO174 := Aside0.mk (Q_HO174 hb8_)
                clear Q_HO174
                have HO177 := Aside0.mk (Q_HO177 hb11_)
                clear Q_HO177
                have HO180 := Aside0.mk (Q_HO180 hb19_)
                clear Q_HO180
                have HO183 := Aside0.mk (Q_HO183 hb22_)
                clear Q_HO183
                have HO186 := Aside0.mk (Q_HO186 hb23_)
                clear Q_HO186
                have HO189 := Aside0.mk (Q_HO189 hb26_)
                clear Q_HO189
                clear Q_HO192
                have HO195 := Aside0.mk (Q_HO195 hb32_)
                clear Q_HO195
                clear hall hb1_ hb2_ hb4_ hb5_ hb7_ hb8_ hb10_ hb11_ hb13_ hb14_ hb15_ hb17_ hb18_ hb19_ hb21_ hb22_ hb23_ hb25_ hb26_ hb28_ hb30_ hb31_ hb32_ hb33_
                obtain ⟨Ao68, co68, eo68⟩ := Kd.R_slice HO195.out
                subst eo68
                try go_upto_region 5 with fail
                have qL_ : (17 : Int) < (t193.length : Int) := of_decide_eq_true (by first | (with_reducible assumption) | assumption)
                obtain ⟨go40, co40, eo40, gb40, gl40, cl40, HG40⟩ := Kd.R_form HO195.out (by omega); (first | cases eo40 | (injection eo40 with ea_ en_ ec_; (first | subst ea_ | (injection ea_ with ea_; subst ea_)); subst ec_; clear en_)); have GB40 := Aside0.mk gb40; have GG40 := Aside0.mk HG40; clear gb40 gl40 HG40
                have n0_ := Aside0.mk (Kd.R_drew HO195.out)
                have n1_ := Aside0.mk (blk_drew BK160.out)
                have n2_ := Aside0.mk (below_drew1 HB.out)
                clear HO195 BK160 HB
                have HO195 := n0_
                have BK160 := n1_
                have HB := n2_
                clear n0_ n1_ n2_
                refine start_ (n := 12) (S := fun w' => True) (ds := []) #[false, false, false, false, false, false, false, false, false, false, false, false] (by kernel_rfl) rfl rfl trivial (fun hHeld => ?_)
                generalize w67.drew = w67 at HO195 BK160 HB hHeld ⊢
                have n0_ := Aside0.mk (Kd.R_mono (ok' := (fun k_ => (w.heap.size ≤ k_))) HO195.out (fun _ hk => by exact okw hk))
                clear HO195
                have HO195 := n0_
                clear n0_
                have qs_ : (16 : Int) ≤ (t193.length : Int) := by omega
                have qc_ : t193.length ≤ co68 := (Kd.R_reads' HO195.out).2.1
                have qd_ : ¬ (co68 = 16) := by omega
                have qe_ : ¬ (16 = co68) := by omega
                have qf_ : ¬ (co68 ≤ 16) := by omega
                have qg_ : (16 < co68) = True := eq_true (by omega)
                have qh_ : ¬ (co68 - 16 = 0) := by omega
                refine pure_ (i := 0) (N := some 96) (v := ?_) (a' := ?_) #[true, false, false, false, false, false, false, false, false, false, false, false] rfl rfl (by kernel_rfl) (fun _ _ _ h => h) (Or.inl ⟨by rfl, ?_⟩) ?_ ?_
                rotate_left
                · intro w'
                  go_simp
                  with_reducible rfl
                rotate_left
                · simp only [Act.put, List.setIfInBounds_toArray, List.set_cons_zero, List.set_cons_succ, i64_w, i32_w]
                  rfl
                refine pure_ (i := 1) (N := some 97) (v := ?_) (a' := ?_) #[true, true, false, false, false, false, false, false, false, false, false, false] rfl rfl (by kernel_rfl) (fun _ _ _ h => h) (Or.inl ⟨by rfl, ?_⟩) ?_ ?_
                rotate_left
                · intro w'
                  go_simp
                  with_reducible rfl
                rotate_left
                · simp only [Act.put, List.setIfInBounds_toArray, List.set_cons_zero, List.set_cons_succ, i64_w, i32_w]
                  rfl
                refine pure_ (i := 2) (N := some 98) (v := ?_) (a' := ?_) #[true, true, true, false, false, false, false, false, false, false, false, false] rfl rfl (by kernel_rfl) (fun _ _ _ h => h) (Or.inl ⟨by rfl, ?_⟩) ?_ ?_
                rotate_left
                · intro w'
                  go_simp
                  with_reducible rfl
                rotate_left
                · simp only [Act.put, List.setIfInBounds_toArray, List.set_cons_zero, List.set_cons_succ, i64_w, i32_w]
                  rfl
                refine pure_ (i := 3) (N := some 99) (v := ?_) (a' := ?_) #[true, true, true, true, false, false, false, false, false, false, false, false] rfl rfl (by kernel_rfl) (fun _ _ _ h => h) (Or.inl ⟨by rfl, ?_⟩) ?_ ?_
                rotate_left
                · intro w'
                  go_simp
                  with_reducible rfl
                rotate_left
                · simp only [Act.put, List.setIfInBounds_toArray, List.set_cons_zero, List.set_cons_succ, i64_w, i32_w]
                  rfl
                refine pure_ (i := 4) (N := some 100) (v := ?_) (a' := ?_) #[true, true, true, true, true, false, false, false, false, false, false, false] rfl rfl (by kernel_rfl) (fun _ _ _ h => h) (Or.inl ⟨by rfl, ?_⟩) ?_ ?_
                rotate_left
                · intro w'
                  go_simp
                  with_reducible rfl
                rotate_left
                · simp only [Act.put, List.setIfInBounds_toArray, List.set_cons_zero, List.set_cons_succ, i64_w, i32_w]
                  rfl
                refine pure_ (i := 5) (N := some 101) (v := ?_) (a' := ?_) #[true, true, true, true, true, true, false, false, false, false, false, false] rfl rfl (by kernel_rfl) (fun _ _ _ h => h) (Or.inl ⟨by rfl, ?_⟩) ?_ ?_
                rotate_left
                · intro w'
                  go_simp
                  with_reducible rfl
                rotate_left
                · simp only [Act.put, List.setIfInBounds_toArray, List.set_cons_zero, List.set_cons_succ, i64_w, i32_w]
                  rfl
                refine pure_ (i := 7) (N := some 103) (v := ?_) (a' := ?_) #[true, true, true, true, true, true, false, true, false, false, false, false] rfl rfl (by kernel_rfl) (fun _ _ _ h => h) (Or.inl ⟨by rfl, ?_⟩) ?_ ?_
                rotate_left
                · intro w'
                  go_simp
                  with_reducible rfl
                rotate_left
                · simp only [Act.put, List.setIfInBounds_toArray, List.set_cons_zero, List.set_cons_succ, i64_w, i32_w]
                  rfl
                refine chain_ [6, 8, 9, 10, 11] rfl (by kernel_rfl) (by kernel_rfl) ?_
                simp only [List.filterMap_cons, List.filterMap_nil, List.getElem?_toArray, List.getElem?_cons_succ, List.getElem?_cons_zero]
                ((with_reducible refine gate_callee (f := 52) rfl ?_); refine goesL_ (some 102) rfl rfl Try.func52 (by kernel_rfl) rfl #[.int .u32 a0, .int .u32 a1, .int .i64 6, .int .i64 (t193.length : Int)] rfl (by (try simp only [List.map_toArray, List.map_cons, List.map_nil]); first | done | rfl | (simp only [List.length_drop, List.length_take]; rfl)) ?_; (with_reducible refine (sum_Pseudo.calls kj3 a0 a1 6 (t193.length : Int) t196 _ A35.out).mono ?_); rintro e w69 ⟨v197, rfl, ho0, hb⟩; refine ⟨_, rfl, ?_⟩; have n0_ := Aside0.mk (Kd.R_elder' (by (with_reducible repeat (first | apply Kd.R_alloc | apply Kd.R_drewN | apply Kd.R_drew)); exact HO195.out) (Kd.R_base ho0) hb); have n1_ := Aside0.mk (Kd.R_lower (Kd.R_new' (Kd.R_newM (M := fun k_ => (w.heap.size ≤ k_)) ho0 (below_size (by repeat (first | (with_reducible first | exact HB.out | apply below_alloc | apply pw_below_drewN | apply below_drew1 | refine below_set ?_ GE160.out) | exact HB.out))) (fun k_ h_ => h_)) (Kd.R_lt (by (with_reducible repeat (first | apply Kd.R_alloc | apply Kd.R_drewN | apply Kd.R_drew)); exact HO195.out))) (below_size (by repeat (first | (with_reducible first | exact HB.out | apply below_alloc | apply pw_below_drewN | apply below_drew1 | refine below_set ?_ GE160.out) | exact HB.out)))); have n2_ := Aside0.mk (blk_below (g := gb160) (o := .cells #[.int .i64 a2_0, .int .i64 a2_1, .int .u32 a2_2, .int .u32 a2_3, .int .i64 a2_4, .int .i64 a2_5, .int .i64 a2_6, .slice A2_7 l2_7.length c2_7, .slice A2_8 l2_8.length c2_8] 27 (0, 0)) (by (with_reducible repeat (first | refine blk_drewN ?_ _ | refine blk_drew ?_ | refine blk_alloc ?_ _)); exact BK160.out) hb); have n3_ := Aside0.mk (below_step (by repeat (first | (with_reducible first | exact HB.out | apply below_alloc | apply pw_below_drewN | apply below_drew1 | refine below_set ?_ GE160.out) | exact HB.out)) hb); clear HO195; clear BK160; clear HB; have HO195 := n0_; have HO198 := n1_; have BK160 := n2_; have HB := n3_; clear n0_ n1_ n2_ n3_; (try clear hb); (try clear hb2); (try clear hk); (try clear hi); (try clear ho0); obtain ⟨Ao70, co70, eo70⟩ := Kd.R_slice HO198.out; subst eo70)
                (try simp only [Act.put, List.setIfInBounds_toArray, List.set_cons_zero, List.set_cons_succ])
                ((with_reducible refine gate_dst (N := 104) rfl ?_); (try (refine gate_guard (by rfl) ?_; dsimp only)); refine Kd.N_lit (Kd.slice 5 (Kd.int .u8)) _ 25 ?hg (N' := 104) ?hd (xs := ([t196, t193] : List (List Int))) (inner := [.slice Ao70 t196.length co70, .slice (some ⟨go40, 0, none⟩) t193.length co68]) (ok := (fun k_ => ((P2_7_ k_ ∨ P2_8_ k_) ∨ w.heap.size ≤ k_) ∧ k_ ≠ gb160)) (okp := (fun k_ => ((P2_7_ k_ ∨ P2_8_ k_) ∨ w.heap.size ≤ k_) ∧ k_ ≠ gb160)) ?hr ?hp (fun _ hk => hk) ((show ∀ k_, w69.heap.size ≤ k_ → (fun k_ => ((P2_7_ k_ ∨ P2_8_ k_) ∨ w.heap.size ≤ k_) ∧ k_ ≠ gb160) k_ from fun k_ hk => ⟨(.inr (Nat.le_trans (below_size (by repeat (first | (with_reducible first | exact HB.out | apply below_alloc | apply pw_below_drewN | apply below_drew1 | refine below_set ?_ GE160.out) | exact HB.out))) hk)), Kd.freshB (g := gb160) (o := .cells #[.int .i64 a2_0, .int .i64 a2_1, .int .u32 a2_2, .int .u32 a2_3, .int .i64 a2_4, .int .i64 a2_5, .int .i64 a2_6, .slice A2_7 l2_7.length c2_7, .slice A2_8 l2_8.length c2_8] 27 (0, 0)) (by (with_reducible repeat (first | refine blk_drewN ?_ _ | refine blk_drew ?_ | refine blk_alloc ?_ _)); exact BK160.out) k_ hk⟩) _ (Nat.le_refl _)) (Below.refl _ _) (Nat.le_refl _) (by simp) ?_; (case hd => rfl); (case hg => rfl); (case hr => first | (go_simp; done) | (go_simp; rfl)); (case hp => exact (Reps.one (show Kd.FK (Kd.slice 5 (Kd.int .u8)) _ _ t196 [.slice Ao70 t196.length co70] from (by first | exact Kd.FK_slice_mk (Kd.R_reads' (Kd.R_mono (ok' := (fun k_ => ((P2_7_ k_ ∨ P2_8_ k_) ∨ w.heap.size ≤ k_) ∧ k_ ≠ gb160)) (Kd.R_types (HO198.out) BK160.out (by decide)) (fun k_ hk => by first | exact ⟨(.inr (hk.1.1.1)), hk.2⟩ | exact okw hk))).2.1 (Kd.R_F (Kd.R_mono (ok' := (fun k_ => ((P2_7_ k_ ∨ P2_8_ k_) ∨ w.heap.size ≤ k_) ∧ k_ ≠ gb160)) (Kd.R_types (HO198.out) BK160.out (by decide)) (fun k_ hk => by first | exact ⟨(.inr (hk.1.1.1)), hk.2⟩ | exact okw hk))) | exact FK_slice_of (Kd.R_reads' (Kd.R_mono (ok' := (fun k_ => ((P2_7_ k_ ∨ P2_8_ k_) ∨ w.heap.size ≤ k_) ∧ k_ ≠ gb160)) (Kd.R_types (HO198.out) BK160.out (by decide)) (fun k_ hk => by first | exact ⟨(.inr (hk.1.1.1)), hk.2⟩ | exact okw hk))).1 (Kd.R_reads' (Kd.R_mono (ok' := (fun k_ => ((P2_7_ k_ ∨ P2_8_ k_) ∨ w.heap.size ≤ k_) ∧ k_ ≠ gb160)) (Kd.R_types (HO198.out) BK160.out (by decide)) (fun k_ hk => by first | exact ⟨(.inr (hk.1.1.1)), hk.2⟩ | exact okw hk))).2.1 (Kd.R_F (Kd.R_mono (ok' := (fun k_ => ((P2_7_ k_ ∨ P2_8_ k_) ∨ w.heap.size ≤ k_) ∧ k_ ≠ gb160)) (Kd.R_types (HO198.out) BK160.out (by decide)) (fun k_ hk => by first | exact ⟨(.inr (hk.1.1.1)), hk.2⟩ | exact okw hk))))) (Reps.one (show Kd.FK (Kd.slice 5 (Kd.int .u8)) _ _ t193 [.slice (some ⟨go40, 0, none⟩) t193.length co68] from (by first | exact Kd.FK_slice_mk (Kd.R_reads' (Kd.R_mono (ok' := (fun k_ => ((P2_7_ k_ ∨ P2_8_ k_) ∨ w.heap.size ≤ k_) ∧ k_ ≠ gb160)) (Kd.R_types (HO195.out) BK160.out (by decide)) (fun k_ hk => by first | exact ⟨(.inr (hk.1.1)), hk.2⟩ | exact okw hk))).2.1 (Kd.R_F (Kd.R_mono (ok' := (fun k_ => ((P2_7_ k_ ∨ P2_8_ k_) ∨ w.heap.size ≤ k_) ∧ k_ ≠ gb160)) (Kd.R_types (HO195.out) BK160.out (by decide)) (fun k_ hk => by first | exact ⟨(.inr (hk.1.1)), hk.2⟩ | exact okw hk))) | exact FK_slice_of (Kd.R_reads' (Kd.R_mono (ok' := (fun k_ => ((P2_7_ k_ ∨ P2_8_ k_) ∨ w.heap.size ≤ k_) ∧ k_ ≠ gb160)) (Kd.R_types (HO195.out) BK160.out (by decide)) (fun k_ hk => by first | exact ⟨(.inr (hk.1.1)), hk.2⟩ | exact okw hk))).1 (Kd.R_reads' (Kd.R_mono (ok' := (fun k_ => ((P2_7_ k_ ∨ P2_8_ k_) ∨ w.heap.size ≤ k_) ∧ k_ ≠ gb160)) (Kd.R_types (HO195.out) BK160.out (by decide)) (fun k_ hk => by first | exact ⟨(.inr (hk.1.1)), hk.2⟩ | exact okw hk))).2.1 (Kd.R_F (Kd.R_mono (ok' := (fun k_ => ((P2_7_ k_ ∨ P2_8_ k_) ∨ w.heap.size ≤ k_) ∧ k_ ≠ gb160)) (Kd.R_types (HO195.out) BK160.out (by decide)) (fun k_ hk => by first | exact ⟨(.inr (hk.1.1)), hk.2⟩ | exact okw hk))))) (Reps.none _ _)))); intro v200 w71 ho72 hb hg_ hnew_; clear hg_ hnew_; (first | rw [← Ny199.out] at ho72 | (simp only [Int.reduceToNat] at ho72; rw [← Ny199.out] at ho72)); have n0_ := Aside0.mk (Kd.R_below (by (with_reducible repeat (first | apply Kd.R_alloc | apply Kd.R_drewN | apply Kd.R_drew)); exact HO195.out) hb); have n1_ := Aside0.mk (Kd.R_below (by (with_reducible repeat (first | apply Kd.R_alloc | apply Kd.R_drewN | apply Kd.R_drew)); exact HO198.out) hb); have n2_ := Aside0.mk (Kd.N_lower ho72 (below_size (by repeat (first | (with_reducible first | exact HB.out | apply below_alloc | apply pw_below_drewN | apply below_drew1 | refine below_set ?_ GE160.out) | exact HB.out)))); have n3_ := Aside0.mk (blk_below (g := gb160) (o := .cells #[.int .i64 a2_0, .int .i64 a2_1, .int .u32 a2_2, .int .u32 a2_3, .int .i64 a2_4, .int .i64 a2_5, .int .i64 a2_6, .slice A2_7 l2_7.length c2_7, .slice A2_8 l2_8.length c2_8] 27 (0, 0)) (by (with_reducible repeat (first | refine blk_drewN ?_ _ | refine blk_drew ?_ | refine blk_alloc ?_ _)); exact BK160.out) hb); have n4_ := Aside0.mk (below_step (by repeat (first | (with_reducible first | exact HB.out | apply below_alloc | apply pw_below_drewN | apply below_drew1 | refine below_set ?_ GE160.out) | exact HB.out)) hb); clear HO195; clear HO198; clear BK160; clear HB; have HO195 := n0_; have HO198 := n1_; have HO201 := n2_; have BK160 := n3_; have HB := n4_; clear n0_ n1_ n2_ n3_ n4_; clear hb ho72; obtain ⟨Ao73, co73, eo73⟩ := Kd.N_slice HO201.out; subst eo73)
                (try simp only [Act.put, List.setIfInBounds_toArray, List.set_cons_zero, List.set_cons_succ])
                ((with_reducible refine gate_callee (f := 51) rfl ?_); refine goesL_ (some 105) rfl rfl Try.func51 (by kernel_rfl) rfl #[.slice Ao73 y199.length co73] rfl (by (try simp only [List.map_toArray, List.map_cons, List.map_nil]); first | done | rfl | (simp only [List.length_drop, List.length_take]; rfl)) ?_; (with_reducible refine (sum_Of.calls kj3 _ _ y199 t202 _ ?side1 ?side2 A36.out).mono ?_); (case side1 => repeat (first | exact (Kd.N_reads' HO201.out).2.2 | (with_reducible refine Kd.C_alloc ?_ _) | (with_reducible refine Kd.C_drewN ?_ _) | (with_reducible refine Kd.C_drew ?_))); (case side2 => exact (Kd.N_reads' HO201.out).2.1); rintro e w' ⟨rfl, ⟨nd, rfl⟩⟩; refine ⟨_, rfl, ?_⟩; (try (rw [drewN_self w71]; generalize hq_ : World.drewN w71 _ = w71; have n0_ : Aside0 (Kd.R (Kd.int .u8) 5 w71 w.heap.size (fun k_ => (w.heap.size ≤ k_) ∧ some k_ ≠ (.slice Ao70 t196.length co70 : Value).ownBlock) (.slice (some ⟨go40, 0, none⟩) t193.length co68) t193) := ⟨by rw [← hq_]; exact (by (with_reducible repeat (first | apply Kd.R_alloc | apply Kd.R_drewN | apply Kd.R_drew)); exact HO195.out)⟩; have n1_ : Aside0 (Kd.R (Kd.int .u8) 5 w71 w.heap.size (fun k_ => (w.heap.size ≤ k_) ∧ some k_ ≠ (.slice (some ⟨go40, 0, none⟩) t193.length co68 : Value).ownBlock) (.slice Ao70 t196.length co70) t196) := ⟨by rw [← hq_]; exact (by (with_reducible repeat (first | apply Kd.R_alloc | apply Kd.R_drewN | apply Kd.R_drew)); exact Kd.R_mono HO198.out (fun _ hk => by first | exact ⟨hk.1.1, hk.2⟩ | exact okw hk))⟩; have n2_ : Aside0 (Kd.N (Kd.slice 5 (Kd.int .u8)) 25 w71 w.heap.size (fun k_ => ((P2_7_ k_ ∨ P2_8_ k_) ∨ w.heap.size ≤ k_) ∧ k_ ≠ gb160) (.slice Ao73 y199.length co73) y199) := ⟨by rw [← hq_]; exact (by (with_reducible repeat (first | apply Kd.N_alloc | apply Kd.N_drewN | apply Kd.N_drew)); exact HO201.out)⟩; have n3_ : Aside0 (w71.heap[gb160]? = some (.cells #[.int .i64 a2_0, .int .i64 a2_1, .int .u32 a2_2, .int .u32 a2_3, .int .i64 a2_4, .int .i64 a2_5, .int .i64 a2_6, .slice A2_7 l2_7.length c2_7, .slice A2_8 l2_8.length c2_8] 27 (0, 0))) := ⟨by rw [← hq_]; exact (by (with_reducible repeat (first | refine blk_drewN ?_ _ | refine blk_drew ?_ | refine blk_alloc ?_ _)); exact BK160.out)⟩; have n4_ : Aside0 (Below w.heap.size w w71) := ⟨by rw [← hq_]; exact (by repeat (first | (with_reducible first | exact HB.out | apply below_alloc | apply pw_below_drewN | apply below_drew1 | refine below_set ?_ GE160.out) | exact HB.out))⟩; clear HO195 HO198 HO201 BK160 HB hq_; have HO195 := n0_; have HO198 := n1_; have HO201 := n2_; have BK160 := n3_; have HB := n4_; clear n0_ n1_ n2_ n3_ n4_)))
                (try simp only [Act.put, List.setIfInBounds_toArray, List.set_cons_zero, List.set_cons_succ])
                ((with_reducible refine gate_callee (f := 49) rfl ?_); refine goesL_ (some 106) rfl rfl Try.func49 (by kernel_rfl) rfl #[.int .i64 t202] rfl (by (try simp only [List.map_toArray, List.map_cons, List.map_nil]); first | done | rfl | (simp only [List.length_drop, List.length_take]; rfl)) ?_; (with_reducible refine (word_Put16.calls t202 t203 _ A37.out).mono ?_); rintro e w74 ⟨v204, rfl, ho0, hb⟩; refine ⟨_, rfl, ?_⟩; have n0_ := Aside0.mk (Kd.R_elder' (by (with_reducible repeat (first | apply Kd.R_alloc | apply Kd.R_drewN | apply Kd.R_drew)); exact HO195.out) (Kd.R_base ho0) hb); have n1_ := Aside0.mk (Kd.R_elder' (by (with_reducible repeat (first | apply Kd.R_alloc | apply Kd.R_drewN | apply Kd.R_drew)); exact HO198.out) (Kd.R_base ho0) hb); have n2_ := Aside0.mk (Kd.R_lower (Kd.R_new' (Kd.R_new' (Kd.R_newM (M := fun k_ => (w.heap.size ≤ k_)) ho0 (below_size (by repeat (first | (with_reducible first | exact HB.out | apply below_alloc | apply pw_below_drewN | apply below_drew1 | refine below_set ?_ GE160.out) | exact HB.out))) (fun k_ h_ => h_)) (Kd.R_lt (by (with_reducible repeat (first | apply Kd.R_alloc | apply Kd.R_drewN | apply Kd.R_drew)); exact HO195.out))) (Kd.R_lt (by (with_reducible repeat (first | apply Kd.R_alloc | apply Kd.R_drewN | apply Kd.R_drew)); exact HO198.out))) (below_size (by repeat (first | (with_reducible first | exact HB.out | apply below_alloc | apply pw_below_drewN | apply below_drew1 | refine below_set ?_ GE160.out) | exact HB.out)))); have n3_ := Aside0.mk (blk_below (g := gb160) (o := .cells #[.int .i64 a2_0, .int .i64 a2_1, .int .u32 a2_2, .int .u32 a2_3, .int .i64 a2_4, .int .i64 a2_5, .int .i64 a2_6, .slice A2_7 l2_7.length c2_7, .slice A2_8 l2_8.length c2_8] 27 (0, 0)) (by (with_reducible repeat (first | refine blk_drewN ?_ _ | refine blk_drew ?_ | refine blk_alloc ?_ _)); exact BK160.out) hb); have n4_ := Aside0.mk (below_step (by repeat (first | (with_reducible first | exact HB.out | apply below_alloc | apply pw_below_drewN | apply below_drew1 | refine below_set ?_ GE160.out) | exact HB.out)) hb); clear HO195; clear HO198; clear BK160; clear HB; have HO195 := n0_; have HO198 := n1_; have HO205 := n2_; have BK160 := n3_; have HB := n4_; clear n0_ n1_ n2_ n3_ n4_; (try clear hb); (try clear hb2); (try clear hk); (try clear hi); (try clear ho0); obtain ⟨Ao75, co75, eo75⟩ := Kd.R_slice HO205.out; subst eo75; have p206 : 0 ≤ (0 : Int) := (by omega); have q206 : 0 < (t203.length : Int) := of_decide_eq_true (by first | (with_reducible assumption) | assumption); obtain ⟨ad206, e206, hx206_0⟩ := Kd.at_int (Kd.R_reads' HO205.out).2.2 0 p206 q206; cases e206; have qi206 : (0 < t203.length) = True := eq_true (by omega); (try rw [show ((0 : Int)).toNat = 0 from rfl] at hx206_0); (try rw [Addr.add_zero'] at hx206_0); replace p206 := eq_true p206; replace q206 := eq_true q206; have p40 : 0 ≤ (16 : Int) := (by omega); have q40 : (16 : Int) < ((t193.length : Int) : Int) := of_decide_eq_true (by first | (with_reducible assumption) | assumption); have qi40 : (16 < t193.length) = True := eq_true (by omega); obtain ⟨hx40_0, hf40_0⟩ := Kd.R_celln 0 HO195.out (16 : Int) p40 q40; (try rw [show ((16 : Int)).toNat = 16 from rfl] at hx40_0); (try simp only [Nat.reduceMul, Nat.zero_mul, Nat.zero_add, Nat.reduceAdd] at hx40_0); (try rw [show ((16 : Int)).toNat = 16 from rfl] at hf40_0); (try simp only [Nat.reduceMul, Nat.zero_mul, Nat.zero_add, Nat.reduceAdd] at hf40_0); replace p40 := eq_true p40; replace q40 := eq_true q40; have n_ := Aside0.mk (Kd.R_mono (ok' := (fun k_ => (w.heap.size ≤ k_) ∧ some k_ ≠ (.slice Ao70 t196.length co70 : Value).ownBlock ∧ some k_ ≠ (.slice (some ad206) t203.length co75 : Value).ownBlock)) HO195.out (fun k_ hk => by first | exact ⟨hk.1.1, ⟨hk.1.2, hk.2⟩⟩ | exact okw hk)); clear HO195; have HO195 := n_; clear n_; obtain ⟨hy76_, hz76_⟩ := Kd.R_celln 0 HO195.out (16 : Int) (by omega) (of_decide_eq_true (by first | (with_reducible assumption) | assumption)); (try simp only [Int.reduceToNat, Int.toNat_zero, Int.toNat_ofNat, Nat.reduceMul, Nat.zero_mul, Nat.zero_add] at hy76_ hz76_); (try rw [show ((16 : Int)).toNat = 16 from rfl] at hy76_); (try rw [show ((16 : Int)).toNat = 16 from rfl] at hz76_); have HP76 := Kd.R_putg HO195.out (16 : Int) (rd t203 0))
                (try simp only [Act.put, List.setIfInBounds_toArray, List.set_cons_zero, List.set_cons_succ])
                ((first | (with_reducible refine gate_builtin (b := .copy) (xs := #[.tmp 97, .tmp 106]) rfl ?_) | skip); refine R_copy2 w.heap.size rfl (.tmp 97) (.tmp 106) 25 5 rfl Try.underlying25 (by kernel_rfl) go40 _ _ 16 _ t193 t203 _ _ (t193.length - 16) (co68 - 16) ?hd ?hdn rfl HO195.out (Kd.R_reads' HO205.out).2.2 ?hys ?hat ?_; (case hd => rfl); (case hdn => omega); (case hys => (have h_ := A37.out; unfold word_Put16.f at h_; cases h_; rfl)); (case hat => omega); intro w77 hw hg hp0_; have hp_ : Kd.R (Kd.int .u8) 5 w77 w.heap.size (fun k_ => (w.heap.size ≤ k_) ∧ some k_ ≠ (.slice Ao70 t196.length co70 : Value).ownBlock ∧ some k_ ≠ (.slice (some ad206) t203.length co75 : Value).ownBlock) (.slice (some ⟨go40, 0, none⟩) t193.length co68) y209 := (by rw [Ny209.out, Ny207.out]; exact hp0_); clear HP76 hp0_; have n0_ := Aside0.mk (blk_grown (g := gb160) (o := .cells #[.int .i64 a2_0, .int .i64 a2_1, .int .u32 a2_2, .int .u32 a2_3, .int .i64 a2_4, .int .i64 a2_5, .int .i64 a2_6, .slice A2_7 l2_7.length c2_7, .slice A2_8 l2_8.length c2_8] 27 (0, 0)) (by (with_reducible repeat (first | refine blk_drewN ?_ _ | refine blk_drew ?_ | refine blk_alloc ?_ _)); exact BK160.out) hg (Kd.R_ne HO195.out BK160.out (by decide))); have n1_ := Aside0.mk (hp_); have n2_ := Aside0.mk (Kd.R_after (v := (.slice (some ⟨go40, 0, none⟩) t193.length co68)) (v1 := (.slice (some ⟨go40, 0, none⟩) t193.length co68)) (ok := (fun k_ => (w.heap.size ≤ k_) ∧ some k_ ≠ (.slice (some ad206) t203.length co75 : Value).ownBlock)) (by (with_reducible repeat (first | apply Kd.R_alloc | apply Kd.R_drewN | apply Kd.R_drew)); exact Kd.R_mono HO198.out (fun _ hk => by first | exact ⟨⟨hk.1.1.1, hk.2⟩, hk.1.2⟩ | exact okw hk)) hg (.inl rfl)); have n3_ := Aside0.mk (Kd.R_after (v := (.slice (some ⟨go40, 0, none⟩) t193.length co68)) (v1 := (.slice (some ⟨go40, 0, none⟩) t193.length co68)) (ok := (fun k_ => (w.heap.size ≤ k_) ∧ some k_ ≠ (.slice Ao70 t196.length co70 : Value).ownBlock)) (by (with_reducible repeat (first | apply Kd.R_alloc | apply Kd.R_drewN | apply Kd.R_drew)); exact Kd.R_mono HO205.out (fun _ hk => by first | exact ⟨⟨hk.1.1.1, hk.2⟩, hk.1.2⟩ | exact okw hk)) hg (.inl rfl)); have n4_ := Aside0.mk ((by rw [hw]; exact below_set (below_set (HB.out) GB40.out) GB40.out : Below w.heap.size w w77)); clear BK160; clear HO195; clear HO198; clear HO205; clear HB; have BK160 := n0_; have HO195 := n1_; have HO198 := n2_; have HO205 := n3_; have HB := n4_; clear n0_ n1_ n2_ n3_ n4_; clear hg hw hp_)
                (try simp only [Act.put, List.setIfInBounds_toArray, List.set_cons_zero, List.set_cons_succ])
                go_wp2
                go_ret2
                exact ⟨_, by first | rfl | (simp [errW_none, errW_some] <;> rfl) | (simp [*, errW_none, errW_some] <;> rfl), by (with_reducible repeat (first | apply Kd.R_alloc | apply Kd.R_drewN | apply Kd.R_drew)); exact Kd.R_mono HO195.out (fun _ hk => hk.1), by repeat (first | (with_reducible first | exact HB.out | apply below_alloc | apply pw_below_drewN | apply below_drew1 | refine below_set ?_ GE160.out) | exact HB.out)⟩
              · rw [if_neg c42] at H
                exact absurd H (by simp)
            · rw [if_neg c41] at H
              exact absurd H (by simp)
          · rw [if_neg c39] at H
            exact absurd H (by simp)
        · rw [if_neg c38] at H
          exact absurd H (by simp)

end Go.Proofs.Ytbenimfjhcbplaa.QTcpBuilds
