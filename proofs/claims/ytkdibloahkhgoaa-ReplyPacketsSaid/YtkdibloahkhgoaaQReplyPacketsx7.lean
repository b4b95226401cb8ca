-- written by myprint.py, a program of this session's over the kit's printer
import Derived.Test.YtkdibloahkhgoaaQReplyPacketsx0
import Derived.Test.YtkdibloahkhgoaaQReplyPacketsx3
import Derived.Test.YtkdibloahkhgoaaQReplyPacketsx5
import Derived.Test.YtkdibloahkhgoaaQReplyPacketsx6
namespace Go.Proofs.Ytkdibloahkhgoaa.QReplyPackets
open Go.RowKit Go.Proofs.YtkdibloahkhgoaaW.PrintWords Go.Proofs.YtkdibloahkhgoaaW.PrintLast Go.Proofs.YtkdibloahkhgoaaW.PrintMore
attribute [local go_sem] max2_int min2_int max_two min_two max_three min_three max_four min_four   -- for this text's walks alone
set_option linter.unusedVariables false
set_option linter.unusedSimpArgs false

/-! ### ip_Build: function 50 -/
mutual
def ip_Build.j0 : Nat → Int → Bool → Int → Int → Bool → Bool → Int → Int → Int → Int → Int → List Int → List Int → Option (List Int × Int)
 | 0, _, _, _, _, _, _, _, _, _, _, _, _, _ => none
 | k + 1, x4, x11, x263000, x263001, x263002, x263003, x263004, x263005, x263006, x263007, x263008, x263009, x263010 => if x11 = true then (some (([] : List Int), 1)) else (if (x263010.length : Int) > (wrap64 (65535 - x4)) then (some (([] : List Int), 5)) else (if x263002 = true then (ip_Build.j1 k x4 (Go.bits .or .i64 x263004 16384) x263000 x263001 x263002 x263003 x263004 x263005 x263006 x263007 x263008 x263009 x263010) else (ip_Build.j1 k x4 x263004 x263000 x263001 x263002 x263003 x263004 x263005 x263006 x263007 x263008 x263009 x263010)))
def ip_Build.j1 : Nat → Int → Int → Int → Int → Bool → Bool → Int → Int → Int → Int → Int → List Int → List Int → Option (List Int × Int)
 | 0, _, _, _, _, _, _, _, _, _, _, _, _, _ => none
 | k + 1, x4, x5, x263000, x263001, x263002, x263003, x263004, x263005, x263006, x263007, x263008, x263009, x263010 => if x263003 = true then (ip_Build.j2 k x4 (Go.bits .or .i64 x5 8192) x263000 x263001 x263002 x263003 x263004 x263005 x263006 x263007 x263008 x263009 x263010) else (ip_Build.j2 k x4 x5 x263000 x263001 x263002 x263003 x263004 x263005 x263006 x263007 x263008 x263009 x263010)
def ip_Build.j2 : Nat → Int → Int → Int → Int → Bool → Bool → Int → Int → Int → Int → Int → List Int → List Int → Option (List Int × Int)
 | 0, _, _, _, _, _, _, _, _, _, _, _, _, _ => none
 | k + 1, x4, x5, x263000, x263001, x263002, x263003, x263004, x263005, x263006, x263007, x263008, x263009, x263010 => (word_Put16.f (wrap64 (x4 + (x263010.length : Int)))).bind fun t269 => ((word_Put16.f x263001).bind fun t272 => ((word_Put16.f x5).bind fun t275 => ((word_Put32.f x263007).bind fun t281 => ((word_Put32.f x263008).bind fun t284 => ((word_Join.f k (([(([(Go.bits .or .i64 64 (wrap64 (Int.tdiv x4 4))) % 256, (x263000) % 256] : List Int)), t269, t272, t275, (([(x263005) % 256, (x263006) % 256, 0, 0] : List Int)), t281, t284, x263009] : List (List Int)))).bind fun t290 => ((sum_Of.f k (([t290] : List (List Int)))).bind fun t296 => ((word_Put16.f t296).bind fun t297 => (if 0 < (t297.length : Int) then (if 10 < (t290.length : Int) then (if 1 < (t297.length : Int) then (if 11 < (t290.length : Int) then ((some ((t290.set (10 : Int).toNat (rd t297 0)).set (11 : Int).toNat (rd t297 1) : List Int)).bind fun y303 => (if y303.length + x263010.length < 140737488355328 then (some ((y303 ++ x263010), 0)) else (none))) else (none)) else (none)) else (none)) else (none)))))))))
end
def ip_Build.f (k : Nat) (a0_0 : Int) (a0_1 : Int) (a0_2 : Bool) (a0_3 : Bool) (a0_4 : Int) (a0_5 : Int) (a0_6 : Int) (a0_7 : Int) (a0_8 : Int) (l0_9 : List Int) (l0_10 : List Int) : Option (List Int × Int) := (ip_isByte.f a0_0).bind fun t263 => (if t263 = true then ((ip_isByte.f a0_5).bind fun t264 => (if t264 = true then ((ip_isByte.f a0_6).bind fun t265 => (if t265 = true then (if a0_1 < 0 then (ip_Build.j0 k (wrap64 (20 + (l0_9.length : Int))) true a0_0 a0_1 a0_2 a0_3 a0_4 a0_5 a0_6 a0_7 a0_8 l0_9 l0_10) else (if a0_1 > 65535 then (ip_Build.j0 k (wrap64 (20 + (l0_9.length : Int))) true a0_0 a0_1 a0_2 a0_3 a0_4 a0_5 a0_6 a0_7 a0_8 l0_9 l0_10) else (if a0_4 < 0 then (ip_Build.j0 k (wrap64 (20 + (l0_9.length : Int))) true a0_0 a0_1 a0_2 a0_3 a0_4 a0_5 a0_6 a0_7 a0_8 l0_9 l0_10) else (if a0_4 > 8191 then (ip_Build.j0 k (wrap64 (20 + (l0_9.length : Int))) true a0_0 a0_1 a0_2 a0_3 a0_4 a0_5 a0_6 a0_7 a0_8 l0_9 l0_10) else (if ((l0_9.length : Int) % 4) = 0 then (ip_Build.j0 k (wrap64 (20 + (l0_9.length : Int))) (decide ((l0_9.length : Int) > 40)) a0_0 a0_1 a0_2 a0_3 a0_4 a0_5 a0_6 a0_7 a0_8 l0_9 l0_10) else (ip_Build.j0 k (wrap64 (20 + (l0_9.length : Int))) true a0_0 a0_1 a0_2 a0_3 a0_4 a0_5 a0_6 a0_7 a0_8 l0_9 l0_10)))))) else (ip_Build.j0 k (wrap64 (20 + (l0_9.length : Int))) true a0_0 a0_1 a0_2 a0_3 a0_4 a0_5 a0_6 a0_7 a0_8 l0_9 l0_10))) else (ip_Build.j0 k (wrap64 (20 + (l0_9.length : Int))) true a0_0 a0_1 a0_2 a0_3 a0_4 a0_5 a0_6 a0_7 a0_8 l0_9 l0_10))) else (ip_Build.j0 k (wrap64 (20 + (l0_9.length : Int))) true a0_0 a0_1 a0_2 a0_3 a0_4 a0_5 a0_6 a0_7 a0_8 l0_9 l0_10))
theorem ip_Build.mono_l : ∀ k, (∀ y0 y1 y2 y3 y4 y5 y6 y7 y8 y9 y10 y11 y12, LeO (ip_Build.j0 k y0 y1 y2 y3 y4 y5 y6 y7 y8 y9 y10 y11 y12) (ip_Build.j0 (k + 1) y0 y1 y2 y3 y4 y5 y6 y7 y8 y9 y10 y11 y12)) ∧ (∀ y0 y1 y2 y3 y4 y5 y6 y7 y8 y9 y10 y11 y12, LeO (ip_Build.j1 k y0 y1 y2 y3 y4 y5 y6 y7 y8 y9 y10 y11 y12) (ip_Build.j1 (k + 1) y0 y1 y2 y3 y4 y5 y6 y7 y8 y9 y10 y11 y12)) ∧ (∀ y0 y1 y2 y3 y4 y5 y6 y7 y8 y9 y10 y11 y12, LeO (ip_Build.j2 k y0 y1 y2 y3 y4 y5 y6 y7 y8 y9 y10 y11 y12) (ip_Build.j2 (k + 1) y0 y1 y2 y3 y4 y5 y6 y7 y8 y9 y10 y11 y12))
 | 0 => ⟨fun _ _ _ _ _ _ _ _ _ _ _ _ _ r h => by simp [ip_Build.j0] at h, fun _ _ _ _ _ _ _ _ _ _ _ _ _ r h => by simp [ip_Build.j1] at h, fun _ _ _ _ _ _ _ _ _ _ _ _ _ r h => by simp [ip_Build.j2] at h⟩
 | k + 1 => by
  obtain ⟨ih0, ih1, ih2⟩ := ip_Build.mono_l k
  refine ⟨?_, ?_, ?_⟩
  ·intro y0 y1 y2 y3 y4 y5 y6 y7 y8 y9 y10 y11 y12
   unfold ip_Build.j0
   repeat' first
   | (with_reducible exact ih0 _ _ _ _ _ _ _ _ _ _ _ _ _)
   | (with_reducible exact ih1 _ _ _ _ _ _ _ _ _ _ _ _ _)
   | (with_reducible exact ih2 _ _ _ _ _ _ _ _ _ _ _ _ _)
   | (with_reducible exact sum_Of.mono _ _)
   | (with_reducible exact word_Join.mono _ _)
   | (with_reducible exact LeO.refl _)
   | (with_reducible exact LeO.none _)
   | (with_reducible refine LeO.ite ?_ ?_)
   | (with_reducible refine LeO.bind ?_ (fun _ => ?_))
   | exact ih0 _ _ _ _ _ _ _ _ _ _ _ _ _
   | exact ih1 _ _ _ _ _ _ _ _ _ _ _ _ _
   | exact ih2 _ _ _ _ _ _ _ _ _ _ _ _ _
   | exact sum_Of.mono _ _
   | exact word_Join.mono _ _
   | exact LeO.none _
   | refine LeO.ite ?_ ?_
   | refine LeO.bind ?_ (fun _ => ?_)
  ·intro y0 y1 y2 y3 y4 y5 y6 y7 y8 y9 y10 y11 y12
   unfold ip_Build.j1
   repeat' first
   | (with_reducible exact ih0 _ _ _ _ _ _ _ _ _ _ _ _ _)
   | (with_reducible exact ih1 _ _ _ _ _ _ _ _ _ _ _ _ _)
   | (with_reducible exact ih2 _ _ _ _ _ _ _ _ _ _ _ _ _)
   | (with_reducible exact sum_Of.mono _ _)
   | (with_reducible exact word_Join.mono _ _)
   | (with_reducible exact LeO.refl _)
   | (with_reducible exact LeO.none _)
   | (with_reducible refine LeO.ite ?_ ?_)
   | (with_reducible refine LeO.bind ?_ (fun _ => ?_))
   | exact ih0 _ _ _ _ _ _ _ _ _ _ _ _ _
   | exact ih1 _ _ _ _ _ _ _ _ _ _ _ _ _
   | exact ih2 _ _ _ _ _ _ _ _ _ _ _ _ _
   | exact sum_Of.mono _ _
   | exact word_Join.mono _ _
   | exact LeO.none _
   | refine LeO.ite ?_ ?_
   | refine LeO.bind ?_ (fun _ => ?_)
  ·intro y0 y1 y2 y3 y4 y5 y6 y7 y8 y9 y10 y11 y12
   unfold ip_Build.j2
   repeat' first
   | (with_reducible exact ih0 _ _ _ _ _ _ _ _ _ _ _ _ _)
   | (with_reducible exact ih1 _ _ _ _ _ _ _ _ _ _ _ _ _)
   | (with_reducible exact ih2 _ _ _ _ _ _ _ _ _ _ _ _ _)
   | (with_reducible exact sum_Of.mono _ _)
   | (with_reducible exact word_Join.mono _ _)
   | (with_reducible exact LeO.refl _)
   | (with_reducible exact LeO.none _)
   | (with_reducible refine LeO.ite ?_ ?_)
   | (with_reducible refine LeO.bind ?_ (fun _ => ?_))
   | exact ih0 _ _ _ _ _ _ _ _ _ _ _ _ _
   | exact ih1 _ _ _ _ _ _ _ _ _ _ _ _ _
   | exact ih2 _ _ _ _ _ _ _ _ _ _ _ _ _
   | exact sum_Of.mono _ _
   | exact word_Join.mono _ _
   | exact LeO.none _
   | refine LeO.ite ?_ ?_
   | refine LeO.bind ?_ (fun _ => ?_)
theorem ip_Build.mono : ∀ a0 a1 a2 a3 a4 a5 a6 a7 a8 a9 a10 k, LeO (ip_Build.f k a0 a1 a2 a3 a4 a5 a6 a7 a8 a9 a10) (ip_Build.f (k + 1) a0 a1 a2 a3 a4 a5 a6 a7 a8 a9 a10) := by
 intro a0 a1 a2 a3 a4 a5 a6 a7 a8 a9 a10 k
 obtain ⟨ih0, ih1, ih2⟩ := ip_Build.mono_l k
 unfold ip_Build.f
 repeat' first
   | (with_reducible exact ih0 _ _ _ _ _ _ _ _ _ _ _ _ _)
   | (with_reducible exact ih1 _ _ _ _ _ _ _ _ _ _ _ _ _)
   | (with_reducible exact ih2 _ _ _ _ _ _ _ _ _ _ _ _ _)
   | (with_reducible exact sum_Of.mono _ _)
   | (with_reducible exact word_Join.mono _ _)
   | (with_reducible exact LeO.refl _)
   | (with_reducible exact LeO.none _)
   | (with_reducible refine LeO.ite ?_ ?_)
   | (with_reducible refine LeO.bind ?_ (fun _ => ?_))
   | exact ih0 _ _ _ _ _ _ _ _ _ _ _ _ _
   | exact ih1 _ _ _ _ _ _ _ _ _ _ _ _ _
   | exact ih2 _ _ _ _ _ _ _ _ _ _ _ _ _
   | exact sum_Of.mono _ _
   | exact word_Join.mono _ _
   | exact LeO.none _
   | refine LeO.ite ?_ ?_
   | refine LeO.bind ?_ (fun _ => ?_)
def ip_Build.T11 : Bool × List (List Nat × List Nat) := (true, [([], []), ([0], [0]), ([1], [1]), ([2], [2]), ([], []), ([4], [4]), ([5], [5]), ([3, 6], [3, 6]), ([], []), ([], []), ([9], [9]), ([10], [10]), ([8, 11], [8, 11]), ([12], [12]), ([], []), ([14], [14]), ([15, 13], [15]), ([], []), ([17, 16], [17]), ([], []), ([19], [19]), ([20], [20]), ([], []), ([22], [22]), ([23], [23]), ([21, 24], [21, 24]), ([], []), ([26], [26]), ([27, 18], [27]), ([], []), ([29], [29]), ([30, 28], [30]), ([], []), ([32], [32]), ([7, 13, 16, 18, 25, 28, 31, 33], [7, 13, 16, 18, 25, 28, 31, 33]), ([34, 31], [34]), ([35, 35, 0, 1, 2, 3, 4, 5, 6, 7, 8, 9, 10, 11, 12, 13, 14, 15, 16, 17, 18, 19, 20, 21, 22, 23, 24, 25, 26, 27, 28, 29, 30, 31, 32, 33, 34, 35], [35])])
def ip_Build.B11 : List Nat := [0, 1, 3, 7, 0, 16, 48, 127, 0, 0, 512, 1536, 3840, 7936, 0, 16384, 65280, 0, 261888, 0, 524288, 1572864, 0, 4194304, 12582912, 33030144, 0, 67108864, 201850624, 0, 536870912, 2080898816, 0, 4294967296, 17179869183, 34359738367, 68719476735]
theorem ip_Build.tab11 : rtab .any (opsOf Try.f50 11) = ip_Build.T11 := by kernel_rfl
theorem ip_Build.bits11 : waitsOk ip_Build.T11.2 ip_Build.B11 = true := by kernel_rfl
set_option maxHeartbeats 8000000 in
set_option maxRecDepth 100000 in
theorem ip_Build.calls (k : Nat) (a0_0 : Int) (a0_1 : Int) (a0_2 : Bool) (a0_3 : Bool) (a0_4 : Int) (a0_5 : Int) (a0_6 : Int) (a0_7 : Int) (a0_8 : Int) (P0_9_ : Nat → Prop) (A0_9 : Option Addr) (c0_9 : Nat) (l0_9 : List Int) (A0_10 : Option Addr) (c0_10 : Nat) (l0_10 : List Int) (r1 : List Int) (r2 : Int) (w : World) (hs0_9 : Kd.V (Kd.int .u8) 5 w w.heap.size (fun k_ => P0_9_ k_) (.slice A0_9 l0_9.length c0_9) l0_9) (hr0_10 : Kd.C (Kd.int .u8) w A0_10 l0_10.length l0_10) (hc0_10 : l0_10.length ≤ c0_10) (h : ip_Build.f k a0_0 a0_1 a0_2 a0_3 a0_4 a0_5 a0_6 a0_7 a0_8 l0_9 l0_10 = some (r1, r2)) :
  Calls Try.prog 50 #[.agg #[.int .i64 a0_0, .int .i64 a0_1, .bool a0_2, .bool a0_3, .int .i64 a0_4, .int .i64 a0_5, .int .i64 a0_6, .int .u32 a0_7, .int .u32 a0_8, .slice A0_9 l0_9.length c0_9, .slice A0_10 l0_10.length c0_10]] w fun e w' => ∃ v0_ : Value, e = .returned (.tuple #[v0_, .int .i64 r2]) ∧ Kd.R (Kd.int .u8) 5 w' w.heap.size (fun k_ => (w.heap.size ≤ k_)) v0_ r1 ∧ Below w.heap.size w w' := by
 have hu26 := Try.underlying26
 have HO0_9 := Aside0.mk (show Kd.V (Kd.int .u8) 5 w w.heap.size (fun k_ => (P0_9_ k_ ∨ w.heap.size ≤ k_)) (.slice A0_9 l0_9.length c0_9) l0_9 from Kd.V_mono hs0_9 (fun k_ hk => by first | exact .inl hk | exact okw hk))
 have HR0_10 := Aside0.mk hr0_10
 have HC0_10 := Aside0.mk hc0_10
 clear hr0_10 hc0_10
 have HB := Aside0.mk (Below.refl w.heap.size w)
 have H : ((ip_isByte.f a0_0).bind fun t263 => (if t263 = true then ((ip_isByte.f a0_5).bind fun t264 => (if t264 = true then ((ip_isByte.f a0_6).bind fun t265 => (if t265 = true then (if a0_1 < 0 then (ip_Build.j0 k (wrap64 (20 + (l0_9.length : Int))) true a0_0 a0_1 a0_2 a0_3 a0_4 a0_5 a0_6 a0_7 a0_8 l0_9 l0_10) else (if a0_1 > 65535 then (ip_Build.j0 k (wrap64 (20 + (l0_9.length : Int))) true a0_0 a0_1 a0_2 a0_3 a0_4 a0_5 a0_6 a0_7 a0_8 l0_9 l0_10) else (if a0_4 < 0 then (ip_Build.j0 k (wrap64 (20 + (l0_9.length : Int))) true a0_0 a0_1 a0_2 a0_3 a0_4 a0_5 a0_6 a0_7 a0_8 l0_9 l0_10) else (if a0_4 > 8191 then (ip_Build.j0 k (wrap64 (20 + (l0_9.length : Int))) true a0_0 a0_1 a0_2 a0_3 a0_4 a0_5 a0_6 a0_7 a0_8 l0_9 l0_10) else (if ((l0_9.length : Int) % 4) = 0 then (ip_Build.j0 k (wrap64 (20 + (l0_9.length : Int))) (decide ((l0_9.length : Int) > 40)) a0_0 a0_1 a0_2 a0_3 a0_4 a0_5 a0_6 a0_7 a0_8 l0_9 l0_10) else (ip_Build.j0 k (wrap64 (20 + (l0_9.length : Int))) true a0_0 a0_1 a0_2 a0_3 a0_4 a0_5 a0_6 a0_7 a0_8 l0_9 l0_10)))))) else (ip_Build.j0 k (wrap64 (20 + (l0_9.length : Int))) true a0_0 a0_1 a0_2 a0_3 a0_4 a0_5 a0_6 a0_7 a0_8 l0_9 l0_10))) else (ip_Build.j0 k (wrap64 (20 + (l0_9.length : Int))) true a0_0 a0_1 a0_2 a0_3 a0_4 a0_5 a0_6 a0_7 a0_8 l0_9 l0_10))) else (ip_Build.j0 k (wrap64 (20 + (l0_9.length : Int))) true a0_0 a0_1 a0_2 a0_3 a0_4 a0_5 a0_6 a0_7 a0_8 l0_9 l0_10))) = some (r1, r2) := h
 clear h
 have HC2 := Aside0.mk H
 clear H
 go_enter Try.func50, Try.ntmps50
 go_upto_region 2 with (first | ((with_reducible refine gate_dst (N := 1) rfl ?_); (try (refine gate_guard (by rfl) ?_; dsimp only)); refine box_event ?hg (N := 1) ?hd (cs := #[.int .i64 a0_0, .int .i64 a0_1, .bool a0_2, .bool a0_3, .int .i64 a0_4, .int .i64 a0_5, .int .i64 a0_6, .int .u32 a0_7, .int .u32 a0_8, .slice A0_9 l0_9.length c0_9, .slice A0_10 l0_10.length c0_10]) (t := 26) ?hr ?_; (case hd => rfl); (case hg => rfl); (case hr => first | (go_simp; done) | (go_simp; rfl)); intro gb262 hg w3 hbox hb; have n0_ := Aside0.mk (Kd.V_below (Kd.V_elderB (by (with_reducible repeat (first | apply Kd.V_alloc | apply Kd.V_drewN | apply Kd.V_drew)); exact HO0_9.out) gb262 (Nat.le_of_eq hg.symm)) hb); have n1_ := Aside0.mk (below_step (by repeat (first | (with_reducible first | exact HB.out | apply below_alloc | apply pw_below_drewN | apply below_drew1) | exact HB.out)) hb); have n2_ := Aside0.mk (hbox); have n3_ := Aside0.mk ((by rw [hg]; exact (below_size (by repeat (first | (with_reducible first | exact HB.out | apply below_alloc | apply pw_below_drewN | apply below_drew1) | exact HB.out))) : w.heap.size ≤ gb262)); have n4_ := Aside0.mk ((by rw [hg]; exact (below_size (by repeat (first | (with_reducible first | exact HB.out | apply below_alloc | apply pw_below_drewN | apply below_drew1) | exact HB.out))) : w.heap.size ≤ gb262)); clear HO0_9; clear HB; have HO0_9 := n0_; have HB := n1_; have BK262 := n2_; have GW262 := n3_; have GE262 := n4_; clear n0_ n1_ n2_ n3_ n4_; clear hb hbox hg; have hcz4 := fun j => blk_cell BK262.out j; have hfz4 := fun j => blk_frozen BK262.out j))
 (try simp only [Act.put, List.setIfInBounds_toArray, List.set_cons_zero, List.set_cons_succ])
 go_cut [11] (fun v11 wc => ∃ (kq : Nat) (x11_1 : Bool), v11 = .bool x11_1 ∧ Aside0 (ip_Build.j0 kq (wrap64 (20 + (l0_9.length : Int))) x11_1 a0_0 a0_1 a0_2 a0_3 a0_4 a0_5 a0_6 a0_7 a0_8 l0_9 l0_10 = some (r1, r2)) ∧ Aside0 (kq ≤ k) ∧ Aside0 (Kd.V (Kd.int .u8) 5 wc w.heap.size (fun k_ => (P0_9_ k_ ∨ w.heap.size ≤ k_) ∧ k_ ≠ gb262) (.slice A0_9 l0_9.length c0_9) l0_9) ∧ Aside0 (wc.heap[gb262]? = some (.cells #[.int .i64 a0_0, .int .i64 a0_1, .bool a0_2, .bool a0_3, .int .i64 a0_4, .int .i64 a0_5, .int .i64 a0_6, .int .u32 a0_7, .int .u32 a0_8, (.slice A0_9 l0_9.length c0_9), (.slice A0_10 l0_10.length c0_10)] 26 (0, 0))) ∧ Aside0 (Below w.heap.size w wc))
 case first =>
  have H := HC2.out
  clear HC2
  replace H := Option.bind_eq_some_iff.mp H
  obtain ⟨t263, A50, H⟩ := H
  replace H : (if t263 = true then ((ip_isByte.f a0_5).bind fun t264 => (if t264 = true then ((ip_isByte.f a0_6).bind fun t265 => (if t265 = true then (if a0_1 < 0 then (ip_Build.j0 k (wrap64 (20 + (l0_9.length : Int))) true a0_0 a0_1 a0_2 a0_3 a0_4 a0_5 a0_6 a0_7 a0_8 l0_9 l0_10) else (if a0_1 > 65535 then (ip_Build.j0 k (wrap64 (20 + (l0_9.length : Int))) true a0_0 a0_1 a0_2 a0_3 a0_4 a0_5 a0_6 a0_7 a0_8 l0_9 l0_10) else (if a0_4 < 0 then (ip_Build.j0 k (wrap64 (20 + (l0_9.length : Int))) true a0_0 a0_1 a0_2 a0_3 a0_4 a0_5 a0_6 a0_7 a0_8 l0_9 l0_10) else (if a0_4 > 8191 then (ip_Build.j0 k (wrap64 (20 + (l0_9.length : Int))) true a0_0 a0_1 a0_2 a0_3 a0_4 a0_5 a0_6 a0_7 a0_8 l0_9 l0_10) else (if ((l0_9.length : Int) % 4) = 0 then (ip_Build.j0 k (wrap64 (20 + (l0_9.length : Int))) (decide ((l0_9.length : Int) > 40)) a0_0 a0_1 a0_2 a0_3 a0_4 a0_5 a0_6 a0_7 a0_8 l0_9 l0_10) else (ip_Build.j0 k (wrap64 (20 + (l0_9.length : Int))) true a0_0 a0_1 a0_2 a0_3 a0_4 a0_5 a0_6 a0_7 a0_8 l0_9 l0_10)))))) else (ip_Build.j0 k (wrap64 (20 + (l0_9.length : Int))) true a0_0 a0_1 a0_2 a0_3 a0_4 a0_5 a0_6 a0_7 a0_8 l0_9 l0_10))) else (ip_Build.j0 k (wrap64 (20 + (l0_9.length : Int))) true a0_0 a0_1 a0_2 a0_3 a0_4 a0_5 a0_6 a0_7 a0_8 l0_9 l0_10))) else (ip_Build.j0 k (wrap64 (20 + (l0_9.length : Int))) true a0_0 a0_1 a0_2 a0_3 a0_4 a0_5 a0_6 a0_7 a0_8 l0_9 l0_10)) = some (r1, r2) := H
  have A5 := Aside0.mk A50
  clear A50
  by_cases c6 : t263 = true
  ·subst c6
   have H1 : ((ip_isByte.f a0_5).bind fun t264 => (if t264 = true then ((ip_isByte.f a0_6).bind fun t265 => (if t265 = true then (if a0_1 < 0 then (ip_Build.j0 k (wrap64 (20 + (l0_9.length : Int))) true a0_0 a0_1 a0_2 a0_3 a0_4 a0_5 a0_6 a0_7 a0_8 l0_9 l0_10) else (if a0_1 > 65535 then (ip_Build.j0 k (wrap64 (20 + (l0_9.length : Int))) true a0_0 a0_1 a0_2 a0_3 a0_4 a0_5 a0_6 a0_7 a0_8 l0_9 l0_10) else (if a0_4 < 0 then (ip_Build.j0 k (wrap64 (20 + (l0_9.length : Int))) true a0_0 a0_1 a0_2 a0_3 a0_4 a0_5 a0_6 a0_7 a0_8 l0_9 l0_10) else (if a0_4 > 8191 then (ip_Build.j0 k (wrap64 (20 + (l0_9.length : Int))) true a0_0 a0_1 a0_2 a0_3 a0_4 a0_5 a0_6 a0_7 a0_8 l0_9 l0_10) else (if ((l0_9.length : Int) % 4) = 0 then (ip_Build.j0 k (wrap64 (20 + (l0_9.length : Int))) (decide ((l0_9.length : Int) > 40)) a0_0 a0_1 a0_2 a0_3 a0_4 a0_5 a0_6 a0_7 a0_8 l0_9 l0_10) else (ip_Build.j0 k (wrap64 (20 + (l0_9.length : Int))) true a0_0 a0_1 a0_2 a0_3 a0_4 a0_5 a0_6 a0_7 a0_8 l0_9 l0_10)))))) else (ip_Build.j0 k (wrap64 (20 + (l0_9.length : Int))) true a0_0 a0_1 a0_2 a0_3 a0_4 a0_5 a0_6 a0_7 a0_8 l0_9 l0_10))) else (ip_Build.j0 k (wrap64 (20 + (l0_9.length : Int))) true a0_0 a0_1 a0_2 a0_3 a0_4 a0_5 a0_6 a0_7 a0_8 l0_9 l0_10))) = some (r1, r2) := by rw [if_pos rfl] at H; exact H
   clear H
   have H := H1
   clear H1
   replace H := Option.bind_eq_some_iff.mp H
   obtain ⟨t264, A70, H⟩ := H
   replace H : (if t264 = true then ((ip_isByte.f a0_6).bind fun t265 => (if t265 = true then (if a0_1 < 0 then (ip_Build.j0 k (wrap64 (20 + (l0_9.length : Int))) true a0_0 a0_1 a0_2 a0_3 a0_4 a0_5 a0_6 a0_7 a0_8 l0_9 l0_10) else (if a0_1 > 65535 then (ip_Build.j0 k (wrap64 (20 + (l0_9.length : Int))) true a0_0 a0_1 a0_2 a0_3 a0_4 a0_5 a0_6 a0_7 a0_8 l0_9 l0_10) else (if a0_4 < 0 then (ip_Build.j0 k (wrap64 (20 + (l0_9.length : Int))) true a0_0 a0_1 a0_2 a0_3 a0_4 a0_5 a0_6 a0_7 a0_8 l0_9 l0_10) else (if a0_4 > 8191 then (ip_Build.j0 k (wrap64 (20 + (l0_9.length : Int))) true a0_0 a0_1 a0_2 a0_3 a0_4 a0_5 a0_6 a0_7 a0_8 l0_9 l0_10) else (if ((l0_9.length : Int) % 4) = 0 then (ip_Build.j0 k (wrap64 (20 + (l0_9.length : Int))) (decide ((l0_9.length : Int) > 40)) a0_0 a0_1 a0_2 a0_3 a0_4 a0_5 a0_6 a0_7 a0_8 l0_9 l0_10) else (ip_Build.j0 k (wrap64 (20 + (l0_9.length : Int))) true a0_0 a0_1 a0_2 a0_3 a0_4 a0_5 a0_6 a0_7 a0_8 l0_9 l0_10)))))) else (ip_Build.j0 k (wrap64 (20 + (l0_9.length : Int))) true a0_0 a0_1 a0_2 a0_3 a0_4 a0_5 a0_6 a0_7 a0_8 l0_9 l0_10))) else (ip_Build.j0 k (wrap64 (20 + (l0_9.length : Int))) true a0_0 a0_1 a0_2 a0_3 a0_4 a0_5 a0_6 a0_7 a0_8 l0_9 l0_10)) = some (r1, r2) := H
   have A7 := Aside0.mk A70
   clear A70
   by_cases c8 : t264 = true
   ·subst c8
    have H1 : ((ip_isByte.f a0_6).bind fun t265 => (if t265 = true then (if a0_1 < 0 then (ip_Build.j0 k (wrap64 (20 + (l0_9.length : Int))) true a0_0 a0_1 a0_2 a0_3 a0_4 a0_5 a0_6 a0_7 a0_8 l0_9 l0_10) else (if a0_1 > 65535 then (ip_Build.j0 k (wrap64 (20 + (l0_9.length : Int))) true a0_0 a0_1 a0_2 a0_3 a0_4 a0_5 a0_6 a0_7 a0_8 l0_9 l0_10) else (if a0_4 < 0 then (ip_Build.j0 k (wrap64 (20 + (l0_9.length : Int))) true a0_0 a0_1 a0_2 a0_3 a0_4 a0_5 a0_6 a0_7 a0_8 l0_9 l0_10) else (if a0_4 > 8191 then (ip_Build.j0 k (wrap64 (20 + (l0_9.length : Int))) true a0_0 a0_1 a0_2 a0_3 a0_4 a0_5 a0_6 a0_7 a0_8 l0_9 l0_10) else (if ((l0_9.length : Int) % 4) = 0 then (ip_Build.j0 k (wrap64 (20 + (l0_9.length : Int))) (decide ((l0_9.length : Int) > 40)) a0_0 a0_1 a0_2 a0_3 a0_4 a0_5 a0_6 a0_7 a0_8 l0_9 l0_10) else (ip_Build.j0 k (wrap64 (20 + (l0_9.length : Int))) true a0_0 a0_1 a0_2 a0_3 a0_4 a0_5 a0_6 a0_7 a0_8 l0_9 l0_10)))))) else (ip_Build.j0 k (wrap64 (20 + (l0_9.length : Int))) true a0_0 a0_1 a0_2 a0_3 a0_4 a0_5 a0_6 a0_7 a0_8 l0_9 l0_10))) = some (r1, r2) := by rw [if_pos rfl] at H; exact H
    clear H
    have H := H1
    clear H1
    replace H := Option.bind_eq_some_iff.mp H
    obtain ⟨t265, A90, H⟩ := H
    replace H : (if t265 = true then (if a0_1 < 0 then (ip_Build.j0 k (wrap64 (20 + (l0_9.length : Int))) true a0_0 a0_1 a0_2 a0_3 a0_4 a0_5 a0_6 a0_7 a0_8 l0_9 l0_10) else (if a0_1 > 65535 then (ip_Build.j0 k (wrap64 (20 + (l0_9.length : Int))) true a0_0 a0_1 a0_2 a0_3 a0_4 a0_5 a0_6 a0_7 a0_8 l0_9 l0_10) else (if a0_4 < 0 then (ip_Build.j0 k (wrap64 (20 + (l0_9.length : Int))) true a0_0 a0_1 a0_2 a0_3 a0_4 a0_5 a0_6 a0_7 a0_8 l0_9 l0_10) else (if a0_4 > 8191 then (ip_Build.j0 k (wrap64 (20 + (l0_9.length : Int))) true a0_0 a0_1 a0_2 a0_3 a0_4 a0_5 a0_6 a0_7 a0_8 l0_9 l0_10) else (if ((l0_9.length : Int) % 4) = 0 then (ip_Build.j0 k (wrap64 (20 + (l0_9.length : Int))) (decide ((l0_9.length : Int) > 40)) a0_0 a0_1 a0_2 a0_3 a0_4 a0_5 a0_6 a0_7 a0_8 l0_9 l0_10) else (ip_Build.j0 k (wrap64 (20 + (l0_9.length : Int))) true a0_0 a0_1 a0_2 a0_3 a0_4 a0_5 a0_6 a0_7 a0_8 l0_9 l0_10)))))) else (ip_Build.j0 k (wrap64 (20 + (l0_9.length : Int))) true a0_0 a0_1 a0_2 a0_3 a0_4 a0_5 a0_6 a0_7 a0_8 l0_9 l0_10)) = some (r1, r2) := H
    have A9 := Aside0.mk A90
    clear A90
    by_cases c10 : t265 = true
    ·subst c10
     have H1 : (if a0_1 < 0 then (ip_Build.j0 k (wrap64 (20 + (l0_9.length : Int))) true a0_0 a0_1 a0_2 a0_3 a0_4 a0_5 a0_6 a0_7 a0_8 l0_9 l0_10) else (if a0_1 > 65535 then (ip_Build.j0 k (wrap64 (20 + (l0_9.length : Int))) true a0_0 a0_1 a0_2 a0_3 a0_4 a0_5 a0_6 a0_7 a0_8 l0_9 l0_10) else (if a0_4 < 0 then (ip_Build.j0 k (wrap64 (20 + (l0_9.length : Int))) true a0_0 a0_1 a0_2 a0_3 a0_4 a0_5 a0_6 a0_7 a0_8 l0_9 l0_10) else (if a0_4 > 8191 then (ip_Build.j0 k (wrap64 (20 + (l0_9.length : Int))) true a0_0 a0_1 a0_2 a0_3 a0_4 a0_5 a0_6 a0_7 a0_8 l0_9 l0_10) else (if ((l0_9.length : Int) % 4) = 0 then (ip_Build.j0 k (wrap64 (20 + (l0_9.length : Int))) (decide ((l0_9.length : Int) > 40)) a0_0 a0_1 a0_2 a0_3 a0_4 a0_5 a0_6 a0_7 a0_8 l0_9 l0_10) else (ip_Build.j0 k (wrap64 (20 + (l0_9.length : Int))) true a0_0 a0_1 a0_2 a0_3 a0_4 a0_5 a0_6 a0_7 a0_8 l0_9 l0_10)))))) = some (r1, r2) := by rw [if_pos rfl] at H; exact H
     clear H
     have H := H1
     clear H1
     by_cases c11 : a0_1 < 0
     ·rw [if_pos c11] at H
      have c11b0 : decide (a0_1 < 0) = true := decide_eq_true c11
      clear c11
      (first | rw [c11b0] | (simp only [i64_w, i32_w]; rw [c11b0]) | skip)
      have H' := Aside0.mk H
      clear H
      have hcz12 := fun j => blk_cell BK262.out j
      have hfz12 := fun j => blk_frozen BK262.out j
      go_wp2_with (first | ((with_reducible refine gate_callee (f := 76) rfl ?_); refine goesL_ (some 14) rfl rfl Try.func76 (by kernel_rfl) rfl #[.int .i64 a0_0] rfl (by (try simp only [List.map_toArray, List.map_cons, List.map_nil]); first | done | rfl | (simp only [List.length_drop, List.length_take]; rfl)) ?_; (with_reducible refine (ip_isByte.calls a0_0 true _ A5.out).mono ?_); rintro e w' ⟨rfl, ⟨nd, rfl⟩⟩; refine ⟨_, rfl, ?_⟩) | (go_at_call 76; (with_reducible refine (ip_isByte.calls a0_5 true _ A7.out).mono ?_); rintro e w' ⟨rfl, ⟨nd, rfl⟩⟩) | (go_at_call 76; (with_reducible refine (ip_isByte.calls a0_6 true _ A9.out).mono ?_); rintro e w' ⟨rfl, ⟨nd, rfl⟩⟩))
      go_meet
      case rel => exact ⟨_, (true), (by first | rfl | (simp; done) | (simp [*]; done)), H', ⟨by first | omega | exact Nat.le_refl _⟩, ⟨by (with_reducible repeat (first | apply Kd.V_alloc | apply Kd.V_drewN | apply Kd.V_drew)); exact HO0_9.out⟩, ⟨by (with_reducible repeat (first | refine blk_drewN ?_ _ | refine blk_drew ?_ | refine blk_alloc ?_ _)); exact BK262.out⟩, ⟨by repeat (first | (with_reducible first | exact HB.out | apply below_alloc | apply pw_below_drewN | apply below_drew1 | refine below_set ?_ GE262.out) | exact HB.out)⟩⟩
     ·rw [if_neg c11] at H
      have c11b0 : decide (a0_1 < 0) = false := decide_eq_false c11
      clear c11
      (first | rw [c11b0] | (simp only [i64_w, i32_w]; rw [c11b0]) | skip)
      by_cases c13 : a0_1 > 65535
      ·rw [if_pos c13] at H
       have c13b0 : decide (65535 < a0_1) = true := decide_eq_true c13
       clear c13
       have H' := Aside0.mk H
       clear H
       have hcz14 := fun j => blk_cell BK262.out j
       have hfz14 := fun j => blk_frozen BK262.out j
       go_wp2_with (first | ((with_reducible refine gate_callee (f := 76) rfl ?_); refine goesL_ (some 14) rfl rfl Try.func76 (by kernel_rfl) rfl #[.int .i64 a0_0] rfl (by (try simp only [List.map_toArray, List.map_cons, List.map_nil]); first | done | rfl | (simp only [List.length_drop, List.length_take]; rfl)) ?_; (with_reducible refine (ip_isByte.calls a0_0 true _ A5.out).mono ?_); rintro e w' ⟨rfl, ⟨nd, rfl⟩⟩; refine ⟨_, rfl, ?_⟩) | (go_at_call 76; (with_reducible refine (ip_isByte.calls a0_5 true _ A7.out).mono ?_); rintro e w' ⟨rfl, ⟨nd, rfl⟩⟩) | (go_at_call 76; (with_reducible refine (ip_isByte.calls a0_6 true _ A9.out).mono ?_); rintro e w' ⟨rfl, ⟨nd, rfl⟩⟩))
       go_meet
       case rel => exact ⟨_, (true), (by first | rfl | (simp; done) | (simp [*]; done)), H', ⟨by first | omega | exact Nat.le_refl _⟩, ⟨by (with_reducible repeat (first | apply Kd.V_alloc | apply Kd.V_drewN | apply Kd.V_drew)); exact HO0_9.out⟩, ⟨by (with_reducible repeat (first | refine blk_drewN ?_ _ | refine blk_drew ?_ | refine blk_alloc ?_ _)); exact BK262.out⟩, ⟨by repeat (first | (with_reducible first | exact HB.out | apply below_alloc | apply pw_below_drewN | apply below_drew1 | refine below_set ?_ GE262.out) | exact HB.out)⟩⟩
      ·rw [if_neg c13] at H
       have c13b0 : decide (65535 < a0_1) = false := decide_eq_false c13
       clear c13
       by_cases c15 : a0_4 < 0
       ·rw [if_pos c15] at H
        have c15b0 : decide (a0_4 < 0) = true := decide_eq_true c15
        clear c15
        have H' := Aside0.mk H
        clear H
        have hcz16 := fun j => blk_cell BK262.out j
        have hfz16 := fun j => blk_frozen BK262.out j
        go_wp2_with (first | ((with_reducible refine gate_callee (f := 76) rfl ?_); refine goesL_ (some 14) rfl rfl Try.func76 (by kernel_rfl) rfl #[.int .i64 a0_0] rfl (by (try simp only [List.map_toArray, List.map_cons, List.map_nil]); first | done | rfl | (simp only [List.length_drop, List.length_take]; rfl)) ?_; (with_reducible refine (ip_isByte.calls a0_0 true _ A5.out).mono ?_); rintro e w' ⟨rfl, ⟨nd, rfl⟩⟩; refine ⟨_, rfl, ?_⟩) | (go_at_call 76; (with_reducible refine (ip_isByte.calls a0_5 true _ A7.out).mono ?_); rintro e w' ⟨rfl, ⟨nd, rfl⟩⟩) | (go_at_call 76; (with_reducible refine (ip_isByte.calls a0_6 true _ A9.out).mono ?_); rintro e w' ⟨rfl, ⟨nd, rfl⟩⟩))
        go_meet
        case rel => exact ⟨_, (true), (by first | rfl | (simp; done) | (simp [*]; done)), H', ⟨by first | omega | exact Nat.le_refl _⟩, ⟨by (with_reducible repeat (first | apply Kd.V_alloc | apply Kd.V_drewN | apply Kd.V_drew)); exact HO0_9.out⟩, ⟨by (with_reducible repeat (first | refine blk_drewN ?_ _ | refine blk_drew ?_ | refine blk_alloc ?_ _)); exact BK262.out⟩, ⟨by repeat (first | (with_reducible first | exact HB.out | apply below_alloc | apply pw_below_drewN | apply below_drew1 | refine below_set ?_ GE262.out) | exact HB.out)⟩⟩
       ·rw [if_neg c15] at H
        have c15b0 : decide (a0_4 < 0) = false := decide_eq_false c15
        clear c15
        by_cases c17 : a0_4 > 8191
        ·rw [if_pos c17] at H
         have c17b0 : decide (8191 < a0_4) = true := decide_eq_true c17
         clear c17
         have H' := Aside0.mk H
         clear H
         have hcz18 := fun j => blk_cell BK262.out j
         have hfz18 := fun j => blk_frozen BK262.out j
         go_wp2_with (first | ((with_reducible refine gate_callee (f := 76) rfl ?_); refine goesL_ (some 14) rfl rfl Try.func76 (by kernel_rfl) rfl #[.int .i64 a0_0] rfl (by (try simp only [List.map_toArray, List.map_cons, List.map_nil]); first | done | rfl | (simp only [List.length_drop, List.length_take]; rfl)) ?_; (with_reducible refine (ip_isByte.calls a0_0 true _ A5.out).mono ?_); rintro e w' ⟨rfl, ⟨nd, rfl⟩⟩; refine ⟨_, rfl, ?_⟩) | (go_at_call 76; (with_reducible refine (ip_isByte.calls a0_5 true _ A7.out).mono ?_); rintro e w' ⟨rfl, ⟨nd, rfl⟩⟩) | (go_at_call 76; (with_reducible refine (ip_isByte.calls a0_6 true _ A9.out).mono ?_); rintro e w' ⟨rfl, ⟨nd, rfl⟩⟩))
         go_meet
         case rel => exact ⟨_, (true), (by first | rfl | (simp; done) | (simp [*]; done)), H', ⟨by first | omega | exact Nat.le_refl _⟩, ⟨by (with_reducible repeat (first | apply Kd.V_alloc | apply Kd.V_drewN | apply Kd.V_drew)); exact HO0_9.out⟩, ⟨by (with_reducible repeat (first | refine blk_drewN ?_ _ | refine blk_drew ?_ | refine blk_alloc ?_ _)); exact BK262.out⟩, ⟨by repeat (first | (with_reducible first | exact HB.out | apply below_alloc | apply pw_below_drewN | apply below_drew1 | refine below_set ?_ GE262.out) | exact HB.out)⟩⟩
        ·rw [if_neg c17] at H
         have c17b0 : decide (8191 < a0_4) = false := decide_eq_false c17
         clear c17
         by_cases c19 : ((l0_9.length : Int) % 4) = 0
         ·rw [if_pos c19] at H
          have c19b0 : (((l0_9.length : Int) % 4) == 0) = true := beq_iff_eq.mpr c19
          have c19b1 : (((l0_9.length : Int) % 4) != 0) = false := bne_eq_false_iff_eq.mpr c19
          clear c19
          have H' := Aside0.mk H
          clear H
          have hcz20 := fun j => blk_cell BK262.out j
          have hfz20 := fun j => blk_frozen BK262.out j
          go_wp2_with (first | ((with_reducible refine gate_callee (f := 76) rfl ?_); refine goesL_ (some 14) rfl rfl Try.func76 (by kernel_rfl) rfl #[.int .i64 a0_0] rfl (by (try simp only [List.map_toArray, List.map_cons, List.map_nil]); first | done | rfl | (simp only [List.length_drop, List.length_take]; rfl)) ?_; (with_reducible refine (ip_isByte.calls a0_0 true _ A5.out).mono ?_); rintro e w' ⟨rfl, ⟨nd, rfl⟩⟩; refine ⟨_, rfl, ?_⟩) | (go_at_call 76; (with_reducible refine (ip_isByte.calls a0_5 true _ A7.out).mono ?_); rintro e w' ⟨rfl, ⟨nd, rfl⟩⟩) | (go_at_call 76; (with_reducible refine (ip_isByte.calls a0_6 true _ A9.out).mono ?_); rintro e w' ⟨rfl, ⟨nd, rfl⟩⟩))
          go_meet
          case rel => exact ⟨_, (decide ((l0_9.length : Int) > 40)), (by first | rfl | (simp; done) | (simp [*]; done)), H', ⟨by first | omega | exact Nat.le_refl _⟩, ⟨by (with_reducible repeat (first | apply Kd.V_alloc | apply Kd.V_drewN | apply Kd.V_drew)); exact HO0_9.out⟩, ⟨by (with_reducible repeat (first | refine blk_drewN ?_ _ | refine blk_drew ?_ | refine blk_alloc ?_ _)); exact BK262.out⟩, ⟨by repeat (first | (with_reducible first | exact HB.out | apply below_alloc | apply pw_below_drewN | apply below_drew1 | refine below_set ?_ GE262.out) | exact HB.out)⟩⟩
         ·rw [if_neg c19] at H
          have c19b0 : (((l0_9.length : Int) % 4) == 0) = false := beq_eq_false_iff_ne.mpr c19
          have c19b1 : (((l0_9.length : Int) % 4) != 0) = true := bne_iff_ne.mpr c19
          have H' := Aside0.mk H
          clear H
          have hcz21 := fun j => blk_cell BK262.out j
          have hfz21 := fun j => blk_frozen BK262.out j
          go_wp2_with (first | ((with_reducible refine gate_callee (f := 76) rfl ?_); refine goesL_ (some 14) rfl rfl Try.func76 (by kernel_rfl) rfl #[.int .i64 a0_0] rfl (by (try simp only [List.map_toArray, List.map_cons, List.map_nil]); first | done | rfl | (simp only [List.length_drop, List.length_take]; rfl)) ?_; (with_reducible refine (ip_isByte.calls a0_0 true _ A5.out).mono ?_); rintro e w' ⟨rfl, ⟨nd, rfl⟩⟩; refine ⟨_, rfl, ?_⟩) | (go_at_call 76; (with_reducible refine (ip_isByte.calls a0_5 true _ A7.out).mono ?_); rintro e w' ⟨rfl, ⟨nd, rfl⟩⟩) | (go_at_call 76; (with_reducible refine (ip_isByte.calls a0_6 true _ A9.out).mono ?_); rintro e w' ⟨rfl, ⟨nd, rfl⟩⟩))
          go_meet
          case rel => exact ⟨_, (true), (by first | rfl | (simp; done) | (simp [*]; done)), H', ⟨by first | omega | exact Nat.le_refl _⟩, ⟨by (with_reducible repeat (first | apply Kd.V_alloc | apply Kd.V_drewN | apply Kd.V_drew)); exact HO0_9.out⟩, ⟨by (with_reducible repeat (first | refine blk_drewN ?_ _ | refine blk_drew ?_ | refine blk_alloc ?_ _)); exact BK262.out⟩, ⟨by repeat (first | (with_reducible first | exact HB.out | apply below_alloc | apply pw_below_drewN | apply below_drew1 | refine below_set ?_ GE262.out) | exact HB.out)⟩⟩
    ·replace c10 := Bool.eq_false_iff.mpr c10
     subst c10
     have H1 : (ip_Build.j0 k (wrap64 (20 + (l0_9.length : Int))) true a0_0 a0_1 a0_2 a0_3 a0_4 a0_5 a0_6 a0_7 a0_8 l0_9 l0_10) = some (r1, r2) := by rw [if_neg (show ¬ (false = true) by decide)] at H; exact H
     clear H
     have H := H1
     clear H1
     have H' := Aside0.mk H
     clear H
     have hcz22 := fun j => blk_cell BK262.out j
     have hfz22 := fun j => blk_frozen BK262.out j
     go_wp2_with (first | ((with_reducible refine gate_callee (f := 76) rfl ?_); refine goesL_ (some 14) rfl rfl Try.func76 (by kernel_rfl) rfl #[.int .i64 a0_0] rfl (by (try simp only [List.map_toArray, List.map_cons, List.map_nil]); first | done | rfl | (simp only [List.length_drop, List.length_take]; rfl)) ?_; (with_reducible refine (ip_isByte.calls a0_0 true _ A5.out).mono ?_); rintro e w' ⟨rfl, ⟨nd, rfl⟩⟩; refine ⟨_, rfl, ?_⟩) | (go_at_call 76; (with_reducible refine (ip_isByte.calls a0_5 true _ A7.out).mono ?_); rintro e w' ⟨rfl, ⟨nd, rfl⟩⟩) | (go_at_call 76; (with_reducible refine (ip_isByte.calls a0_6 false _ A9.out).mono ?_); rintro e w' ⟨rfl, ⟨nd, rfl⟩⟩))
     go_meet
     case rel => exact ⟨_, (true), (by first | rfl | (simp; done) | (simp [*]; done)), H', ⟨by first | omega | exact Nat.le_refl _⟩, ⟨by (with_reducible repeat (first | apply Kd.V_alloc | apply Kd.V_drewN | apply Kd.V_drew)); exact HO0_9.out⟩, ⟨by (with_reducible repeat (first | refine blk_drewN ?_ _ | refine blk_drew ?_ | refine blk_alloc ?_ _)); exact BK262.out⟩, ⟨by repeat (first | (with_reducible first | exact HB.out | apply below_alloc | apply pw_below_drewN | apply below_drew1 | refine below_set ?_ GE262.out) | exact HB.out)⟩⟩
   ·replace c8 := Bool.eq_false_iff.mpr c8
    subst c8
    have H1 : (ip_Build.j0 k (wrap64 (20 + (l0_9.length : Int))) true a0_0 a0_1 a0_2 a0_3 a0_4 a0_5 a0_6 a0_7 a0_8 l0_9 l0_10) = some (r1, r2) := by rw [if_neg (show ¬ (false = true) by decide)] at H; exact H
    clear H
    have H := H1
    clear H1
    have H' := Aside0.mk H
    clear H
    have hcz23 := fun j => blk_cell BK262.out j
    have hfz23 := fun j => blk_frozen BK262.out j
    go_wp2_with (first | ((with_reducible refine gate_callee (f := 76) rfl ?_); refine goesL_ (some 14) rfl rfl Try.func76 (by kernel_rfl) rfl #[.int .i64 a0_0] rfl (by (try simp only [List.map_toArray, List.map_cons, List.map_nil]); first | done | rfl | (simp only [List.length_drop, List.length_take]; rfl)) ?_; (with_reducible refine (ip_isByte.calls a0_0 true _ A5.out).mono ?_); rintro e w' ⟨rfl, ⟨nd, rfl⟩⟩; refine ⟨_, rfl, ?_⟩) | (go_at_call 76; (with_reducible refine (ip_isByte.calls a0_5 false _ A7.out).mono ?_); rintro e w' ⟨rfl, ⟨nd, rfl⟩⟩))
    go_meet
    case rel => exact ⟨_, (true), (by first | rfl | (simp; done) | (simp [*]; done)), H', ⟨by first | omega | exact Nat.le_refl _⟩, ⟨by (with_reducible repeat (first | apply Kd.V_alloc | apply Kd.V_drewN | apply Kd.V_drew)); exact HO0_9.out⟩, ⟨by (with_reducible repeat (first | refine blk_drewN ?_ _ | refine blk_drew ?_ | refine blk_alloc ?_ _)); exact BK262.out⟩, ⟨by repeat (first | (with_reducible first | exact HB.out | apply below_alloc | apply pw_below_drewN | apply below_drew1 | refine below_set ?_ GE262.out) | exact HB.out)⟩⟩
  ·replace c6 := Bool.eq_false_iff.mpr c6
   subst c6
   have H1 : (ip_Build.j0 k (wrap64 (20 + (l0_9.length : Int))) true a0_0 a0_1 a0_2 a0_3 a0_4 a0_5 a0_6 a0_7 a0_8 l0_9 l0_10) = some (r1, r2) := by rw [if_neg (show ¬ (false = true) by decide)] at H; exact H
   clear H
   have H := H1
   clear H1
   have H' := Aside0.mk H
   clear H
   have hcz24 := fun j => blk_cell BK262.out j
   have hfz24 := fun j => blk_frozen BK262.out j
   go_wp2_with (first | ((with_reducible refine gate_callee (f := 76) rfl ?_); refine goesL_ (some 14) rfl rfl Try.func76 (by kernel_rfl) rfl #[.int .i64 a0_0] rfl (by (try simp only [List.map_toArray, List.map_cons, List.map_nil]); first | done | rfl | (simp only [List.length_drop, List.length_take]; rfl)) ?_; (with_reducible refine (ip_isByte.calls a0_0 false _ A5.out).mono ?_); rintro e w' ⟨rfl, ⟨nd, rfl⟩⟩; refine ⟨_, rfl, ?_⟩))
   go_meet
   case rel => exact ⟨_, (true), (by first | rfl | (simp; done) | (simp [*]; done)), H', ⟨by first | omega | exact Nat.le_refl _⟩, ⟨by (with_reducible repeat (first | apply Kd.V_alloc | apply Kd.V_drewN | apply Kd.V_drew)); exact HO0_9.out⟩, ⟨by (with_reducible repeat (first | refine blk_drewN ?_ _ | refine blk_drew ?_ | refine blk_alloc ?_ _)); exact BK262.out⟩, ⟨by repeat (first | (with_reducible first | exact HB.out | apply below_alloc | apply pw_below_drewN | apply below_drew1 | refine below_set ?_ GE262.out) | exact HB.out)⟩⟩
 case rest =>
  clear HC2
  try clear c1
  try clear p2
  try clear c5
  try clear c6
  try clear p6
  try clear c7
  try clear c8
  try clear c10
  try clear c11
  try clear c11b0
  try clear c13
  try clear c13b0
  try clear c15
  try clear c15b0
  try clear c17
  try clear c17b0
  try clear c19
  try clear c19b0
  try clear c19b1
  try clear hcz12
  try clear hcz14
  try clear hcz16
  try clear hcz18
  try clear hcz20
  try clear hcz21
  try clear hcz22
  try clear hcz23
  try clear hcz24
  try clear hcz4
  try clear hfz12
  try clear hfz14
  try clear hfz16
  try clear hfz18
  try clear hfz20
  try clear hfz21
  try clear hfz22
  try clear hfz23
  try clear hfz24
  try clear hfz4
  obtain ⟨kq, x11_1, rfl, HA, HJ1, HO_263009, BK262, HB⟩ := hcut
  cases kq with
  | zero => exact absurd HA.out (by simp [ip_Build.j0])
  | succ kj1 =>
   have H := HA.out
   clear HA
   simp only [ip_Build.j0] at H
   by_cases c25 : x11_1 = true
   ·subst c25
    have H1 : (some (([] : List Int), 1)) = some (r1, r2) := by rw [if_pos rfl] at H; exact H
    clear H
    have H := H1
    clear H1
    simp only [Option.some.injEq, Prod.mk.injEq] at H
    obtain ⟨rfl, rfl⟩ := H
    go_wp2
    go_ret2
    exact ⟨_, by first | rfl | (simp [errW_none, errW_some] <;> rfl) | (simp [*, errW_none, errW_some] <;> rfl), by first | exact Kd.R_nil _ _ _ _ _ | exact Kd.N_nil _ _ _ _ _ | exact Kd.V_nil _ _ _ _ _ | exact Kd.Q_nil _ _ _ _ _ | exact Kd.S_nil _ _ _ _ _, by repeat (first | (with_reducible first | exact HB.out | apply below_alloc | apply pw_below_drewN | apply below_drew1 | refine below_set ?_ GE262.out) | exact HB.out)⟩
   ·replace c25 := Bool.eq_false_iff.mpr c25
    subst c25
    have H1 : (if (l0_10.length : Int) > (wrap64 (65535 - (wrap64 (20 + (l0_9.length : Int))))) then (some (([] : List Int), 5)) else (if a0_2 = true then (ip_Build.j1 kj1 (wrap64 (20 + (l0_9.length : Int))) (Go.bits .or .i64 a0_4 16384) a0_0 a0_1 a0_2 a0_3 a0_4 a0_5 a0_6 a0_7 a0_8 l0_9 l0_10) else (ip_Build.j1 kj1 (wrap64 (20 + (l0_9.length : Int))) a0_4 a0_0 a0_1 a0_2 a0_3 a0_4 a0_5 a0_6 a0_7 a0_8 l0_9 l0_10))) = some (r1, r2) := by rw [if_neg (show ¬ (false = true) by decide)] at H; exact H
    clear H
    have H := H1
    clear H1
    by_cases c26 : (l0_10.length : Int) > (wrap64 (65535 - (wrap64 (20 + (l0_9.length : Int)))))
    ·rw [if_pos c26] at H
     have c26b0 : decide ((wrap64 (65535 - (wrap64 (20 + (l0_9.length : Int))))) < (l0_10.length : Int)) = true := decide_eq_true c26
     clear c26
     simp only [Option.some.injEq, Prod.mk.injEq] at H
     obtain ⟨rfl, rfl⟩ := H
     have hcz27 := fun j => blk_cell BK262.out j
     have hfz27 := fun j => blk_frozen BK262.out j
     go_wp2
     go_ret2
     exact ⟨_, by first | rfl | (simp [errW_none, errW_some] <;> rfl) | (simp [*, errW_none, errW_some] <;> rfl), by first | exact Kd.R_nil _ _ _ _ _ | exact Kd.N_nil _ _ _ _ _ | exact Kd.V_nil _ _ _ _ _ | exact Kd.Q_nil _ _ _ _ _ | exact Kd.S_nil _ _ _ _ _, by repeat (first | (with_reducible first | exact HB.out | apply below_alloc | apply pw_below_drewN | apply below_drew1 | refine below_set ?_ GE262.out) | exact HB.out)⟩
    ·rw [if_neg c26] at H
     have c26b0 : decide ((wrap64 (65535 - (wrap64 (20 + (l0_9.length : Int))))) < (l0_10.length : Int)) = false := decide_eq_false c26
     clear c26
     have HC28 := Aside0.mk H
     clear H
     have hcz29 := fun j => blk_cell BK262.out j
     have hfz29 := fun j => blk_frozen BK262.out j
     go_upto_if 71 with (fail)
     go_cut [5] (fun v5 wc => ∃ (kq : Nat) (x5_27 : Int), v5 = .int .i64 x5_27 ∧ Aside0 (ip_Build.j1 kq (wrap64 (20 + (l0_9.length : Int))) x5_27 a0_0 a0_1 a0_2 a0_3 a0_4 a0_5 a0_6 a0_7 a0_8 l0_9 l0_10 = some (r1, r2)) ∧ Aside0 (kq ≤ kj1) ∧ Aside0 (Kd.V (Kd.int .u8) 5 wc w.heap.size (fun k_ => (P0_9_ k_ ∨ w.heap.size ≤ k_) ∧ k_ ≠ gb262) (.slice A0_9 l0_9.length c0_9) l0_9) ∧ Aside0 (wc.heap[gb262]? = some (.cells #[.int .i64 a0_0, .int .i64 a0_1, .bool a0_2, .bool a0_3, .int .i64 a0_4, .int .i64 a0_5, .int .i64 a0_6, .int .u32 a0_7, .int .u32 a0_8, (.slice A0_9 l0_9.length c0_9), (.slice A0_10 l0_10.length c0_10)] 26 (0, 0))) ∧ Aside0 (Below w.heap.size w wc))
     case first =>
      have H := HC28.out
      clear HC28
      by_cases c30 : a0_2 = true
      ·subst c30
       have H1 : (ip_Build.j1 kj1 (wrap64 (20 + (l0_9.length : Int))) (Go.bits .or .i64 a0_4 16384) a0_0 a0_1 true a0_3 a0_4 a0_5 a0_6 a0_7 a0_8 l0_9 l0_10) = some (r1, r2) := by rw [if_pos rfl] at H; exact H
       clear H
       have H := H1
       clear H1
       have H' := Aside0.mk H
       clear H
       go_wp2
       go_meet
       case rel => exact ⟨_, (Go.bits .or .i64 a0_4 16384), (by first | rfl | (simp; done) | (simp [*]; done)), H', ⟨by have := HJ1.out; first | omega | exact Nat.le_refl _⟩, ⟨by (with_reducible repeat (first | apply Kd.V_alloc | apply Kd.V_drewN | apply Kd.V_drew)); exact HO_263009.out⟩, ⟨by (with_reducible repeat (first | refine blk_drewN ?_ _ | refine blk_drew ?_ | refine blk_alloc ?_ _)); exact BK262.out⟩, ⟨by repeat (first | (with_reducible first | exact HB.out | apply below_alloc | apply pw_below_drewN | apply below_drew1 | refine below_set ?_ GE262.out) | exact HB.out)⟩⟩
      ·replace c30 := Bool.eq_false_iff.mpr c30
       subst c30
       have H1 : (ip_Build.j1 kj1 (wrap64 (20 + (l0_9.length : Int))) a0_4 a0_0 a0_1 false a0_3 a0_4 a0_5 a0_6 a0_7 a0_8 l0_9 l0_10) = some (r1, r2) := by rw [if_neg (show ¬ (false = true) by decide)] at H; exact H
       clear H
       have H := H1
       clear H1
       have H' := Aside0.mk H
       clear H
       go_wp2
       go_meet
       case rel => exact ⟨_, (a0_4), (by first | rfl | (simp; done) | (simp [*]; done)), H', ⟨by have := HJ1.out; first | omega | exact Nat.le_refl _⟩, ⟨by (with_reducible repeat (first | apply Kd.V_alloc | apply Kd.V_drewN | apply Kd.V_drew)); exact HO_263009.out⟩, ⟨by (with_reducible repeat (first | refine blk_drewN ?_ _ | refine blk_drew ?_ | refine blk_alloc ?_ _)); exact BK262.out⟩, ⟨by repeat (first | (with_reducible first | exact HB.out | apply below_alloc | apply pw_below_drewN | apply below_drew1 | refine below_set ?_ GE262.out) | exact HB.out)⟩⟩
     case rest =>
      clear HC28
      try clear c1
      try clear c2
      try clear p2
      try clear c3
      try clear c5
      try clear c6
      try clear p6
      try clear c7
      try clear c8
      try clear c10
      try clear c11
      try clear c11b0
      try clear c13
      try clear c13b0
      try clear c15
      try clear c15b0
      try clear c17
      try clear c17b0
      try clear c19
      try clear c19b0
      try clear c19b1
      try clear c25
      try clear c26
      try clear c26b0
      try clear c30
      try clear hcz12
      try clear hcz14
      try clear hcz16
      try clear hcz18
      try clear hcz20
      try clear hcz21
      try clear hcz22
      try clear hcz23
      try clear hcz24
      try clear hcz27
      try clear hcz29
      try clear hcz4
      try clear hfz12
      try clear hfz14
      try clear hfz16
      try clear hfz18
      try clear hfz20
      try clear hfz21
      try clear hfz22
      try clear hfz23
      try clear hfz24
      try clear hfz27
      try clear hfz29
      try clear hfz4
      try clear p2
      try clear p6
      obtain ⟨kq, x5_27, rfl, HA, HJ27, HO_263009, BK262, HB⟩ := hcut
      cases kq with
      | zero => exact absurd HA.out (by simp [ip_Build.j1])
      | succ kj27 =>
       have H := HA.out
       clear HA
       simp only [ip_Build.j1] at H
       have HC31 := Aside0.mk H
       clear H
       have hcz32 := fun j => blk_cell BK262.out j
       have hfz32 := fun j => blk_frozen BK262.out j
       go_upto_if 75 with (fail)
       go_cut [5] (fun v5 wc => ∃ (kq : Nat) (x5_30 : Int), v5 = .int .i64 x5_30 ∧ Aside0 (ip_Build.j2 kq (wrap64 (20 + (l0_9.length : Int))) x5_30 a0_0 a0_1 a0_2 a0_3 a0_4 a0_5 a0_6 a0_7 a0_8 l0_9 l0_10 = some (r1, r2)) ∧ Aside0 (kq ≤ kj27) ∧ Aside0 (Kd.V (Kd.int .u8) 5 wc w.heap.size (fun k_ => (P0_9_ k_ ∨ w.heap.size ≤ k_) ∧ k_ ≠ gb262) (.slice A0_9 l0_9.length c0_9) l0_9) ∧ Aside0 (wc.heap[gb262]? = some (.cells #[.int .i64 a0_0, .int .i64 a0_1, .bool a0_2, .bool a0_3, .int .i64 a0_4, .int .i64 a0_5, .int .i64 a0_6, .int .u32 a0_7, .int .u32 a0_8, (.slice A0_9 l0_9.length c0_9), (.slice A0_10 l0_10.length c0_10)] 26 (0, 0))) ∧ Aside0 (Below w.heap.size w wc))
       case first =>
        have H := HC31.out
        clear HC31
        by_cases c33 : a0_3 = true
        ·subst c33
         have H1 : (ip_Build.j2 kj27 (wrap64 (20 + (l0_9.length : Int))) (Go.bits .or .i64 x5_27 8192) a0_0 a0_1 a0_2 true a0_4 a0_5 a0_6 a0_7 a0_8 l0_9 l0_10) = some (r1, r2) := by rw [if_pos rfl] at H; exact H
         clear H
         have H := H1
         clear H1
         have H' := Aside0.mk H
         clear H
         go_wp2
         go_meet
         case rel => exact ⟨_, (Go.bits .or .i64 x5_27 8192), (by first | rfl | (simp; done) | (simp [*]; done)), H', ⟨by have := HJ1.out; have := HJ27.out; first | omega | exact Nat.le_refl _⟩, ⟨by (with_reducible repeat (first | apply Kd.V_alloc | apply Kd.V_drewN | apply Kd.V_drew)); exact HO_263009.out⟩, ⟨by (with_reducible repeat (first | refine blk_drewN ?_ _ | refine blk_drew ?_ | refine blk_alloc ?_ _)); exact BK262.out⟩, ⟨by repeat (first | (with_reducible first | exact HB.out | apply below_alloc | apply pw_below_drewN | apply below_drew1 | refine below_set ?_ GE262.out) | exact HB.out)⟩⟩
        ·replace c33 := Bool.eq_false_iff.mpr c33
         subst c33
         have H1 : (ip_Build.j2 kj27 (wrap64 (20 + (l0_9.length : Int))) x5_27 a0_0 a0_1 a0_2 false a0_4 a0_5 a0_6 a0_7 a0_8 l0_9 l0_10) = some (r1, r2) := by rw [if_neg (show ¬ (false = true) by decide)] at H; exact H
         clear H
         have H := H1
         clear H1
         have H' := Aside0.mk H
         clear H
         go_wp2
         go_meet
         case rel => exact ⟨_, (x5_27), (by first | rfl | (simp; done) | (simp [*]; done)), H', ⟨by have := HJ1.out; have := HJ27.out; first | omega | exact Nat.le_refl _⟩, ⟨by (with_reducible repeat (first | apply Kd.V_alloc | apply Kd.V_drewN | apply Kd.V_drew)); exact HO_263009.out⟩, ⟨by (with_reducible repeat (first | refine blk_drewN ?_ _ | refine blk_drew ?_ | refine blk_alloc ?_ _)); exact BK262.out⟩, ⟨by repeat (first | (with_reducible first | exact HB.out | apply below_alloc | apply pw_below_drewN | apply below_drew1 | refine below_set ?_ GE262.out) | exact HB.out)⟩⟩
       case rest =>
        clear HC31
        try clear c1
        try clear c2
        try clear p2
        try clear c3
        try clear c5
        try clear c6
        try clear p6
        try clear c7
        try clear c8
        try clear c10
        try clear c11
        try clear c11b0
        try clear c13
        try clear c13b0
        try clear c15
        try clear c15b0
        try clear c17
        try clear c17b0
        try clear c19
        try clear c19b0
        try clear c19b1
        try clear c25
        try clear c26
        try clear c26b0
        try clear c30
        try clear c33
        try clear hcz12
        try clear hcz14
        try clear hcz16
        try clear hcz18
        try clear hcz20
        try clear hcz21
        try clear hcz22
        try clear hcz23
        try clear hcz24
        try clear hcz27
        try clear hcz29
        try clear hcz32
        try clear hcz4
        try clear hfz12
        try clear hfz14
        try clear hfz16
        try clear hfz18
        try clear hfz20
        try clear hfz21
        try clear hfz22
        try clear hfz23
        try clear hfz24
        try clear hfz27
        try clear hfz29
        try clear hfz32
        try clear hfz4
        try clear p2
        try clear p6
        obtain ⟨kq, x5_30, rfl, HA, HJ30, HO_263009, BK262, HB⟩ := hcut
        cases kq with
        | zero => exact absurd HA.out (by simp [ip_Build.j2])
        | succ kj30 =>
         have H := HA.out
         clear HA
         simp only [ip_Build.j2] at H
         obtain ⟨y266, hy266⟩ : ∃ y_ : List Int, y_ = (([(Go.bits .or .i64 64 (wrap64 (Int.tdiv (wrap64 (20 + (l0_9.length : Int))) 4))) % 256, (a0_0) % 256] : List Int)) := ⟨_, rfl⟩
         replace H : ((word_Put16.f (wrap64 ((wrap64 (20 + (l0_9.length : Int))) + (l0_10.length : Int)))).bind fun t269 => ((word_Put16.f a0_1).bind fun t272 => ((word_Put16.f x5_30).bind fun t275 => ((word_Put32.f a0_7).bind fun t281 => ((word_Put32.f a0_8).bind fun t284 => ((word_Join.f kj30 (([y266, t269, t272, t275, (([(a0_5) % 256, (a0_6) % 256, 0, 0] : List Int)), t281, t284, l0_9] : List (List Int)))).bind fun t290 => ((sum_Of.f kj30 (([t290] : List (List Int)))).bind fun t296 => ((word_Put16.f t296).bind fun t297 => (if 0 < (t297.length : Int) then (if 10 < (t290.length : Int) then (if 1 < (t297.length : Int) then (if 11 < (t290.length : Int) then ((some ((t290.set (10 : Int).toNat (rd t297 0)).set (11 : Int).toNat (rd t297 1) : List Int)).bind fun y303 => (if y303.length + l0_10.length < 140737488355328 then (some ((y303 ++ l0_10), 0)) else (none))) else (none)) else (none)) else (none)) else (none)))))))))) = some (r1, r2) := by first | (rw [hy266]; with_reducible exact H) | (have H2_ := (Option.bind_some _ _).symm.trans H; rw [hy266]; with_reducible exact H2_) | (have H2_ := (Option.bind_some _ _).symm.trans H; with_reducible exact H2_) | with_reducible exact H | (rw [hy266]; exact H) | exact H
         have Ny266 := Aside0.mk hy266
         clear hy266
         replace H := Option.bind_eq_some_iff.mp H
         obtain ⟨t269, A340, H⟩ := H
         replace H : ((word_Put16.f a0_1).bind fun t272 => ((word_Put16.f x5_30).bind fun t275 => ((word_Put32.f a0_7).bind fun t281 => ((word_Put32.f a0_8).bind fun t284 => ((word_Join.f kj30 (([y266, t269, t272, t275, (([(a0_5) % 256, (a0_6) % 256, 0, 0] : List Int)), t281, t284, l0_9] : List (List Int)))).bind fun t290 => ((sum_Of.f kj30 (([t290] : List (List Int)))).bind fun t296 => ((word_Put16.f t296).bind fun t297 => (if 0 < (t297.length : Int) then (if 10 < (t290.length : Int) then (if 1 < (t297.length : Int) then (if 11 < (t290.length : Int) then ((some ((t290.set (10 : Int).toNat (rd t297 0)).set (11 : Int).toNat (rd t297 1) : List Int)).bind fun y303 => (if y303.length + l0_10.length < 140737488355328 then (some ((y303 ++ l0_10), 0)) else (none))) else (none)) else (none)) else (none)) else (none))))))))) = some (r1, r2) := H
         have A34 := Aside0.mk A340
         clear A340
         replace H := Option.bind_eq_some_iff.mp H
         obtain ⟨t272, A350, H⟩ := H
         replace H : ((word_Put16.f x5_30).bind fun t275 => ((word_Put32.f a0_7).bind fun t281 => ((word_Put32.f a0_8).bind fun t284 => ((word_Join.f kj30 (([y266, t269, t272, t275, (([(a0_5) % 256, (a0_6) % 256, 0, 0] : List Int)), t281, t284, l0_9] : List (List Int)))).bind fun t290 => ((sum_Of.f kj30 (([t290] : List (List Int)))).bind fun t296 => ((word_Put16.f t296).bind fun t297 => (if 0 < (t297.length : Int) then (if 10 < (t290.length : Int) then (if 1 < (t297.length : Int) then (if 11 < (t290.length : Int) then ((some ((t290.set (10 : Int).toNat (rd t297 0)).set (11 : Int).toNat (rd t297 1) : List Int)).bind fun y303 => (if y303.length + l0_10.length < 140737488355328 then (some ((y303 ++ l0_10), 0)) else (none))) else (none)) else (none)) else (none)) else (none)))))))) = some (r1, r2) := H
         have A35 := Aside0.mk A350
         clear A350
         replace H := Option.bind_eq_some_iff.mp H
         obtain ⟨t275, A360, H⟩ := H
         replace H : ((word_Put32.f a0_7).bind fun t281 => ((word_Put32.f a0_8).bind fun t284 => ((word_Join.f kj30 (([y266, t269, t272, t275, (([(a0_5) % 256, (a0_6) % 256, 0, 0] : List Int)), t281, t284, l0_9] : List (List Int)))).bind fun t290 => ((sum_Of.f kj30 (([t290] : List (List Int)))).bind fun t296 => ((word_Put16.f t296).bind fun t297 => (if 0 < (t297.length : Int) then (if 10 < (t290.length : Int) then (if 1 < (t297.length : Int) then (if 11 < (t290.length : Int) then ((some ((t290.set (10 : Int).toNat (rd t297 0)).set (11 : Int).toNat (rd t297 1) : List Int)).bind fun y303 => (if y303.length + l0_10.length < 140737488355328 then (some ((y303 ++ l0_10), 0)) else (none))) else (none)) else (none)) else (none)) else (none))))))) = some (r1, r2) := H
         have A36 := Aside0.mk A360
         clear A360
         obtain ⟨y278, hy278⟩ : ∃ y_ : List Int, y_ = (([(a0_5) % 256, (a0_6) % 256, 0, 0] : List Int)) := ⟨_, rfl⟩
         replace H : ((word_Put32.f a0_7).bind fun t281 => ((word_Put32.f a0_8).bind fun t284 => ((word_Join.f kj30 (([y266, t269, t272, t275, y278, t281, t284, l0_9] : List (List Int)))).bind fun t290 => ((sum_Of.f kj30 (([t290] : List (List Int)))).bind fun t296 => ((word_Put16.f t296).bind fun t297 => (if 0 < (t297.length : Int) then (if 10 < (t290.length : Int) then (if 1 < (t297.length : Int) then (if 11 < (t290.length : Int) then ((some ((t290.set (10 : Int).toNat (rd t297 0)).set (11 : Int).toNat (rd t297 1) : List Int)).bind fun y303 => (if y303.length + l0_10.length < 140737488355328 then (some ((y303 ++ l0_10), 0)) else (none))) else (none)) else (none)) else (none)) else (none))))))) = some (r1, r2) := by first | (rw [hy278]; with_reducible exact H) | (have H2_ := (Option.bind_some _ _).symm.trans H; rw [hy278]; with_reducible exact H2_) | (have H2_ := (Option.bind_some _ _).symm.trans H; with_reducible exact H2_) | with_reducible exact H | (rw [hy278]; exact H) | exact H
         have Ny278 := Aside0.mk hy278
         clear hy278
         replace H := Option.bind_eq_some_iff.mp H
         obtain ⟨t281, A370, H⟩ := H
         replace H : ((word_Put32.f a0_8).bind fun t284 => ((word_Join.f kj30 (([y266, t269, t272, t275, y278, t281, t284, l0_9] : List (List Int)))).bind fun t290 => ((sum_Of.f kj30 (([t290] : List (List Int)))).bind fun t296 => ((word_Put16.f t296).bind fun t297 => (if 0 < (t297.length : Int) then (if 10 < (t290.length : Int) then (if 1 < (t297.length : Int) then (if 11 < (t290.length : Int) then ((some ((t290.set (10 : Int).toNat (rd t297 0)).set (11 : Int).toNat (rd t297 1) : List Int)).bind fun y303 => (if y303.length + l0_10.length < 140737488355328 then (some ((y303 ++ l0_10), 0)) else (none))) else (none)) else (none)) else (none)) else (none)))))) = some (r1, r2) := H
         have A37 := Aside0.mk A370
         clear A370
         replace H := Option.bind_eq_some_iff.mp H
         obtain ⟨t284, A380, H⟩ := H
         replace H : ((word_Join.f kj30 (([y266, t269, t272, t275, y278, t281, t284, l0_9] : List (List Int)))).bind fun t290 => ((sum_Of.f kj30 (([t290] : List (List Int)))).bind fun t296 => ((word_Put16.f t296).bind fun t297 => (if 0 < (t297.length : Int) then (if 10 < (t290.length : Int) then (if 1 < (t297.length : Int) then (if 11 < (t290.length : Int) then ((some ((t290.set (10 : Int).toNat (rd t297 0)).set (11 : Int).toNat (rd t297 1) : List Int)).bind fun y303 => (if y303.length + l0_10.length < 140737488355328 then (some ((y303 ++ l0_10), 0)) else (none))) else (none)) else (none)) else (none)) else (none))))) = some (r1, r2) := H
         have A38 := Aside0.mk A380
         clear A380
         obtain ⟨y287, hy287⟩ : ∃ y_ : List (List Int), y_ = (([y266, t269, t272, t275, y278, t281, t284, l0_9] : List (List Int))) := ⟨_, rfl⟩
         replace H : ((word_Join.f kj30 y287).bind fun t290 => ((sum_Of.f kj30 (([t290] : List (List Int)))).bind fun t296 => ((word_Put16.f t296).bind fun t297 => (if 0 < (t297.length : Int) then (if 10 < (t290.length : Int) then (if 1 < (t297.length : Int) then (if 11 < (t290.length : Int) then ((some ((t290.set (10 : Int).toNat (rd t297 0)).set (11 : Int).toNat (rd t297 1) : List Int)).bind fun y303 => (if y303.length + l0_10.length < 140737488355328 then (some ((y303 ++ l0_10), 0)) else (none))) else (none)) else (none)) else (none)) else (none))))) = some (r1, r2) := by first | (rw [hy287]; with_reducible exact H) | (have H2_ := (Option.bind_some _ _).symm.trans H; rw [hy287]; with_reducible exact H2_) | (have H2_ := (Option.bind_some _ _).symm.trans H; with_reducible exact H2_) | with_reducible exact H | (rw [hy287]; exact H) | exact H
         have Ny287 := Aside0.mk hy287
         clear hy287
         replace H := Option.bind_eq_some_iff.mp H
         obtain ⟨t290, A390, H⟩ := H
         replace H : ((sum_Of.f kj30 (([t290] : List (List Int)))).bind fun t296 => ((word_Put16.f t296).bind fun t297 => (if 0 < (t297.length : Int) then (if 10 < (t290.length : Int) then (if 1 < (t297.length : Int) then (if 11 < (t290.length : Int) then ((some ((t290.set (10 : Int).toNat (rd t297 0)).set (11 : Int).toNat (rd t297 1) : List Int)).bind fun y303 => (if y303.length + l0_10.length < 140737488355328 then (some ((y303 ++ l0_10), 0)) else (none))) else (none)) else (none)) else (none)) else (none)))) = some (r1, r2) := H
         have A39 := Aside0.mk A390
         clear A390
         obtain ⟨y293, hy293⟩ : ∃ y_ : List (List Int), y_ = (([t290] : List (List Int))) := ⟨_, rfl⟩
         replace H : ((sum_Of.f kj30 y293).bind fun t296 => ((word_Put16.f t296).bind fun t297 => (if 0 < (t297.length : Int) then (if 10 < (t290.length : Int) then (if 1 < (t297.length : Int) then (if 11 < (t290.length : Int) then ((some ((t290.set (10 : Int).toNat (rd t297 0)).set (11 : Int).toNat (rd t297 1) : List Int)).bind fun y303 => (if y303.length + l0_10.length < 140737488355328 then (some ((y303 ++ l0_10), 0)) else (none))) else (none)) else (none)) else (none)) else (none)))) = some (r1, r2) := by first | (rw [hy293]; with_reducible exact H) | (have H2_ := (Option.bind_some _ _).symm.trans H; rw [hy293]; with_reducible exact H2_) | (have H2_ := (Option.bind_some _ _).symm.trans H; with_reducible exact H2_) | with_reducible exact H | (rw [hy293]; exact H) | exact H
         have Ny293 := Aside0.mk hy293
         clear hy293
         replace H := Option.bind_eq_some_iff.mp H
         obtain ⟨t296, A400, H⟩ := H
         replace H : ((word_Put16.f t296).bind fun t297 => (if 0 < (t297.length : Int) then (if 10 < (t290.length : Int) then (if 1 < (t297.length : Int) then (if 11 < (t290.length : Int) then ((some ((t290.set (10 : Int).toNat (rd t297 0)).set (11 : Int).toNat (rd t297 1) : List Int)).bind fun y303 => (if y303.length + l0_10.length < 140737488355328 then (some ((y303 ++ l0_10), 0)) else (none))) else (none)) else (none)) else (none)) else (none))) = some (r1, r2) := H
         have A40 := Aside0.mk A400
         clear A400
         replace H := Option.bind_eq_some_iff.mp H
         obtain ⟨t297, A410, H⟩ := H
         replace H : (if 0 < (t297.length : Int) then (if 10 < (t290.length : Int) then (if 1 < (t297.length : Int) then (if 11 < (t290.length : Int) then ((some ((t290.set (10 : Int).toNat (rd t297 0)).set (11 : Int).toNat (rd t297 1) : List Int)).bind fun y303 => (if y303.length + l0_10.length < 140737488355328 then (some ((y303 ++ l0_10), 0)) else (none))) else (none)) else (none)) else (none)) else (none)) = some (r1, r2) := H
         have A41 := Aside0.mk A410
         clear A410
         by_cases c42 : 0 < (t297.length : Int)
         ·rw [if_pos c42] at H
          have c42b0 : decide (0 < (t297.length : Int)) = true := decide_eq_true c42
          have c42b1 : decide (0 < t297.length) = true := decide_eq_true (by omega)
          clear c42
          by_cases c43 : 10 < (t290.length : Int)
          ·rw [if_pos c43] at H
           have c43b0 : decide (10 < (t290.length : Int)) = true := decide_eq_true c43
           have c43b1 : decide (10 < t290.length) = true := decide_eq_true (by omega)
           clear c43
           obtain ⟨y301, hy301⟩ : ∃ y_ : List Int, y_ = (t290.set (10 : Int).toNat (rd t297 0)) := ⟨_, rfl⟩
           replace H : (if 1 < (t297.length : Int) then (if 11 < (t290.length : Int) then ((some (y301.set (11 : Int).toNat (rd t297 1) : List Int)).bind fun y303 => (if y303.length + l0_10.length < 140737488355328 then (some ((y303 ++ l0_10), 0)) else (none))) else (none)) else (none)) = some (r1, r2) := by first | (rw [hy301]; with_reducible exact H) | (have H2_ := (Option.bind_some _ _).symm.trans H; rw [hy301]; with_reducible exact H2_) | (have H2_ := (Option.bind_some _ _).symm.trans H; with_reducible exact H2_) | with_reducible exact H | (rw [hy301]; exact H) | exact H
           have Ny301 := Aside0.mk hy301
           clear hy301
           by_cases c45 : 1 < (t297.length : Int)
           ·rw [if_pos c45] at H
            have c45b0 : decide (1 < (t297.length : Int)) = true := decide_eq_true c45
            have c45b1 : decide (1 < t297.length) = true := decide_eq_true (by omega)
            clear c45
            by_cases c46 : 11 < (t290.length : Int)
            ·rw [if_pos c46] at H
             have c46b0 : decide (11 < (t290.length : Int)) = true := decide_eq_true c46
             have c46b1 : decide (11 < t290.length) = true := decide_eq_true (by omega)
             clear c46
             obtain ⟨y303, hy303⟩ : ∃ y_ : List Int, y_ = (y301.set (11 : Int).toNat (rd t297 1)) := ⟨_, rfl⟩
             replace H : (if y303.length + l0_10.length < 140737488355328 then (some ((y303 ++ l0_10), 0)) else (none)) = some (r1, r2) := by first | (rw [hy303]; with_reducible exact H) | (have H2_ := (Option.bind_some _ _).symm.trans H; rw [hy303]; with_reducible exact H2_) | (have H2_ := (Option.bind_some _ _).symm.trans H; with_reducible exact H2_) | with_reducible exact H | (rw [hy303]; exact H) | exact H
             have Ny303 := Aside0.mk hy303
             clear hy303
             by_cases c48 : y303.length + l0_10.length < 140737488355328
             ·rw [if_pos c48] at H
              have LMc48 := Aside0.mk c48
              clear c48
              obtain ⟨y304, hy304⟩ : ∃ y_ : List Int, y_ = (y303 ++ l0_10) := ⟨_, rfl⟩
              replace H : (some (y304, 0)) = some (r1, r2) := by first | (rw [hy304]; with_reducible exact H) | (have H2_ := (Option.bind_some _ _).symm.trans H; rw [hy304]; with_reducible exact H2_) | (have H2_ := (Option.bind_some _ _).symm.trans H; with_reducible exact H2_) | with_reducible exact H | (rw [hy304]; exact H) | exact H
              have Ny304 := Aside0.mk hy304
              clear hy304
              simp only [Option.some.injEq, Prod.mk.injEq] at H
              obtain ⟨rfl, rfl⟩ := H
              try go_wp2
              have n0_ := Aside0.mk (Kd.V_drew HO_263009.out)
              have n1_ := Aside0.mk (blk_drew BK262.out)
              have n2_ := Aside0.mk (below_drew1 HB.out)
              clear HO_263009
              clear BK262
              clear HB
              have HO_263009 := n0_
              have BK262 := n1_
              have HB := n2_
              clear n0_ n1_ n2_
              refine start_ (n := 37) (S := fun w' => True) (ds := []) #[false, false, false, false, false, false, false, false, false, false, false, false, false, false, false, false, false, false, false, false, false, false, false, false, false, false, false, false, false, false, false, false, false, false, false, false, false] (by kernel_rfl) rfl rfl trivial (fun hHeld => ?_); refine with_tabW ip_Build.tab11 ip_Build.bits11 (fun HT_ HW_ => ?_)
              generalize wc.drew = w49 at HO_263009 BK262 HB hHeld ⊢
              refine pure_ (i := 0) (N := some 78) (v := ?_) (a' := ?_) #[true, false, false, false, false, false, false, false, false, false, false, false, false, false, false, false, false, false, false, false, false, false, false, false, false, false, false, false, false, false, false, false, false, false, false, false, false] rfl rfl (any_of HT_.out (by kernel_rfl)) (fun _ _ _ h => h) (Or.inl ⟨by rfl, ?_⟩) ?_ ?_
              rotate_left
              ·intro w'
               go_simp
               with_reducible rfl
              rotate_left
              ·simp only [Act.put, List.setIfInBounds_toArray, List.set_cons_zero, List.set_cons_succ, i64_w, i32_w]
               rfl
              refine pure_ (i := 4) (N := some 82) (v := ?_) (a' := ?_) #[true, false, false, false, true, false, false, false, false, false, false, false, false, false, false, false, false, false, false, false, false, false, false, false, false, false, false, false, false, false, false, false, false, false, false, false, false] rfl rfl (any_of HT_.out (by kernel_rfl)) (fun _ _ _ h => h) (Or.inl ⟨by rfl, ?_⟩) ?_ ?_
              rotate_left
              ·intro w'
               go_simp
               with_reducible rfl
              rotate_left
              ·simp only [Act.put, List.setIfInBounds_toArray, List.set_cons_zero, List.set_cons_succ, i64_w, i32_w]
               rfl
              refine pure_ (i := 8) (N := some 86) (v := ?_) (a' := ?_) #[true, false, false, false, true, false, false, false, true, false, false, false, false, false, false, false, false, false, false, false, false, false, false, false, false, false, false, false, false, false, false, false, false, false, false, false, false] rfl rfl (any_of HT_.out (by kernel_rfl)) (fun _ _ _ h => h) (Or.inl ⟨by rfl, ?_⟩) ?_ ?_
              rotate_left
              ·intro w'
               go_simp
               with_reducible rfl
              rotate_left
              ·simp only [Act.put, List.setIfInBounds_toArray, List.set_cons_zero, List.set_cons_succ, i64_w, i32_w]
               rfl
              refine pure_ (i := 9) (N := some 87) (v := ?_) (a' := ?_) #[true, false, false, false, true, false, false, false, true, true, false, false, false, false, false, false, false, false, false, false, false, false, false, false, false, false, false, false, false, false, false, false, false, false, false, false, false] rfl rfl (any_of HT_.out (by kernel_rfl)) (fun _ _ _ h => h) (Or.inl ⟨by rfl, ?_⟩) ?_ ?_
              rotate_left
              ·intro w'
               go_simp
               with_reducible rfl
              rotate_left
              ·simp only [Act.put, List.setIfInBounds_toArray, List.set_cons_zero, List.set_cons_succ, i64_w, i32_w]
               rfl
              refine pure_ (i := 14) (N := some 92) (v := ?_) (a' := ?_) #[true, false, false, false, true, false, false, false, true, true, false, false, false, false, true, false, false, false, false, false, false, false, false, false, false, false, false, false, false, false, false, false, false, false, false, false, false] rfl rfl (any_of HT_.out (by kernel_rfl)) (fun _ _ _ h => h) (Or.inl ⟨by rfl, ?_⟩) ?_ ?_
              rotate_left
              ·intro w'
               go_simp
               with_reducible rfl
              rotate_left
              ·simp only [Act.put, List.setIfInBounds_toArray, List.set_cons_zero, List.set_cons_succ, i64_w, i32_w]
               rfl
              refine pure_ (i := 17) (N := some 95) (v := ?_) (a' := ?_) #[true, false, false, false, true, false, false, false, true, true, false, false, false, false, true, false, false, true, false, false, false, false, false, false, false, false, false, false, false, false, false, false, false, false, false, false, false] rfl rfl (any_of HT_.out (by kernel_rfl)) (fun _ _ _ h => h) (Or.inl ⟨by rfl, ?_⟩) ?_ ?_
              rotate_left
              ·intro w'
               go_simp
               with_reducible rfl
              rotate_left
              ·simp only [Act.put, List.setIfInBounds_toArray, List.set_cons_zero, List.set_cons_succ, i64_w, i32_w]
               rfl
              refine pure_ (i := 19) (N := some 97) (v := ?_) (a' := ?_) #[true, false, false, false, true, false, false, false, true, true, false, false, false, false, true, false, false, true, false, true, false, false, false, false, false, false, false, false, false, false, false, false, false, false, false, false, false] rfl rfl (any_of HT_.out (by kernel_rfl)) (fun _ _ _ h => h) (Or.inl ⟨by rfl, ?_⟩) ?_ ?_
              rotate_left
              ·intro w'
               go_simp
               with_reducible rfl
              rotate_left
              ·simp only [Act.put, List.setIfInBounds_toArray, List.set_cons_zero, List.set_cons_succ, i64_w, i32_w]
               rfl
              refine pure_ (i := 22) (N := some 100) (v := ?_) (a' := ?_) #[true, false, false, false, true, false, false, false, true, true, false, false, false, false, true, false, false, true, false, true, false, false, true, false, false, false, false, false, false, false, false, false, false, false, false, false, false] rfl rfl (any_of HT_.out (by kernel_rfl)) (fun _ _ _ h => h) (Or.inl ⟨by rfl, ?_⟩) ?_ ?_
              rotate_left
              ·intro w'
               go_simp
               with_reducible rfl
              rotate_left
              ·simp only [Act.put, List.setIfInBounds_toArray, List.set_cons_zero, List.set_cons_succ, i64_w, i32_w]
               rfl
              refine pure_ (i := 26) (N := some 104) (v := ?_) (a' := ?_) #[true, false, false, false, true, false, false, false, true, true, false, false, false, false, true, false, false, true, false, true, false, false, true, false, false, false, true, false, false, false, false, false, false, false, false, false, false] rfl rfl (any_of HT_.out (by kernel_rfl)) (fun _ _ _ h => h) (Or.inl ⟨by rfl, ?_⟩) ?_ ?_
              rotate_left
              ·intro w'
               go_simp
               with_reducible rfl
              rotate_left
              ·simp only [Act.put, List.setIfInBounds_toArray, List.set_cons_zero, List.set_cons_succ, i64_w, i32_w]
               rfl
              refine pure_ (i := 29) (N := some 107) (v := ?_) (a' := ?_) #[true, false, false, false, true, false, false, false, true, true, false, false, false, false, true, false, false, true, false, true, false, false, true, false, false, false, true, false, false, true, false, false, false, false, false, false, false] rfl rfl (any_of HT_.out (by kernel_rfl)) (fun _ _ _ h => h) (Or.inl ⟨by rfl, ?_⟩) ?_ ?_
              rotate_left
              ·intro w'
               go_simp
               with_reducible rfl
              rotate_left
              ·simp only [Act.put, List.setIfInBounds_toArray, List.set_cons_zero, List.set_cons_succ, i64_w, i32_w]
               rfl
              refine pure_ (i := 32) (N := some 110) (v := ?_) (a' := ?_) #[true, false, false, false, true, false, false, false, true, true, false, false, false, false, true, false, false, true, false, true, false, false, true, false, false, false, true, false, false, true, false, false, true, false, false, false, false] rfl rfl (any_of HT_.out (by kernel_rfl)) (fun _ _ _ h => h) (Or.inl ⟨by rfl, ?_⟩) ?_ ?_
              rotate_left
              ·intro w'
               go_simp
               with_reducible rfl
              rotate_left
              ·simp only [Act.put, List.setIfInBounds_toArray, List.set_cons_zero, List.set_cons_succ, i64_w, i32_w]
               rfl
              refine inv_at [1, 2, 3, 5, 6, 7, 10, 11, 12, 13, 15, 16, 18, 20, 21, 23, 24, 25, 27, 28, 30, 31, 33, 34, 35, 36] (fun a0_ b a w' => ∃ (v267 : Value) (v270 : Value) (v273 : Value) (v276 : Value) (v279 : Value) (v282 : Value) (v285 : Value) (v288 : Value) (v291 : Value) (m36_ : Value), a = putSel a0_ b [(1, 79, .int .i64 (wrap64 (Int.tdiv (wrap64 (20 + (l0_9.length : Int))) 4))), (2, 80, .int .i64 (Go.bits .or .i64 64 (wrap64 (Int.tdiv (wrap64 (20 + (l0_9.length : Int))) 4)))), (3, 81, .int .u8 ((Go.bits .or .i64 64 (wrap64 (Int.tdiv (wrap64 (20 + (l0_9.length : Int))) 4))) % 256)), (5, 83, .int .i64 a0_0), (6, 84, .int .u8 ((a0_0) % 256)), (7, 85, v267), (10, 88, .slice A0_10 l0_10.length c0_10), (11, 89, .int .i64 (l0_10.length : Int)), (12, 90, .int .i64 (wrap64 ((wrap64 (20 + (l0_9.length : Int))) + (l0_10.length : Int)))), (13, 91, v270), (15, 93, .int .i64 a0_1), (16, 94, v273), (18, 96, v276), (20, 98, .int .i64 a0_5), (21, 99, .int .u8 ((a0_5) % 256)), (23, 101, .int .i64 a0_6), (24, 102, .int .u8 ((a0_6) % 256)), (25, 103, v279), (27, 105, .int .u32 a0_7), (28, 106, v282), (30, 108, .int .u32 a0_8), (31, 109, v285), (33, 111, .slice A0_9 l0_9.length c0_9), (34, 112, v288), (35, 113, v291), (36, 6, m36_)] ∧ (Kd.V (Kd.int .u8) 5 w' w.heap.size (fun k_ => (P0_9_ k_ ∨ w.heap.size ≤ k_) ∧ k_ ≠ gb262) (.slice A0_9 l0_9.length c0_9) l0_9) ∧ (w'.heap[gb262]? = some (.cells #[.int .i64 a0_0, .int .i64 a0_1, .bool a0_2, .bool a0_3, .int .i64 a0_4, .int .i64 a0_5, .int .i64 a0_6, .int .u32 a0_7, .int .u32 a0_8, .slice A0_9 l0_9.length c0_9, .slice A0_10 l0_10.length c0_10] 26 (0, 0))) ∧ (Below w.heap.size w w') ∧ (b 7 = true → Kd.R (Kd.int .u8) 5 w' w.heap.size (fun k_ => (w.heap.size ≤ k_)) v267 y266) ∧ (b 13 = true → Kd.R (Kd.int .u8) 5 w' w.heap.size (fun k_ => (w.heap.size ≤ k_)) v270 t269) ∧ (b 16 = true → Kd.R (Kd.int .u8) 5 w' w.heap.size (fun k_ => (w.heap.size ≤ k_)) v273 t272) ∧ (b 18 = true → Kd.R (Kd.int .u8) 5 w' w.heap.size (fun k_ => (w.heap.size ≤ k_)) v276 t275) ∧ (b 25 = true → Kd.R (Kd.int .u8) 5 w' w.heap.size (fun k_ => (w.heap.size ≤ k_)) v279 y278) ∧ (b 28 = true → Kd.R (Kd.int .u8) 5 w' w.heap.size (fun k_ => (w.heap.size ≤ k_)) v282 t281) ∧ (b 31 = true → Kd.R (Kd.int .u8) 5 w' w.heap.size (fun k_ => (w.heap.size ≤ k_)) v285 t284) ∧ (b 34 = true → b 35 = false → Kd.N (Kd.slice 5 (Kd.int .u8)) 24 w' w.heap.size (fun k_ => (P0_9_ k_ ∨ w.heap.size ≤ k_) ∧ k_ ≠ gb262) v288 y287) ∧ (b 35 = true → Kd.R (Kd.int .u8) 5 w' w.heap.size (fun k_ => (w.heap.size ≤ k_)) v291 t290) ∧ (b 36 = true → (m36_ : Value) = v291)) HT_.out HW_.out (by kernel_rfl) (by kernel_rfl) ?_ ?_ ?_
              ·exact ⟨.bool false, .bool false, .bool false, .bool false, .bool false, .bool false, .bool false, .bool false, .bool false, .bool false, by simp only [putSel, Bool.false_eq_true, if_false], (by first | exact HO_263009.out | exact Kd.V_mono HO_263009.out (fun _ hk => by exact okw hk)), BK262.out, HB.out, fun h_ => absurd h_ (by decide), fun h_ => absurd h_ (by decide), fun h_ => absurd h_ (by decide), fun h_ => absurd h_ (by decide), fun h_ => absurd h_ (by decide), fun h_ => absurd h_ (by decide), fun h_ => absurd h_ (by decide), fun h_ => absurd h_ (by decide), fun h_ => absurd h_ (by decide), fun h_ => absurd h_ (by decide)⟩
              ·skip
               clear BK262 HB HO_263009
               refine steps_cons ?_ ?_
               ·rintro b a w' ⟨v267, v270, v273, v276, v279, v282, v285, v288, v291, m36_, ha, Q_HO_263009, Q_BK262, Q_HB, Q_HO268, Q_HO271, Q_HO274, Q_HO277, Q_HO280, Q_HO283, Q_HO286, Q_HO289, Q_HO292, Q_X36_⟩ hb_ hon hoff
                refine ⟨_, rfl, fun K hK => ?_⟩
                have e78 : a.tmps[78]? = some (.int .i64 (wrap64 (20 + (l0_9.length : Int)))) := by rw [ha]; exact (putSel_off rfl).trans rfl
                replace ha := Aside0.mk ha
                have HO_263009 := Aside0.mk Q_HO_263009
                have BK262 := Aside0.mk Q_BK262
                have HB := Aside0.mk Q_HB
                refine value_ (w1 := w') (v := .int .i64 (wrap64 (Int.tdiv (wrap64 (20 + (l0_9.length : Int))) 4))) (by rfl) rfl ?_ ?_
                ·go_simp
                 (try simp only [i64_w])
                 try rfl
                refine hK.out _ _ ⟨v267, v270, v273, v276, v279, v282, v285, v288, v291, m36_, (by rw [ha.out]; exact putSel_upk 0 hb_ rfl rfl rfl), Q_HO_263009, Q_BK262, Q_HB, fun h0_ => absurd ((hoff 7 (by kernel_rfl)).symm.trans h0_) (by decide), Q_HO271, Q_HO274, Q_HO277, Q_HO280, Q_HO283, Q_HO286, fun h0_ _ => absurd ((hoff 34 (by kernel_rfl)).symm.trans h0_) (by decide), fun h0_ => absurd ((hoff 35 (by kernel_rfl)).symm.trans h0_) (by decide), fun h0_ => absurd ((hoff 36 (by kernel_rfl)).symm.trans h0_) (by decide)⟩
               refine steps_cons ?_ ?_
               ·rintro b a w' ⟨v267, v270, v273, v276, v279, v282, v285, v288, v291, m36_, ha, Q_HO_263009, Q_BK262, Q_HB, Q_HO268, Q_HO271, Q_HO274, Q_HO277, Q_HO280, Q_HO283, Q_HO286, Q_HO289, Q_HO292, Q_X36_⟩ hb_ hon hoff
                refine ⟨_, rfl, fun K hK => ?_⟩
                have e79 : a.tmps[79]? = some (.int .i64 (wrap64 (Int.tdiv (wrap64 (20 + (l0_9.length : Int))) 4))) := by rw [ha]; exact putSel_on (e := (1, 79, .int .i64 (wrap64 (Int.tdiv (wrap64 (20 + (l0_9.length : Int))) 4)))) 0 rfl rfl (hon 1 (by kernel_rfl)) rfl
                replace ha := Aside0.mk ha
                have HO_263009 := Aside0.mk Q_HO_263009
                have BK262 := Aside0.mk Q_BK262
                have HB := Aside0.mk Q_HB
                refine value_ (w1 := w') (v := .int .i64 (Go.bits .or .i64 64 (wrap64 (Int.tdiv (wrap64 (20 + (l0_9.length : Int))) 4)))) (by rfl) rfl ?_ ?_
                ·go_simp
                 (try simp only [i64_w])
                 try rfl
                refine hK.out _ _ ⟨v267, v270, v273, v276, v279, v282, v285, v288, v291, m36_, (by rw [ha.out]; exact putSel_upk 1 hb_ rfl rfl rfl), Q_HO_263009, Q_BK262, Q_HB, fun h0_ => absurd ((hoff 7 (by kernel_rfl)).symm.trans h0_) (by decide), Q_HO271, Q_HO274, Q_HO277, Q_HO280, Q_HO283, Q_HO286, fun h0_ _ => absurd ((hoff 34 (by kernel_rfl)).symm.trans h0_) (by decide), fun h0_ => absurd ((hoff 35 (by kernel_rfl)).symm.trans h0_) (by decide), fun h0_ => absurd ((hoff 36 (by kernel_rfl)).symm.trans h0_) (by decide)⟩
               refine steps_cons ?_ ?_
               ·rintro b a w' ⟨v267, v270, v273, v276, v279, v282, v285, v288, v291, m36_, ha, Q_HO_263009, Q_BK262, Q_HB, Q_HO268, Q_HO271, Q_HO274, Q_HO277, Q_HO280, Q_HO283, Q_HO286, Q_HO289, Q_HO292, Q_X36_⟩ hb_ hon hoff
                refine ⟨_, rfl, fun K hK => ?_⟩
                have e80 : a.tmps[80]? = some (.int .i64 (Go.bits .or .i64 64 (wrap64 (Int.tdiv (wrap64 (20 + (l0_9.length : Int))) 4)))) := by rw [ha]; exact putSel_on (e := (2, 80, .int .i64 (Go.bits .or .i64 64 (wrap64 (Int.tdiv (wrap64 (20 + (l0_9.length : Int))) 4))))) 1 rfl rfl (hon 2 (by kernel_rfl)) rfl
                replace ha := Aside0.mk ha
                have HO_263009 := Aside0.mk Q_HO_263009
                have BK262 := Aside0.mk Q_BK262
                have HB := Aside0.mk Q_HB
                refine value_ (w1 := w') (v := .int .u8 ((Go.bits .or .i64 64 (wrap64 (Int.tdiv (wrap64 (20 + (l0_9.length : Int))) 4))) % 256)) (by rfl) rfl ?_ ?_
                ·go_simp
                 (try simp only [i64_w])
                 try (first | exact IntKind.wrap_u8 _ | rfl)
                refine hK.out _ _ ⟨v267, v270, v273, v276, v279, v282, v285, v288, v291, m36_, (by rw [ha.out]; exact putSel_upk 2 hb_ rfl rfl rfl), Q_HO_263009, Q_BK262, Q_HB, fun h0_ => absurd ((hoff 7 (by kernel_rfl)).symm.trans h0_) (by decide), Q_HO271, Q_HO274, Q_HO277, Q_HO280, Q_HO283, Q_HO286, fun h0_ _ => absurd ((hoff 34 (by kernel_rfl)).symm.trans h0_) (by decide), fun h0_ => absurd ((hoff 35 (by kernel_rfl)).symm.trans h0_) (by decide), fun h0_ => absurd ((hoff 36 (by kernel_rfl)).symm.trans h0_) (by decide)⟩
               refine steps_cons ?_ ?_
               ·rintro b a w' ⟨v267, v270, v273, v276, v279, v282, v285, v288, v291, m36_, ha, Q_HO_263009, Q_BK262, Q_HB, Q_HO268, Q_HO271, Q_HO274, Q_HO277, Q_HO280, Q_HO283, Q_HO286, Q_HO289, Q_HO292, Q_X36_⟩ hb_ hon hoff
                refine ⟨_, rfl, fun K hK => ?_⟩
                have e82 : a.tmps[82]? = some (.pointer (some ⟨gb262, 0, none⟩)) := by rw [ha]; exact (putSel_off rfl).trans rfl
                replace ha := Aside0.mk ha
                have HO_263009 := Aside0.mk Q_HO_263009
                have BK262 := Aside0.mk Q_BK262
                have HB := Aside0.mk Q_HB
                have hc0_ : w'.cell? ⟨gb262, 0, none⟩ = some (.int .i64 a0_0) := (blk_cell BK262.out 0).trans rfl
                have hc1_ : w'.cell? ⟨gb262, 1, none⟩ = some (.int .i64 a0_1) := (blk_cell BK262.out 1).trans rfl
                have hc2_ : w'.cell? ⟨gb262, 2, none⟩ = some (.bool a0_2) := (blk_cell BK262.out 2).trans rfl
                have hc3_ : w'.cell? ⟨gb262, 3, none⟩ = some (.bool a0_3) := (blk_cell BK262.out 3).trans rfl
                have hc4_ : w'.cell? ⟨gb262, 4, none⟩ = some (.int .i64 a0_4) := (blk_cell BK262.out 4).trans rfl
                have hc5_ : w'.cell? ⟨gb262, 5, none⟩ = some (.int .i64 a0_5) := (blk_cell BK262.out 5).trans rfl
                have hc6_ : w'.cell? ⟨gb262, 6, none⟩ = some (.int .i64 a0_6) := (blk_cell BK262.out 6).trans rfl
                have hc7_ : w'.cell? ⟨gb262, 7, none⟩ = some (.int .u32 a0_7) := (blk_cell BK262.out 7).trans rfl
                have hc8_ : w'.cell? ⟨gb262, 8, none⟩ = some (.int .u32 a0_8) := (blk_cell BK262.out 8).trans rfl
                have hc9_ : w'.cell? ⟨gb262, 9, none⟩ = some (.slice A0_9 l0_9.length c0_9) := (blk_cell BK262.out 9).trans rfl
                have hc10_ : w'.cell? ⟨gb262, 10, none⟩ = some (.slice A0_10 l0_10.length c0_10) := (blk_cell BK262.out 10).trans rfl
                refine value_ (w1 := w') (v := .int .i64 a0_0) (by rfl) rfl ?_ ?_
                ·go_simp
                 (try simp only [i64_w])
                 try rfl
                refine hK.out _ _ ⟨v267, v270, v273, v276, v279, v282, v285, v288, v291, m36_, (by rw [ha.out]; exact putSel_upk 3 hb_ rfl rfl rfl), Q_HO_263009, Q_BK262, Q_HB, fun h0_ => absurd ((hoff 7 (by kernel_rfl)).symm.trans h0_) (by decide), Q_HO271, Q_HO274, Q_HO277, Q_HO280, Q_HO283, Q_HO286, fun h0_ _ => absurd ((hoff 34 (by kernel_rfl)).symm.trans h0_) (by decide), fun h0_ => absurd ((hoff 35 (by kernel_rfl)).symm.trans h0_) (by decide), fun h0_ => absurd ((hoff 36 (by kernel_rfl)).symm.trans h0_) (by decide)⟩
               refine steps_cons ?_ ?_
               ·rintro b a w' ⟨v267, v270, v273, v276, v279, v282, v285, v288, v291, m36_, ha, Q_HO_263009, Q_BK262, Q_HB, Q_HO268, Q_HO271, Q_HO274, Q_HO277, Q_HO280, Q_HO283, Q_HO286, Q_HO289, Q_HO292, Q_X36_⟩ hb_ hon hoff
                refine ⟨_, rfl, fun K hK => ?_⟩
                have e83 : a.tmps[83]? = some (.int .i64 a0_0) := by rw [ha]; exact putSel_on (e := (5, 83, .int .i64 a0_0)) 3 rfl rfl (hon 5 (by kernel_rfl)) rfl
                replace ha := Aside0.mk ha
                have HO_263009 := Aside0.mk Q_HO_263009
                have BK262 := Aside0.mk Q_BK262
                have HB := Aside0.mk Q_HB
                refine value_ (w1 := w') (v := .int .u8 ((a0_0) % 256)) (by rfl) rfl ?_ ?_
                ·go_simp
                 (try simp only [i64_w])
                 try (first | exact IntKind.wrap_u8 _ | rfl)
                refine hK.out _ _ ⟨v267, v270, v273, v276, v279, v282, v285, v288, v291, m36_, (by rw [ha.out]; exact putSel_upk 4 hb_ rfl rfl rfl), Q_HO_263009, Q_BK262, Q_HB, fun h0_ => absurd ((hoff 7 (by kernel_rfl)).symm.trans h0_) (by decide), Q_HO271, Q_HO274, Q_HO277, Q_HO280, Q_HO283, Q_HO286, fun h0_ _ => absurd ((hoff 34 (by kernel_rfl)).symm.trans h0_) (by decide), fun h0_ => absurd ((hoff 35 (by kernel_rfl)).symm.trans h0_) (by decide), fun h0_ => absurd ((hoff 36 (by kernel_rfl)).symm.trans h0_) (by decide)⟩
               refine steps_cons ?_ ?_
               ·rintro b a w' ⟨v267, v270, v273, v276, v279, v282, v285, v288, v291, m36_, ha, Q_HO_263009, Q_BK262, Q_HB, Q_HO268, Q_HO271, Q_HO274, Q_HO277, Q_HO280, Q_HO283, Q_HO286, Q_HO289, Q_HO292, Q_X36_⟩ hb_ hon hoff
                refine ⟨_, rfl, fun K hK => ?_⟩
                have e81 : a.tmps[81]? = some (.int .u8 ((Go.bits .or .i64 64 (wrap64 (Int.tdiv (wrap64 (20 + (l0_9.length : Int))) 4))) % 256)) := by rw [ha]; exact putSel_on (e := (3, 81, .int .u8 ((Go.bits .or .i64 64 (wrap64 (Int.tdiv (wrap64 (20 + (l0_9.length : Int))) 4))) % 256))) 2 rfl rfl (hon 3 (by kernel_rfl)) rfl
                have e84 : a.tmps[84]? = some (.int .u8 ((a0_0) % 256)) := by rw [ha]; exact putSel_on (e := (6, 84, .int .u8 ((a0_0) % 256))) 4 rfl rfl (hon 6 (by kernel_rfl)) rfl
                replace ha := Aside0.mk ha
                have HO_263009 := Aside0.mk Q_HO_263009
                have BK262 := Aside0.mk Q_BK262
                have HB := Aside0.mk Q_HB
                refine Kd.R_lit_step (Kd.int .u8) _ 5 ?hg (N := 85) ?hd (xs := ([(Go.bits .or .i64 64 (wrap64 (Int.tdiv (wrap64 (20 + (l0_9.length : Int))) 4))) % 256, (a0_0) % 256] : List Int)) (inner := [.int .u8 ((Go.bits .or .i64 64 (wrap64 (Int.tdiv (wrap64 (20 + (l0_9.length : Int))) 4))) % 256), .int .u8 ((a0_0) % 256)]) (ok := fun _ => True) (okp := fun _ => True) ?hr ?hp (fun _ hk => hk) trivial (Below.refl _ _) (Nat.le_refl _) (by simp) ?_; (case hd => rfl); (case hg => rfl); (case hr => first | (go_simp; done) | (go_simp; rfl)); (case hp => exact (Reps.one (show Kd.M (Kd.int .u8) _ _ _ ((Go.bits .or .i64 64 (wrap64 (Int.tdiv (wrap64 (20 + (l0_9.length : Int))) 4))) % 256) [.int .u8 ((Go.bits .or .i64 64 (wrap64 (Int.tdiv (wrap64 (20 + (l0_9.length : Int))) 4))) % 256)] from rfl) (Reps.one (show Kd.M (Kd.int .u8) _ _ _ ((a0_0) % 256) [.int .u8 ((a0_0) % 256)] from rfl) (Reps.none _ _))))
                intro v267 w50 ho51 hb hg_ hnew_
                clear hg_ hnew_
                (first | rw [← Ny266.out] at ho51 | (simp only [Int.reduceToNat] at ho51; rw [← Ny266.out] at ho51))
                have n0_ := Aside0.mk (Kd.V_elder' (by (with_reducible repeat (first | apply Kd.V_alloc | apply Kd.V_drewN | apply Kd.V_drew)); exact HO_263009.out) (Kd.R_base ho51) hb)
                have n1_ := Aside0.mk (Kd.R_lower (Kd.R_newM (M := fun k_ => (w.heap.size ≤ k_)) ho51 (below_size (by repeat (first | (with_reducible first | exact HB.out | apply below_alloc | apply pw_below_drewN | apply below_drew1 | refine below_set ?_ GE262.out) | exact HB.out))) (fun k_ h_ => h_)) (below_size (by repeat (first | (with_reducible first | exact HB.out | apply below_alloc | apply pw_below_drewN | apply below_drew1 | refine below_set ?_ GE262.out) | exact HB.out))))
                have n2_ := Aside0.mk (blk_below (g := gb262) (o := .cells #[.int .i64 a0_0, .int .i64 a0_1, .bool a0_2, .bool a0_3, .int .i64 a0_4, .int .i64 a0_5, .int .i64 a0_6, .int .u32 a0_7, .int .u32 a0_8, .slice A0_9 l0_9.length c0_9, .slice A0_10 l0_10.length c0_10] 26 (0, 0)) (by (with_reducible repeat (first | refine blk_drewN ?_ _ | refine blk_drew ?_ | refine blk_alloc ?_ _)); exact BK262.out) hb)
                have n3_ := Aside0.mk (below_step (by repeat (first | (with_reducible first | exact HB.out | apply below_alloc | apply pw_below_drewN | apply below_drew1 | refine below_set ?_ GE262.out) | exact HB.out)) hb)
                have z_HO271 := fun (h0_ : b 13 = true) => (show Kd.R (Kd.int .u8) 5 w50 w.heap.size (fun k_ => (w.heap.size ≤ k_)) v270 t269 from by first | exact (Kd.R_elder' (by (with_reducible repeat (first | apply Kd.R_alloc | apply Kd.R_drewN | apply Kd.R_drew)); exact (Q_HO271 h0_)) (Kd.R_base ho51) hb) | exact Kd.R_mono (Kd.R_elder' (by (with_reducible repeat (first | apply Kd.R_alloc | apply Kd.R_drewN | apply Kd.R_drew)); exact (Q_HO271 h0_)) (Kd.R_base ho51) hb) (fun _ h_ => by first | trivial | exact h_ | exact h_.1))
                have z_HO274 := fun (h0_ : b 16 = true) => (show Kd.R (Kd.int .u8) 5 w50 w.heap.size (fun k_ => (w.heap.size ≤ k_)) v273 t272 from by first | exact (Kd.R_elder' (by (with_reducible repeat (first | apply Kd.R_alloc | apply Kd.R_drewN | apply Kd.R_drew)); exact (Q_HO274 h0_)) (Kd.R_base ho51) hb) | exact Kd.R_mono (Kd.R_elder' (by (with_reducible repeat (first | apply Kd.R_alloc | apply Kd.R_drewN | apply Kd.R_drew)); exact (Q_HO274 h0_)) (Kd.R_base ho51) hb) (fun _ h_ => by first | trivial | exact h_ | exact h_.1))
                have z_HO277 := fun (h0_ : b 18 = true) => (show Kd.R (Kd.int .u8) 5 w50 w.heap.size (fun k_ => (w.heap.size ≤ k_)) v276 t275 from by first | exact (Kd.R_elder' (by (with_reducible repeat (first | apply Kd.R_alloc | apply Kd.R_drewN | apply Kd.R_drew)); exact (Q_HO277 h0_)) (Kd.R_base ho51) hb) | exact Kd.R_mono (Kd.R_elder' (by (with_reducible repeat (first | apply Kd.R_alloc | apply Kd.R_drewN | apply Kd.R_drew)); exact (Q_HO277 h0_)) (Kd.R_base ho51) hb) (fun _ h_ => by first | trivial | exact h_ | exact h_.1))
                have z_HO280 := fun (h0_ : b 25 = true) => (show Kd.R (Kd.int .u8) 5 w50 w.heap.size (fun k_ => (w.heap.size ≤ k_)) v279 y278 from by first | exact (Kd.R_elder' (by (with_reducible repeat (first | apply Kd.R_alloc | apply Kd.R_drewN | apply Kd.R_drew)); exact (Q_HO280 h0_)) (Kd.R_base ho51) hb) | exact Kd.R_mono (Kd.R_elder' (by (with_reducible repeat (first | apply Kd.R_alloc | apply Kd.R_drewN | apply Kd.R_drew)); exact (Q_HO280 h0_)) (Kd.R_base ho51) hb) (fun _ h_ => by first | trivial | exact h_ | exact h_.1))
                have z_HO283 := fun (h0_ : b 28 = true) => (show Kd.R (Kd.int .u8) 5 w50 w.heap.size (fun k_ => (w.heap.size ≤ k_)) v282 t281 from by first | exact (Kd.R_elder' (by (with_reducible repeat (first | apply Kd.R_alloc | apply Kd.R_drewN | apply Kd.R_drew)); exact (Q_HO283 h0_)) (Kd.R_base ho51) hb) | exact Kd.R_mono (Kd.R_elder' (by (with_reducible repeat (first | apply Kd.R_alloc | apply Kd.R_drewN | apply Kd.R_drew)); exact (Q_HO283 h0_)) (Kd.R_base ho51) hb) (fun _ h_ => by first | trivial | exact h_ | exact h_.1))
                have z_HO286 := fun (h0_ : b 31 = true) => (show Kd.R (Kd.int .u8) 5 w50 w.heap.size (fun k_ => (w.heap.size ≤ k_)) v285 t284 from by first | exact (Kd.R_elder' (by (with_reducible repeat (first | apply Kd.R_alloc | apply Kd.R_drewN | apply Kd.R_drew)); exact (Q_HO286 h0_)) (Kd.R_base ho51) hb) | exact Kd.R_mono (Kd.R_elder' (by (with_reducible repeat (first | apply Kd.R_alloc | apply Kd.R_drewN | apply Kd.R_drew)); exact (Q_HO286 h0_)) (Kd.R_base ho51) hb) (fun _ h_ => by first | trivial | exact h_ | exact h_.1))
                clear HO_263009
                clear BK262
                clear HB
                have HO_263009 := n0_
                have HO268 := n1_
                have BK262 := n2_
                have HB := n3_
                clear n0_ n1_ n2_ n3_
                clear hb ho51
                refine hK.out _ _ ⟨v267, v270, v273, v276, v279, v282, v285, v288, v291, m36_, (by rw [ha.out]; exact putSel_upk 5 hb_ rfl rfl rfl), (by first | ((with_reducible repeat (first | apply Kd.V_alloc | apply Kd.V_drewN | apply Kd.V_drew)); exact Kd.V_mono HO_263009.out (fun _ hk => by first | exact ⟨hk.1.1, ⟨hk.2, hk.1.2⟩⟩ | exact okw hk)) | ((with_reducible repeat (first | apply Kd.V_alloc | apply Kd.V_drewN | apply Kd.V_drew)); exact Kd.V_mono HO_263009.out (fun _ hk => by first | trivial | exact hk | exact hk.1 | exact hk.2 | exact hk.1.1 | exact okw hk))), (by (with_reducible repeat (first | refine blk_drewN ?_ _ | refine blk_drew ?_ | refine blk_alloc ?_ _)); exact BK262.out), (by repeat (first | (with_reducible first | exact HB.out | apply below_alloc | apply pw_below_drewN | apply below_drew1 | refine below_set ?_ GE262.out) | exact HB.out)), fun _ => (by first | ((with_reducible repeat (first | apply Kd.R_alloc | apply Kd.R_drewN | apply Kd.R_drew)); exact Kd.R_mono HO268.out (fun _ hk => hk.1)) | ((with_reducible repeat (first | apply Kd.R_alloc | apply Kd.R_drewN | apply Kd.R_drew)); exact Kd.R_mono HO268.out (fun _ hk => by first | trivial | exact hk | exact hk.1 | exact hk.2 | exact hk.1.1 | exact okw hk))), z_HO271, z_HO274, z_HO277, z_HO280, z_HO283, z_HO286, fun h0_ _ => absurd ((hoff 34 (by kernel_rfl)).symm.trans h0_) (by decide), fun h0_ => absurd ((hoff 35 (by kernel_rfl)).symm.trans h0_) (by decide), fun h0_ => absurd ((hoff 36 (by kernel_rfl)).symm.trans h0_) (by decide)⟩
               refine steps_cons ?_ ?_
               ·rintro b a w' ⟨v267, v270, v273, v276, v279, v282, v285, v288, v291, m36_, ha, Q_HO_263009, Q_BK262, Q_HB, Q_HO268, Q_HO271, Q_HO274, Q_HO277, Q_HO280, Q_HO283, Q_HO286, Q_HO289, Q_HO292, Q_X36_⟩ hb_ hon hoff
                refine ⟨_, rfl, fun K hK => ?_⟩
                have e87 : a.tmps[87]? = some (.pointer (some ⟨gb262, 10, none⟩)) := by rw [ha]; exact (putSel_off rfl).trans rfl
                replace ha := Aside0.mk ha
                have HO_263009 := Aside0.mk Q_HO_263009
                have BK262 := Aside0.mk Q_BK262
                have HB := Aside0.mk Q_HB
                have hc0_ : w'.cell? ⟨gb262, 0, none⟩ = some (.int .i64 a0_0) := (blk_cell BK262.out 0).trans rfl
                have hc1_ : w'.cell? ⟨gb262, 1, none⟩ = some (.int .i64 a0_1) := (blk_cell BK262.out 1).trans rfl
                have hc2_ : w'.cell? ⟨gb262, 2, none⟩ = some (.bool a0_2) := (blk_cell BK262.out 2).trans rfl
                have hc3_ : w'.cell? ⟨gb262, 3, none⟩ = some (.bool a0_3) := (blk_cell BK262.out 3).trans rfl
                have hc4_ : w'.cell? ⟨gb262, 4, none⟩ = some (.int .i64 a0_4) := (blk_cell BK262.out 4).trans rfl
                have hc5_ : w'.cell? ⟨gb262, 5, none⟩ = some (.int .i64 a0_5) := (blk_cell BK262.out 5).trans rfl
                have hc6_ : w'.cell? ⟨gb262, 6, none⟩ = some (.int .i64 a0_6) := (blk_cell BK262.out 6).trans rfl
                have hc7_ : w'.cell? ⟨gb262, 7, none⟩ = some (.int .u32 a0_7) := (blk_cell BK262.out 7).trans rfl
                have hc8_ : w'.cell? ⟨gb262, 8, none⟩ = some (.int .u32 a0_8) := (blk_cell BK262.out 8).trans rfl
                have hc9_ : w'.cell? ⟨gb262, 9, none⟩ = some (.slice A0_9 l0_9.length c0_9) := (blk_cell BK262.out 9).trans rfl
                have hc10_ : w'.cell? ⟨gb262, 10, none⟩ = some (.slice A0_10 l0_10.length c0_10) := (blk_cell BK262.out 10).trans rfl
                refine value_ (w1 := w') (v := .slice A0_10 l0_10.length c0_10) (by rfl) rfl ?_ ?_
                ·go_simp
                 (try simp only [i64_w])
                 try rfl
                refine hK.out _ _ ⟨v267, v270, v273, v276, v279, v282, v285, v288, v291, m36_, (by rw [ha.out]; exact putSel_upk 6 hb_ rfl rfl rfl), Q_HO_263009, Q_BK262, Q_HB, Q_HO268, fun h0_ => absurd ((hoff 13 (by kernel_rfl)).symm.trans h0_) (by decide), fun h0_ => absurd ((hoff 16 (by kernel_rfl)).symm.trans h0_) (by decide), fun h0_ => absurd ((hoff 18 (by kernel_rfl)).symm.trans h0_) (by decide), Q_HO280, fun h0_ => absurd ((hoff 28 (by kernel_rfl)).symm.trans h0_) (by decide), fun h0_ => absurd ((hoff 31 (by kernel_rfl)).symm.trans h0_) (by decide), fun h0_ _ => absurd ((hoff 34 (by kernel_rfl)).symm.trans h0_) (by decide), fun h0_ => absurd ((hoff 35 (by kernel_rfl)).symm.trans h0_) (by decide), fun h0_ => absurd ((hoff 36 (by kernel_rfl)).symm.trans h0_) (by decide)⟩
               refine steps_cons ?_ ?_
               ·rintro b a w' ⟨v267, v270, v273, v276, v279, v282, v285, v288, v291, m36_, ha, Q_HO_263009, Q_BK262, Q_HB, Q_HO268, Q_HO271, Q_HO274, Q_HO277, Q_HO280, Q_HO283, Q_HO286, Q_HO289, Q_HO292, Q_X36_⟩ hb_ hon hoff
                refine ⟨_, rfl, fun K hK => ?_⟩
                have e88 : a.tmps[88]? = some (.slice A0_10 l0_10.length c0_10) := by rw [ha]; exact putSel_on (e := (10, 88, .slice A0_10 l0_10.length c0_10)) 6 rfl rfl (hon 10 (by kernel_rfl)) rfl
                replace ha := Aside0.mk ha
                have HO_263009 := Aside0.mk Q_HO_263009
                have BK262 := Aside0.mk Q_BK262
                have HB := Aside0.mk Q_HB
                refine value_ (w1 := w') (v := .int .i64 (l0_10.length : Int)) (by rfl) rfl ?_ ?_
                ·go_simp
                 (try simp only [i64_w])
                 try rfl
                refine hK.out _ _ ⟨v267, v270, v273, v276, v279, v282, v285, v288, v291, m36_, (by rw [ha.out]; exact putSel_upk 7 hb_ rfl rfl rfl), Q_HO_263009, Q_BK262, Q_HB, Q_HO268, fun h0_ => absurd ((hoff 13 (by kernel_rfl)).symm.trans h0_) (by decide), fun h0_ => absurd ((hoff 16 (by kernel_rfl)).symm.trans h0_) (by decide), fun h0_ => absurd ((hoff 18 (by kernel_rfl)).symm.trans h0_) (by decide), Q_HO280, fun h0_ => absurd ((hoff 28 (by kernel_rfl)).symm.trans h0_) (by decide), fun h0_ => absurd ((hoff 31 (by kernel_rfl)).symm.trans h0_) (by decide), fun h0_ _ => absurd ((hoff 34 (by kernel_rfl)).symm.trans h0_) (by decide), fun h0_ => absurd ((hoff 35 (by kernel_rfl)).symm.trans h0_) (by decide), fun h0_ => absurd ((hoff 36 (by kernel_rfl)).symm.trans h0_) (by decide)⟩
               refine steps_cons ?_ ?_
               ·rintro b a w' ⟨v267, v270, v273, v276, v279, v282, v285, v288, v291, m36_, ha, Q_HO_263009, Q_BK262, Q_HB, Q_HO268, Q_HO271, Q_HO274, Q_HO277, Q_HO280, Q_HO283, Q_HO286, Q_HO289, Q_HO292, Q_X36_⟩ hb_ hon hoff
                refine ⟨_, rfl, fun K hK => ?_⟩
                have e86 : a.tmps[86]? = some (.int .i64 (wrap64 (20 + (l0_9.length : Int)))) := by rw [ha]; exact (putSel_off rfl).trans rfl
                have e89 : a.tmps[89]? = some (.int .i64 (l0_10.length : Int)) := by rw [ha]; exact putSel_on (e := (11, 89, .int .i64 (l0_10.length : Int))) 7 rfl rfl (hon 11 (by kernel_rfl)) rfl
                replace ha := Aside0.mk ha
                have HO_263009 := Aside0.mk Q_HO_263009
                have BK262 := Aside0.mk Q_BK262
                have HB := Aside0.mk Q_HB
                refine value_ (w1 := w') (v := .int .i64 (wrap64 ((wrap64 (20 + (l0_9.length : Int))) + (l0_10.length : Int)))) (by rfl) rfl ?_ ?_
                ·go_simp
                 (try simp only [i64_w])
                 try rfl
                refine hK.out _ _ ⟨v267, v270, v273, v276, v279, v282, v285, v288, v291, m36_, (by rw [ha.out]; exact putSel_upk 8 hb_ rfl rfl rfl), Q_HO_263009, Q_BK262, Q_HB, Q_HO268, fun h0_ => absurd ((hoff 13 (by kernel_rfl)).symm.trans h0_) (by decide), fun h0_ => absurd ((hoff 16 (by kernel_rfl)).symm.trans h0_) (by decide), fun h0_ => absurd ((hoff 18 (by kernel_rfl)).symm.trans h0_) (by decide), Q_HO280, fun h0_ => absurd ((hoff 28 (by kernel_rfl)).symm.trans h0_) (by decide), fun h0_ => absurd ((hoff 31 (by kernel_rfl)).symm.trans h0_) (by decide), fun h0_ _ => absurd ((hoff 34 (by kernel_rfl)).symm.trans h0_) (by decide), fun h0_ => absurd ((hoff 35 (by kernel_rfl)).symm.trans h0_) (by decide), fun h0_ => absurd ((hoff 36 (by kernel_rfl)).symm.trans h0_) (by decide)⟩
               refine steps_cons ?_ ?_
               ·rintro b a w' ⟨v267, v270, v273, v276, v279, v282, v285, v288, v291, m36_, ha, Q_HO_263009, Q_BK262, Q_HB, Q_HO268, Q_HO271, Q_HO274, Q_HO277, Q_HO280, Q_HO283, Q_HO286, Q_HO289, Q_HO292, Q_X36_⟩ hb_ hon hoff
                refine ⟨_, rfl, fun K hK => ?_⟩
                have e90 : a.tmps[90]? = some (.int .i64 (wrap64 ((wrap64 (20 + (l0_9.length : Int))) + (l0_10.length : Int)))) := by rw [ha]; exact putSel_on (e := (12, 90, .int .i64 (wrap64 ((wrap64 (20 + (l0_9.length : Int))) + (l0_10.length : Int))))) 8 rfl rfl (hon 12 (by kernel_rfl)) rfl
                replace ha := Aside0.mk ha
                have HO_263009 := Aside0.mk Q_HO_263009
                have BK262 := Aside0.mk Q_BK262
                have HB := Aside0.mk Q_HB
                refine goes_ Try.func73 (by kernel_rfl) rfl #[.int .i64 (wrap64 ((wrap64 (20 + (l0_9.length : Int))) + (l0_10.length : Int)))] (by rfl) rfl rfl (by first | (simp only [List.map_toArray, List.map_cons, List.map_nil, Act.eval, Array.getD_eq_getD_getElem?, Option.getD_some, e90]; done) | (simp only [List.map_toArray, List.map_cons, List.map_nil, Act.eval, Array.getD_eq_getD_getElem?, Option.getD_some, e90]; rfl)) ?_
                with_reducible refine (word_Put16.calls (wrap64 ((wrap64 (20 + (l0_9.length : Int))) + (l0_10.length : Int))) t269 _ A34.out).mono ?_
                rintro e w50 ⟨v270, rfl, ho0, hb⟩
                refine ⟨_, rfl, ?_⟩
                have n0_ := Aside0.mk (Kd.V_elder' (by (with_reducible repeat (first | apply Kd.V_alloc | apply Kd.V_drewN | apply Kd.V_drew)); exact HO_263009.out) (Kd.R_base ho0) hb)
                have n1_ := Aside0.mk (Kd.R_lower (Kd.R_newM (M := fun k_ => (w.heap.size ≤ k_)) ho0 (below_size (by repeat (first | (with_reducible first | exact HB.out | apply below_alloc | apply pw_below_drewN | apply below_drew1 | refine below_set ?_ GE262.out) | exact HB.out))) (fun k_ h_ => h_)) (below_size (by repeat (first | (with_reducible first | exact HB.out | apply below_alloc | apply pw_below_drewN | apply below_drew1 | refine below_set ?_ GE262.out) | exact HB.out))))
                have n2_ := Aside0.mk (blk_below (g := gb262) (o := .cells #[.int .i64 a0_0, .int .i64 a0_1, .bool a0_2, .bool a0_3, .int .i64 a0_4, .int .i64 a0_5, .int .i64 a0_6, .int .u32 a0_7, .int .u32 a0_8, .slice A0_9 l0_9.length c0_9, .slice A0_10 l0_10.length c0_10] 26 (0, 0)) (by (with_reducible repeat (first | refine blk_drewN ?_ _ | refine blk_drew ?_ | refine blk_alloc ?_ _)); exact BK262.out) hb)
                have n3_ := Aside0.mk (below_step (by repeat (first | (with_reducible first | exact HB.out | apply below_alloc | apply pw_below_drewN | apply below_drew1 | refine below_set ?_ GE262.out) | exact HB.out)) hb)
                have z_HO268 := fun (h0_ : b 7 = true) => (show Kd.R (Kd.int .u8) 5 w50 w.heap.size (fun k_ => (w.heap.size ≤ k_)) v267 y266 from by first | exact (Kd.R_elder' (by (with_reducible repeat (first | apply Kd.R_alloc | apply Kd.R_drewN | apply Kd.R_drew)); exact (Q_HO268 h0_)) (Kd.R_base ho0) hb) | exact Kd.R_mono (Kd.R_elder' (by (with_reducible repeat (first | apply Kd.R_alloc | apply Kd.R_drewN | apply Kd.R_drew)); exact (Q_HO268 h0_)) (Kd.R_base ho0) hb) (fun _ h_ => by first | trivial | exact h_ | exact h_.1))
                have z_HO280 := fun (h0_ : b 25 = true) => (show Kd.R (Kd.int .u8) 5 w50 w.heap.size (fun k_ => (w.heap.size ≤ k_)) v279 y278 from by first | exact (Kd.R_elder' (by (with_reducible repeat (first | apply Kd.R_alloc | apply Kd.R_drewN | apply Kd.R_drew)); exact (Q_HO280 h0_)) (Kd.R_base ho0) hb) | exact Kd.R_mono (Kd.R_elder' (by (with_reducible repeat (first | apply Kd.R_alloc | apply Kd.R_drewN | apply Kd.R_drew)); exact (Q_HO280 h0_)) (Kd.R_base ho0) hb) (fun _ h_ => by first | trivial | exact h_ | exact h_.1))
                clear HO_263009
                clear BK262
                clear HB
                have HO_263009 := n0_
                have HO271 := n1_
                have BK262 := n2_
                have HB := n3_
                clear n0_ n1_ n2_ n3_
                (try clear hb)
                (try clear hb2)
                (try clear hk)
                (try clear hi)
                (try clear ho0)
                refine hK.out _ _ ⟨v267, v270, v273, v276, v279, v282, v285, v288, v291, m36_, (by rw [ha.out]; exact putSel_upk 9 hb_ rfl rfl rfl), (by first | ((with_reducible repeat (first | apply Kd.V_alloc | apply Kd.V_drewN | apply Kd.V_drew)); exact Kd.V_mono HO_263009.out (fun _ hk => by first | exact ⟨hk.1.1, ⟨hk.2, hk.1.2⟩⟩ | exact okw hk)) | ((with_reducible repeat (first | apply Kd.V_alloc | apply Kd.V_drewN | apply Kd.V_drew)); exact Kd.V_mono HO_263009.out (fun _ hk => by first | trivial | exact hk | exact hk.1 | exact hk.2 | exact hk.1.1 | exact okw hk))), (by (with_reducible repeat (first | refine blk_drewN ?_ _ | refine blk_drew ?_ | refine blk_alloc ?_ _)); exact BK262.out), (by repeat (first | (with_reducible first | exact HB.out | apply below_alloc | apply pw_below_drewN | apply below_drew1 | refine below_set ?_ GE262.out) | exact HB.out)), z_HO268, fun _ => (by first | ((with_reducible repeat (first | apply Kd.R_alloc | apply Kd.R_drewN | apply Kd.R_drew)); exact Kd.R_mono HO271.out (fun _ hk => hk.1)) | ((with_reducible repeat (first | apply Kd.R_alloc | apply Kd.R_drewN | apply Kd.R_drew)); exact Kd.R_mono HO271.out (fun _ hk => by first | trivial | exact hk | exact hk.1 | exact hk.2 | exact hk.1.1 | exact okw hk))), fun h0_ => absurd ((hoff 16 (by kernel_rfl)).symm.trans h0_) (by decide), fun h0_ => absurd ((hoff 18 (by kernel_rfl)).symm.trans h0_) (by decide), z_HO280, fun h0_ => absurd ((hoff 28 (by kernel_rfl)).symm.trans h0_) (by decide), fun h0_ => absurd ((hoff 31 (by kernel_rfl)).symm.trans h0_) (by decide), fun h0_ _ => absurd ((hoff 34 (by kernel_rfl)).symm.trans h0_) (by decide), fun h0_ => absurd ((hoff 35 (by kernel_rfl)).symm.trans h0_) (by decide), fun h0_ => absurd ((hoff 36 (by kernel_rfl)).symm.trans h0_) (by decide)⟩
               refine steps_cons ?_ ?_
               ·rintro b a w' ⟨v267, v270, v273, v276, v279, v282, v285, v288, v291, m36_, ha, Q_HO_263009, Q_BK262, Q_HB, Q_HO268, Q_HO271, Q_HO274, Q_HO277, Q_HO280, Q_HO283, Q_HO286, Q_HO289, Q_HO292, Q_X36_⟩ hb_ hon hoff
                refine ⟨_, rfl, fun K hK => ?_⟩
                have e92 : a.tmps[92]? = some (.pointer (some ⟨gb262, 1, none⟩)) := by rw [ha]; exact (putSel_off rfl).trans rfl
                replace ha := Aside0.mk ha
                have HO_263009 := Aside0.mk Q_HO_263009
                have BK262 := Aside0.mk Q_BK262
                have HB := Aside0.mk Q_HB
                have hc0_ : w'.cell? ⟨gb262, 0, none⟩ = some (.int .i64 a0_0) := (blk_cell BK262.out 0).trans rfl
                have hc1_ : w'.cell? ⟨gb262, 1, none⟩ = some (.int .i64 a0_1) := (blk_cell BK262.out 1).trans rfl
                have hc2_ : w'.cell? ⟨gb262, 2, none⟩ = some (.bool a0_2) := (blk_cell BK262.out 2).trans rfl
                have hc3_ : w'.cell? ⟨gb262, 3, none⟩ = some (.bool a0_3) := (blk_cell BK262.out 3).trans rfl
                have hc4_ : w'.cell? ⟨gb262, 4, none⟩ = some (.int .i64 a0_4) := (blk_cell BK262.out 4).trans rfl
                have hc5_ : w'.cell? ⟨gb262, 5, none⟩ = some (.int .i64 a0_5) := (blk_cell BK262.out 5).trans rfl
                have hc6_ : w'.cell? ⟨gb262, 6, none⟩ = some (.int .i64 a0_6) := (blk_cell BK262.out 6).trans rfl
                have hc7_ : w'.cell? ⟨gb262, 7, none⟩ = some (.int .u32 a0_7) := (blk_cell BK262.out 7).trans rfl
                have hc8_ : w'.cell? ⟨gb262, 8, none⟩ = some (.int .u32 a0_8) := (blk_cell BK262.out 8).trans rfl
                have hc9_ : w'.cell? ⟨gb262, 9, none⟩ = some (.slice A0_9 l0_9.length c0_9) := (blk_cell BK262.out 9).trans rfl
                have hc10_ : w'.cell? ⟨gb262, 10, none⟩ = some (.slice A0_10 l0_10.length c0_10) := (blk_cell BK262.out 10).trans rfl
                refine value_ (w1 := w') (v := .int .i64 a0_1) (by rfl) rfl ?_ ?_
                ·go_simp
                 (try simp only [i64_w])
                 try rfl
                refine hK.out _ _ ⟨v267, v270, v273, v276, v279, v282, v285, v288, v291, m36_, (by rw [ha.out]; exact putSel_upk 10 hb_ rfl rfl rfl), Q_HO_263009, Q_BK262, Q_HB, Q_HO268, Q_HO271, fun h0_ => absurd ((hoff 16 (by kernel_rfl)).symm.trans h0_) (by decide), fun h0_ => absurd ((hoff 18 (by kernel_rfl)).symm.trans h0_) (by decide), Q_HO280, fun h0_ => absurd ((hoff 28 (by kernel_rfl)).symm.trans h0_) (by decide), fun h0_ => absurd ((hoff 31 (by kernel_rfl)).symm.trans h0_) (by decide), fun h0_ _ => absurd ((hoff 34 (by kernel_rfl)).symm.trans h0_) (by decide), fun h0_ => absurd ((hoff 35 (by kernel_rfl)).symm.trans h0_) (by decide), fun h0_ => absurd ((hoff 36 (by kernel_rfl)).symm.trans h0_) (by decide)⟩
               refine steps_cons ?_ ?_
               ·rintro b a w' ⟨v267, v270, v273, v276, v279, v282, v285, v288, v291, m36_, ha, Q_HO_263009, Q_BK262, Q_HB, Q_HO268, Q_HO271, Q_HO274, Q_HO277, Q_HO280, Q_HO283, Q_HO286, Q_HO289, Q_HO292, Q_X36_⟩ hb_ hon hoff
                refine ⟨_, rfl, fun K hK => ?_⟩
                have e93 : a.tmps[93]? = some (.int .i64 a0_1) := by rw [ha]; exact putSel_on (e := (15, 93, .int .i64 a0_1)) 10 rfl rfl (hon 15 (by kernel_rfl)) rfl
                replace ha := Aside0.mk ha
                have HO_263009 := Aside0.mk Q_HO_263009
                have BK262 := Aside0.mk Q_BK262
                have HB := Aside0.mk Q_HB
                have HO271 := Aside0.mk (Q_HO271 (hon 13 (by kernel_rfl)))
                refine goes_ Try.func73 (by kernel_rfl) rfl #[.int .i64 a0_1] (by rfl) rfl rfl (by first | (simp only [List.map_toArray, List.map_cons, List.map_nil, Act.eval, Array.getD_eq_getD_getElem?, Option.getD_some, e93]; done) | (simp only [List.map_toArray, List.map_cons, List.map_nil, Act.eval, Array.getD_eq_getD_getElem?, Option.getD_some, e93]; rfl)) ?_
                with_reducible refine (word_Put16.calls a0_1 t272 _ A35.out).mono ?_
                rintro e w52 ⟨v273, rfl, ho0, hb⟩
                refine ⟨_, rfl, ?_⟩
                have n0_ := Aside0.mk (Kd.V_elder' (by (with_reducible repeat (first | apply Kd.V_alloc | apply Kd.V_drewN | apply Kd.V_drew)); exact HO_263009.out) (Kd.R_base ho0) hb)
                have n1_ := Aside0.mk (Kd.R_elder' (by (with_reducible repeat (first | apply Kd.R_alloc | apply Kd.R_drewN | apply Kd.R_drew)); exact HO271.out) (Kd.R_base ho0) hb)
                have n2_ := Aside0.mk (Kd.R_lower (Kd.R_new' (Kd.R_newM (M := fun k_ => (w.heap.size ≤ k_)) ho0 (below_size (by repeat (first | (with_reducible first | exact HB.out | apply below_alloc | apply pw_below_drewN | apply below_drew1 | refine below_set ?_ GE262.out) | exact HB.out))) (fun k_ h_ => h_)) (Kd.R_lt (by (with_reducible repeat (first | apply Kd.R_alloc | apply Kd.R_drewN | apply Kd.R_drew)); exact HO271.out))) (below_size (by repeat (first | (with_reducible first | exact HB.out | apply below_alloc | apply pw_below_drewN | apply below_drew1 | refine below_set ?_ GE262.out) | exact HB.out))))
                have n3_ := Aside0.mk (blk_below (g := gb262) (o := .cells #[.int .i64 a0_0, .int .i64 a0_1, .bool a0_2, .bool a0_3, .int .i64 a0_4, .int .i64 a0_5, .int .i64 a0_6, .int .u32 a0_7, .int .u32 a0_8, .slice A0_9 l0_9.length c0_9, .slice A0_10 l0_10.length c0_10] 26 (0, 0)) (by (with_reducible repeat (first | refine blk_drewN ?_ _ | refine blk_drew ?_ | refine blk_alloc ?_ _)); exact BK262.out) hb)
                have n4_ := Aside0.mk (below_step (by repeat (first | (with_reducible first | exact HB.out | apply below_alloc | apply pw_below_drewN | apply below_drew1 | refine below_set ?_ GE262.out) | exact HB.out)) hb)
                have z_HO268 := fun (h0_ : b 7 = true) => (show Kd.R (Kd.int .u8) 5 w52 w.heap.size (fun k_ => (w.heap.size ≤ k_)) v267 y266 from by first | exact (Kd.R_elder' (by (with_reducible repeat (first | apply Kd.R_alloc | apply Kd.R_drewN | apply Kd.R_drew)); exact (Q_HO268 h0_)) (Kd.R_base ho0) hb) | exact Kd.R_mono (Kd.R_elder' (by (with_reducible repeat (first | apply Kd.R_alloc | apply Kd.R_drewN | apply Kd.R_drew)); exact (Q_HO268 h0_)) (Kd.R_base ho0) hb) (fun _ h_ => by first | trivial | exact h_ | exact h_.1))
                have z_HO280 := fun (h0_ : b 25 = true) => (show Kd.R (Kd.int .u8) 5 w52 w.heap.size (fun k_ => (w.heap.size ≤ k_)) v279 y278 from by first | exact (Kd.R_elder' (by (with_reducible repeat (first | apply Kd.R_alloc | apply Kd.R_drewN | apply Kd.R_drew)); exact (Q_HO280 h0_)) (Kd.R_base ho0) hb) | exact Kd.R_mono (Kd.R_elder' (by (with_reducible repeat (first | apply Kd.R_alloc | apply Kd.R_drewN | apply Kd.R_drew)); exact (Q_HO280 h0_)) (Kd.R_base ho0) hb) (fun _ h_ => by first | trivial | exact h_ | exact h_.1))
                clear HO_263009
                clear HO271
                clear BK262
                clear HB
                have HO_263009 := n0_
                have HO271 := n1_
                have HO274 := n2_
                have BK262 := n3_
                have HB := n4_
                clear n0_ n1_ n2_ n3_ n4_
                (try clear hb)
                (try clear hb2)
                (try clear hk)
                (try clear hi)
                (try clear ho0)
                refine hK.out _ _ ⟨v267, v270, v273, v276, v279, v282, v285, v288, v291, m36_, (by rw [ha.out]; exact putSel_upk 11 hb_ rfl rfl rfl), (by first | ((with_reducible repeat (first | apply Kd.V_alloc | apply Kd.V_drewN | apply Kd.V_drew)); exact Kd.V_mono HO_263009.out (fun _ hk => by first | exact ⟨hk.1.1, ⟨hk.1.2.1, ⟨hk.2, hk.1.2.2⟩⟩⟩ | exact okw hk)) | ((with_reducible repeat (first | apply Kd.V_alloc | apply Kd.V_drewN | apply Kd.V_drew)); exact Kd.V_mono HO_263009.out (fun _ hk => by first | trivial | exact hk | exact hk.1 | exact hk.2 | exact hk.1.1 | exact okw hk))), (by (with_reducible repeat (first | refine blk_drewN ?_ _ | refine blk_drew ?_ | refine blk_alloc ?_ _)); exact BK262.out), (by repeat (first | (with_reducible first | exact HB.out | apply below_alloc | apply pw_below_drewN | apply below_drew1 | refine below_set ?_ GE262.out) | exact HB.out)), z_HO268, fun _ => (by first | ((with_reducible repeat (first | apply Kd.R_alloc | apply Kd.R_drewN | apply Kd.R_drew)); exact HO271.out) | ((with_reducible repeat (first | apply Kd.R_alloc | apply Kd.R_drewN | apply Kd.R_drew)); exact Kd.R_mono HO271.out (fun _ hk => by first | trivial | exact hk | exact hk.1 | exact hk.2 | exact hk.1.1 | exact okw hk))), fun _ => (by first | ((with_reducible repeat (first | apply Kd.R_alloc | apply Kd.R_drewN | apply Kd.R_drew)); exact Kd.R_mono HO274.out (fun _ hk => by first | exact ⟨hk.1.1, hk.2⟩ | exact okw hk)) | ((with_reducible repeat (first | apply Kd.R_alloc | apply Kd.R_drewN | apply Kd.R_drew)); exact Kd.R_mono HO274.out (fun _ hk => by first | trivial | exact hk | exact hk.1 | exact hk.2 | exact hk.1.1 | exact okw hk))), fun h0_ => absurd ((hoff 18 (by kernel_rfl)).symm.trans h0_) (by decide), z_HO280, fun h0_ => absurd ((hoff 28 (by kernel_rfl)).symm.trans h0_) (by decide), fun h0_ => absurd ((hoff 31 (by kernel_rfl)).symm.trans h0_) (by decide), fun h0_ _ => absurd ((hoff 34 (by kernel_rfl)).symm.trans h0_) (by decide), fun h0_ => absurd ((hoff 35 (by kernel_rfl)).symm.trans h0_) (by decide), fun h0_ => absurd ((hoff 36 (by kernel_rfl)).symm.trans h0_) (by decide)⟩
               refine steps_cons ?_ ?_
               ·rintro b a w' ⟨v267, v270, v273, v276, v279, v282, v285, v288, v291, m36_, ha, Q_HO_263009, Q_BK262, Q_HB, Q_HO268, Q_HO271, Q_HO274, Q_HO277, Q_HO280, Q_HO283, Q_HO286, Q_HO289, Q_HO292, Q_X36_⟩ hb_ hon hoff
                refine ⟨_, rfl, fun K hK => ?_⟩
                have e95 : a.tmps[95]? = some (.int .i64 x5_30) := by rw [ha]; exact (putSel_off rfl).trans rfl
                replace ha := Aside0.mk ha
                have HO_263009 := Aside0.mk Q_HO_263009
                have BK262 := Aside0.mk Q_BK262
                have HB := Aside0.mk Q_HB
                have HO271 := Aside0.mk (Q_HO271 (hon 13 (by kernel_rfl)))
                have HO274 := Aside0.mk (Q_HO274 (hon 16 (by kernel_rfl)))
                refine goes_ Try.func73 (by kernel_rfl) rfl #[.int .i64 x5_30] (by rfl) rfl rfl (by first | (simp only [List.map_toArray, List.map_cons, List.map_nil, Act.eval, Array.getD_eq_getD_getElem?, Option.getD_some, e95]; done) | (simp only [List.map_toArray, List.map_cons, List.map_nil, Act.eval, Array.getD_eq_getD_getElem?, Option.getD_some, e95]; rfl)) ?_
                with_reducible refine (word_Put16.calls x5_30 t275 _ A36.out).mono ?_
                rintro e w53 ⟨v276, rfl, ho0, hb⟩
                refine ⟨_, rfl, ?_⟩
                have n0_ := Aside0.mk (Kd.V_elder' (by (with_reducible repeat (first | apply Kd.V_alloc | apply Kd.V_drewN | apply Kd.V_drew)); exact HO_263009.out) (Kd.R_base ho0) hb)
                have n1_ := Aside0.mk (Kd.R_elder' (by (with_reducible repeat (first | apply Kd.R_alloc | apply Kd.R_drewN | apply Kd.R_drew)); exact HO271.out) (Kd.R_base ho0) hb)
                have n2_ := Aside0.mk (Kd.R_elder' (by (with_reducible repeat (first | apply Kd.R_alloc | apply Kd.R_drewN | apply Kd.R_drew)); exact HO274.out) (Kd.R_base ho0) hb)
                have n3_ := Aside0.mk (Kd.R_lower (Kd.R_new' (Kd.R_new' (Kd.R_newM (M := fun k_ => (w.heap.size ≤ k_)) ho0 (below_size (by repeat (first | (with_reducible first | exact HB.out | apply below_alloc | apply pw_below_drewN | apply below_drew1 | refine below_set ?_ GE262.out) | exact HB.out))) (fun k_ h_ => h_)) (Kd.R_lt (by (with_reducible repeat (first | apply Kd.R_alloc | apply Kd.R_drewN | apply Kd.R_drew)); exact HO271.out))) (Kd.R_lt (by (with_reducible repeat (first | apply Kd.R_alloc | apply Kd.R_drewN | apply Kd.R_drew)); exact HO274.out))) (below_size (by repeat (first | (with_reducible first | exact HB.out | apply below_alloc | apply pw_below_drewN | apply below_drew1 | refine below_set ?_ GE262.out) | exact HB.out))))
                have n4_ := Aside0.mk (blk_below (g := gb262) (o := .cells #[.int .i64 a0_0, .int .i64 a0_1, .bool a0_2, .bool a0_3, .int .i64 a0_4, .int .i64 a0_5, .int .i64 a0_6, .int .u32 a0_7, .int .u32 a0_8, .slice A0_9 l0_9.length c0_9, .slice A0_10 l0_10.length c0_10] 26 (0, 0)) (by (with_reducible repeat (first | refine blk_drewN ?_ _ | refine blk_drew ?_ | refine blk_alloc ?_ _)); exact BK262.out) hb)
                have n5_ := Aside0.mk (below_step (by repeat (first | (with_reducible first | exact HB.out | apply below_alloc | apply pw_below_drewN | apply below_drew1 | refine below_set ?_ GE262.out) | exact HB.out)) hb)
                have z_HO268 := fun (h0_ : b 7 = true) => (show Kd.R (Kd.int .u8) 5 w53 w.heap.size (fun k_ => (w.heap.size ≤ k_)) v267 y266 from by first | exact (Kd.R_elder' (by (with_reducible repeat (first | apply Kd.R_alloc | apply Kd.R_drewN | apply Kd.R_drew)); exact (Q_HO268 h0_)) (Kd.R_base ho0) hb) | exact Kd.R_mono (Kd.R_elder' (by (with_reducible repeat (first | apply Kd.R_alloc | apply Kd.R_drewN | apply Kd.R_drew)); exact (Q_HO268 h0_)) (Kd.R_base ho0) hb) (fun _ h_ => by first | trivial | exact h_ | exact h_.1))
                have z_HO280 := fun (h0_ : b 25 = true) => (show Kd.R (Kd.int .u8) 5 w53 w.heap.size (fun k_ => (w.heap.size ≤ k_)) v279 y278 from by first | exact (Kd.R_elder' (by (with_reducible repeat (first | apply Kd.R_alloc | apply Kd.R_drewN | apply Kd.R_drew)); exact (Q_HO280 h0_)) (Kd.R_base ho0) hb) | exact Kd.R_mono (Kd.R_elder' (by (with_reducible repeat (first | apply Kd.R_alloc | apply Kd.R_drewN | apply Kd.R_drew)); exact (Q_HO280 h0_)) (Kd.R_base ho0) hb) (fun _ h_ => by first | trivial | exact h_ | exact h_.1))
                clear HO_263009
                clear HO271
                clear HO274
                clear BK262
                clear HB
                have HO_263009 := n0_
                have HO271 := n1_
                have HO274 := n2_
                have HO277 := n3_
                have BK262 := n4_
                have HB := n5_
                clear n0_ n1_ n2_ n3_ n4_ n5_
                (try clear hb)
                (try clear hb2)
                (try clear hk)
                (try clear hi)
                (try clear ho0)
                refine hK.out _ _ ⟨v267, v270, v273, v276, v279, v282, v285, v288, v291, m36_, (by rw [ha.out]; exact putSel_upk 12 hb_ rfl rfl rfl), (by first | ((with_reducible repeat (first | apply Kd.V_alloc | apply Kd.V_drewN | apply Kd.V_drew)); exact Kd.V_mono HO_263009.out (fun _ hk => by first | exact ⟨hk.1.1, ⟨hk.1.2.1, ⟨hk.1.2.2.1, ⟨hk.2, hk.1.2.2.2⟩⟩⟩⟩ | exact okw hk)) | ((with_reducible repeat (first | apply Kd.V_alloc | apply Kd.V_drewN | apply Kd.V_drew)); exact Kd.V_mono HO_263009.out (fun _ hk => by first | trivial | exact hk | exact hk.1 | exact hk.2 | exact hk.1.1 | exact okw hk))), (by (with_reducible repeat (first | refine blk_drewN ?_ _ | refine blk_drew ?_ | refine blk_alloc ?_ _)); exact BK262.out), (by repeat (first | (with_reducible first | exact HB.out | apply below_alloc | apply pw_below_drewN | apply below_drew1 | refine below_set ?_ GE262.out) | exact HB.out)), z_HO268, fun _ => (by first | ((with_reducible repeat (first | apply Kd.R_alloc | apply Kd.R_drewN | apply Kd.R_drew)); exact Kd.R_mono HO271.out (fun _ hk => by first | exact ⟨hk.1.1, ⟨hk.1.2, hk.2⟩⟩ | exact okw hk)) | ((with_reducible repeat (first | apply Kd.R_alloc | apply Kd.R_drewN | apply Kd.R_drew)); exact Kd.R_mono HO271.out (fun _ hk => by first | trivial | exact hk | exact hk.1 | exact hk.2 | exact hk.1.1 | exact okw hk))), fun _ => (by first | ((with_reducible repeat (first | apply Kd.R_alloc | apply Kd.R_drewN | apply Kd.R_drew)); exact Kd.R_mono HO274.out (fun _ hk => by first | exact ⟨hk.1.1, ⟨hk.1.2, hk.2⟩⟩ | exact okw hk)) | ((with_reducible repeat (first | apply Kd.R_alloc | apply Kd.R_drewN | apply Kd.R_drew)); exact Kd.R_mono HO274.out (fun _ hk => by first | trivial | exact hk | exact hk.1 | exact hk.2 | exact hk.1.1 | exact okw hk))), fun _ => (by first | ((with_reducible repeat (first | apply Kd.R_alloc | apply Kd.R_drewN | apply Kd.R_drew)); exact Kd.R_mono HO277.out (fun _ hk => by first | exact ⟨hk.1.1.1, ⟨hk.1.2, hk.2⟩⟩ | exact okw hk)) | ((with_reducible repeat (first | apply Kd.R_alloc | apply Kd.R_drewN | apply Kd.R_drew)); exact Kd.R_mono HO277.out (fun _ hk => by first | trivial | exact hk | exact hk.1 | exact hk.2 | exact hk.1.1 | exact okw hk))), z_HO280, fun h0_ => absurd ((hoff 28 (by kernel_rfl)).symm.trans h0_) (by decide), fun h0_ => absurd ((hoff 31 (by kernel_rfl)).symm.trans h0_) (by decide), fun h0_ _ => absurd ((hoff 34 (by kernel_rfl)).symm.trans h0_) (by decide), fun h0_ => absurd ((hoff 35 (by kernel_rfl)).symm.trans h0_) (by decide), fun h0_ => absurd ((hoff 36 (by kernel_rfl)).symm.trans h0_) (by decide)⟩
               refine steps_cons ?_ ?_
               ·rintro b a w' ⟨v267, v270, v273, v276, v279, v282, v285, v288, v291, m36_, ha, Q_HO_263009, Q_BK262, Q_HB, Q_HO268, Q_HO271, Q_HO274, Q_HO277, Q_HO280, Q_HO283, Q_HO286, Q_HO289, Q_HO292, Q_X36_⟩ hb_ hon hoff
                refine ⟨_, rfl, fun K hK => ?_⟩
                have e97 : a.tmps[97]? = some (.pointer (some ⟨gb262, 5, none⟩)) := by rw [ha]; exact (putSel_off rfl).trans rfl
                replace ha := Aside0.mk ha
                have HO_263009 := Aside0.mk Q_HO_263009
                have BK262 := Aside0.mk Q_BK262
                have HB := Aside0.mk Q_HB
                have hc0_ : w'.cell? ⟨gb262, 0, none⟩ = some (.int .i64 a0_0) := (blk_cell BK262.out 0).trans rfl
                have hc1_ : w'.cell? ⟨gb262, 1, none⟩ = some (.int .i64 a0_1) := (blk_cell BK262.out 1).trans rfl
                have hc2_ : w'.cell? ⟨gb262, 2, none⟩ = some (.bool a0_2) := (blk_cell BK262.out 2).trans rfl
                have hc3_ : w'.cell? ⟨gb262, 3, none⟩ = some (.bool a0_3) := (blk_cell BK262.out 3).trans rfl
                have hc4_ : w'.cell? ⟨gb262, 4, none⟩ = some (.int .i64 a0_4) := (blk_cell BK262.out 4).trans rfl
                have hc5_ : w'.cell? ⟨gb262, 5, none⟩ = some (.int .i64 a0_5) := (blk_cell BK262.out 5).trans rfl
                have hc6_ : w'.cell? ⟨gb262, 6, none⟩ = some (.int .i64 a0_6) := (blk_cell BK262.out 6).trans rfl
                have hc7_ : w'.cell? ⟨gb262, 7, none⟩ = some (.int .u32 a0_7) := (blk_cell BK262.out 7).trans rfl
                have hc8_ : w'.cell? ⟨gb262, 8, none⟩ = some (.int .u32 a0_8) := (blk_cell BK262.out 8).trans rfl
                have hc9_ : w'.cell? ⟨gb262, 9, none⟩ = some (.slice A0_9 l0_9.length c0_9) := (blk_cell BK262.out 9).trans rfl
                have hc10_ : w'.cell? ⟨gb262, 10, none⟩ = some (.slice A0_10 l0_10.length c0_10) := (blk_cell BK262.out 10).trans rfl
                refine value_ (w1 := w') (v := .int .i64 a0_5) (by rfl) rfl ?_ ?_
                ·go_simp
                 (try simp only [i64_w])
                 try rfl
                refine hK.out _ _ ⟨v267, v270, v273, v276, v279, v282, v285, v288, v291, m36_, (by rw [ha.out]; exact putSel_upk 13 hb_ rfl rfl rfl), Q_HO_263009, Q_BK262, Q_HB, Q_HO268, Q_HO271, Q_HO274, Q_HO277, fun h0_ => absurd ((hoff 25 (by kernel_rfl)).symm.trans h0_) (by decide), Q_HO283, Q_HO286, fun h0_ _ => absurd ((hoff 34 (by kernel_rfl)).symm.trans h0_) (by decide), fun h0_ => absurd ((hoff 35 (by kernel_rfl)).symm.trans h0_) (by decide), fun h0_ => absurd ((hoff 36 (by kernel_rfl)).symm.trans h0_) (by decide)⟩
               refine steps_cons ?_ ?_
               ·rintro b a w' ⟨v267, v270, v273, v276, v279, v282, v285, v288, v291, m36_, ha, Q_HO_263009, Q_BK262, Q_HB, Q_HO268, Q_HO271, Q_HO274, Q_HO277, Q_HO280, Q_HO283, Q_HO286, Q_HO289, Q_HO292, Q_X36_⟩ hb_ hon hoff
                refine ⟨_, rfl, fun K hK => ?_⟩
                have e98 : a.tmps[98]? = some (.int .i64 a0_5) := by rw [ha]; exact putSel_on (e := (20, 98, .int .i64 a0_5)) 13 rfl rfl (hon 20 (by kernel_rfl)) rfl
                replace ha := Aside0.mk ha
                have HO_263009 := Aside0.mk Q_HO_263009
                have BK262 := Aside0.mk Q_BK262
                have HB := Aside0.mk Q_HB
                refine value_ (w1 := w') (v := .int .u8 ((a0_5) % 256)) (by rfl) rfl ?_ ?_
                ·go_simp
                 (try simp only [i64_w])
                 try (first | exact IntKind.wrap_u8 _ | rfl)
                refine hK.out _ _ ⟨v267, v270, v273, v276, v279, v282, v285, v288, v291, m36_, (by rw [ha.out]; exact putSel_upk 14 hb_ rfl rfl rfl), Q_HO_263009, Q_BK262, Q_HB, Q_HO268, Q_HO271, Q_HO274, Q_HO277, fun h0_ => absurd ((hoff 25 (by kernel_rfl)).symm.trans h0_) (by decide), Q_HO283, Q_HO286, fun h0_ _ => absurd ((hoff 34 (by kernel_rfl)).symm.trans h0_) (by decide), fun h0_ => absurd ((hoff 35 (by kernel_rfl)).symm.trans h0_) (by decide), fun h0_ => absurd ((hoff 36 (by kernel_rfl)).symm.trans h0_) (by decide)⟩
               refine steps_cons ?_ ?_
               ·rintro b a w' ⟨v267, v270, v273, v276, v279, v282, v285, v288, v291, m36_, ha, Q_HO_263009, Q_BK262, Q_HB, Q_HO268, Q_HO271, Q_HO274, Q_HO277, Q_HO280, Q_HO283, Q_HO286, Q_HO289, Q_HO292, Q_X36_⟩ hb_ hon hoff
                refine ⟨_, rfl, fun K hK => ?_⟩
                have e100 : a.tmps[100]? = some (.pointer (some ⟨gb262, 6, none⟩)) := by rw [ha]; exact (putSel_off rfl).trans rfl
                replace ha := Aside0.mk ha
                have HO_263009 := Aside0.mk Q_HO_263009
                have BK262 := Aside0.mk Q_BK262
                have HB := Aside0.mk Q_HB
                have hc0_ : w'.cell? ⟨gb262, 0, none⟩ = some (.int .i64 a0_0) := (blk_cell BK262.out 0).trans rfl
                have hc1_ : w'.cell? ⟨gb262, 1, none⟩ = some (.int .i64 a0_1) := (blk_cell BK262.out 1).trans rfl
                have hc2_ : w'.cell? ⟨gb262, 2, none⟩ = some (.bool a0_2) := (blk_cell BK262.out 2).trans rfl
                have hc3_ : w'.cell? ⟨gb262, 3, none⟩ = some (.bool a0_3) := (blk_cell BK262.out 3).trans rfl
                have hc4_ : w'.cell? ⟨gb262, 4, none⟩ = some (.int .i64 a0_4) := (blk_cell BK262.out 4).trans rfl
                have hc5_ : w'.cell? ⟨gb262, 5, none⟩ = some (.int .i64 a0_5) := (blk_cell BK262.out 5).trans rfl
                have hc6_ : w'.cell? ⟨gb262, 6, none⟩ = some (.int .i64 a0_6) := (blk_cell BK262.out 6).trans rfl
                have hc7_ : w'.cell? ⟨gb262, 7, none⟩ = some (.int .u32 a0_7) := (blk_cell BK262.out 7).trans rfl
                have hc8_ : w'.cell? ⟨gb262, 8, none⟩ = some (.int .u32 a0_8) := (blk_cell BK262.out 8).trans rfl
                have hc9_ : w'.cell? ⟨gb262, 9, none⟩ = some (.slice A0_9 l0_9.length c0_9) := (blk_cell BK262.out 9).trans rfl
                have hc10_ : w'.cell? ⟨gb262, 10, none⟩ = some (.slice A0_10 l0_10.length c0_10) := (blk_cell BK262.out 10).trans rfl
                refine value_ (w1 := w') (v := .int .i64 a0_6) (by rfl) rfl ?_ ?_
                ·go_simp
                 (try simp only [i64_w])
                 try rfl
                refine hK.out _ _ ⟨v267, v270, v273, v276, v279, v282, v285, v288, v291, m36_, (by rw [ha.out]; exact putSel_upk 15 hb_ rfl rfl rfl), Q_HO_263009, Q_BK262, Q_HB, Q_HO268, Q_HO271, Q_HO274, Q_HO277, fun h0_ => absurd ((hoff 25 (by kernel_rfl)).symm.trans h0_) (by decide), Q_HO283, Q_HO286, fun h0_ _ => absurd ((hoff 34 (by kernel_rfl)).symm.trans h0_) (by decide), fun h0_ => absurd ((hoff 35 (by kernel_rfl)).symm.trans h0_) (by decide), fun h0_ => absurd ((hoff 36 (by kernel_rfl)).symm.trans h0_) (by decide)⟩
               refine steps_cons ?_ ?_
               ·rintro b a w' ⟨v267, v270, v273, v276, v279, v282, v285, v288, v291, m36_, ha, Q_HO_263009, Q_BK262, Q_HB, Q_HO268, Q_HO271, Q_HO274, Q_HO277, Q_HO280, Q_HO283, Q_HO286, Q_HO289, Q_HO292, Q_X36_⟩ hb_ hon hoff
                refine ⟨_, rfl, fun K hK => ?_⟩
                have e101 : a.tmps[101]? = some (.int .i64 a0_6) := by rw [ha]; exact putSel_on (e := (23, 101, .int .i64 a0_6)) 15 rfl rfl (hon 23 (by kernel_rfl)) rfl
                replace ha := Aside0.mk ha
                have HO_263009 := Aside0.mk Q_HO_263009
                have BK262 := Aside0.mk Q_BK262
                have HB := Aside0.mk Q_HB
                refine value_ (w1 := w') (v := .int .u8 ((a0_6) % 256)) (by rfl) rfl ?_ ?_
                ·go_simp
                 (try simp only [i64_w])
                 try (first | exact IntKind.wrap_u8 _ | rfl)
                refine hK.out _ _ ⟨v267, v270, v273, v276, v279, v282, v285, v288, v291, m36_, (by rw [ha.out]; exact putSel_upk 16 hb_ rfl rfl rfl), Q_HO_263009, Q_BK262, Q_HB, Q_HO268, Q_HO271, Q_HO274, Q_HO277, fun h0_ => absurd ((hoff 25 (by kernel_rfl)).symm.trans h0_) (by decide), Q_HO283, Q_HO286, fun h0_ _ => absurd ((hoff 34 (by kernel_rfl)).symm.trans h0_) (by decide), fun h0_ => absurd ((hoff 35 (by kernel_rfl)).symm.trans h0_) (by decide), fun h0_ => absurd ((hoff 36 (by kernel_rfl)).symm.trans h0_) (by decide)⟩
               refine steps_cons ?_ ?_
               ·rintro b a w' ⟨v267, v270, v273, v276, v279, v282, v285, v288, v291, m36_, ha, Q_HO_263009, Q_BK262, Q_HB, Q_HO268, Q_HO271, Q_HO274, Q_HO277, Q_HO280, Q_HO283, Q_HO286, Q_HO289, Q_HO292, Q_X36_⟩ hb_ hon hoff
                refine ⟨_, rfl, fun K hK => ?_⟩
                have e99 : a.tmps[99]? = some (.int .u8 ((a0_5) % 256)) := by rw [ha]; exact putSel_on (e := (21, 99, .int .u8 ((a0_5) % 256))) 14 rfl rfl (hon 21 (by kernel_rfl)) rfl
                have e102 : a.tmps[102]? = some (.int .u8 ((a0_6) % 256)) := by rw [ha]; exact putSel_on (e := (24, 102, .int .u8 ((a0_6) % 256))) 16 rfl rfl (hon 24 (by kernel_rfl)) rfl
                replace ha := Aside0.mk ha
                have HO_263009 := Aside0.mk Q_HO_263009
                have BK262 := Aside0.mk Q_BK262
                have HB := Aside0.mk Q_HB
                refine Kd.R_lit_step (Kd.int .u8) _ 5 ?hg (N := 103) ?hd (xs := ([(a0_5) % 256, (a0_6) % 256, 0, 0] : List Int)) (inner := [.int .u8 ((a0_5) % 256), .int .u8 ((a0_6) % 256), .int .u8 0, .int .u8 0]) (ok := fun _ => True) (okp := fun _ => True) ?hr ?hp (fun _ hk => hk) trivial (Below.refl _ _) (Nat.le_refl _) (by simp) ?_; (case hd => rfl); (case hg => rfl); (case hr => first | (go_simp; done) | (go_simp; rfl)); (case hp => exact (Reps.one (show Kd.M (Kd.int .u8) _ _ _ ((a0_5) % 256) [.int .u8 ((a0_5) % 256)] from rfl) (Reps.one (show Kd.M (Kd.int .u8) _ _ _ ((a0_6) % 256) [.int .u8 ((a0_6) % 256)] from rfl) (Reps.one (show Kd.M (Kd.int .u8) _ _ _ 0 [.int .u8 0] from rfl) (Reps.one (show Kd.M (Kd.int .u8) _ _ _ 0 [.int .u8 0] from rfl) (Reps.none _ _))))))
                intro v279 w50 ho51 hb hg_ hnew_
                clear hg_ hnew_
                (first | rw [← Ny278.out] at ho51 | (simp only [Int.reduceToNat] at ho51; rw [← Ny278.out] at ho51))
                have n0_ := Aside0.mk (Kd.V_elder' (by (with_reducible repeat (first | apply Kd.V_alloc | apply Kd.V_drewN | apply Kd.V_drew)); exact HO_263009.out) (Kd.R_base ho51) hb)
                have n1_ := Aside0.mk (Kd.R_lower (Kd.R_newM (M := fun k_ => (w.heap.size ≤ k_)) ho51 (below_size (by repeat (first | (with_reducible first | exact HB.out | apply below_alloc | apply pw_below_drewN | apply below_drew1 | refine below_set ?_ GE262.out) | exact HB.out))) (fun k_ h_ => h_)) (below_size (by repeat (first | (with_reducible first | exact HB.out | apply below_alloc | apply pw_below_drewN | apply below_drew1 | refine below_set ?_ GE262.out) | exact HB.out))))
                have n2_ := Aside0.mk (blk_below (g := gb262) (o := .cells #[.int .i64 a0_0, .int .i64 a0_1, .bool a0_2, .bool a0_3, .int .i64 a0_4, .int .i64 a0_5, .int .i64 a0_6, .int .u32 a0_7, .int .u32 a0_8, .slice A0_9 l0_9.length c0_9, .slice A0_10 l0_10.length c0_10] 26 (0, 0)) (by (with_reducible repeat (first | refine blk_drewN ?_ _ | refine blk_drew ?_ | refine blk_alloc ?_ _)); exact BK262.out) hb)
                have n3_ := Aside0.mk (below_step (by repeat (first | (with_reducible first | exact HB.out | apply below_alloc | apply pw_below_drewN | apply below_drew1 | refine below_set ?_ GE262.out) | exact HB.out)) hb)
                have z_HO268 := fun (h0_ : b 7 = true) => (show Kd.R (Kd.int .u8) 5 w50 w.heap.size (fun k_ => (w.heap.size ≤ k_)) v267 y266 from by first | exact (Kd.R_elder' (by (with_reducible repeat (first | apply Kd.R_alloc | apply Kd.R_drewN | apply Kd.R_drew)); exact (Q_HO268 h0_)) (Kd.R_base ho51) hb) | exact Kd.R_mono (Kd.R_elder' (by (with_reducible repeat (first | apply Kd.R_alloc | apply Kd.R_drewN | apply Kd.R_drew)); exact (Q_HO268 h0_)) (Kd.R_base ho51) hb) (fun _ h_ => by first | trivial | exact h_ | exact h_.1))
                have z_HO271 := fun (h0_ : b 13 = true) => (show Kd.R (Kd.int .u8) 5 w50 w.heap.size (fun k_ => (w.heap.size ≤ k_)) v270 t269 from by first | exact (Kd.R_elder' (by (with_reducible repeat (first | apply Kd.R_alloc | apply Kd.R_drewN | apply Kd.R_drew)); exact (Q_HO271 h0_)) (Kd.R_base ho51) hb) | exact Kd.R_mono (Kd.R_elder' (by (with_reducible repeat (first | apply Kd.R_alloc | apply Kd.R_drewN | apply Kd.R_drew)); exact (Q_HO271 h0_)) (Kd.R_base ho51) hb) (fun _ h_ => by first | trivial | exact h_ | exact h_.1))
                have z_HO274 := fun (h0_ : b 16 = true) => (show Kd.R (Kd.int .u8) 5 w50 w.heap.size (fun k_ => (w.heap.size ≤ k_)) v273 t272 from by first | exact (Kd.R_elder' (by (with_reducible repeat (first | apply Kd.R_alloc | apply Kd.R_drewN | apply Kd.R_drew)); exact (Q_HO274 h0_)) (Kd.R_base ho51) hb) | exact Kd.R_mono (Kd.R_elder' (by (with_reducible repeat (first | apply Kd.R_alloc | apply Kd.R_drewN | apply Kd.R_drew)); exact (Q_HO274 h0_)) (Kd.R_base ho51) hb) (fun _ h_ => by first | trivial | exact h_ | exact h_.1))
                have z_HO277 := fun (h0_ : b 18 = true) => (show Kd.R (Kd.int .u8) 5 w50 w.heap.size (fun k_ => (w.heap.size ≤ k_)) v276 t275 from by first | exact (Kd.R_elder' (by (with_reducible repeat (first | apply Kd.R_alloc | apply Kd.R_drewN | apply Kd.R_drew)); exact (Q_HO277 h0_)) (Kd.R_base ho51) hb) | exact Kd.R_mono (Kd.R_elder' (by (with_reducible repeat (first | apply Kd.R_alloc | apply Kd.R_drewN | apply Kd.R_drew)); exact (Q_HO277 h0_)) (Kd.R_base ho51) hb) (fun _ h_ => by first | trivial | exact h_ | exact h_.1))
                have z_HO283 := fun (h0_ : b 28 = true) => (show Kd.R (Kd.int .u8) 5 w50 w.heap.size (fun k_ => (w.heap.size ≤ k_)) v282 t281 from by first | exact (Kd.R_elder' (by (with_reducible repeat (first | apply Kd.R_alloc | apply Kd.R_drewN | apply Kd.R_drew)); exact (Q_HO283 h0_)) (Kd.R_base ho51) hb) | exact Kd.R_mono (Kd.R_elder' (by (with_reducible repeat (first | apply Kd.R_alloc | apply Kd.R_drewN | apply Kd.R_drew)); exact (Q_HO283 h0_)) (Kd.R_base ho51) hb) (fun _ h_ => by first | trivial | exact h_ | exact h_.1))
                have z_HO286 := fun (h0_ : b 31 = true) => (show Kd.R (Kd.int .u8) 5 w50 w.heap.size (fun k_ => (w.heap.size ≤ k_)) v285 t284 from by first | exact (Kd.R_elder' (by (with_reducible repeat (first | apply Kd.R_alloc | apply Kd.R_drewN | apply Kd.R_drew)); exact (Q_HO286 h0_)) (Kd.R_base ho51) hb) | exact Kd.R_mono (Kd.R_elder' (by (with_reducible repeat (first | apply Kd.R_alloc | apply Kd.R_drewN | apply Kd.R_drew)); exact (Q_HO286 h0_)) (Kd.R_base ho51) hb) (fun _ h_ => by first | trivial | exact h_ | exact h_.1))
                clear HO_263009
                clear BK262
                clear HB
                have HO_263009 := n0_
                have HO280 := n1_
                have BK262 := n2_
                have HB := n3_
                clear n0_ n1_ n2_ n3_
                clear hb ho51
                refine hK.out _ _ ⟨v267, v270, v273, v276, v279, v282, v285, v288, v291, m36_, (by rw [ha.out]; exact putSel_upk 17 hb_ rfl rfl rfl), (by first | ((with_reducible repeat (first | apply Kd.V_alloc | apply Kd.V_drewN | apply Kd.V_drew)); exact Kd.V_mono HO_263009.out (fun _ hk => by first | exact ⟨hk.1.1, ⟨hk.2, hk.1.2⟩⟩ | exact okw hk)) | ((with_reducible repeat (first | apply Kd.V_alloc | apply Kd.V_drewN | apply Kd.V_drew)); exact Kd.V_mono HO_263009.out (fun _ hk => by first | trivial | exact hk | exact hk.1 | exact hk.2 | exact hk.1.1 | exact okw hk))), (by (with_reducible repeat (first | refine blk_drewN ?_ _ | refine blk_drew ?_ | refine blk_alloc ?_ _)); exact BK262.out), (by repeat (first | (with_reducible first | exact HB.out | apply below_alloc | apply pw_below_drewN | apply below_drew1 | refine below_set ?_ GE262.out) | exact HB.out)), z_HO268, z_HO271, z_HO274, z_HO277, fun _ => (by first | ((with_reducible repeat (first | apply Kd.R_alloc | apply Kd.R_drewN | apply Kd.R_drew)); exact Kd.R_mono HO280.out (fun _ hk => hk.1)) | ((with_reducible repeat (first | apply Kd.R_alloc | apply Kd.R_drewN | apply Kd.R_drew)); exact Kd.R_mono HO280.out (fun _ hk => by first | trivial | exact hk | exact hk.1 | exact hk.2 | exact hk.1.1 | exact okw hk))), z_HO283, z_HO286, fun h0_ _ => absurd ((hoff 34 (by kernel_rfl)).symm.trans h0_) (by decide), fun h0_ => absurd ((hoff 35 (by kernel_rfl)).symm.trans h0_) (by decide), fun h0_ => absurd ((hoff 36 (by kernel_rfl)).symm.trans h0_) (by decide)⟩
               refine steps_cons ?_ ?_
               ·rintro b a w' ⟨v267, v270, v273, v276, v279, v282, v285, v288, v291, m36_, ha, Q_HO_263009, Q_BK262, Q_HB, Q_HO268, Q_HO271, Q_HO274, Q_HO277, Q_HO280, Q_HO283, Q_HO286, Q_HO289, Q_HO292, Q_X36_⟩ hb_ hon hoff
                refine ⟨_, rfl, fun K hK => ?_⟩
                have e104 : a.tmps[104]? = some (.pointer (some ⟨gb262, 7, none⟩)) := by rw [ha]; exact (putSel_off rfl).trans rfl
                replace ha := Aside0.mk ha
                have HO_263009 := Aside0.mk Q_HO_263009
                have BK262 := Aside0.mk Q_BK262
                have HB := Aside0.mk Q_HB
                have hc0_ : w'.cell? ⟨gb262, 0, none⟩ = some (.int .i64 a0_0) := (blk_cell BK262.out 0).trans rfl
                have hc1_ : w'.cell? ⟨gb262, 1, none⟩ = some (.int .i64 a0_1) := (blk_cell BK262.out 1).trans rfl
                have hc2_ : w'.cell? ⟨gb262, 2, none⟩ = some (.bool a0_2) := (blk_cell BK262.out 2).trans rfl
                have hc3_ : w'.cell? ⟨gb262, 3, none⟩ = some (.bool a0_3) := (blk_cell BK262.out 3).trans rfl
                have hc4_ : w'.cell? ⟨gb262, 4, none⟩ = some (.int .i64 a0_4) := (blk_cell BK262.out 4).trans rfl
                have hc5_ : w'.cell? ⟨gb262, 5, none⟩ = some (.int .i64 a0_5) := (blk_cell BK262.out 5).trans rfl
                have hc6_ : w'.cell? ⟨gb262, 6, none⟩ = some (.int .i64 a0_6) := (blk_cell BK262.out 6).trans rfl
                have hc7_ : w'.cell? ⟨gb262, 7, none⟩ = some (.int .u32 a0_7) := (blk_cell BK262.out 7).trans rfl
                have hc8_ : w'.cell? ⟨gb262, 8, none⟩ = some (.int .u32 a0_8) := (blk_cell BK262.out 8).trans rfl
                have hc9_ : w'.cell? ⟨gb262, 9, none⟩ = some (.slice A0_9 l0_9.length c0_9) := (blk_cell BK262.out 9).trans rfl
                have hc10_ : w'.cell? ⟨gb262, 10, none⟩ = some (.slice A0_10 l0_10.length c0_10) := (blk_cell BK262.out 10).trans rfl
                refine value_ (w1 := w') (v := .int .u32 a0_7) (by rfl) rfl ?_ ?_
                ·go_simp
                 (try simp only [i64_w])
                 try rfl
                refine hK.out _ _ ⟨v267, v270, v273, v276, v279, v282, v285, v288, v291, m36_, (by rw [ha.out]; exact putSel_upk 18 hb_ rfl rfl rfl), Q_HO_263009, Q_BK262, Q_HB, Q_HO268, Q_HO271, Q_HO274, Q_HO277, Q_HO280, fun h0_ => absurd ((hoff 28 (by kernel_rfl)).symm.trans h0_) (by decide), fun h0_ => absurd ((hoff 31 (by kernel_rfl)).symm.trans h0_) (by decide), fun h0_ _ => absurd ((hoff 34 (by kernel_rfl)).symm.trans h0_) (by decide), fun h0_ => absurd ((hoff 35 (by kernel_rfl)).symm.trans h0_) (by decide), fun h0_ => absurd ((hoff 36 (by kernel_rfl)).symm.trans h0_) (by decide)⟩
               refine steps_cons ?_ ?_
               ·rintro b a w' ⟨v267, v270, v273, v276, v279, v282, v285, v288, v291, m36_, ha, Q_HO_263009, Q_BK262, Q_HB, Q_HO268, Q_HO271, Q_HO274, Q_HO277, Q_HO280, Q_HO283, Q_HO286, Q_HO289, Q_HO292, Q_X36_⟩ hb_ hon hoff
                refine ⟨_, rfl, fun K hK => ?_⟩
                have e105 : a.tmps[105]? = some (.int .u32 a0_7) := by rw [ha]; exact putSel_on (e := (27, 105, .int .u32 a0_7)) 18 rfl rfl (hon 27 (by kernel_rfl)) rfl
                replace ha := Aside0.mk ha
                have HO_263009 := Aside0.mk Q_HO_263009
                have BK262 := Aside0.mk Q_BK262
                have HB := Aside0.mk Q_HB
                have HO271 := Aside0.mk (Q_HO271 (hon 13 (by kernel_rfl)))
                have HO274 := Aside0.mk (Q_HO274 (hon 16 (by kernel_rfl)))
                have HO277 := Aside0.mk (Q_HO277 (hon 18 (by kernel_rfl)))
                refine goes_ Try.func72 (by kernel_rfl) rfl #[.int .u32 a0_7] (by rfl) rfl rfl (by first | (simp only [List.map_toArray, List.map_cons, List.map_nil, Act.eval, Array.getD_eq_getD_getElem?, Option.getD_some, e105]; done) | (simp only [List.map_toArray, List.map_cons, List.map_nil, Act.eval, Array.getD_eq_getD_getElem?, Option.getD_some, e105]; rfl)) ?_
                with_reducible refine (word_Put32.calls a0_7 t281 _ A37.out).mono ?_
                rintro e w54 ⟨v282, rfl, ho0, hb⟩
                refine ⟨_, rfl, ?_⟩
                have n0_ := Aside0.mk (Kd.V_elder' (by (with_reducible repeat (first | apply Kd.V_alloc | apply Kd.V_drewN | apply Kd.V_drew)); exact HO_263009.out) (Kd.R_base ho0) hb)
                have n1_ := Aside0.mk (Kd.R_elder' (by (with_reducible repeat (first | apply Kd.R_alloc | apply Kd.R_drewN | apply Kd.R_drew)); exact HO271.out) (Kd.R_base ho0) hb)
                have n2_ := Aside0.mk (Kd.R_elder' (by (with_reducible repeat (first | apply Kd.R_alloc | apply Kd.R_drewN | apply Kd.R_drew)); exact HO274.out) (Kd.R_base ho0) hb)
                have n3_ := Aside0.mk (Kd.R_elder' (by (with_reducible repeat (first | apply Kd.R_alloc | apply Kd.R_drewN | apply Kd.R_drew)); exact HO277.out) (Kd.R_base ho0) hb)
                have n4_ := Aside0.mk (Kd.R_lower (Kd.R_new' (Kd.R_new' (Kd.R_new' (Kd.R_newM (M := fun k_ => (w.heap.size ≤ k_)) ho0 (below_size (by repeat (first | (with_reducible first | exact HB.out | apply below_alloc | apply pw_below_drewN | apply below_drew1 | refine below_set ?_ GE262.out) | exact HB.out))) (fun k_ h_ => h_)) (Kd.R_lt (by (with_reducible repeat (first | apply Kd.R_alloc | apply Kd.R_drewN | apply Kd.R_drew)); exact HO271.out))) (Kd.R_lt (by (with_reducible repeat (first | apply Kd.R_alloc | apply Kd.R_drewN | apply Kd.R_drew)); exact HO274.out))) (Kd.R_lt (by (with_reducible repeat (first | apply Kd.R_alloc | apply Kd.R_drewN | apply Kd.R_drew)); exact HO277.out))) (below_size (by repeat (first | (with_reducible first | exact HB.out | apply below_alloc | apply pw_below_drewN | apply below_drew1 | refine below_set ?_ GE262.out) | exact HB.out))))
                have n5_ := Aside0.mk (blk_below (g := gb262) (o := .cells #[.int .i64 a0_0, .int .i64 a0_1, .bool a0_2, .bool a0_3, .int .i64 a0_4, .int .i64 a0_5, .int .i64 a0_6, .int .u32 a0_7, .int .u32 a0_8, .slice A0_9 l0_9.length c0_9, .slice A0_10 l0_10.length c0_10] 26 (0, 0)) (by (with_reducible repeat (first | refine blk_drewN ?_ _ | refine blk_drew ?_ | refine blk_alloc ?_ _)); exact BK262.out) hb)
                have n6_ := Aside0.mk (below_step (by repeat (first | (with_reducible first | exact HB.out | apply below_alloc | apply pw_below_drewN | apply below_drew1 | refine below_set ?_ GE262.out) | exact HB.out)) hb)
                have z_HO268 := fun (h0_ : b 7 = true) => (show Kd.R (Kd.int .u8) 5 w54 w.heap.size (fun k_ => (w.heap.size ≤ k_)) v267 y266 from by first | exact (Kd.R_elder' (by (with_reducible repeat (first | apply Kd.R_alloc | apply Kd.R_drewN | apply Kd.R_drew)); exact (Q_HO268 h0_)) (Kd.R_base ho0) hb) | exact Kd.R_mono (Kd.R_elder' (by (with_reducible repeat (first | apply Kd.R_alloc | apply Kd.R_drewN | apply Kd.R_drew)); exact (Q_HO268 h0_)) (Kd.R_base ho0) hb) (fun _ h_ => by first | trivial | exact h_ | exact h_.1))
                have z_HO280 := fun (h0_ : b 25 = true) => (show Kd.R (Kd.int .u8) 5 w54 w.heap.size (fun k_ => (w.heap.size ≤ k_)) v279 y278 from by first | exact (Kd.R_elder' (by (with_reducible repeat (first | apply Kd.R_alloc | apply Kd.R_drewN | apply Kd.R_drew)); exact (Q_HO280 h0_)) (Kd.R_base ho0) hb) | exact Kd.R_mono (Kd.R_elder' (by (with_reducible repeat (first | apply Kd.R_alloc | apply Kd.R_drewN | apply Kd.R_drew)); exact (Q_HO280 h0_)) (Kd.R_base ho0) hb) (fun _ h_ => by first | trivial | exact h_ | exact h_.1))
                clear HO_263009
                clear HO271
                clear HO274
                clear HO277
                clear BK262
                clear HB
                have HO_263009 := n0_
                have HO271 := n1_
                have HO274 := n2_
                have HO277 := n3_
                have HO283 := n4_
                have BK262 := n5_
                have HB := n6_
                clear n0_ n1_ n2_ n3_ n4_ n5_ n6_
                (try clear hb)
                (try clear hb2)
                (try clear hk)
                (try clear hi)
                (try clear ho0)
                refine hK.out _ _ ⟨v267, v270, v273, v276, v279, v282, v285, v288, v291, m36_, (by rw [ha.out]; exact putSel_upk 19 hb_ rfl rfl rfl), (by first | ((with_reducible repeat (first | apply Kd.V_alloc | apply Kd.V_drewN | apply Kd.V_drew)); exact Kd.V_mono HO_263009.out (fun _ hk => by first | exact ⟨hk.1.1, ⟨hk.1.2.1, ⟨hk.1.2.2.1, ⟨hk.1.2.2.2.1, ⟨hk.2, hk.1.2.2.2.2⟩⟩⟩⟩⟩ | exact okw hk)) | ((with_reducible repeat (first | apply Kd.V_alloc | apply Kd.V_drewN | apply Kd.V_drew)); exact Kd.V_mono HO_263009.out (fun _ hk => by first | trivial | exact hk | exact hk.1 | exact hk.2 | exact hk.1.1 | exact okw hk))), (by (with_reducible repeat (first | refine blk_drewN ?_ _ | refine blk_drew ?_ | refine blk_alloc ?_ _)); exact BK262.out), (by repeat (first | (with_reducible first | exact HB.out | apply below_alloc | apply pw_below_drewN | apply below_drew1 | refine below_set ?_ GE262.out) | exact HB.out)), z_HO268, fun _ => (by first | ((with_reducible repeat (first | apply Kd.R_alloc | apply Kd.R_drewN | apply Kd.R_drew)); exact Kd.R_mono HO271.out (fun _ hk => by first | exact ⟨hk.1.1, ⟨hk.1.2.1, ⟨hk.1.2.2, hk.2⟩⟩⟩ | exact okw hk)) | ((with_reducible repeat (first | apply Kd.R_alloc | apply Kd.R_drewN | apply Kd.R_drew)); exact Kd.R_mono HO271.out (fun _ hk => by first | trivial | exact hk | exact hk.1 | exact hk.2 | exact hk.1.1 | exact okw hk))), fun _ => (by first | ((with_reducible repeat (first | apply Kd.R_alloc | apply Kd.R_drewN | apply Kd.R_drew)); exact Kd.R_mono HO274.out (fun _ hk => by first | exact ⟨hk.1.1, ⟨hk.1.2.1, ⟨hk.1.2.2, hk.2⟩⟩⟩ | exact okw hk)) | ((with_reducible repeat (first | apply Kd.R_alloc | apply Kd.R_drewN | apply Kd.R_drew)); exact Kd.R_mono HO274.out (fun _ hk => by first | trivial | exact hk | exact hk.1 | exact hk.2 | exact hk.1.1 | exact okw hk))), fun _ => (by first | ((with_reducible repeat (first | apply Kd.R_alloc | apply Kd.R_drewN | apply Kd.R_drew)); exact Kd.R_mono HO277.out (fun _ hk => by first | exact ⟨hk.1.1, ⟨hk.1.2.1, ⟨hk.1.2.2, hk.2⟩⟩⟩ | exact okw hk)) | ((with_reducible repeat (first | apply Kd.R_alloc | apply Kd.R_drewN | apply Kd.R_drew)); exact Kd.R_mono HO277.out (fun _ hk => by first | trivial | exact hk | exact hk.1 | exact hk.2 | exact hk.1.1 | exact okw hk))), z_HO280, fun _ => (by first | ((with_reducible repeat (first | apply Kd.R_alloc | apply Kd.R_drewN | apply Kd.R_drew)); exact Kd.R_mono HO283.out (fun _ hk => by first | exact ⟨hk.1.1.1.1, ⟨hk.1.1.2, ⟨hk.1.2, hk.2⟩⟩⟩ | exact okw hk)) | ((with_reducible repeat (first | apply Kd.R_alloc | apply Kd.R_drewN | apply Kd.R_drew)); exact Kd.R_mono HO283.out (fun _ hk => by first | trivial | exact hk | exact hk.1 | exact hk.2 | exact hk.1.1 | exact okw hk))), fun h0_ => absurd ((hoff 31 (by kernel_rfl)).symm.trans h0_) (by decide), fun h0_ _ => absurd ((hoff 34 (by kernel_rfl)).symm.trans h0_) (by decide), fun h0_ => absurd ((hoff 35 (by kernel_rfl)).symm.trans h0_) (by decide), fun h0_ => absurd ((hoff 36 (by kernel_rfl)).symm.trans h0_) (by decide)⟩
               refine steps_cons ?_ ?_
               ·rintro b a w' ⟨v267, v270, v273, v276, v279, v282, v285, v288, v291, m36_, ha, Q_HO_263009, Q_BK262, Q_HB, Q_HO268, Q_HO271, Q_HO274, Q_HO277, Q_HO280, Q_HO283, Q_HO286, Q_HO289, Q_HO292, Q_X36_⟩ hb_ hon hoff
                refine ⟨_, rfl, fun K hK => ?_⟩
                have e107 : a.tmps[107]? = some (.pointer (some ⟨gb262, 8, none⟩)) := by rw [ha]; exact (putSel_off rfl).trans rfl
                replace ha := Aside0.mk ha
                have HO_263009 := Aside0.mk Q_HO_263009
                have BK262 := Aside0.mk Q_BK262
                have HB := Aside0.mk Q_HB
                have hc0_ : w'.cell? ⟨gb262, 0, none⟩ = some (.int .i64 a0_0) := (blk_cell BK262.out 0).trans rfl
                have hc1_ : w'.cell? ⟨gb262, 1, none⟩ = some (.int .i64 a0_1) := (blk_cell BK262.out 1).trans rfl
                have hc2_ : w'.cell? ⟨gb262, 2, none⟩ = some (.bool a0_2) := (blk_cell BK262.out 2).trans rfl
                have hc3_ : w'.cell? ⟨gb262, 3, none⟩ = some (.bool a0_3) := (blk_cell BK262.out 3).trans rfl
                have hc4_ : w'.cell? ⟨gb262, 4, none⟩ = some (.int .i64 a0_4) := (blk_cell BK262.out 4).trans rfl
                have hc5_ : w'.cell? ⟨gb262, 5, none⟩ = some (.int .i64 a0_5) := (blk_cell BK262.out 5).trans rfl
                have hc6_ : w'.cell? ⟨gb262, 6, none⟩ = some (.int .i64 a0_6) := (blk_cell BK262.out 6).trans rfl
                have hc7_ : w'.cell? ⟨gb262, 7, none⟩ = some (.int .u32 a0_7) := (blk_cell BK262.out 7).trans rfl
                have hc8_ : w'.cell? ⟨gb262, 8, none⟩ = some (.int .u32 a0_8) := (blk_cell BK262.out 8).trans rfl
                have hc9_ : w'.cell? ⟨gb262, 9, none⟩ = some (.slice A0_9 l0_9.length c0_9) := (blk_cell BK262.out 9).trans rfl
                have hc10_ : w'.cell? ⟨gb262, 10, none⟩ = some (.slice A0_10 l0_10.length c0_10) := (blk_cell BK262.out 10).trans rfl
                refine value_ (w1 := w') (v := .int .u32 a0_8) (by rfl) rfl ?_ ?_
                ·go_simp
                 (try simp only [i64_w])
                 try rfl
                refine hK.out _ _ ⟨v267, v270, v273, v276, v279, v282, v285, v288, v291, m36_, (by rw [ha.out]; exact putSel_upk 20 hb_ rfl rfl rfl), Q_HO_263009, Q_BK262, Q_HB, Q_HO268, Q_HO271, Q_HO274, Q_HO277, Q_HO280, Q_HO283, fun h0_ => absurd ((hoff 31 (by kernel_rfl)).symm.trans h0_) (by decide), fun h0_ _ => absurd ((hoff 34 (by kernel_rfl)).symm.trans h0_) (by decide), fun h0_ => absurd ((hoff 35 (by kernel_rfl)).symm.trans h0_) (by decide), fun h0_ => absurd ((hoff 36 (by kernel_rfl)).symm.trans h0_) (by decide)⟩
               refine steps_cons ?_ ?_
               ·rintro b a w' ⟨v267, v270, v273, v276, v279, v282, v285, v288, v291, m36_, ha, Q_HO_263009, Q_BK262, Q_HB, Q_HO268, Q_HO271, Q_HO274, Q_HO277, Q_HO280, Q_HO283, Q_HO286, Q_HO289, Q_HO292, Q_X36_⟩ hb_ hon hoff
                refine ⟨_, rfl, fun K hK => ?_⟩
                have e108 : a.tmps[108]? = some (.int .u32 a0_8) := by rw [ha]; exact putSel_on (e := (30, 108, .int .u32 a0_8)) 20 rfl rfl (hon 30 (by kernel_rfl)) rfl
                replace ha := Aside0.mk ha
                have HO_263009 := Aside0.mk Q_HO_263009
                have BK262 := Aside0.mk Q_BK262
                have HB := Aside0.mk Q_HB
                have HO271 := Aside0.mk (Q_HO271 (hon 13 (by kernel_rfl)))
                have HO274 := Aside0.mk (Q_HO274 (hon 16 (by kernel_rfl)))
                have HO277 := Aside0.mk (Q_HO277 (hon 18 (by kernel_rfl)))
                have HO283 := Aside0.mk (Q_HO283 (hon 28 (by kernel_rfl)))
                refine goes_ Try.func72 (by kernel_rfl) rfl #[.int .u32 a0_8] (by rfl) rfl rfl (by first | (simp only [List.map_toArray, List.map_cons, List.map_nil, Act.eval, Array.getD_eq_getD_getElem?, Option.getD_some, e108]; done) | (simp only [List.map_toArray, List.map_cons, List.map_nil, Act.eval, Array.getD_eq_getD_getElem?, Option.getD_some, e108]; rfl)) ?_
                with_reducible refine (word_Put32.calls a0_8 t284 _ A38.out).mono ?_
                rintro e w55 ⟨v285, rfl, ho0, hb⟩
                refine ⟨_, rfl, ?_⟩
                have n0_ := Aside0.mk (Kd.V_elder' (by (with_reducible repeat (first | apply Kd.V_alloc | apply Kd.V_drewN | apply Kd.V_drew)); exact HO_263009.out) (Kd.R_base ho0) hb)
                have n1_ := Aside0.mk (Kd.R_elder' (by (with_reducible repeat (first | apply Kd.R_alloc | apply Kd.R_drewN | apply Kd.R_drew)); exact HO271.out) (Kd.R_base ho0) hb)
                have n2_ := Aside0.mk (Kd.R_elder' (by (with_reducible repeat (first | apply Kd.R_alloc | apply Kd.R_drewN | apply Kd.R_drew)); exact HO274.out) (Kd.R_base ho0) hb)
                have n3_ := Aside0.mk (Kd.R_elder' (by (with_reducible repeat (first | apply Kd.R_alloc | apply Kd.R_drewN | apply Kd.R_drew)); exact HO277.out) (Kd.R_base ho0) hb)
                have n4_ := Aside0.mk (Kd.R_elder' (by (with_reducible repeat (first | apply Kd.R_alloc | apply Kd.R_drewN | apply Kd.R_drew)); exact HO283.out) (Kd.R_base ho0) hb)
                have n5_ := Aside0.mk (Kd.R_lower (Kd.R_new' (Kd.R_new' (Kd.R_new' (Kd.R_new' (Kd.R_newM (M := fun k_ => (w.heap.size ≤ k_)) ho0 (below_size (by repeat (first | (with_reducible first | exact HB.out | apply below_alloc | apply pw_below_drewN | apply below_drew1 | refine below_set ?_ GE262.out) | exact HB.out))) (fun k_ h_ => h_)) (Kd.R_lt (by (with_reducible repeat (first | apply Kd.R_alloc | apply Kd.R_drewN | apply Kd.R_drew)); exact HO271.out))) (Kd.R_lt (by (with_reducible repeat (first | apply Kd.R_alloc | apply Kd.R_drewN | apply Kd.R_drew)); exact HO274.out))) (Kd.R_lt (by (with_reducible repeat (first | apply Kd.R_alloc | apply Kd.R_drewN | apply Kd.R_drew)); exact HO277.out))) (Kd.R_lt (by (with_reducible repeat (first | apply Kd.R_alloc | apply Kd.R_drewN | apply Kd.R_drew)); exact HO283.out))) (below_size (by repeat (first | (with_reducible first | exact HB.out | apply below_alloc | apply pw_below_drewN | apply below_drew1 | refine below_set ?_ GE262.out) | exact HB.out))))
                have n6_ := Aside0.mk (blk_below (g := gb262) (o := .cells #[.int .i64 a0_0, .int .i64 a0_1, .bool a0_2, .bool a0_3, .int .i64 a0_4, .int .i64 a0_5, .int .i64 a0_6, .int .u32 a0_7, .int .u32 a0_8, .slice A0_9 l0_9.length c0_9, .slice A0_10 l0_10.length c0_10] 26 (0, 0)) (by (with_reducible repeat (first | refine blk_drewN ?_ _ | refine blk_drew ?_ | refine blk_alloc ?_ _)); exact BK262.out) hb)
                have n7_ := Aside0.mk (below_step (by repeat (first | (with_reducible first | exact HB.out | apply below_alloc | apply pw_below_drewN | apply below_drew1 | refine below_set ?_ GE262.out) | exact HB.out)) hb)
                have z_HO268 := fun (h0_ : b 7 = true) => (show Kd.R (Kd.int .u8) 5 w55 w.heap.size (fun k_ => (w.heap.size ≤ k_)) v267 y266 from by first | exact (Kd.R_elder' (by (with_reducible repeat (first | apply Kd.R_alloc | apply Kd.R_drewN | apply Kd.R_drew)); exact (Q_HO268 h0_)) (Kd.R_base ho0) hb) | exact Kd.R_mono (Kd.R_elder' (by (with_reducible repeat (first | apply Kd.R_alloc | apply Kd.R_drewN | apply Kd.R_drew)); exact (Q_HO268 h0_)) (Kd.R_base ho0) hb) (fun _ h_ => by first | trivial | exact h_ | exact h_.1))
                have z_HO280 := fun (h0_ : b 25 = true) => (show Kd.R (Kd.int .u8) 5 w55 w.heap.size (fun k_ => (w.heap.size ≤ k_)) v279 y278 from by first | exact (Kd.R_elder' (by (with_reducible repeat (first | apply Kd.R_alloc | apply Kd.R_drewN | apply Kd.R_drew)); exact (Q_HO280 h0_)) (Kd.R_base ho0) hb) | exact Kd.R_mono (Kd.R_elder' (by (with_reducible repeat (first | apply Kd.R_alloc | apply Kd.R_drewN | apply Kd.R_drew)); exact (Q_HO280 h0_)) (Kd.R_base ho0) hb) (fun _ h_ => by first | trivial | exact h_ | exact h_.1))
                clear HO_263009
                clear HO271
                clear HO274
                clear HO277
                clear HO283
                clear BK262
                clear HB
                have HO_263009 := n0_
                have HO271 := n1_
                have HO274 := n2_
                have HO277 := n3_
                have HO283 := n4_
                have HO286 := n5_
                have BK262 := n6_
                have HB := n7_
                clear n0_ n1_ n2_ n3_ n4_ n5_ n6_ n7_
                (try clear hb)
                (try clear hb2)
                (try clear hk)
                (try clear hi)
                (try clear ho0)
                refine hK.out _ _ ⟨v267, v270, v273, v276, v279, v282, v285, v288, v291, m36_, (by rw [ha.out]; exact putSel_upk 21 hb_ rfl rfl rfl), (by first | ((with_reducible repeat (first | apply Kd.V_alloc | apply Kd.V_drewN | apply Kd.V_drew)); exact Kd.V_mono HO_263009.out (fun _ hk => by first | exact ⟨hk.1.1, ⟨hk.1.2.1, ⟨hk.1.2.2.1, ⟨hk.1.2.2.2.1, ⟨hk.1.2.2.2.2.1, ⟨hk.2, hk.1.2.2.2.2.2⟩⟩⟩⟩⟩⟩ | exact okw hk)) | ((with_reducible repeat (first | apply Kd.V_alloc | apply Kd.V_drewN | apply Kd.V_drew)); exact Kd.V_mono HO_263009.out (fun _ hk => by first | trivial | exact hk | exact hk.1 | exact hk.2 | exact hk.1.1 | exact okw hk))), (by (with_reducible repeat (first | refine blk_drewN ?_ _ | refine blk_drew ?_ | refine blk_alloc ?_ _)); exact BK262.out), (by repeat (first | (with_reducible first | exact HB.out | apply below_alloc | apply pw_below_drewN | apply below_drew1 | refine below_set ?_ GE262.out) | exact HB.out)), z_HO268, fun _ => (by first | ((with_reducible repeat (first | apply Kd.R_alloc | apply Kd.R_drewN | apply Kd.R_drew)); exact Kd.R_mono HO271.out (fun _ hk => by first | exact ⟨hk.1.1, ⟨hk.1.2.1, ⟨hk.1.2.2.1, ⟨hk.1.2.2.2, hk.2⟩⟩⟩⟩ | exact okw hk)) | ((with_reducible repeat (first | apply Kd.R_alloc | apply Kd.R_drewN | apply Kd.R_drew)); exact Kd.R_mono HO271.out (fun _ hk => by first | trivial | exact hk | exact hk.1 | exact hk.2 | exact hk.1.1 | exact okw hk))), fun _ => (by first | ((with_reducible repeat (first | apply Kd.R_alloc | apply Kd.R_drewN | apply Kd.R_drew)); exact Kd.R_mono HO274.out (fun _ hk => by first | exact ⟨hk.1.1, ⟨hk.1.2.1, ⟨hk.1.2.2.1, ⟨hk.1.2.2.2, hk.2⟩⟩⟩⟩ | exact okw hk)) | ((with_reducible repeat (first | apply Kd.R_alloc | apply Kd.R_drewN | apply Kd.R_drew)); exact Kd.R_mono HO274.out (fun _ hk => by first | trivial | exact hk | exact hk.1 | exact hk.2 | exact hk.1.1 | exact okw hk))), fun _ => (by first | ((with_reducible repeat (first | apply Kd.R_alloc | apply Kd.R_drewN | apply Kd.R_drew)); exact Kd.R_mono HO277.out (fun _ hk => by first | exact ⟨hk.1.1, ⟨hk.1.2.1, ⟨hk.1.2.2.1, ⟨hk.1.2.2.2, hk.2⟩⟩⟩⟩ | exact okw hk)) | ((with_reducible repeat (first | apply Kd.R_alloc | apply Kd.R_drewN | apply Kd.R_drew)); exact Kd.R_mono HO277.out (fun _ hk => by first | trivial | exact hk | exact hk.1 | exact hk.2 | exact hk.1.1 | exact okw hk))), z_HO280, fun _ => (by first | ((with_reducible repeat (first | apply Kd.R_alloc | apply Kd.R_drewN | apply Kd.R_drew)); exact Kd.R_mono HO283.out (fun _ hk => by first | exact ⟨hk.1.1, ⟨hk.1.2.1, ⟨hk.1.2.2.1, ⟨hk.1.2.2.2, hk.2⟩⟩⟩⟩ | exact okw hk)) | ((with_reducible repeat (first | apply Kd.R_alloc | apply Kd.R_drewN | apply Kd.R_drew)); exact Kd.R_mono HO283.out (fun _ hk => by first | trivial | exact hk | exact hk.1 | exact hk.2 | exact hk.1.1 | exact okw hk))), fun _ => (by first | ((with_reducible repeat (first | apply Kd.R_alloc | apply Kd.R_drewN | apply Kd.R_drew)); exact Kd.R_mono HO286.out (fun _ hk => by first | exact ⟨hk.1.1.1.1.1, ⟨hk.1.1.1.2, ⟨hk.1.1.2, ⟨hk.1.2, hk.2⟩⟩⟩⟩ | exact okw hk)) | ((with_reducible repeat (first | apply Kd.R_alloc | apply Kd.R_drewN | apply Kd.R_drew)); exact Kd.R_mono HO286.out (fun _ hk => by first | trivial | exact hk | exact hk.1 | exact hk.2 | exact hk.1.1 | exact okw hk))), fun h0_ _ => absurd ((hoff 34 (by kernel_rfl)).symm.trans h0_) (by decide), fun h0_ => absurd ((hoff 35 (by kernel_rfl)).symm.trans h0_) (by decide), fun h0_ => absurd ((hoff 36 (by kernel_rfl)).symm.trans h0_) (by decide)⟩
               refine steps_cons ?_ ?_
               ·rintro b a w' ⟨v267, v270, v273, v276, v279, v282, v285, v288, v291, m36_, ha, Q_HO_263009, Q_BK262, Q_HB, Q_HO268, Q_HO271, Q_HO274, Q_HO277, Q_HO280, Q_HO283, Q_HO286, Q_HO289, Q_HO292, Q_X36_⟩ hb_ hon hoff
                refine ⟨_, rfl, fun K hK => ?_⟩
                have e110 : a.tmps[110]? = some (.pointer (some ⟨gb262, 9, none⟩)) := by rw [ha]; exact (putSel_off rfl).trans rfl
                replace ha := Aside0.mk ha
                have HO_263009 := Aside0.mk Q_HO_263009
                have BK262 := Aside0.mk Q_BK262
                have HB := Aside0.mk Q_HB
                have hc0_ : w'.cell? ⟨gb262, 0, none⟩ = some (.int .i64 a0_0) := (blk_cell BK262.out 0).trans rfl
                have hc1_ : w'.cell? ⟨gb262, 1, none⟩ = some (.int .i64 a0_1) := (blk_cell BK262.out 1).trans rfl
                have hc2_ : w'.cell? ⟨gb262, 2, none⟩ = some (.bool a0_2) := (blk_cell BK262.out 2).trans rfl
                have hc3_ : w'.cell? ⟨gb262, 3, none⟩ = some (.bool a0_3) := (blk_cell BK262.out 3).trans rfl
                have hc4_ : w'.cell? ⟨gb262, 4, none⟩ = some (.int .i64 a0_4) := (blk_cell BK262.out 4).trans rfl
                have hc5_ : w'.cell? ⟨gb262, 5, none⟩ = some (.int .i64 a0_5) := (blk_cell BK262.out 5).trans rfl
                have hc6_ : w'.cell? ⟨gb262, 6, none⟩ = some (.int .i64 a0_6) := (blk_cell BK262.out 6).trans rfl
                have hc7_ : w'.cell? ⟨gb262, 7, none⟩ = some (.int .u32 a0_7) := (blk_cell BK262.out 7).trans rfl
                have hc8_ : w'.cell? ⟨gb262, 8, none⟩ = some (.int .u32 a0_8) := (blk_cell BK262.out 8).trans rfl
                have hc9_ : w'.cell? ⟨gb262, 9, none⟩ = some (.slice A0_9 l0_9.length c0_9) := (blk_cell BK262.out 9).trans rfl
                have hc10_ : w'.cell? ⟨gb262, 10, none⟩ = some (.slice A0_10 l0_10.length c0_10) := (blk_cell BK262.out 10).trans rfl
                refine value_ (w1 := w') (v := .slice A0_9 l0_9.length c0_9) (by rfl) rfl ?_ ?_
                ·go_simp
                 (try simp only [i64_w])
                 try rfl
                refine hK.out _ _ ⟨v267, v270, v273, v276, v279, v282, v285, v288, v291, m36_, (by rw [ha.out]; exact putSel_upk 22 hb_ rfl rfl rfl), Q_HO_263009, Q_BK262, Q_HB, Q_HO268, Q_HO271, Q_HO274, Q_HO277, Q_HO280, Q_HO283, Q_HO286, fun h0_ _ => absurd ((hoff 34 (by kernel_rfl)).symm.trans h0_) (by decide), fun h0_ => absurd ((hoff 35 (by kernel_rfl)).symm.trans h0_) (by decide), fun h0_ => absurd ((hoff 36 (by kernel_rfl)).symm.trans h0_) (by decide)⟩
               refine steps_cons ?_ ?_
               ·rintro b a w' ⟨v267, v270, v273, v276, v279, v282, v285, v288, v291, m36_, ha, Q_HO_263009, Q_BK262, Q_HB, Q_HO268, Q_HO271, Q_HO274, Q_HO277, Q_HO280, Q_HO283, Q_HO286, Q_HO289, Q_HO292, Q_X36_⟩ hb_ hon hoff
                refine ⟨_, rfl, fun K hK => ?_⟩
                have e85 : a.tmps[85]? = some (v267) := by rw [ha]; exact putSel_on (e := (7, 85, v267)) 5 rfl rfl (hon 7 (by kernel_rfl)) rfl
                have e91 : a.tmps[91]? = some (v270) := by rw [ha]; exact putSel_on (e := (13, 91, v270)) 9 rfl rfl (hon 13 (by kernel_rfl)) rfl
                have e94 : a.tmps[94]? = some (v273) := by rw [ha]; exact putSel_on (e := (16, 94, v273)) 11 rfl rfl (hon 16 (by kernel_rfl)) rfl
                have e96 : a.tmps[96]? = some (v276) := by rw [ha]; exact putSel_on (e := (18, 96, v276)) 12 rfl rfl (hon 18 (by kernel_rfl)) rfl
                have e103 : a.tmps[103]? = some (v279) := by rw [ha]; exact putSel_on (e := (25, 103, v279)) 17 rfl rfl (hon 25 (by kernel_rfl)) rfl
                have e106 : a.tmps[106]? = some (v282) := by rw [ha]; exact putSel_on (e := (28, 106, v282)) 19 rfl rfl (hon 28 (by kernel_rfl)) rfl
                have e109 : a.tmps[109]? = some (v285) := by rw [ha]; exact putSel_on (e := (31, 109, v285)) 21 rfl rfl (hon 31 (by kernel_rfl)) rfl
                have e111 : a.tmps[111]? = some (.slice A0_9 l0_9.length c0_9) := by rw [ha]; exact putSel_on (e := (33, 111, .slice A0_9 l0_9.length c0_9)) 22 rfl rfl (hon 33 (by kernel_rfl)) rfl
                replace ha := Aside0.mk ha
                have HO_263009 := Aside0.mk Q_HO_263009
                have BK262 := Aside0.mk Q_BK262
                have HB := Aside0.mk Q_HB
                have HO268 := Aside0.mk (Q_HO268 (hon 7 (by kernel_rfl)))
                have HO271 := Aside0.mk (Q_HO271 (hon 13 (by kernel_rfl)))
                have HO274 := Aside0.mk (Q_HO274 (hon 16 (by kernel_rfl)))
                have HO277 := Aside0.mk (Q_HO277 (hon 18 (by kernel_rfl)))
                have HO280 := Aside0.mk (Q_HO280 (hon 25 (by kernel_rfl)))
                have HO283 := Aside0.mk (Q_HO283 (hon 28 (by kernel_rfl)))
                have HO286 := Aside0.mk (Q_HO286 (hon 31 (by kernel_rfl)))
                obtain ⟨Ao60, co60, eo60⟩ := Kd.R_slice HO268.out
                (first | subst eo60 | (injection eo60 with f1_ f2_ f3_; have f4_ := f1_.symm; have f5_ := f3_.symm; clear f1_ f2_ f3_; subst f4_; subst f5_))
                obtain ⟨Ao61, co61, eo61⟩ := Kd.R_slice HO271.out
                (first | subst eo61 | (injection eo61 with f1_ f2_ f3_; have f4_ := f1_.symm; have f5_ := f3_.symm; clear f1_ f2_ f3_; subst f4_; subst f5_))
                obtain ⟨Ao62, co62, eo62⟩ := Kd.R_slice HO274.out
                (first | subst eo62 | (injection eo62 with f1_ f2_ f3_; have f4_ := f1_.symm; have f5_ := f3_.symm; clear f1_ f2_ f3_; subst f4_; subst f5_))
                obtain ⟨Ao63, co63, eo63⟩ := Kd.R_slice HO277.out
                (first | subst eo63 | (injection eo63 with f1_ f2_ f3_; have f4_ := f1_.symm; have f5_ := f3_.symm; clear f1_ f2_ f3_; subst f4_; subst f5_))
                obtain ⟨Ao64, co64, eo64⟩ := Kd.R_slice HO280.out
                (first | subst eo64 | (injection eo64 with f1_ f2_ f3_; have f4_ := f1_.symm; have f5_ := f3_.symm; clear f1_ f2_ f3_; subst f4_; subst f5_))
                obtain ⟨Ao65, co65, eo65⟩ := Kd.R_slice HO283.out
                (first | subst eo65 | (injection eo65 with f1_ f2_ f3_; have f4_ := f1_.symm; have f5_ := f3_.symm; clear f1_ f2_ f3_; subst f4_; subst f5_))
                obtain ⟨Ao66, co66, eo66⟩ := Kd.R_slice HO286.out
                (first | subst eo66 | (injection eo66 with f1_ f2_ f3_; have f4_ := f1_.symm; have f5_ := f3_.symm; clear f1_ f2_ f3_; subst f4_; subst f5_))
                refine Kd.N_lit_step (Kd.slice 5 (Kd.int .u8)) _ 24 ?hg (N' := 112) ?hd (xs := ([y266, t269, t272, t275, y278, t281, t284, l0_9] : List (List Int))) (inner := [.slice Ao60 y266.length co60, .slice Ao61 t269.length co61, .slice Ao62 t272.length co62, .slice Ao63 t275.length co63, .slice Ao64 y278.length co64, .slice Ao65 t281.length co65, .slice Ao66 t284.length co66, .slice A0_9 l0_9.length c0_9]) (ok := (fun k_ => (P0_9_ k_ ∨ w.heap.size ≤ k_) ∧ k_ ≠ gb262)) (okp := (fun k_ => (P0_9_ k_ ∨ w.heap.size ≤ k_) ∧ k_ ≠ gb262)) ?hr ?hp (fun _ hk => hk) ((show ∀ k_, w'.heap.size ≤ k_ → (fun k_ => (P0_9_ k_ ∨ w.heap.size ≤ k_) ∧ k_ ≠ gb262) k_ from fun k_ hk => ⟨(.inr (Nat.le_trans (below_size (by repeat (first | (with_reducible first | exact HB.out | apply below_alloc | apply pw_below_drewN | apply below_drew1 | refine below_set ?_ GE262.out) | exact HB.out))) hk)), Kd.freshB (g := gb262) (o := .cells #[.int .i64 a0_0, .int .i64 a0_1, .bool a0_2, .bool a0_3, .int .i64 a0_4, .int .i64 a0_5, .int .i64 a0_6, .int .u32 a0_7, .int .u32 a0_8, .slice A0_9 l0_9.length c0_9, .slice A0_10 l0_10.length c0_10] 26 (0, 0)) (by (with_reducible repeat (first | refine blk_drewN ?_ _ | refine blk_drew ?_ | refine blk_alloc ?_ _)); exact BK262.out) k_ hk⟩) _ (Nat.le_refl _)) (Below.refl _ _) (Nat.le_refl _) (by simp) ?_; (case hd => rfl); (case hg => rfl); (case hr => first | (go_simp; done) | (go_simp; rfl)); (case hp => exact (Reps.one (show Kd.FK (Kd.slice 5 (Kd.int .u8)) _ _ y266 [.slice Ao60 y266.length co60] from (by first | exact Kd.FK_slice_mk (Kd.R_reads' (Kd.R_mono (ok' := (fun k_ => (P0_9_ k_ ∨ w.heap.size ≤ k_) ∧ k_ ≠ gb262)) (Kd.R_types (HO268.out) BK262.out (by decide)) (fun k_ hk => by first | exact ⟨(.inr (hk.1.1)), hk.2⟩ | exact okw hk))).2.1 (Kd.R_F (Kd.R_mono (ok' := (fun k_ => (P0_9_ k_ ∨ w.heap.size ≤ k_) ∧ k_ ≠ gb262)) (Kd.R_types (HO268.out) BK262.out (by decide)) (fun k_ hk => by first | exact ⟨(.inr (hk.1.1)), hk.2⟩ | exact okw hk))) | exact FK_slice_of (Kd.R_reads' (Kd.R_mono (ok' := (fun k_ => (P0_9_ k_ ∨ w.heap.size ≤ k_) ∧ k_ ≠ gb262)) (Kd.R_types (HO268.out) BK262.out (by decide)) (fun k_ hk => by first | exact ⟨(.inr (hk.1.1)), hk.2⟩ | exact okw hk))).1 (Kd.R_reads' (Kd.R_mono (ok' := (fun k_ => (P0_9_ k_ ∨ w.heap.size ≤ k_) ∧ k_ ≠ gb262)) (Kd.R_types (HO268.out) BK262.out (by decide)) (fun k_ hk => by first | exact ⟨(.inr (hk.1.1)), hk.2⟩ | exact okw hk))).2.1 (Kd.R_F (Kd.R_mono (ok' := (fun k_ => (P0_9_ k_ ∨ w.heap.size ≤ k_) ∧ k_ ≠ gb262)) (Kd.R_types (HO268.out) BK262.out (by decide)) (fun k_ hk => by first | exact ⟨(.inr (hk.1.1)), hk.2⟩ | exact okw hk))))) (Reps.one (show Kd.FK (Kd.slice 5 (Kd.int .u8)) _ _ t269 [.slice Ao61 t269.length co61] from (by first | exact Kd.FK_slice_mk (Kd.R_reads' (Kd.R_mono (ok' := (fun k_ => (P0_9_ k_ ∨ w.heap.size ≤ k_) ∧ k_ ≠ gb262)) (Kd.R_types (HO271.out) BK262.out (by decide)) (fun k_ hk => by first | exact ⟨(.inr (hk.1.1)), hk.2⟩ | exact okw hk))).2.1 (Kd.R_F (Kd.R_mono (ok' := (fun k_ => (P0_9_ k_ ∨ w.heap.size ≤ k_) ∧ k_ ≠ gb262)) (Kd.R_types (HO271.out) BK262.out (by decide)) (fun k_ hk => by first | exact ⟨(.inr (hk.1.1)), hk.2⟩ | exact okw hk))) | exact FK_slice_of (Kd.R_reads' (Kd.R_mono (ok' := (fun k_ => (P0_9_ k_ ∨ w.heap.size ≤ k_) ∧ k_ ≠ gb262)) (Kd.R_types (HO271.out) BK262.out (by decide)) (fun k_ hk => by first | exact ⟨(.inr (hk.1.1)), hk.2⟩ | exact okw hk))).1 (Kd.R_reads' (Kd.R_mono (ok' := (fun k_ => (P0_9_ k_ ∨ w.heap.size ≤ k_) ∧ k_ ≠ gb262)) (Kd.R_types (HO271.out) BK262.out (by decide)) (fun k_ hk => by first | exact ⟨(.inr (hk.1.1)), hk.2⟩ | exact okw hk))).2.1 (Kd.R_F (Kd.R_mono (ok' := (fun k_ => (P0_9_ k_ ∨ w.heap.size ≤ k_) ∧ k_ ≠ gb262)) (Kd.R_types (HO271.out) BK262.out (by decide)) (fun k_ hk => by first | exact ⟨(.inr (hk.1.1)), hk.2⟩ | exact okw hk))))) (Reps.one (show Kd.FK (Kd.slice 5 (Kd.int .u8)) _ _ t272 [.slice Ao62 t272.length co62] from (by first | exact Kd.FK_slice_mk (Kd.R_reads' (Kd.R_mono (ok' := (fun k_ => (P0_9_ k_ ∨ w.heap.size ≤ k_) ∧ k_ ≠ gb262)) (Kd.R_types (HO274.out) BK262.out (by decide)) (fun k_ hk => by first | exact ⟨(.inr (hk.1.1)), hk.2⟩ | exact okw hk))).2.1 (Kd.R_F (Kd.R_mono (ok' := (fun k_ => (P0_9_ k_ ∨ w.heap.size ≤ k_) ∧ k_ ≠ gb262)) (Kd.R_types (HO274.out) BK262.out (by decide)) (fun k_ hk => by first | exact ⟨(.inr (hk.1.1)), hk.2⟩ | exact okw hk))) | exact FK_slice_of (Kd.R_reads' (Kd.R_mono (ok' := (fun k_ => (P0_9_ k_ ∨ w.heap.size ≤ k_) ∧ k_ ≠ gb262)) (Kd.R_types (HO274.out) BK262.out (by decide)) (fun k_ hk => by first | exact ⟨(.inr (hk.1.1)), hk.2⟩ | exact okw hk))).1 (Kd.R_reads' (Kd.R_mono (ok' := (fun k_ => (P0_9_ k_ ∨ w.heap.size ≤ k_) ∧ k_ ≠ gb262)) (Kd.R_types (HO274.out) BK262.out (by decide)) (fun k_ hk => by first | exact ⟨(.inr (hk.1.1)), hk.2⟩ | exact okw hk))).2.1 (Kd.R_F (Kd.R_mono (ok' := (fun k_ => (P0_9_ k_ ∨ w.heap.size ≤ k_) ∧ k_ ≠ gb262)) (Kd.R_types (HO274.out) BK262.out (by decide)) (fun k_ hk => by first | exact ⟨(.inr (hk.1.1)), hk.2⟩ | exact okw hk))))) (Reps.one (show Kd.FK (Kd.slice 5 (Kd.int .u8)) _ _ t275 [.slice Ao63 t275.length co63] from (by first | exact Kd.FK_slice_mk (Kd.R_reads' (Kd.R_mono (ok' := (fun k_ => (P0_9_ k_ ∨ w.heap.size ≤ k_) ∧ k_ ≠ gb262)) (Kd.R_types (HO277.out) BK262.out (by decide)) (fun k_ hk => by first | exact ⟨(.inr (hk.1.1)), hk.2⟩ | exact okw hk))).2.1 (Kd.R_F (Kd.R_mono (ok' := (fun k_ => (P0_9_ k_ ∨ w.heap.size ≤ k_) ∧ k_ ≠ gb262)) (Kd.R_types (HO277.out) BK262.out (by decide)) (fun k_ hk => by first | exact ⟨(.inr (hk.1.1)), hk.2⟩ | exact okw hk))) | exact FK_slice_of (Kd.R_reads' (Kd.R_mono (ok' := (fun k_ => (P0_9_ k_ ∨ w.heap.size ≤ k_) ∧ k_ ≠ gb262)) (Kd.R_types (HO277.out) BK262.out (by decide)) (fun k_ hk => by first | exact ⟨(.inr (hk.1.1)), hk.2⟩ | exact okw hk))).1 (Kd.R_reads' (Kd.R_mono (ok' := (fun k_ => (P0_9_ k_ ∨ w.heap.size ≤ k_) ∧ k_ ≠ gb262)) (Kd.R_types (HO277.out) BK262.out (by decide)) (fun k_ hk => by first | exact ⟨(.inr (hk.1.1)), hk.2⟩ | exact okw hk))).2.1 (Kd.R_F (Kd.R_mono (ok' := (fun k_ => (P0_9_ k_ ∨ w.heap.size ≤ k_) ∧ k_ ≠ gb262)) (Kd.R_types (HO277.out) BK262.out (by decide)) (fun k_ hk => by first | exact ⟨(.inr (hk.1.1)), hk.2⟩ | exact okw hk))))) (Reps.one (show Kd.FK (Kd.slice 5 (Kd.int .u8)) _ _ y278 [.slice Ao64 y278.length co64] from (by first | exact Kd.FK_slice_mk (Kd.R_reads' (Kd.R_mono (ok' := (fun k_ => (P0_9_ k_ ∨ w.heap.size ≤ k_) ∧ k_ ≠ gb262)) (Kd.R_types (HO280.out) BK262.out (by decide)) (fun k_ hk => by first | exact ⟨(.inr (hk.1.1)), hk.2⟩ | exact okw hk))).2.1 (Kd.R_F (Kd.R_mono (ok' := (fun k_ => (P0_9_ k_ ∨ w.heap.size ≤ k_) ∧ k_ ≠ gb262)) (Kd.R_types (HO280.out) BK262.out (by decide)) (fun k_ hk => by first | exact ⟨(.inr (hk.1.1)), hk.2⟩ | exact okw hk))) | exact FK_slice_of (Kd.R_reads' (Kd.R_mono (ok' := (fun k_ => (P0_9_ k_ ∨ w.heap.size ≤ k_) ∧ k_ ≠ gb262)) (Kd.R_types (HO280.out) BK262.out (by decide)) (fun k_ hk => by first | exact ⟨(.inr (hk.1.1)), hk.2⟩ | exact okw hk))).1 (Kd.R_reads' (Kd.R_mono (ok' := (fun k_ => (P0_9_ k_ ∨ w.heap.size ≤ k_) ∧ k_ ≠ gb262)) (Kd.R_types (HO280.out) BK262.out (by decide)) (fun k_ hk => by first | exact ⟨(.inr (hk.1.1)), hk.2⟩ | exact okw hk))).2.1 (Kd.R_F (Kd.R_mono (ok' := (fun k_ => (P0_9_ k_ ∨ w.heap.size ≤ k_) ∧ k_ ≠ gb262)) (Kd.R_types (HO280.out) BK262.out (by decide)) (fun k_ hk => by first | exact ⟨(.inr (hk.1.1)), hk.2⟩ | exact okw hk))))) (Reps.one (show Kd.FK (Kd.slice 5 (Kd.int .u8)) _ _ t281 [.slice Ao65 t281.length co65] from (by first | exact Kd.FK_slice_mk (Kd.R_reads' (Kd.R_mono (ok' := (fun k_ => (P0_9_ k_ ∨ w.heap.size ≤ k_) ∧ k_ ≠ gb262)) (Kd.R_types (HO283.out) BK262.out (by decide)) (fun k_ hk => by first | exact ⟨(.inr (hk.1.1)), hk.2⟩ | exact okw hk))).2.1 (Kd.R_F (Kd.R_mono (ok' := (fun k_ => (P0_9_ k_ ∨ w.heap.size ≤ k_) ∧ k_ ≠ gb262)) (Kd.R_types (HO283.out) BK262.out (by decide)) (fun k_ hk => by first | exact ⟨(.inr (hk.1.1)), hk.2⟩ | exact okw hk))) | exact FK_slice_of (Kd.R_reads' (Kd.R_mono (ok' := (fun k_ => (P0_9_ k_ ∨ w.heap.size ≤ k_) ∧ k_ ≠ gb262)) (Kd.R_types (HO283.out) BK262.out (by decide)) (fun k_ hk => by first | exact ⟨(.inr (hk.1.1)), hk.2⟩ | exact okw hk))).1 (Kd.R_reads' (Kd.R_mono (ok' := (fun k_ => (P0_9_ k_ ∨ w.heap.size ≤ k_) ∧ k_ ≠ gb262)) (Kd.R_types (HO283.out) BK262.out (by decide)) (fun k_ hk => by first | exact ⟨(.inr (hk.1.1)), hk.2⟩ | exact okw hk))).2.1 (Kd.R_F (Kd.R_mono (ok' := (fun k_ => (P0_9_ k_ ∨ w.heap.size ≤ k_) ∧ k_ ≠ gb262)) (Kd.R_types (HO283.out) BK262.out (by decide)) (fun k_ hk => by first | exact ⟨(.inr (hk.1.1)), hk.2⟩ | exact okw hk))))) (Reps.one (show Kd.FK (Kd.slice 5 (Kd.int .u8)) _ _ t284 [.slice Ao66 t284.length co66] from (by first | exact Kd.FK_slice_mk (Kd.R_reads' (Kd.R_mono (ok' := (fun k_ => (P0_9_ k_ ∨ w.heap.size ≤ k_) ∧ k_ ≠ gb262)) (Kd.R_types (HO286.out) BK262.out (by decide)) (fun k_ hk => by first | exact ⟨(.inr (hk.1.1)), hk.2⟩ | exact okw hk))).2.1 (Kd.R_F (Kd.R_mono (ok' := (fun k_ => (P0_9_ k_ ∨ w.heap.size ≤ k_) ∧ k_ ≠ gb262)) (Kd.R_types (HO286.out) BK262.out (by decide)) (fun k_ hk => by first | exact ⟨(.inr (hk.1.1)), hk.2⟩ | exact okw hk))) | exact FK_slice_of (Kd.R_reads' (Kd.R_mono (ok' := (fun k_ => (P0_9_ k_ ∨ w.heap.size ≤ k_) ∧ k_ ≠ gb262)) (Kd.R_types (HO286.out) BK262.out (by decide)) (fun k_ hk => by first | exact ⟨(.inr (hk.1.1)), hk.2⟩ | exact okw hk))).1 (Kd.R_reads' (Kd.R_mono (ok' := (fun k_ => (P0_9_ k_ ∨ w.heap.size ≤ k_) ∧ k_ ≠ gb262)) (Kd.R_types (HO286.out) BK262.out (by decide)) (fun k_ hk => by first | exact ⟨(.inr (hk.1.1)), hk.2⟩ | exact okw hk))).2.1 (Kd.R_F (Kd.R_mono (ok' := (fun k_ => (P0_9_ k_ ∨ w.heap.size ≤ k_) ∧ k_ ≠ gb262)) (Kd.R_types (HO286.out) BK262.out (by decide)) (fun k_ hk => by first | exact ⟨(.inr (hk.1.1)), hk.2⟩ | exact okw hk))))) (Reps.one (show Kd.FK (Kd.slice 5 (Kd.int .u8)) _ _ l0_9 [.slice A0_9 l0_9.length c0_9] from (by first | exact Kd.FK_slice_mk (Kd.V_reads' (e := 0) (base := 0) (Kd.V_mono (ok' := (fun k_ => (P0_9_ k_ ∨ w.heap.size ≤ k_) ∧ k_ ≠ gb262)) (HO_263009.out) (fun k_ hk => by first | exact ⟨hk.1, hk.2.2.2.2.2.2.2.2⟩ | exact okw hk))).2.1 (Kd.V_F (e := 0) (base := 0) (Kd.V_mono (ok' := (fun k_ => (P0_9_ k_ ∨ w.heap.size ≤ k_) ∧ k_ ≠ gb262)) (HO_263009.out) (fun k_ hk => by first | exact ⟨hk.1, hk.2.2.2.2.2.2.2.2⟩ | exact okw hk))) | exact FK_slice_of (Kd.V_reads' (e := 0) (base := 0) (Kd.V_mono (ok' := (fun k_ => (P0_9_ k_ ∨ w.heap.size ≤ k_) ∧ k_ ≠ gb262)) (HO_263009.out) (fun k_ hk => by first | exact ⟨hk.1, hk.2.2.2.2.2.2.2.2⟩ | exact okw hk))).1 (Kd.V_reads' (e := 0) (base := 0) (Kd.V_mono (ok' := (fun k_ => (P0_9_ k_ ∨ w.heap.size ≤ k_) ∧ k_ ≠ gb262)) (HO_263009.out) (fun k_ hk => by first | exact ⟨hk.1, hk.2.2.2.2.2.2.2.2⟩ | exact okw hk))).2.1 (Kd.V_F (e := 0) (base := 0) (Kd.V_mono (ok' := (fun k_ => (P0_9_ k_ ∨ w.heap.size ≤ k_) ∧ k_ ≠ gb262)) (HO_263009.out) (fun k_ hk => by first | exact ⟨hk.1, hk.2.2.2.2.2.2.2.2⟩ | exact okw hk))))) (Reps.none _ _))))))))))
                intro v288 w67 ho68 hb hg_ hnew_
                clear hg_ hnew_
                (first | rw [← Ny287.out] at ho68 | (simp only [Int.reduceToNat] at ho68; rw [← Ny287.out] at ho68))
                have n0_ := Aside0.mk (Kd.V_elder' (by (with_reducible repeat (first | apply Kd.V_alloc | apply Kd.V_drewN | apply Kd.V_drew)); exact HO_263009.out) (Kd.N_base ho68) hb)
                have n1_ := Aside0.mk (Kd.R_below (by (with_reducible repeat (first | apply Kd.R_alloc | apply Kd.R_drewN | apply Kd.R_drew)); exact HO268.out) hb)
                have n2_ := Aside0.mk (Kd.R_below (by (with_reducible repeat (first | apply Kd.R_alloc | apply Kd.R_drewN | apply Kd.R_drew)); exact HO271.out) hb)
                have n3_ := Aside0.mk (Kd.R_below (by (with_reducible repeat (first | apply Kd.R_alloc | apply Kd.R_drewN | apply Kd.R_drew)); exact HO274.out) hb)
                have n4_ := Aside0.mk (Kd.R_below (by (with_reducible repeat (first | apply Kd.R_alloc | apply Kd.R_drewN | apply Kd.R_drew)); exact HO277.out) hb)
                have n5_ := Aside0.mk (Kd.R_below (by (with_reducible repeat (first | apply Kd.R_alloc | apply Kd.R_drewN | apply Kd.R_drew)); exact HO280.out) hb)
                have n6_ := Aside0.mk (Kd.R_below (by (with_reducible repeat (first | apply Kd.R_alloc | apply Kd.R_drewN | apply Kd.R_drew)); exact HO283.out) hb)
                have n7_ := Aside0.mk (Kd.R_below (by (with_reducible repeat (first | apply Kd.R_alloc | apply Kd.R_drewN | apply Kd.R_drew)); exact HO286.out) hb)
                have n8_ := Aside0.mk (Kd.N_lower ho68 (below_size (by repeat (first | (with_reducible first | exact HB.out | apply below_alloc | apply pw_below_drewN | apply below_drew1 | refine below_set ?_ GE262.out) | exact HB.out))))
                have n9_ := Aside0.mk (blk_below (g := gb262) (o := .cells #[.int .i64 a0_0, .int .i64 a0_1, .bool a0_2, .bool a0_3, .int .i64 a0_4, .int .i64 a0_5, .int .i64 a0_6, .int .u32 a0_7, .int .u32 a0_8, .slice A0_9 l0_9.length c0_9, .slice A0_10 l0_10.length c0_10] 26 (0, 0)) (by (with_reducible repeat (first | refine blk_drewN ?_ _ | refine blk_drew ?_ | refine blk_alloc ?_ _)); exact BK262.out) hb)
                have n10_ := Aside0.mk (below_step (by repeat (first | (with_reducible first | exact HB.out | apply below_alloc | apply pw_below_drewN | apply below_drew1 | refine below_set ?_ GE262.out) | exact HB.out)) hb)
                clear HO_263009
                clear HO268
                clear HO271
                clear HO274
                clear HO277
                clear HO280
                clear HO283
                clear HO286
                clear BK262
                clear HB
                have HO_263009 := n0_
                have HO268 := n1_
                have HO271 := n2_
                have HO274 := n3_
                have HO277 := n4_
                have HO280 := n5_
                have HO283 := n6_
                have HO286 := n7_
                have HO289 := n8_
                have BK262 := n9_
                have HB := n10_
                clear n0_ n1_ n2_ n3_ n4_ n5_ n6_ n7_ n8_ n9_ n10_
                clear hb ho68
                refine hK.out _ _ ⟨.slice Ao60 y266.length co60, .slice Ao61 t269.length co61, .slice Ao62 t272.length co62, .slice Ao63 t275.length co63, .slice Ao64 y278.length co64, .slice Ao65 t281.length co65, .slice Ao66 t284.length co66, v288, v291, m36_, (by rw [ha.out]; exact putSel_upk 23 hb_ rfl rfl rfl), (by first | ((with_reducible repeat (first | apply Kd.V_alloc | apply Kd.V_drewN | apply Kd.V_drew)); exact Kd.V_mono HO_263009.out (fun _ hk => by first | exact ⟨hk.1.1, ⟨hk.1.2.1, ⟨hk.1.2.2.1, ⟨hk.1.2.2.2.1, ⟨hk.1.2.2.2.2.1, ⟨hk.1.2.2.2.2.2.1, ⟨hk.1.2.2.2.2.2.2.1, ⟨hk.1.2.2.2.2.2.2.2.1, ⟨hk.2, hk.1.2.2.2.2.2.2.2.2⟩⟩⟩⟩⟩⟩⟩⟩⟩ | exact okw hk)) | ((with_reducible repeat (first | apply Kd.V_alloc | apply Kd.V_drewN | apply Kd.V_drew)); exact Kd.V_mono HO_263009.out (fun _ hk => by first | trivial | exact hk | exact hk.1 | exact hk.2 | exact hk.1.1 | exact okw hk))), (by (with_reducible repeat (first | refine blk_drewN ?_ _ | refine blk_drew ?_ | refine blk_alloc ?_ _)); exact BK262.out), (by repeat (first | (with_reducible first | exact HB.out | apply below_alloc | apply pw_below_drewN | apply below_drew1 | refine below_set ?_ GE262.out) | exact HB.out)), fun _ => (by first | ((with_reducible repeat (first | apply Kd.R_alloc | apply Kd.R_drewN | apply Kd.R_drew)); exact HO268.out) | ((with_reducible repeat (first | apply Kd.R_alloc | apply Kd.R_drewN | apply Kd.R_drew)); exact Kd.R_mono HO268.out (fun _ hk => by first | trivial | exact hk | exact hk.1 | exact hk.2 | exact hk.1.1 | exact okw hk))), fun _ => (by first | ((with_reducible repeat (first | apply Kd.R_alloc | apply Kd.R_drewN | apply Kd.R_drew)); exact HO271.out) | ((with_reducible repeat (first | apply Kd.R_alloc | apply Kd.R_drewN | apply Kd.R_drew)); exact Kd.R_mono HO271.out (fun _ hk => by first | trivial | exact hk | exact hk.1 | exact hk.2 | exact hk.1.1 | exact okw hk))), fun _ => (by first | ((with_reducible repeat (first | apply Kd.R_alloc | apply Kd.R_drewN | apply Kd.R_drew)); exact HO274.out) | ((with_reducible repeat (first | apply Kd.R_alloc | apply Kd.R_drewN | apply Kd.R_drew)); exact Kd.R_mono HO274.out (fun _ hk => by first | trivial | exact hk | exact hk.1 | exact hk.2 | exact hk.1.1 | exact okw hk))), fun _ => (by first | ((with_reducible repeat (first | apply Kd.R_alloc | apply Kd.R_drewN | apply Kd.R_drew)); exact HO277.out) | ((with_reducible repeat (first | apply Kd.R_alloc | apply Kd.R_drewN | apply Kd.R_drew)); exact Kd.R_mono HO277.out (fun _ hk => by first | trivial | exact hk | exact hk.1 | exact hk.2 | exact hk.1.1 | exact okw hk))), fun _ => (by first | ((with_reducible repeat (first | apply Kd.R_alloc | apply Kd.R_drewN | apply Kd.R_drew)); exact HO280.out) | ((with_reducible repeat (first | apply Kd.R_alloc | apply Kd.R_drewN | apply Kd.R_drew)); exact Kd.R_mono HO280.out (fun _ hk => by first | trivial | exact hk | exact hk.1 | exact hk.2 | exact hk.1.1 | exact okw hk))), fun _ => (by first | ((with_reducible repeat (first | apply Kd.R_alloc | apply Kd.R_drewN | apply Kd.R_drew)); exact HO283.out) | ((with_reducible repeat (first | apply Kd.R_alloc | apply Kd.R_drewN | apply Kd.R_drew)); exact Kd.R_mono HO283.out (fun _ hk => by first | trivial | exact hk | exact hk.1 | exact hk.2 | exact hk.1.1 | exact okw hk))), fun _ => (by first | ((with_reducible repeat (first | apply Kd.R_alloc | apply Kd.R_drewN | apply Kd.R_drew)); exact HO286.out) | ((with_reducible repeat (first | apply Kd.R_alloc | apply Kd.R_drewN | apply Kd.R_drew)); exact Kd.R_mono HO286.out (fun _ hk => by first | trivial | exact hk | exact hk.1 | exact hk.2 | exact hk.1.1 | exact okw hk))), fun _ _ => (by first | ((with_reducible repeat (first | apply Kd.N_alloc | apply Kd.N_drewN | apply Kd.N_drew)); exact HO289.out) | ((with_reducible repeat (first | apply Kd.N_alloc | apply Kd.N_drewN | apply Kd.N_drew)); exact Kd.N_mono HO289.out (fun _ hk => by first | trivial | exact hk | exact hk.1 | exact hk.2 | exact hk.1.1 | exact okw hk))), fun h0_ => absurd ((hoff 35 (by kernel_rfl)).symm.trans h0_) (by decide), fun h0_ => absurd ((hoff 36 (by kernel_rfl)).symm.trans h0_) (by decide)⟩
               refine steps_cons ?_ ?_
               ·rintro b a w' ⟨v267, v270, v273, v276, v279, v282, v285, v288, v291, m36_, ha, Q_HO_263009, Q_BK262, Q_HB, Q_HO268, Q_HO271, Q_HO274, Q_HO277, Q_HO280, Q_HO283, Q_HO286, Q_HO289, Q_HO292, Q_X36_⟩ hb_ hon hoff
                refine ⟨_, rfl, fun K hK => ?_⟩
                have e112 : a.tmps[112]? = some (v288) := by rw [ha]; exact putSel_on (e := (34, 112, v288)) 23 rfl rfl (hon 34 (by kernel_rfl)) rfl
                replace ha := Aside0.mk ha
                have HO_263009 := Aside0.mk Q_HO_263009
                have BK262 := Aside0.mk Q_BK262
                have HB := Aside0.mk Q_HB
                have HO268 := Aside0.mk (Q_HO268 (hon 7 (by kernel_rfl)))
                have HO271 := Aside0.mk (Q_HO271 (hon 13 (by kernel_rfl)))
                have HO274 := Aside0.mk (Q_HO274 (hon 16 (by kernel_rfl)))
                have HO277 := Aside0.mk (Q_HO277 (hon 18 (by kernel_rfl)))
                have HO280 := Aside0.mk (Q_HO280 (hon 25 (by kernel_rfl)))
                have HO283 := Aside0.mk (Q_HO283 (hon 28 (by kernel_rfl)))
                have HO286 := Aside0.mk (Q_HO286 (hon 31 (by kernel_rfl)))
                have HO289 := Aside0.mk (Q_HO289 (hon 34 (by kernel_rfl)) hb_)
                obtain ⟨Ao69, co69, eo69⟩ := Kd.N_slice HO289.out
                (first | subst eo69 | (injection eo69 with f1_ f2_ f3_; have f4_ := f1_.symm; have f5_ := f3_.symm; clear f1_ f2_ f3_; subst f4_; subst f5_))
                refine goes_ Try.func71 (by kernel_rfl) rfl #[.slice Ao69 y287.length co69] (by rfl) rfl rfl (by first | (simp only [List.map_toArray, List.map_cons, List.map_nil, Act.eval, Array.getD_eq_getD_getElem?, Option.getD_some, e112]; done) | (simp only [List.map_toArray, List.map_cons, List.map_nil, Act.eval, Array.getD_eq_getD_getElem?, Option.getD_some, e112]; rfl)) ?_
                with_reducible refine (word_Join.calls kj30 _ _ y287 t290 _ ?side1 ?side2 A39.out).mono ?_
                (case side1 => repeat (first | exact (Kd.N_reads' HO289.out).2.2 | (with_reducible refine Kd.C_alloc ?_ _) | (with_reducible refine Kd.C_drewN ?_ _) | (with_reducible refine Kd.C_drew ?_)))
                (case side2 => exact (Kd.N_reads' HO289.out).2.1)
                rintro e w70 ⟨v291, rfl, ho0, hb⟩
                refine ⟨_, rfl, ?_⟩
                have n0_ := Aside0.mk (Kd.V_elder' (by (with_reducible repeat (first | apply Kd.V_alloc | apply Kd.V_drewN | apply Kd.V_drew)); exact HO_263009.out) (Kd.R_base ho0) hb)
                have n1_ := Aside0.mk (Kd.R_elder' (by (with_reducible repeat (first | apply Kd.R_alloc | apply Kd.R_drewN | apply Kd.R_drew)); exact HO268.out) (Kd.R_base ho0) hb)
                have n2_ := Aside0.mk (Kd.R_elder' (by (with_reducible repeat (first | apply Kd.R_alloc | apply Kd.R_drewN | apply Kd.R_drew)); exact HO271.out) (Kd.R_base ho0) hb)
                have n3_ := Aside0.mk (Kd.R_elder' (by (with_reducible repeat (first | apply Kd.R_alloc | apply Kd.R_drewN | apply Kd.R_drew)); exact HO274.out) (Kd.R_base ho0) hb)
                have n4_ := Aside0.mk (Kd.R_elder' (by (with_reducible repeat (first | apply Kd.R_alloc | apply Kd.R_drewN | apply Kd.R_drew)); exact HO277.out) (Kd.R_base ho0) hb)
                have n5_ := Aside0.mk (Kd.R_elder' (by (with_reducible repeat (first | apply Kd.R_alloc | apply Kd.R_drewN | apply Kd.R_drew)); exact HO280.out) (Kd.R_base ho0) hb)
                have n6_ := Aside0.mk (Kd.R_elder' (by (with_reducible repeat (first | apply Kd.R_alloc | apply Kd.R_drewN | apply Kd.R_drew)); exact HO283.out) (Kd.R_base ho0) hb)
                have n7_ := Aside0.mk (Kd.R_elder' (by (with_reducible repeat (first | apply Kd.R_alloc | apply Kd.R_drewN | apply Kd.R_drew)); exact HO286.out) (Kd.R_base ho0) hb)
                have n8_ := Aside0.mk (Kd.N_elder' (by (with_reducible repeat (first | apply Kd.N_alloc | apply Kd.N_drewN | apply Kd.N_drew)); exact HO289.out) (Kd.R_base ho0) hb)
                have n9_ := Aside0.mk (Kd.R_lower (Kd.R_new' (Kd.R_new' (Kd.R_new' (Kd.R_new' (Kd.R_new' (Kd.R_new' (Kd.R_new' (Kd.R_newM (M := fun k_ => (w.heap.size ≤ k_)) ho0 (below_size (by repeat (first | (with_reducible first | exact HB.out | apply below_alloc | apply pw_below_drewN | apply below_drew1 | refine below_set ?_ GE262.out) | exact HB.out))) (fun k_ h_ => h_)) (Kd.R_lt (by (with_reducible repeat (first | apply Kd.R_alloc | apply Kd.R_drewN | apply Kd.R_drew)); exact HO268.out))) (Kd.R_lt (by (with_reducible repeat (first | apply Kd.R_alloc | apply Kd.R_drewN | apply Kd.R_drew)); exact HO271.out))) (Kd.R_lt (by (with_reducible repeat (first | apply Kd.R_alloc | apply Kd.R_drewN | apply Kd.R_drew)); exact HO274.out))) (Kd.R_lt (by (with_reducible repeat (first | apply Kd.R_alloc | apply Kd.R_drewN | apply Kd.R_drew)); exact HO277.out))) (Kd.R_lt (by (with_reducible repeat (first | apply Kd.R_alloc | apply Kd.R_drewN | apply Kd.R_drew)); exact HO280.out))) (Kd.R_lt (by (with_reducible repeat (first | apply Kd.R_alloc | apply Kd.R_drewN | apply Kd.R_drew)); exact HO283.out))) (Kd.R_lt (by (with_reducible repeat (first | apply Kd.R_alloc | apply Kd.R_drewN | apply Kd.R_drew)); exact HO286.out))) (below_size (by repeat (first | (with_reducible first | exact HB.out | apply below_alloc | apply pw_below_drewN | apply below_drew1 | refine below_set ?_ GE262.out) | exact HB.out))))
                have n10_ := Aside0.mk (blk_below (g := gb262) (o := .cells #[.int .i64 a0_0, .int .i64 a0_1, .bool a0_2, .bool a0_3, .int .i64 a0_4, .int .i64 a0_5, .int .i64 a0_6, .int .u32 a0_7, .int .u32 a0_8, .slice A0_9 l0_9.length c0_9, .slice A0_10 l0_10.length c0_10] 26 (0, 0)) (by (with_reducible repeat (first | refine blk_drewN ?_ _ | refine blk_drew ?_ | refine blk_alloc ?_ _)); exact BK262.out) hb)
                have n11_ := Aside0.mk (below_step (by repeat (first | (with_reducible first | exact HB.out | apply below_alloc | apply pw_below_drewN | apply below_drew1 | refine below_set ?_ GE262.out) | exact HB.out)) hb)
                clear HO_263009
                clear HO268
                clear HO271
                clear HO274
                clear HO277
                clear HO280
                clear HO283
                clear HO286
                clear HO289
                clear BK262
                clear HB
                have HO_263009 := n0_
                have HO268 := n1_
                have HO271 := n2_
                have HO274 := n3_
                have HO277 := n4_
                have HO280 := n5_
                have HO283 := n6_
                have HO286 := n7_
                have HO289 := n8_
                have HO292 := n9_
                have BK262 := n10_
                have HB := n11_
                clear n0_ n1_ n2_ n3_ n4_ n5_ n6_ n7_ n8_ n9_ n10_ n11_
                (try clear hb)
                (try clear hb2)
                (try clear hk)
                (try clear hi)
                (try clear ho0)
                refine hK.out _ _ ⟨v267, v270, v273, v276, v279, v282, v285, .slice Ao69 y287.length co69, v291, m36_, (by rw [ha.out]; exact putSel_upk 24 hb_ rfl rfl rfl), (by first | ((with_reducible repeat (first | apply Kd.V_alloc | apply Kd.V_drewN | apply Kd.V_drew)); exact Kd.V_mono HO_263009.out (fun _ hk => by first | exact ⟨hk.1.1, ⟨hk.1.2.1, ⟨hk.1.2.2.1, ⟨hk.1.2.2.2.1, ⟨hk.1.2.2.2.2.1, ⟨hk.1.2.2.2.2.2.1, ⟨hk.1.2.2.2.2.2.2.1, ⟨hk.1.2.2.2.2.2.2.2.1, ⟨hk.2, hk.1.2.2.2.2.2.2.2.2.2⟩⟩⟩⟩⟩⟩⟩⟩⟩ | exact okw hk)) | ((with_reducible repeat (first | apply Kd.V_alloc | apply Kd.V_drewN | apply Kd.V_drew)); exact Kd.V_mono HO_263009.out (fun _ hk => by first | trivial | exact hk | exact hk.1 | exact hk.2 | exact hk.1.1 | exact okw hk))), (by (with_reducible repeat (first | refine blk_drewN ?_ _ | refine blk_drew ?_ | refine blk_alloc ?_ _)); exact BK262.out), (by repeat (first | (with_reducible first | exact HB.out | apply below_alloc | apply pw_below_drewN | apply below_drew1 | refine below_set ?_ GE262.out) | exact HB.out)), fun _ => (by first | ((with_reducible repeat (first | apply Kd.R_alloc | apply Kd.R_drewN | apply Kd.R_drew)); exact Kd.R_mono HO268.out (fun _ hk => by first | exact ⟨hk.1.1, ⟨hk.1.2.1, ⟨hk.1.2.2.1, ⟨hk.1.2.2.2.1, ⟨hk.1.2.2.2.2.1, ⟨hk.1.2.2.2.2.2.1, ⟨hk.1.2.2.2.2.2.2, hk.2⟩⟩⟩⟩⟩⟩⟩ | exact okw hk)) | ((with_reducible repeat (first | apply Kd.R_alloc | apply Kd.R_drewN | apply Kd.R_drew)); exact Kd.R_mono HO268.out (fun _ hk => by first | trivial | exact hk | exact hk.1 | exact hk.2 | exact hk.1.1 | exact okw hk))), fun _ => (by first | ((with_reducible repeat (first | apply Kd.R_alloc | apply Kd.R_drewN | apply Kd.R_drew)); exact Kd.R_mono HO271.out (fun _ hk => by first | exact ⟨hk.1.1, ⟨hk.1.2.1, ⟨hk.1.2.2.1, ⟨hk.1.2.2.2.1, ⟨hk.1.2.2.2.2.1, ⟨hk.1.2.2.2.2.2.1, ⟨hk.1.2.2.2.2.2.2, hk.2⟩⟩⟩⟩⟩⟩⟩ | exact okw hk)) | ((with_reducible repeat (first | apply Kd.R_alloc | apply Kd.R_drewN | apply Kd.R_drew)); exact Kd.R_mono HO271.out (fun _ hk => by first | trivial | exact hk | exact hk.1 | exact hk.2 | exact hk.1.1 | exact okw hk))), fun _ => (by first | ((with_reducible repeat (first | apply Kd.R_alloc | apply Kd.R_drewN | apply Kd.R_drew)); exact Kd.R_mono HO274.out (fun _ hk => by first | exact ⟨hk.1.1, ⟨hk.1.2.1, ⟨hk.1.2.2.1, ⟨hk.1.2.2.2.1, ⟨hk.1.2.2.2.2.1, ⟨hk.1.2.2.2.2.2.1, ⟨hk.1.2.2.2.2.2.2, hk.2⟩⟩⟩⟩⟩⟩⟩ | exact okw hk)) | ((with_reducible repeat (first | apply Kd.R_alloc | apply Kd.R_drewN | apply Kd.R_drew)); exact Kd.R_mono HO274.out (fun _ hk => by first | trivial | exact hk | exact hk.1 | exact hk.2 | exact hk.1.1 | exact okw hk))), fun _ => (by first | ((with_reducible repeat (first | apply Kd.R_alloc | apply Kd.R_drewN | apply Kd.R_drew)); exact Kd.R_mono HO277.out (fun _ hk => by first | exact ⟨hk.1.1, ⟨hk.1.2.1, ⟨hk.1.2.2.1, ⟨hk.1.2.2.2.1, ⟨hk.1.2.2.2.2.1, ⟨hk.1.2.2.2.2.2.1, ⟨hk.1.2.2.2.2.2.2, hk.2⟩⟩⟩⟩⟩⟩⟩ | exact okw hk)) | ((with_reducible repeat (first | apply Kd.R_alloc | apply Kd.R_drewN | apply Kd.R_drew)); exact Kd.R_mono HO277.out (fun _ hk => by first | trivial | exact hk | exact hk.1 | exact hk.2 | exact hk.1.1 | exact okw hk))), fun _ => (by first | ((with_reducible repeat (first | apply Kd.R_alloc | apply Kd.R_drewN | apply Kd.R_drew)); exact Kd.R_mono HO280.out (fun _ hk => by first | exact ⟨hk.1.1, ⟨hk.1.2.1, ⟨hk.1.2.2.1, ⟨hk.1.2.2.2.1, ⟨hk.1.2.2.2.2.1, ⟨hk.1.2.2.2.2.2.1, ⟨hk.1.2.2.2.2.2.2, hk.2⟩⟩⟩⟩⟩⟩⟩ | exact okw hk)) | ((with_reducible repeat (first | apply Kd.R_alloc | apply Kd.R_drewN | apply Kd.R_drew)); exact Kd.R_mono HO280.out (fun _ hk => by first | trivial | exact hk | exact hk.1 | exact hk.2 | exact hk.1.1 | exact okw hk))), fun _ => (by first | ((with_reducible repeat (first | apply Kd.R_alloc | apply Kd.R_drewN | apply Kd.R_drew)); exact Kd.R_mono HO283.out (fun _ hk => by first | exact ⟨hk.1.1, ⟨hk.1.2.1, ⟨hk.1.2.2.1, ⟨hk.1.2.2.2.1, ⟨hk.1.2.2.2.2.1, ⟨hk.1.2.2.2.2.2.1, ⟨hk.1.2.2.2.2.2.2, hk.2⟩⟩⟩⟩⟩⟩⟩ | exact okw hk)) | ((with_reducible repeat (first | apply Kd.R_alloc | apply Kd.R_drewN | apply Kd.R_drew)); exact Kd.R_mono HO283.out (fun _ hk => by first | trivial | exact hk | exact hk.1 | exact hk.2 | exact hk.1.1 | exact okw hk))), fun _ => (by first | ((with_reducible repeat (first | apply Kd.R_alloc | apply Kd.R_drewN | apply Kd.R_drew)); exact Kd.R_mono HO286.out (fun _ hk => by first | exact ⟨hk.1.1, ⟨hk.1.2.1, ⟨hk.1.2.2.1, ⟨hk.1.2.2.2.1, ⟨hk.1.2.2.2.2.1, ⟨hk.1.2.2.2.2.2.1, ⟨hk.1.2.2.2.2.2.2, hk.2⟩⟩⟩⟩⟩⟩⟩ | exact okw hk)) | ((with_reducible repeat (first | apply Kd.R_alloc | apply Kd.R_drewN | apply Kd.R_drew)); exact Kd.R_mono HO286.out (fun _ hk => by first | trivial | exact hk | exact hk.1 | exact hk.2 | exact hk.1.1 | exact okw hk))), fun _ h1_ => absurd ((up_self b 35).symm.trans h1_) (by decide), fun _ => (by first | ((with_reducible repeat (first | apply Kd.R_alloc | apply Kd.R_drewN | apply Kd.R_drew)); exact Kd.R_mono HO292.out (fun _ hk => by first | exact ⟨hk.1.1.1.1.1.1.1.1, ⟨hk.1.1.1.1.1.1.2, ⟨hk.1.1.1.1.1.2, ⟨hk.1.1.1.1.2, ⟨hk.1.1.1.2, ⟨hk.1.1.2, ⟨hk.1.2, hk.2⟩⟩⟩⟩⟩⟩⟩ | exact okw hk)) | ((with_reducible repeat (first | apply Kd.R_alloc | apply Kd.R_drewN | apply Kd.R_drew)); exact Kd.R_mono HO292.out (fun _ hk => by first | trivial | exact hk | exact hk.1 | exact hk.2 | exact hk.1.1 | exact okw hk))), fun h0_ => absurd ((hoff 36 (by kernel_rfl)).symm.trans h0_) (by decide)⟩
               refine steps_cons ?_ ?_
               ·rintro b a w' ⟨v267, v270, v273, v276, v279, v282, v285, v288, v291, m36_, ha, Q_HO_263009, Q_BK262, Q_HB, Q_HO268, Q_HO271, Q_HO274, Q_HO277, Q_HO280, Q_HO283, Q_HO286, Q_HO289, Q_HO292, Q_X36_⟩ hb_ hon hoff
                refine ⟨_, rfl, fun K hK => ?_⟩
                have e113 : a.tmps[113]? = some (v291) := by rw [ha]; exact putSel_on (e := (35, 113, v291)) 24 rfl rfl (hon 35 (by kernel_rfl)) rfl
                replace ha := Aside0.mk ha
                have HO_263009 := Aside0.mk Q_HO_263009
                have BK262 := Aside0.mk Q_BK262
                have HB := Aside0.mk Q_HB
                have HO268 := Aside0.mk (Q_HO268 (hon 7 (by kernel_rfl)))
                have HO271 := Aside0.mk (Q_HO271 (hon 13 (by kernel_rfl)))
                have HO274 := Aside0.mk (Q_HO274 (hon 16 (by kernel_rfl)))
                have HO277 := Aside0.mk (Q_HO277 (hon 18 (by kernel_rfl)))
                have HO280 := Aside0.mk (Q_HO280 (hon 25 (by kernel_rfl)))
                have HO283 := Aside0.mk (Q_HO283 (hon 28 (by kernel_rfl)))
                have HO286 := Aside0.mk (Q_HO286 (hon 31 (by kernel_rfl)))
                have HO292 := Aside0.mk (Q_HO292 (hon 35 (by kernel_rfl)))
                refine value_ (w1 := w') (v := v291) (by rfl) rfl ?_ ?_
                ·go_simp
                 (try simp only [i64_w])
                 try rfl
                refine hK.out _ _ ⟨v267, v270, v273, v276, v279, v282, v285, v288, v291, (v291), (by rw [ha.out]; exact putSel_upk 25 hb_ rfl rfl rfl), Q_HO_263009, Q_BK262, Q_HB, Q_HO268, Q_HO271, Q_HO274, Q_HO277, Q_HO280, Q_HO283, Q_HO286, fun _ h1_ => absurd ((hon 35 (by kernel_rfl)).symm.trans h1_) (by decide), Q_HO292, fun _ => rfl⟩
               exact steps_nil
              rintro b a w70 hall ⟨v267, v270, v273, v276, v279, v282, v285, v288, v291, m36_, ha, Q_HO_263009, Q_BK262, Q_HB, Q_HO268, Q_HO271, Q_HO274, Q_HO277, Q_HO280, Q_HO283, Q_HO286, Q_HO289, Q_HO292, Q_X36_⟩
              clear BK262 HB HO_263009
              have hb1_ := hall 1 (by kernel_rfl)
              have hb2_ := hall 2 (by kernel_rfl)
              have hb3_ := hall 3 (by kernel_rfl)
              have hb5_ := hall 5 (by kernel_rfl)
              have hb6_ := hall 6 (by kernel_rfl)
              have hb7_ := hall 7 (by kernel_rfl)
              have hb10_ := hall 10 (by kernel_rfl)
              have hb11_ := hall 11 (by kernel_rfl)
              have hb12_ := hall 12 (by kernel_rfl)
              have hb13_ := hall 13 (by kernel_rfl)
              have hb15_ := hall 15 (by kernel_rfl)
              have hb16_ := hall 16 (by kernel_rfl)
              have hb18_ := hall 18 (by kernel_rfl)
              have hb20_ := hall 20 (by kernel_rfl)
              have hb21_ := hall 21 (by kernel_rfl)
              have hb23_ := hall 23 (by kernel_rfl)
              have hb24_ := hall 24 (by kernel_rfl)
              have hb25_ := hall 25 (by kernel_rfl)
              have hb27_ := hall 27 (by kernel_rfl)
              have hb28_ := hall 28 (by kernel_rfl)
              have hb30_ := hall 30 (by kernel_rfl)
              have hb31_ := hall 31 (by kernel_rfl)
              have hb33_ := hall 33 (by kernel_rfl)
              have hb34_ := hall 34 (by kernel_rfl)
              have hb35_ := hall 35 (by kernel_rfl)
              have hb36_ := hall 36 (by kernel_rfl)
              subst ha
              obtain rfl := Q_X36_ hb36_
              simp only [putSel, hb1_, hb2_, hb3_, hb5_, hb6_, hb7_, hb10_, hb11_, hb12_, hb13_, hb15_, hb16_, hb18_, hb20_, hb21_, hb23_, hb24_, hb25_, hb27_, hb28_, hb30_, hb31_, hb33_, hb34_, hb35_, hb36_, if_true, Act.put, List.setIfInBounds_toArray, List.set_cons_zero, List.set_cons_succ]
              have HO_263009 := Aside0.mk Q_HO_263009
              clear Q_HO_263009
              have BK262 := Aside0.mk Q_BK262
              clear Q_BK262
              have HB := Aside0.mk Q_HB
              clear Q_HB
              have HO268 := Aside0.mk (Q_HO268 hb7_)
              clear Q_HO268
              have HO271 := Aside0.mk (Q_HO271 hb13_)
              clear Q_HO271
              have HO274 := Aside0.mk (Q_HO274 hb16_)
              clear Q_HO274
              have HO277 := Aside0.mk (Q_HO277 hb18_)
              clear Q_HO277
              have HO280 := Aside0.mk (Q_HO280 hb25_)
              clear Q_HO280
              have HO283 := Aside0.mk (Q_HO283 hb28_)
              clear Q_HO283
              have HO286 := Aside0.mk (Q_HO286 hb31_)
              clear Q_HO286
              clear Q_HO289
              have HO292 := Aside0.mk (Q_HO292 hb35_)
              clear Q_HO292
              clear hall hb1_ hb2_ hb3_ hb5_ hb6_ hb7_ hb10_ hb11_ hb12_ hb13_ hb15_ hb16_ hb18_ hb20_ hb21_ hb23_ hb24_ hb25_ hb27_ hb28_ hb30_ hb31_ hb33_ hb34_ hb35_ hb36_
              obtain ⟨Ao71, co71, eo71⟩ := Kd.R_slice HO292.out
              subst eo71
              try go_upto_region 12 with fail
              have qL_ : (11 : Int) < (t290.length : Int) := of_decide_eq_true (by first | (with_reducible assumption) | assumption)
              obtain ⟨go44, co44, eo44, gb44, gl44, cl44, HG44⟩ := Kd.R_form HO292.out (by omega); (first | cases eo44 | (injection eo44 with ea_ en_ ec_; (first | subst ea_ | (injection ea_ with ea_; subst ea_)); subst ec_; clear en_)); have GB44 := Aside0.mk gb44; have GG44 := Aside0.mk HG44; clear gb44 gl44 HG44
              have n0_ := Aside0.mk (Kd.V_drew HO_263009.out)
              have n1_ := Aside0.mk (Kd.R_drew HO292.out)
              have n2_ := Aside0.mk (blk_drew BK262.out)
              have n3_ := Aside0.mk (below_drew1 HB.out)
              clear HO_263009 HO292 BK262 HB
              have HO_263009 := n0_
              have HO292 := n1_
              have BK262 := n2_
              have HB := n3_
              clear n0_ n1_ n2_ n3_
              refine start_ (n := 7) (S := fun w' => True) (ds := []) #[false, false, false, false, false, false, false] (by kernel_rfl) rfl rfl trivial (fun hHeld => ?_)
              generalize w70.drew = w70 at HO_263009 HO292 BK262 HB hHeld ⊢
              have n0_ := Aside0.mk (Kd.R_mono (ok' := (fun k_ => (w.heap.size ≤ k_))) HO292.out (fun _ hk => by exact okw hk))
              clear HO292
              have HO292 := n0_
              clear n0_
              have qs_ : (10 : Int) ≤ (t290.length : Int) := by omega
              have qc_ : t290.length ≤ co71 := (Kd.R_reads' HO292.out).2.1
              have qd_ : ¬ (co71 = 10) := by omega
              have qe_ : ¬ (10 = co71) := by omega
              have qf_ : ¬ (co71 ≤ 10) := by omega
              have qg_ : (10 < co71) = True := eq_true (by omega)
              have qh_ : ¬ (co71 - 10 = 0) := by omega
              refine pure_ (i := 0) (N := some 114) (v := ?_) (a' := ?_) #[true, false, false, false, false, false, false] rfl rfl (by kernel_rfl) (fun _ _ _ h => h) (Or.inl ⟨by rfl, ?_⟩) ?_ ?_
              rotate_left
              ·intro w'
               go_simp
               with_reducible rfl
              rotate_left
              ·simp only [Act.put, List.setIfInBounds_toArray, List.set_cons_zero, List.set_cons_succ, i64_w, i32_w]
               rfl
              refine pure_ (i := 1) (N := some 115) (v := ?_) (a' := ?_) #[true, true, false, false, false, false, false] rfl rfl (by kernel_rfl) (fun _ _ _ h => h) (Or.inl ⟨by rfl, ?_⟩) ?_ ?_
              rotate_left
              ·intro w'
               go_simp
               with_reducible rfl
              rotate_left
              ·simp only [Act.put, List.setIfInBounds_toArray, List.set_cons_zero, List.set_cons_succ, i64_w, i32_w]
               rfl
              refine pure_ (i := 2) (N := some 116) (v := ?_) (a' := ?_) #[true, true, true, false, false, false, false] rfl rfl (by kernel_rfl) (fun _ _ _ h => h) (Or.inl ⟨by rfl, ?_⟩) ?_ ?_
              rotate_left
              ·intro w'
               go_simp
               with_reducible rfl
              rotate_left
              ·simp only [Act.put, List.setIfInBounds_toArray, List.set_cons_zero, List.set_cons_succ, i64_w, i32_w]
               rfl
              refine chain_ [3, 4, 5, 6] rfl (by kernel_rfl) (by kernel_rfl) ?_
              simp only [List.filterMap_cons, List.filterMap_nil, List.getElem?_toArray, List.getElem?_cons_succ, List.getElem?_cons_zero]
              ((with_reducible refine gate_dst (N := 117) rfl ?_); (try (refine gate_guard (by rfl) ?_; dsimp only)); refine Kd.N_lit (Kd.slice 5 (Kd.int .u8)) _ 24 ?hg (N' := 117) ?hd (xs := ([t290] : List (List Int))) (inner := [.slice (some ⟨go44, 0, none⟩) t290.length co71]) (ok := (fun k_ => (P0_9_ k_ ∨ w.heap.size ≤ k_) ∧ k_ ≠ gb262)) (okp := (fun k_ => (P0_9_ k_ ∨ w.heap.size ≤ k_) ∧ k_ ≠ gb262)) ?hr ?hp (fun _ hk => hk) ((show ∀ k_, w70.heap.size ≤ k_ → (fun k_ => (P0_9_ k_ ∨ w.heap.size ≤ k_) ∧ k_ ≠ gb262) k_ from fun k_ hk => ⟨(.inr (Nat.le_trans (below_size (by repeat (first | (with_reducible first | exact HB.out | apply below_alloc | apply pw_below_drewN | apply below_drew1 | refine below_set ?_ GE262.out) | exact HB.out))) hk)), Kd.freshB (g := gb262) (o := .cells #[.int .i64 a0_0, .int .i64 a0_1, .bool a0_2, .bool a0_3, .int .i64 a0_4, .int .i64 a0_5, .int .i64 a0_6, .int .u32 a0_7, .int .u32 a0_8, .slice A0_9 l0_9.length c0_9, .slice A0_10 l0_10.length c0_10] 26 (0, 0)) (by (with_reducible repeat (first | refine blk_drewN ?_ _ | refine blk_drew ?_ | refine blk_alloc ?_ _)); exact BK262.out) k_ hk⟩) _ (Nat.le_refl _)) (Below.refl _ _) (Nat.le_refl _) (by simp) ?_; (case hd => rfl); (case hg => rfl); (case hr => first | (go_simp; done) | (go_simp; rfl)); (case hp => exact (Reps.one (show Kd.FK (Kd.slice 5 (Kd.int .u8)) _ _ t290 [.slice (some ⟨go44, 0, none⟩) t290.length co71] from (by first | exact Kd.FK_slice_mk (Kd.R_reads' (Kd.R_mono (ok' := (fun k_ => (P0_9_ k_ ∨ w.heap.size ≤ k_) ∧ k_ ≠ gb262)) (Kd.R_types (HO292.out) BK262.out (by decide)) (fun k_ hk => by first | exact ⟨(.inr (hk.1)), hk.2⟩ | exact okw hk))).2.1 (Kd.R_F (Kd.R_mono (ok' := (fun k_ => (P0_9_ k_ ∨ w.heap.size ≤ k_) ∧ k_ ≠ gb262)) (Kd.R_types (HO292.out) BK262.out (by decide)) (fun k_ hk => by first | exact ⟨(.inr (hk.1)), hk.2⟩ | exact okw hk))) | exact FK_slice_of (Kd.R_reads' (Kd.R_mono (ok' := (fun k_ => (P0_9_ k_ ∨ w.heap.size ≤ k_) ∧ k_ ≠ gb262)) (Kd.R_types (HO292.out) BK262.out (by decide)) (fun k_ hk => by first | exact ⟨(.inr (hk.1)), hk.2⟩ | exact okw hk))).1 (Kd.R_reads' (Kd.R_mono (ok' := (fun k_ => (P0_9_ k_ ∨ w.heap.size ≤ k_) ∧ k_ ≠ gb262)) (Kd.R_types (HO292.out) BK262.out (by decide)) (fun k_ hk => by first | exact ⟨(.inr (hk.1)), hk.2⟩ | exact okw hk))).2.1 (Kd.R_F (Kd.R_mono (ok' := (fun k_ => (P0_9_ k_ ∨ w.heap.size ≤ k_) ∧ k_ ≠ gb262)) (Kd.R_types (HO292.out) BK262.out (by decide)) (fun k_ hk => by first | exact ⟨(.inr (hk.1)), hk.2⟩ | exact okw hk))))) (Reps.none _ _))); intro v294 w72 ho73 hb hg_ hnew_; clear hg_ hnew_; (first | rw [← Ny293.out] at ho73 | (simp only [Int.reduceToNat] at ho73; rw [← Ny293.out] at ho73)); have n0_ := Aside0.mk (Kd.V_elder' (by (with_reducible repeat (first | apply Kd.V_alloc | apply Kd.V_drewN | apply Kd.V_drew)); exact HO_263009.out) (Kd.N_base ho73) hb); have n1_ := Aside0.mk (Kd.R_below (by (with_reducible repeat (first | apply Kd.R_alloc | apply Kd.R_drewN | apply Kd.R_drew)); exact HO292.out) hb); have n2_ := Aside0.mk (Kd.N_lower ho73 (below_size (by repeat (first | (with_reducible first | exact HB.out | apply below_alloc | apply pw_below_drewN | apply below_drew1 | refine below_set ?_ GE262.out) | exact HB.out)))); have n3_ := Aside0.mk (blk_below (g := gb262) (o := .cells #[.int .i64 a0_0, .int .i64 a0_1, .bool a0_2, .bool a0_3, .int .i64 a0_4, .int .i64 a0_5, .int .i64 a0_6, .int .u32 a0_7, .int .u32 a0_8, .slice A0_9 l0_9.length c0_9, .slice A0_10 l0_10.length c0_10] 26 (0, 0)) (by (with_reducible repeat (first | refine blk_drewN ?_ _ | refine blk_drew ?_ | refine blk_alloc ?_ _)); exact BK262.out) hb); have n4_ := Aside0.mk (below_step (by repeat (first | (with_reducible first | exact HB.out | apply below_alloc | apply pw_below_drewN | apply below_drew1 | refine below_set ?_ GE262.out) | exact HB.out)) hb); clear HO_263009; clear HO292; clear BK262; clear HB; have HO_263009 := n0_; have HO292 := n1_; have HO295 := n2_; have BK262 := n3_; have HB := n4_; clear n0_ n1_ n2_ n3_ n4_; clear hb ho73; obtain ⟨Ao74, co74, eo74⟩ := Kd.N_slice HO295.out; subst eo74)
              (try simp only [Act.put, List.setIfInBounds_toArray, List.set_cons_zero, List.set_cons_succ])
              ((with_reducible refine gate_callee (f := 74) rfl ?_); refine goesL_ (some 118) rfl rfl Try.func74 (by kernel_rfl) rfl #[.slice Ao74 y293.length co74] rfl (by (try simp only [List.map_toArray, List.map_cons, List.map_nil]); first | done | rfl | (simp only [List.length_drop, List.length_take]; rfl)) ?_; (with_reducible refine (sum_Of.calls kj30 _ _ y293 t296 _ ?side1 ?side2 A40.out).mono ?_); (case side1 => repeat (first | exact (Kd.N_reads' HO295.out).2.2 | (with_reducible refine Kd.C_alloc ?_ _) | (with_reducible refine Kd.C_drewN ?_ _) | (with_reducible refine Kd.C_drew ?_))); (case side2 => exact (Kd.N_reads' HO295.out).2.1); rintro e w' ⟨rfl, ⟨nd, rfl⟩⟩; refine ⟨_, rfl, ?_⟩; (try (rw [drewN_self w72]; generalize hq_ : World.drewN w72 _ = w72; have n0_ : Aside0 (Kd.R (Kd.int .u8) 5 w72 w.heap.size (fun k_ => (w.heap.size ≤ k_)) (.slice (some ⟨go44, 0, none⟩) t290.length co71) t290) := ⟨by rw [← hq_]; exact (by (with_reducible repeat (first | apply Kd.R_alloc | apply Kd.R_drewN | apply Kd.R_drew)); exact HO292.out)⟩; have n1_ : Aside0 (Kd.N (Kd.slice 5 (Kd.int .u8)) 24 w72 w.heap.size (fun k_ => (P0_9_ k_ ∨ w.heap.size ≤ k_) ∧ k_ ≠ gb262) (.slice Ao74 y293.length co74) y293) := ⟨by rw [← hq_]; exact (by (with_reducible repeat (first | apply Kd.N_alloc | apply Kd.N_drewN | apply Kd.N_drew)); exact HO295.out)⟩; have n2_ : Aside0 (Kd.V (Kd.int .u8) 5 w72 w.heap.size (fun k_ => (P0_9_ k_ ∨ w.heap.size ≤ k_) ∧ some k_ ≠ (.slice Ao74 y293.length co74 : Value).ownBlock ∧ k_ ≠ gb262) (.slice A0_9 l0_9.length c0_9) l0_9) := ⟨by rw [← hq_]; exact (by (with_reducible repeat (first | apply Kd.V_alloc | apply Kd.V_drewN | apply Kd.V_drew)); exact Kd.V_mono HO_263009.out (fun _ hk => by first | exact ⟨hk.1.1, ⟨hk.2, hk.1.2⟩⟩ | exact okw hk))⟩; have n3_ : Aside0 (w72.heap[gb262]? = some (.cells #[.int .i64 a0_0, .int .i64 a0_1, .bool a0_2, .bool a0_3, .int .i64 a0_4, .int .i64 a0_5, .int .i64 a0_6, .int .u32 a0_7, .int .u32 a0_8, .slice A0_9 l0_9.length c0_9, .slice A0_10 l0_10.length c0_10] 26 (0, 0))) := ⟨by rw [← hq_]; exact (by (with_reducible repeat (first | refine blk_drewN ?_ _ | refine blk_drew ?_ | refine blk_alloc ?_ _)); exact BK262.out)⟩; have n4_ : Aside0 (Below w.heap.size w w72) := ⟨by rw [← hq_]; exact (by repeat (first | (with_reducible first | exact HB.out | apply below_alloc | apply pw_below_drewN | apply below_drew1 | refine below_set ?_ GE262.out) | exact HB.out))⟩; clear HO292 HO295 HO_263009 BK262 HB hq_; have HO292 := n0_; have HO295 := n1_; have HO_263009 := n2_; have BK262 := n3_; have HB := n4_; clear n0_ n1_ n2_ n3_ n4_)))
              (try simp only [Act.put, List.setIfInBounds_toArray, List.set_cons_zero, List.set_cons_succ])
              ((with_reducible refine gate_callee (f := 73) rfl ?_); refine goesL_ (some 119) rfl rfl Try.func73 (by kernel_rfl) rfl #[.int .i64 t296] rfl (by (try simp only [List.map_toArray, List.map_cons, List.map_nil]); first | done | rfl | (simp only [List.length_drop, List.length_take]; rfl)) ?_; (with_reducible refine (word_Put16.calls t296 t297 _ A41.out).mono ?_); rintro e w75 ⟨v298, rfl, ho0, hb⟩; refine ⟨_, rfl, ?_⟩; have n0_ := Aside0.mk (Kd.V_elder' (by (with_reducible repeat (first | apply Kd.V_alloc | apply Kd.V_drewN | apply Kd.V_drew)); exact HO_263009.out) (Kd.R_base ho0) hb); have n1_ := Aside0.mk (Kd.R_elder' (by (with_reducible repeat (first | apply Kd.R_alloc | apply Kd.R_drewN | apply Kd.R_drew)); exact HO292.out) (Kd.R_base ho0) hb); have n2_ := Aside0.mk (Kd.R_lower (Kd.R_new' (Kd.R_newM (M := fun k_ => (w.heap.size ≤ k_)) ho0 (below_size (by repeat (first | (with_reducible first | exact HB.out | apply below_alloc | apply pw_below_drewN | apply below_drew1 | refine below_set ?_ GE262.out) | exact HB.out))) (fun k_ h_ => h_)) (Kd.R_lt (by (with_reducible repeat (first | apply Kd.R_alloc | apply Kd.R_drewN | apply Kd.R_drew)); exact HO292.out))) (below_size (by repeat (first | (with_reducible first | exact HB.out | apply below_alloc | apply pw_below_drewN | apply below_drew1 | refine below_set ?_ GE262.out) | exact HB.out)))); have n3_ := Aside0.mk (blk_below (g := gb262) (o := .cells #[.int .i64 a0_0, .int .i64 a0_1, .bool a0_2, .bool a0_3, .int .i64 a0_4, .int .i64 a0_5, .int .i64 a0_6, .int .u32 a0_7, .int .u32 a0_8, .slice A0_9 l0_9.length c0_9, .slice A0_10 l0_10.length c0_10] 26 (0, 0)) (by (with_reducible repeat (first | refine blk_drewN ?_ _ | refine blk_drew ?_ | refine blk_alloc ?_ _)); exact BK262.out) hb); have n4_ := Aside0.mk (below_step (by repeat (first | (with_reducible first | exact HB.out | apply below_alloc | apply pw_below_drewN | apply below_drew1 | refine below_set ?_ GE262.out) | exact HB.out)) hb); clear HO_263009; clear HO292; clear BK262; clear HB; have HO_263009 := n0_; have HO292 := n1_; have HO299 := n2_; have BK262 := n3_; have HB := n4_; clear n0_ n1_ n2_ n3_ n4_; (try clear hb); (try clear hb2); (try clear hk); (try clear hi); (try clear ho0); obtain ⟨Ao76, co76, eo76⟩ := Kd.R_slice HO299.out; subst eo76; have p300 : 0 ≤ (0 : Int) := (by omega); have q300 : 0 < (t297.length : Int) := of_decide_eq_true (by first | (with_reducible assumption) | assumption); obtain ⟨ad300, e300, hx300_0⟩ := Kd.at_int (Kd.R_reads' HO299.out).2.2 0 p300 q300; cases e300; have qi300 : (0 < t297.length) = True := eq_true (by omega); (try rw [show ((0 : Int)).toNat = 0 from rfl] at hx300_0); (try rw [Addr.add_zero'] at hx300_0); replace p300 := eq_true p300; replace q300 := eq_true q300; have p44 : 0 ≤ (10 : Int) := (by omega); have q44 : (10 : Int) < ((t290.length : Int) : Int) := of_decide_eq_true (by first | (with_reducible assumption) | assumption); have qi44 : (10 < t290.length) = True := eq_true (by omega); obtain ⟨hx44_0, hf44_0⟩ := Kd.R_celln 0 HO292.out (10 : Int) p44 q44; (try rw [show ((10 : Int)).toNat = 10 from rfl] at hx44_0); (try simp only [Nat.reduceMul, Nat.zero_mul, Nat.zero_add, Nat.reduceAdd] at hx44_0); (try rw [show ((10 : Int)).toNat = 10 from rfl] at hf44_0); (try simp only [Nat.reduceMul, Nat.zero_mul, Nat.zero_add, Nat.reduceAdd] at hf44_0); replace p44 := eq_true p44; replace q44 := eq_true q44; obtain ⟨hy77_, hz77_⟩ := Kd.R_celln 0 HO292.out (10 : Int) (by omega) (of_decide_eq_true (by first | (with_reducible assumption) | assumption)); (try simp only [Int.reduceToNat, Int.toNat_zero, Int.toNat_ofNat, Nat.reduceMul, Nat.zero_mul, Nat.zero_add] at hy77_ hz77_); (try rw [show ((10 : Int)).toNat = 10 from rfl] at hy77_); (try rw [show ((10 : Int)).toNat = 10 from rfl] at hz77_); have HP77 := Kd.R_putg HO292.out (10 : Int) (rd t297 0))
              (try simp only [Act.put, List.setIfInBounds_toArray, List.set_cons_zero, List.set_cons_succ])
              ((first | (with_reducible refine gate_builtin (b := .copy) (xs := #[.tmp 115, .tmp 119]) rfl ?_) | skip); refine R_copy2 w.heap.size rfl (.tmp 115) (.tmp 119) 24 5 rfl Try.underlying24 (by kernel_rfl) go44 _ _ 10 _ t290 t297 _ _ (t290.length - 10) (co71 - 10) ?hd ?hdn rfl HO292.out (Kd.R_reads' HO299.out).2.2 ?hys ?hat ?_; (case hd => rfl); (case hdn => omega); (case hys => (have h_ := A41.out; unfold word_Put16.f at h_; cases h_; rfl)); (case hat => omega); intro w78 hw hg hp0_; have hp_ : Kd.R (Kd.int .u8) 5 w78 w.heap.size (fun k_ => (w.heap.size ≤ k_) ∧ some k_ ≠ (.slice (some ad300) t297.length co76 : Value).ownBlock) (.slice (some ⟨go44, 0, none⟩) t290.length co71) y303 := (by rw [Ny303.out, Ny301.out]; exact hp0_); clear HP77 hp0_; have n0_ := Aside0.mk (blk_grown (g := gb262) (o := .cells #[.int .i64 a0_0, .int .i64 a0_1, .bool a0_2, .bool a0_3, .int .i64 a0_4, .int .i64 a0_5, .int .i64 a0_6, .int .u32 a0_7, .int .u32 a0_8, .slice A0_9 l0_9.length c0_9, .slice A0_10 l0_10.length c0_10] 26 (0, 0)) (by (with_reducible repeat (first | refine blk_drewN ?_ _ | refine blk_drew ?_ | refine blk_alloc ?_ _)); exact BK262.out) hg (Kd.R_ne HO292.out BK262.out (by decide))); have n1_ := Aside0.mk (hp_); have n2_ := Aside0.mk (Kd.R_after (v := (.slice (some ⟨go44, 0, none⟩) t290.length co71)) (v1 := (.slice (some ⟨go44, 0, none⟩) t290.length co71)) (ok := (fun k_ => (w.heap.size ≤ k_))) (by (with_reducible repeat (first | apply Kd.R_alloc | apply Kd.R_drewN | apply Kd.R_drew)); exact Kd.R_mono HO299.out (fun _ hk => by first | exact ⟨hk.1.1, hk.2⟩ | exact okw hk)) hg (.inl rfl)); have n3_ := Aside0.mk ((by rw [hw]; exact below_set (below_set (HB.out) GB44.out) GB44.out : Below w.heap.size w w78)); clear BK262; clear HO292; clear HO299; clear HB; have BK262 := n0_; have HO292 := n1_; have HO299 := n2_; have HB := n3_; clear n0_ n1_ n2_ n3_; clear hg hw hp_; have hcz81 := fun j => blk_cell BK262.out j; have hfz81 := fun j => blk_frozen BK262.out j)
              (try simp only [Act.put, List.setIfInBounds_toArray, List.set_cons_zero, List.set_cons_succ])
              go_wp2_with (first | ((with_reducible refine gate_builtin (b := .append) (xs := #[.tmp 121, .tmp 123]) rfl ?_); (try (refine gate_guard (by rfl) ?_; dsimp only)); at_builtin; refine Kd.R_append_rows (Kd.int .u8) (w0 := w) w.heap.size rfl (.tmp 121) (.tmp 123) 24 5 (.int .u8 0) 1 rfl Try.underlying24 info5 rfl (by decide) (by omega) (.slice (some ⟨go44, 0, none⟩) t290.length co71) y303 l0_10 _ _ _ (fun k_ => (w.heap.size ≤ k_) ∧ some k_ ≠ (.slice (some ad300) t297.length co76 : Value).ownBlock) (fun _ => False) rfl rfl ?aO ?aR (fun _ _ h => h) (fun _ h => h.elim) ?aF ?aB ?aS ?aL ?_; (case aR => repeat (first | exact (Kd.C_below HR0_10.out HB.out) | (with_reducible refine Kd.C_alloc ?_ _) | (with_reducible refine Kd.C_drewN ?_ _) | (with_reducible refine Kd.C_drew ?_))); (case aB => exact (by repeat (first | (with_reducible first | exact HB.out | apply below_alloc | apply pw_below_drewN | apply below_drew1 | refine below_set ?_ GE262.out) | exact HB.out))); (case aF => exact (fun k_ hk => by first | exact ⟨(Nat.le_trans (below_size (by repeat (first | (with_reducible first | exact HB.out | apply below_alloc | apply pw_below_drewN | apply below_drew1 | refine below_set ?_ GE262.out) | exact HB.out))) hk), Kd.fresh' (Kd.R_lt (by (with_reducible repeat (first | apply Kd.R_alloc | apply Kd.R_drewN | apply Kd.R_drew)); exact HO299.out)) k_ hk⟩ | exact okw hk)); (case aO => exact (by (with_reducible repeat (first | apply Kd.R_alloc | apply Kd.R_drewN | apply Kd.R_drew)); exact HO292.out)); (case aS => exact (below_size (by repeat (first | (with_reducible first | exact HB.out | apply below_alloc | apply pw_below_drewN | apply below_drew1 | refine below_set ?_ GE262.out) | exact HB.out)))); (case aL => have := LMc48.out; omega); intro v305 w82 ho hb hg hat; rw [← Ny304.out] at ho; have n0_ := Aside0.mk (blk_grown (g := gb262) (o := .cells #[.int .i64 a0_0, .int .i64 a0_1, .bool a0_2, .bool a0_3, .int .i64 a0_4, .int .i64 a0_5, .int .i64 a0_6, .int .u32 a0_7, .int .u32 a0_8, .slice A0_9 l0_9.length c0_9, .slice A0_10 l0_10.length c0_10] 26 (0, 0)) (by (with_reducible repeat (first | refine blk_drewN ?_ _ | refine blk_drew ?_ | refine blk_alloc ?_ _)); exact BK262.out) hg (Kd.R_ne HO292.out BK262.out (by decide))); have n1_ := Aside0.mk (Kd.R_after (ok := (fun k_ => (w.heap.size ≤ k_))) (by (with_reducible repeat (first | apply Kd.R_alloc | apply Kd.R_drewN | apply Kd.R_drew)); exact HO299.out) hg hat); have n2_ := Aside0.mk (hb); have n3_ := Aside0.mk (ho); clear BK262; clear HO299; clear HB; clear HO292; have BK262 := n0_; have HO299 := n1_; have HB := n2_; have HO306 := n3_; clear n0_ n1_ n2_ n3_; clear ho hb hg hat))
              go_ret2
              exact ⟨_, by first | rfl | (simp [errW_none, errW_some] <;> rfl) | (simp [*, errW_none, errW_some] <;> rfl), by (with_reducible repeat (first | apply Kd.R_alloc | apply Kd.R_drewN | apply Kd.R_drew)); exact Kd.R_mono HO306.out (fun _ hk => hk.1), by repeat (first | (with_reducible first | exact HB.out | apply below_alloc | apply pw_below_drewN | apply below_drew1 | refine below_set ?_ GE262.out) | exact HB.out)⟩
             ·rw [if_neg c48] at H
              exact absurd H (by simp)
            ·rw [if_neg c46] at H
             exact absurd H (by simp)
           ·rw [if_neg c45] at H
            exact absurd H (by simp)
          ·rw [if_neg c43] at H
           exact absurd H (by simp)
         ·rw [if_neg c42] at H
          exact absurd H (by simp)

end Go.Proofs.Ytkdibloahkhgoaa.QReplyPackets
