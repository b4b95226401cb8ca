-- written by packetslaw.py, a program of this session's own
import Derived.Test.YtkdibloahkhgoaaQPackInnerx0
import Derived.Test.YtkdibloahkhgoaaQPackInnerx1
import Derived.Test.YtkdibloahkhgoaaQPackInnerx2
import Derived.Test.YtkdibloahkhgoaaQPackInnerx3
import Derived.Test.YtkdibloahkhgoaaQPackInnerx4
import Derived.Test.YtkdibloahkhgoaaQPackInnerx5
import Derived.Test.YtkdibloahkhgoaaQPackInnerx6
import Derived.Test.YtkdibloahkhgoaaQPackInnerx7
import Derived.Test.YtkdibloahkhgoaaQPackInnerx8
import Derived.Test.YtkdibloahkhgoaaQPackInnerx9
import Derived.Test.YtkdibloahkhgoaaQPackInnerx10
import Derived.Test.YtkdibloahkhgoaaQPackInnerx11
import Derived.Test.YtkdibloahkhgoaaQPackInnerx12
import Derived.Test.YtkdibloahkhgoaaQPackInnerx13
import Derived.Test.YtkdibloahkhgoaaQPackInnerx14
namespace Go.Proofs.Ytkdibloahkhgoaa.QPackInner
open Go.RowKit Go.Proofs.YtkdibloahkhgoaaW.PrintWords Go.Proofs.YtkdibloahkhgoaaW.PrintLast Go.Proofs.YtkdibloahkhgoaaW.PrintMore
attribute [local go_sem] max2_int min2_int max_two min_two max_three min_three max_four min_four   -- for this text's walks alone
set_option linter.unusedVariables false
set_option linter.unusedSimpArgs false

/-- what the law's calls answer -/
def castellanlaw8_PackInner.G (k : Nat) (a0_0 : Int) (a0_1 : Int) (a0_2 : Bool) (a0_3 : Bool) (a0_4 : Int) (a0_5 : Int) (a0_6 : Int) (a0_7 : Int) (a0_8 : Int) (l0_9 l0_10 : List Int) (a1 a2 a3 : Int) : Prop :=
 ∃ (b qd m o : List Int) (e0 e1 e8 : Int) (key8 key : Option K5) (q1 q2 : Int) (q3 q4 : Bool) (q5 q6 q7 q8 q9 : Int) (q10 q11 : List Int) (q12 q13 q14 q15 q16 q17 : Int) (x1 x2 : Int) (x3 x4 : Bool) (x5 x6 x7 x8 x9 : Int) (x10 x11 : List Int) (x12 x13 x14 x15 x16 x17 : Int),
  castellanref4_Build.f k a0_0 a0_1 a0_2 a0_3 a0_4 a0_5 a0_6 a0_7 a0_8 l0_9 l0_10 = some (b, e0) ∧ castellanref8_Parse.f k b = some (q1, q2, q3, q4, q5, q6, q7, q8, q9, q10, q11, q12, q13, q14, q15, q16, q17, key8, e8) ∧ 10 < b.length ∧ castellanref7_Quote.f (b.set 10 (Go.bits .xor .u8 (rd b 10) a3)) = some qd ∧ castellanref7_Build.f k 3 1 0 qd = some (m, e1) ∧ castellanref4_Build.f k 0 0 false false 0 9 1 a1 a2 [] m = some (o, 0) ∧ pack_Parse.f k o = some (x1, x2, x3, x4, x5, x6, x7, x8, x9, x10, x11, x12, x13, x14, x15, x16, x17, key, 0) ∧
  ((a0_4 ≠ 0 ∧ key = none) ∨ (a0_4 = 0 ∧ ∃ ka kb : Int, key = some (a0_6, a0_7, a0_8, ka, kb) ∧ (e8 ≠ 0 ∨ (e8 = 0 ∧ a0_6 ≠ 6 ∧ a0_6 ≠ 17) ∨ (e8 = 0 ∧ (a0_6 = 6 ∨ (a0_6 ≠ 6 ∧ a0_6 = 17)) ∧ q7 = a0_6 ∧ q8 = a0_7 ∧ q9 = a0_8 ∧ q13 = ka ∧ q14 = kb))))
def castellanlaw8_PackInner.f (k : Nat) (a0_0 : Int) (a0_1 : Int) (a0_2 : Bool) (a0_3 : Bool) (a0_4 : Int) (a0_5 : Int) (a0_6 : Int) (a0_7 : Int) (a0_8 : Int) (l0_9 l0_10 : List Int) (a1 a2 a3 : Int) : Prop := castellanlaw8_long.f a0_0 a0_1 a0_2 a0_3 a0_4 a0_5 a0_6 a0_7 a0_8 l0_9 l0_10 = some true ∨ (castellanlaw8_long.f a0_0 a0_1 a0_2 a0_3 a0_4 a0_5 a0_6 a0_7 a0_8 l0_9 l0_10 = some false ∧ (castellanref4_Is.f a0_0 a0_1 a0_2 a0_3 a0_4 a0_5 a0_6 a0_7 a0_8 l0_9 l0_10 = some false ∨ (castellanref4_Is.f a0_0 a0_1 a0_2 a0_3 a0_4 a0_5 a0_6 a0_7 a0_8 l0_9 l0_10 = some true ∧ ((l0_10.length : Int) < 8 ∨ (¬ (l0_10.length : Int) < 8 ∧ castellanlaw8_PackInner.G k a0_0 a0_1 a0_2 a0_3 a0_4 a0_5 a0_6 a0_7 a0_8 l0_9 l0_10 a1 a2 a3)))))
/-- a whole struct read from its block -/
theorem exec_load_rowI {P : Program} {a : Act} {o : Oper} {w : World} (ty : TypeId) (x : Operand) (ho : o.op = .load ty x) {g : Nat} (hx : a.eval x = .pointer (some ⟨g, 0, none⟩)) {t : TypeId} {cs : Array Value} {d : TypeDesc} (hg : w.heap[g]? = some (.cells cs t (0, 0))) (hu : P.underlying ty = some d)
  (hd : (match d with | .struct _ | .array _ _ => true | _ => false) = true) (hi : (P.info? ty).map (·.size) = some cs.size) : (execOp a.eval o).run P w = .ok (.value (.agg cs)) w := by
 unfold execOp; simp only [ho, hx, Instr.loadAt, Instr.sureAddr, Sem.run_bind, Sem.run_pure, Result.andThen_ok, run_loadVar_row w g t ty cs (0, 0) d hg hu hd hi]
theorem castellanlaw8_PackInner.eqA (d : Nat) (w : World) (x0 y0 : Int) (x1 y1 : Int) (x2 y2 : Int) (x3 y3 : Int) (x4 y4 : Int) :
  (Op.equalIn (d + 2) 35 (.agg #[.int .i64 x0, .int .u32 x1, .int .u32 x2, .int .i64 x3, .int .i64 x4]) (.agg #[.int .i64 y0, .int .u32 y1, .int .u32 y2, .int .i64 y3, .int .i64 y4])).run Try.prog w = .ok (x0 == y0 && (x1 == y1 && (x2 == y2 && (x3 == y3 && (x4 == y4))))) w := by
 refine eqA_of Try.underlying35 (by kernel_rfl) ?_; refine eqf_cons (by rfl) (by go_simp; rfl) (by go_simp; rfl) (by go_simp) ?_; refine eqf_cons (by rfl) (by go_simp; rfl) (by go_simp; rfl) (by go_simp) ?_; refine eqf_cons (by rfl) (by go_simp; rfl) (by go_simp; rfl) (by go_simp) ?_; refine eqf_cons (by rfl) (by go_simp; rfl) (by go_simp; rfl) (by go_simp) ?_; exact eqf_last (by rfl) (by go_simp; rfl) (by go_simp; rfl) (by go_simp)
attribute [local go_sem high] castellanlaw8_PackInner.eqA
def castellanlaw8_PackInner.T13 : Bool × List (List Nat × List Nat) := (true, [([], []), ([0], [0]), ([1], [1]), ([2], [2]), ([3], [3]), ([4, 3], [3, 4]), ([5, 3], [3, 5]), ([6, 3], [3, 6]), ([7, 3], [3, 7]), ([3], [3]), ([9, 3], [3, 9]), ([8, 10, 3], [3, 8, 10]), ([3, 11], [3, 11]), ([12, 3], [12]), ([13], [13]), ([14, 13], [13, 14]), ([15, 13], [13, 15]), ([16, 13], [13, 16]), ([17, 13], [13, 17]), ([13], [13]), ([19, 13], [13, 19]), ([18, 20, 13], [13, 18, 20]), ([13, 21], [13, 21]), ([22, 13], [22]), ([23], [23]), ([24, 23], [23, 24]), ([25, 23], [23, 25]), ([26, 23], [23, 26]), ([27, 23], [23, 27]), ([23], [23]), ([29, 23], [23, 29]), ([28, 30, 23], [23, 28, 30]), ([23, 31], [23, 31])])
def castellanlaw8_PackInner.B13 : List Nat := [0, 1, 3, 7, 15, 31, 63, 127, 255, 15, 527, 2047, 4095, 8191, 16383, 32767, 65535, 131071, 262143, 16383, 540671, 2097151, 4194303, 8388607, 16777215, 33554431, 67108863, 134217727, 268435455, 16777215, 553648127, 2147483647, 4294967295]
theorem castellanlaw8_PackInner.tab13 : rtab .any (opsOf Try.f9 13) = castellanlaw8_PackInner.T13 := by kernel_rfl
theorem castellanlaw8_PackInner.bits13 : waitsOk castellanlaw8_PackInner.T13.2 castellanlaw8_PackInner.B13 = true := by kernel_rfl
def castellanlaw8_PackInner.T15 : Bool × List (List Nat × List Nat) := (true, [([], []), ([0], [0]), ([1], [1]), ([2], [2]), ([3, 2], [2, 3]), ([4, 2], [2, 4]), ([5, 2, 2], [2, 5]), ([6], [6]), ([7, 6], [6, 7]), ([8, 6], [6, 8]), ([6, 9, 2], [2, 6, 9]), ([2, 10], [2, 10]), ([11, 6], [11]), ([12], [12]), ([13, 12], [12, 13]), ([14, 12], [12, 14]), ([15, 12], [12, 15]), ([12], [12]), ([17, 12, 12], [12, 17]), ([16, 18, 12], [12, 16, 18]), ([12, 19], [12, 19]), ([20, 18], [20]), ([21, 21], [21]), ([21, 22], [21, 22]), ([23, 22, 0, 1, 2, 3, 4, 5, 6, 7, 8, 9, 10, 11, 12, 13, 14, 15, 16, 17, 18, 19, 20, 21, 22, 23], [23])])
def castellanlaw8_PackInner.B15 : List Nat := [0, 1, 3, 7, 15, 31, 63, 127, 255, 511, 1023, 2047, 4095, 8191, 16383, 32767, 65535, 8191, 139263, 524287, 1048575, 2097151, 4194303, 8388607, 16777215]
theorem castellanlaw8_PackInner.tab15 : rtab .any (opsOf Try.f9 15) = castellanlaw8_PackInner.T15 := by kernel_rfl
theorem castellanlaw8_PackInner.bits15 : waitsOk castellanlaw8_PackInner.T15.2 castellanlaw8_PackInner.B15 = true := by kernel_rfl
set_option maxHeartbeats 8000000 in
set_option maxRecDepth 100000 in
theorem castellanlaw8_PackInner.calls (k : Nat) (a0_0 : Int) (a0_1 : Int) (a0_2 : Bool) (a0_3 : Bool) (a0_4 : Int) (a0_5 : Int) (a0_6 : Int) (a0_7 : Int) (a0_8 : Int) (A0_9 : Option Addr) (c0_9 : Nat) (l0_9 : List Int) (A0_10 : Option Addr) (c0_10 : Nat) (l0_10 : List Int) (a1 a2 a3 : Int) (w : World) (hr0_9 : Kd.C (Kd.int .u8) w A0_9 l0_9.length l0_9) (hc0_9 : l0_9.length ≤ c0_9) (hr0_10 : Kd.C (Kd.int .u8) w A0_10 l0_10.length l0_10) (hc0_10 : l0_10.length ≤ c0_10) (h : castellanlaw8_PackInner.f k a0_0 a0_1 a0_2 a0_3 a0_4 a0_5 a0_6 a0_7 a0_8 l0_9 l0_10 a1 a2 a3) :
  Calls Try.prog 9 #[.agg #[.int .i64 a0_0, .int .i64 a0_1, .bool a0_2, .bool a0_3, .int .i64 a0_4, .int .i64 a0_5, .int .i64 a0_6, .int .u32 a0_7, .int .u32 a0_8, .slice A0_9 l0_9.length c0_9, .slice A0_10 l0_10.length c0_10], .int .u32 a1, .int .u32 a2, .int .u8 a3] w fun e w' => e = .returned (.bool true) ∧ Below w.heap.size w w' := by
 have hu26 := Try.underlying26; have hu29 := Try.underlying29; have hu50 := Try.underlying50; have HR9 := Aside0.mk hr0_9; have HC9 := Aside0.mk hc0_9; have HR10 := Aside0.mk hr0_10; have HC10 := Aside0.mk hc0_10; clear hr0_9 hc0_9 hr0_10 hc0_10; have HO := Aside0.mk (Owns.nil w); have HF : True := trivial; unfold castellanlaw8_PackInner.f at h
 rcases h with h | ⟨h1, h⟩
 ·have AL := Aside0.mk h; clear h; go_enter Try.func9, Try.ntmps9
  go_wp2_with (first | ((with_reducible refine gate_dst (N := 4) rfl ?_); refine ow_box HO rfl (N := 4) rfl #[.int .i64 a0_0, .int .i64 a0_1, .bool a0_2, .bool a0_3, .int .i64 a0_4, .int .i64 a0_5, .int .i64 a0_6, .int .u32 a0_7, .int .u32 a0_8, .slice A0_9 l0_9.length c0_9, .slice A0_10 l0_10.length c0_10] 26 ?hr rfl ?_; (case hr => first | (go_simp; done) | (go_simp; rfl)); clear HO HF; intro g4 w1 HO; have HF := HO.out.facts; simp only [OwnsM.Facts, and_true] at HF) | ((with_reducible refine gate_dst (N := 19) rfl ?_); (first | refine ow_load HO rfl 0 rfl 26 _ rfl _ rfl Try.underlying26 rfl (by kernel_rfl) ?_)) | ((with_reducible refine gate_callee (f := 15) rfl ?_); (try (refine gate_guard (by rfl) ?_; dsimp only)); refine goesL_ (some 20) rfl rfl Try.func15 (by kernel_rfl) rfl #[.agg #[.int .i64 a0_0, .int .i64 a0_1, .bool a0_2, .bool a0_3, .int .i64 a0_4, .int .i64 a0_5, .int .i64 a0_6, .int .u32 a0_7, .int .u32 a0_8, .slice A0_9 l0_9.length c0_9, .slice A0_10 l0_10.length c0_10]] rfl (by (try simp only [LmA, LmB, LmC]); first | done | rfl | (simp only [LdA, LtA]; rfl)) ?_; refine (castellanlaw8_long.calls a0_0 a0_1 a0_2 a0_3 a0_4 a0_5 a0_6 a0_7 a0_8 _ _ l0_9 _ _ l0_10 _ _ (HO.out.old HR9.out) HC9.out (HO.out.old HR10.out) HC10.out AL.out).mono ?_; rintro e w1 ⟨rfl, hb1⟩; refine ⟨_, rfl, ?_⟩; replace HO := Aside0.mk (HO.out.step hb1); clear hb1; clear HF; have HF := HO.out.facts; simp only [OwnsM.Facts, and_true] at HF))
  go_ret; exact ⟨rfl, HO.out.below⟩
 have AL := Aside0.mk h1; clear h1
 rcases h with h | ⟨h2, h⟩
 ·have AIS := Aside0.mk h; clear h; go_enter Try.func9, Try.ntmps9
  go_wp2_with (first | ((with_reducible refine gate_dst (N := 4) rfl ?_); refine ow_box HO rfl (N := 4) rfl #[.int .i64 a0_0, .int .i64 a0_1, .bool a0_2, .bool a0_3, .int .i64 a0_4, .int .i64 a0_5, .int .i64 a0_6, .int .u32 a0_7, .int .u32 a0_8, .slice A0_9 l0_9.length c0_9, .slice A0_10 l0_10.length c0_10] 26 ?hr rfl ?_; (case hr => first | (go_simp; done) | (go_simp; rfl)); clear HO HF; intro g4 w1 HO; have HF := HO.out.facts; simp only [OwnsM.Facts, and_true] at HF) | ((with_reducible refine gate_dst (N := 19) rfl ?_); (first | refine ow_load HO rfl 0 rfl 26 _ rfl _ rfl Try.underlying26 rfl (by kernel_rfl) ?_)) | ((with_reducible refine gate_callee (f := 15) rfl ?_); (try (refine gate_guard (by rfl) ?_; dsimp only)); refine goesL_ (some 20) rfl rfl Try.func15 (by kernel_rfl) rfl #[.agg #[.int .i64 a0_0, .int .i64 a0_1, .bool a0_2, .bool a0_3, .int .i64 a0_4, .int .i64 a0_5, .int .i64 a0_6, .int .u32 a0_7, .int .u32 a0_8, .slice A0_9 l0_9.length c0_9, .slice A0_10 l0_10.length c0_10]] rfl (by (try simp only [LmA, LmB, LmC]); first | done | rfl | (simp only [LdA, LtA]; rfl)) ?_; refine (castellanlaw8_long.calls a0_0 a0_1 a0_2 a0_3 a0_4 a0_5 a0_6 a0_7 a0_8 _ _ l0_9 _ _ l0_10 _ _ (HO.out.old HR9.out) HC9.out (HO.out.old HR10.out) HC10.out AL.out).mono ?_; rintro e w1 ⟨rfl, hb1⟩; refine ⟨_, rfl, ?_⟩; replace HO := Aside0.mk (HO.out.step hb1); clear hb1; clear HF; have HF := HO.out.facts; simp only [OwnsM.Facts, and_true] at HF) | ((with_reducible refine gate_dst (N := 22) rfl ?_); (try (refine gate_guard (by rfl) ?_; dsimp only)); (first | refine ow_load HO rfl 0 rfl 26 _ rfl _ rfl Try.underlying26 rfl (by kernel_rfl) ?_)) | ((with_reducible refine gate_callee (f := 25) rfl ?_); (try (refine gate_guard (by rfl) ?_; dsimp only)); refine goesL_ (some 23) rfl rfl Try.func25 (by kernel_rfl) rfl #[.agg #[.int .i64 a0_0, .int .i64 a0_1, .bool a0_2, .bool a0_3, .int .i64 a0_4, .int .i64 a0_5, .int .i64 a0_6, .int .u32 a0_7, .int .u32 a0_8, .slice A0_9 l0_9.length c0_9, .slice A0_10 l0_10.length c0_10]] rfl (by (try simp only [LmA, LmB, LmC]); first | done | rfl | (simp only [LdA, LtA]; rfl)) ?_; refine (castellanref4_Is.calls a0_0 a0_1 a0_2 a0_3 a0_4 a0_5 a0_6 a0_7 a0_8 _ _ l0_9 _ _ l0_10 _ _ (HO.out.old HR9.out) HC9.out (HO.out.old HR10.out) HC10.out AIS.out).mono ?_; rintro e w1 ⟨rfl, hb1⟩; refine ⟨_, rfl, ?_⟩; replace HO := Aside0.mk (HO.out.step hb1); clear hb1; clear HF; have HF := HO.out.facts; simp only [OwnsM.Facts, and_true] at HF))
  go_ret; exact ⟨rfl, HO.out.below⟩
 have AIS := Aside0.mk h2; clear h2
 rcases h with h | ⟨h3, h⟩
 ·skip
  have c3b0 : decide ((l0_10.length : Int) < 8) = true := decide_eq_true h; have c3b1 : decide (l0_10.length < 8) = true := decide_eq_true (by omega); clear h; go_enter Try.func9, Try.ntmps9
  go_wp2_with (first | ((with_reducible refine gate_dst (N := 4) rfl ?_); refine ow_box HO rfl (N := 4) rfl #[.int .i64 a0_0, .int .i64 a0_1, .bool a0_2, .bool a0_3, .int .i64 a0_4, .int .i64 a0_5, .int .i64 a0_6, .int .u32 a0_7, .int .u32 a0_8, .slice A0_9 l0_9.length c0_9, .slice A0_10 l0_10.length c0_10] 26 ?hr rfl ?_; (case hr => first | (go_simp; done) | (go_simp; rfl)); clear HO HF; intro g4 w1 HO; have HF := HO.out.facts; simp only [OwnsM.Facts, and_true] at HF) | ((with_reducible refine gate_dst (N := 19) rfl ?_); (first | refine ow_load HO rfl 0 rfl 26 _ rfl _ rfl Try.underlying26 rfl (by kernel_rfl) ?_)) | ((with_reducible refine gate_callee (f := 15) rfl ?_); (try (refine gate_guard (by rfl) ?_; dsimp only)); refine goesL_ (some 20) rfl rfl Try.func15 (by kernel_rfl) rfl #[.agg #[.int .i64 a0_0, .int .i64 a0_1, .bool a0_2, .bool a0_3, .int .i64 a0_4, .int .i64 a0_5, .int .i64 a0_6, .int .u32 a0_7, .int .u32 a0_8, .slice A0_9 l0_9.length c0_9, .slice A0_10 l0_10.length c0_10]] rfl (by (try simp only [LmA, LmB, LmC]); first | done | rfl | (simp only [LdA, LtA]; rfl)) ?_; refine (castellanlaw8_long.calls a0_0 a0_1 a0_2 a0_3 a0_4 a0_5 a0_6 a0_7 a0_8 _ _ l0_9 _ _ l0_10 _ _ (HO.out.old HR9.out) HC9.out (HO.out.old HR10.out) HC10.out AL.out).mono ?_; rintro e w1 ⟨rfl, hb1⟩; refine ⟨_, rfl, ?_⟩; replace HO := Aside0.mk (HO.out.step hb1); clear hb1; clear HF; have HF := HO.out.facts; simp only [OwnsM.Facts, and_true] at HF) | ((with_reducible refine gate_dst (N := 22) rfl ?_); (try (refine gate_guard (by rfl) ?_; dsimp only)); (first | refine ow_load HO rfl 0 rfl 26 _ rfl _ rfl Try.underlying26 rfl (by kernel_rfl) ?_)) | ((with_reducible refine gate_callee (f := 25) rfl ?_); (try (refine gate_guard (by rfl) ?_; dsimp only)); refine goesL_ (some 23) rfl rfl Try.func25 (by kernel_rfl) rfl #[.agg #[.int .i64 a0_0, .int .i64 a0_1, .bool a0_2, .bool a0_3, .int .i64 a0_4, .int .i64 a0_5, .int .i64 a0_6, .int .u32 a0_7, .int .u32 a0_8, .slice A0_9 l0_9.length c0_9, .slice A0_10 l0_10.length c0_10]] rfl (by (try simp only [LmA, LmB, LmC]); first | done | rfl | (simp only [LdA, LtA]; rfl)) ?_; refine (castellanref4_Is.calls a0_0 a0_1 a0_2 a0_3 a0_4 a0_5 a0_6 a0_7 a0_8 _ _ l0_9 _ _ l0_10 _ _ (HO.out.old HR9.out) HC9.out (HO.out.old HR10.out) HC10.out AIS.out).mono ?_; rintro e w1 ⟨rfl, hb1⟩; refine ⟨_, rfl, ?_⟩; replace HO := Aside0.mk (HO.out.step hb1); clear hb1; clear HF; have HF := HO.out.facts; simp only [OwnsM.Facts, and_true] at HF))
  go_ret; exact ⟨rfl, HO.out.below⟩
 have c3b0 : decide ((l0_10.length : Int) < 8) = false := decide_eq_false h3; have c3b1 : decide (l0_10.length < 8) = false := decide_eq_false (by omega); clear h3; obtain ⟨b, qd, m, o, e0, e1, e8, key8, key, q1, q2, q3, q4, q5, q6, q7, q8, q9, q10, q11, q12, q13, q14, q15, q16, q17, x1, x2, x3, x4, x5, x6, x7, x8, x9, x10, x11, x12, x13, x14, x15, x16, x17, hB, hP, hbl, hQ, hM, hO2, hX, hK⟩ := h; have AB := Aside0.mk hB; have AP := Aside0.mk hP; have ABL := Aside0.mk hbl; have AM := Aside0.mk hM; have AO2 := Aside0.mk hO2; have AX := Aside0.mk hX; have AK_ := Aside0.mk hK
 obtain ⟨b1, hb1_⟩ : ∃ y, b.set 10 (Go.bits .xor .u8 (rd b 10) a3) = y := ⟨_, rfl⟩
 rw [hb1_] at hQ; have hl1 : b.length = b1.length := by rw [← hb1_, List.length_set]
 have AQ := Aside0.mk hQ; have HB1 := Aside0.mk hb1_; have HL1 := Aside0.mk hl1; clear hB hP hbl hQ hM hO2 hX hK hb1_ hl1; have AKN := Aside0.mk (show castellanlaw8_known.f = some true from by decide); go_enter Try.func9, Try.ntmps9
 go_upto_region 5 with (first | ((with_reducible refine gate_dst (N := 4) rfl ?_); refine ow_box HO rfl (N := 4) rfl #[.int .i64 a0_0, .int .i64 a0_1, .bool a0_2, .bool a0_3, .int .i64 a0_4, .int .i64 a0_5, .int .i64 a0_6, .int .u32 a0_7, .int .u32 a0_8, .slice A0_9 l0_9.length c0_9, .slice A0_10 l0_10.length c0_10] 26 ?hr rfl ?_; (case hr => first | (go_simp; done) | (go_simp; rfl)); clear HO HF; intro g4 w1 HO; have HF := HO.out.facts; simp only [OwnsM.Facts, and_true] at HF) | ((with_reducible refine gate_dst (N := 19) rfl ?_); (first | refine ow_load HO rfl 0 rfl 26 _ rfl _ rfl Try.underlying26 rfl (by kernel_rfl) ?_)) | ((with_reducible refine gate_callee (f := 15) rfl ?_); (try (refine gate_guard (by rfl) ?_; dsimp only)); refine goesL_ (some 20) rfl rfl Try.func15 (by kernel_rfl) rfl #[.agg #[.int .i64 a0_0, .int .i64 a0_1, .bool a0_2, .bool a0_3, .int .i64 a0_4, .int .i64 a0_5, .int .i64 a0_6, .int .u32 a0_7, .int .u32 a0_8, .slice A0_9 l0_9.length c0_9, .slice A0_10 l0_10.length c0_10]] rfl (by (try simp only [LmA, LmB, LmC]); first | done | rfl | (simp only [LdA, LtA]; rfl)) ?_; refine (castellanlaw8_long.calls a0_0 a0_1 a0_2 a0_3 a0_4 a0_5 a0_6 a0_7 a0_8 _ _ l0_9 _ _ l0_10 _ _ (HO.out.old HR9.out) HC9.out (HO.out.old HR10.out) HC10.out AL.out).mono ?_; rintro e w1 ⟨rfl, hb1⟩; refine ⟨_, rfl, ?_⟩; replace HO := Aside0.mk (HO.out.step hb1); clear hb1; clear HF; have HF := HO.out.facts; simp only [OwnsM.Facts, and_true] at HF) | ((with_reducible refine gate_dst (N := 22) rfl ?_); (try (refine gate_guard (by rfl) ?_; dsimp only)); (first | refine ow_load HO rfl 0 rfl 26 _ rfl _ rfl Try.underlying26 rfl (by kernel_rfl) ?_)) | ((with_reducible refine gate_callee (f := 25) rfl ?_); (try (refine gate_guard (by rfl) ?_; dsimp only)); refine goesL_ (some 23) rfl rfl Try.func25 (by kernel_rfl) rfl #[.agg #[.int .i64 a0_0, .int .i64 a0_1, .bool a0_2, .bool a0_3, .int .i64 a0_4, .int .i64 a0_5, .int .i64 a0_6, .int .u32 a0_7, .int .u32 a0_8, .slice A0_9 l0_9.length c0_9, .slice A0_10 l0_10.length c0_10]] rfl (by (try simp only [LmA, LmB, LmC]); first | done | rfl | (simp only [LdA, LtA]; rfl)) ?_; refine (castellanref4_Is.calls a0_0 a0_1 a0_2 a0_3 a0_4 a0_5 a0_6 a0_7 a0_8 _ _ l0_9 _ _ l0_10 _ _ (HO.out.old HR9.out) HC9.out (HO.out.old HR10.out) HC10.out AIS.out).mono ?_; rintro e w1 ⟨rfl, hb1⟩; refine ⟨_, rfl, ?_⟩; replace HO := Aside0.mk (HO.out.step hb1); clear hb1; clear HF; have HF := HO.out.facts; simp only [OwnsM.Facts, and_true] at HF) | ((with_reducible refine gate_dst (N := 33) rfl ?_); (first | refine ow_load HO rfl 0 rfl 26 _ rfl _ rfl Try.underlying26 rfl (by kernel_rfl) ?_)) | ((with_reducible refine gate_callee (f := 26) rfl ?_); refine goesL_ (some 34) rfl rfl Try.func26 (by kernel_rfl) rfl #[.agg #[.int .i64 a0_0, .int .i64 a0_1, .bool a0_2, .bool a0_3, .int .i64 a0_4, .int .i64 a0_5, .int .i64 a0_6, .int .u32 a0_7, .int .u32 a0_8, .slice A0_9 l0_9.length c0_9, .slice A0_10 l0_10.length c0_10]] rfl (by (try simp only [LmA, LmB, LmC]); first | done | rfl | (simp only [LdA, LtA]; rfl)) ?_; refine (castellanref4_Build.calls k a0_0 a0_1 a0_2 a0_3 a0_4 a0_5 a0_6 a0_7 a0_8 _ _ l0_9 _ _ l0_10 b e0 _ (HO.out.old HR9.out) HC9.out (HO.out.old HR10.out) HC10.out AB.out).mono ?_; rintro e w1 ⟨v0, rfl, h1, hb1⟩; obtain ⟨Ab, cb, rfl⟩ := Kd.R_slice h1; refine ⟨_, rfl, ?_⟩; replace HO := Aside0.mk (HO.out.call1 hb1 h1); clear h1 hb1; clear HF; have HF := HO.out.facts; simp only [OwnsM.Facts, and_true] at HF) | ((with_reducible refine gate_callee (f := 28) rfl ?_); refine goesL_ (some 39) rfl rfl Try.func28 (by kernel_rfl) rfl #[.slice Ab b.length cb] rfl (by (try simp only [LmA, LmB, LmC]); first | done | rfl | (simp only [LdA, LtA]; rfl)) ?_; refine (castellanref8_Parse.calls k _ _ b q1 q2 q3 q4 q5 q6 q7 q8 q9 q10 q11 q12 q13 q14 q15 q16 q17 key8 e8 _ (HO.out.rd 0 rfl) (HO.out.cap 0 rfl) AP.out).mono ?_; rintro e w1 ⟨v9, v10, vj, rfl, h1, h2, hk, hb1⟩; obtain ⟨Ap, cp, rfl⟩ := Kd.R_slice h1; obtain ⟨Aq, cq, rfl⟩ := Kd.R_slice h2; refine ⟨_, rfl, ?_⟩; replace HO := Aside0.mk (HO.out.call2 hb1 h1 h2); clear h1 h2 hk hb1; clear HF; have HF := HO.out.facts; simp only [OwnsM.Facts, and_true] at HF) | ((with_reducible refine gate_dst (N := 11) rfl ?_); refine ow_box HO rfl (N := 11) rfl #[.int .i64 0, .int .i64 0, .bool false, .bool false, .int .i64 0, .int .i64 0, .int .i64 0, .int .u32 0, .int .u32 0, .slice none 0 0, .slice none 0 0, .int .i64 0, .int .i64 0, .int .i64 0, .int .i64 0, .int .i64 0, .int .i64 0, .pointer none] 29 ?hr rfl ?_; (case hr => first | (go_simp; done) | (go_simp; rfl)); clear HO HF; intro g11 w1 HO; have HF := HO.out.facts; simp only [OwnsM.Facts, and_true] at HF) | ((with_reducible refine gate_store (p := 11) rfl ?_); (first | refine ow_put HO rfl rfl 0 rfl (ty := 29) rfl _ rfl rfl (by kernel_rfl) rfl rfl ?_); clear HO HF; intro w1 HO; simp only [LsB, LsC, LsA] at HO; have HF := HO.out.facts; simp only [OwnsM.Facts, and_true] at HF))
 obtain ⟨gs, cs_, es⟩ := HO.out.rowform 2 rfl (by have := ABL.out; omega); cases es
 have b0_ := (HO.out.rowcell 2 rfl 10 ABL.out)
 have n0_ : (10 < b.length) = True := eq_true ABL.out; have n1_ : ((10 : Int) < (b.length : Int)) = True := eq_true (by have := ABL.out; omega)
 go_upto_region 6 with (first | ((with_reducible refine gate_store (p := 48) rfl ?_); refine ow_putb HO rfl rfl 2 rfl 10 (Go.bits .xor .u8 (rd b 10) a3) ?hr ?_; (case hr => first | (go_simp; done) | (go_simp; rfl)); clear HO HF b0_; intro w1 HO; simp only [LsB, LsC] at HO; rw [HB1.out, HL1.out] at HO; have HF := HO.out.facts; simp only [OwnsM.Facts, and_true] at HF))
 clear n0_ n1_; have hl1 := HL1.out; simp only [hl1]; clear hl1
 rcases AK_.out with ⟨h5, hk⟩ | ⟨h5, ka, kb, hk, h6⟩
 ·subst hk; clear AK_; have h5b0 : (a0_4 == 0) = false := beq_eq_false_iff_ne.mpr h5; have h5b1 : (a0_4 != 0) = true := bne_iff_ne.mpr h5; clear h5
  go_wp2_with (first | ((with_reducible refine gate_callee (f := 37) rfl ?_); refine goesL_ (some 51) rfl rfl Try.func37 (by kernel_rfl) rfl #[.slice (some ⟨gs, 0, none⟩) b1.length cb] rfl (by (try simp only [LmA, LmB, LmC]); first | done | rfl | (simp only [LdA, LtA]; rfl)) ?_; refine (castellanref7_Quote.calls _ _ b1 qd _ (HO.out.rd 2 rfl) (HO.out.cap 2 rfl) AQ.out).mono ?_; rintro e w1 ⟨v0, rfl, h1, hb1⟩; obtain ⟨Az, cz, rfl⟩ := Kd.R_slice h1; refine ⟨_, rfl, ?_⟩; replace HO := Aside0.mk (HO.out.call1 hb1 h1); clear h1 hb1; clear HF; have HF := HO.out.facts; simp only [OwnsM.Facts, and_true] at HF) | ((with_reducible refine gate_callee (f := 36) rfl ?_); refine goesL_ (some 53) rfl rfl Try.func36 (by kernel_rfl) rfl #[.agg #[.int .i64 3, .int .i64 1, .int .u32 0, .slice Az qd.length cz]] rfl (by (try simp only [LmA, LmB, LmC]); first | done | rfl | (simp only [LdA, LtA]; rfl)) ?_; refine (castellanref7_Build.calls k 3 1 0 _ _ qd m e1 _ (HO.out.rd 0 rfl) (HO.out.cap 0 rfl) AM.out).mono ?_; rintro e w1 ⟨v0, rfl, h1, hb1⟩; obtain ⟨Am, cm, rfl⟩ := Kd.R_slice h1; refine ⟨_, rfl, ?_⟩; replace HO := Aside0.mk (HO.out.call1 hb1 h1); clear h1 hb1; clear HF; have HF := HO.out.facts; simp only [OwnsM.Facts, and_true] at HF) | ((with_reducible refine gate_callee (f := 26) rfl ?_); refine goesL_ (some 61) rfl rfl Try.func26 (by kernel_rfl) rfl #[.agg #[.int .i64 0, .int .i64 0, .bool false, .bool false, .int .i64 0, .int .i64 9, .int .i64 1, .int .u32 a1, .int .u32 a2, .slice none 0 0, .slice Am m.length cm]] rfl (by (try simp only [LmA, LmB, LmC]); first | done | rfl | (simp only [LdA, LtA]; rfl)) ?_; refine (castellanref4_Build.calls k 0 0 false false 0 9 1 a1 a2 none 0 [] _ _ m o 0 _ (Kd.C_nil _ _) (Nat.le_refl _) (HO.out.rd 0 rfl) (HO.out.cap 0 rfl) AO2.out).mono ?_; rintro e w1 ⟨v0, rfl, h1, hb1⟩; obtain ⟨Ao, co, rfl⟩ := Kd.R_slice h1; refine ⟨_, rfl, ?_⟩; replace HO := Aside0.mk (HO.out.call1 hb1 h1); clear h1 hb1; clear HF; have HF := HO.out.facts; simp only [OwnsM.Facts, and_true] at HF) | ((with_reducible refine gate_callee (f := 35) rfl ?_); refine goesL_ (some 66) rfl rfl Try.func35 (by kernel_rfl) rfl #[.slice Ao o.length co] rfl (by (try simp only [LmA, LmB, LmC]); first | done | rfl | (simp only [LdA, LtA]; rfl)) ?_; refine (pack_Parse.calls k _ _ o x1 x2 x3 x4 x5 x6 x7 x8 x9 x10 x11 x12 x13 x14 x15 x16 x17 none 0 _ (HO.out.rd 0 rfl) (HO.out.cap 0 rfl) AX.out).mono ?_; rintro e w1 ⟨v9, v10, vi, rfl, h1, h2, hk, hb1⟩; obtain ⟨Ar, cr, rfl⟩ := Kd.R_slice h1; obtain ⟨As, cs, rfl⟩ := Kd.R_slice h2; refine ⟨_, rfl, ?_⟩; obtain rfl : vi = none := hk; replace HO := Aside0.mk (HO.out.call2 hb1 h1 h2); clear h1 h2 hb1; clear HF; have HF := HO.out.facts; simp only [OwnsM.Facts, and_true] at HF) | ((with_reducible refine gate_dst (N := 17) rfl ?_); refine ow_box HO rfl (N := 17) rfl #[.int .i64 0, .int .i64 0, .bool false, .bool false, .int .i64 0, .int .i64 0, .int .i64 0, .int .u32 0, .int .u32 0, .slice none 0 0, .slice none 0 0, .int .i64 0, .int .i64 0, .int .i64 0, .int .i64 0, .int .i64 0, .int .i64 0, .pointer none] 29 ?hr rfl ?_; (case hr => first | (go_simp; done) | (go_simp; rfl)); clear HO HF; intro g17 w1 HO; have HF := HO.out.facts; simp only [OwnsM.Facts, and_true] at HF) | ((with_reducible refine gate_store (p := 17) rfl ?_); (first | refine ow_put HO rfl rfl 0 rfl (ty := 29) rfl _ rfl rfl (by kernel_rfl) rfl rfl ?_); clear HO HF; intro w1 HO; simp only [LsB, LsC, LsA] at HO; have HF := HO.out.facts; simp only [OwnsM.Facts, and_true] at HF) | ((with_reducible refine gate_callee (f := 24) rfl ?_); (try (refine gate_guard (by rfl) ?_; dsimp only)); refine goesL_ (some 82) rfl rfl Try.func24 (by kernel_rfl) rfl #[] rfl (by (try simp only [LmA, LmB, LmC]); first | done | rfl | (simp only [LdA, LtA]; rfl)) ?_; refine (castellanlaw8_known.calls true _ AKN.out).mono ?_; rintro e w1 ⟨rfl, hb1⟩; refine ⟨_, rfl, ?_⟩; replace HO := Aside0.mk (HO.out.step hb1); clear hb1; clear HF; have HF := HO.out.facts; simp only [OwnsM.Facts, and_true] at HF))
  go_ret; exact ⟨rfl, HO.out.below⟩
 subst hk; clear AK_; have h5b0 : (a0_4 == 0) = true := beq_iff_eq.mpr h5; have h5b1 : (a0_4 != 0) = false := bne_eq_false_iff_eq.mpr h5; clear h5; have AH := Aside0.mk h6; clear h6
 go_upto_region 13 with (first | ((with_reducible refine gate_callee (f := 37) rfl ?_); refine goesL_ (some 51) rfl rfl Try.func37 (by kernel_rfl) rfl #[.slice (some ⟨gs, 0, none⟩) b1.length cb] rfl (by (try simp only [LmA, LmB, LmC]); first | done | rfl | (simp only [LdA, LtA]; rfl)) ?_; refine (castellanref7_Quote.calls _ _ b1 qd _ (HO.out.rd 2 rfl) (HO.out.cap 2 rfl) AQ.out).mono ?_; rintro e w1 ⟨v0, rfl, h1, hb1⟩; obtain ⟨Az, cz, rfl⟩ := Kd.R_slice h1; refine ⟨_, rfl, ?_⟩; replace HO := Aside0.mk (HO.out.call1 hb1 h1); clear h1 hb1; clear HF; have HF := HO.out.facts; simp only [OwnsM.Facts, and_true] at HF) | ((with_reducible refine gate_callee (f := 36) rfl ?_); refine goesL_ (some 53) rfl rfl Try.func36 (by kernel_rfl) rfl #[.agg #[.int .i64 3, .int .i64 1, .int .u32 0, .slice Az qd.length cz]] rfl (by (try simp only [LmA, LmB, LmC]); first | done | rfl | (simp only [LdA, LtA]; rfl)) ?_; refine (castellanref7_Build.calls k 3 1 0 _ _ qd m e1 _ (HO.out.rd 0 rfl) (HO.out.cap 0 rfl) AM.out).mono ?_; rintro e w1 ⟨v0, rfl, h1, hb1⟩; obtain ⟨Am, cm, rfl⟩ := Kd.R_slice h1; refine ⟨_, rfl, ?_⟩; replace HO := Aside0.mk (HO.out.call1 hb1 h1); clear h1 hb1; clear HF; have HF := HO.out.facts; simp only [OwnsM.Facts, and_true] at HF) | ((with_reducible refine gate_callee (f := 26) rfl ?_); refine goesL_ (some 61) rfl rfl Try.func26 (by kernel_rfl) rfl #[.agg #[.int .i64 0, .int .i64 0, .bool false, .bool false, .int .i64 0, .int .i64 9, .int .i64 1, .int .u32 a1, .int .u32 a2, .slice none 0 0, .slice Am m.length cm]] rfl (by (try simp only [LmA, LmB, LmC]); first | done | rfl | (simp only [LdA, LtA]; rfl)) ?_; refine (castellanref4_Build.calls k 0 0 false false 0 9 1 a1 a2 none 0 [] _ _ m o 0 _ (Kd.C_nil _ _) (Nat.le_refl _) (HO.out.rd 0 rfl) (HO.out.cap 0 rfl) AO2.out).mono ?_; rintro e w1 ⟨v0, rfl, h1, hb1⟩; obtain ⟨Ao, co, rfl⟩ := Kd.R_slice h1; refine ⟨_, rfl, ?_⟩; replace HO := Aside0.mk (HO.out.call1 hb1 h1); clear h1 hb1; clear HF; have HF := HO.out.facts; simp only [OwnsM.Facts, and_true] at HF) | ((with_reducible refine gate_callee (f := 35) rfl ?_); refine goesL_ (some 66) rfl rfl Try.func35 (by kernel_rfl) rfl #[.slice Ao o.length co] rfl (by (try simp only [LmA, LmB, LmC]); first | done | rfl | (simp only [LdA, LtA]; rfl)) ?_; refine (pack_Parse.calls k _ _ o x1 x2 x3 x4 x5 x6 x7 x8 x9 x10 x11 x12 x13 x14 x15 x16 x17 (some (a0_6, a0_7, a0_8, ka, kb)) 0 _ (HO.out.rd 0 rfl) (HO.out.cap 0 rfl) AX.out).mono ?_; rintro e w1 ⟨v9, v10, vi, rfl, h1, h2, hk, hb1⟩; obtain ⟨Ar, cr, rfl⟩ := Kd.R_slice h1; obtain ⟨As, cs, rfl⟩ := Kd.R_slice h2; refine ⟨_, rfl, ?_⟩; obtain ⟨gk, rfl, hge, hbk⟩ := hk; replace HO := Aside0.mk (HO.out.call2key hb1 h1 h2 hge hbk (by decide)); clear h1 h2 hge hbk hb1; clear HF; have HF := HO.out.facts; simp only [OwnsM.Facts, and_true] at HF) | ((with_reducible refine gate_dst (N := 17) rfl ?_); refine ow_box HO rfl (N := 17) rfl #[.int .i64 0, .int .i64 0, .bool false, .bool false, .int .i64 0, .int .i64 0, .int .i64 0, .int .u32 0, .int .u32 0, .slice none 0 0, .slice none 0 0, .int .i64 0, .int .i64 0, .int .i64 0, .int .i64 0, .int .i64 0, .int .i64 0, .pointer none] 29 ?hr rfl ?_; (case hr => first | (go_simp; done) | (go_simp; rfl)); clear HO HF; intro g17 w1 HO; have HF := HO.out.facts; simp only [OwnsM.Facts, and_true] at HF) | ((with_reducible refine gate_store (p := 17) rfl ?_); (first | refine ow_put HO rfl rfl 0 rfl (ty := 29) rfl _ rfl rfl (by kernel_rfl) rfl rfl ?_); clear HO HF; intro w1 HO; simp only [LsB, LsC, LsA] at HO; have HF := HO.out.facts; simp only [OwnsM.Facts, and_true] at HF))
 have HO1_ := Aside0.mk HO.out.drew; clear HO HF; have HO := HO1_; clear HO1_; refine start_ (n := 33) (S := fun w' => w'.cell? ⟨g17, 17, none⟩ = some (.pointer (some ⟨gk, 0, none⟩)) ∧ w'.cell? ⟨gk, 0, none⟩ = some (.int .i64 a0_6) ∧ w'.cell? ⟨gk, 1, none⟩ = some (.int .u32 a0_7) ∧ w'.cell? ⟨gk, 2, none⟩ = some (.int .u32 a0_8) ∧ w'.cell? ⟨g4, 6, none⟩ = some (.int .i64 a0_6) ∧ w'.cell? ⟨g4, 7, none⟩ = some (.int .u32 a0_7) ∧ w'.cell? ⟨g4, 8, none⟩ = some (.int .u32 a0_8)) (ds := []) (bm 33 0) (by kernel_rfl) rfl rfl ⟨(HO.out.cell 0 17 rfl rfl), (HO.out.cell 1 0 rfl rfl), (HO.out.cell 1 1 rfl rfl), (HO.out.cell 1 2 rfl rfl), (HO.out.cell 3 6 rfl rfl), (HO.out.cell 3 7 rfl rfl), (HO.out.cell 3 8 rfl rfl)⟩ (fun hHeld => ?_); refine with_tabW castellanlaw8_PackInner.tab13 castellanlaw8_PackInner.bits13 (fun HT_ HW_ => ?_)
 generalize w1.drew = w1 at HO hHeld ⊢; refine pure_ (i := 0) (N := some 84) (v := ?_) (a' := ?_) (bm 33 1) rfl rfl (any_of HT_.out (by kernel_rfl)) (fun _ _ _ h => h) (Or.inl ⟨by rfl, ?_⟩) ?_ ?_; rotate_left
 ·intro w'; go_simp; with_reducible rfl
 rotate_left
 ·simp only [Act.put, LsA, LsB, LsC, i64_w, i32_w]; rfl
 refine take_ (i := 1) (N := some 85) (v := ?_) (a' := ?_) (bm 33 3) rfl rfl (take_ofW HT_.out HW_.out (by kernel_rfl)) (fun _ _ _ h => h) (Or.inl ⟨by rfl, ?_⟩) hHeld ?_ ?_; rotate_left
 ·rintro w' ⟨s0, s1, s2, s3, s4, s5, s6⟩; go_simp; with_reducible rfl
 rotate_left
 ·simp only [Act.put, LsA, LsB, LsC, i64_w, i32_w]; rfl
 refine pure_ (i := 2) (N := some 86) (v := ?_) (a' := ?_) (bm 33 7) rfl rfl (any_of HT_.out (by kernel_rfl)) (fun _ _ _ h => h) (Or.inl ⟨by rfl, ?_⟩) ?_ ?_; rotate_left
 ·intro w'; go_simp; with_reducible rfl
 rotate_left
 ·simp only [Act.put, LsA, LsB, LsC, i64_w, i32_w]; rfl
 refine pure_ (i := 3) (N := some 87) (v := ?_) (a' := ?_) (bm 33 15) rfl rfl (any_of HT_.out (by kernel_rfl)) (fun _ _ _ h => h) (Or.inl ⟨by rfl, ?_⟩) ?_ ?_; rotate_left
 ·intro w'; go_simp; with_reducible rfl
 rotate_left
 ·simp only [Act.put, LsA, LsB, LsC, i64_w, i32_w]; rfl
 refine pure_ (i := 4) (N := some 88) (v := ?_) (a' := ?_) (bm 33 31) rfl rfl (any_of HT_.out (by kernel_rfl)) (fun _ _ _ h => h) (Or.inl ⟨by rfl, ?_⟩) ?_ ?_; rotate_left
 ·intro w'; go_simp; with_reducible rfl
 rotate_left
 ·simp only [Act.put, LsA, LsB, LsC, i64_w, i32_w]; rfl
 refine pure_ (i := 9) (N := some 93) (v := ?_) (a' := ?_) (bm 33 543) rfl rfl (any_of HT_.out (by kernel_rfl)) (fun _ _ _ h => h) (Or.inl ⟨by rfl, ?_⟩) ?_ ?_; rotate_left
 ·intro w'; go_simp; with_reducible rfl
 rotate_left
 ·simp only [Act.put, LsA, LsB, LsC, i64_w, i32_w]; rfl
 refine take_ (i := 5) (N := some 89) (v := ?_) (a' := ?_) (bm 33 575) rfl rfl (take_ofW HT_.out HW_.out (by kernel_rfl)) (fun _ _ _ h => h) (Or.inl ⟨by rfl, ?_⟩) hHeld ?_ ?_; rotate_left
 ·rintro w' ⟨s0, s1, s2, s3, s4, s5, s6⟩; go_simp; with_reducible rfl
 rotate_left
 ·simp only [Act.put, LsA, LsB, LsC, i64_w, i32_w]; rfl
 refine pure_ (i := 6) (N := some 90) (v := ?_) (a' := ?_) (bm 33 639) rfl rfl (any_of HT_.out (by kernel_rfl)) (fun _ _ _ h => h) (Or.inl ⟨by rfl, ?_⟩) ?_ ?_; rotate_left
 ·intro w'; go_simp; with_reducible rfl
 rotate_left
 ·simp only [Act.put, LsA, LsB, LsC, i64_w, i32_w]; rfl
 refine pure_ (i := 7) (N := some 91) (v := ?_) (a' := ?_) (bm 33 767) rfl rfl (any_of HT_.out (by kernel_rfl)) (fun _ _ _ h => h) (Or.inl ⟨by rfl, ?_⟩) ?_ ?_; rotate_left
 ·intro w'; go_simp; with_reducible rfl
 rotate_left
 ·simp only [Act.put, LsA, LsB, LsC, i64_w, i32_w]; rfl
 refine take_ (i := 8) (N := some 92) (v := ?_) (a' := ?_) (bm 33 1023) rfl rfl (take_ofW HT_.out HW_.out (by kernel_rfl)) (fun _ _ _ h => h) (Or.inl ⟨by rfl, ?_⟩) hHeld ?_ ?_; rotate_left
 ·rintro w' ⟨s0, s1, s2, s3, s4, s5, s6⟩; go_simp; with_reducible rfl
 rotate_left
 ·simp only [Act.put, LsA, LsB, LsC, i64_w, i32_w]; rfl
 refine take_ (i := 10) (N := some 94) (v := ?_) (a' := ?_) (bm 33 2047) rfl rfl (take_ofW HT_.out HW_.out (by kernel_rfl)) (fun _ _ _ h => h) (Or.inl ⟨by rfl, ?_⟩) hHeld ?_ ?_; rotate_left
 ·rintro w' ⟨s0, s1, s2, s3, s4, s5, s6⟩; go_simp; with_reducible rfl
 rotate_left
 ·simp only [Act.put, LsA, LsB, LsC, i64_w, i32_w]; rfl
 refine pure_ (i := 11) (N := some 95) (v := ?_) (a' := ?_) (bm 33 4095) rfl rfl (any_of HT_.out (by kernel_rfl)) (fun _ _ _ h => h) (Or.inl ⟨by rfl, ?_⟩) ?_ ?_; rotate_left
 ·intro w'; go_simp; with_reducible rfl
 rotate_left
 ·simp only [Act.put, LsA, LsB, LsC, i64_w, i32_w]; rfl
 refine pure_ (i := 12) (N := some 96) (v := ?_) (a' := ?_) (bm 33 8191) rfl rfl (any_of HT_.out (by kernel_rfl)) (fun _ _ _ h => h) (Or.inl ⟨by rfl, ?_⟩) ?_ ?_; rotate_left
 ·intro w'; go_simp; with_reducible rfl
 rotate_left
 ·simp only [Act.put, LsA, LsB, LsC, i64_w, i32_w]; rfl
 refine pure_ (i := 13) (N := some 97) (v := ?_) (a' := ?_) (bm 33 16383) rfl rfl (any_of HT_.out (by kernel_rfl)) (fun _ _ _ h => h) (Or.inl ⟨by rfl, ?_⟩) ?_ ?_; rotate_left
 ·intro w'; go_simp; with_reducible rfl
 rotate_left
 ·simp only [Act.put, LsA, LsB, LsC, i64_w, i32_w]; rfl
 refine pure_ (i := 14) (N := some 98) (v := ?_) (a' := ?_) (bm 33 32767) rfl rfl (any_of HT_.out (by kernel_rfl)) (fun _ _ _ h => h) (Or.inl ⟨by rfl, ?_⟩) ?_ ?_; rotate_left
 ·intro w'; go_simp; with_reducible rfl
 rotate_left
 ·simp only [Act.put, LsA, LsB, LsC, i64_w, i32_w]; rfl
 refine pure_ (i := 19) (N := some 103) (v := ?_) (a' := ?_) (bm 33 557055) rfl rfl (any_of HT_.out (by kernel_rfl)) (fun _ _ _ h => h) (Or.inl ⟨by rfl, ?_⟩) ?_ ?_; rotate_left
 ·intro w'; go_simp; with_reducible rfl
 rotate_left
 ·simp only [Act.put, LsA, LsB, LsC, i64_w, i32_w]; rfl
 refine take_ (i := 15) (N := some 99) (v := ?_) (a' := ?_) (bm 33 589823) rfl rfl (take_ofW HT_.out HW_.out (by kernel_rfl)) (fun _ _ _ h => h) (Or.inl ⟨by rfl, ?_⟩) hHeld ?_ ?_; rotate_left
 ·rintro w' ⟨s0, s1, s2, s3, s4, s5, s6⟩; go_simp; with_reducible rfl
 rotate_left
 ·simp only [Act.put, LsA, LsB, LsC, i64_w, i32_w]; rfl
 refine pure_ (i := 16) (N := some 100) (v := ?_) (a' := ?_) (bm 33 655359) rfl rfl (any_of HT_.out (by kernel_rfl)) (fun _ _ _ h => h) (Or.inl ⟨by rfl, ?_⟩) ?_ ?_; rotate_left
 ·intro w'; go_simp; with_reducible rfl
 rotate_left
 ·simp only [Act.put, LsA, LsB, LsC, i64_w, i32_w]; rfl
 refine pure_ (i := 17) (N := some 101) (v := ?_) (a' := ?_) (bm 33 786431) rfl rfl (any_of HT_.out (by kernel_rfl)) (fun _ _ _ h => h) (Or.inl ⟨by rfl, ?_⟩) ?_ ?_; rotate_left
 ·intro w'; go_simp; with_reducible rfl
 rotate_left
 ·simp only [Act.put, LsA, LsB, LsC, i64_w, i32_w]; rfl
 refine take_ (i := 18) (N := some 102) (v := ?_) (a' := ?_) (bm 33 1048575) rfl rfl (take_ofW HT_.out HW_.out (by kernel_rfl)) (fun _ _ _ h => h) (Or.inl ⟨by rfl, ?_⟩) hHeld ?_ ?_; rotate_left
 ·rintro w' ⟨s0, s1, s2, s3, s4, s5, s6⟩; go_simp; with_reducible rfl
 rotate_left
 ·simp only [Act.put, LsA, LsB, LsC, i64_w, i32_w]; rfl
 refine take_ (i := 20) (N := some 104) (v := ?_) (a' := ?_) (bm 33 2097151) rfl rfl (take_ofW HT_.out HW_.out (by kernel_rfl)) (fun _ _ _ h => h) (Or.inl ⟨by rfl, ?_⟩) hHeld ?_ ?_; rotate_left
 ·rintro w' ⟨s0, s1, s2, s3, s4, s5, s6⟩; go_simp; with_reducible rfl
 rotate_left
 ·simp only [Act.put, LsA, LsB, LsC, i64_w, i32_w]; rfl
 refine pure_ (i := 21) (N := some 105) (v := ?_) (a' := ?_) (bm 33 4194303) rfl rfl (any_of HT_.out (by kernel_rfl)) (fun _ _ _ h => h) (Or.inl ⟨by rfl, ?_⟩) ?_ ?_; rotate_left
 ·intro w'; go_simp; with_reducible rfl
 rotate_left
 ·simp only [Act.put, LsA, LsB, LsC, i64_w, i32_w]; rfl
 refine pure_ (i := 22) (N := some 106) (v := ?_) (a' := ?_) (bm 33 8388607) rfl rfl (any_of HT_.out (by kernel_rfl)) (fun _ _ _ h => h) (Or.inl ⟨by rfl, ?_⟩) ?_ ?_; rotate_left
 ·intro w'; go_simp; with_reducible rfl
 rotate_left
 ·simp only [Act.put, LsA, LsB, LsC, i64_w, i32_w]; rfl
 refine pure_ (i := 23) (N := some 107) (v := ?_) (a' := ?_) (bm 33 16777215) rfl rfl (any_of HT_.out (by kernel_rfl)) (fun _ _ _ h => h) (Or.inl ⟨by rfl, ?_⟩) ?_ ?_; rotate_left
 ·intro w'; go_simp; with_reducible rfl
 rotate_left
 ·simp only [Act.put, LsA, LsB, LsC, i64_w, i32_w]; rfl
 refine pure_ (i := 24) (N := some 108) (v := ?_) (a' := ?_) (bm 33 33554431) rfl rfl (any_of HT_.out (by kernel_rfl)) (fun _ _ _ h => h) (Or.inl ⟨by rfl, ?_⟩) ?_ ?_; rotate_left
 ·intro w'; go_simp; with_reducible rfl
 rotate_left
 ·simp only [Act.put, LsA, LsB, LsC, i64_w, i32_w]; rfl
 refine pure_ (i := 29) (N := some 113) (v := ?_) (a' := ?_) (bm 33 570425343) rfl rfl (any_of HT_.out (by kernel_rfl)) (fun _ _ _ h => h) (Or.inl ⟨by rfl, ?_⟩) ?_ ?_; rotate_left
 ·intro w'; go_simp; with_reducible rfl
 rotate_left
 ·simp only [Act.put, LsA, LsB, LsC, i64_w, i32_w]; rfl
 refine take_ (i := 25) (N := some 109) (v := ?_) (a' := ?_) (bm 33 603979775) rfl rfl (take_ofW HT_.out HW_.out (by kernel_rfl)) (fun _ _ _ h => h) (Or.inl ⟨by rfl, ?_⟩) hHeld ?_ ?_; rotate_left
 ·rintro w' ⟨s0, s1, s2, s3, s4, s5, s6⟩; go_simp; with_reducible rfl
 rotate_left
 ·simp only [Act.put, LsA, LsB, LsC, i64_w, i32_w]; rfl
 refine pure_ (i := 26) (N := some 110) (v := ?_) (a' := ?_) (bm 33 671088639) rfl rfl (any_of HT_.out (by kernel_rfl)) (fun _ _ _ h => h) (Or.inl ⟨by rfl, ?_⟩) ?_ ?_; rotate_left
 ·intro w'; go_simp; with_reducible rfl
 rotate_left
 ·simp only [Act.put, LsA, LsB, LsC, i64_w, i32_w]; rfl
 refine pure_ (i := 27) (N := some 111) (v := ?_) (a' := ?_) (bm 33 805306367) rfl rfl (any_of HT_.out (by kernel_rfl)) (fun _ _ _ h => h) (Or.inl ⟨by rfl, ?_⟩) ?_ ?_; rotate_left
 ·intro w'; go_simp; with_reducible rfl
 rotate_left
 ·simp only [Act.put, LsA, LsB, LsC, i64_w, i32_w]; rfl
 refine take_ (i := 28) (N := some 112) (v := ?_) (a' := ?_) (bm 33 1073741823) rfl rfl (take_ofW HT_.out HW_.out (by kernel_rfl)) (fun _ _ _ h => h) (Or.inl ⟨by rfl, ?_⟩) hHeld ?_ ?_; rotate_left
 ·rintro w' ⟨s0, s1, s2, s3, s4, s5, s6⟩; go_simp; with_reducible rfl
 rotate_left
 ·simp only [Act.put, LsA, LsB, LsC, i64_w, i32_w]; rfl
 refine take_ (i := 30) (N := some 114) (v := ?_) (a' := ?_) (bm 33 2147483647) rfl rfl (take_ofW HT_.out HW_.out (by kernel_rfl)) (fun _ _ _ h => h) (Or.inl ⟨by rfl, ?_⟩) hHeld ?_ ?_; rotate_left
 ·rintro w' ⟨s0, s1, s2, s3, s4, s5, s6⟩; go_simp; with_reducible rfl
 rotate_left
 ·simp only [Act.put, LsA, LsB, LsC, i64_w, i32_w]; rfl
 refine pure_ (i := 31) (N := some 115) (v := ?_) (a' := ?_) (bm 33 4294967295) rfl rfl (any_of HT_.out (by kernel_rfl)) (fun _ _ _ h => h) (Or.inl ⟨by rfl, ?_⟩) ?_ ?_; rotate_left
 ·intro w'; go_simp; with_reducible rfl
 rotate_left
 ·simp only [Act.put, LsA, LsB, LsC, i64_w, i32_w]; rfl
 refine pure_ (i := 32) (N := some 116) (v := ?_) (a' := ?_) (bm 33 8589934591) rfl rfl (any_of HT_.out (by kernel_rfl)) (fun _ _ _ h => h) (Or.inl ⟨by rfl, ?_⟩) ?_ ?_; rotate_left
 ·intro w'; go_simp; with_reducible rfl
 rotate_left
 ·simp only [Act.put, LsA, LsB, LsC, i64_w, i32_w]; rfl
 refine done_ (done_of HT_.out (by kernel_rfl)) ?_; have HF := HO.out.facts; simp only [OwnsM.Facts, and_true] at HF
 rcases AH.out with h6 | ⟨h6, h7, h8⟩ | ⟨h6, h7, h8⟩
 ·clear AH; have h6b0 : (e8 == 0) = false := beq_eq_false_iff_ne.mpr h6; have h6b1 : (e8 != 0) = true := bne_iff_ne.mpr h6; clear h6
  go_upto_region 15 with (fail)
  have HO1_ := Aside0.mk HO.out.drew; clear HO HF; have HO := HO1_; clear HO1_; refine start_ (n := 25) (S := fun w' => w'.cell? ⟨g17, 17, none⟩ = some (.pointer (some ⟨gk, 0, none⟩)) ∧ w'.cell? ⟨g4, 6, none⟩ = some (.int .i64 a0_6) ∧ w'.heap[gk]? = some (.cells #[.int .i64 a0_6, .int .u32 a0_7, .int .u32 a0_8, .int .i64 ka, .int .i64 kb] 35 (0, 0)) ∧ w'.heap[g11]? = some (.cells #[.int .i64 q1, .int .i64 q2, .bool q3, .bool q4, .int .i64 q5, .int .i64 q6, .int .i64 q7, .int .u32 q8, .int .u32 q9, .slice Ap q10.length cp, .slice Aq q11.length cq, .int .i64 q12, .int .i64 q13, .int .i64 q14, .int .i64 q15, .int .i64 q16, .int .i64 q17, .pointer vj] 29 (0, 0))) (ds := [22]) (bm 25 0) (by kernel_rfl) rfl rfl ⟨(HO.out.cell 0 17 rfl rfl), (HO.out.cell 3 6 rfl rfl), (HO.out.at_ 1 rfl), (HO.out.at_ 2 rfl)⟩ (fun hHeld => ?_); refine with_tabW castellanlaw8_PackInner.tab15 castellanlaw8_PackInner.bits15 (fun HT_ HW_ => ?_)
  generalize w1.drew = w1 at HO hHeld ⊢; refine pure_ (i := 0) (N := some 117) (v := ?_) (a' := ?_) (bm 25 1) rfl rfl (any_of HT_.out (by kernel_rfl)) (fun _ _ _ h => h) (Or.inl ⟨by rfl, ?_⟩) ?_ ?_; rotate_left
  ·intro w'; go_simp; with_reducible rfl
  rotate_left
  ·simp only [Act.put, LsA, LsB, LsC, i64_w, i32_w]; rfl
  refine pure_ (i := 1) (N := some 118) (v := ?_) (a' := ?_) (bm 25 3) rfl rfl (any_of HT_.out (by kernel_rfl)) (fun _ _ _ h => h) (Or.inl ⟨by rfl, ?_⟩) ?_ ?_; rotate_left
  ·intro w'; go_simp; with_reducible rfl
  rotate_left
  ·simp only [Act.put, LsA, LsB, LsC, i64_w, i32_w]; rfl
  refine pure_ (i := 2) (N := some 119) (v := ?_) (a' := ?_) (bm 25 7) rfl rfl (any_of HT_.out (by kernel_rfl)) (fun _ _ _ h => h) (Or.inl ⟨by rfl, ?_⟩) ?_ ?_; rotate_left
  ·intro w'; go_simp; with_reducible rfl
  rotate_left
  ·simp only [Act.put, LsA, LsB, LsC, i64_w, i32_w]; rfl
  refine pure_ (i := 3) (N := some 120) (v := undef) (a' := ?_) (bm 25 15) rfl rfl (any_of HT_.out (by kernel_rfl)) (fun _ _ _ h => h) (Or.inr ⟨by rfl, rfl⟩) ?_ ?_; rotate_left
  ·simp only [Act.put, LsA, LsB, LsC, i64_w, i32_w]; rfl
  refine pure_ (i := 4) (N := some 121) (v := undef) (a' := ?_) (bm 25 31) rfl rfl (any_of HT_.out (by kernel_rfl)) (fun _ _ _ h => h) (Or.inr ⟨by rfl, rfl⟩) ?_ ?_; rotate_left
  ·simp only [Act.put, LsA, LsB, LsC, i64_w, i32_w]; rfl
  refine pure_ (i := 5) (N := some 122) (v := undef) (a' := ?_) (bm 25 63) rfl rfl (any_of HT_.out (by kernel_rfl)) (fun _ _ _ h => h) (Or.inr ⟨by rfl, rfl⟩) ?_ ?_; rotate_left
  ·simp only [Act.put, LsA, LsB, LsC, i64_w, i32_w]; rfl
  refine pure_ (i := 6) (N := some 123) (v := undef) (a' := ?_) (bm 25 127) rfl rfl (any_of HT_.out (by kernel_rfl)) (fun _ _ _ h => h) (Or.inr ⟨by rfl, rfl⟩) ?_ ?_; rotate_left
  ·simp only [Act.put, LsA, LsB, LsC, i64_w, i32_w]; rfl
  refine pure_ (i := 7) (N := some 124) (v := undef) (a' := ?_) (bm 25 255) rfl rfl (any_of HT_.out (by kernel_rfl)) (fun _ _ _ h => h) (Or.inr ⟨by rfl, rfl⟩) ?_ ?_; rotate_left
  ·simp only [Act.put, LsA, LsB, LsC, i64_w, i32_w]; rfl
  refine pure_ (i := 8) (N := some 125) (v := undef) (a' := ?_) (bm 25 511) rfl rfl (any_of HT_.out (by kernel_rfl)) (fun _ _ _ h => h) (Or.inr ⟨by rfl, rfl⟩) ?_ ?_; rotate_left
  ·simp only [Act.put, LsA, LsB, LsC, i64_w, i32_w]; rfl
  refine pure_ (i := 9) (N := some 126) (v := undef) (a' := ?_) (bm 25 1023) rfl rfl (any_of HT_.out (by kernel_rfl)) (fun _ _ _ h => h) (Or.inr ⟨by rfl, rfl⟩) ?_ ?_; rotate_left
  ·simp only [Act.put, LsA, LsB, LsC, i64_w, i32_w]; rfl
  refine pure_ (i := 10) (N := some 127) (v := undef) (a' := ?_) (bm 25 2047) rfl rfl (any_of HT_.out (by kernel_rfl)) (fun _ _ _ h => h) (Or.inr ⟨by rfl, rfl⟩) ?_ ?_; rotate_left
  ·simp only [Act.put, LsA, LsB, LsC, i64_w, i32_w]; rfl
  refine pure_ (i := 11) (N := some 128) (v := ?_) (a' := ?_) (bm 25 4095) rfl rfl (any_of HT_.out (by kernel_rfl)) (fun _ _ _ h => h) (Or.inl ⟨by rfl, ?_⟩) ?_ ?_; rotate_left
  ·intro w'; go_simp; with_reducible rfl
  rotate_left
  ·simp only [Act.put, LsA, LsB, LsC, i64_w, i32_w]; rfl
  refine pure_ (i := 12) (N := some 129) (v := ?_) (a' := ?_) (bm 25 8191) rfl rfl (any_of HT_.out (by kernel_rfl)) (fun _ _ _ h => h) (Or.inl ⟨by rfl, ?_⟩) ?_ ?_; rotate_left
  ·intro w'; go_simp; with_reducible rfl
  rotate_left
  ·simp only [Act.put, LsA, LsB, LsC, i64_w, i32_w]; rfl
  refine pure_ (i := 13) (N := some 130) (v := undef) (a' := ?_) (bm 25 16383) rfl rfl (any_of HT_.out (by kernel_rfl)) (fun _ _ _ h => h) (Or.inr ⟨by rfl, rfl⟩) ?_ ?_; rotate_left
  ·simp only [Act.put, LsA, LsB, LsC, i64_w, i32_w]; rfl
  refine pure_ (i := 14) (N := some 131) (v := undef) (a' := ?_) (bm 25 32767) rfl rfl (any_of HT_.out (by kernel_rfl)) (fun _ _ _ h => h) (Or.inr ⟨by rfl, rfl⟩) ?_ ?_; rotate_left
  ·simp only [Act.put, LsA, LsB, LsC, i64_w, i32_w]; rfl
  refine pure_ (i := 15) (N := some 132) (v := undef) (a' := ?_) (bm 25 65535) rfl rfl (any_of HT_.out (by kernel_rfl)) (fun _ _ _ h => h) (Or.inr ⟨by rfl, rfl⟩) ?_ ?_; rotate_left
  ·simp only [Act.put, LsA, LsB, LsC, i64_w, i32_w]; rfl
  refine pure_ (i := 16) (N := some 133) (v := undef) (a' := ?_) (bm 25 131071) rfl rfl (any_of HT_.out (by kernel_rfl)) (fun _ _ _ h => h) (Or.inr ⟨by rfl, rfl⟩) ?_ ?_; rotate_left
  ·simp only [Act.put, LsA, LsB, LsC, i64_w, i32_w]; rfl
  refine pure_ (i := 17) (N := some 134) (v := undef) (a' := ?_) (bm 25 262143) rfl rfl (any_of HT_.out (by kernel_rfl)) (fun _ _ _ h => h) (Or.inr ⟨by rfl, rfl⟩) ?_ ?_; rotate_left
  ·simp only [Act.put, LsA, LsB, LsC, i64_w, i32_w]; rfl
  refine pure_ (i := 18) (N := some 135) (v := undef) (a' := ?_) (bm 25 524287) rfl rfl (any_of HT_.out (by kernel_rfl)) (fun _ _ _ h => h) (Or.inr ⟨by rfl, rfl⟩) ?_ ?_; rotate_left
  ·simp only [Act.put, LsA, LsB, LsC, i64_w, i32_w]; rfl
  refine pure_ (i := 19) (N := some 136) (v := undef) (a' := ?_) (bm 25 1048575) rfl rfl (any_of HT_.out (by kernel_rfl)) (fun _ _ _ h => h) (Or.inr ⟨by rfl, rfl⟩) ?_ ?_; rotate_left
  ·simp only [Act.put, LsA, LsB, LsC, i64_w, i32_w]; rfl
  refine pure_ (i := 20) (N := some 137) (v := ?_) (a' := ?_) (bm 25 2097151) rfl rfl (any_of HT_.out (by kernel_rfl)) (fun _ _ _ h => h) (Or.inl ⟨by rfl, ?_⟩) ?_ ?_; rotate_left
  ·intro w'; go_simp; with_reducible rfl
  rotate_left
  ·simp only [Act.put, LsA, LsB, LsC, i64_w, i32_w]; rfl
  refine pure_ (i := 21) (N := some 138) (v := ?_) (a' := ?_) (bm 25 4194303) rfl rfl (any_of HT_.out (by kernel_rfl)) (fun _ _ _ h => h) (Or.inl ⟨by rfl, ?_⟩) ?_ ?_; rotate_left
  ·intro w'; go_simp; with_reducible rfl
  rotate_left
  ·simp only [Act.put, LsA, LsB, LsC, i64_w, i32_w]; rfl
  refine last_ (i := 22) (N := some 139) (bm 25 8388607) rfl rfl (one_of HT_.out (by kernel_rfl)) (by decide) (fun K hK => ?_); refine goes_ Try.func24 (by kernel_rfl) rfl #[] (by rfl) rfl rfl (by (try simp only [LmA, LmB, LmC]); first | done | rfl | (simp only [LdA, LtA]; rfl)) ?_; refine (castellanlaw8_known.calls true _ AKN.out).mono ?_; rintro e w1 ⟨rfl, hb1⟩; refine ⟨_, rfl, ?_⟩; replace HO := Aside0.mk (HO.out.step hb1); clear hb1; refine hK.out _ _ ?_; clear hK K; refine norm_ (a' := ?_) ?_ ?_; rotate_left
  ·show Act.put _ (some 139) _ = _; simp only [Act.put, LsA, LsB, LsC, i64_w, i32_w]; rfl
  refine pure_ (i := 23) (N := some 140) (v := ?_) (a' := ?_) (bm 25 16777215) rfl rfl (any_of HT_.out (by kernel_rfl)) (fun _ _ _ h => h) (Or.inl ⟨by rfl, ?_⟩) ?_ ?_; rotate_left
  ·intro w'; go_simp; with_reducible rfl
  rotate_left
  ·simp only [Act.put, LsA, LsB, LsC, i64_w, i32_w]; rfl
  refine pure_ (i := 24) (N := some 8) (v := ?_) (a' := ?_) (bm 25 33554431) rfl rfl (any_of HT_.out (by kernel_rfl)) (fun _ _ _ h => h) (Or.inl ⟨by rfl, ?_⟩) ?_ ?_; rotate_left
  ·intro w'; go_simp; with_reducible rfl
  rotate_left
  ·simp only [Act.put, LsA, LsB, LsC, i64_w, i32_w]; rfl
  refine done_ (done_of HT_.out (by kernel_rfl)) ?_; have HF := HO.out.facts; simp only [OwnsM.Facts, and_true] at HF
  go_wp2; go_ret; exact ⟨rfl, HO.out.below⟩
 ·clear AH; have h6b0 : (e8 == 0) = true := beq_iff_eq.mpr h6; have h6b1 : (e8 != 0) = false := bne_eq_false_iff_eq.mpr h6; have h7b0 : (a0_6 == 6) = false := beq_eq_false_iff_ne.mpr h7; have h7b1 : (a0_6 != 6) = true := bne_iff_ne.mpr h7; have h8b0 : (a0_6 == 17) = false := beq_eq_false_iff_ne.mpr h8; have h8b1 : (a0_6 != 17) = true := bne_iff_ne.mpr h8; clear h6 h7 h8
  go_upto_region 15 with (fail)
  have HO1_ := Aside0.mk HO.out.drew; clear HO HF; have HO := HO1_; clear HO1_; refine start_ (n := 25) (S := fun w' => w'.cell? ⟨g17, 17, none⟩ = some (.pointer (some ⟨gk, 0, none⟩)) ∧ w'.cell? ⟨g4, 6, none⟩ = some (.int .i64 a0_6) ∧ w'.heap[gk]? = some (.cells #[.int .i64 a0_6, .int .u32 a0_7, .int .u32 a0_8, .int .i64 ka, .int .i64 kb] 35 (0, 0)) ∧ w'.heap[g11]? = some (.cells #[.int .i64 q1, .int .i64 q2, .bool q3, .bool q4, .int .i64 q5, .int .i64 q6, .int .i64 q7, .int .u32 q8, .int .u32 q9, .slice Ap q10.length cp, .slice Aq q11.length cq, .int .i64 q12, .int .i64 q13, .int .i64 q14, .int .i64 q15, .int .i64 q16, .int .i64 q17, .pointer vj] 29 (0, 0))) (ds := [22]) (bm 25 0) (by kernel_rfl) rfl rfl ⟨(HO.out.cell 0 17 rfl rfl), (HO.out.cell 3 6 rfl rfl), (HO.out.at_ 1 rfl), (HO.out.at_ 2 rfl)⟩ (fun hHeld => ?_); refine with_tabW castellanlaw8_PackInner.tab15 castellanlaw8_PackInner.bits15 (fun HT_ HW_ => ?_)
  generalize w1.drew = w1 at HO hHeld ⊢; refine pure_ (i := 0) (N := some 117) (v := ?_) (a' := ?_) (bm 25 1) rfl rfl (any_of HT_.out (by kernel_rfl)) (fun _ _ _ h => h) (Or.inl ⟨by rfl, ?_⟩) ?_ ?_; rotate_left
  ·intro w'; go_simp; with_reducible rfl
  rotate_left
  ·simp only [Act.put, LsA, LsB, LsC, i64_w, i32_w]; rfl
  refine pure_ (i := 1) (N := some 118) (v := ?_) (a' := ?_) (bm 25 3) rfl rfl (any_of HT_.out (by kernel_rfl)) (fun _ _ _ h => h) (Or.inl ⟨by rfl, ?_⟩) ?_ ?_; rotate_left
  ·intro w'; go_simp; with_reducible rfl
  rotate_left
  ·simp only [Act.put, LsA, LsB, LsC, i64_w, i32_w]; rfl
  refine pure_ (i := 2) (N := some 119) (v := ?_) (a' := ?_) (bm 25 7) rfl rfl (any_of HT_.out (by kernel_rfl)) (fun _ _ _ h => h) (Or.inl ⟨by rfl, ?_⟩) ?_ ?_; rotate_left
  ·intro w'; go_simp; with_reducible rfl
  rotate_left
  ·simp only [Act.put, LsA, LsB, LsC, i64_w, i32_w]; rfl
  refine pure_ (i := 3) (N := some 120) (v := ?_) (a' := ?_) (bm 25 15) rfl rfl (any_of HT_.out (by kernel_rfl)) (fun _ _ _ h => h) (Or.inl ⟨by rfl, ?_⟩) ?_ ?_; rotate_left
  ·intro w'; go_simp; with_reducible rfl
  rotate_left
  ·simp only [Act.put, LsA, LsB, LsC, i64_w, i32_w]; rfl
  refine take_ (i := 4) (N := some 121) (v := ?_) (a' := ?_) (bm 25 31) rfl rfl (take_ofW HT_.out HW_.out (by kernel_rfl)) (fun _ _ _ h => h) (Or.inl ⟨by rfl, ?_⟩) hHeld ?_ ?_; rotate_left
  ·rintro w' ⟨s0, s1, s2, s3⟩; go_simp; with_reducible rfl
  rotate_left
  ·simp only [Act.put, LsA, LsB, LsC, i64_w, i32_w]; rfl
  refine pure_ (i := 5) (N := some 122) (v := ?_) (a' := ?_) (bm 25 63) rfl rfl (any_of HT_.out (by kernel_rfl)) (fun _ _ _ h => h) (Or.inl ⟨by rfl, ?_⟩) ?_ ?_; rotate_left
  ·intro w'; go_simp; with_reducible rfl
  rotate_left
  ·simp only [Act.put, LsA, LsB, LsC, i64_w, i32_w]; rfl
  refine pure_ (i := 6) (N := some 123) (v := ?_) (a' := ?_) (bm 25 127) rfl rfl (any_of HT_.out (by kernel_rfl)) (fun _ _ _ h => h) (Or.inl ⟨by rfl, ?_⟩) ?_ ?_; rotate_left
  ·intro w'; go_simp; with_reducible rfl
  rotate_left
  ·simp only [Act.put, LsA, LsB, LsC, i64_w, i32_w]; rfl
  refine pure_ (i := 7) (N := some 124) (v := ?_) (a' := ?_) (bm 25 255) rfl rfl (any_of HT_.out (by kernel_rfl)) (fun _ _ _ h => h) (Or.inl ⟨by rfl, ?_⟩) ?_ ?_; rotate_left
  ·intro w'; go_simp; with_reducible rfl
  rotate_left
  ·simp only [Act.put, LsA, LsB, LsC, i64_w, i32_w]; rfl
  refine take_ (i := 8) (N := some 125) (v := ?_) (a' := ?_) (bm 25 511) rfl rfl (take_ofW HT_.out HW_.out (by kernel_rfl)) (fun _ _ _ h => h) (Or.inl ⟨by rfl, ?_⟩) hHeld ?_ ?_; rotate_left
  ·rintro w' ⟨s0, s1, s2, s3⟩; go_simp; with_reducible rfl
  rotate_left
  ·simp only [Act.put, LsA, LsB, LsC, i64_w, i32_w]; rfl
  refine pure_ (i := 9) (N := some 126) (v := ?_) (a' := ?_) (bm 25 1023) rfl rfl (any_of HT_.out (by kernel_rfl)) (fun _ _ _ h => h) (Or.inl ⟨by rfl, ?_⟩) ?_ ?_; rotate_left
  ·intro w'; go_simp; with_reducible rfl
  rotate_left
  ·simp only [Act.put, LsA, LsB, LsC, i64_w, i32_w]; rfl
  refine pure_ (i := 10) (N := some 127) (v := ?_) (a' := ?_) (bm 25 2047) rfl rfl (any_of HT_.out (by kernel_rfl)) (fun _ _ _ h => h) (Or.inl ⟨by rfl, ?_⟩) ?_ ?_; rotate_left
  ·intro w'; go_simp; with_reducible rfl
  rotate_left
  ·simp only [Act.put, LsA, LsB, LsC, i64_w, i32_w]; rfl
  refine pure_ (i := 11) (N := some 128) (v := ?_) (a' := ?_) (bm 25 4095) rfl rfl (any_of HT_.out (by kernel_rfl)) (fun _ _ _ h => h) (Or.inl ⟨by rfl, ?_⟩) ?_ ?_; rotate_left
  ·intro w'; go_simp; with_reducible rfl
  rotate_left
  ·simp only [Act.put, LsA, LsB, LsC, i64_w, i32_w]; rfl
  refine pure_ (i := 12) (N := some 129) (v := ?_) (a' := ?_) (bm 25 8191) rfl rfl (any_of HT_.out (by kernel_rfl)) (fun _ _ _ h => h) (Or.inl ⟨by rfl, ?_⟩) ?_ ?_; rotate_left
  ·intro w'; go_simp; with_reducible rfl
  rotate_left
  ·simp only [Act.put, LsA, LsB, LsC, i64_w, i32_w]; rfl
  refine pure_ (i := 13) (N := some 130) (v := undef) (a' := ?_) (bm 25 16383) rfl rfl (any_of HT_.out (by kernel_rfl)) (fun _ _ _ h => h) (Or.inr ⟨by rfl, rfl⟩) ?_ ?_; rotate_left
  ·simp only [Act.put, LsA, LsB, LsC, i64_w, i32_w]; rfl
  refine pure_ (i := 14) (N := some 131) (v := undef) (a' := ?_) (bm 25 32767) rfl rfl (any_of HT_.out (by kernel_rfl)) (fun _ _ _ h => h) (Or.inr ⟨by rfl, rfl⟩) ?_ ?_; rotate_left
  ·simp only [Act.put, LsA, LsB, LsC, i64_w, i32_w]; rfl
  refine pure_ (i := 15) (N := some 132) (v := undef) (a' := ?_) (bm 25 65535) rfl rfl (any_of HT_.out (by kernel_rfl)) (fun _ _ _ h => h) (Or.inr ⟨by rfl, rfl⟩) ?_ ?_; rotate_left
  ·simp only [Act.put, LsA, LsB, LsC, i64_w, i32_w]; rfl
  refine pure_ (i := 16) (N := some 133) (v := undef) (a' := ?_) (bm 25 131071) rfl rfl (any_of HT_.out (by kernel_rfl)) (fun _ _ _ h => h) (Or.inr ⟨by rfl, rfl⟩) ?_ ?_; rotate_left
  ·simp only [Act.put, LsA, LsB, LsC, i64_w, i32_w]; rfl
  refine pure_ (i := 17) (N := some 134) (v := undef) (a' := ?_) (bm 25 262143) rfl rfl (any_of HT_.out (by kernel_rfl)) (fun _ _ _ h => h) (Or.inr ⟨by rfl, rfl⟩) ?_ ?_; rotate_left
  ·simp only [Act.put, LsA, LsB, LsC, i64_w, i32_w]; rfl
  refine pure_ (i := 18) (N := some 135) (v := undef) (a' := ?_) (bm 25 524287) rfl rfl (any_of HT_.out (by kernel_rfl)) (fun _ _ _ h => h) (Or.inr ⟨by rfl, rfl⟩) ?_ ?_; rotate_left
  ·simp only [Act.put, LsA, LsB, LsC, i64_w, i32_w]; rfl
  refine pure_ (i := 19) (N := some 136) (v := undef) (a' := ?_) (bm 25 1048575) rfl rfl (any_of HT_.out (by kernel_rfl)) (fun _ _ _ h => h) (Or.inr ⟨by rfl, rfl⟩) ?_ ?_; rotate_left
  ·simp only [Act.put, LsA, LsB, LsC, i64_w, i32_w]; rfl
  refine pure_ (i := 20) (N := some 137) (v := ?_) (a' := ?_) (bm 25 2097151) rfl rfl (any_of HT_.out (by kernel_rfl)) (fun _ _ _ h => h) (Or.inl ⟨by rfl, ?_⟩) ?_ ?_; rotate_left
  ·intro w'; go_simp; with_reducible rfl
  rotate_left
  ·simp only [Act.put, LsA, LsB, LsC, i64_w, i32_w]; rfl
  refine pure_ (i := 21) (N := some 138) (v := ?_) (a' := ?_) (bm 25 4194303) rfl rfl (any_of HT_.out (by kernel_rfl)) (fun _ _ _ h => h) (Or.inl ⟨by rfl, ?_⟩) ?_ ?_; rotate_left
  ·intro w'; go_simp; with_reducible rfl
  rotate_left
  ·simp only [Act.put, LsA, LsB, LsC, i64_w, i32_w]; rfl
  refine last_ (i := 22) (N := some 139) (bm 25 8388607) rfl rfl (one_of HT_.out (by kernel_rfl)) (by decide) (fun K hK => ?_); refine goes_ Try.func24 (by kernel_rfl) rfl #[] (by rfl) rfl rfl (by (try simp only [LmA, LmB, LmC]); first | done | rfl | (simp only [LdA, LtA]; rfl)) ?_; refine (castellanlaw8_known.calls true _ AKN.out).mono ?_; rintro e w1 ⟨rfl, hb1⟩; refine ⟨_, rfl, ?_⟩; replace HO := Aside0.mk (HO.out.step hb1); clear hb1; refine hK.out _ _ ?_; clear hK K; refine norm_ (a' := ?_) ?_ ?_; rotate_left
  ·show Act.put _ (some 139) _ = _; simp only [Act.put, LsA, LsB, LsC, i64_w, i32_w]; rfl
  refine pure_ (i := 23) (N := some 140) (v := ?_) (a' := ?_) (bm 25 16777215) rfl rfl (any_of HT_.out (by kernel_rfl)) (fun _ _ _ h => h) (Or.inl ⟨by rfl, ?_⟩) ?_ ?_; rotate_left
  ·intro w'; go_simp; with_reducible rfl
  rotate_left
  ·simp only [Act.put, LsA, LsB, LsC, i64_w, i32_w]; rfl
  refine pure_ (i := 24) (N := some 8) (v := ?_) (a' := ?_) (bm 25 33554431) rfl rfl (any_of HT_.out (by kernel_rfl)) (fun _ _ _ h => h) (Or.inl ⟨by rfl, ?_⟩) ?_ ?_; rotate_left
  ·intro w'; go_simp; with_reducible rfl
  rotate_left
  ·simp only [Act.put, LsA, LsB, LsC, i64_w, i32_w]; rfl
  refine done_ (done_of HT_.out (by kernel_rfl)) ?_; have HF := HO.out.facts; simp only [OwnsM.Facts, and_true] at HF
  go_wp2; go_ret; exact ⟨rfl, HO.out.below⟩
 ·clear AH; have h6b0 : (e8 == 0) = true := beq_iff_eq.mpr h6; have h6b1 : (e8 != 0) = false := bne_eq_false_iff_eq.mpr h6; clear h6; obtain ⟨rfl, rfl, rfl, rfl, rfl⟩ := h8
  rcases h7 with h7 | ⟨h7, h8⟩
  ·skip
   have h7b0 : (q7 == 6) = true := beq_iff_eq.mpr h7; have h7b1 : (q7 != 6) = false := bne_eq_false_iff_eq.mpr h7; clear h7
   go_upto_region 15 with (fail)
   have HO1_ := Aside0.mk HO.out.drew; clear HO HF; have HO := HO1_; clear HO1_; refine start_ (n := 25) (S := fun w' => w'.cell? ⟨g17, 17, none⟩ = some (.pointer (some ⟨gk, 0, none⟩)) ∧ w'.cell? ⟨g4, 6, none⟩ = some (.int .i64 q7) ∧ w'.heap[gk]? = some (.cells #[.int .i64 q7, .int .u32 q8, .int .u32 q9, .int .i64 q13, .int .i64 q14] 35 (0, 0)) ∧ w'.heap[g11]? = some (.cells #[.int .i64 q1, .int .i64 q2, .bool q3, .bool q4, .int .i64 q5, .int .i64 q6, .int .i64 q7, .int .u32 q8, .int .u32 q9, .slice Ap q10.length cp, .slice Aq q11.length cq, .int .i64 q12, .int .i64 q13, .int .i64 q14, .int .i64 q15, .int .i64 q16, .int .i64 q17, .pointer vj] 29 (0, 0))) (ds := [22]) (bm 25 0) (by kernel_rfl) rfl rfl ⟨(HO.out.cell 0 17 rfl rfl), (HO.out.cell 3 6 rfl rfl), (HO.out.at_ 1 rfl), (HO.out.at_ 2 rfl)⟩ (fun hHeld => ?_); refine with_tabW castellanlaw8_PackInner.tab15 castellanlaw8_PackInner.bits15 (fun HT_ HW_ => ?_)
   generalize w1.drew = w1 at HO hHeld ⊢; refine pure_ (i := 0) (N := some 117) (v := ?_) (a' := ?_) (bm 25 1) rfl rfl (any_of HT_.out (by kernel_rfl)) (fun _ _ _ h => h) (Or.inl ⟨by rfl, ?_⟩) ?_ ?_; rotate_left
   ·intro w'; go_simp; with_reducible rfl
   rotate_left
   ·simp only [Act.put, LsA, LsB, LsC, i64_w, i32_w]; rfl
   refine pure_ (i := 1) (N := some 118) (v := ?_) (a' := ?_) (bm 25 3) rfl rfl (any_of HT_.out (by kernel_rfl)) (fun _ _ _ h => h) (Or.inl ⟨by rfl, ?_⟩) ?_ ?_; rotate_left
   ·intro w'; go_simp; with_reducible rfl
   rotate_left
   ·simp only [Act.put, LsA, LsB, LsC, i64_w, i32_w]; rfl
   refine pure_ (i := 2) (N := some 119) (v := ?_) (a' := ?_) (bm 25 7) rfl rfl (any_of HT_.out (by kernel_rfl)) (fun _ _ _ h => h) (Or.inl ⟨by rfl, ?_⟩) ?_ ?_; rotate_left
   ·intro w'; go_simp; with_reducible rfl
   rotate_left
   ·simp only [Act.put, LsA, LsB, LsC, i64_w, i32_w]; rfl
   refine pure_ (i := 3) (N := some 120) (v := ?_) (a' := ?_) (bm 25 15) rfl rfl (any_of HT_.out (by kernel_rfl)) (fun _ _ _ h => h) (Or.inl ⟨by rfl, ?_⟩) ?_ ?_; rotate_left
   ·intro w'; go_simp; with_reducible rfl
   rotate_left
   ·simp only [Act.put, LsA, LsB, LsC, i64_w, i32_w]; rfl
   refine take_ (i := 4) (N := some 121) (v := ?_) (a' := ?_) (bm 25 31) rfl rfl (take_ofW HT_.out HW_.out (by kernel_rfl)) (fun _ _ _ h => h) (Or.inl ⟨by rfl, ?_⟩) hHeld ?_ ?_; rotate_left
   ·rintro w' ⟨s0, s1, s2, s3⟩; go_simp; with_reducible rfl
   rotate_left
   ·simp only [Act.put, LsA, LsB, LsC, i64_w, i32_w]; rfl
   refine pure_ (i := 5) (N := some 122) (v := ?_) (a' := ?_) (bm 25 63) rfl rfl (any_of HT_.out (by kernel_rfl)) (fun _ _ _ h => h) (Or.inl ⟨by rfl, ?_⟩) ?_ ?_; rotate_left
   ·intro w'; go_simp; with_reducible rfl
   rotate_left
   ·simp only [Act.put, LsA, LsB, LsC, i64_w, i32_w]; rfl
   refine pure_ (i := 6) (N := some 123) (v := ?_) (a' := ?_) (bm 25 127) rfl rfl (any_of HT_.out (by kernel_rfl)) (fun _ _ _ h => h) (Or.inl ⟨by rfl, ?_⟩) ?_ ?_; rotate_left
   ·intro w'; go_simp; with_reducible rfl
   rotate_left
   ·simp only [Act.put, LsA, LsB, LsC, i64_w, i32_w]; rfl
   refine pure_ (i := 7) (N := some 124) (v := undef) (a' := ?_) (bm 25 255) rfl rfl (any_of HT_.out (by kernel_rfl)) (fun _ _ _ h => h) (Or.inr ⟨by rfl, rfl⟩) ?_ ?_; rotate_left
   ·simp only [Act.put, LsA, LsB, LsC, i64_w, i32_w]; rfl
   refine pure_ (i := 8) (N := some 125) (v := undef) (a' := ?_) (bm 25 511) rfl rfl (any_of HT_.out (by kernel_rfl)) (fun _ _ _ h => h) (Or.inr ⟨by rfl, rfl⟩) ?_ ?_; rotate_left
   ·simp only [Act.put, LsA, LsB, LsC, i64_w, i32_w]; rfl
   refine pure_ (i := 9) (N := some 126) (v := undef) (a' := ?_) (bm 25 1023) rfl rfl (any_of HT_.out (by kernel_rfl)) (fun _ _ _ h => h) (Or.inr ⟨by rfl, rfl⟩) ?_ ?_; rotate_left
   ·simp only [Act.put, LsA, LsB, LsC, i64_w, i32_w]; rfl
   refine pure_ (i := 10) (N := some 127) (v := ?_) (a' := ?_) (bm 25 2047) rfl rfl (any_of HT_.out (by kernel_rfl)) (fun _ _ _ h => h) (Or.inl ⟨by rfl, ?_⟩) ?_ ?_; rotate_left
   ·intro w'; go_simp; with_reducible rfl
   rotate_left
   ·simp only [Act.put, LsA, LsB, LsC, i64_w, i32_w]; rfl
   refine pure_ (i := 11) (N := some 128) (v := ?_) (a' := ?_) (bm 25 4095) rfl rfl (any_of HT_.out (by kernel_rfl)) (fun _ _ _ h => h) (Or.inl ⟨by rfl, ?_⟩) ?_ ?_; rotate_left
   ·intro w'; go_simp; with_reducible rfl
   rotate_left
   ·simp only [Act.put, LsA, LsB, LsC, i64_w, i32_w]; rfl
   refine pure_ (i := 12) (N := some 129) (v := ?_) (a' := ?_) (bm 25 8191) rfl rfl (any_of HT_.out (by kernel_rfl)) (fun _ _ _ h => h) (Or.inl ⟨by rfl, ?_⟩) ?_ ?_; rotate_left
   ·intro w'; go_simp; with_reducible rfl
   rotate_left
   ·simp only [Act.put, LsA, LsB, LsC, i64_w, i32_w]; rfl
   refine pure_ (i := 13) (N := some 130) (v := ?_) (a' := ?_) (bm 25 16383) rfl rfl (any_of HT_.out (by kernel_rfl)) (fun _ _ _ h => h) (Or.inl ⟨by rfl, ?_⟩) ?_ ?_; rotate_left
   ·intro w'; go_simp; with_reducible rfl
   rotate_left
   ·simp only [Act.put, LsA, LsB, LsC, i64_w, i32_w]; rfl
   refine take_ (i := 14) (N := some 131) (v := ?_) (a' := ?_) (bm 25 32767) rfl rfl (take_ofW HT_.out HW_.out (by kernel_rfl)) (fun _ _ _ h => h) (Or.inl ⟨by rfl, ?_⟩) hHeld ?_ ?_; rotate_left
   ·rintro w' ⟨s0, s1, s2, s3⟩; go_simp; with_reducible rfl
   rotate_left
   ·simp only [Act.put, LsA, LsB, LsC, i64_w, i32_w]; rfl
   refine pure_ (i := 15) (N := some 132) (v := ?_) (a' := ?_) (bm 25 65535) rfl rfl (any_of HT_.out (by kernel_rfl)) (fun _ _ _ h => h) (Or.inl ⟨by rfl, ?_⟩) ?_ ?_; rotate_left
   ·intro w'; go_simp; with_reducible rfl
   rotate_left
   ·simp only [Act.put, LsA, LsB, LsC, i64_w, i32_w]; rfl
   refine take_ (i := 16) (N := some 133) (v := ?_) (a' := ?_) (bm 25 131071) rfl rfl (take_ofW HT_.out HW_.out (by kernel_rfl)) (fun _ _ _ h => h) (Or.inl ⟨by rfl, ?_⟩) hHeld ?_ ?_; rotate_left
   ·rintro w' ⟨s0, s1, s2, s3⟩; refine exec_load_rowI 35 (.tmp 132) ?ho ?hx s2 Try.underlying35 rfl ?hi
    case ho => rfl
    case hx => rfl
    case hi => kernel_rfl
   rotate_left
   ·simp only [Act.put, LsA, LsB, LsC, i64_w, i32_w]; rfl
   refine take_ (i := 17) (N := some 134) (v := ?_) (a' := ?_) (bm 25 262143) rfl rfl (take_ofW HT_.out HW_.out (by kernel_rfl)) (fun _ _ _ h => h) (Or.inl ⟨by rfl, ?_⟩) hHeld ?_ ?_; rotate_left
   ·rintro w' ⟨s0, s1, s2, s3⟩; refine exec_load_rowI 29 (.tmp 11) ?ho ?hx s3 Try.underlying29 rfl ?hi
    case ho => rfl
    case hx => rfl
    case hi => kernel_rfl
   rotate_left
   ·simp only [Act.put, LsA, LsB, LsC, i64_w, i32_w]; rfl
   refine one_ (i := 18) (N := some 135) (bm 25 524287) rfl rfl (one_of HT_.out (by kernel_rfl)) (by decide) (fun K hK => ?_); refine goes_ Try.func17 (by kernel_rfl) rfl #[.agg #[.int .i64 q1, .int .i64 q2, .bool q3, .bool q4, .int .i64 q5, .int .i64 q6, .int .i64 q7, .int .u32 q8, .int .u32 q9, .slice Ap q10.length cp, .slice Aq q11.length cq, .int .i64 q12, .int .i64 q13, .int .i64 q14, .int .i64 q15, .int .i64 q16, .int .i64 q17, .pointer vj]] (by rfl) rfl rfl (by (try simp only [LmA, LmB, LmC]); first | done | rfl | (simp only [LdA, LtA]; rfl)) ?_; refine (castellanref8_KeyOf.calls q1 q2 q3 q4 q5 q6 q7 q8 q9 _ _ q10 _ _ q11 q12 q13 q14 q15 q16 q17 vj q7 q8 q9 q13 q14 _ (HO.out.rd 6 rfl) (HO.out.cap 6 rfl) (HO.out.rd 5 rfl) (HO.out.cap 5 rfl) rfl).mono ?_; rintro e w1 ⟨rfl, hb1⟩; refine ⟨_, rfl, ?_⟩; replace HO := Aside0.mk (HO.out.step hb1); clear hb1; refine hK.out _ _ ⟨(HO.out.cell 0 17 rfl rfl), (HO.out.cell 3 6 rfl rfl), (HO.out.at_ 1 rfl), (HO.out.at_ 2 rfl)⟩ (fun hHeld => ?_); clear hK K; refine norm_ (a' := ?_) ?_ ?_; rotate_left
   ·show Act.put _ (some 135) _ = _; simp only [Act.put, LsA, LsB, LsC, i64_w, i32_w]; rfl
   refine pure_ (i := 19) (N := some 136) (v := ?_) (a' := ?_) (bm 25 1048575) rfl rfl (any_of HT_.out (by kernel_rfl)) (fun _ _ _ h => h) (Or.inl ⟨by rfl, ?_⟩) ?_ ?_; rotate_left
   ·intro w'; go_simp; with_reducible rfl
   rotate_left
   ·simp only [Act.put, LsA, LsB, LsC, i64_w, i32_w]; rfl
   refine pure_ (i := 20) (N := some 137) (v := ?_) (a' := ?_) (bm 25 2097151) rfl rfl (any_of HT_.out (by kernel_rfl)) (fun _ _ _ h => h) (Or.inl ⟨by rfl, ?_⟩) ?_ ?_; rotate_left
   ·intro w'; go_simp; with_reducible rfl
   rotate_left
   ·simp only [Act.put, LsA, LsB, LsC, i64_w, i32_w]; rfl
   refine pure_ (i := 21) (N := some 138) (v := ?_) (a' := ?_) (bm 25 4194303) rfl rfl (any_of HT_.out (by kernel_rfl)) (fun _ _ _ h => h) (Or.inl ⟨by rfl, ?_⟩) ?_ ?_; rotate_left
   ·intro w'; go_simp; with_reducible rfl
   rotate_left
   ·simp only [Act.put, LsA, LsB, LsC, i64_w, i32_w]; rfl
   refine last_ (i := 22) (N := some 139) (bm 25 8388607) rfl rfl (one_of HT_.out (by kernel_rfl)) (by decide) (fun K hK => ?_); refine goes_ Try.func24 (by kernel_rfl) rfl #[] (by rfl) rfl rfl (by (try simp only [LmA, LmB, LmC]); first | done | rfl | (simp only [LdA, LtA]; rfl)) ?_; refine (castellanlaw8_known.calls true _ AKN.out).mono ?_; rintro e w1 ⟨rfl, hb1⟩; refine ⟨_, rfl, ?_⟩; replace HO := Aside0.mk (HO.out.step hb1); clear hb1; refine hK.out _ _ ?_; clear hK K; refine norm_ (a' := ?_) ?_ ?_; rotate_left
   ·show Act.put _ (some 139) _ = _; simp only [Act.put, LsA, LsB, LsC, i64_w, i32_w]; rfl
   refine pure_ (i := 23) (N := some 140) (v := ?_) (a' := ?_) (bm 25 16777215) rfl rfl (any_of HT_.out (by kernel_rfl)) (fun _ _ _ h => h) (Or.inl ⟨by rfl, ?_⟩) ?_ ?_; rotate_left
   ·intro w'; go_simp; with_reducible rfl
   rotate_left
   ·simp only [Act.put, LsA, LsB, LsC, i64_w, i32_w]; rfl
   refine pure_ (i := 24) (N := some 8) (v := ?_) (a' := ?_) (bm 25 33554431) rfl rfl (any_of HT_.out (by kernel_rfl)) (fun _ _ _ h => h) (Or.inl ⟨by rfl, ?_⟩) ?_ ?_; rotate_left
   ·intro w'; go_simp; with_reducible rfl
   rotate_left
   ·simp only [Act.put, LsA, LsB, LsC, i64_w, i32_w]; rfl
   refine done_ (done_of HT_.out (by kernel_rfl)) ?_; have HF := HO.out.facts; simp only [OwnsM.Facts, and_true] at HF
   go_wp2; go_ret; exact ⟨rfl, HO.out.below⟩
  ·skip
   have h7b0 : (q7 == 6) = false := beq_eq_false_iff_ne.mpr h7; have h7b1 : (q7 != 6) = true := bne_iff_ne.mpr h7; have h8b0 : (q7 == 17) = true := beq_iff_eq.mpr h8; have h8b1 : (q7 != 17) = false := bne_eq_false_iff_eq.mpr h8; clear h7 h8
   go_upto_region 15 with (fail)
   have HO1_ := Aside0.mk HO.out.drew; clear HO HF; have HO := HO1_; clear HO1_; refine start_ (n := 25) (S := fun w' => w'.cell? ⟨g17, 17, none⟩ = some (.pointer (some ⟨gk, 0, none⟩)) ∧ w'.cell? ⟨g4, 6, none⟩ = some (.int .i64 q7) ∧ w'.heap[gk]? = some (.cells #[.int .i64 q7, .int .u32 q8, .int .u32 q9, .int .i64 q13, .int .i64 q14] 35 (0, 0)) ∧ w'.heap[g11]? = some (.cells #[.int .i64 q1, .int .i64 q2, .bool q3, .bool q4, .int .i64 q5, .int .i64 q6, .int .i64 q7, .int .u32 q8, .int .u32 q9, .slice Ap q10.length cp, .slice Aq q11.length cq, .int .i64 q12, .int .i64 q13, .int .i64 q14, .int .i64 q15, .int .i64 q16, .int .i64 q17, .pointer vj] 29 (0, 0))) (ds := [22]) (bm 25 0) (by kernel_rfl) rfl rfl ⟨(HO.out.cell 0 17 rfl rfl), (HO.out.cell 3 6 rfl rfl), (HO.out.at_ 1 rfl), (HO.out.at_ 2 rfl)⟩ (fun hHeld => ?_); refine with_tabW castellanlaw8_PackInner.tab15 castellanlaw8_PackInner.bits15 (fun HT_ HW_ => ?_)
   generalize w1.drew = w1 at HO hHeld ⊢; refine pure_ (i := 0) (N := some 117) (v := ?_) (a' := ?_) (bm 25 1) rfl rfl (any_of HT_.out (by kernel_rfl)) (fun _ _ _ h => h) (Or.inl ⟨by rfl, ?_⟩) ?_ ?_; rotate_left
   ·intro w'; go_simp; with_reducible rfl
   rotate_left
   ·simp only [Act.put, LsA, LsB, LsC, i64_w, i32_w]; rfl
   refine pure_ (i := 1) (N := some 118) (v := ?_) (a' := ?_) (bm 25 3) rfl rfl (any_of HT_.out (by kernel_rfl)) (fun _ _ _ h => h) (Or.inl ⟨by rfl, ?_⟩) ?_ ?_; rotate_left
   ·intro w'; go_simp; with_reducible rfl
   rotate_left
   ·simp only [Act.put, LsA, LsB, LsC, i64_w, i32_w]; rfl
   refine pure_ (i := 2) (N := some 119) (v := ?_) (a' := ?_) (bm 25 7) rfl rfl (any_of HT_.out (by kernel_rfl)) (fun _ _ _ h => h) (Or.inl ⟨by rfl, ?_⟩) ?_ ?_; rotate_left
   ·intro w'; go_simp; with_reducible rfl
   rotate_left
   ·simp only [Act.put, LsA, LsB, LsC, i64_w, i32_w]; rfl
   refine pure_ (i := 3) (N := some 120) (v := ?_) (a' := ?_) (bm 25 15) rfl rfl (any_of HT_.out (by kernel_rfl)) (fun _ _ _ h => h) (Or.inl ⟨by rfl, ?_⟩) ?_ ?_; rotate_left
   ·intro w'; go_simp; with_reducible rfl
   rotate_left
   ·simp only [Act.put, LsA, LsB, LsC, i64_w, i32_w]; rfl
   refine take_ (i := 4) (N := some 121) (v := ?_) (a' := ?_) (bm 25 31) rfl rfl (take_ofW HT_.out HW_.out (by kernel_rfl)) (fun _ _ _ h => h) (Or.inl ⟨by rfl, ?_⟩) hHeld ?_ ?_; rotate_left
   ·rintro w' ⟨s0, s1, s2, s3⟩; go_simp; with_reducible rfl
   rotate_left
   ·simp only [Act.put, LsA, LsB, LsC, i64_w, i32_w]; rfl
   refine pure_ (i := 5) (N := some 122) (v := ?_) (a' := ?_) (bm 25 63) rfl rfl (any_of HT_.out (by kernel_rfl)) (fun _ _ _ h => h) (Or.inl ⟨by rfl, ?_⟩) ?_ ?_; rotate_left
   ·intro w'; go_simp; with_reducible rfl
   rotate_left
   ·simp only [Act.put, LsA, LsB, LsC, i64_w, i32_w]; rfl
   refine pure_ (i := 6) (N := some 123) (v := ?_) (a' := ?_) (bm 25 127) rfl rfl (any_of HT_.out (by kernel_rfl)) (fun _ _ _ h => h) (Or.inl ⟨by rfl, ?_⟩) ?_ ?_; rotate_left
   ·intro w'; go_simp; with_reducible rfl
   rotate_left
   ·simp only [Act.put, LsA, LsB, LsC, i64_w, i32_w]; rfl
   refine pure_ (i := 7) (N := some 124) (v := ?_) (a' := ?_) (bm 25 255) rfl rfl (any_of HT_.out (by kernel_rfl)) (fun _ _ _ h => h) (Or.inl ⟨by rfl, ?_⟩) ?_ ?_; rotate_left
   ·intro w'; go_simp; with_reducible rfl
   rotate_left
   ·simp only [Act.put, LsA, LsB, LsC, i64_w, i32_w]; rfl
   refine take_ (i := 8) (N := some 125) (v := ?_) (a' := ?_) (bm 25 511) rfl rfl (take_ofW HT_.out HW_.out (by kernel_rfl)) (fun _ _ _ h => h) (Or.inl ⟨by rfl, ?_⟩) hHeld ?_ ?_; rotate_left
   ·rintro w' ⟨s0, s1, s2, s3⟩; go_simp; with_reducible rfl
   rotate_left
   ·simp only [Act.put, LsA, LsB, LsC, i64_w, i32_w]; rfl
   refine pure_ (i := 9) (N := some 126) (v := ?_) (a' := ?_) (bm 25 1023) rfl rfl (any_of HT_.out (by kernel_rfl)) (fun _ _ _ h => h) (Or.inl ⟨by rfl, ?_⟩) ?_ ?_; rotate_left
   ·intro w'; go_simp; with_reducible rfl
   rotate_left
   ·simp only [Act.put, LsA, LsB, LsC, i64_w, i32_w]; rfl
   refine pure_ (i := 10) (N := some 127) (v := ?_) (a' := ?_) (bm 25 2047) rfl rfl (any_of HT_.out (by kernel_rfl)) (fun _ _ _ h => h) (Or.inl ⟨by rfl, ?_⟩) ?_ ?_; rotate_left
   ·intro w'; go_simp; with_reducible rfl
   rotate_left
   ·simp only [Act.put, LsA, LsB, LsC, i64_w, i32_w]; rfl
   refine pure_ (i := 11) (N := some 128) (v := ?_) (a' := ?_) (bm 25 4095) rfl rfl (any_of HT_.out (by kernel_rfl)) (fun _ _ _ h => h) (Or.inl ⟨by rfl, ?_⟩) ?_ ?_; rotate_left
   ·intro w'; go_simp; with_reducible rfl
   rotate_left
   ·simp only [Act.put, LsA, LsB, LsC, i64_w, i32_w]; rfl
   refine pure_ (i := 12) (N := some 129) (v := ?_) (a' := ?_) (bm 25 8191) rfl rfl (any_of HT_.out (by kernel_rfl)) (fun _ _ _ h => h) (Or.inl ⟨by rfl, ?_⟩) ?_ ?_; rotate_left
   ·intro w'; go_simp; with_reducible rfl
   rotate_left
   ·simp only [Act.put, LsA, LsB, LsC, i64_w, i32_w]; rfl
   refine pure_ (i := 13) (N := some 130) (v := ?_) (a' := ?_) (bm 25 16383) rfl rfl (any_of HT_.out (by kernel_rfl)) (fun _ _ _ h => h) (Or.inl ⟨by rfl, ?_⟩) ?_ ?_; rotate_left
   ·intro w'; go_simp; with_reducible rfl
   rotate_left
   ·simp only [Act.put, LsA, LsB, LsC, i64_w, i32_w]; rfl
   refine take_ (i := 14) (N := some 131) (v := ?_) (a' := ?_) (bm 25 32767) rfl rfl (take_ofW HT_.out HW_.out (by kernel_rfl)) (fun _ _ _ h => h) (Or.inl ⟨by rfl, ?_⟩) hHeld ?_ ?_; rotate_left
   ·rintro w' ⟨s0, s1, s2, s3⟩; go_simp; with_reducible rfl
   rotate_left
   ·simp only [Act.put, LsA, LsB, LsC, i64_w, i32_w]; rfl
   refine pure_ (i := 15) (N := some 132) (v := ?_) (a' := ?_) (bm 25 65535) rfl rfl (any_of HT_.out (by kernel_rfl)) (fun _ _ _ h => h) (Or.inl ⟨by rfl, ?_⟩) ?_ ?_; rotate_left
   ·intro w'; go_simp; with_reducible rfl
   rotate_left
   ·simp only [Act.put, LsA, LsB, LsC, i64_w, i32_w]; rfl
   refine take_ (i := 16) (N := some 133) (v := ?_) (a' := ?_) (bm 25 131071) rfl rfl (take_ofW HT_.out HW_.out (by kernel_rfl)) (fun _ _ _ h => h) (Or.inl ⟨by rfl, ?_⟩) hHeld ?_ ?_; rotate_left
   ·rintro w' ⟨s0, s1, s2, s3⟩; refine exec_load_rowI 35 (.tmp 132) ?ho ?hx s2 Try.underlying35 rfl ?hi
    case ho => rfl
    case hx => rfl
    case hi => kernel_rfl
   rotate_left
   ·simp only [Act.put, LsA, LsB, LsC, i64_w, i32_w]; rfl
   refine take_ (i := 17) (N := some 134) (v := ?_) (a' := ?_) (bm 25 262143) rfl rfl (take_ofW HT_.out HW_.out (by kernel_rfl)) (fun _ _ _ h => h) (Or.inl ⟨by rfl, ?_⟩) hHeld ?_ ?_; rotate_left
   ·rintro w' ⟨s0, s1, s2, s3⟩; refine exec_load_rowI 29 (.tmp 11) ?ho ?hx s3 Try.underlying29 rfl ?hi
    case ho => rfl
    case hx => rfl
    case hi => kernel_rfl
   rotate_left
   ·simp only [Act.put, LsA, LsB, LsC, i64_w, i32_w]; rfl
   refine one_ (i := 18) (N := some 135) (bm 25 524287) rfl rfl (one_of HT_.out (by kernel_rfl)) (by decide) (fun K hK => ?_); refine goes_ Try.func17 (by kernel_rfl) rfl #[.agg #[.int .i64 q1, .int .i64 q2, .bool q3, .bool q4, .int .i64 q5, .int .i64 q6, .int .i64 q7, .int .u32 q8, .int .u32 q9, .slice Ap q10.length cp, .slice Aq q11.length cq, .int .i64 q12, .int .i64 q13, .int .i64 q14, .int .i64 q15, .int .i64 q16, .int .i64 q17, .pointer vj]] (by rfl) rfl rfl (by (try simp only [LmA, LmB, LmC]); first | done | rfl | (simp only [LdA, LtA]; rfl)) ?_; refine (castellanref8_KeyOf.calls q1 q2 q3 q4 q5 q6 q7 q8 q9 _ _ q10 _ _ q11 q12 q13 q14 q15 q16 q17 vj q7 q8 q9 q13 q14 _ (HO.out.rd 6 rfl) (HO.out.cap 6 rfl) (HO.out.rd 5 rfl) (HO.out.cap 5 rfl) rfl).mono ?_; rintro e w1 ⟨rfl, hb1⟩; refine ⟨_, rfl, ?_⟩; replace HO := Aside0.mk (HO.out.step hb1); clear hb1; refine hK.out _ _ ⟨(HO.out.cell 0 17 rfl rfl), (HO.out.cell 3 6 rfl rfl), (HO.out.at_ 1 rfl), (HO.out.at_ 2 rfl)⟩ (fun hHeld => ?_); clear hK K; refine norm_ (a' := ?_) ?_ ?_; rotate_left
   ·show Act.put _ (some 135) _ = _; simp only [Act.put, LsA, LsB, LsC, i64_w, i32_w]; rfl
   refine pure_ (i := 19) (N := some 136) (v := ?_) (a' := ?_) (bm 25 1048575) rfl rfl (any_of HT_.out (by kernel_rfl)) (fun _ _ _ h => h) (Or.inl ⟨by rfl, ?_⟩) ?_ ?_; rotate_left
   ·intro w'; go_simp; with_reducible rfl
   rotate_left
   ·simp only [Act.put, LsA, LsB, LsC, i64_w, i32_w]; rfl
   refine pure_ (i := 20) (N := some 137) (v := ?_) (a' := ?_) (bm 25 2097151) rfl rfl (any_of HT_.out (by kernel_rfl)) (fun _ _ _ h => h) (Or.inl ⟨by rfl, ?_⟩) ?_ ?_; rotate_left
   ·intro w'; go_simp; with_reducible rfl
   rotate_left
   ·simp only [Act.put, LsA, LsB, LsC, i64_w, i32_w]; rfl
   refine pure_ (i := 21) (N := some 138) (v := ?_) (a' := ?_) (bm 25 4194303) rfl rfl (any_of HT_.out (by kernel_rfl)) (fun _ _ _ h => h) (Or.inl ⟨by rfl, ?_⟩) ?_ ?_; rotate_left
   ·intro w'; go_simp; with_reducible rfl
   rotate_left
   ·simp only [Act.put, LsA, LsB, LsC, i64_w, i32_w]; rfl
   refine last_ (i := 22) (N := some 139) (bm 25 8388607) rfl rfl (one_of HT_.out (by kernel_rfl)) (by decide) (fun K hK => ?_); refine goes_ Try.func24 (by kernel_rfl) rfl #[] (by rfl) rfl rfl (by (try simp only [LmA, LmB, LmC]); first | done | rfl | (simp only [LdA, LtA]; rfl)) ?_; refine (castellanlaw8_known.calls true _ AKN.out).mono ?_; rintro e w1 ⟨rfl, hb1⟩; refine ⟨_, rfl, ?_⟩; replace HO := Aside0.mk (HO.out.step hb1); clear hb1; refine hK.out _ _ ?_; clear hK K; refine norm_ (a' := ?_) ?_ ?_; rotate_left
   ·show Act.put _ (some 139) _ = _; simp only [Act.put, LsA, LsB, LsC, i64_w, i32_w]; rfl
   refine pure_ (i := 23) (N := some 140) (v := ?_) (a' := ?_) (bm 25 16777215) rfl rfl (any_of HT_.out (by kernel_rfl)) (fun _ _ _ h => h) (Or.inl ⟨by rfl, ?_⟩) ?_ ?_; rotate_left
   ·intro w'; go_simp; with_reducible rfl
   rotate_left
   ·simp only [Act.put, LsA, LsB, LsC, i64_w, i32_w]; rfl
   refine pure_ (i := 24) (N := some 8) (v := ?_) (a' := ?_) (bm 25 33554431) rfl rfl (any_of HT_.out (by kernel_rfl)) (fun _ _ _ h => h) (Or.inl ⟨by rfl, ?_⟩) ?_ ?_; rotate_left
   ·intro w'; go_simp; with_reducible rfl
   rotate_left
   ·simp only [Act.put, LsA, LsB, LsC, i64_w, i32_w]; rfl
   refine done_ (done_of HT_.out (by kernel_rfl)) ?_; have HF := HO.out.facts; simp only [OwnsM.Facts, and_true] at HF
   go_wp2; go_ret; exact ⟨rfl, HO.out.below⟩
def castellanlaw8_PackInner.Pure : Prop := ∀ (a0_0 : Int) (a0_1 : Int) (a0_2 : Bool) (a0_3 : Bool) (a0_4 : Int) (a0_5 : Int) (a0_6 : Int) (a0_7 : Int) (a0_8 : Int) (l0_9 l0_10 : List Int) (a1 a2 a3 : Int), (Lit.int .i64 a0_0).wf = true → (Lit.int .i64 a0_1).wf = true → (Lit.int .i64 a0_4).wf = true → (Lit.int .i64 a0_5).wf = true → (Lit.int .i64 a0_6).wf = true → (Lit.int .u32 a0_7).wf = true → (Lit.int .u32 a0_8).wf = true → l0_9.length ≤ maxLen → l0_9.length * 1 ≤ 140737488351232 → (∀ x ∈ l0_9, (Lit.int .u8 x).wf = true) → l0_10.length ≤ maxLen → l0_10.length * 1 ≤ 140737488351232 → (∀ x ∈ l0_10, (Lit.int .u8 x).wf = true) → (Lit.int .u32 a1).wf = true → (Lit.int .u32 a2).wf = true → (Lit.int .u8 a3).wf = true → ∃ k, castellanlaw8_PackInner.f k a0_0 a0_1 a0_2 a0_3 a0_4 a0_5 a0_6 a0_7 a0_8 l0_9 l0_10 a1 a2 a3
theorem castellanlaw8_PackInner.walk (P : castellanlaw8_PackInner.Pure) (a0_0 : Int) (a0_1 : Int) (a0_2 : Bool) (a0_3 : Bool) (a0_4 : Int) (a0_5 : Int) (a0_6 : Int) (a0_7 : Int) (a0_8 : Int) (a0_9 : Option Addr) (len0_9 cap0_9 : Nat) (z0_9 : List Int) (a0_10 : Option Addr) (len0_10 cap0_10 : Nat) (z0_10 : List Int) (a1 a2 a3 : Int) (w : World) (w0_0 : (Lit.int .i64 a0_0).wf = true) (w0_1 : (Lit.int .i64 a0_1).wf = true) (w0_4 : (Lit.int .i64 a0_4).wf = true) (w0_5 : (Lit.int .i64 a0_5).wf = true) (w0_6 : (Lit.int .i64 a0_6).wf = true) (w0_7 : (Lit.int .u32 a0_7).wf = true) (w0_8 : (Lit.int .u32 a0_8).wf = true) (w0_9 : (a0_9 = none ∧ len0_9 = 0 ∧ cap0_9 = 0 ∧ z0_9 = []) ∨ ∃ x, a0_9 = some x ∧ len0_9 ≤ cap0_9 ∧ cap0_9 ≤ maxLen ∧ z0_9.length = cap0_9 ∧ (∀ i, i < z0_9.length → w.cell? (x.add i) = some (.int .u8 (z0_9.getD i 0))) ∧ ∀ n ∈ z0_9, (Lit.int .u8 n).wf = true) (y0_9 : len0_9 * 1 ≤ 140737488351232) (w0_10 : (a0_10 = none ∧ len0_10 = 0 ∧ cap0_10 = 0 ∧ z0_10 = []) ∨ ∃ x, a0_10 = some x ∧ len0_10 ≤ cap0_10 ∧ cap0_10 ≤ maxLen ∧ z0_10.length = cap0_10 ∧ (∀ i, i < z0_10.length → w.cell? (x.add i) = some (.int .u8 (z0_10.getD i 0))) ∧ ∀ n ∈ z0_10, (Lit.int .u8 n).wf = true) (y0_10 : len0_10 * 1 ≤ 140737488351232) (w1 : (Lit.int .u32 a1).wf = true) (w2 : (Lit.int .u32 a2).wf = true) (w3 : (Lit.int .u8 a3).wf = true) :
  Calls Try.prog 9 #[.agg #[.int .i64 a0_0, .int .i64 a0_1, .bool a0_2, .bool a0_3, .int .i64 a0_4, .int .i64 a0_5, .int .i64 a0_6, .int .u32 a0_7, .int .u32 a0_8, .slice a0_9 len0_9 cap0_9, .slice a0_10 len0_10 cap0_10], .int .u32 a1, .int .u32 a2, .int .u8 a3] w fun e w' => e = .returned (.bool true) ∧ Below w.heap.size w w' := by
 obtain ⟨l0_9, rfl, hr0_9, hm0_9, hw0_9, hc0_9⟩ := ReadsInt.ofRowC w0_9; obtain ⟨l0_10, rfl, hr0_10, hm0_10, hw0_10, hc0_10⟩ := ReadsInt.ofRowC w0_10; obtain ⟨k, h⟩ := P a0_0 a0_1 a0_2 a0_3 a0_4 a0_5 a0_6 a0_7 a0_8 l0_9 l0_10 a1 a2 a3 w0_0 w0_1 w0_4 w0_5 w0_6 w0_7 w0_8 hm0_9 y0_9 hw0_9 hm0_10 y0_10 hw0_10 w1 w2 w3; exact castellanlaw8_PackInner.calls k a0_0 a0_1 a0_2 a0_3 a0_4 a0_5 a0_6 a0_7 a0_8 _ _ l0_9 _ _ l0_10 a1 a2 a3 w (Kd.C_of_reads (d := (0 : Int)) (h1 := fun _ => rfl) hr0_9) hc0_9 (Kd.C_of_reads (d := (0 : Int)) (h1 := fun _ => rfl) hr0_10) hc0_10 h

end Go.Proofs.Ytkdibloahkhgoaa.QPackInner
