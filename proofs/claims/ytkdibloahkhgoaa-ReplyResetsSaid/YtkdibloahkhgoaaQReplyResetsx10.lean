-- written by myprint.py, a program of this session's over the kit's printer
import Derived.Test.YtkdibloahkhgoaaQReplyResetsx0
import Derived.Test.YtkdibloahkhgoaaQReplyResetsx8
import Derived.Test.YtkdibloahkhgoaaQReplyResetsx9
namespace Go.Proofs.Ytkdibloahkhgoaa.QReplyResets
open Go.RowKit Go.Proofs.YtkdibloahkhgoaaW.PrintWords Go.Proofs.YtkdibloahkhgoaaW.PrintLast Go.Proofs.YtkdibloahkhgoaaW.PrintMore
attribute [local go_sem] max2_int min2_int max_two min_two max_three min_three max_four min_four   -- for this text's walks alone
set_option linter.unusedVariables false
set_option linter.unusedSimpArgs false

/-! ### ip_Build: function 50 -/
/-- a packet without options, TTL 64, of TCP, as it is built -/
def ip_Build.r (k : Nat) (s t : Int) (d : List Int) : Option (List Int) := if (d.length : Int) > 65515 then none else (word_Put16.f (wrap64 (20 + (d.length : Int)))).bind fun p1 => (word_Put16.f 0).bind fun p2 => (word_Put16.f 0).bind fun p3 => (word_Put32.f s).bind fun p4 => (word_Put32.f t).bind fun p5 =>
 (word_Join.f k [[(Go.bits .or .i64 64 (wrap64 5)) % 256, 0], p1, p2, p3, [64, 6, 0, 0], p4, p5, []]).bind fun j => (sum_Of.f k [j]).bind fun c => (word_Put16.f c).bind fun q => if 12 ≤ j.length ∧ q.length = 2 ∧ j.length + d.length < 140737488355328 then some (((j.set 10 (rd q 0)).set (10 + 1) (rd q 1)) ++ d) else none
def ip_Build.T11 : Bool × List (List Nat × List Nat) := (true, [([], []), ([0], [0]), ([1], [1]), ([2], [2]), ([], []), ([4], [4]), ([5], [5]), ([3, 6], [3, 6]), ([], []), ([], []), ([9], [9]), ([10], [10]), ([8, 11], [8, 11]), ([12], [12]), ([], []), ([14], [14]), ([15, 13], [15]), ([], []), ([17, 16], [17]), ([], []), ([19], [19]), ([20], [20]), ([], []), ([22], [22]), ([23], [23]), ([21, 24], [21, 24]), ([], []), ([26], [26]), ([27, 18], [27]), ([], []), ([29], [29]), ([30, 28], [30]), ([], []), ([32], [32]), ([7, 13, 16, 18, 25, 28, 31, 33], [7, 13, 16, 18, 25, 28, 31, 33]), ([34, 31], [34]), ([35, 35, 0, 1, 2, 3, 4, 5, 6, 7, 8, 9, 10, 11, 12, 13, 14, 15, 16, 17, 18, 19, 20, 21, 22, 23, 24, 25, 26, 27, 28, 29, 30, 31, 32, 33, 34, 35], [35])])
def ip_Build.B11 : List Nat := [0, 1, 3, 7, 0, 16, 48, 127, 0, 0, 512, 1536, 3840, 7936, 0, 16384, 65280, 0, 261888, 0, 524288, 1572864, 0, 4194304, 12582912, 33030144, 0, 67108864, 201850624, 0, 536870912, 2080898816, 0, 4294967296, 17179869183, 34359738367, 68719476735]
theorem ip_Build.tab11 : rtab .any (opsOf Try.f50 11) = ip_Build.T11 := by kernel_rfl
theorem ip_Build.bits11 : waitsOk ip_Build.T11.2 ip_Build.B11 = true := by kernel_rfl
set_option maxHeartbeats 8000000 in
set_option maxRecDepth 100000 in
theorem ip_Build.calls (k : Nat) (s t : Int) (Ad : Option Addr) (cd : Nat) (d : List Int) (r : List Int) (w : World) (hr0 : Kd.C (Kd.int .u8) w Ad d.length d) (hc0 : d.length ≤ cd) (h : ip_Build.r k s t d = some r) :
  Calls Try.prog 50 #[.agg #[.int .i64 0, .int .i64 0, .bool false, .bool false, .int .i64 0, .int .i64 64, .int .i64 6, .int .u32 s, .int .u32 t, .slice none 0 0, .slice Ad d.length cd]] w fun e w' => ∃ v0, e = .returned (.tuple #[v0, .int .i64 0]) ∧ Kd.R (Kd.int .u8) 5 w' w.heap.size (fun _ => True) v0 r ∧ Below w.heap.size w w' := by
 have HR0 := Aside0.mk hr0; have HC0 := Aside0.mk hc0; clear hr0 hc0; unfold ip_Build.r at h
 by_cases c1 : (d.length : Int) > 65515
 ·rw [if_pos c1] at h; exact absurd h (by simp)
 rw [if_neg c1] at h; have H := h; clear h; obtain ⟨p1, A_, H⟩ := Option.bind_eq_some_iff.mp H; have P1 := Aside0.mk A_; clear A_; obtain ⟨p2, A_, H⟩ := Option.bind_eq_some_iff.mp H; have P2 := Aside0.mk A_; clear A_; obtain ⟨p3, A_, H⟩ := Option.bind_eq_some_iff.mp H; have P3 := Aside0.mk A_; clear A_; obtain ⟨p4, A_, H⟩ := Option.bind_eq_some_iff.mp H; have P4 := Aside0.mk A_; clear A_; obtain ⟨p5, A_, H⟩ := Option.bind_eq_some_iff.mp H; have P5 := Aside0.mk A_; clear A_; obtain ⟨jn, A_, H⟩ := Option.bind_eq_some_iff.mp H; have PJ := Aside0.mk A_; clear A_; obtain ⟨ck, A_, H⟩ := Option.bind_eq_some_iff.mp H; have PC := Aside0.mk A_; clear A_; obtain ⟨q, A_, H⟩ := Option.bind_eq_some_iff.mp H; have PQ := Aside0.mk A_; clear A_
 by_cases c2 : 12 ≤ jn.length ∧ q.length = 2 ∧ jn.length + d.length < 140737488355328
 rotate_left
 ·rw [if_neg c2] at H; exact absurd H (by simp)
 rw [if_pos c2] at H; obtain ⟨e1, e2, e3⟩ := c2
 obtain ⟨y7, hy7⟩ : ∃ y_ : List Int, y_ = [IntKind.u8.wrap (Go.bits .or .i64 64 (wrap64 5)), 0] := ⟨_, rfl⟩
 obtain ⟨y25, hy25⟩ : ∃ y_ : List Int, y_ = [64, 6, 0, 0] := ⟨_, rfl⟩
 obtain ⟨yn, hyn⟩ : ∃ y_ : List (List Int), y_ = [y7, p1, p2, p3, y25, p4, p5, []] := ⟨_, rfl⟩
 have PJ2 : Aside0 (word_Join.f k yn = some jn) := ⟨by rw [hyn, hy7, hy25, IntKind.wrap_u8]; exact PJ.out⟩
 have NY7 := Aside0.mk hy7; have NY25 := Aside0.mk hy25; have NYN := Aside0.mk hyn; clear hy7 hy25 hyn PJ
 obtain ⟨j2, hj2⟩ : ∃ y_ : List Int, y_ = (jn.set 10 (rd q 0)).set (10 + 1) (rd q 1) := ⟨_, rfl⟩
 rw [← hj2] at H
 obtain ⟨yr, hyr⟩ : ∃ y_ : List Int, y_ = j2 ++ d := ⟨_, rfl⟩
 rw [← hyr] at H; obtain rfl := Option.some.inj H; have hl2 : j2.length = jn.length := by rw [hj2, List.length_set, List.length_set]
 have NJ2 := Aside0.mk hj2; have NYR := Aside0.mk hyr; have E1 := Aside0.mk e1; have E2 := Aside0.mk e2; have LM := Aside0.mk (show j2.length + d.length < 140737488355328 by omega); clear hj2 hyr hl2 e1 e2 e3 H; have c1b0 : decide (65515 < (d.length : Int)) = false := decide_eq_false c1; have c1b1 : decide (65515 < d.length) = false := decide_eq_false (by omega); clear c1; have HO := Aside0.mk (Owns.nil w); have HF : True := trivial; go_enter Try.func50, Try.ntmps50
 go_upto_region 11 with (first | ((with_reducible refine gate_dst (N := 1) rfl ?_); refine ow_box HO rfl (N := 1) rfl #[.int .i64 0, .int .i64 0, .bool false, .bool false, .int .i64 0, .int .i64 64, .int .i64 6, .int .u32 s, .int .u32 t, .slice none 0 0, .slice Ad d.length cd] 26 ?hr rfl ?_; (case hr => first | (go_simp; done) | (go_simp; rfl)); clear HO HF; intro g1 w1 HO; have HF := HO.out.facts; simp only [OwnsM.Facts, and_true] at HF) | ((with_reducible refine gate_callee (f := 76) rfl ?_); (try (refine gate_guard (by rfl) ?_; dsimp only)); refine goesL_ (some 14) rfl rfl Try.func76 (by kernel_rfl) rfl #[.int .i64 0] rfl (by (try simp only [LmA, LmB, LmC]); first | done | rfl | (simp only [LdA, LtA]; rfl)) ?_; refine (ip_isByte.calls 0 true _ (by rfl)).mono ?_; rintro e w1 ⟨rfl, hd_⟩; refine ⟨_, rfl, ?_⟩; replace HO := Aside0.mk (HO.out.drawn hd_); clear hd_; clear HF; have HF := HO.out.facts; simp only [OwnsM.Facts, and_true] at HF) | ((with_reducible refine gate_callee (f := 76) rfl ?_); (try (refine gate_guard (by rfl) ?_; dsimp only)); refine goesL_ (some 19) rfl rfl Try.func76 (by kernel_rfl) rfl #[.int .i64 64] rfl (by (try simp only [LmA, LmB, LmC]); first | done | rfl | (simp only [LdA, LtA]; rfl)) ?_; refine (ip_isByte.calls 64 true _ (by rfl)).mono ?_; rintro e w1 ⟨rfl, hd_⟩; refine ⟨_, rfl, ?_⟩; replace HO := Aside0.mk (HO.out.drawn hd_); clear hd_; clear HF; have HF := HO.out.facts; simp only [OwnsM.Facts, and_true] at HF) | ((with_reducible refine gate_callee (f := 76) rfl ?_); (try (refine gate_guard (by rfl) ?_; dsimp only)); refine goesL_ (some 25) rfl rfl Try.func76 (by kernel_rfl) rfl #[.int .i64 6] rfl (by (try simp only [LmA, LmB, LmC]); first | done | rfl | (simp only [LdA, LtA]; rfl)) ?_; refine (ip_isByte.calls 6 true _ (by rfl)).mono ?_; rintro e w1 ⟨rfl, hd_⟩; refine ⟨_, rfl, ?_⟩; replace HO := Aside0.mk (HO.out.drawn hd_); clear hd_; clear HF; have HF := HO.out.facts; simp only [OwnsM.Facts, and_true] at HF))
 have HO1_ := Aside0.mk HO.out.drew; clear HO HF; have HO := HO1_; clear HO1_; refine start_ (n := 37) (S := fun w' => True) (ds := []) (bm 37 0) (by kernel_rfl) rfl rfl trivial (fun hHeld => ?_); refine with_tabW ip_Build.tab11 ip_Build.bits11 (fun HT_ HW_ => ?_)
 generalize w1.drew = w1 at HO hHeld ⊢; refine pure_ (i := 0) (N := some 78) (v := ?_) (a' := ?_) (bm 37 1) rfl rfl (any_of HT_.out (by kernel_rfl)) (fun _ _ _ h => h) (Or.inl ⟨by rfl, ?_⟩) ?_ ?_; rotate_left
 ·intro w'; go_simp; with_reducible rfl
 rotate_left
 ·simp only [Act.put, LsA, LsB, LsC, i64_w, i32_w]; rfl
 refine pure_ (i := 1) (N := some 79) (v := ?_) (a' := ?_) (bm 37 3) rfl rfl (any_of HT_.out (by kernel_rfl)) (fun _ _ _ h => h) (Or.inl ⟨by rfl, ?_⟩) ?_ ?_; rotate_left
 ·intro w'; go_simp; with_reducible rfl
 rotate_left
 ·simp only [Act.put, LsA, LsB, LsC, i64_w, i32_w]; rfl
 refine pure_ (i := 2) (N := some 80) (v := ?_) (a' := ?_) (bm 37 7) rfl rfl (any_of HT_.out (by kernel_rfl)) (fun _ _ _ h => h) (Or.inl ⟨by rfl, ?_⟩) ?_ ?_; rotate_left
 ·intro w'; go_simp; with_reducible rfl
 rotate_left
 ·simp only [Act.put, LsA, LsB, LsC, i64_w, i32_w]; rfl
 refine pure_ (i := 3) (N := some 81) (v := ?_) (a' := ?_) (bm 37 15) rfl rfl (any_of HT_.out (by kernel_rfl)) (fun _ _ _ h => h) (Or.inl ⟨by rfl, ?_⟩) ?_ ?_; rotate_left
 ·intro w'; go_simp; with_reducible rfl
 rotate_left
 ·simp only [Act.put, LsA, LsB, LsC, i64_w, i32_w]; rfl
 refine pure_ (i := 4) (N := some 82) (v := ?_) (a' := ?_) (bm 37 31) rfl rfl (any_of HT_.out (by kernel_rfl)) (fun _ _ _ h => h) (Or.inl ⟨by rfl, ?_⟩) ?_ ?_; rotate_left
 ·intro w'; go_simp; with_reducible rfl
 rotate_left
 ·simp only [Act.put, LsA, LsB, LsC, i64_w, i32_w]; rfl
 refine pure_ (i := 8) (N := some 86) (v := ?_) (a' := ?_) (bm 37 287) rfl rfl (any_of HT_.out (by kernel_rfl)) (fun _ _ _ h => h) (Or.inl ⟨by rfl, ?_⟩) ?_ ?_; rotate_left
 ·intro w'; go_simp; with_reducible rfl
 rotate_left
 ·simp only [Act.put, LsA, LsB, LsC, i64_w, i32_w]; rfl
 refine pure_ (i := 9) (N := some 87) (v := ?_) (a' := ?_) (bm 37 799) rfl rfl (any_of HT_.out (by kernel_rfl)) (fun _ _ _ h => h) (Or.inl ⟨by rfl, ?_⟩) ?_ ?_; rotate_left
 ·intro w'; go_simp; with_reducible rfl
 rotate_left
 ·simp only [Act.put, LsA, LsB, LsC, i64_w, i32_w]; rfl
 refine pure_ (i := 14) (N := some 92) (v := ?_) (a' := ?_) (bm 37 17183) rfl rfl (any_of HT_.out (by kernel_rfl)) (fun _ _ _ h => h) (Or.inl ⟨by rfl, ?_⟩) ?_ ?_; rotate_left
 ·intro w'; go_simp; with_reducible rfl
 rotate_left
 ·simp only [Act.put, LsA, LsB, LsC, i64_w, i32_w]; rfl
 refine pure_ (i := 17) (N := some 95) (v := ?_) (a' := ?_) (bm 37 148255) rfl rfl (any_of HT_.out (by kernel_rfl)) (fun _ _ _ h => h) (Or.inl ⟨by rfl, ?_⟩) ?_ ?_; rotate_left
 ·intro w'; go_simp; with_reducible rfl
 rotate_left
 ·simp only [Act.put, LsA, LsB, LsC, i64_w, i32_w]; rfl
 refine pure_ (i := 19) (N := some 97) (v := ?_) (a' := ?_) (bm 37 672543) rfl rfl (any_of HT_.out (by kernel_rfl)) (fun _ _ _ h => h) (Or.inl ⟨by rfl, ?_⟩) ?_ ?_; rotate_left
 ·intro w'; go_simp; with_reducible rfl
 rotate_left
 ·simp only [Act.put, LsA, LsB, LsC, i64_w, i32_w]; rfl
 refine pure_ (i := 22) (N := some 100) (v := ?_) (a' := ?_) (bm 37 4866847) rfl rfl (any_of HT_.out (by kernel_rfl)) (fun _ _ _ h => h) (Or.inl ⟨by rfl, ?_⟩) ?_ ?_; rotate_left
 ·intro w'; go_simp; with_reducible rfl
 rotate_left
 ·simp only [Act.put, LsA, LsB, LsC, i64_w, i32_w]; rfl
 refine pure_ (i := 26) (N := some 104) (v := ?_) (a' := ?_) (bm 37 71975711) rfl rfl (any_of HT_.out (by kernel_rfl)) (fun _ _ _ h => h) (Or.inl ⟨by rfl, ?_⟩) ?_ ?_; rotate_left
 ·intro w'; go_simp; with_reducible rfl
 rotate_left
 ·simp only [Act.put, LsA, LsB, LsC, i64_w, i32_w]; rfl
 refine pure_ (i := 29) (N := some 107) (v := ?_) (a' := ?_) (bm 37 608846623) rfl rfl (any_of HT_.out (by kernel_rfl)) (fun _ _ _ h => h) (Or.inl ⟨by rfl, ?_⟩) ?_ ?_; rotate_left
 ·intro w'; go_simp; with_reducible rfl
 rotate_left
 ·simp only [Act.put, LsA, LsB, LsC, i64_w, i32_w]; rfl
 refine pure_ (i := 32) (N := some 110) (v := ?_) (a' := ?_) (bm 37 4903813919) rfl rfl (any_of HT_.out (by kernel_rfl)) (fun _ _ _ h => h) (Or.inl ⟨by rfl, ?_⟩) ?_ ?_; rotate_left
 ·intro w'; go_simp; with_reducible rfl
 rotate_left
 ·simp only [Act.put, LsA, LsB, LsC, i64_w, i32_w]; rfl
 refine inv_at [5, 6, 7, 10, 11, 12, 13, 15, 16, 18, 20, 21, 23, 24, 25, 27, 28, 30, 31, 33, 34, 35, 36] (fun a0_ b a w' => ∃ (v7 v13 v16 v18 v25 v28 v31 v34 v35 v36 : Value), a = putSel a0_ b [(5, 83, .int .i64 0), (6, 84, .int .u8 0), (7, 85, v7), (10, 88, .slice Ad d.length cd), (11, 89, .int .i64 (d.length : Int)), (12, 90, .int .i64 (wrap64 (20 + (d.length : Int)))), (13, 91, v13), (15, 93, .int .i64 0), (16, 94, v16), (18, 96, v18), (20, 98, .int .i64 64), (21, 99, .int .u8 64), (23, 101, .int .i64 6), (24, 102, .int .u8 6), (25, 103, v25), (27, 105, .int .u32 s), (28, 106, v28), (30, 108, .int .u32 t), (31, 109, v31), (33, 111, .slice none 0 0), (34, 112, v34), (35, 113, v35), (36, 6, v36)] ∧ OwnsM w w' w.heap.size [(g1, #[.int .i64 0, .int .i64 0, .bool false, .bool false, .int .i64 0, .int .i64 64, .int .i64 6, .int .u32 s, .int .u32 t, .slice none 0 0, .slice Ad d.length cd], 26)] (rsel b [(7, (v7, y7)), (13, (v13, p1)), (16, (v16, p2)), (18, (v18, p3)), (25, (v25, y25)), (28, (v28, p4)), (31, (v31, p5)), (35, (v35, jn))]) ∧ (b 34 = true → b 35 = false → ∃ A_ c_, v34 = .slice A_ yn.length c_ ∧ yn.length ≤ c_ ∧ Kd.C (Kd.slice 5 (Kd.int .u8)) w' A_ yn.length yn) ∧ (b 36 = true → v36 = v35)) HT_.out HW_.out (by kernel_rfl) (by kernel_rfl) ?_ ?_ ?_
 ·exact ⟨.bool false, .bool false, .bool false, .bool false, .bool false, .bool false, .bool false, .bool false, .bool false, .bool false, by simp only [putSel, Bool.false_eq_true, if_false], (by simp only [rsel, Bool.false_eq_true, if_false]; exact HO.out), fun h_ => absurd h_ (by decide), fun h_ => absurd h_ (by decide)⟩
 ·skip
  clear HO; refine steps_cons ?_ ?_
  ·skip
   rintro b a w1 ⟨v7, v13, v16, v18, v25, v28, v31, v34, v35, v36, ha, HO0, HN, HX⟩ hb_ hon hoff; refine ⟨_, rfl, fun K hK => ?_⟩; have e82 : a.tmps[82]? = some (.pointer (some ⟨g1, 0, none⟩)) := by rw [ha]; exact (putSel_off rfl).trans rfl
   replace ha := Aside0.mk ha; have HO := Aside0.mk HO0; have HF := HO.out.facts; simp only [OwnsM.Facts, and_true] at HF
   refine value_ (w1 := w1) (v := .int .i64 0) (by rfl) rfl ?_ ?_
   ·go_simp; (try simp only [i64_w])
    try (first | exact IntKind.wrap_u8 _ | rfl)
   refine hK.out _ _ ⟨v7, v13, v16, v18, v25, v28, v31, v34, v35, v36, (by rw [ha.out]; exact putSel_upk 0 hb_ rfl rfl rfl), (by rw [rsel_same rfl]; exact HO0), fun h0_ => absurd ((hoff 34 (by kernel_rfl)).symm.trans h0_) (by decide), fun h0_ => absurd ((hoff 36 (by kernel_rfl)).symm.trans h0_) (by decide)⟩
  refine steps_cons ?_ ?_
  ·skip
   rintro b a w1 ⟨v7, v13, v16, v18, v25, v28, v31, v34, v35, v36, ha, HO0, HN, HX⟩ hb_ hon hoff; refine ⟨_, rfl, fun K hK => ?_⟩; have e83 : a.tmps[83]? = some (.int .i64 0) := by rw [ha]; exact putSel_on (e := (5, 83, .int .i64 0)) 0 rfl rfl (hon 5 (by kernel_rfl)) rfl
   replace ha := Aside0.mk ha; have HO := Aside0.mk HO0; have HF := HO.out.facts; simp only [OwnsM.Facts, and_true] at HF
   refine value_ (w1 := w1) (v := .int .u8 0) (by rfl) rfl ?_ ?_
   ·go_simp; (try simp only [i64_w])
    try (first | exact IntKind.wrap_u8 _ | rfl)
   refine hK.out _ _ ⟨v7, v13, v16, v18, v25, v28, v31, v34, v35, v36, (by rw [ha.out]; exact putSel_upk 1 hb_ rfl rfl rfl), (by rw [rsel_same rfl]; exact HO0), fun h0_ => absurd ((hoff 34 (by kernel_rfl)).symm.trans h0_) (by decide), fun h0_ => absurd ((hoff 36 (by kernel_rfl)).symm.trans h0_) (by decide)⟩
  refine steps_cons ?_ ?_
  ·skip
   rintro b a w1 ⟨v7, v13, v16, v18, v25, v28, v31, v34, v35, v36, ha, HO0, HN, HX⟩ hb_ hon hoff; refine ⟨_, rfl, fun K hK => ?_⟩; have e81 : a.tmps[81]? = some (.int .u8 (IntKind.u8.wrap (Go.bits .or .i64 64 (wrap64 5)))) := by rw [ha]; exact (putSel_off rfl).trans rfl
   have e84 : a.tmps[84]? = some (.int .u8 0) := by rw [ha]; exact putSel_on (e := (6, 84, .int .u8 0)) 1 rfl rfl (hon 6 (by kernel_rfl)) rfl
   replace ha := Aside0.mk ha; have HO := Aside0.mk HO0; refine ow_lit_step HO (by rfl) (N := 85) rfl ([IntKind.u8.wrap (Go.bits .or .i64 64 (wrap64 5)), 0] : List Int) [.int .u8 (IntKind.u8.wrap (Go.bits .or .i64 64 (wrap64 5))), .int .u8 (0)] ?hr ?hp (by simp) (fun v7 w2 HO1_ => ?_); (case hr => first | (go_simp; done) | (go_simp; simp only [IntKind.wrap_u8]; done) | (go_simp; rfl)); (case hp => exact Reps.one (show (fun (x : Int) (cs : List Value) => cs = [Value.int .u8 x]) (IntKind.u8.wrap (Go.bits .or .i64 64 (wrap64 5))) [.int .u8 (IntKind.u8.wrap (Go.bits .or .i64 64 (wrap64 5)))] from rfl) (Reps.one (show (fun (x : Int) (cs : List Value) => cs = [Value.int .u8 x]) (0) [.int .u8 (0)] from rfl) (Reps.none _ _)))
   rw [← NY7.out] at HO1_; refine hK.out _ _ ⟨v7, v13, v16, v18, v25, v28, v31, v34, v35, v36, (by rw [ha.out]; exact putSel_upk 2 hb_ rfl rfl rfl), (HO1_.out).selk 0 hb_ rfl rfl rfl, fun h0_ => absurd ((hoff 34 (by kernel_rfl)).symm.trans h0_) (by decide), fun h0_ => absurd ((hoff 36 (by kernel_rfl)).symm.trans h0_) (by decide)⟩
  refine steps_cons ?_ ?_
  ·skip
   rintro b a w1 ⟨v7, v13, v16, v18, v25, v28, v31, v34, v35, v36, ha, HO0, HN, HX⟩ hb_ hon hoff; refine ⟨_, rfl, fun K hK => ?_⟩; have e87 : a.tmps[87]? = some (.pointer (some ⟨g1, 10, none⟩)) := by rw [ha]; exact (putSel_off rfl).trans rfl
   replace ha := Aside0.mk ha; have HO := Aside0.mk HO0; have HF := HO.out.facts; simp only [OwnsM.Facts, and_true] at HF
   refine value_ (w1 := w1) (v := .slice Ad d.length cd) (by rfl) rfl ?_ ?_
   ·go_simp; (try simp only [i64_w])
    try (first | exact IntKind.wrap_u8 _ | rfl)
   refine hK.out _ _ ⟨v7, v13, v16, v18, v25, v28, v31, v34, v35, v36, (by rw [ha.out]; exact putSel_upk 3 hb_ rfl rfl rfl), (by rw [rsel_same rfl]; exact HO0), fun h0_ => absurd ((hoff 34 (by kernel_rfl)).symm.trans h0_) (by decide), fun h0_ => absurd ((hoff 36 (by kernel_rfl)).symm.trans h0_) (by decide)⟩
  refine steps_cons ?_ ?_
  ·skip
   rintro b a w1 ⟨v7, v13, v16, v18, v25, v28, v31, v34, v35, v36, ha, HO0, HN, HX⟩ hb_ hon hoff; refine ⟨_, rfl, fun K hK => ?_⟩; have e88 : a.tmps[88]? = some (.slice Ad d.length cd) := by rw [ha]; exact putSel_on (e := (10, 88, .slice Ad d.length cd)) 3 rfl rfl (hon 10 (by kernel_rfl)) rfl
   replace ha := Aside0.mk ha; have HO := Aside0.mk HO0; have HF := HO.out.facts; simp only [OwnsM.Facts, and_true] at HF
   refine value_ (w1 := w1) (v := .int .i64 (d.length : Int)) (by rfl) rfl ?_ ?_
   ·go_simp; (try simp only [i64_w])
    try (first | exact IntKind.wrap_u8 _ | rfl)
   refine hK.out _ _ ⟨v7, v13, v16, v18, v25, v28, v31, v34, v35, v36, (by rw [ha.out]; exact putSel_upk 4 hb_ rfl rfl rfl), (by rw [rsel_same rfl]; exact HO0), fun h0_ => absurd ((hoff 34 (by kernel_rfl)).symm.trans h0_) (by decide), fun h0_ => absurd ((hoff 36 (by kernel_rfl)).symm.trans h0_) (by decide)⟩
  refine steps_cons ?_ ?_
  ·skip
   rintro b a w1 ⟨v7, v13, v16, v18, v25, v28, v31, v34, v35, v36, ha, HO0, HN, HX⟩ hb_ hon hoff; refine ⟨_, rfl, fun K hK => ?_⟩; have e86 : a.tmps[86]? = some (.int .i64 20) := by rw [ha]; exact (putSel_off rfl).trans rfl
   have e89 : a.tmps[89]? = some (.int .i64 (d.length : Int)) := by rw [ha]; exact putSel_on (e := (11, 89, .int .i64 (d.length : Int))) 4 rfl rfl (hon 11 (by kernel_rfl)) rfl
   replace ha := Aside0.mk ha; have HO := Aside0.mk HO0; have HF := HO.out.facts; simp only [OwnsM.Facts, and_true] at HF
   refine value_ (w1 := w1) (v := .int .i64 (wrap64 (20 + (d.length : Int)))) (by rfl) rfl ?_ ?_
   ·go_simp; (try simp only [i64_w])
    try (first | exact IntKind.wrap_u8 _ | rfl)
   refine hK.out _ _ ⟨v7, v13, v16, v18, v25, v28, v31, v34, v35, v36, (by rw [ha.out]; exact putSel_upk 5 hb_ rfl rfl rfl), (by rw [rsel_same rfl]; exact HO0), fun h0_ => absurd ((hoff 34 (by kernel_rfl)).symm.trans h0_) (by decide), fun h0_ => absurd ((hoff 36 (by kernel_rfl)).symm.trans h0_) (by decide)⟩
  refine steps_cons ?_ ?_
  ·skip
   rintro b a w1 ⟨v7, v13, v16, v18, v25, v28, v31, v34, v35, v36, ha, HO0, HN, HX⟩ hb_ hon hoff; refine ⟨_, rfl, fun K hK => ?_⟩; have e90 : a.tmps[90]? = some (.int .i64 (wrap64 (20 + (d.length : Int)))) := by rw [ha]; exact putSel_on (e := (12, 90, .int .i64 (wrap64 (20 + (d.length : Int))))) 5 rfl rfl (hon 12 (by kernel_rfl)) rfl
   replace ha := Aside0.mk ha; have HO := Aside0.mk HO0; refine goes_ Try.func73 (by kernel_rfl) rfl #[.int .i64 (wrap64 (20 + (d.length : Int)))] (by rfl) rfl rfl (by first | (simp only [LmA, LmB, LmC, Act.eval, Array.getD_eq_getD_getElem?, Option.getD_some, e90]; done) | (simp only [LmA, LmB, LmC, Act.eval, Array.getD_eq_getD_getElem?, Option.getD_some, e90]; rfl)) ?_; refine (word_Put16.calls (wrap64 (20 + (d.length : Int))) p1 _ P1.out).mono ?_; rintro e w2 ⟨v13, rfl, h1, hb1⟩; refine ⟨_, rfl, ?_⟩; refine hK.out _ _ ⟨v7, v13, v16, v18, v25, v28, v31, v34, v35, v36, (by rw [ha.out]; exact putSel_upk 6 hb_ rfl rfl rfl), (HO.out.call1 hb1 h1).selk 1 hb_ rfl rfl rfl, fun h0_ => absurd ((hoff 34 (by kernel_rfl)).symm.trans h0_) (by decide), fun h0_ => absurd ((hoff 36 (by kernel_rfl)).symm.trans h0_) (by decide)⟩
  refine steps_cons ?_ ?_
  ·skip
   rintro b a w1 ⟨v7, v13, v16, v18, v25, v28, v31, v34, v35, v36, ha, HO0, HN, HX⟩ hb_ hon hoff; refine ⟨_, rfl, fun K hK => ?_⟩; have e92 : a.tmps[92]? = some (.pointer (some ⟨g1, 1, none⟩)) := by rw [ha]; exact (putSel_off rfl).trans rfl
   replace ha := Aside0.mk ha; have HO := Aside0.mk HO0; have HF := HO.out.facts; simp only [OwnsM.Facts, and_true] at HF
   refine value_ (w1 := w1) (v := .int .i64 0) (by rfl) rfl ?_ ?_
   ·go_simp; (try simp only [i64_w])
    try (first | exact IntKind.wrap_u8 _ | rfl)
   refine hK.out _ _ ⟨v7, v13, v16, v18, v25, v28, v31, v34, v35, v36, (by rw [ha.out]; exact putSel_upk 7 hb_ rfl rfl rfl), (by rw [rsel_same rfl]; exact HO0), fun h0_ => absurd ((hoff 34 (by kernel_rfl)).symm.trans h0_) (by decide), fun h0_ => absurd ((hoff 36 (by kernel_rfl)).symm.trans h0_) (by decide)⟩
  refine steps_cons ?_ ?_
  ·skip
   rintro b a w1 ⟨v7, v13, v16, v18, v25, v28, v31, v34, v35, v36, ha, HO0, HN, HX⟩ hb_ hon hoff; refine ⟨_, rfl, fun K hK => ?_⟩; have e93 : a.tmps[93]? = some (.int .i64 0) := by rw [ha]; exact putSel_on (e := (15, 93, .int .i64 0)) 7 rfl rfl (hon 15 (by kernel_rfl)) rfl
   replace ha := Aside0.mk ha; have HO := Aside0.mk HO0; refine goes_ Try.func73 (by kernel_rfl) rfl #[.int .i64 0] (by rfl) rfl rfl (by first | (simp only [LmA, LmB, LmC, Act.eval, Array.getD_eq_getD_getElem?, Option.getD_some, e93]; done) | (simp only [LmA, LmB, LmC, Act.eval, Array.getD_eq_getD_getElem?, Option.getD_some, e93]; rfl)) ?_; refine (word_Put16.calls 0 p2 _ P2.out).mono ?_; rintro e w2 ⟨v16, rfl, h1, hb1⟩; refine ⟨_, rfl, ?_⟩; refine hK.out _ _ ⟨v7, v13, v16, v18, v25, v28, v31, v34, v35, v36, (by rw [ha.out]; exact putSel_upk 8 hb_ rfl rfl rfl), (HO.out.call1 hb1 h1).selk 2 hb_ rfl rfl rfl, fun h0_ => absurd ((hoff 34 (by kernel_rfl)).symm.trans h0_) (by decide), fun h0_ => absurd ((hoff 36 (by kernel_rfl)).symm.trans h0_) (by decide)⟩
  refine steps_cons ?_ ?_
  ·skip
   rintro b a w1 ⟨v7, v13, v16, v18, v25, v28, v31, v34, v35, v36, ha, HO0, HN, HX⟩ hb_ hon hoff; refine ⟨_, rfl, fun K hK => ?_⟩; have e95 : a.tmps[95]? = some (.int .i64 0) := by rw [ha]; exact (putSel_off rfl).trans rfl
   replace ha := Aside0.mk ha; have HO := Aside0.mk HO0; refine goes_ Try.func73 (by kernel_rfl) rfl #[.int .i64 0] (by rfl) rfl rfl (by first | (simp only [LmA, LmB, LmC, Act.eval, Array.getD_eq_getD_getElem?, Option.getD_some, e95]; done) | (simp only [LmA, LmB, LmC, Act.eval, Array.getD_eq_getD_getElem?, Option.getD_some, e95]; rfl)) ?_; refine (word_Put16.calls 0 p3 _ P3.out).mono ?_; rintro e w2 ⟨v18, rfl, h1, hb1⟩; refine ⟨_, rfl, ?_⟩; refine hK.out _ _ ⟨v7, v13, v16, v18, v25, v28, v31, v34, v35, v36, (by rw [ha.out]; exact putSel_upk 9 hb_ rfl rfl rfl), (HO.out.call1 hb1 h1).selk 3 hb_ rfl rfl rfl, fun h0_ => absurd ((hoff 34 (by kernel_rfl)).symm.trans h0_) (by decide), fun h0_ => absurd ((hoff 36 (by kernel_rfl)).symm.trans h0_) (by decide)⟩
  refine steps_cons ?_ ?_
  ·skip
   rintro b a w1 ⟨v7, v13, v16, v18, v25, v28, v31, v34, v35, v36, ha, HO0, HN, HX⟩ hb_ hon hoff; refine ⟨_, rfl, fun K hK => ?_⟩; have e97 : a.tmps[97]? = some (.pointer (some ⟨g1, 5, none⟩)) := by rw [ha]; exact (putSel_off rfl).trans rfl
   replace ha := Aside0.mk ha; have HO := Aside0.mk HO0; have HF := HO.out.facts; simp only [OwnsM.Facts, and_true] at HF
   refine value_ (w1 := w1) (v := .int .i64 64) (by rfl) rfl ?_ ?_
   ·go_simp; (try simp only [i64_w])
    try (first | exact IntKind.wrap_u8 _ | rfl)
   refine hK.out _ _ ⟨v7, v13, v16, v18, v25, v28, v31, v34, v35, v36, (by rw [ha.out]; exact putSel_upk 10 hb_ rfl rfl rfl), (by rw [rsel_same rfl]; exact HO0), fun h0_ => absurd ((hoff 34 (by kernel_rfl)).symm.trans h0_) (by decide), fun h0_ => absurd ((hoff 36 (by kernel_rfl)).symm.trans h0_) (by decide)⟩
  refine steps_cons ?_ ?_
  ·skip
   rintro b a w1 ⟨v7, v13, v16, v18, v25, v28, v31, v34, v35, v36, ha, HO0, HN, HX⟩ hb_ hon hoff; refine ⟨_, rfl, fun K hK => ?_⟩; have e98 : a.tmps[98]? = some (.int .i64 64) := by rw [ha]; exact putSel_on (e := (20, 98, .int .i64 64)) 10 rfl rfl (hon 20 (by kernel_rfl)) rfl
   replace ha := Aside0.mk ha; have HO := Aside0.mk HO0; have HF := HO.out.facts; simp only [OwnsM.Facts, and_true] at HF
   refine value_ (w1 := w1) (v := .int .u8 64) (by rfl) rfl ?_ ?_
   ·go_simp; (try simp only [i64_w])
    try (first | exact IntKind.wrap_u8 _ | rfl)
   refine hK.out _ _ ⟨v7, v13, v16, v18, v25, v28, v31, v34, v35, v36, (by rw [ha.out]; exact putSel_upk 11 hb_ rfl rfl rfl), (by rw [rsel_same rfl]; exact HO0), fun h0_ => absurd ((hoff 34 (by kernel_rfl)).symm.trans h0_) (by decide), fun h0_ => absurd ((hoff 36 (by kernel_rfl)).symm.trans h0_) (by decide)⟩
  refine steps_cons ?_ ?_
  ·skip
   rintro b a w1 ⟨v7, v13, v16, v18, v25, v28, v31, v34, v35, v36, ha, HO0, HN, HX⟩ hb_ hon hoff; refine ⟨_, rfl, fun K hK => ?_⟩; have e100 : a.tmps[100]? = some (.pointer (some ⟨g1, 6, none⟩)) := by rw [ha]; exact (putSel_off rfl).trans rfl
   replace ha := Aside0.mk ha; have HO := Aside0.mk HO0; have HF := HO.out.facts; simp only [OwnsM.Facts, and_true] at HF
   refine value_ (w1 := w1) (v := .int .i64 6) (by rfl) rfl ?_ ?_
   ·go_simp; (try simp only [i64_w])
    try (first | exact IntKind.wrap_u8 _ | rfl)
   refine hK.out _ _ ⟨v7, v13, v16, v18, v25, v28, v31, v34, v35, v36, (by rw [ha.out]; exact putSel_upk 12 hb_ rfl rfl rfl), (by rw [rsel_same rfl]; exact HO0), fun h0_ => absurd ((hoff 34 (by kernel_rfl)).symm.trans h0_) (by decide), fun h0_ => absurd ((hoff 36 (by kernel_rfl)).symm.trans h0_) (by decide)⟩
  refine steps_cons ?_ ?_
  ·skip
   rintro b a w1 ⟨v7, v13, v16, v18, v25, v28, v31, v34, v35, v36, ha, HO0, HN, HX⟩ hb_ hon hoff; refine ⟨_, rfl, fun K hK => ?_⟩; have e101 : a.tmps[101]? = some (.int .i64 6) := by rw [ha]; exact putSel_on (e := (23, 101, .int .i64 6)) 12 rfl rfl (hon 23 (by kernel_rfl)) rfl
   replace ha := Aside0.mk ha; have HO := Aside0.mk HO0; have HF := HO.out.facts; simp only [OwnsM.Facts, and_true] at HF
   refine value_ (w1 := w1) (v := .int .u8 6) (by rfl) rfl ?_ ?_
   ·go_simp; (try simp only [i64_w])
    try (first | exact IntKind.wrap_u8 _ | rfl)
   refine hK.out _ _ ⟨v7, v13, v16, v18, v25, v28, v31, v34, v35, v36, (by rw [ha.out]; exact putSel_upk 13 hb_ rfl rfl rfl), (by rw [rsel_same rfl]; exact HO0), fun h0_ => absurd ((hoff 34 (by kernel_rfl)).symm.trans h0_) (by decide), fun h0_ => absurd ((hoff 36 (by kernel_rfl)).symm.trans h0_) (by decide)⟩
  refine steps_cons ?_ ?_
  ·skip
   rintro b a w1 ⟨v7, v13, v16, v18, v25, v28, v31, v34, v35, v36, ha, HO0, HN, HX⟩ hb_ hon hoff; refine ⟨_, rfl, fun K hK => ?_⟩; have e99 : a.tmps[99]? = some (.int .u8 64) := by rw [ha]; exact putSel_on (e := (21, 99, .int .u8 64)) 11 rfl rfl (hon 21 (by kernel_rfl)) rfl
   have e102 : a.tmps[102]? = some (.int .u8 6) := by rw [ha]; exact putSel_on (e := (24, 102, .int .u8 6)) 13 rfl rfl (hon 24 (by kernel_rfl)) rfl
   replace ha := Aside0.mk ha; have HO := Aside0.mk HO0; refine ow_lit_step HO (by rfl) (N := 103) rfl ([64, 6, 0, 0] : List Int) [.int .u8 (64), .int .u8 (6), .int .u8 (0), .int .u8 (0)] ?hr ?hp (by simp) (fun v25 w2 HO1_ => ?_); (case hr => first | (go_simp; done) | (go_simp; simp only [IntKind.wrap_u8]; done) | (go_simp; rfl)); (case hp => exact Reps.one (show (fun (x : Int) (cs : List Value) => cs = [Value.int .u8 x]) (64) [.int .u8 (64)] from rfl) (Reps.one (show (fun (x : Int) (cs : List Value) => cs = [Value.int .u8 x]) (6) [.int .u8 (6)] from rfl) (Reps.one (show (fun (x : Int) (cs : List Value) => cs = [Value.int .u8 x]) (0) [.int .u8 (0)] from rfl) (Reps.one (show (fun (x : Int) (cs : List Value) => cs = [Value.int .u8 x]) (0) [.int .u8 (0)] from rfl) (Reps.none _ _)))))
   rw [← NY25.out] at HO1_; refine hK.out _ _ ⟨v7, v13, v16, v18, v25, v28, v31, v34, v35, v36, (by rw [ha.out]; exact putSel_upk 14 hb_ rfl rfl rfl), (HO1_.out).selk 4 hb_ rfl rfl rfl, fun h0_ => absurd ((hoff 34 (by kernel_rfl)).symm.trans h0_) (by decide), fun h0_ => absurd ((hoff 36 (by kernel_rfl)).symm.trans h0_) (by decide)⟩
  refine steps_cons ?_ ?_
  ·skip
   rintro b a w1 ⟨v7, v13, v16, v18, v25, v28, v31, v34, v35, v36, ha, HO0, HN, HX⟩ hb_ hon hoff; refine ⟨_, rfl, fun K hK => ?_⟩; have e104 : a.tmps[104]? = some (.pointer (some ⟨g1, 7, none⟩)) := by rw [ha]; exact (putSel_off rfl).trans rfl
   replace ha := Aside0.mk ha; have HO := Aside0.mk HO0; have HF := HO.out.facts; simp only [OwnsM.Facts, and_true] at HF
   refine value_ (w1 := w1) (v := .int .u32 s) (by rfl) rfl ?_ ?_
   ·go_simp; (try simp only [i64_w])
    try (first | exact IntKind.wrap_u8 _ | rfl)
   refine hK.out _ _ ⟨v7, v13, v16, v18, v25, v28, v31, v34, v35, v36, (by rw [ha.out]; exact putSel_upk 15 hb_ rfl rfl rfl), (by rw [rsel_same rfl]; exact HO0), fun h0_ => absurd ((hoff 34 (by kernel_rfl)).symm.trans h0_) (by decide), fun h0_ => absurd ((hoff 36 (by kernel_rfl)).symm.trans h0_) (by decide)⟩
  refine steps_cons ?_ ?_
  ·skip
   rintro b a w1 ⟨v7, v13, v16, v18, v25, v28, v31, v34, v35, v36, ha, HO0, HN, HX⟩ hb_ hon hoff; refine ⟨_, rfl, fun K hK => ?_⟩; have e105 : a.tmps[105]? = some (.int .u32 s) := by rw [ha]; exact putSel_on (e := (27, 105, .int .u32 s)) 15 rfl rfl (hon 27 (by kernel_rfl)) rfl
   replace ha := Aside0.mk ha; have HO := Aside0.mk HO0; refine goes_ Try.func72 (by kernel_rfl) rfl #[.int .u32 s] (by rfl) rfl rfl (by first | (simp only [LmA, LmB, LmC, Act.eval, Array.getD_eq_getD_getElem?, Option.getD_some, e105]; done) | (simp only [LmA, LmB, LmC, Act.eval, Array.getD_eq_getD_getElem?, Option.getD_some, e105]; rfl)) ?_; refine (word_Put32.calls s p4 _ P4.out).mono ?_; rintro e w2 ⟨v28, rfl, h1, hb1⟩; refine ⟨_, rfl, ?_⟩; refine hK.out _ _ ⟨v7, v13, v16, v18, v25, v28, v31, v34, v35, v36, (by rw [ha.out]; exact putSel_upk 16 hb_ rfl rfl rfl), (HO.out.call1 hb1 h1).selk 5 hb_ rfl rfl rfl, fun h0_ => absurd ((hoff 34 (by kernel_rfl)).symm.trans h0_) (by decide), fun h0_ => absurd ((hoff 36 (by kernel_rfl)).symm.trans h0_) (by decide)⟩
  refine steps_cons ?_ ?_
  ·skip
   rintro b a w1 ⟨v7, v13, v16, v18, v25, v28, v31, v34, v35, v36, ha, HO0, HN, HX⟩ hb_ hon hoff; refine ⟨_, rfl, fun K hK => ?_⟩; have e107 : a.tmps[107]? = some (.pointer (some ⟨g1, 8, none⟩)) := by rw [ha]; exact (putSel_off rfl).trans rfl
   replace ha := Aside0.mk ha; have HO := Aside0.mk HO0; have HF := HO.out.facts; simp only [OwnsM.Facts, and_true] at HF
   refine value_ (w1 := w1) (v := .int .u32 t) (by rfl) rfl ?_ ?_
   ·go_simp; (try simp only [i64_w])
    try (first | exact IntKind.wrap_u8 _ | rfl)
   refine hK.out _ _ ⟨v7, v13, v16, v18, v25, v28, v31, v34, v35, v36, (by rw [ha.out]; exact putSel_upk 17 hb_ rfl rfl rfl), (by rw [rsel_same rfl]; exact HO0), fun h0_ => absurd ((hoff 34 (by kernel_rfl)).symm.trans h0_) (by decide), fun h0_ => absurd ((hoff 36 (by kernel_rfl)).symm.trans h0_) (by decide)⟩
  refine steps_cons ?_ ?_
  ·skip
   rintro b a w1 ⟨v7, v13, v16, v18, v25, v28, v31, v34, v35, v36, ha, HO0, HN, HX⟩ hb_ hon hoff; refine ⟨_, rfl, fun K hK => ?_⟩; have e108 : a.tmps[108]? = some (.int .u32 t) := by rw [ha]; exact putSel_on (e := (30, 108, .int .u32 t)) 17 rfl rfl (hon 30 (by kernel_rfl)) rfl
   replace ha := Aside0.mk ha; have HO := Aside0.mk HO0; refine goes_ Try.func72 (by kernel_rfl) rfl #[.int .u32 t] (by rfl) rfl rfl (by first | (simp only [LmA, LmB, LmC, Act.eval, Array.getD_eq_getD_getElem?, Option.getD_some, e108]; done) | (simp only [LmA, LmB, LmC, Act.eval, Array.getD_eq_getD_getElem?, Option.getD_some, e108]; rfl)) ?_; refine (word_Put32.calls t p5 _ P5.out).mono ?_; rintro e w2 ⟨v31, rfl, h1, hb1⟩; refine ⟨_, rfl, ?_⟩; refine hK.out _ _ ⟨v7, v13, v16, v18, v25, v28, v31, v34, v35, v36, (by rw [ha.out]; exact putSel_upk 18 hb_ rfl rfl rfl), (HO.out.call1 hb1 h1).selk 6 hb_ rfl rfl rfl, fun h0_ => absurd ((hoff 34 (by kernel_rfl)).symm.trans h0_) (by decide), fun h0_ => absurd ((hoff 36 (by kernel_rfl)).symm.trans h0_) (by decide)⟩
  refine steps_cons ?_ ?_
  ·skip
   rintro b a w1 ⟨v7, v13, v16, v18, v25, v28, v31, v34, v35, v36, ha, HO0, HN, HX⟩ hb_ hon hoff; refine ⟨_, rfl, fun K hK => ?_⟩; have e110 : a.tmps[110]? = some (.pointer (some ⟨g1, 9, none⟩)) := by rw [ha]; exact (putSel_off rfl).trans rfl
   replace ha := Aside0.mk ha; have HO := Aside0.mk HO0; have HF := HO.out.facts; simp only [OwnsM.Facts, and_true] at HF
   refine value_ (w1 := w1) (v := .slice none 0 0) (by rfl) rfl ?_ ?_
   ·go_simp; (try simp only [i64_w])
    try (first | exact IntKind.wrap_u8 _ | rfl)
   refine hK.out _ _ ⟨v7, v13, v16, v18, v25, v28, v31, v34, v35, v36, (by rw [ha.out]; exact putSel_upk 19 hb_ rfl rfl rfl), (by rw [rsel_same rfl]; exact HO0), fun h0_ => absurd ((hoff 34 (by kernel_rfl)).symm.trans h0_) (by decide), fun h0_ => absurd ((hoff 36 (by kernel_rfl)).symm.trans h0_) (by decide)⟩
  refine steps_cons ?_ ?_
  ·skip
   rintro b a w1 ⟨v7, v13, v16, v18, v25, v28, v31, v34, v35, v36, ha, HO0, HN, HX⟩ hb_ hon hoff; refine ⟨_, rfl, fun K hK => ?_⟩; have e85 : a.tmps[85]? = some (v7) := by rw [ha]; exact putSel_on (e := (7, 85, v7)) 2 rfl rfl (hon 7 (by kernel_rfl)) rfl
   have e91 : a.tmps[91]? = some (v13) := by rw [ha]; exact putSel_on (e := (13, 91, v13)) 6 rfl rfl (hon 13 (by kernel_rfl)) rfl
   have e94 : a.tmps[94]? = some (v16) := by rw [ha]; exact putSel_on (e := (16, 94, v16)) 8 rfl rfl (hon 16 (by kernel_rfl)) rfl
   have e96 : a.tmps[96]? = some (v18) := by rw [ha]; exact putSel_on (e := (18, 96, v18)) 9 rfl rfl (hon 18 (by kernel_rfl)) rfl
   have e103 : a.tmps[103]? = some (v25) := by rw [ha]; exact putSel_on (e := (25, 103, v25)) 14 rfl rfl (hon 25 (by kernel_rfl)) rfl
   have e106 : a.tmps[106]? = some (v28) := by rw [ha]; exact putSel_on (e := (28, 106, v28)) 16 rfl rfl (hon 28 (by kernel_rfl)) rfl
   have e109 : a.tmps[109]? = some (v31) := by rw [ha]; exact putSel_on (e := (31, 109, v31)) 18 rfl rfl (hon 31 (by kernel_rfl)) rfl
   have e111 : a.tmps[111]? = some (.slice none 0 0) := by rw [ha]; exact putSel_on (e := (33, 111, .slice none 0 0)) 19 rfl rfl (hon 33 (by kernel_rfl)) rfl
   replace ha := Aside0.mk ha; have HO := Aside0.mk HO0; have hb7_ := hon 7 (by kernel_rfl); have hb13_ := hon 13 (by kernel_rfl); have hb16_ := hon 16 (by kernel_rfl); have hb18_ := hon 18 (by kernel_rfl); have hb25_ := hon 25 (by kernel_rfl); have hb28_ := hon 28 (by kernel_rfl); have hb31_ := hon 31 (by kernel_rfl); have hb35_ := hoff 35 (by kernel_rfl); have HQ := HO0; simp only [rsel, hb13_, hb16_, hb18_, hb25_, hb28_, hb31_, hb35_, hb7_, if_true, Bool.false_eq_true, if_false] at HQ; obtain ⟨A7_, c7_, rfl⟩ := Kd.R_slice (HQ.row 0 rfl); obtain ⟨A13_, c13_, rfl⟩ := Kd.R_slice (HQ.row 1 rfl); obtain ⟨A16_, c16_, rfl⟩ := Kd.R_slice (HQ.row 2 rfl); obtain ⟨A18_, c18_, rfl⟩ := Kd.R_slice (HQ.row 3 rfl); obtain ⟨A25_, c25_, rfl⟩ := Kd.R_slice (HQ.row 4 rfl); obtain ⟨A28_, c28_, rfl⟩ := Kd.R_slice (HQ.row 5 rfl); obtain ⟨A31_, c31_, rfl⟩ := Kd.R_slice (HQ.row 6 rfl); replace HQ := Aside0.mk HQ; refine litN_step (by rfl) (N' := 112) rfl (xs := ([y7, p1, p2, p3, y25, p4, p5, ([] : List Int)] : List (List Int))) (inner := [.slice A7_ y7.length c7_, .slice A13_ p1.length c13_, .slice A16_ p2.length c16_, .slice A18_ p3.length c18_, .slice A25_ y25.length c25_, .slice A28_ p4.length c28_, .slice A31_ p5.length c31_, .slice none 0 0]) ?hr ?hp (by simp) ?_; (case hr => first | (go_simp; done) | (go_simp; rfl)); (case hp => exact Reps.one (show Kd.FK (Kd.slice 5 (Kd.int .u8)) _ (fun _ => True) y7 [.slice A7_ y7.length c7_] from (HQ.out.fk 0 rfl)) (Reps.one (show Kd.FK (Kd.slice 5 (Kd.int .u8)) _ (fun _ => True) p1 [.slice A13_ p1.length c13_] from (HQ.out.fk 1 rfl)) (Reps.one (show Kd.FK (Kd.slice 5 (Kd.int .u8)) _ (fun _ => True) p2 [.slice A16_ p2.length c16_] from (HQ.out.fk 2 rfl)) (Reps.one (show Kd.FK (Kd.slice 5 (Kd.int .u8)) _ (fun _ => True) p3 [.slice A18_ p3.length c18_] from (HQ.out.fk 3 rfl)) (Reps.one (show Kd.FK (Kd.slice 5 (Kd.int .u8)) _ (fun _ => True) y25 [.slice A25_ y25.length c25_] from (HQ.out.fk 4 rfl)) (Reps.one (show Kd.FK (Kd.slice 5 (Kd.int .u8)) _ (fun _ => True) p4 [.slice A28_ p4.length c28_] from (HQ.out.fk 5 rfl)) (Reps.one (show Kd.FK (Kd.slice 5 (Kd.int .u8)) _ (fun _ => True) p5 [.slice A31_ p5.length c31_] from (HQ.out.fk 6 rfl)) (Reps.one (show Kd.FK (Kd.slice 5 (Kd.int .u8)) _ (fun _ => True) ([] : List Int) [.slice none 0 0] from (fk_nil _)) (Reps.none _ _)))))))))
   intro A_ c_ w2 hb1 hC hle; rw [← NYN.out] at hC hle ⊢; refine hK.out _ _ ⟨.slice A7_ y7.length c7_, .slice A13_ p1.length c13_, .slice A16_ p2.length c16_, .slice A18_ p3.length c18_, .slice A25_ y25.length c25_, .slice A28_ p4.length c28_, .slice A31_ p5.length c31_, .slice A_ yn.length c_, v35, v36, (by rw [ha.out]; exact putSel_upk 20 hb_ rfl rfl rfl), (by rw [rsel_same rfl]; exact HO0.step hb1), fun _ _ => ⟨A_, c_, rfl, hle, hC⟩, fun h0_ => absurd ((hoff 36 (by kernel_rfl)).symm.trans h0_) (by decide)⟩
  refine steps_cons ?_ ?_
  ·skip
   rintro b a w1 ⟨v7, v13, v16, v18, v25, v28, v31, v34, v35, v36, ha, HO0, HN, HX⟩ hb_ hon hoff; refine ⟨_, rfl, fun K hK => ?_⟩; have e112 : a.tmps[112]? = some (v34) := by rw [ha]; exact putSel_on (e := (34, 112, v34)) 20 rfl rfl (hon 34 (by kernel_rfl)) rfl
   replace ha := Aside0.mk ha; have HO := Aside0.mk HO0; obtain ⟨A_, c_, rfl, hle, hC⟩ := HN (hon 34 (by kernel_rfl)) hb_; refine goes_ Try.func71 (by kernel_rfl) rfl #[.slice A_ yn.length c_] (by rfl) rfl rfl (by first | (simp only [LmA, LmB, LmC, Act.eval, Array.getD_eq_getD_getElem?, Option.getD_some, e112]; done) | (simp only [LmA, LmB, LmC, Act.eval, Array.getD_eq_getD_getElem?, Option.getD_some, e112]; rfl)) ?_; refine (word_Join.calls k _ _ yn jn _ hC hle PJ2.out).mono ?_; rintro e w2 ⟨v35, rfl, h1, hb1⟩; refine ⟨_, rfl, ?_⟩; refine hK.out _ _ ⟨v7, v13, v16, v18, v25, v28, v31, .slice A_ yn.length c_, v35, v36, (by rw [ha.out]; exact putSel_upk 21 hb_ rfl rfl rfl), (HO.out.call1 hb1 h1).selk 7 hb_ rfl rfl rfl, fun _ h1_ => absurd ((up_self b 35).symm.trans h1_) (by decide), fun h0_ => absurd ((hoff 36 (by kernel_rfl)).symm.trans h0_) (by decide)⟩
  refine steps_cons ?_ ?_
  ·skip
   rintro b a w1 ⟨v7, v13, v16, v18, v25, v28, v31, v34, v35, v36, ha, HO0, HN, HX⟩ hb_ hon hoff; refine ⟨_, rfl, fun K hK => ?_⟩; have e113 : a.tmps[113]? = some (v35) := by rw [ha]; exact putSel_on (e := (35, 113, v35)) 21 rfl rfl (hon 35 (by kernel_rfl)) rfl
   replace ha := Aside0.mk ha; have HO := Aside0.mk HO0; refine value_ (w1 := w1) (v := v35) (by rfl) rfl ?_ ?_
   ·go_simp; (try simp only [i64_w])
    try rfl
   refine hK.out _ _ ⟨v7, v13, v16, v18, v25, v28, v31, v34, v35, v35, (by rw [ha.out]; exact putSel_upk 22 hb_ rfl rfl rfl), (by rw [rsel_same rfl]; exact HO0), fun _ h1_ => absurd ((hon 35 (by kernel_rfl)).symm.trans h1_) (by decide), fun _ => rfl⟩
  exact steps_nil
 rintro b a w1 hall ⟨v7, v13, v16, v18, v25, v28, v31, v34, v35, v36, ha, HO, HN, HX⟩; have hb5_ := hall 5 (by kernel_rfl); have hb6_ := hall 6 (by kernel_rfl); have hb7_ := hall 7 (by kernel_rfl); have hb10_ := hall 10 (by kernel_rfl); have hb11_ := hall 11 (by kernel_rfl); have hb12_ := hall 12 (by kernel_rfl); have hb13_ := hall 13 (by kernel_rfl); have hb15_ := hall 15 (by kernel_rfl); have hb16_ := hall 16 (by kernel_rfl); have hb18_ := hall 18 (by kernel_rfl); have hb20_ := hall 20 (by kernel_rfl); have hb21_ := hall 21 (by kernel_rfl); have hb23_ := hall 23 (by kernel_rfl); have hb24_ := hall 24 (by kernel_rfl); have hb25_ := hall 25 (by kernel_rfl); have hb27_ := hall 27 (by kernel_rfl); have hb28_ := hall 28 (by kernel_rfl); have hb30_ := hall 30 (by kernel_rfl); have hb31_ := hall 31 (by kernel_rfl); have hb33_ := hall 33 (by kernel_rfl); have hb34_ := hall 34 (by kernel_rfl); have hb35_ := hall 35 (by kernel_rfl); have hb36_ := hall 36 (by kernel_rfl); subst ha; obtain rfl := HX hb36_; clear HN HX; simp only [rsel, hb7_, hb13_, hb16_, hb18_, hb25_, hb28_, hb31_, hb35_, if_true] at HO; simp only [putSel, hb5_, hb6_, hb7_, hb10_, hb11_, hb12_, hb13_, hb15_, hb16_, hb18_, hb20_, hb21_, hb23_, hb24_, hb25_, hb27_, hb28_, hb30_, hb31_, hb33_, hb34_, hb35_, hb36_, if_true, Act.put, LsA, LsB, LsC]; clear hb5_ hb6_ hb7_ hb10_ hb11_ hb12_ hb13_ hb15_ hb16_ hb18_ hb20_ hb21_ hb23_ hb24_ hb25_ hb27_ hb28_ hb30_ hb31_ hb33_ hb34_ hb35_ hb36_ hall; replace HO := Aside0.mk HO; replace HO := Aside0.mk (HO.out.keep1 7 rfl); have e1 := E1.out; obtain ⟨gs, cs_, es⟩ := HO.out.rowform 0 rfl (by omega); subst es; have qc_ : jn.length ≤ cs_ := HO.out.cap 0 rfl; have qs_ : (10 : Int) ≤ (jn.length : Int) := by omega
 have qd_ : ¬ (cs_ = 10) := by omega
 have qe_ : ¬ (10 = cs_) := by omega
 have qf_ : ¬ (cs_ ≤ 10) := by omega
 have qg_ : (10 < cs_) = True := eq_true (by omega)
 try go_upto_region 12 with (fail)
 have HO1_ := Aside0.mk HO.out.drew; clear HO; have HO := HO1_; clear HO1_; refine start_ (n := 7) (S := fun w' => True) (ds := []) (bm 7 0) (by kernel_rfl) rfl rfl trivial (fun hHeld => ?_); generalize w1.drew = w1 at HO hHeld ⊢; refine pure_ (i := 0) (N := some 114) (v := ?_) (a' := ?_) (bm 7 1) rfl rfl (by kernel_rfl) (fun _ _ _ h => h) (Or.inl ⟨by rfl, ?_⟩) ?_ ?_; rotate_left
 ·intro w'; go_simp; with_reducible rfl
 rotate_left
 ·simp only [Act.put, LsA, LsB, LsC, i64_w, i32_w]; rfl
 refine pure_ (i := 1) (N := some 115) (v := ?_) (a' := ?_) (bm 7 3) rfl rfl (by kernel_rfl) (fun _ _ _ h => h) (Or.inl ⟨by rfl, ?_⟩) ?_ ?_; rotate_left
 ·intro w'; go_simp; with_reducible rfl
 rotate_left
 ·simp only [Act.put, LsA, LsB, LsC, i64_w, i32_w]; rfl
 refine pure_ (i := 2) (N := some 116) (v := ?_) (a' := ?_) (bm 7 7) rfl rfl (by kernel_rfl) (fun _ _ _ h => h) (Or.inl ⟨by rfl, ?_⟩) ?_ ?_; rotate_left
 ·intro w'; go_simp; with_reducible rfl
 rotate_left
 ·simp only [Act.put, LsA, LsB, LsC, i64_w, i32_w]; rfl
 clear qd_ qe_ qf_ qg_; refine chain_ [3, 4, 5, 6] rfl (by kernel_rfl) (by kernel_rfl) ?_; simp only [List.filterMap_cons, List.filterMap_nil, List.getElem?_toArray, List.getElem?_cons_succ, List.getElem?_cons_zero]; refine litN rfl (N' := 117) rfl (xs := ([jn] : List (List Int))) (inner := [.slice (some ⟨gs, 0, none⟩) jn.length cs_]) ?hr ?hp (by simp) ?_; (case hr => first | (go_simp; done) | (go_simp; rfl)); (case hp => exact Reps.one (show Kd.FK (Kd.slice 5 (Kd.int .u8)) _ (fun _ => True) jn [.slice (some ⟨gs, 0, none⟩) jn.length cs_] from HO.out.fk 0 rfl) (Reps.none _ _))
 intro A_ c_ w2 hb1 hC hle; replace HO := Aside0.mk (HO.out.step hb1); clear hb1; simp only [Act.put, LsA, LsB, LsC, i64_w, i32_w]; refine goesL_ (some 118) rfl rfl Try.func74 (by kernel_rfl) rfl #[.slice A_ ([jn] : List (List Int)).length c_] rfl (by (try simp only [LmA, LmB, LmC]); first | done | rfl | (simp only [LdA, LtA]; rfl)) ?_; refine (sum_Of.calls k _ _ [jn] ck _ hC hle PC.out).mono ?_; rintro e w1 ⟨rfl, hd_⟩; refine ⟨_, rfl, ?_⟩; replace HO := Aside0.mk (HO.out.drawn hd_); clear hd_ hC hle
 simp only [Act.put, LsA, LsB, LsC, i64_w, i32_w]; refine goesL_ (some 119) rfl rfl Try.func73 (by kernel_rfl) rfl #[.int .i64 ck] rfl (by (try simp only [LmA, LmB, LmC]); first | done | rfl | (simp only [LdA, LtA]; rfl)) ?_; refine (word_Put16.calls ck q _ PQ.out).mono ?_; rintro e w2 ⟨v1, rfl, h1, hb1⟩; obtain ⟨Aq, cq, rfl⟩ := Kd.R_slice h1; refine ⟨_, rfl, ?_⟩; replace HO := Aside0.mk (HO.out.call1 hb1 h1); clear h1 hb1
 simp only [Act.put, LsA, LsB, LsC, i64_w, i32_w]; refine ow_copy2 HO rfl (.tmp 115) (.tmp 119) 24 rfl Try.underlying24 (by kernel_rfl) 1 0 rfl rfl 10 (jn.length - 10) (cs_ - 10) ?hd ?hdn rfl E2.out ?hat ?_; (case hd => rfl); (case hdn => omega); (case hat => omega); clear HO; intro w1 HO; simp only [LsB, LsC] at HO; rw [← NJ2.out] at HO
 try simp only [Act.put, LsA, LsB, LsC, i64_w, i32_w]
 have HF := HO.out.facts; simp only [OwnsM.Facts, and_true] at HF
 go_wp2_with (first | ((with_reducible refine gate_builtin (b := .append) (xs := #[.tmp 121, .tmp 123]) rfl ?_); at_builtin; refine ow_app HO rfl 1 rfl (.tmp 121) (.tmp 123) 24 rfl Try.underlying24 info5 rfl rfl (HO.out.old HR0.out) (LM.out) ?_; clear HO HF; intro v1 w1 HO; simp only [LsB, LsC] at HO; rw [← NYR.out] at HO; replace HO := Aside0.mk (HO.out.keep1 1 rfl); obtain ⟨Ayr, cyr, rfl⟩ := Kd.R_slice (HO.out.row 0 rfl); have HF := HO.out.facts; simp only [OwnsM.Facts, and_true] at HF))
 go_ret2
 exact ⟨_, rfl, HO.out.row 0 rfl, HO.out.below⟩

/-! ### word_at: function 75 -/
def word_at.f (l0 : List Int) (a1 : Int) (a2 : Int) : Option (Int) := if a1 < (wrap64 (-a2)) then (some 0) else (if a1 ≥ (wrap64 ((l0.length : Int) - a2)) then (some 0) else (if 0 ≤ (wrap64 (a1 + a2)) then (if (wrap64 (a1 + a2)) < (l0.length : Int) then (some (rd l0 (wrap64 (a1 + a2)))) else (none)) else (none)))
set_option maxHeartbeats 8000000 in
set_option maxRecDepth 100000 in
theorem word_at.calls (A0 : Option Addr) (c0 : Nat) (l0 : List Int) (a1 : Int) (a2 : Int) (r : Int) (w : World) (hr0 : Kd.C (Kd.int .u8) w A0 l0.length l0) (hc0 : l0.length ≤ c0) (h : word_at.f l0 a1 a2 = some r) :
  Calls Try.prog 75 #[.slice A0 l0.length c0, .int .i64 a1, .int .i64 a2] w fun e w' => e = .returned (.int .u8 r) ∧ Drawn0 w w' := by
 have HR0 := Aside0.mk hr0; have HC0 := Aside0.mk hc0; clear hr0 hc0; have H : (if a1 < (wrap64 (-a2)) then (some 0) else (if a1 ≥ (wrap64 ((l0.length : Int) - a2)) then (some 0) else (if 0 ≤ (wrap64 (a1 + a2)) then (if (wrap64 (a1 + a2)) < (l0.length : Int) then (some (rd l0 (wrap64 (a1 + a2)))) else (none)) else (none)))) = some r := h; clear h
 by_cases c4 : a1 < (wrap64 (-a2))
 ·rw [if_pos c4] at H; have c4b0 : decide (a1 < (wrap64 (-a2))) = true := decide_eq_true c4; clear c4; obtain rfl := Option.some.inj H; go_enter Try.func75, Try.ntmps75; go_wp2; go_ret; exact ⟨by first | rfl | (simp; done) | (simp [*]; done), by repeat (first | exact Drawn0.refl _ | apply Drawn0.step)⟩
 ·rw [if_neg c4] at H; have c4b0 : decide (a1 < (wrap64 (-a2))) = false := decide_eq_false c4; clear c4
  by_cases c5 : a1 ≥ (wrap64 ((l0.length : Int) - a2))
  ·rw [if_pos c5] at H; have c5b0 : decide ((wrap64 ((l0.length : Int) - a2)) ≤ a1) = true := decide_eq_true c5; clear c5; obtain rfl := Option.some.inj H; go_enter Try.func75, Try.ntmps75; go_wp2; go_ret; exact ⟨by first | rfl | (simp; done) | (simp [*]; done), by repeat (first | exact Drawn0.refl _ | apply Drawn0.step)⟩
  ·rw [if_neg c5] at H; have c5b0 : decide ((wrap64 ((l0.length : Int) - a2)) ≤ a1) = false := decide_eq_false c5; clear c5
   obtain ⟨ji6, hji6⟩ : ∃ j_ : Int, (wrap64 (a1 + a2)) = j_ := ⟨_, rfl⟩
   replace H : (if 0 ≤ (ji6) then (if (ji6) < (l0.length : Int) then (some (rd l0 (ji6))) else (none)) else (none)) = some r := by first | (rw [hji6] at H; exact H) | (simp only [hji6] at H ⊢; exact H)
   have hji6w : (IntKind.i64.wrap (a1 + a2)) = ji6 := (i64_w _).trans hji6
   by_cases c7 : 0 ≤ (ji6)
   ·rw [if_pos c7] at H; have c7b0 : decide (0 ≤ (ji6)) = true := decide_eq_true c7; clear c7
    by_cases c8 : (ji6) < (l0.length : Int)
    ·rw [if_pos c8] at H; have c8b0 : decide ((ji6) < (l0.length : Int)) = true := decide_eq_true c8; clear c8; obtain rfl := Option.some.inj H; have p502 : 0 ≤ ((ji6) : Int) := of_decide_eq_true (by first | (with_reducible assumption) | assumption); have q502 : (ji6) < (l0.length : Int) := of_decide_eq_true (by first | (with_reducible assumption) | assumption); obtain ⟨ad502, e502, hx502_0⟩ := Kd.at_int HR0.out (ji6) p502 q502; cases e502; replace p502 := eq_true p502; replace q502 := eq_true q502; go_enter Try.func75, Try.ntmps75; go_wp2; go_ret; exact ⟨by first | rfl | (simp; done) | (simp only [← hji6] <;> (first | rfl | simp)) | (simp [*]; done), by repeat (first | exact Drawn0.refl _ | apply Drawn0.step)⟩
    ·rw [if_neg c8] at H; exact absurd H (by simp)
   ·rw [if_neg c7] at H; exact absurd H (by simp)

/-! ### word_Get16: function 49 -/
def word_Get16.f (l0 : List Int) (a1 : Int) : Option (Int) := (word_at.f l0 a1 0).bind fun t503 => ((word_at.f l0 a1 1).bind fun t504 => (some (Go.bits .or .i64 (wrap64 ((wrap64 (t503)) * 256)) (wrap64 (t504)))))
set_option maxHeartbeats 8000000 in
set_option maxRecDepth 100000 in
theorem word_Get16.calls (A0 : Option Addr) (c0 : Nat) (l0 : List Int) (a1 : Int) (r : Int) (w : World) (hr0 : Kd.C (Kd.int .u8) w A0 l0.length l0) (hc0 : l0.length ≤ c0) (h : word_Get16.f l0 a1 = some r) :
  Calls Try.prog 49 #[.slice A0 l0.length c0, .int .i64 a1] w fun e w' => e = .returned (.int .i64 r) ∧ Drawn0 w w' := by
 have HR0 := Aside0.mk hr0; have HC0 := Aside0.mk hc0; clear hr0 hc0; have H : ((word_at.f l0 a1 0).bind fun t503 => ((word_at.f l0 a1 1).bind fun t504 => (some (Go.bits .or .i64 (wrap64 ((wrap64 (t503)) * 256)) (wrap64 (t504)))))) = some r := h; clear h; replace H := Option.bind_eq_some_iff.mp H; obtain ⟨t503, A30, H⟩ := H; replace H : ((word_at.f l0 a1 1).bind fun t504 => (some (Go.bits .or .i64 (wrap64 ((wrap64 (t503)) * 256)) (wrap64 (t504))))) = some r := H; have A3 := Aside0.mk A30; clear A30; replace H := Option.bind_eq_some_iff.mp H; obtain ⟨t504, A40, H⟩ := H; replace H : (some (Go.bits .or .i64 (wrap64 ((wrap64 (t503)) * 256)) (wrap64 (t504)))) = some r := H; have A4 := Aside0.mk A40; clear A40; obtain rfl := Option.some.inj H; go_enter Try.func49, Try.ntmps49
 go_wp2_with (first | ((with_reducible refine gate_callee (f := 75) rfl ?_); refine goesL_ (some 7) rfl rfl Try.func75 (by kernel_rfl) rfl #[.slice A0 l0.length c0, .int .i64 a1, .int .i64 0] rfl (by (try simp only [LmA, LmB, LmC]); first | done | rfl | (simp only [LdA, LtA]; rfl)) ?_; (with_reducible refine (word_at.calls _ _ l0 a1 0 t503 _ ?side1 ?side2 A3.out).mono ?_); (case side1 => repeat (first | exact HR0.out | (with_reducible refine Kd.C_alloc ?_ _) | (with_reducible refine Kd.C_drewN ?_ _) | (with_reducible refine Kd.C_drew ?_))); (case side2 => exact HC0.out); rintro e w' ⟨rfl, ⟨nd, rfl⟩⟩; refine ⟨_, rfl, ?_⟩) | ((with_reducible refine gate_callee (f := 75) rfl ?_); refine goesL_ (some 12) rfl rfl Try.func75 (by kernel_rfl) rfl #[.slice A0 l0.length c0, .int .i64 a1, .int .i64 1] rfl (by (try simp only [LmA, LmB, LmC]); first | done | rfl | (simp only [LdA, LtA]; rfl)) ?_; (with_reducible refine (word_at.calls _ _ l0 a1 1 t504 _ ?side1 ?side2 A4.out).mono ?_); (case side1 => repeat (first | exact HR0.out | (with_reducible refine Kd.C_alloc ?_ _) | (with_reducible refine Kd.C_drewN ?_ _) | (with_reducible refine Kd.C_drew ?_))); (case side2 => exact HC0.out); rintro e w' ⟨rfl, ⟨nd, rfl⟩⟩; refine ⟨_, rfl, ?_⟩))
 go_ret; exact ⟨by first | rfl | (simp; done) | (simp [*]; done), by repeat (first | exact Drawn0.refl _ | apply Drawn0.step)⟩

/-! ### word_Get32: function 69 -/
def word_Get32.l0 : Nat → List Int → Int → Int → Int → Option (Int)
 | 0, _, _, _, _ => none
 | k + 1, x0, x1, x5, x7 => if x7 < 4 then ((word_at.f x0 x1 x7).bind fun t505 => (word_Get32.l0 k x0 x1 (Go.bits .or .u32 ((x5 * 256) % 4294967296) ((t505) % 4294967296)) (wrap64 (x7 + 1)))) else (some x5)
def word_Get32.f (k : Nat) (l0 : List Int) (a1 : Int) : Option (Int) := word_Get32.l0 k l0 a1 0 0
theorem word_Get32.mono_l : ∀ k, (∀ y0 y1 y2 y3, LeO (word_Get32.l0 k y0 y1 y2 y3) (word_Get32.l0 (k + 1) y0 y1 y2 y3))
 | 0 => fun _ _ _ _ r h => by simp [word_Get32.l0] at h
 | k + 1 => by
  have ih0 := word_Get32.mono_l k
  ·intro y0 y1 y2 y3; unfold word_Get32.l0
   repeat' first
   | (with_reducible exact ih0 _ _ _ _)
   | (with_reducible exact LeO.refl _)
   | (with_reducible exact LeO.none _)
   | (with_reducible refine LeO.ite ?_ ?_)
   | (with_reducible refine LeO.bind ?_ (fun _ => ?_))
   | exact ih0 _ _ _ _
   | exact LeO.none _
   | refine LeO.ite ?_ ?_
   | refine LeO.bind ?_ (fun _ => ?_)
theorem word_Get32.mono : ∀ a0 a1 k, LeO (word_Get32.f k a0 a1) (word_Get32.f (k + 1) a0 a1) := by
 intro a0 a1 k; have ih0 := word_Get32.mono_l k; unfold word_Get32.f
 repeat' first
   | (with_reducible exact ih0 _ _ _ _)
   | (with_reducible exact LeO.refl _)
   | (with_reducible exact LeO.none _)
   | (with_reducible refine LeO.ite ?_ ?_)
   | (with_reducible refine LeO.bind ?_ (fun _ => ?_))
   | exact ih0 _ _ _ _
   | exact LeO.none _
   | refine LeO.ite ?_ ?_
   | refine LeO.bind ?_ (fun _ => ?_)
set_option maxHeartbeats 8000000 in
set_option maxRecDepth 100000 in
theorem word_Get32.calls (k : Nat) (A0 : Option Addr) (c0 : Nat) (l0 : List Int) (a1 : Int) (r : Int) (w : World) (hr0 : Kd.C (Kd.int .u8) w A0 l0.length l0) (hc0 : l0.length ≤ c0) (h : word_Get32.f k l0 a1 = some r) :
  Calls Try.prog 69 #[.slice A0 l0.length c0, .int .i64 a1] w fun e w' => e = .returned (.int .u32 r) ∧ Drawn0 w w' := by
 have HR0 := Aside0.mk hr0; have HC0 := Aside0.mk hc0; clear hr0 hc0; have H : (word_Get32.l0 k l0 a1 0 0) = some r := h; clear h; have H' := Aside0.mk H; clear H; go_enter Try.func69, Try.ntmps69; go_wp2
 go_loopg [5, 7] k (fun kq v5 v7 w' => ∃ (x5_1 : Int) (x7_1 : Int), v5 = .int .u32 x5_1 ∧ v7 = .int .i64 x7_1 ∧ Aside0 (word_Get32.l0 kq l0 a1 x5_1 x7_1 = some r) ∧ Aside0 (kq ≤ k) ∧ Drawn0 w w')
 case atStart => exact ⟨(0), (0), (by first | rfl | (simp; done) | (simp [*]; done)), (by first | rfl | (simp; done) | (simp [*]; done)), H', ⟨Nat.le_refl _⟩, by repeat (first | exact Drawn0.refl _ | apply Drawn0.step)⟩
 case round =>
  clear H'
  try clear p2
  obtain ⟨x5_1, x7_1, rfl, rfl, HA, HK1, ⟨m1, rfl⟩⟩ := hrel
  cases gk with
  | zero => exact absurd HA.out (by simp [word_Get32.l0])
  | succ k1 =>
   have H := HA.out; clear HA; simp only [word_Get32.l0] at H
   by_cases c3 : x7_1 < 4
   ·rw [if_pos c3] at H; have c3b0 : decide (x7_1 < 4) = true := decide_eq_true c3; clear c3; replace H := Option.bind_eq_some_iff.mp H; obtain ⟨t505, A40, H⟩ := H; replace H : (word_Get32.l0 k1 l0 a1 (Go.bits .or .u32 ((x5_1 * 256) % 4294967296) ((t505) % 4294967296)) (wrap64 (x7_1 + 1))) = some r := H; have A4 := Aside0.mk A40; clear A40; have H' := Aside0.mk H; clear H
    go_wp2_with (first | ((with_reducible refine gate_callee (f := 75) rfl ?_); refine goesL_ (some 15) rfl rfl Try.func75 (by kernel_rfl) rfl #[.slice A0 l0.length c0, .int .i64 a1, .int .i64 x7_1] rfl (by (try simp only [LmA, LmB, LmC]); first | done | rfl | (simp only [LdA, LtA]; rfl)) ?_; (with_reducible refine (word_at.calls _ _ l0 a1 x7_1 t505 _ ?side1 ?side2 A4.out).mono ?_); (case side1 => repeat (first | exact HR0.out | (with_reducible refine Kd.C_alloc ?_ _) | (with_reducible refine Kd.C_drewN ?_ _) | (with_reducible refine Kd.C_drew ?_))); (case side2 => exact HC0.out); rintro e w' ⟨rfl, ⟨nd, rfl⟩⟩; refine ⟨_, rfl, ?_⟩))
    go_roundg k1
    case measure => have := HK1.out; omega
    case rel => exact ⟨(Go.bits .or .u32 ((x5_1 * 256) % 4294967296) ((t505) % 4294967296)), (wrap64 (x7_1 + 1)), (by first | rfl | (simp; done) | (simp [*]; done)), (by first | rfl | (simp; done) | (simp [*]; done)), H', ⟨by have := HK1.out; omega⟩, by repeat (first | exact Drawn0.refl _ | apply Drawn0.step)⟩
   ·rw [if_neg c3] at H; have c3b0 : decide (x7_1 < 4) = false := decide_eq_false c3; clear c3; obtain rfl := Option.some.inj H; go_wp2; go_ret; exact ⟨by first | rfl | (simp; done) | (simp [*]; done), by repeat (first | exact Drawn0.refl _ | apply Drawn0.step)⟩

/-! ### bytes_Clone: function 70 -/
def bytes_Clone.f (l0 : List Int) : Option (List Int) := (some (([] : List Int) : List Int)).bind fun y506 => (if y506.length + l0.length < 140737488355328 then (some (y506 ++ l0)) else (none))
set_option maxHeartbeats 8000000 in
set_option maxRecDepth 100000 in
theorem bytes_Clone.calls (A0 : Option Addr) (c0 : Nat) (l0 : List Int) (r : List Int) (w : World) (hr0 : Kd.C (Kd.int .u8) w A0 l0.length l0) (hc0 : l0.length ≤ c0) (h : bytes_Clone.f l0 = some r) :
  Calls Try.prog 70 #[.slice A0 l0.length c0] w fun e w' => ∃ v0_ : Value, e = .returned (v0_) ∧ Kd.R (Kd.int .u8) 5 w' w.heap.size (fun _ => True) v0_ r ∧ Below w.heap.size w w' := by
 have HR0 := Aside0.mk hr0; have HC0 := Aside0.mk hc0; clear hr0 hc0; have HB := Aside0.mk (Below.refl w.heap.size w); have H : ((some (([] : List Int) : List Int)).bind fun y506 => (if y506.length + l0.length < 140737488355328 then (some (y506 ++ l0)) else (none))) = some r := h; clear h
 obtain ⟨y506, hy506⟩ : ∃ y_ : List Int, y_ = (([] : List Int)) := ⟨_, rfl⟩
 replace H : (if y506.length + l0.length < 140737488355328 then (some (y506 ++ l0)) else (none)) = some r := by first | (rw [hy506]; with_reducible exact H) | (have H2_ := (Option.bind_some _ _).symm.trans H; rw [hy506]; with_reducible exact H2_) | (have H2_ := (Option.bind_some _ _).symm.trans H; with_reducible exact H2_) | with_reducible exact H | (rw [hy506]; exact H) | exact H
 have Ny506 := Aside0.mk hy506; clear hy506
 by_cases c2 : y506.length + l0.length < 140737488355328
 ·rw [if_pos c2] at H; have LMc2 := Aside0.mk c2; clear c2
  obtain ⟨y509, hy509⟩ : ∃ y_ : List Int, y_ = (y506 ++ l0) := ⟨_, rfl⟩
  replace H : (some y509) = some r := by first | (rw [hy509]; with_reducible exact H) | (have H2_ := (Option.bind_some _ _).symm.trans H; rw [hy509]; with_reducible exact H2_) | (have H2_ := (Option.bind_some _ _).symm.trans H; with_reducible exact H2_) | with_reducible exact H | (rw [hy509]; exact H) | exact H
  have Ny509 := Aside0.mk hy509; clear hy509; obtain rfl := Option.some.inj H
  rcases A0 with _ | ad0
  ·obtain ⟨hn0, hl0⟩ := C_none HR0.out; have hq0 := run_isNil (P := Try.prog) Try.underlying24 none l0.length c0; rw [hn0] at hq0 ⊢; have hr0 : y509 = [] := by rw [Ny509.out, Ny506.out, hl0]; rfl
   rw [hr0]; clear hn0 hl0 hr0; go_enter Try.func70, Try.ntmps70; go_wp2; go_ret; exact ⟨_, rfl, Kd.R_nil _ _ _ _ _, HB.out⟩
  ·have hq0 := run_isNil (P := Try.prog) Try.underlying24 (some ad0) l0.length c0; go_enter Try.func70, Try.ntmps70
   go_wp2_with (first | ((with_reducible refine gate_dst (N := 5) rfl ?_); refine Kd.R_lit (Kd.int .u8) _ 5 ?hg (N := 5) ?hd (xs := ([] : List Int)) (inner := []) (ok := fun _ => True) (okp := fun _ => True) ?hr ?hp (fun _ hk => hk) trivial (Below.refl _ _) (Nat.le_refl _) (by simp) ?_; (case hd => rfl); (case hg => rfl); (case hr => first | (go_simp; done) | (go_simp; rfl)); (case hp => exact (Reps.none _ _)); intro v507 w3 ho4 hb hg_ hnew_; clear hg_ hnew_; (first | rw [← Ny506.out] at ho4 | (simp only [Int.reduceToNat] at ho4; rw [← Ny506.out] at ho4)); have n0_ := Aside0.mk (Kd.R_lower ho4 (below_size (by repeat (first | (with_reducible first | exact HB.out | apply below_alloc | apply pw_below_drewN | apply below_drew1) | exact HB.out)))); have n1_ := Aside0.mk (below_step (by repeat (first | (with_reducible first | exact HB.out | apply below_alloc | apply pw_below_drewN | apply below_drew1) | exact HB.out)) hb); clear HB; have HO508 := n0_; have HB := n1_; clear n0_ n1_; clear hb ho4) | ((with_reducible refine gate_builtin (b := .append) (xs := #[.tmp 5, .tmp 6]) rfl ?_); at_builtin; refine Kd.R_append_rows (Kd.int .u8) (w0 := w) w.heap.size rfl (.tmp 5) (.tmp 6) 24 5 (.int .u8 0) 1 rfl Try.underlying24 info5 rfl (by decide) (by omega) v507 y506 l0 _ _ _ (fun _ => True) (fun _ => False) rfl rfl ?aO ?aR (fun _ _ h => h) (fun _ h => h.elim) ?aF ?aB ?aS ?aL ?_; (case aR => repeat (first | exact (Kd.C_below HR0.out HB.out) | (with_reducible refine Kd.C_alloc ?_ _) | (with_reducible refine Kd.C_drewN ?_ _) | (with_reducible refine Kd.C_drew ?_))); (case aB => exact (by repeat (first | (with_reducible first | exact HB.out | apply below_alloc | apply pw_below_drewN | apply below_drew1) | exact HB.out))); (case aF => exact (fun _ _ => trivial)); (case aO => exact (by (with_reducible repeat (first | apply Kd.R_alloc | apply Kd.R_drewN | apply Kd.R_drew)); exact HO508.out)); (case aS => exact (below_size (by repeat (first | (with_reducible first | exact HB.out | apply below_alloc | apply pw_below_drewN | apply below_drew1) | exact HB.out)))); (case aL => have := LMc2.out; omega); intro v510 w5 ho hb hg hat; rw [← Ny509.out] at ho; have n0_ := Aside0.mk (hb); have n1_ := Aside0.mk (ho); clear HB; clear HO508; have HB := n0_; have HO511 := n1_; clear n0_ n1_; clear ho hb hg hat))
   go_ret; exact ⟨_, by first | rfl | (simp [errW_none, errW_some] <;> rfl) | (simp [*, errW_none, errW_some] <;> rfl), by (with_reducible repeat (first | apply Kd.R_alloc | apply Kd.R_drewN | apply Kd.R_drew)); exact HO511.out, by repeat (first | (with_reducible first | exact HB.out | apply below_alloc | apply pw_below_drewN | apply below_drew1) | exact HB.out)⟩
 ·rw [if_neg c2] at H; exact absurd H (by simp)

end Go.Proofs.Ytkdibloahkhgoaa.QReplyResets
