-- written by myprint.py, a program of this session's over the kit's printer
import Derived.Test.YtkdibloahkhgoaaQPackPortsx0
import Derived.Test.YtkdibloahkhgoaaQPackPortsx2
import Derived.Test.YtkdibloahkhgoaaQPackPortsx7
import Derived.Test.YtkdibloahkhgoaaQPackPortsx8
import Derived.Test.YtkdibloahkhgoaaQPackPortsx9
namespace Go.Proofs.Ytkdibloahkhgoaa.QPackPorts
open Go.RowKit Go.Proofs.YtkdibloahkhgoaaW.PrintWords Go.Proofs.YtkdibloahkhgoaaW.PrintLast Go.Proofs.YtkdibloahkhgoaaW.PrintMore
attribute [local go_sem] max2_int min2_int max_two min_two max_three min_three max_four min_four   -- for this text's walks alone
set_option linter.unusedVariables false
set_option linter.unusedSimpArgs false

/-! ### pack_Parse: function 35 -/
set_option maxHeartbeats 8000000 in
set_option maxRecDepth 100000 in
/-- why a first fragment can't be looked at -/
theorem short_hand (g : Nat) (t1 t2 : Int) (t3 t4 : Bool) (t5 t6 t7 t8 t9 : Int) (Ao : Option Addr) (no co : Nat) (Ad : Option Addr) (cd : Nat) (d : List Int) (cl a b fl ty co_ : Int) (vi : Option Addr) (w : World) (hb : w.heap[g]? = some (.cells #[.int .i64 t1, .int .i64 t2, .bool t3, .bool t4, .int .i64 t5, .int .i64 t6, .int .i64 t7, .int .u32 t8, .int .u32 t9, .slice Ao no co, .slice Ad d.length cd, .int .i64 cl, .int .i64 a, .int .i64 b, .int .i64 fl, .int .i64 ty, .int .i64 co_, .pointer vi] 29 (0, 0))) :
    Calls Try.prog 84 #[.pointer (some ⟨g, 0, none⟩)] w fun e w' => e = .returned (.int .i64 (if (d.length : Int) < 8 then 3 else 0)) ∧ w = w' := by
  have HF := fun j => cell_of_row w g j _ _ _ hb
  clear hb
  by_cases c1 : (d.length : Int) < 8
  · have c1b0 : decide ((d.length : Int) < 8) = true := decide_eq_true c1
    have c1b1 : decide (d.length < 8) = true := decide_eq_true (by omega)
    rw [if_pos c1]
    go_enter Try.func84, Try.ntmps84
    go_wp2
    go_ret
    exact ⟨rfl, rfl⟩
  · have c1b0 : decide ((d.length : Int) < 8) = false := decide_eq_false c1
    have c1b1 : decide (d.length < 8) = false := decide_eq_false (by omega)
    rw [if_neg c1]
    go_enter Try.func84, Try.ntmps84
    go_wp2
    go_ret
    exact ⟨rfl, rfl⟩
def ofTCP.T3 : Bool × List (List Nat × List Nat) := (true, [([], []), ([], []), ([], []), ([], []), ([3], [3]), ([], []), ([5], [5]), ([], []), ([7], [7]), ([0, 0, 3, 4], [0]), ([9, 0, 3, 4], [9]), ([10, 4, 0, 3, 4], [4, 10]), ([1, 0, 1, 3, 4, 5, 6, 9, 10, 11], [1]), ([12, 0, 1, 3, 4, 5, 6, 9, 10, 11], [12]), ([13, 6, 11, 0, 1, 3, 4, 5, 6, 9, 10, 11], [6, 13]), ([2, 0, 1, 2, 3, 4, 5, 6, 7, 8, 9, 10, 11, 12, 13, 14], [2]), ([15, 0, 1, 2, 3, 4, 5, 6, 7, 8, 9, 10, 11, 12, 13, 14], [15]), ([16, 8, 14, 0, 1, 2, 3, 4, 5, 6, 7, 8, 9, 10, 11, 12, 13, 14], [8, 16])])
def ofTCP.B3 : List Nat := [0, 0, 0, 0, 8, 0, 32, 0, 128, 25, 537, 1561, 3707, 7803, 15995, 32767, 65535, 131071]
theorem ofTCP.tab3 : rtab .any (opsOf Try.f61 3) = ofTCP.T3 := by kernel_rfl
theorem ofTCP.bits3 : waitsOk ofTCP.T3.2 ofTCP.B3 = true := by kernel_rfl
set_option maxHeartbeats 8000000 in
set_option maxRecDepth 100000 in
/-- looks at a segment -/
theorem ofTCP_hand (k : Nat) (g : Nat) (t1 t2 : Int) (t3 t4 : Bool) (t5 t6 t7 t8 t9 : Int) (Ao : Option Addr) (no co : Nat) (Ad : Option Addr) (cd : Nat) (d : List Int) (cl a b fl ty co_ : Int) (vi : Option Addr) (s1 s2 s3 s4 s5 s6 s7 : Int) (s8 s9 : List Int) (s10 : Int) (w : World) (hb0 : w.heap[g]? = some (.cells #[.int .i64 t1, .int .i64 t2, .bool t3, .bool t4, .int .i64 t5, .int .i64 t6, .int .i64 t7, .int .u32 t8, .int .u32 t9, .slice Ao no co, .slice Ad d.length cd, .int .i64 cl, .int .i64 a, .int .i64 b, .int .i64 fl, .int .i64 ty, .int .i64 co_, .pointer vi] 29 (0, 0))) (hr : Kd.C (Kd.int .u8) w Ad d.length d) (hc : d.length ≤ cd) (hs0 : tcp_Parse.f k d = some (s1, s2, s3, s4, s5, s6, s7, s8, s9, s10)) :
    Calls Try.prog 61 #[.pointer (some ⟨g, 0, none⟩)] w fun e w' => e = .returned (.int .i64 s10) ∧ Turned w w' g #[.int .i64 t1, .int .i64 t2, .bool t3, .bool t4, .int .i64 t5, .int .i64 t6, .int .i64 t7, .int .u32 t8, .int .u32 t9, .slice Ao no co, .slice Ad d.length cd, .int .i64 cl, .int .i64 (if s10 = 0 then s1 else a), .int .i64 (if s10 = 0 then s2 else b), .int .i64 (if s10 = 0 then s5 else fl), .int .i64 ty, .int .i64 co_, .pointer vi] 29 := by
  have HO := Aside0.mk (OwnsM.one hb0 rfl)
  have hb := Aside0.mk hb0
  have hs := Aside0.mk hs0
  clear hb0 hs0
  have HF := HO.out.facts; simp only [OwnsM.Facts, and_true] at HF
  by_cases c1 : s10 = 0
  · skip
    have c1b0 : (s10 == 0) = true := beq_iff_eq.mpr c1
    have c1b1 : (s10 != 0) = false := bne_eq_false_iff_eq.mpr c1
    rw [if_pos c1, if_pos c1, if_pos c1]
    clear c1
    go_enter Try.func61, Try.ntmps61
    go_upto_region 3 with (first | ((with_reducible refine gate_callee (f := 58) rfl ?_); refine goesL_ (some 11) rfl rfl Try.func58 (by kernel_rfl) rfl #[.slice Ad d.length cd] rfl (by (try simp only [List.map_toArray, List.map_cons, List.map_nil]); first | done | rfl | (simp only [List.length_drop, List.length_take]; rfl)) ?_; refine (tcp_Parse.calls k _ _ d s1 s2 s3 s4 s5 s6 s7 s8 s9 s10 _ (HO.out.oldm hr hb.out (fun v hv x e => by subst e; simp at hv)) hc hs.out).mono ?_; rintro e w1 ⟨v1, v2, rfl, h1, h2, hb1⟩; obtain ⟨Ax, cx, rfl⟩ := Kd.R_slice h1; obtain ⟨Ay, cy, rfl⟩ := Kd.R_slice h2; refine ⟨_, rfl, ?_⟩; replace HO := Aside0.mk (HO.out.call2 hb1 h1 h2); clear hb1 h1 h2; clear HF; have HF := HO.out.facts; simp only [OwnsM.Facts, and_true] at HF) | ((with_reducible refine gate_dst (N := 3) rfl ?_); refine ow_box HO rfl (N := 3) rfl #[.int .i64 0, .int .i64 0, .int .u32 0, .int .u32 0, .int .i64 0, .int .i64 0, .int .i64 0, .slice none 0 0, .slice none 0 0] 59 ?hr rfl ?_; (case hr => first | (go_simp; done) | (go_simp; rfl)); clear HO HF; intro g3 w1 HO; have HF := HO.out.facts; simp only [OwnsM.Facts, and_true] at HF) | ((with_reducible refine gate_store (p := 3) rfl ?_); (first | refine ow_put HO rfl rfl 0 rfl (ty := 59) rfl _ rfl rfl (by kernel_rfl) rfl rfl ?_); clear HO HF; intro w1 HO; simp only [List.set_cons_zero, List.set_cons_succ, List.setIfInBounds_toArray] at HO; have HF := HO.out.facts; simp only [OwnsM.Facts, and_true] at HF))
    have HO1_ := Aside0.mk HO.out.drew
    clear HO HF
    have HO := HO1_
    clear HO1_
    refine start_ (n := 18) (S := fun w' => w'.cell? ⟨g3, 0, none⟩ = some (.int .i64 s1) ∧ w'.cell? ⟨g3, 1, none⟩ = some (.int .i64 s2) ∧ w'.cell? ⟨g3, 4, none⟩ = some (.int .i64 s5)) (ds := [17]) #[false, false, false, false, false, false, false, false, false, false, false, false, false, false, false, false, false, false] (by kernel_rfl) rfl rfl ⟨(HO.out.cell 0 0 rfl rfl), (HO.out.cell 0 1 rfl rfl), (HO.out.cell 0 4 rfl rfl)⟩ (fun hHeld => ?_); refine with_tabW ofTCP.tab3 ofTCP.bits3 (fun HT_ HW_ => ?_)
    generalize w1.drew = w1 at HO hHeld ⊢
    refine pure_ (i := 0) (N := some 16) (v := ?_) (a' := ?_) #[true, false, false, false, false, false, false, false, false, false, false, false, false, false, false, false, false, false] rfl rfl (any_of HT_.out (by kernel_rfl)) (fun _ _ _ h => h) (Or.inl ⟨by rfl, ?_⟩) ?_ ?_
    rotate_left
    · intro w'
      go_simp
      with_reducible rfl
    rotate_left
    · simp only [Act.put, List.setIfInBounds_toArray, List.set_cons_zero, List.set_cons_succ, i64_w, i32_w]
      rfl
    refine pure_ (i := 1) (N := some 17) (v := ?_) (a' := ?_) #[true, true, false, false, false, false, false, false, false, false, false, false, false, false, false, false, false, false] rfl rfl (any_of HT_.out (by kernel_rfl)) (fun _ _ _ h => h) (Or.inl ⟨by rfl, ?_⟩) ?_ ?_
    rotate_left
    · intro w'
      go_simp
      with_reducible rfl
    rotate_left
    · simp only [Act.put, List.setIfInBounds_toArray, List.set_cons_zero, List.set_cons_succ, i64_w, i32_w]
      rfl
    refine pure_ (i := 2) (N := some 18) (v := ?_) (a' := ?_) #[true, true, true, false, false, false, false, false, false, false, false, false, false, false, false, false, false, false] rfl rfl (any_of HT_.out (by kernel_rfl)) (fun _ _ _ h => h) (Or.inl ⟨by rfl, ?_⟩) ?_ ?_
    rotate_left
    · intro w'
      go_simp
      with_reducible rfl
    rotate_left
    · simp only [Act.put, List.setIfInBounds_toArray, List.set_cons_zero, List.set_cons_succ, i64_w, i32_w]
      rfl
    refine pure_ (i := 3) (N := some 19) (v := ?_) (a' := ?_) #[true, true, true, true, false, false, false, false, false, false, false, false, false, false, false, false, false, false] rfl rfl (any_of HT_.out (by kernel_rfl)) (fun _ _ _ h => h) (Or.inl ⟨by rfl, ?_⟩) ?_ ?_
    rotate_left
    · intro w'
      go_simp
      with_reducible rfl
    rotate_left
    · simp only [Act.put, List.setIfInBounds_toArray, List.set_cons_zero, List.set_cons_succ, i64_w, i32_w]
      rfl
    refine pure_ (i := 5) (N := some 21) (v := ?_) (a' := ?_) #[true, true, true, true, false, true, false, false, false, false, false, false, false, false, false, false, false, false] rfl rfl (any_of HT_.out (by kernel_rfl)) (fun _ _ _ h => h) (Or.inl ⟨by rfl, ?_⟩) ?_ ?_
    rotate_left
    · intro w'
      go_simp
      with_reducible rfl
    rotate_left
    · simp only [Act.put, List.setIfInBounds_toArray, List.set_cons_zero, List.set_cons_succ, i64_w, i32_w]
      rfl
    refine pure_ (i := 7) (N := some 23) (v := ?_) (a' := ?_) #[true, true, true, true, false, true, false, true, false, false, false, false, false, false, false, false, false, false] rfl rfl (any_of HT_.out (by kernel_rfl)) (fun _ _ _ h => h) (Or.inl ⟨by rfl, ?_⟩) ?_ ?_
    rotate_left
    · intro w'
      go_simp
      with_reducible rfl
    rotate_left
    · simp only [Act.put, List.setIfInBounds_toArray, List.set_cons_zero, List.set_cons_succ, i64_w, i32_w]
      rfl
    refine take_ (i := 4) (N := some 20) (v := ?_) (a' := ?_) #[true, true, true, true, true, true, false, true, false, false, false, false, false, false, false, false, false, false] rfl rfl (take_ofW HT_.out HW_.out (by kernel_rfl)) (fun _ _ _ h => h) (Or.inl ⟨by rfl, ?_⟩) hHeld ?_ ?_
    rotate_left
    · rintro w' ⟨s0, s1, s2⟩
      go_simp
      with_reducible rfl
    rotate_left
    · simp only [Act.put, List.setIfInBounds_toArray, List.set_cons_zero, List.set_cons_succ, i64_w, i32_w]
      rfl
    refine pure_ (i := 9) (N := some 25) (v := ?_) (a' := ?_) #[true, true, true, true, true, true, false, true, false, true, false, false, false, false, false, false, false, false] rfl rfl (any_of HT_.out (by kernel_rfl)) (fun _ _ _ h => h) (Or.inl ⟨by rfl, ?_⟩) ?_ ?_
    rotate_left
    · intro w'
      go_simp
      with_reducible rfl
    rotate_left
    · simp only [Act.put, List.setIfInBounds_toArray, List.set_cons_zero, List.set_cons_succ, i64_w, i32_w]
      rfl
    refine pure_ (i := 10) (N := some 26) (v := ?_) (a' := ?_) #[true, true, true, true, true, true, false, true, false, true, true, false, false, false, false, false, false, false] rfl rfl (any_of HT_.out (by kernel_rfl)) (fun _ _ _ h => h) (Or.inl ⟨by rfl, ?_⟩) ?_ ?_
    rotate_left
    · intro w'
      go_simp
      with_reducible rfl
    rotate_left
    · simp only [Act.put, List.setIfInBounds_toArray, List.set_cons_zero, List.set_cons_succ, i64_w, i32_w]
      rfl
    refine take_ (i := 6) (N := some 22) (v := ?_) (a' := ?_) #[true, true, true, true, true, true, true, true, false, true, true, false, false, false, false, false, false, false] rfl rfl (take_ofW HT_.out HW_.out (by kernel_rfl)) (fun _ _ _ h => h) (Or.inl ⟨by rfl, ?_⟩) hHeld ?_ ?_
    rotate_left
    · rintro w' ⟨s0, s1, s2⟩
      go_simp
      with_reducible rfl
    rotate_left
    · simp only [Act.put, List.setIfInBounds_toArray, List.set_cons_zero, List.set_cons_succ, i64_w, i32_w]
      rfl
    refine take_ (i := 8) (N := some 24) (v := ?_) (a' := ?_) #[true, true, true, true, true, true, true, true, true, true, true, false, false, false, false, false, false, false] rfl rfl (take_ofW HT_.out HW_.out (by kernel_rfl)) (fun _ _ _ h => h) (Or.inl ⟨by rfl, ?_⟩) hHeld ?_ ?_
    rotate_left
    · rintro w' ⟨s0, s1, s2⟩
      go_simp
      with_reducible rfl
    rotate_left
    · simp only [Act.put, List.setIfInBounds_toArray, List.set_cons_zero, List.set_cons_succ, i64_w, i32_w]
      rfl
    refine one_ (i := 11) (N := none) #[true, true, true, true, true, true, true, true, true, true, true, true, false, false, false, false, false, false] rfl rfl (one_of HT_.out (by kernel_rfl)) (by decide) (fun K hK => ?_)
    have HF := HO.out.facts; simp only [OwnsM.Facts, and_true] at HF
    refine ow_putc_step HO (by rfl) rfl 1 rfl 12 ?_ ?hr (fun w1 HO1_ => ?_); (case hr => first | (go_simp; done) | (go_simp; rfl))
    clear HO
    have HO := HO1_
    clear HO1_
    simp only [List.set_cons_zero, List.set_cons_succ, List.setIfInBounds_toArray] at HO
    clear HF
    refine hK.out _ _ ⟨(HO.out.cell 0 0 rfl rfl), (HO.out.cell 0 1 rfl rfl), (HO.out.cell 0 4 rfl rfl)⟩ (fun hHeld => ?_)
    clear hK K
    refine pure_ (i := 12) (N := some 27) (v := ?_) (a' := ?_) #[true, true, true, true, true, true, true, true, true, true, true, true, true, false, false, false, false, false] rfl rfl (any_of HT_.out (by kernel_rfl)) (fun _ _ _ h => h) (Or.inl ⟨by rfl, ?_⟩) ?_ ?_
    rotate_left
    · intro w'
      go_simp
      with_reducible rfl
    rotate_left
    · simp only [Act.put, List.setIfInBounds_toArray, List.set_cons_zero, List.set_cons_succ, i64_w, i32_w]
      rfl
    refine pure_ (i := 13) (N := some 28) (v := ?_) (a' := ?_) #[true, true, true, true, true, true, true, true, true, true, true, true, true, true, false, false, false, false] rfl rfl (any_of HT_.out (by kernel_rfl)) (fun _ _ _ h => h) (Or.inl ⟨by rfl, ?_⟩) ?_ ?_
    rotate_left
    · intro w'
      go_simp
      with_reducible rfl
    rotate_left
    · simp only [Act.put, List.setIfInBounds_toArray, List.set_cons_zero, List.set_cons_succ, i64_w, i32_w]
      rfl
    refine one_ (i := 14) (N := none) #[true, true, true, true, true, true, true, true, true, true, true, true, true, true, true, false, false, false] rfl rfl (one_of HT_.out (by kernel_rfl)) (by decide) (fun K hK => ?_)
    have HF := HO.out.facts; simp only [OwnsM.Facts, and_true] at HF
    refine ow_putc_step HO (by rfl) rfl 1 rfl 13 ?_ ?hr (fun w1 HO1_ => ?_); (case hr => first | (go_simp; done) | (go_simp; rfl))
    clear HO
    have HO := HO1_
    clear HO1_
    simp only [List.set_cons_zero, List.set_cons_succ, List.setIfInBounds_toArray] at HO
    clear HF
    refine hK.out _ _ ⟨(HO.out.cell 0 0 rfl rfl), (HO.out.cell 0 1 rfl rfl), (HO.out.cell 0 4 rfl rfl)⟩ (fun hHeld => ?_)
    clear hK K
    refine pure_ (i := 15) (N := some 29) (v := ?_) (a' := ?_) #[true, true, true, true, true, true, true, true, true, true, true, true, true, true, true, true, false, false] rfl rfl (any_of HT_.out (by kernel_rfl)) (fun _ _ _ h => h) (Or.inl ⟨by rfl, ?_⟩) ?_ ?_
    rotate_left
    · intro w'
      go_simp
      with_reducible rfl
    rotate_left
    · simp only [Act.put, List.setIfInBounds_toArray, List.set_cons_zero, List.set_cons_succ, i64_w, i32_w]
      rfl
    refine pure_ (i := 16) (N := some 30) (v := ?_) (a' := ?_) #[true, true, true, true, true, true, true, true, true, true, true, true, true, true, true, true, true, false] rfl rfl (any_of HT_.out (by kernel_rfl)) (fun _ _ _ h => h) (Or.inl ⟨by rfl, ?_⟩) ?_ ?_
    rotate_left
    · intro w'
      go_simp
      with_reducible rfl
    rotate_left
    · simp only [Act.put, List.setIfInBounds_toArray, List.set_cons_zero, List.set_cons_succ, i64_w, i32_w]
      rfl
    refine last_ (i := 17) (N := none) #[true, true, true, true, true, true, true, true, true, true, true, true, true, true, true, true, true, true] rfl rfl (one_of HT_.out (by kernel_rfl)) (by decide) (fun K hK => ?_)
    have HF := HO.out.facts; simp only [OwnsM.Facts, and_true] at HF
    refine ow_putc_step HO (by rfl) rfl 1 rfl 14 ?_ ?hr (fun w1 HO1_ => ?_); (case hr => first | (go_simp; done) | (go_simp; rfl))
    clear HO
    have HO := HO1_
    clear HO1_
    simp only [List.set_cons_zero, List.set_cons_succ, List.setIfInBounds_toArray] at HO
    clear HF
    refine hK.out _ _ ?_
    clear hK K
    refine done_ (done_of HT_.out (by kernel_rfl)) ?_
    have HF := HO.out.facts; simp only [OwnsM.Facts, and_true] at HF
    go_wp2
    go_ret
    exact ⟨rfl, HO.out.turned 1 rfl⟩
  · skip
    have c1b0 : (s10 == 0) = false := beq_eq_false_iff_ne.mpr c1
    have c1b1 : (s10 != 0) = true := bne_iff_ne.mpr c1
    rw [if_neg c1, if_neg c1, if_neg c1]
    go_enter Try.func61, Try.ntmps61
    go_wp2_with (first | ((with_reducible refine gate_callee (f := 58) rfl ?_); refine goesL_ (some 11) rfl rfl Try.func58 (by kernel_rfl) rfl #[.slice Ad d.length cd] rfl (by (try simp only [List.map_toArray, List.map_cons, List.map_nil]); first | done | rfl | (simp only [List.length_drop, List.length_take]; rfl)) ?_; refine (tcp_Parse.calls k _ _ d s1 s2 s3 s4 s5 s6 s7 s8 s9 s10 _ (HO.out.oldm hr hb.out (fun v hv x e => by subst e; simp at hv)) hc hs.out).mono ?_; rintro e w1 ⟨v1, v2, rfl, h1, h2, hb1⟩; obtain ⟨Ax, cx, rfl⟩ := Kd.R_slice h1; obtain ⟨Ay, cy, rfl⟩ := Kd.R_slice h2; refine ⟨_, rfl, ?_⟩; replace HO := Aside0.mk (HO.out.call2 hb1 h1 h2); clear hb1 h1 h2; clear HF; have HF := HO.out.facts; simp only [OwnsM.Facts, and_true] at HF) | ((with_reducible refine gate_dst (N := 3) rfl ?_); refine ow_box HO rfl (N := 3) rfl #[.int .i64 0, .int .i64 0, .int .u32 0, .int .u32 0, .int .i64 0, .int .i64 0, .int .i64 0, .slice none 0 0, .slice none 0 0] 59 ?hr rfl ?_; (case hr => first | (go_simp; done) | (go_simp; rfl)); clear HO HF; intro g3 w1 HO; have HF := HO.out.facts; simp only [OwnsM.Facts, and_true] at HF) | ((with_reducible refine gate_store (p := 3) rfl ?_); (first | refine ow_put HO rfl rfl 0 rfl (ty := 59) rfl _ rfl rfl (by kernel_rfl) rfl rfl ?_); clear HO HF; intro w1 HO; simp only [List.set_cons_zero, List.set_cons_succ, List.setIfInBounds_toArray] at HO; have HF := HO.out.facts; simp only [OwnsM.Facts, and_true] at HF))
    go_ret
    exact ⟨rfl, HO.out.turned 1 rfl⟩
set_option maxHeartbeats 8000000 in
set_option maxRecDepth 100000 in
/-- looks at a datagram -/
theorem ofUDP_hand (g : Nat) (t1 t2 : Int) (t3 t4 : Bool) (t5 t6 t7 t8 t9 : Int) (Ao : Option Addr) (no co : Nat) (Ad : Option Addr) (cd : Nat) (d : List Int) (cl a b fl ty co_ : Int) (vi : Option Addr) (u1 u2 : Int) (u3 : List Int) (u4 p1 p2 : Int) (w : World) (hb0 : w.heap[g]? = some (.cells #[.int .i64 t1, .int .i64 t2, .bool t3, .bool t4, .int .i64 t5, .int .i64 t6, .int .i64 t7, .int .u32 t8, .int .u32 t9, .slice Ao no co, .slice Ad d.length cd, .int .i64 cl, .int .i64 a, .int .i64 b, .int .i64 fl, .int .i64 ty, .int .i64 co_, .pointer vi] 29 (0, 0))) (hr : Kd.C (Kd.int .u8) w Ad d.length d) (hc : d.length ≤ cd) (hs0 : udp_Parse.f d = some (u1, u2, u3, u4)) (hp0 : pack_ports.f d = some (p1, p2)) :
    Calls Try.prog 62 #[.pointer (some ⟨g, 0, none⟩)] w fun e w' => e = .returned (.int .i64 (if cl = 1 then (if (d.length : Int) < 8 then 3 else 0) else u4)) ∧ Turned w w' g #[.int .i64 t1, .int .i64 t2, .bool t3, .bool t4, .int .i64 t5, .int .i64 t6, .int .i64 t7, .int .u32 t8, .int .u32 t9, .slice Ao no co, .slice Ad d.length cd, .int .i64 cl, .int .i64 (if (if cl = 1 then (if (d.length : Int) < 8 then 3 else 0) else u4) = 0 then p1 else a), .int .i64 (if (if cl = 1 then (if (d.length : Int) < 8 then 3 else 0) else u4) = 0 then p2 else b), .int .i64 fl, .int .i64 ty, .int .i64 co_, .pointer vi] 29 := by
  have HO := Aside0.mk (OwnsM.one hb0 rfl)
  have hb := Aside0.mk hb0
  have hs := Aside0.mk hs0
  have hp := Aside0.mk hp0
  clear hb0 hs0 hp0
  have HF := HO.out.facts; simp only [OwnsM.Facts, and_true] at HF
  by_cases c2 : cl = 1
  · rw [if_pos c2]
    have c2b0 : (cl == 1) = true := beq_iff_eq.mpr c2
    have c2b1 : (cl != 1) = false := bne_eq_false_iff_eq.mpr c2
    clear c2
    by_cases c3 : (d.length : Int) < 8
    · rw [if_pos c3, if_neg (by decide), if_neg (by decide)]
      go_enter Try.func62, Try.ntmps62
      go_wp2_with (first | ((with_reducible refine gate_callee (f := 83) rfl ?_); refine goesL_ (some 11) rfl rfl Try.func83 (by kernel_rfl) rfl #[.slice Ad d.length cd] rfl (by (try simp only [List.map_toArray, List.map_cons, List.map_nil]); first | done | rfl | (simp only [List.length_drop, List.length_take]; rfl)) ?_; refine (udp_Parse.calls _ _ d u1 u2 u3 u4 _ (HO.out.oldm hr hb.out (fun v hv x e => by subst e; simp at hv)) hc hs.out).mono ?_; rintro e w1 ⟨v1, rfl, h1, hb1⟩; obtain ⟨Ax, cx, rfl⟩ := Kd.R_slice h1; refine ⟨_, rfl, ?_⟩; replace HO := Aside0.mk (HO.out.call1 hb1 h1); clear hb1 h1; clear HF; have HF := HO.out.facts; simp only [OwnsM.Facts, and_true] at HF) | ((with_reducible refine gate_dst (N := 3) rfl ?_); refine ow_box HO rfl (N := 3) rfl #[.int .i64 0, .int .i64 0, .slice none 0 0] 74 ?hr rfl ?_; (case hr => first | (go_simp; done) | (go_simp; rfl)); clear HO HF; intro g3 w1 HO; have HF := HO.out.facts; simp only [OwnsM.Facts, and_true] at HF) | ((with_reducible refine gate_store (p := 3) rfl ?_); (first | refine ow_put HO rfl rfl 0 rfl (ty := 74) rfl _ rfl rfl (by kernel_rfl) rfl rfl ?_); clear HO HF; intro w1 HO; simp only [List.set_cons_zero, List.set_cons_succ, List.setIfInBounds_toArray] at HO; have HF := HO.out.facts; simp only [OwnsM.Facts, and_true] at HF) | ((with_reducible refine gate_callee (f := 84) rfl ?_); refine goesL_ (some 20) rfl rfl Try.func84 (by kernel_rfl) rfl #[.pointer (some ⟨g, 0, none⟩)] rfl (by (try simp only [List.map_toArray, List.map_cons, List.map_nil]); first | done | rfl | (simp only [List.length_drop, List.length_take]; rfl)) ?_; refine (short_hand g t1 t2 t3 t4 t5 t6 t7 t8 t9 Ao no co Ad cd d cl a b fl ty co_ vi _ (HO.out.at_ 1 rfl)).mono ?_; rintro e w9 ⟨rfl, rfl⟩; refine ⟨_, rfl, ?_⟩; first | rw [if_pos c3] | rw [if_neg c3]) | ((with_reducible refine gate_callee (f := 85) rfl ?_); refine goesL_ (some 31) rfl rfl Try.func85 (by kernel_rfl) rfl #[.slice Ad d.length cd] rfl (by (try simp only [List.map_toArray, List.map_cons, List.map_nil]); first | done | rfl | (simp only [List.length_drop, List.length_take]; rfl)) ?_; refine (pack_ports.calls _ _ d p1 p2 _ (HO.out.oldm hr hb.out (fun v hv x e => by subst e; simp at hv)) hc hp.out).mono ?_; rintro e w1 ⟨rfl, hd⟩; refine ⟨_, rfl, ?_⟩; replace HO := Aside0.mk (HO.out.drawn hd); clear hd; clear HF; have HF := HO.out.facts; simp only [OwnsM.Facts, and_true] at HF) | ((with_reducible refine gate_store (p := 35) rfl ?_); (first | (refine ow_putc HO rfl rfl 1 rfl 12 ?_ ?hr ?_; (case hr => first | (go_simp; done) | (go_simp; rfl)))); clear HO HF; intro w1 HO; simp only [List.set_cons_zero, List.set_cons_succ, List.setIfInBounds_toArray] at HO; have HF := HO.out.facts; simp only [OwnsM.Facts, and_true] at HF) | ((with_reducible refine gate_store (p := 37) rfl ?_); (first | (refine ow_putc HO rfl rfl 1 rfl 13 ?_ ?hr ?_; (case hr => first | (go_simp; done) | (go_simp; rfl)))); clear HO HF; intro w1 HO; simp only [List.set_cons_zero, List.set_cons_succ, List.setIfInBounds_toArray] at HO; have HF := HO.out.facts; simp only [OwnsM.Facts, and_true] at HF))
      go_ret
      exact ⟨rfl, HO.out.turned 1 rfl⟩
    · rw [if_neg c3, if_pos rfl, if_pos rfl]
      go_enter Try.func62, Try.ntmps62
      go_wp2_with (first | ((with_reducible refine gate_callee (f := 83) rfl ?_); refine goesL_ (some 11) rfl rfl Try.func83 (by kernel_rfl) rfl #[.slice Ad d.length cd] rfl (by (try simp only [List.map_toArray, List.map_cons, List.map_nil]); first | done | rfl | (simp only [List.length_drop, List.length_take]; rfl)) ?_; refine (udp_Parse.calls _ _ d u1 u2 u3 u4 _ (HO.out.oldm hr hb.out (fun v hv x e => by subst e; simp at hv)) hc hs.out).mono ?_; rintro e w1 ⟨v1, rfl, h1, hb1⟩; obtain ⟨Ax, cx, rfl⟩ := Kd.R_slice h1; refine ⟨_, rfl, ?_⟩; replace HO := Aside0.mk (HO.out.call1 hb1 h1); clear hb1 h1; clear HF; have HF := HO.out.facts; simp only [OwnsM.Facts, and_true] at HF) | ((with_reducible refine gate_dst (N := 3) rfl ?_); refine ow_box HO rfl (N := 3) rfl #[.int .i64 0, .int .i64 0, .slice none 0 0] 74 ?hr rfl ?_; (case hr => first | (go_simp; done) | (go_simp; rfl)); clear HO HF; intro g3 w1 HO; have HF := HO.out.facts; simp only [OwnsM.Facts, and_true] at HF) | ((with_reducible refine gate_store (p := 3) rfl ?_); (first | refine ow_put HO rfl rfl 0 rfl (ty := 74) rfl _ rfl rfl (by kernel_rfl) rfl rfl ?_); clear HO HF; intro w1 HO; simp only [List.set_cons_zero, List.set_cons_succ, List.setIfInBounds_toArray] at HO; have HF := HO.out.facts; simp only [OwnsM.Facts, and_true] at HF) | ((with_reducible refine gate_callee (f := 84) rfl ?_); refine goesL_ (some 20) rfl rfl Try.func84 (by kernel_rfl) rfl #[.pointer (some ⟨g, 0, none⟩)] rfl (by (try simp only [List.map_toArray, List.map_cons, List.map_nil]); first | done | rfl | (simp only [List.length_drop, List.length_take]; rfl)) ?_; refine (short_hand g t1 t2 t3 t4 t5 t6 t7 t8 t9 Ao no co Ad cd d cl a b fl ty co_ vi _ (HO.out.at_ 1 rfl)).mono ?_; rintro e w9 ⟨rfl, rfl⟩; refine ⟨_, rfl, ?_⟩; first | rw [if_pos c3] | rw [if_neg c3]) | ((with_reducible refine gate_callee (f := 85) rfl ?_); refine goesL_ (some 31) rfl rfl Try.func85 (by kernel_rfl) rfl #[.slice Ad d.length cd] rfl (by (try simp only [List.map_toArray, List.map_cons, List.map_nil]); first | done | rfl | (simp only [List.length_drop, List.length_take]; rfl)) ?_; refine (pack_ports.calls _ _ d p1 p2 _ (HO.out.oldm hr hb.out (fun v hv x e => by subst e; simp at hv)) hc hp.out).mono ?_; rintro e w1 ⟨rfl, hd⟩; refine ⟨_, rfl, ?_⟩; replace HO := Aside0.mk (HO.out.drawn hd); clear hd; clear HF; have HF := HO.out.facts; simp only [OwnsM.Facts, and_true] at HF) | ((with_reducible refine gate_store (p := 35) rfl ?_); (first | (refine ow_putc HO rfl rfl 1 rfl 12 ?_ ?hr ?_; (case hr => first | (go_simp; done) | (go_simp; rfl)))); clear HO HF; intro w1 HO; simp only [List.set_cons_zero, List.set_cons_succ, List.setIfInBounds_toArray] at HO; have HF := HO.out.facts; simp only [OwnsM.Facts, and_true] at HF) | ((with_reducible refine gate_store (p := 37) rfl ?_); (first | (refine ow_putc HO rfl rfl 1 rfl 13 ?_ ?hr ?_; (case hr => first | (go_simp; done) | (go_simp; rfl)))); clear HO HF; intro w1 HO; simp only [List.set_cons_zero, List.set_cons_succ, List.setIfInBounds_toArray] at HO; have HF := HO.out.facts; simp only [OwnsM.Facts, and_true] at HF))
      go_ret
      exact ⟨rfl, HO.out.turned 1 rfl⟩
  · rw [if_neg c2]
    have c2b0 : (cl == 1) = false := beq_eq_false_iff_ne.mpr c2
    have c2b1 : (cl != 1) = true := bne_iff_ne.mpr c2
    clear c2
    by_cases c4 : u4 = 0
    · rw [if_pos c4, if_pos c4]
      have c4b0 : (u4 == 0) = true := beq_iff_eq.mpr c4
      have c4b1 : (u4 != 0) = false := bne_eq_false_iff_eq.mpr c4
      clear c4
      have c3 : True := trivial
      go_enter Try.func62, Try.ntmps62
      go_wp2_with (first | ((with_reducible refine gate_callee (f := 83) rfl ?_); refine goesL_ (some 11) rfl rfl Try.func83 (by kernel_rfl) rfl #[.slice Ad d.length cd] rfl (by (try simp only [List.map_toArray, List.map_cons, List.map_nil]); first | done | rfl | (simp only [List.length_drop, List.length_take]; rfl)) ?_; refine (udp_Parse.calls _ _ d u1 u2 u3 u4 _ (HO.out.oldm hr hb.out (fun v hv x e => by subst e; simp at hv)) hc hs.out).mono ?_; rintro e w1 ⟨v1, rfl, h1, hb1⟩; obtain ⟨Ax, cx, rfl⟩ := Kd.R_slice h1; refine ⟨_, rfl, ?_⟩; replace HO := Aside0.mk (HO.out.call1 hb1 h1); clear hb1 h1; clear HF; have HF := HO.out.facts; simp only [OwnsM.Facts, and_true] at HF) | ((with_reducible refine gate_dst (N := 3) rfl ?_); refine ow_box HO rfl (N := 3) rfl #[.int .i64 0, .int .i64 0, .slice none 0 0] 74 ?hr rfl ?_; (case hr => first | (go_simp; done) | (go_simp; rfl)); clear HO HF; intro g3 w1 HO; have HF := HO.out.facts; simp only [OwnsM.Facts, and_true] at HF) | ((with_reducible refine gate_store (p := 3) rfl ?_); (first | refine ow_put HO rfl rfl 0 rfl (ty := 74) rfl _ rfl rfl (by kernel_rfl) rfl rfl ?_); clear HO HF; intro w1 HO; simp only [List.set_cons_zero, List.set_cons_succ, List.setIfInBounds_toArray] at HO; have HF := HO.out.facts; simp only [OwnsM.Facts, and_true] at HF) | ((with_reducible refine gate_callee (f := 84) rfl ?_); refine goesL_ (some 20) rfl rfl Try.func84 (by kernel_rfl) rfl #[.pointer (some ⟨g, 0, none⟩)] rfl (by (try simp only [List.map_toArray, List.map_cons, List.map_nil]); first | done | rfl | (simp only [List.length_drop, List.length_take]; rfl)) ?_; refine (short_hand g t1 t2 t3 t4 t5 t6 t7 t8 t9 Ao no co Ad cd d cl a b fl ty co_ vi _ (HO.out.at_ 1 rfl)).mono ?_; rintro e w9 ⟨rfl, rfl⟩; refine ⟨_, rfl, ?_⟩; first | rw [if_pos c3] | rw [if_neg c3]) | ((with_reducible refine gate_callee (f := 85) rfl ?_); refine goesL_ (some 31) rfl rfl Try.func85 (by kernel_rfl) rfl #[.slice Ad d.length cd] rfl (by (try simp only [List.map_toArray, List.map_cons, List.map_nil]); first | done | rfl | (simp only [List.length_drop, List.length_take]; rfl)) ?_; refine (pack_ports.calls _ _ d p1 p2 _ (HO.out.oldm hr hb.out (fun v hv x e => by subst e; simp at hv)) hc hp.out).mono ?_; rintro e w1 ⟨rfl, hd⟩; refine ⟨_, rfl, ?_⟩; replace HO := Aside0.mk (HO.out.drawn hd); clear hd; clear HF; have HF := HO.out.facts; simp only [OwnsM.Facts, and_true] at HF) | ((with_reducible refine gate_store (p := 35) rfl ?_); (first | (refine ow_putc HO rfl rfl 1 rfl 12 ?_ ?hr ?_; (case hr => first | (go_simp; done) | (go_simp; rfl)))); clear HO HF; intro w1 HO; simp only [List.set_cons_zero, List.set_cons_succ, List.setIfInBounds_toArray] at HO; have HF := HO.out.facts; simp only [OwnsM.Facts, and_true] at HF) | ((with_reducible refine gate_store (p := 37) rfl ?_); (first | (refine ow_putc HO rfl rfl 1 rfl 13 ?_ ?hr ?_; (case hr => first | (go_simp; done) | (go_simp; rfl)))); clear HO HF; intro w1 HO; simp only [List.set_cons_zero, List.set_cons_succ, List.setIfInBounds_toArray] at HO; have HF := HO.out.facts; simp only [OwnsM.Facts, and_true] at HF))
      go_ret
      exact ⟨rfl, HO.out.turned 1 rfl⟩
    · rw [if_neg c4, if_neg c4]
      have c4b0 : (u4 == 0) = false := beq_eq_false_iff_ne.mpr c4
      have c4b1 : (u4 != 0) = true := bne_iff_ne.mpr c4
      clear c4
      have c3 : True := trivial
      go_enter Try.func62, Try.ntmps62
      go_wp2_with (first | ((with_reducible refine gate_callee (f := 83) rfl ?_); refine goesL_ (some 11) rfl rfl Try.func83 (by kernel_rfl) rfl #[.slice Ad d.length cd] rfl (by (try simp only [List.map_toArray, List.map_cons, List.map_nil]); first | done | rfl | (simp only [List.length_drop, List.length_take]; rfl)) ?_; refine (udp_Parse.calls _ _ d u1 u2 u3 u4 _ (HO.out.oldm hr hb.out (fun v hv x e => by subst e; simp at hv)) hc hs.out).mono ?_; rintro e w1 ⟨v1, rfl, h1, hb1⟩; obtain ⟨Ax, cx, rfl⟩ := Kd.R_slice h1; refine ⟨_, rfl, ?_⟩; replace HO := Aside0.mk (HO.out.call1 hb1 h1); clear hb1 h1; clear HF; have HF := HO.out.facts; simp only [OwnsM.Facts, and_true] at HF) | ((with_reducible refine gate_dst (N := 3) rfl ?_); refine ow_box HO rfl (N := 3) rfl #[.int .i64 0, .int .i64 0, .slice none 0 0] 74 ?hr rfl ?_; (case hr => first | (go_simp; done) | (go_simp; rfl)); clear HO HF; intro g3 w1 HO; have HF := HO.out.facts; simp only [OwnsM.Facts, and_true] at HF) | ((with_reducible refine gate_store (p := 3) rfl ?_); (first | refine ow_put HO rfl rfl 0 rfl (ty := 74) rfl _ rfl rfl (by kernel_rfl) rfl rfl ?_); clear HO HF; intro w1 HO; simp only [List.set_cons_zero, List.set_cons_succ, List.setIfInBounds_toArray] at HO; have HF := HO.out.facts; simp only [OwnsM.Facts, and_true] at HF) | ((with_reducible refine gate_callee (f := 84) rfl ?_); refine goesL_ (some 20) rfl rfl Try.func84 (by kernel_rfl) rfl #[.pointer (some ⟨g, 0, none⟩)] rfl (by (try simp only [List.map_toArray, List.map_cons, List.map_nil]); first | done | rfl | (simp only [List.length_drop, List.length_take]; rfl)) ?_; refine (short_hand g t1 t2 t3 t4 t5 t6 t7 t8 t9 Ao no co Ad cd d cl a b fl ty co_ vi _ (HO.out.at_ 1 rfl)).mono ?_; rintro e w9 ⟨rfl, rfl⟩; refine ⟨_, rfl, ?_⟩; first | rw [if_pos c3] | rw [if_neg c3]) | ((with_reducible refine gate_callee (f := 85) rfl ?_); refine goesL_ (some 31) rfl rfl Try.func85 (by kernel_rfl) rfl #[.slice Ad d.length cd] rfl (by (try simp only [List.map_toArray, List.map_cons, List.map_nil]); first | done | rfl | (simp only [List.length_drop, List.length_take]; rfl)) ?_; refine (pack_ports.calls _ _ d p1 p2 _ (HO.out.oldm hr hb.out (fun v hv x e => by subst e; simp at hv)) hc hp.out).mono ?_; rintro e w1 ⟨rfl, hd⟩; refine ⟨_, rfl, ?_⟩; replace HO := Aside0.mk (HO.out.drawn hd); clear hd; clear HF; have HF := HO.out.facts; simp only [OwnsM.Facts, and_true] at HF) | ((with_reducible refine gate_store (p := 35) rfl ?_); (first | (refine ow_putc HO rfl rfl 1 rfl 12 ?_ ?hr ?_; (case hr => first | (go_simp; done) | (go_simp; rfl)))); clear HO HF; intro w1 HO; simp only [List.set_cons_zero, List.set_cons_succ, List.setIfInBounds_toArray] at HO; have HF := HO.out.facts; simp only [OwnsM.Facts, and_true] at HF) | ((with_reducible refine gate_store (p := 37) rfl ?_); (first | (refine ow_putc HO rfl rfl 1 rfl 13 ?_ ?hr ?_; (case hr => first | (go_simp; done) | (go_simp; rfl)))); clear HO HF; intro w1 HO; simp only [List.set_cons_zero, List.set_cons_succ, List.setIfInBounds_toArray] at HO; have HF := HO.out.facts; simp only [OwnsM.Facts, and_true] at HF))
      go_ret
      exact ⟨rfl, HO.out.turned 1 rfl⟩
def pack_Parse.g (k : Nat) (t1 t2 : Int) (t3 t4 : Bool) (t5 t6 t7 t8 t9 : Int) (t10 t11 : List Int) (t12 : Int) : Option (Int × Int × Bool × Bool × Int × Int × Int × Int × Int × List Int × List Int × Int × Int × Int × Int × Int × Int × Option Addr × Int) :=
  if t12 = 0 then (if t5 = 0 then (if t7 = 6 then ((tcp_Parse.f k t11).bind fun s => if s.2.2.2.2.2.2.2.2.2 = 0 then some (t1, t2, t3, t4, t5, t6, t7, t8, t9, t10, t11, (if t4 = true then 1 else 0), s.1, s.2.1, s.2.2.2.2.1, 0, 0, none, 0) else some (0, 0, false, false, 0, 0, 0, 0, 0, ([] : List Int), ([] : List Int), 0, 0, 0, 0, 0, 0, none, s.2.2.2.2.2.2.2.2.2))
    else if t7 = 17 then ((udp_Parse.f t11).bind fun u => (pack_ports.f t11).bind fun p => if (if (if t4 = true then (1 : Int) else 0) = 1 then (if (t11.length : Int) < 8 then 3 else 0) else u.2.2.2) = 0 then some (t1, t2, t3, t4, t5, t6, t7, t8, t9, t10, t11, (if t4 = true then 1 else 0), p.1, p.2, 0, 0, 0, none, 0) else some (0, 0, false, false, 0, 0, 0, 0, 0, ([] : List Int), ([] : List Int), 0, 0, 0, 0, 0, 0, none, (if (if t4 = true then (1 : Int) else 0) = 1 then (if (t11.length : Int) < 8 then 3 else 0) else u.2.2.2)))
    else if t7 = 1 then none else some (t1, t2, t3, t4, t5, t6, t7, t8, t9, t10, t11, (if t4 = true then 1 else 0), 0, 0, 0, 0, 0, none, 0))
    else some (t1, t2, t3, t4, t5, t6, t7, t8, t9, t10, t11, 2, 0, 0, 0, 0, 0, none, 0)) else some (0, 0, false, false, 0, 0, 0, 0, 0, ([] : List Int), ([] : List Int), 0, 0, 0, 0, 0, 0, none, t12)
def pack_Parse.f (k : Nat) (l0 : List Int) : Option (Int × Int × Bool × Bool × Int × Int × Int × Int × Int × List Int × List Int × Int × Int × Int × Int × Int × Int × Option Addr × Int) := (ip_Parse.f k l0).bind fun b => pack_Parse.g k b.1 b.2.1 b.2.2.1 b.2.2.2.1 b.2.2.2.2.1 b.2.2.2.2.2.1 b.2.2.2.2.2.2.1 b.2.2.2.2.2.2.2.1 b.2.2.2.2.2.2.2.2.1 b.2.2.2.2.2.2.2.2.2.1 b.2.2.2.2.2.2.2.2.2.2.1 b.2.2.2.2.2.2.2.2.2.2.2
theorem pack_Parse.mono : ∀ a0 k, LeO (pack_Parse.f k a0) (pack_Parse.f (k + 1) a0) := by
  intro a0 k
  unfold pack_Parse.f pack_Parse.g
  repeat' first
      | (with_reducible exact ip_Parse.mono _ _)
      | (with_reducible exact tcp_Parse.mono _ _)
      | (with_reducible exact LeO.refl _)
      | (with_reducible exact LeO.none _)
      | (with_reducible refine LeO.ite ?_ ?_)
      | (with_reducible refine LeO.bind ?_ (fun _ => ?_))
      | exact LeO.none _
      | refine LeO.ite ?_ ?_
      | refine LeO.bind ?_ (fun _ => ?_)
def pack_Parse.T4 : Bool × List (List Nat × List Nat) := (true, [([], []), ([], []), ([1], [1]), ([0, 2], [0, 2]), ([], []), ([4, 3, 2, 0, 1, 2, 3, 4], [3, 4])])
def pack_Parse.B4 : List Nat := [0, 0, 2, 7, 0, 31]
theorem pack_Parse.tab4 : rtab .any (opsOf Try.f35 4) = pack_Parse.T4 := by kernel_rfl
theorem pack_Parse.bits4 : waitsOk pack_Parse.T4.2 pack_Parse.B4 = true := by kernel_rfl
set_option maxHeartbeats 8000000 in
set_option maxRecDepth 100000 in
theorem pack_Parse.calls (k : Nat) (A0 : Option Addr) (c0 : Nat) (l0 : List Int) (r1 : Int) (r2 : Int) (r3 : Bool) (r4 : Bool) (r5 : Int) (r6 : Int) (r7 : Int) (r8 : Int) (r9 : Int) (r10 : List Int) (r11 : List Int) (r12 : Int) (r13 : Int) (r14 : Int) (r15 : Int) (r16 : Int) (r17 : Int) (r18 : Option Addr) (r19 : Int) (w : World) (hr0 : Kd.C (Kd.int .u8) w A0 l0.length l0) (hc0 : l0.length ≤ c0) (h : pack_Parse.f k l0 = some (r1, r2, r3, r4, r5, r6, r7, r8, r9, r10, r11, r12, r13, r14, r15, r16, r17, r18, r19)) :
    Calls Try.prog 35 #[.slice A0 l0.length c0] w fun e w' => ∃ v9_ v10_ : Value, e = .returned (.tuple #[.agg #[.int .i64 r1, .int .i64 r2, .bool r3, .bool r4, .int .i64 r5, .int .i64 r6, .int .i64 r7, .int .u32 r8, .int .u32 r9, v9_, v10_, .int .i64 r12, .int .i64 r13, .int .i64 r14, .int .i64 r15, .int .i64 r16, .int .i64 r17, .pointer r18], .int .i64 r19]) ∧ Kd.R (Kd.int .u8) 5 w' w.heap.size (fun k_ => some k_ ≠ (v10_ : Value).ownBlock) v9_ r10 ∧ Kd.R (Kd.int .u8) 5 w' w.heap.size (fun k_ => some k_ ≠ (v9_ : Value).ownBlock) v10_ r11 ∧ Below w.heap.size w w' := by
  have hu29 := Try.underlying29
  have HO := Aside0.mk (Owns.nil w)
  have HF : True := trivial
  unfold pack_Parse.f at h
  obtain ⟨⟨t1, t2, t3, t4, t5, t6, t7, t8, t9, t10, t11, t12⟩, A_, H⟩ := Option.bind_eq_some_iff.mp h
  have AI := Aside0.mk A_
  clear A_ h
  dsimp only at H
  unfold pack_Parse.g at H
  by_cases c1 : t12 = 0
  · rw [if_pos c1] at H
    have c1b0 : (t12 == 0) = true := beq_iff_eq.mpr c1
    have c1b1 : (t12 != 0) = false := bne_eq_false_iff_eq.mpr c1
    clear c1
    by_cases c2 : t5 = 0
    · rw [if_pos c2] at H
      have c2b0 : (t5 == 0) = true := beq_iff_eq.mpr c2
      have c2b1 : (t5 != 0) = false := bne_eq_false_iff_eq.mpr c2
      have hcl : pack_Class.f t1 t2 t3 t4 t5 t6 t7 t8 t9 t10 t11 = some (if t4 = true then 1 else 0) := by unfold pack_Class.f; rw [if_pos c2]; cases t4 <;> rfl
      have AC := Aside0.mk hcl
      clear hcl
      obtain ⟨cl, hcl⟩ : ∃ cl : Int, cl = (if t4 = true then 1 else 0) := ⟨_, rfl⟩
      rw [← hcl] at AC
      simp only [← hcl] at H
      have hc2 : (cl == 2) = false := by rw [hcl]; cases t4 <;> rfl
      have HCL := Aside0.mk hcl
      clear hcl c2
      by_cases c3 : t7 = 6
      · rw [if_pos c3] at H
        have c3b0 : (t7 == 6) = true := beq_iff_eq.mpr c3
        have c3b1 : (t7 != 6) = false := bne_eq_false_iff_eq.mpr c3
        clear c3
        obtain ⟨⟨s1, s2, s3, s4, s5, s6, s7, s8, s9, s10⟩, A_, H⟩ := Option.bind_eq_some_iff.mp H
        have AS := Aside0.mk A_
        clear A_
        dsimp only at H
        by_cases c4 : s10 = 0
        · rw [if_pos c4] at H
          have c4b0 : (s10 == 0) = true := beq_iff_eq.mpr c4
          have c4b1 : (s10 != 0) = false := bne_eq_false_iff_eq.mpr c4
          have K4 := Aside0.mk c4
          clear c4
          simp only [Option.some.injEq, Prod.mk.injEq] at H
          obtain ⟨rfl, rfl, rfl, rfl, rfl, rfl, rfl, rfl, rfl, rfl, rfl, rfl, rfl, rfl, rfl, rfl, rfl, rfl, rfl⟩ := H
          go_enter Try.func35, Try.ntmps35
          go_upto_region 4 with (first | ((with_reducible refine gate_dst (N := 2) rfl ?_); refine ow_box HO rfl (N := 2) rfl #[.int .i64 0, .int .i64 0, .bool false, .bool false, .int .i64 0, .int .i64 0, .int .i64 0, .int .u32 0, .int .u32 0, .slice none 0 0, .slice none 0 0, .int .i64 0, .int .i64 0, .int .i64 0, .int .i64 0, .int .i64 0, .int .i64 0, .pointer none] 29 ?hr rfl ?_; (case hr => first | (go_simp; done) | (go_simp; rfl)); clear HO HF; intro g2 w1 HO; have HF := HO.out.facts; simp only [OwnsM.Facts, and_true] at HF) | ((with_reducible refine gate_callee (f := 46) rfl ?_); refine goesL_ (some 9) rfl rfl Try.func46 (by kernel_rfl) rfl #[.slice A0 l0.length c0] rfl (by (try simp only [List.map_toArray, List.map_cons, List.map_nil]); first | done | rfl | (simp only [List.length_drop, List.length_take]; rfl)) ?_; refine (ip_Parse.calls k _ _ l0 t1 t2 t3 t4 t5 t6 t7 t8 t9 t10 t11 t12 _ (HO.out.old hr0) hc0 AI.out).mono ?_; rintro e w1 ⟨v1, v2, rfl, h1, h2, hb1⟩; obtain ⟨Ao, co, rfl⟩ := Kd.R_slice h1; obtain ⟨Ad, cd, rfl⟩ := Kd.R_slice h2; refine ⟨_, rfl, ?_⟩; replace HO := Aside0.mk (HO.out.call2 hb1 h1 h2); clear hb1 h1 h2; clear HF; have HF := HO.out.facts; simp only [OwnsM.Facts, and_true] at HF) | ((with_reducible refine gate_dst (N := 4) rfl ?_); refine ow_box HO rfl (N := 4) rfl #[.int .i64 0, .int .i64 0, .bool false, .bool false, .int .i64 0, .int .i64 0, .int .i64 0, .int .u32 0, .int .u32 0, .slice none 0 0, .slice none 0 0] 26 ?hr rfl ?_; (case hr => first | (go_simp; done) | (go_simp; rfl)); clear HO HF; intro g4 w1 HO; have HF := HO.out.facts; simp only [OwnsM.Facts, and_true] at HF) | ((with_reducible refine gate_store (p := 4) rfl ?_); (first | refine ow_put HO rfl rfl 0 rfl (ty := 26) rfl _ rfl rfl (by kernel_rfl) rfl rfl ?_); clear HO HF; intro w1 HO; simp only [List.set_cons_zero, List.set_cons_succ, List.setIfInBounds_toArray] at HO; have HF := HO.out.facts; simp only [OwnsM.Facts, and_true] at HF))
          have HO1_ := Aside0.mk HO.out.drew
          clear HO HF
          have HO := HO1_
          clear HO1_
          refine start_ (n := 6) (S := fun w' => w'.cell? ⟨g4, 0, none⟩ = some (.int .i64 t1) ∧ w'.cell? ⟨g4, 1, none⟩ = some (.int .i64 t2) ∧ w'.cell? ⟨g4, 2, none⟩ = some (.bool t3) ∧ w'.cell? ⟨g4, 3, none⟩ = some (.bool t4) ∧ w'.cell? ⟨g4, 4, none⟩ = some (.int .i64 t5) ∧ w'.cell? ⟨g4, 5, none⟩ = some (.int .i64 t6) ∧ w'.cell? ⟨g4, 6, none⟩ = some (.int .i64 t7) ∧ w'.cell? ⟨g4, 7, none⟩ = some (.int .u32 t8) ∧ w'.cell? ⟨g4, 8, none⟩ = some (.int .u32 t9) ∧ w'.cell? ⟨g4, 9, none⟩ = some (.slice Ao t10.length co) ∧ w'.cell? ⟨g4, 10, none⟩ = some (.slice Ad t11.length cd)) (ds := [5]) #[false, false, false, false, false, false] (by kernel_rfl) rfl rfl ⟨(HO.out.cell 0 0 rfl rfl), (HO.out.cell 0 1 rfl rfl), (HO.out.cell 0 2 rfl rfl), (HO.out.cell 0 3 rfl rfl), (HO.out.cell 0 4 rfl rfl), (HO.out.cell 0 5 rfl rfl), (HO.out.cell 0 6 rfl rfl), (HO.out.cell 0 7 rfl rfl), (HO.out.cell 0 8 rfl rfl), (HO.out.cell 0 9 rfl rfl), (HO.out.cell 0 10 rfl rfl)⟩ (fun hHeld => ?_); refine with_tabW pack_Parse.tab4 pack_Parse.bits4 (fun HT_ HW_ => ?_)
          generalize w1.drew = w1 at HO hHeld ⊢
          refine take_ (i := 0) (N := some 16) (v := ?_) (a' := ?_) #[true, false, false, false, false, false] rfl rfl (take_ofW HT_.out HW_.out (by kernel_rfl)) (fun _ _ _ h => h) (Or.inl ⟨by rfl, ?_⟩) hHeld ?_ ?_
          rotate_left
          · rintro w' ⟨s0, s1, s2, s3, s4, s5, s6, s7, s8, s9, s10⟩
            go_simp
            with_reducible rfl
          rotate_left
          · simp only [Act.put, List.setIfInBounds_toArray, List.set_cons_zero, List.set_cons_succ, i64_w, i32_w]
            rfl
          refine take_ (i := 1) (N := some 17) (v := ?_) (a' := ?_) #[true, true, false, false, false, false] rfl rfl (take_ofW HT_.out HW_.out (by kernel_rfl)) (fun _ _ _ h => h) (Or.inl ⟨by rfl, ?_⟩) hHeld ?_ ?_
          rotate_left
          · rintro w' ⟨s0, s1, s2, s3, s4, s5, s6, s7, s8, s9, s10⟩
            go_simp
            with_reducible rfl
          rotate_left
          · simp only [Act.put, List.setIfInBounds_toArray, List.set_cons_zero, List.set_cons_succ, i64_w, i32_w]
            rfl
          refine two_ (i := 2) (j := 4) (Ni := some 18) (Nj := some 6) #[true, true, true, false, false, false] #[true, true, false, false, true, false] rfl rfl rfl rfl (two_of HT_.out (by kernel_rfl)) (by decide) (by decide) (fun K hK => ?_) (fun K hK => ?_)
          · skip
            refine goes_ Try.func20 (by kernel_rfl) rfl #[.agg #[.int .i64 t1, .int .i64 t2, .bool t3, .bool t4, .int .i64 t5, .int .i64 t6, .int .i64 t7, .int .u32 t8, .int .u32 t9, .slice Ao t10.length co, .slice Ad t11.length cd]] (by rfl) rfl rfl (by (try simp only [List.map_toArray, List.map_cons, List.map_nil]); first | done | rfl | (simp only [List.length_drop, List.length_take]; rfl)) ?_
            refine (pack_Class.calls t1 t2 t3 t4 t5 t6 t7 t8 t9 _ _ t10 _ _ t11 cl _ (HO.out.rd 1 rfl) (HO.out.cap 1 rfl) (HO.out.rd 0 rfl) (HO.out.cap 0 rfl) AC.out).mono ?_
            rintro e w1 ⟨rfl, hb1⟩
            refine ⟨_, rfl, ?_⟩
            replace HO := Aside0.mk (HO.out.step hb1)
            clear hb1
            refine hK.out _ _ ⟨(HO.out.cell 0 0 rfl rfl), (HO.out.cell 0 1 rfl rfl), (HO.out.cell 0 2 rfl rfl), (HO.out.cell 0 3 rfl rfl), (HO.out.cell 0 4 rfl rfl), (HO.out.cell 0 5 rfl rfl), (HO.out.cell 0 6 rfl rfl), (HO.out.cell 0 7 rfl rfl), (HO.out.cell 0 8 rfl rfl), (HO.out.cell 0 9 rfl rfl), (HO.out.cell 0 10 rfl rfl)⟩ (fun hHeld => ?_)
            clear hK K
            refine norm_ (a' := ?_) ?_ ?_
            rotate_left
            · show Act.put _ (some 18) _ = _
              simp only [Act.put, List.setIfInBounds_toArray, List.set_cons_zero, List.set_cons_succ, i64_w, i32_w]
              rfl
            refine pure_ (i := 3) (N := some 19) (v := ?_) (a' := ?_) #[true, true, true, true, false, false] rfl rfl (any_of HT_.out (by kernel_rfl)) (fun _ _ _ h => h) (Or.inl ⟨by rfl, ?_⟩) ?_ ?_
            rotate_left
            · intro w'
              go_simp
              with_reducible rfl
            rotate_left
            · simp only [Act.put, List.setIfInBounds_toArray, List.set_cons_zero, List.set_cons_succ, i64_w, i32_w]
              rfl
            refine one_ (i := 4) (N := some 6) #[true, true, true, true, true, false] rfl rfl (one_of HT_.out (by kernel_rfl)) (by decide) (fun K hK => ?_)
            refine ow_box_step HO (by rfl) (N := 6) rfl #[.int .i64 0, .int .i64 0, .bool false, .bool false, .int .i64 0, .int .i64 0, .int .i64 0, .int .u32 0, .int .u32 0, .slice none 0 0, .slice none 0 0, .int .i64 0, .int .i64 0, .int .i64 0, .int .i64 0, .int .i64 0, .int .i64 0, .pointer none] 29 ?hr rfl (fun g6 w1 HO1_ => ?_); (case hr => first | (go_simp; done) | (go_simp; rfl))
            clear HO
            have HO := HO1_
            clear HO1_
            refine hK.out _ _ ⟨(HO.out.cell 1 0 rfl rfl), (HO.out.cell 1 1 rfl rfl), (HO.out.cell 1 2 rfl rfl), (HO.out.cell 1 3 rfl rfl), (HO.out.cell 1 4 rfl rfl), (HO.out.cell 1 5 rfl rfl), (HO.out.cell 1 6 rfl rfl), (HO.out.cell 1 7 rfl rfl), (HO.out.cell 1 8 rfl rfl), (HO.out.cell 1 9 rfl rfl), (HO.out.cell 1 10 rfl rfl)⟩ (fun hHeld => ?_)
            clear hK K
            refine norm_ (a' := ?_) ?_ ?_
            rotate_left
            · show Act.put _ (some 6) _ = _
              simp only [Act.put, List.setIfInBounds_toArray, List.set_cons_zero, List.set_cons_succ, i64_w, i32_w]
              rfl
            refine last_ (i := 5) (N := none) #[true, true, true, true, true, true] rfl rfl (one_of HT_.out (by kernel_rfl)) (by decide) (fun K hK => ?_)
            refine ow_put_step HO (by rfl) rfl 0 rfl (ty := 29) rfl _ rfl rfl (by kernel_rfl) rfl rfl (fun w1 HO1_ => ?_)
            clear HO
            have HO := HO1_
            clear HO1_
            simp only [List.set_cons_zero, List.set_cons_succ, List.setIfInBounds_toArray] at HO
            refine hK.out _ _ ?_
            clear hK K
            refine done_ (done_of HT_.out (by kernel_rfl)) ?_
            have HF := HO.out.facts; simp only [OwnsM.Facts, and_true] at HF
            go_wp2_with (first | ((with_reducible refine gate_callee (f := 61) rfl ?_); refine goesL_ (some 28) rfl rfl Try.func61 (by kernel_rfl) rfl #[.pointer (some ⟨g6, 0, none⟩)] rfl (by (try simp only [List.map_toArray, List.map_cons, List.map_nil]); first | done | rfl | (simp only [List.length_drop, List.length_take]; rfl)) ?_; refine (ofTCP_hand k g6 t1 t2 t3 t4 t5 t6 t7 t8 t9 _ _ _ _ _ t11 cl 0 0 0 0 0 none s1 s2 s3 s4 s5 s6 s7 s8 s9 s10 _ (HO.out.at_ 0 rfl) (HO.out.rd 0 rfl) (HO.out.cap 0 rfl) AS.out).mono ?_; rintro e w1 ⟨rfl, ht⟩; refine ⟨_, rfl, ?_⟩; replace HO := Aside0.mk (HO.out.turn 0 rfl ht); clear ht; simp only [List.set_cons_zero, List.set_cons_succ, List.setIfInBounds_toArray] at HO; rw [if_pos K4.out, if_pos K4.out, if_pos K4.out] at HO; clear HF; have HF := HO.out.facts; simp only [OwnsM.Facts, and_true] at HF) | ((with_reducible refine gate_dst (N := 43) rfl ?_); (first | refine ow_load HO rfl 0 rfl 29 _ rfl _ rfl Try.underlying29 rfl (by kernel_rfl) ?_)) | ((with_reducible refine gate_store (p := 2) rfl ?_); (first | refine ow_put HO rfl rfl 2 rfl (ty := 29) rfl _ rfl rfl (by kernel_rfl) rfl rfl ?_ | refine ow_put HO rfl rfl 1 rfl (ty := 29) rfl _ rfl rfl (by kernel_rfl) rfl rfl ?_); clear HO HF; intro w1 HO; simp only [List.set_cons_zero, List.set_cons_succ, List.setIfInBounds_toArray] at HO; have HF := HO.out.facts; simp only [OwnsM.Facts, and_true] at HF))
            refine bodyPost_ret (results_ct rfl _ _ g2 29 _ (0, 0) _ rfl (HO.out.at_ 2 rfl) Try.underlying29 rfl (by kernel_rfl)) rfl ?_
            exact ⟨_, _, rfl, HO.out.rowapart 1 0 (by decide) rfl rfl, HO.out.rowapart 0 1 (by decide) rfl rfl, HO.out.below⟩
          · skip
            refine ow_box_step HO (by rfl) (N := 6) rfl #[.int .i64 0, .int .i64 0, .bool false, .bool false, .int .i64 0, .int .i64 0, .int .i64 0, .int .u32 0, .int .u32 0, .slice none 0 0, .slice none 0 0, .int .i64 0, .int .i64 0, .int .i64 0, .int .i64 0, .int .i64 0, .int .i64 0, .pointer none] 29 ?hr rfl (fun g6 w1 HO1_ => ?_); (case hr => first | (go_simp; done) | (go_simp; rfl))
            clear HO
            have HO := HO1_
            clear HO1_
            refine hK.out _ _ ⟨(HO.out.cell 1 0 rfl rfl), (HO.out.cell 1 1 rfl rfl), (HO.out.cell 1 2 rfl rfl), (HO.out.cell 1 3 rfl rfl), (HO.out.cell 1 4 rfl rfl), (HO.out.cell 1 5 rfl rfl), (HO.out.cell 1 6 rfl rfl), (HO.out.cell 1 7 rfl rfl), (HO.out.cell 1 8 rfl rfl), (HO.out.cell 1 9 rfl rfl), (HO.out.cell 1 10 rfl rfl)⟩ (fun hHeld => ?_)
            clear hK K
            refine norm_ (a' := ?_) ?_ ?_
            rotate_left
            · show Act.put _ (some 6) _ = _
              simp only [Act.put, List.setIfInBounds_toArray, List.set_cons_zero, List.set_cons_succ, i64_w, i32_w]
              rfl
            refine one_ (i := 2) (N := some 18) #[true, true, true, false, true, false] rfl rfl (one_of HT_.out (by kernel_rfl)) (by decide) (fun K hK => ?_)
            refine goes_ Try.func20 (by kernel_rfl) rfl #[.agg #[.int .i64 t1, .int .i64 t2, .bool t3, .bool t4, .int .i64 t5, .int .i64 t6, .int .i64 t7, .int .u32 t8, .int .u32 t9, .slice Ao t10.length co, .slice Ad t11.length cd]] (by rfl) rfl rfl (by (try simp only [List.map_toArray, List.map_cons, List.map_nil]); first | done | rfl | (simp only [List.length_drop, List.length_take]; rfl)) ?_
            refine (pack_Class.calls t1 t2 t3 t4 t5 t6 t7 t8 t9 _ _ t10 _ _ t11 cl _ (HO.out.rd 1 rfl) (HO.out.cap 1 rfl) (HO.out.rd 0 rfl) (HO.out.cap 0 rfl) AC.out).mono ?_
            rintro e w1 ⟨rfl, hb1⟩
            refine ⟨_, rfl, ?_⟩
            replace HO := Aside0.mk (HO.out.step hb1)
            clear hb1
            refine hK.out _ _ ⟨(HO.out.cell 1 0 rfl rfl), (HO.out.cell 1 1 rfl rfl), (HO.out.cell 1 2 rfl rfl), (HO.out.cell 1 3 rfl rfl), (HO.out.cell 1 4 rfl rfl), (HO.out.cell 1 5 rfl rfl), (HO.out.cell 1 6 rfl rfl), (HO.out.cell 1 7 rfl rfl), (HO.out.cell 1 8 rfl rfl), (HO.out.cell 1 9 rfl rfl), (HO.out.cell 1 10 rfl rfl)⟩ (fun hHeld => ?_)
            clear hK K
            refine norm_ (a' := ?_) ?_ ?_
            rotate_left
            · show Act.put _ (some 18) _ = _
              simp only [Act.put, List.setIfInBounds_toArray, List.set_cons_zero, List.set_cons_succ, i64_w, i32_w]
              rfl
            refine pure_ (i := 3) (N := some 19) (v := ?_) (a' := ?_) #[true, true, true, true, true, false] rfl rfl (any_of HT_.out (by kernel_rfl)) (fun _ _ _ h => h) (Or.inl ⟨by rfl, ?_⟩) ?_ ?_
            rotate_left
            · intro w'
              go_simp
              with_reducible rfl
            rotate_left
            · simp only [Act.put, List.setIfInBounds_toArray, List.set_cons_zero, List.set_cons_succ, i64_w, i32_w]
              rfl
            refine last_ (i := 5) (N := none) #[true, true, true, true, true, true] rfl rfl (one_of HT_.out (by kernel_rfl)) (by decide) (fun K hK => ?_)
            refine ow_put_step HO (by rfl) rfl 0 rfl (ty := 29) rfl _ rfl rfl (by kernel_rfl) rfl rfl (fun w1 HO1_ => ?_)
            clear HO
            have HO := HO1_
            clear HO1_
            simp only [List.set_cons_zero, List.set_cons_succ, List.setIfInBounds_toArray] at HO
            refine hK.out _ _ ?_
            clear hK K
            refine done_ (done_of HT_.out (by kernel_rfl)) ?_
            have HF := HO.out.facts; simp only [OwnsM.Facts, and_true] at HF
            go_wp2_with (first | ((with_reducible refine gate_callee (f := 61) rfl ?_); refine goesL_ (some 28) rfl rfl Try.func61 (by kernel_rfl) rfl #[.pointer (some ⟨g6, 0, none⟩)] rfl (by (try simp only [List.map_toArray, List.map_cons, List.map_nil]); first | done | rfl | (simp only [List.length_drop, List.length_take]; rfl)) ?_; refine (ofTCP_hand k g6 t1 t2 t3 t4 t5 t6 t7 t8 t9 _ _ _ _ _ t11 cl 0 0 0 0 0 none s1 s2 s3 s4 s5 s6 s7 s8 s9 s10 _ (HO.out.at_ 0 rfl) (HO.out.rd 0 rfl) (HO.out.cap 0 rfl) AS.out).mono ?_; rintro e w1 ⟨rfl, ht⟩; refine ⟨_, rfl, ?_⟩; replace HO := Aside0.mk (HO.out.turn 0 rfl ht); clear ht; simp only [List.set_cons_zero, List.set_cons_succ, List.setIfInBounds_toArray] at HO; rw [if_pos K4.out, if_pos K4.out, if_pos K4.out] at HO; clear HF; have HF := HO.out.facts; simp only [OwnsM.Facts, and_true] at HF) | ((with_reducible refine gate_dst (N := 43) rfl ?_); (first | refine ow_load HO rfl 0 rfl 29 _ rfl _ rfl Try.underlying29 rfl (by kernel_rfl) ?_)) | ((with_reducible refine gate_store (p := 2) rfl ?_); (first | refine ow_put HO rfl rfl 2 rfl (ty := 29) rfl _ rfl rfl (by kernel_rfl) rfl rfl ?_ | refine ow_put HO rfl rfl 1 rfl (ty := 29) rfl _ rfl rfl (by kernel_rfl) rfl rfl ?_); clear HO HF; intro w1 HO; simp only [List.set_cons_zero, List.set_cons_succ, List.setIfInBounds_toArray] at HO; have HF := HO.out.facts; simp only [OwnsM.Facts, and_true] at HF))
            refine bodyPost_ret (results_ct rfl _ _ g2 29 _ (0, 0) _ rfl (HO.out.at_ 2 rfl) Try.underlying29 rfl (by kernel_rfl)) rfl ?_
            exact ⟨_, _, rfl, HO.out.rowapart 1 0 (by decide) rfl rfl, HO.out.rowapart 0 1 (by decide) rfl rfl, HO.out.below⟩
        · rw [if_neg c4] at H
          have c4b0 : (s10 == 0) = false := beq_eq_false_iff_ne.mpr c4
          have c4b1 : (s10 != 0) = true := bne_iff_ne.mpr c4
          have K4 := Aside0.mk c4
          clear c4
          simp only [Option.some.injEq, Prod.mk.injEq] at H
          obtain ⟨rfl, rfl, rfl, rfl, rfl, rfl, rfl, rfl, rfl, rfl, rfl, rfl, rfl, rfl, rfl, rfl, rfl, rfl, rfl⟩ := H
          go_enter Try.func35, Try.ntmps35
          go_upto_region 4 with (first | ((with_reducible refine gate_dst (N := 2) rfl ?_); refine ow_box HO rfl (N := 2) rfl #[.int .i64 0, .int .i64 0, .bool false, .bool false, .int .i64 0, .int .i64 0, .int .i64 0, .int .u32 0, .int .u32 0, .slice none 0 0, .slice none 0 0, .int .i64 0, .int .i64 0, .int .i64 0, .int .i64 0, .int .i64 0, .int .i64 0, .pointer none] 29 ?hr rfl ?_; (case hr => first | (go_simp; done) | (go_simp; rfl)); clear HO HF; intro g2 w1 HO; have HF := HO.out.facts; simp only [OwnsM.Facts, and_true] at HF) | ((with_reducible refine gate_callee (f := 46) rfl ?_); refine goesL_ (some 9) rfl rfl Try.func46 (by kernel_rfl) rfl #[.slice A0 l0.length c0] rfl (by (try simp only [List.map_toArray, List.map_cons, List.map_nil]); first | done | rfl | (simp only [List.length_drop, List.length_take]; rfl)) ?_; refine (ip_Parse.calls k _ _ l0 t1 t2 t3 t4 t5 t6 t7 t8 t9 t10 t11 t12 _ (HO.out.old hr0) hc0 AI.out).mono ?_; rintro e w1 ⟨v1, v2, rfl, h1, h2, hb1⟩; obtain ⟨Ao, co, rfl⟩ := Kd.R_slice h1; obtain ⟨Ad, cd, rfl⟩ := Kd.R_slice h2; refine ⟨_, rfl, ?_⟩; replace HO := Aside0.mk (HO.out.call2 hb1 h1 h2); clear hb1 h1 h2; clear HF; have HF := HO.out.facts; simp only [OwnsM.Facts, and_true] at HF) | ((with_reducible refine gate_dst (N := 4) rfl ?_); refine ow_box HO rfl (N := 4) rfl #[.int .i64 0, .int .i64 0, .bool false, .bool false, .int .i64 0, .int .i64 0, .int .i64 0, .int .u32 0, .int .u32 0, .slice none 0 0, .slice none 0 0] 26 ?hr rfl ?_; (case hr => first | (go_simp; done) | (go_simp; rfl)); clear HO HF; intro g4 w1 HO; have HF := HO.out.facts; simp only [OwnsM.Facts, and_true] at HF) | ((with_reducible refine gate_store (p := 4) rfl ?_); (first | refine ow_put HO rfl rfl 0 rfl (ty := 26) rfl _ rfl rfl (by kernel_rfl) rfl rfl ?_); clear HO HF; intro w1 HO; simp only [List.set_cons_zero, List.set_cons_succ, List.setIfInBounds_toArray] at HO; have HF := HO.out.facts; simp only [OwnsM.Facts, and_true] at HF))
          have HO1_ := Aside0.mk HO.out.drew
          clear HO HF
          have HO := HO1_
          clear HO1_
          refine start_ (n := 6) (S := fun w' => w'.cell? ⟨g4, 0, none⟩ = some (.int .i64 t1) ∧ w'.cell? ⟨g4, 1, none⟩ = some (.int .i64 t2) ∧ w'.cell? ⟨g4, 2, none⟩ = some (.bool t3) ∧ w'.cell? ⟨g4, 3, none⟩ = some (.bool t4) ∧ w'.cell? ⟨g4, 4, none⟩ = some (.int .i64 t5) ∧ w'.cell? ⟨g4, 5, none⟩ = some (.int .i64 t6) ∧ w'.cell? ⟨g4, 6, none⟩ = some (.int .i64 t7) ∧ w'.cell? ⟨g4, 7, none⟩ = some (.int .u32 t8) ∧ w'.cell? ⟨g4, 8, none⟩ = some (.int .u32 t9) ∧ w'.cell? ⟨g4, 9, none⟩ = some (.slice Ao t10.length co) ∧ w'.cell? ⟨g4, 10, none⟩ = some (.slice Ad t11.length cd)) (ds := [5]) #[false, false, false, false, false, false] (by kernel_rfl) rfl rfl ⟨(HO.out.cell 0 0 rfl rfl), (HO.out.cell 0 1 rfl rfl), (HO.out.cell 0 2 rfl rfl), (HO.out.cell 0 3 rfl rfl), (HO.out.cell 0 4 rfl rfl), (HO.out.cell 0 5 rfl rfl), (HO.out.cell 0 6 rfl rfl), (HO.out.cell 0 7 rfl rfl), (HO.out.cell 0 8 rfl rfl), (HO.out.cell 0 9 rfl rfl), (HO.out.cell 0 10 rfl rfl)⟩ (fun hHeld => ?_); refine with_tabW pack_Parse.tab4 pack_Parse.bits4 (fun HT_ HW_ => ?_)
          generalize w1.drew = w1 at HO hHeld ⊢
          refine take_ (i := 0) (N := some 16) (v := ?_) (a' := ?_) #[true, false, false, false, false, false] rfl rfl (take_ofW HT_.out HW_.out (by kernel_rfl)) (fun _ _ _ h => h) (Or.inl ⟨by rfl, ?_⟩) hHeld ?_ ?_
          rotate_left
          · rintro w' ⟨s0, s1, s2, s3, s4, s5, s6, s7, s8, s9, s10⟩
            go_simp
            with_reducible rfl
          rotate_left
          · simp only [Act.put, List.setIfInBounds_toArray, List.set_cons_zero, List.set_cons_succ, i64_w, i32_w]
            rfl
          refine take_ (i := 1) (N := some 17) (v := ?_) (a' := ?_) #[true, true, false, false, false, false] rfl rfl (take_ofW HT_.out HW_.out (by kernel_rfl)) (fun _ _ _ h => h) (Or.inl ⟨by rfl, ?_⟩) hHeld ?_ ?_
          rotate_left
          · rintro w' ⟨s0, s1, s2, s3, s4, s5, s6, s7, s8, s9, s10⟩
            go_simp
            with_reducible rfl
          rotate_left
          · simp only [Act.put, List.setIfInBounds_toArray, List.set_cons_zero, List.set_cons_succ, i64_w, i32_w]
            rfl
          refine two_ (i := 2) (j := 4) (Ni := some 18) (Nj := some 6) #[true, true, true, false, false, false] #[true, true, false, false, true, false] rfl rfl rfl rfl (two_of HT_.out (by kernel_rfl)) (by decide) (by decide) (fun K hK => ?_) (fun K hK => ?_)
          · skip
            refine goes_ Try.func20 (by kernel_rfl) rfl #[.agg #[.int .i64 t1, .int .i64 t2, .bool t3, .bool t4, .int .i64 t5, .int .i64 t6, .int .i64 t7, .int .u32 t8, .int .u32 t9, .slice Ao t10.length co, .slice Ad t11.length cd]] (by rfl) rfl rfl (by (try simp only [List.map_toArray, List.map_cons, List.map_nil]); first | done | rfl | (simp only [List.length_drop, List.length_take]; rfl)) ?_
            refine (pack_Class.calls t1 t2 t3 t4 t5 t6 t7 t8 t9 _ _ t10 _ _ t11 cl _ (HO.out.rd 1 rfl) (HO.out.cap 1 rfl) (HO.out.rd 0 rfl) (HO.out.cap 0 rfl) AC.out).mono ?_
            rintro e w1 ⟨rfl, hb1⟩
            refine ⟨_, rfl, ?_⟩
            replace HO := Aside0.mk (HO.out.step hb1)
            clear hb1
            refine hK.out _ _ ⟨(HO.out.cell 0 0 rfl rfl), (HO.out.cell 0 1 rfl rfl), (HO.out.cell 0 2 rfl rfl), (HO.out.cell 0 3 rfl rfl), (HO.out.cell 0 4 rfl rfl), (HO.out.cell 0 5 rfl rfl), (HO.out.cell 0 6 rfl rfl), (HO.out.cell 0 7 rfl rfl), (HO.out.cell 0 8 rfl rfl), (HO.out.cell 0 9 rfl rfl), (HO.out.cell 0 10 rfl rfl)⟩ (fun hHeld => ?_)
            clear hK K
            refine norm_ (a' := ?_) ?_ ?_
            rotate_left
            · show Act.put _ (some 18) _ = _
              simp only [Act.put, List.setIfInBounds_toArray, List.set_cons_zero, List.set_cons_succ, i64_w, i32_w]
              rfl
            refine pure_ (i := 3) (N := some 19) (v := ?_) (a' := ?_) #[true, true, true, true, false, false] rfl rfl (any_of HT_.out (by kernel_rfl)) (fun _ _ _ h => h) (Or.inl ⟨by rfl, ?_⟩) ?_ ?_
            rotate_left
            · intro w'
              go_simp
              with_reducible rfl
            rotate_left
            · simp only [Act.put, List.setIfInBounds_toArray, List.set_cons_zero, List.set_cons_succ, i64_w, i32_w]
              rfl
            refine one_ (i := 4) (N := some 6) #[true, true, true, true, true, false] rfl rfl (one_of HT_.out (by kernel_rfl)) (by decide) (fun K hK => ?_)
            refine ow_box_step HO (by rfl) (N := 6) rfl #[.int .i64 0, .int .i64 0, .bool false, .bool false, .int .i64 0, .int .i64 0, .int .i64 0, .int .u32 0, .int .u32 0, .slice none 0 0, .slice none 0 0, .int .i64 0, .int .i64 0, .int .i64 0, .int .i64 0, .int .i64 0, .int .i64 0, .pointer none] 29 ?hr rfl (fun g6 w1 HO1_ => ?_); (case hr => first | (go_simp; done) | (go_simp; rfl))
            clear HO
            have HO := HO1_
            clear HO1_
            refine hK.out _ _ ⟨(HO.out.cell 1 0 rfl rfl), (HO.out.cell 1 1 rfl rfl), (HO.out.cell 1 2 rfl rfl), (HO.out.cell 1 3 rfl rfl), (HO.out.cell 1 4 rfl rfl), (HO.out.cell 1 5 rfl rfl), (HO.out.cell 1 6 rfl rfl), (HO.out.cell 1 7 rfl rfl), (HO.out.cell 1 8 rfl rfl), (HO.out.cell 1 9 rfl rfl), (HO.out.cell 1 10 rfl rfl)⟩ (fun hHeld => ?_)
            clear hK K
            refine norm_ (a' := ?_) ?_ ?_
            rotate_left
            · show Act.put _ (some 6) _ = _
              simp only [Act.put, List.setIfInBounds_toArray, List.set_cons_zero, List.set_cons_succ, i64_w, i32_w]
              rfl
            refine last_ (i := 5) (N := none) #[true, true, true, true, true, true] rfl rfl (one_of HT_.out (by kernel_rfl)) (by decide) (fun K hK => ?_)
            refine ow_put_step HO (by rfl) rfl 0 rfl (ty := 29) rfl _ rfl rfl (by kernel_rfl) rfl rfl (fun w1 HO1_ => ?_)
            clear HO
            have HO := HO1_
            clear HO1_
            simp only [List.set_cons_zero, List.set_cons_succ, List.setIfInBounds_toArray] at HO
            refine hK.out _ _ ?_
            clear hK K
            refine done_ (done_of HT_.out (by kernel_rfl)) ?_
            have HF := HO.out.facts; simp only [OwnsM.Facts, and_true] at HF
            go_wp2_with (first | ((with_reducible refine gate_callee (f := 61) rfl ?_); refine goesL_ (some 28) rfl rfl Try.func61 (by kernel_rfl) rfl #[.pointer (some ⟨g6, 0, none⟩)] rfl (by (try simp only [List.map_toArray, List.map_cons, List.map_nil]); first | done | rfl | (simp only [List.length_drop, List.length_take]; rfl)) ?_; refine (ofTCP_hand k g6 t1 t2 t3 t4 t5 t6 t7 t8 t9 _ _ _ _ _ t11 cl 0 0 0 0 0 none s1 s2 s3 s4 s5 s6 s7 s8 s9 s10 _ (HO.out.at_ 0 rfl) (HO.out.rd 0 rfl) (HO.out.cap 0 rfl) AS.out).mono ?_; rintro e w1 ⟨rfl, ht⟩; refine ⟨_, rfl, ?_⟩; replace HO := Aside0.mk (HO.out.turn 0 rfl ht); clear ht; simp only [List.set_cons_zero, List.set_cons_succ, List.setIfInBounds_toArray] at HO; rw [if_neg K4.out, if_neg K4.out, if_neg K4.out] at HO; clear HF; have HF := HO.out.facts; simp only [OwnsM.Facts, and_true] at HF) | ((with_reducible refine gate_dst (N := 43) rfl ?_); (first | refine ow_load HO rfl 0 rfl 29 _ rfl _ rfl Try.underlying29 rfl (by kernel_rfl) ?_)) | ((with_reducible refine gate_store (p := 2) rfl ?_); (first | refine ow_put HO rfl rfl 2 rfl (ty := 29) rfl _ rfl rfl (by kernel_rfl) rfl rfl ?_ | refine ow_put HO rfl rfl 1 rfl (ty := 29) rfl _ rfl rfl (by kernel_rfl) rfl rfl ?_); clear HO HF; intro w1 HO; simp only [List.set_cons_zero, List.set_cons_succ, List.setIfInBounds_toArray] at HO; have HF := HO.out.facts; simp only [OwnsM.Facts, and_true] at HF))
            refine bodyPost_ret (results_ct rfl _ _ g2 29 _ (0, 0) _ rfl (HO.out.at_ 2 rfl) Try.underlying29 rfl (by kernel_rfl)) rfl ?_
            exact ⟨_, _, rfl, Kd.R_nil _ _ _ _ _, Kd.R_nil _ _ _ _ _, HO.out.below⟩
          · skip
            refine ow_box_step HO (by rfl) (N := 6) rfl #[.int .i64 0, .int .i64 0, .bool false, .bool false, .int .i64 0, .int .i64 0, .int .i64 0, .int .u32 0, .int .u32 0, .slice none 0 0, .slice none 0 0, .int .i64 0, .int .i64 0, .int .i64 0, .int .i64 0, .int .i64 0, .int .i64 0, .pointer none] 29 ?hr rfl (fun g6 w1 HO1_ => ?_); (case hr => first | (go_simp; done) | (go_simp; rfl))
            clear HO
            have HO := HO1_
            clear HO1_
            refine hK.out _ _ ⟨(HO.out.cell 1 0 rfl rfl), (HO.out.cell 1 1 rfl rfl), (HO.out.cell 1 2 rfl rfl), (HO.out.cell 1 3 rfl rfl), (HO.out.cell 1 4 rfl rfl), (HO.out.cell 1 5 rfl rfl), (HO.out.cell 1 6 rfl rfl), (HO.out.cell 1 7 rfl rfl), (HO.out.cell 1 8 rfl rfl), (HO.out.cell 1 9 rfl rfl), (HO.out.cell 1 10 rfl rfl)⟩ (fun hHeld => ?_)
            clear hK K
            refine norm_ (a' := ?_) ?_ ?_
            rotate_left
            · show Act.put _ (some 6) _ = _
              simp only [Act.put, List.setIfInBounds_toArray, List.set_cons_zero, List.set_cons_succ, i64_w, i32_w]
              rfl
            refine one_ (i := 2) (N := some 18) #[true, true, true, false, true, false] rfl rfl (one_of HT_.out (by kernel_rfl)) (by decide) (fun K hK => ?_)
            refine goes_ Try.func20 (by kernel_rfl) rfl #[.agg #[.int .i64 t1, .int .i64 t2, .bool t3, .bool t4, .int .i64 t5, .int .i64 t6, .int .i64 t7, .int .u32 t8, .int .u32 t9, .slice Ao t10.length co, .slice Ad t11.length cd]] (by rfl) rfl rfl (by (try simp only [List.map_toArray, List.map_cons, List.map_nil]); first | done | rfl | (simp only [List.length_drop, List.length_take]; rfl)) ?_
            refine (pack_Class.calls t1 t2 t3 t4 t5 t6 t7 t8 t9 _ _ t10 _ _ t11 cl _ (HO.out.rd 1 rfl) (HO.out.cap 1 rfl) (HO.out.rd 0 rfl) (HO.out.cap 0 rfl) AC.out).mono ?_
            rintro e w1 ⟨rfl, hb1⟩
            refine ⟨_, rfl, ?_⟩
            replace HO := Aside0.mk (HO.out.step hb1)
            clear hb1
            refine hK.out _ _ ⟨(HO.out.cell 1 0 rfl rfl), (HO.out.cell 1 1 rfl rfl), (HO.out.cell 1 2 rfl rfl), (HO.out.cell 1 3 rfl rfl), (HO.out.cell 1 4 rfl rfl), (HO.out.cell 1 5 rfl rfl), (HO.out.cell 1 6 rfl rfl), (HO.out.cell 1 7 rfl rfl), (HO.out.cell 1 8 rfl rfl), (HO.out.cell 1 9 rfl rfl), (HO.out.cell 1 10 rfl rfl)⟩ (fun hHeld => ?_)
            clear hK K
            refine norm_ (a' := ?_) ?_ ?_
            rotate_left
            · show Act.put _ (some 18) _ = _
              simp only [Act.put, List.setIfInBounds_toArray, List.set_cons_zero, List.set_cons_succ, i64_w, i32_w]
              rfl
            refine pure_ (i := 3) (N := some 19) (v := ?_) (a' := ?_) #[true, true, true, true, true, false] rfl rfl (any_of HT_.out (by kernel_rfl)) (fun _ _ _ h => h) (Or.inl ⟨by rfl, ?_⟩) ?_ ?_
            rotate_left
            · intro w'
              go_simp
              with_reducible rfl
            rotate_left
            · simp only [Act.put, List.setIfInBounds_toArray, List.set_cons_zero, List.set_cons_succ, i64_w, i32_w]
              rfl
            refine last_ (i := 5) (N := none) #[true, true, true, true, true, true] rfl rfl (one_of HT_.out (by kernel_rfl)) (by decide) (fun K hK => ?_)
            refine ow_put_step HO (by rfl) rfl 0 rfl (ty := 29) rfl _ rfl rfl (by kernel_rfl) rfl rfl (fun w1 HO1_ => ?_)
            clear HO
            have HO := HO1_
            clear HO1_
            simp only [List.set_cons_zero, List.set_cons_succ, List.setIfInBounds_toArray] at HO
            refine hK.out _ _ ?_
            clear hK K
            refine done_ (done_of HT_.out (by kernel_rfl)) ?_
            have HF := HO.out.facts; simp only [OwnsM.Facts, and_true] at HF
            go_wp2_with (first | ((with_reducible refine gate_callee (f := 61) rfl ?_); refine goesL_ (some 28) rfl rfl Try.func61 (by kernel_rfl) rfl #[.pointer (some ⟨g6, 0, none⟩)] rfl (by (try simp only [List.map_toArray, List.map_cons, List.map_nil]); first | done | rfl | (simp only [List.length_drop, List.length_take]; rfl)) ?_; refine (ofTCP_hand k g6 t1 t2 t3 t4 t5 t6 t7 t8 t9 _ _ _ _ _ t11 cl 0 0 0 0 0 none s1 s2 s3 s4 s5 s6 s7 s8 s9 s10 _ (HO.out.at_ 0 rfl) (HO.out.rd 0 rfl) (HO.out.cap 0 rfl) AS.out).mono ?_; rintro e w1 ⟨rfl, ht⟩; refine ⟨_, rfl, ?_⟩; replace HO := Aside0.mk (HO.out.turn 0 rfl ht); clear ht; simp only [List.set_cons_zero, List.set_cons_succ, List.setIfInBounds_toArray] at HO; rw [if_neg K4.out, if_neg K4.out, if_neg K4.out] at HO; clear HF; have HF := HO.out.facts; simp only [OwnsM.Facts, and_true] at HF) | ((with_reducible refine gate_dst (N := 43) rfl ?_); (first | refine ow_load HO rfl 0 rfl 29 _ rfl _ rfl Try.underlying29 rfl (by kernel_rfl) ?_)) | ((with_reducible refine gate_store (p := 2) rfl ?_); (first | refine ow_put HO rfl rfl 2 rfl (ty := 29) rfl _ rfl rfl (by kernel_rfl) rfl rfl ?_ | refine ow_put HO rfl rfl 1 rfl (ty := 29) rfl _ rfl rfl (by kernel_rfl) rfl rfl ?_); clear HO HF; intro w1 HO; simp only [List.set_cons_zero, List.set_cons_succ, List.setIfInBounds_toArray] at HO; have HF := HO.out.facts; simp only [OwnsM.Facts, and_true] at HF))
            refine bodyPost_ret (results_ct rfl _ _ g2 29 _ (0, 0) _ rfl (HO.out.at_ 2 rfl) Try.underlying29 rfl (by kernel_rfl)) rfl ?_
            exact ⟨_, _, rfl, Kd.R_nil _ _ _ _ _, Kd.R_nil _ _ _ _ _, HO.out.below⟩
      · rw [if_neg c3] at H
        have c3b0 : (t7 == 6) = false := beq_eq_false_iff_ne.mpr c3
        have c3b1 : (t7 != 6) = true := bne_iff_ne.mpr c3
        clear c3
        by_cases c5 : t7 = 17
        · rw [if_pos c5] at H
          have c5b0 : (t7 == 17) = true := beq_iff_eq.mpr c5
          have c5b1 : (t7 != 17) = false := bne_eq_false_iff_eq.mpr c5
          clear c5
          obtain ⟨⟨u1, u2, u3, u4⟩, A_, H⟩ := Option.bind_eq_some_iff.mp H
          have AS := Aside0.mk A_
          clear A_
          obtain ⟨⟨p1, p2⟩, A_, H⟩ := Option.bind_eq_some_iff.mp H
          have AP := Aside0.mk A_
          clear A_
          dsimp only at H
          obtain ⟨ue, hue⟩ : ∃ ue : Int, ue = (if cl = 1 then (if (t11.length : Int) < 8 then 3 else 0) else u4) := ⟨_, rfl⟩
          rw [← hue] at H
          have HU := Aside0.mk hue.symm
          clear hue
          by_cases c6 : ue = 0
          · rw [if_pos c6] at H
            have c6b0 : (ue == 0) = true := beq_iff_eq.mpr c6
            have c6b1 : (ue != 0) = false := bne_eq_false_iff_eq.mpr c6
            have K6 := Aside0.mk c6
            clear c6
            simp only [Option.some.injEq, Prod.mk.injEq] at H
            obtain ⟨rfl, rfl, rfl, rfl, rfl, rfl, rfl, rfl, rfl, rfl, rfl, rfl, rfl, rfl, rfl, rfl, rfl, rfl, rfl⟩ := H
            go_enter Try.func35, Try.ntmps35
            go_upto_region 4 with (first | ((with_reducible refine gate_dst (N := 2) rfl ?_); refine ow_box HO rfl (N := 2) rfl #[.int .i64 0, .int .i64 0, .bool false, .bool false, .int .i64 0, .int .i64 0, .int .i64 0, .int .u32 0, .int .u32 0, .slice none 0 0, .slice none 0 0, .int .i64 0, .int .i64 0, .int .i64 0, .int .i64 0, .int .i64 0, .int .i64 0, .pointer none] 29 ?hr rfl ?_; (case hr => first | (go_simp; done) | (go_simp; rfl)); clear HO HF; intro g2 w1 HO; have HF := HO.out.facts; simp only [OwnsM.Facts, and_true] at HF) | ((with_reducible refine gate_callee (f := 46) rfl ?_); refine goesL_ (some 9) rfl rfl Try.func46 (by kernel_rfl) rfl #[.slice A0 l0.length c0] rfl (by (try simp only [List.map_toArray, List.map_cons, List.map_nil]); first | done | rfl | (simp only [List.length_drop, List.length_take]; rfl)) ?_; refine (ip_Parse.calls k _ _ l0 t1 t2 t3 t4 t5 t6 t7 t8 t9 t10 t11 t12 _ (HO.out.old hr0) hc0 AI.out).mono ?_; rintro e w1 ⟨v1, v2, rfl, h1, h2, hb1⟩; obtain ⟨Ao, co, rfl⟩ := Kd.R_slice h1; obtain ⟨Ad, cd, rfl⟩ := Kd.R_slice h2; refine ⟨_, rfl, ?_⟩; replace HO := Aside0.mk (HO.out.call2 hb1 h1 h2); clear hb1 h1 h2; clear HF; have HF := HO.out.facts; simp only [OwnsM.Facts, and_true] at HF) | ((with_reducible refine gate_dst (N := 4) rfl ?_); refine ow_box HO rfl (N := 4) rfl #[.int .i64 0, .int .i64 0, .bool false, .bool false, .int .i64 0, .int .i64 0, .int .i64 0, .int .u32 0, .int .u32 0, .slice none 0 0, .slice none 0 0] 26 ?hr rfl ?_; (case hr => first | (go_simp; done) | (go_simp; rfl)); clear HO HF; intro g4 w1 HO; have HF := HO.out.facts; simp only [OwnsM.Facts, and_true] at HF) | ((with_reducible refine gate_store (p := 4) rfl ?_); (first | refine ow_put HO rfl rfl 0 rfl (ty := 26) rfl _ rfl rfl (by kernel_rfl) rfl rfl ?_); clear HO HF; intro w1 HO; simp only [List.set_cons_zero, List.set_cons_succ, List.setIfInBounds_toArray] at HO; have HF := HO.out.facts; simp only [OwnsM.Facts, and_true] at HF))
            have HO1_ := Aside0.mk HO.out.drew
            clear HO HF
            have HO := HO1_
            clear HO1_
            refine start_ (n := 6) (S := fun w' => w'.cell? ⟨g4, 0, none⟩ = some (.int .i64 t1) ∧ w'.cell? ⟨g4, 1, none⟩ = some (.int .i64 t2) ∧ w'.cell? ⟨g4, 2, none⟩ = some (.bool t3) ∧ w'.cell? ⟨g4, 3, none⟩ = some (.bool t4) ∧ w'.cell? ⟨g4, 4, none⟩ = some (.int .i64 t5) ∧ w'.cell? ⟨g4, 5, none⟩ = some (.int .i64 t6) ∧ w'.cell? ⟨g4, 6, none⟩ = some (.int .i64 t7) ∧ w'.cell? ⟨g4, 7, none⟩ = some (.int .u32 t8) ∧ w'.cell? ⟨g4, 8, none⟩ = some (.int .u32 t9) ∧ w'.cell? ⟨g4, 9, none⟩ = some (.slice Ao t10.length co) ∧ w'.cell? ⟨g4, 10, none⟩ = some (.slice Ad t11.length cd)) (ds := [5]) #[false, false, false, false, false, false] (by kernel_rfl) rfl rfl ⟨(HO.out.cell 0 0 rfl rfl), (HO.out.cell 0 1 rfl rfl), (HO.out.cell 0 2 rfl rfl), (HO.out.cell 0 3 rfl rfl), (HO.out.cell 0 4 rfl rfl), (HO.out.cell 0 5 rfl rfl), (HO.out.cell 0 6 rfl rfl), (HO.out.cell 0 7 rfl rfl), (HO.out.cell 0 8 rfl rfl), (HO.out.cell 0 9 rfl rfl), (HO.out.cell 0 10 rfl rfl)⟩ (fun hHeld => ?_); refine with_tabW pack_Parse.tab4 pack_Parse.bits4 (fun HT_ HW_ => ?_)
            generalize w1.drew = w1 at HO hHeld ⊢
            refine take_ (i := 0) (N := some 16) (v := ?_) (a' := ?_) #[true, false, false, false, false, false] rfl rfl (take_ofW HT_.out HW_.out (by kernel_rfl)) (fun _ _ _ h => h) (Or.inl ⟨by rfl, ?_⟩) hHeld ?_ ?_
            rotate_left
            · rintro w' ⟨s0, s1, s2, s3, s4, s5, s6, s7, s8, s9, s10⟩
              go_simp
              with_reducible rfl
            rotate_left
            · simp only [Act.put, List.setIfInBounds_toArray, List.set_cons_zero, List.set_cons_succ, i64_w, i32_w]
              rfl
            refine take_ (i := 1) (N := some 17) (v := ?_) (a' := ?_) #[true, true, false, false, false, false] rfl rfl (take_ofW HT_.out HW_.out (by kernel_rfl)) (fun _ _ _ h => h) (Or.inl ⟨by rfl, ?_⟩) hHeld ?_ ?_
            rotate_left
            · rintro w' ⟨s0, s1, s2, s3, s4, s5, s6, s7, s8, s9, s10⟩
              go_simp
              with_reducible rfl
            rotate_left
            · simp only [Act.put, List.setIfInBounds_toArray, List.set_cons_zero, List.set_cons_succ, i64_w, i32_w]
              rfl
            refine two_ (i := 2) (j := 4) (Ni := some 18) (Nj := some 6) #[true, true, true, false, false, false] #[true, true, false, false, true, false] rfl rfl rfl rfl (two_of HT_.out (by kernel_rfl)) (by decide) (by decide) (fun K hK => ?_) (fun K hK => ?_)
            · skip
              refine goes_ Try.func20 (by kernel_rfl) rfl #[.agg #[.int .i64 t1, .int .i64 t2, .bool t3, .bool t4, .int .i64 t5, .int .i64 t6, .int .i64 t7, .int .u32 t8, .int .u32 t9, .slice Ao t10.length co, .slice Ad t11.length cd]] (by rfl) rfl rfl (by (try simp only [List.map_toArray, List.map_cons, List.map_nil]); first | done | rfl | (simp only [List.length_drop, List.length_take]; rfl)) ?_
              refine (pack_Class.calls t1 t2 t3 t4 t5 t6 t7 t8 t9 _ _ t10 _ _ t11 cl _ (HO.out.rd 1 rfl) (HO.out.cap 1 rfl) (HO.out.rd 0 rfl) (HO.out.cap 0 rfl) AC.out).mono ?_
              rintro e w1 ⟨rfl, hb1⟩
              refine ⟨_, rfl, ?_⟩
              replace HO := Aside0.mk (HO.out.step hb1)
              clear hb1
              refine hK.out _ _ ⟨(HO.out.cell 0 0 rfl rfl), (HO.out.cell 0 1 rfl rfl), (HO.out.cell 0 2 rfl rfl), (HO.out.cell 0 3 rfl rfl), (HO.out.cell 0 4 rfl rfl), (HO.out.cell 0 5 rfl rfl), (HO.out.cell 0 6 rfl rfl), (HO.out.cell 0 7 rfl rfl), (HO.out.cell 0 8 rfl rfl), (HO.out.cell 0 9 rfl rfl), (HO.out.cell 0 10 rfl rfl)⟩ (fun hHeld => ?_)
              clear hK K
              refine norm_ (a' := ?_) ?_ ?_
              rotate_left
              · show Act.put _ (some 18) _ = _
                simp only [Act.put, List.setIfInBounds_toArray, List.set_cons_zero, List.set_cons_succ, i64_w, i32_w]
                rfl
              refine pure_ (i := 3) (N := some 19) (v := ?_) (a' := ?_) #[true, true, true, true, false, false] rfl rfl (any_of HT_.out (by kernel_rfl)) (fun _ _ _ h => h) (Or.inl ⟨by rfl, ?_⟩) ?_ ?_
              rotate_left
              · intro w'
                go_simp
                with_reducible rfl
              rotate_left
              · simp only [Act.put, List.setIfInBounds_toArray, List.set_cons_zero, List.set_cons_succ, i64_w, i32_w]
                rfl
              refine one_ (i := 4) (N := some 6) #[true, true, true, true, true, false] rfl rfl (one_of HT_.out (by kernel_rfl)) (by decide) (fun K hK => ?_)
              refine ow_box_step HO (by rfl) (N := 6) rfl #[.int .i64 0, .int .i64 0, .bool false, .bool false, .int .i64 0, .int .i64 0, .int .i64 0, .int .u32 0, .int .u32 0, .slice none 0 0, .slice none 0 0, .int .i64 0, .int .i64 0, .int .i64 0, .int .i64 0, .int .i64 0, .int .i64 0, .pointer none] 29 ?hr rfl (fun g6 w1 HO1_ => ?_); (case hr => first | (go_simp; done) | (go_simp; rfl))
              clear HO
              have HO := HO1_
              clear HO1_
              refine hK.out _ _ ⟨(HO.out.cell 1 0 rfl rfl), (HO.out.cell 1 1 rfl rfl), (HO.out.cell 1 2 rfl rfl), (HO.out.cell 1 3 rfl rfl), (HO.out.cell 1 4 rfl rfl), (HO.out.cell 1 5 rfl rfl), (HO.out.cell 1 6 rfl rfl), (HO.out.cell 1 7 rfl rfl), (HO.out.cell 1 8 rfl rfl), (HO.out.cell 1 9 rfl rfl), (HO.out.cell 1 10 rfl rfl)⟩ (fun hHeld => ?_)
              clear hK K
              refine norm_ (a' := ?_) ?_ ?_
              rotate_left
              · show Act.put _ (some 6) _ = _
                simp only [Act.put, List.setIfInBounds_toArray, List.set_cons_zero, List.set_cons_succ, i64_w, i32_w]
                rfl
              refine last_ (i := 5) (N := none) #[true, true, true, true, true, true] rfl rfl (one_of HT_.out (by kernel_rfl)) (by decide) (fun K hK => ?_)
              refine ow_put_step HO (by rfl) rfl 0 rfl (ty := 29) rfl _ rfl rfl (by kernel_rfl) rfl rfl (fun w1 HO1_ => ?_)
              clear HO
              have HO := HO1_
              clear HO1_
              simp only [List.set_cons_zero, List.set_cons_succ, List.setIfInBounds_toArray] at HO
              refine hK.out _ _ ?_
              clear hK K
              refine done_ (done_of HT_.out (by kernel_rfl)) ?_
              have HF := HO.out.facts; simp only [OwnsM.Facts, and_true] at HF
              go_wp2_with (first | ((with_reducible refine gate_callee (f := 62) rfl ?_); refine goesL_ (some 33) rfl rfl Try.func62 (by kernel_rfl) rfl #[.pointer (some ⟨g6, 0, none⟩)] rfl (by (try simp only [List.map_toArray, List.map_cons, List.map_nil]); first | done | rfl | (simp only [List.length_drop, List.length_take]; rfl)) ?_; refine (ofUDP_hand g6 t1 t2 t3 t4 t5 t6 t7 t8 t9 _ _ _ _ _ t11 cl 0 0 0 0 0 none u1 u2 u3 u4 p1 p2 _ (HO.out.at_ 0 rfl) (HO.out.rd 0 rfl) (HO.out.cap 0 rfl) AS.out AP.out).mono ?_; rw [HU.out, if_pos K6.out, if_pos K6.out]; rintro e w1 ⟨rfl, ht⟩; refine ⟨_, rfl, ?_⟩; replace HO := Aside0.mk (HO.out.turn 0 rfl ht); clear ht; simp only [List.set_cons_zero, List.set_cons_succ, List.setIfInBounds_toArray] at HO; clear HF; have HF := HO.out.facts; simp only [OwnsM.Facts, and_true] at HF) | ((with_reducible refine gate_dst (N := 43) rfl ?_); (first | refine ow_load HO rfl 0 rfl 29 _ rfl _ rfl Try.underlying29 rfl (by kernel_rfl) ?_)) | ((with_reducible refine gate_store (p := 2) rfl ?_); (first | refine ow_put HO rfl rfl 2 rfl (ty := 29) rfl _ rfl rfl (by kernel_rfl) rfl rfl ?_ | refine ow_put HO rfl rfl 1 rfl (ty := 29) rfl _ rfl rfl (by kernel_rfl) rfl rfl ?_); clear HO HF; intro w1 HO; simp only [List.set_cons_zero, List.set_cons_succ, List.setIfInBounds_toArray] at HO; have HF := HO.out.facts; simp only [OwnsM.Facts, and_true] at HF))
              refine bodyPost_ret (results_ct rfl _ _ g2 29 _ (0, 0) _ rfl (HO.out.at_ 2 rfl) Try.underlying29 rfl (by kernel_rfl)) rfl ?_
              exact ⟨_, _, rfl, HO.out.rowapart 1 0 (by decide) rfl rfl, HO.out.rowapart 0 1 (by decide) rfl rfl, HO.out.below⟩
            · skip
              refine ow_box_step HO (by rfl) (N := 6) rfl #[.int .i64 0, .int .i64 0, .bool false, .bool false, .int .i64 0, .int .i64 0, .int .i64 0, .int .u32 0, .int .u32 0, .slice none 0 0, .slice none 0 0, .int .i64 0, .int .i64 0, .int .i64 0, .int .i64 0, .int .i64 0, .int .i64 0, .pointer none] 29 ?hr rfl (fun g6 w1 HO1_ => ?_); (case hr => first | (go_simp; done) | (go_simp; rfl))
              clear HO
              have HO := HO1_
              clear HO1_
              refine hK.out _ _ ⟨(HO.out.cell 1 0 rfl rfl), (HO.out.cell 1 1 rfl rfl), (HO.out.cell 1 2 rfl rfl), (HO.out.cell 1 3 rfl rfl), (HO.out.cell 1 4 rfl rfl), (HO.out.cell 1 5 rfl rfl), (HO.out.cell 1 6 rfl rfl), (HO.out.cell 1 7 rfl rfl), (HO.out.cell 1 8 rfl rfl), (HO.out.cell 1 9 rfl rfl), (HO.out.cell 1 10 rfl rfl)⟩ (fun hHeld => ?_)
              clear hK K
              refine norm_ (a' := ?_) ?_ ?_
              rotate_left
              · show Act.put _ (some 6) _ = _
                simp only [Act.put, List.setIfInBounds_toArray, List.set_cons_zero, List.set_cons_succ, i64_w, i32_w]
                rfl
              refine one_ (i := 2) (N := some 18) #[true, true, true, false, true, false] rfl rfl (one_of HT_.out (by kernel_rfl)) (by decide) (fun K hK => ?_)
              refine goes_ Try.func20 (by kernel_rfl) rfl #[.agg #[.int .i64 t1, .int .i64 t2, .bool t3, .bool t4, .int .i64 t5, .int .i64 t6, .int .i64 t7, .int .u32 t8, .int .u32 t9, .slice Ao t10.length co, .slice Ad t11.length cd]] (by rfl) rfl rfl (by (try simp only [List.map_toArray, List.map_cons, List.map_nil]); first | done | rfl | (simp only [List.length_drop, List.length_take]; rfl)) ?_
              refine (pack_Class.calls t1 t2 t3 t4 t5 t6 t7 t8 t9 _ _ t10 _ _ t11 cl _ (HO.out.rd 1 rfl) (HO.out.cap 1 rfl) (HO.out.rd 0 rfl) (HO.out.cap 0 rfl) AC.out).mono ?_
              rintro e w1 ⟨rfl, hb1⟩
              refine ⟨_, rfl, ?_⟩
              replace HO := Aside0.mk (HO.out.step hb1)
              clear hb1
              refine hK.out _ _ ⟨(HO.out.cell 1 0 rfl rfl), (HO.out.cell 1 1 rfl rfl), (HO.out.cell 1 2 rfl rfl), (HO.out.cell 1 3 rfl rfl), (HO.out.cell 1 4 rfl rfl), (HO.out.cell 1 5 rfl rfl), (HO.out.cell 1 6 rfl rfl), (HO.out.cell 1 7 rfl rfl), (HO.out.cell 1 8 rfl rfl), (HO.out.cell 1 9 rfl rfl), (HO.out.cell 1 10 rfl rfl)⟩ (fun hHeld => ?_)
              clear hK K
              refine norm_ (a' := ?_) ?_ ?_
              rotate_left
              · show Act.put _ (some 18) _ = _
                simp only [Act.put, List.setIfInBounds_toArray, List.set_cons_zero, List.set_cons_succ, i64_w, i32_w]
                rfl
              refine pure_ (i := 3) (N := some 19) (v := ?_) (a' := ?_) #[true, true, true, true, true, false] rfl rfl (any_of HT_.out (by kernel_rfl)) (fun _ _ _ h => h) (Or.inl ⟨by rfl, ?_⟩) ?_ ?_
              rotate_left
              · intro w'
                go_simp
                with_reducible rfl
              rotate_left
              · simp only [Act.put, List.setIfInBounds_toArray, List.set_cons_zero, List.set_cons_succ, i64_w, i32_w]
                rfl
              refine last_ (i := 5) (N := none) #[true, true, true, true, true, true] rfl rfl (one_of HT_.out (by kernel_rfl)) (by decide) (fun K hK => ?_)
              refine ow_put_step HO (by rfl) rfl 0 rfl (ty := 29) rfl _ rfl rfl (by kernel_rfl) rfl rfl (fun w1 HO1_ => ?_)
              clear HO
              have HO := HO1_
              clear HO1_
              simp only [List.set_cons_zero, List.set_cons_succ, List.setIfInBounds_toArray] at HO
              refine hK.out _ _ ?_
              clear hK K
              refine done_ (done_of HT_.out (by kernel_rfl)) ?_
              have HF := HO.out.facts; simp only [OwnsM.Facts, and_true] at HF
              go_wp2_with (first | ((with_reducible refine gate_callee (f := 62) rfl ?_); refine goesL_ (some 33) rfl rfl Try.func62 (by kernel_rfl) rfl #[.pointer (some ⟨g6, 0, none⟩)] rfl (by (try simp only [List.map_toArray, List.map_cons, List.map_nil]); first | done | rfl | (simp only [List.length_drop, List.length_take]; rfl)) ?_; refine (ofUDP_hand g6 t1 t2 t3 t4 t5 t6 t7 t8 t9 _ _ _ _ _ t11 cl 0 0 0 0 0 none u1 u2 u3 u4 p1 p2 _ (HO.out.at_ 0 rfl) (HO.out.rd 0 rfl) (HO.out.cap 0 rfl) AS.out AP.out).mono ?_; rw [HU.out, if_pos K6.out, if_pos K6.out]; rintro e w1 ⟨rfl, ht⟩; refine ⟨_, rfl, ?_⟩; replace HO := Aside0.mk (HO.out.turn 0 rfl ht); clear ht; simp only [List.set_cons_zero, List.set_cons_succ, List.setIfInBounds_toArray] at HO; clear HF; have HF := HO.out.facts; simp only [OwnsM.Facts, and_true] at HF) | ((with_reducible refine gate_dst (N := 43) rfl ?_); (first | refine ow_load HO rfl 0 rfl 29 _ rfl _ rfl Try.underlying29 rfl (by kernel_rfl) ?_)) | ((with_reducible refine gate_store (p := 2) rfl ?_); (first | refine ow_put HO rfl rfl 2 rfl (ty := 29) rfl _ rfl rfl (by kernel_rfl) rfl rfl ?_ | refine ow_put HO rfl rfl 1 rfl (ty := 29) rfl _ rfl rfl (by kernel_rfl) rfl rfl ?_); clear HO HF; intro w1 HO; simp only [List.set_cons_zero, List.set_cons_succ, List.setIfInBounds_toArray] at HO; have HF := HO.out.facts; simp only [OwnsM.Facts, and_true] at HF))
              refine bodyPost_ret (results_ct rfl _ _ g2 29 _ (0, 0) _ rfl (HO.out.at_ 2 rfl) Try.underlying29 rfl (by kernel_rfl)) rfl ?_
              exact ⟨_, _, rfl, HO.out.rowapart 1 0 (by decide) rfl rfl, HO.out.rowapart 0 1 (by decide) rfl rfl, HO.out.below⟩
          · rw [if_neg c6] at H
            have c6b0 : (ue == 0) = false := beq_eq_false_iff_ne.mpr c6
            have c6b1 : (ue != 0) = true := bne_iff_ne.mpr c6
            have K6 := Aside0.mk c6
            clear c6
            simp only [Option.some.injEq, Prod.mk.injEq] at H
            obtain ⟨rfl, rfl, rfl, rfl, rfl, rfl, rfl, rfl, rfl, rfl, rfl, rfl, rfl, rfl, rfl, rfl, rfl, rfl, rfl⟩ := H
            go_enter Try.func35, Try.ntmps35
            go_upto_region 4 with (first | ((with_reducible refine gate_dst (N := 2) rfl ?_); refine ow_box HO rfl (N := 2) rfl #[.int .i64 0, .int .i64 0, .bool false, .bool false, .int .i64 0, .int .i64 0, .int .i64 0, .int .u32 0, .int .u32 0, .slice none 0 0, .slice none 0 0, .int .i64 0, .int .i64 0, .int .i64 0, .int .i64 0, .int .i64 0, .int .i64 0, .pointer none] 29 ?hr rfl ?_; (case hr => first | (go_simp; done) | (go_simp; rfl)); clear HO HF; intro g2 w1 HO; have HF := HO.out.facts; simp only [OwnsM.Facts, and_true] at HF) | ((with_reducible refine gate_callee (f := 46) rfl ?_); refine goesL_ (some 9) rfl rfl Try.func46 (by kernel_rfl) rfl #[.slice A0 l0.length c0] rfl (by (try simp only [List.map_toArray, List.map_cons, List.map_nil]); first | done | rfl | (simp only [List.length_drop, List.length_take]; rfl)) ?_; refine (ip_Parse.calls k _ _ l0 t1 t2 t3 t4 t5 t6 t7 t8 t9 t10 t11 t12 _ (HO.out.old hr0) hc0 AI.out).mono ?_; rintro e w1 ⟨v1, v2, rfl, h1, h2, hb1⟩; obtain ⟨Ao, co, rfl⟩ := Kd.R_slice h1; obtain ⟨Ad, cd, rfl⟩ := Kd.R_slice h2; refine ⟨_, rfl, ?_⟩; replace HO := Aside0.mk (HO.out.call2 hb1 h1 h2); clear hb1 h1 h2; clear HF; have HF := HO.out.facts; simp only [OwnsM.Facts, and_true] at HF) | ((with_reducible refine gate_dst (N := 4) rfl ?_); refine ow_box HO rfl (N := 4) rfl #[.int .i64 0, .int .i64 0, .bool false, .bool false, .int .i64 0, .int .i64 0, .int .i64 0, .int .u32 0, .int .u32 0, .slice none 0 0, .slice none 0 0] 26 ?hr rfl ?_; (case hr => first | (go_simp; done) | (go_simp; rfl)); clear HO HF; intro g4 w1 HO; have HF := HO.out.facts; simp only [OwnsM.Facts, and_true] at HF) | ((with_reducible refine gate_store (p := 4) rfl ?_); (first | refine ow_put HO rfl rfl 0 rfl (ty := 26) rfl _ rfl rfl (by kernel_rfl) rfl rfl ?_); clear HO HF; intro w1 HO; simp only [List.set_cons_zero, List.set_cons_succ, List.setIfInBounds_toArray] at HO; have HF := HO.out.facts; simp only [OwnsM.Facts, and_true] at HF))
            have HO1_ := Aside0.mk HO.out.drew
            clear HO HF
            have HO := HO1_
            clear HO1_
            refine start_ (n := 6) (S := fun w' => w'.cell? ⟨g4, 0, none⟩ = some (.int .i64 t1) ∧ w'.cell? ⟨g4, 1, none⟩ = some (.int .i64 t2) ∧ w'.cell? ⟨g4, 2, none⟩ = some (.bool t3) ∧ w'.cell? ⟨g4, 3, none⟩ = some (.bool t4) ∧ w'.cell? ⟨g4, 4, none⟩ = some (.int .i64 t5) ∧ w'.cell? ⟨g4, 5, none⟩ = some (.int .i64 t6) ∧ w'.cell? ⟨g4, 6, none⟩ = some (.int .i64 t7) ∧ w'.cell? ⟨g4, 7, none⟩ = some (.int .u32 t8) ∧ w'.cell? ⟨g4, 8, none⟩ = some (.int .u32 t9) ∧ w'.cell? ⟨g4, 9, none⟩ = some (.slice Ao t10.length co) ∧ w'.cell? ⟨g4, 10, none⟩ = some (.slice Ad t11.length cd)) (ds := [5]) #[false, false, false, false, false, false] (by kernel_rfl) rfl rfl ⟨(HO.out.cell 0 0 rfl rfl), (HO.out.cell 0 1 rfl rfl), (HO.out.cell 0 2 rfl rfl), (HO.out.cell 0 3 rfl rfl), (HO.out.cell 0 4 rfl rfl), (HO.out.cell 0 5 rfl rfl), (HO.out.cell 0 6 rfl rfl), (HO.out.cell 0 7 rfl rfl), (HO.out.cell 0 8 rfl rfl), (HO.out.cell 0 9 rfl rfl), (HO.out.cell 0 10 rfl rfl)⟩ (fun hHeld => ?_); refine with_tabW pack_Parse.tab4 pack_Parse.bits4 (fun HT_ HW_ => ?_)
            generalize w1.drew = w1 at HO hHeld ⊢
            refine take_ (i := 0) (N := some 16) (v := ?_) (a' := ?_) #[true, false, false, false, false, false] rfl rfl (take_ofW HT_.out HW_.out (by kernel_rfl)) (fun _ _ _ h => h) (Or.inl ⟨by rfl, ?_⟩) hHeld ?_ ?_
            rotate_left
            · rintro w' ⟨s0, s1, s2, s3, s4, s5, s6, s7, s8, s9, s10⟩
              go_simp
              with_reducible rfl
            rotate_left
            · simp only [Act.put, List.setIfInBounds_toArray, List.set_cons_zero, List.set_cons_succ, i64_w, i32_w]
              rfl
            refine take_ (i := 1) (N := some 17) (v := ?_) (a' := ?_) #[true, true, false, false, false, false] rfl rfl (take_ofW HT_.out HW_.out (by kernel_rfl)) (fun _ _ _ h => h) (Or.inl ⟨by rfl, ?_⟩) hHeld ?_ ?_
            rotate_left
            · rintro w' ⟨s0, s1, s2, s3, s4, s5, s6, s7, s8, s9, s10⟩
              go_simp
              with_reducible rfl
            rotate_left
            · simp only [Act.put, List.setIfInBounds_toArray, List.set_cons_zero, List.set_cons_succ, i64_w, i32_w]
              rfl
            refine two_ (i := 2) (j := 4) (Ni := some 18) (Nj := some 6) #[true, true, true, false, false, false] #[true, true, false, false, true, false] rfl rfl rfl rfl (two_of HT_.out (by kernel_rfl)) (by decide) (by decide) (fun K hK => ?_) (fun K hK => ?_)
            · skip
              refine goes_ Try.func20 (by kernel_rfl) rfl #[.agg #[.int .i64 t1, .int .i64 t2, .bool t3, .bool t4, .int .i64 t5, .int .i64 t6, .int .i64 t7, .int .u32 t8, .int .u32 t9, .slice Ao t10.length co, .slice Ad t11.length cd]] (by rfl) rfl rfl (by (try simp only [List.map_toArray, List.map_cons, List.map_nil]); first | done | rfl | (simp only [List.length_drop, List.length_take]; rfl)) ?_
              refine (pack_Class.calls t1 t2 t3 t4 t5 t6 t7 t8 t9 _ _ t10 _ _ t11 cl _ (HO.out.rd 1 rfl) (HO.out.cap 1 rfl) (HO.out.rd 0 rfl) (HO.out.cap 0 rfl) AC.out).mono ?_
              rintro e w1 ⟨rfl, hb1⟩
              refine ⟨_, rfl, ?_⟩
              replace HO := Aside0.mk (HO.out.step hb1)
              clear hb1
              refine hK.out _ _ ⟨(HO.out.cell 0 0 rfl rfl), (HO.out.cell 0 1 rfl rfl), (HO.out.cell 0 2 rfl rfl), (HO.out.cell 0 3 rfl rfl), (HO.out.cell 0 4 rfl rfl), (HO.out.cell 0 5 rfl rfl), (HO.out.cell 0 6 rfl rfl), (HO.out.cell 0 7 rfl rfl), (HO.out.cell 0 8 rfl rfl), (HO.out.cell 0 9 rfl rfl), (HO.out.cell 0 10 rfl rfl)⟩ (fun hHeld => ?_)
              clear hK K
              refine norm_ (a' := ?_) ?_ ?_
              rotate_left
              · show Act.put _ (some 18) _ = _
                simp only [Act.put, List.setIfInBounds_toArray, List.set_cons_zero, List.set_cons_succ, i64_w, i32_w]
                rfl
              refine pure_ (i := 3) (N := some 19) (v := ?_) (a' := ?_) #[true, true, true, true, false, false] rfl rfl (any_of HT_.out (by kernel_rfl)) (fun _ _ _ h => h) (Or.inl ⟨by rfl, ?_⟩) ?_ ?_
              rotate_left
              · intro w'
                go_simp
                with_reducible rfl
              rotate_left
              · simp only [Act.put, List.setIfInBounds_toArray, List.set_cons_zero, List.set_cons_succ, i64_w, i32_w]
                rfl
              refine one_ (i := 4) (N := some 6) #[true, true, true, true, true, false] rfl rfl (one_of HT_.out (by kernel_rfl)) (by decide) (fun K hK => ?_)
              refine ow_box_step HO (by rfl) (N := 6) rfl #[.int .i64 0, .int .i64 0, .bool false, .bool false, .int .i64 0, .int .i64 0, .int .i64 0, .int .u32 0, .int .u32 0, .slice none 0 0, .slice none 0 0, .int .i64 0, .int .i64 0, .int .i64 0, .int .i64 0, .int .i64 0, .int .i64 0, .pointer none] 29 ?hr rfl (fun g6 w1 HO1_ => ?_); (case hr => first | (go_simp; done) | (go_simp; rfl))
              clear HO
              have HO := HO1_
              clear HO1_
              refine hK.out _ _ ⟨(HO.out.cell 1 0 rfl rfl), (HO.out.cell 1 1 rfl rfl), (HO.out.cell 1 2 rfl rfl), (HO.out.cell 1 3 rfl rfl), (HO.out.cell 1 4 rfl rfl), (HO.out.cell 1 5 rfl rfl), (HO.out.cell 1 6 rfl rfl), (HO.out.cell 1 7 rfl rfl), (HO.out.cell 1 8 rfl rfl), (HO.out.cell 1 9 rfl rfl), (HO.out.cell 1 10 rfl rfl)⟩ (fun hHeld => ?_)
              clear hK K
              refine norm_ (a' := ?_) ?_ ?_
              rotate_left
              · show Act.put _ (some 6) _ = _
                simp only [Act.put, List.setIfInBounds_toArray, List.set_cons_zero, List.set_cons_succ, i64_w, i32_w]
                rfl
              refine last_ (i := 5) (N := none) #[true, true, true, true, true, true] rfl rfl (one_of HT_.out (by kernel_rfl)) (by decide) (fun K hK => ?_)
              refine ow_put_step HO (by rfl) rfl 0 rfl (ty := 29) rfl _ rfl rfl (by kernel_rfl) rfl rfl (fun w1 HO1_ => ?_)
              clear HO
              have HO := HO1_
              clear HO1_
              simp only [List.set_cons_zero, List.set_cons_succ, List.setIfInBounds_toArray] at HO
              refine hK.out _ _ ?_
              clear hK K
              refine done_ (done_of HT_.out (by kernel_rfl)) ?_
              have HF := HO.out.facts; simp only [OwnsM.Facts, and_true] at HF
              go_wp2_with (first | ((with_reducible refine gate_callee (f := 62) rfl ?_); refine goesL_ (some 33) rfl rfl Try.func62 (by kernel_rfl) rfl #[.pointer (some ⟨g6, 0, none⟩)] rfl (by (try simp only [List.map_toArray, List.map_cons, List.map_nil]); first | done | rfl | (simp only [List.length_drop, List.length_take]; rfl)) ?_; refine (ofUDP_hand g6 t1 t2 t3 t4 t5 t6 t7 t8 t9 _ _ _ _ _ t11 cl 0 0 0 0 0 none u1 u2 u3 u4 p1 p2 _ (HO.out.at_ 0 rfl) (HO.out.rd 0 rfl) (HO.out.cap 0 rfl) AS.out AP.out).mono ?_; rw [HU.out, if_neg K6.out, if_neg K6.out]; rintro e w1 ⟨rfl, ht⟩; refine ⟨_, rfl, ?_⟩; replace HO := Aside0.mk (HO.out.turn 0 rfl ht); clear ht; simp only [List.set_cons_zero, List.set_cons_succ, List.setIfInBounds_toArray] at HO; clear HF; have HF := HO.out.facts; simp only [OwnsM.Facts, and_true] at HF) | ((with_reducible refine gate_dst (N := 43) rfl ?_); (first | refine ow_load HO rfl 0 rfl 29 _ rfl _ rfl Try.underlying29 rfl (by kernel_rfl) ?_)) | ((with_reducible refine gate_store (p := 2) rfl ?_); (first | refine ow_put HO rfl rfl 2 rfl (ty := 29) rfl _ rfl rfl (by kernel_rfl) rfl rfl ?_ | refine ow_put HO rfl rfl 1 rfl (ty := 29) rfl _ rfl rfl (by kernel_rfl) rfl rfl ?_); clear HO HF; intro w1 HO; simp only [List.set_cons_zero, List.set_cons_succ, List.setIfInBounds_toArray] at HO; have HF := HO.out.facts; simp only [OwnsM.Facts, and_true] at HF))
              refine bodyPost_ret (results_ct rfl _ _ g2 29 _ (0, 0) _ rfl (HO.out.at_ 2 rfl) Try.underlying29 rfl (by kernel_rfl)) rfl ?_
              exact ⟨_, _, rfl, Kd.R_nil _ _ _ _ _, Kd.R_nil _ _ _ _ _, HO.out.below⟩
            · skip
              refine ow_box_step HO (by rfl) (N := 6) rfl #[.int .i64 0, .int .i64 0, .bool false, .bool false, .int .i64 0, .int .i64 0, .int .i64 0, .int .u32 0, .int .u32 0, .slice none 0 0, .slice none 0 0, .int .i64 0, .int .i64 0, .int .i64 0, .int .i64 0, .int .i64 0, .int .i64 0, .pointer none] 29 ?hr rfl (fun g6 w1 HO1_ => ?_); (case hr => first | (go_simp; done) | (go_simp; rfl))
              clear HO
              have HO := HO1_
              clear HO1_
              refine hK.out _ _ ⟨(HO.out.cell 1 0 rfl rfl), (HO.out.cell 1 1 rfl rfl), (HO.out.cell 1 2 rfl rfl), (HO.out.cell 1 3 rfl rfl), (HO.out.cell 1 4 rfl rfl), (HO.out.cell 1 5 rfl rfl), (HO.out.cell 1 6 rfl rfl), (HO.out.cell 1 7 rfl rfl), (HO.out.cell 1 8 rfl rfl), (HO.out.cell 1 9 rfl rfl), (HO.out.cell 1 10 rfl rfl)⟩ (fun hHeld => ?_)
              clear hK K
              refine norm_ (a' := ?_) ?_ ?_
              rotate_left
              · show Act.put _ (some 6) _ = _
                simp only [Act.put, List.setIfInBounds_toArray, List.set_cons_zero, List.set_cons_succ, i64_w, i32_w]
                rfl
              refine one_ (i := 2) (N := some 18) #[true, true, true, false, true, false] rfl rfl (one_of HT_.out (by kernel_rfl)) (by decide) (fun K hK => ?_)
              refine goes_ Try.func20 (by kernel_rfl) rfl #[.agg #[.int .i64 t1, .int .i64 t2, .bool t3, .bool t4, .int .i64 t5, .int .i64 t6, .int .i64 t7, .int .u32 t8, .int .u32 t9, .slice Ao t10.length co, .slice Ad t11.length cd]] (by rfl) rfl rfl (by (try simp only [List.map_toArray, List.map_cons, List.map_nil]); first | done | rfl | (simp only [List.length_drop, List.length_take]; rfl)) ?_
              refine (pack_Class.calls t1 t2 t3 t4 t5 t6 t7 t8 t9 _ _ t10 _ _ t11 cl _ (HO.out.rd 1 rfl) (HO.out.cap 1 rfl) (HO.out.rd 0 rfl) (HO.out.cap 0 rfl) AC.out).mono ?_
              rintro e w1 ⟨rfl, hb1⟩
              refine ⟨_, rfl, ?_⟩
              replace HO := Aside0.mk (HO.out.step hb1)
              clear hb1
              refine hK.out _ _ ⟨(HO.out.cell 1 0 rfl rfl), (HO.out.cell 1 1 rfl rfl), (HO.out.cell 1 2 rfl rfl), (HO.out.cell 1 3 rfl rfl), (HO.out.cell 1 4 rfl rfl), (HO.out.cell 1 5 rfl rfl), (HO.out.cell 1 6 rfl rfl), (HO.out.cell 1 7 rfl rfl), (HO.out.cell 1 8 rfl rfl), (HO.out.cell 1 9 rfl rfl), (HO.out.cell 1 10 rfl rfl)⟩ (fun hHeld => ?_)
              clear hK K
              refine norm_ (a' := ?_) ?_ ?_
              rotate_left
              · show Act.put _ (some 18) _ = _
                simp only [Act.put, List.setIfInBounds_toArray, List.set_cons_zero, List.set_cons_succ, i64_w, i32_w]
                rfl
              refine pure_ (i := 3) (N := some 19) (v := ?_) (a' := ?_) #[true, true, true, true, true, false] rfl rfl (any_of HT_.out (by kernel_rfl)) (fun _ _ _ h => h) (Or.inl ⟨by rfl, ?_⟩) ?_ ?_
              rotate_left
              · intro w'
                go_simp
                with_reducible rfl
              rotate_left
              · simp only [Act.put, List.setIfInBounds_toArray, List.set_cons_zero, List.set_cons_succ, i64_w, i32_w]
                rfl
              refine last_ (i := 5) (N := none) #[true, true, true, true, true, true] rfl rfl (one_of HT_.out (by kernel_rfl)) (by decide) (fun K hK => ?_)
              refine ow_put_step HO (by rfl) rfl 0 rfl (ty := 29) rfl _ rfl rfl (by kernel_rfl) rfl rfl (fun w1 HO1_ => ?_)
              clear HO
              have HO := HO1_
              clear HO1_
              simp only [List.set_cons_zero, List.set_cons_succ, List.setIfInBounds_toArray] at HO
              refine hK.out _ _ ?_
              clear hK K
              refine done_ (done_of HT_.out (by kernel_rfl)) ?_
              have HF := HO.out.facts; simp only [OwnsM.Facts, and_true] at HF
              go_wp2_with (first | ((with_reducible refine gate_callee (f := 62) rfl ?_); refine goesL_ (some 33) rfl rfl Try.func62 (by kernel_rfl) rfl #[.pointer (some ⟨g6, 0, none⟩)] rfl (by (try simp only [List.map_toArray, List.map_cons, List.map_nil]); first | done | rfl | (simp only [List.length_drop, List.length_take]; rfl)) ?_; refine (ofUDP_hand g6 t1 t2 t3 t4 t5 t6 t7 t8 t9 _ _ _ _ _ t11 cl 0 0 0 0 0 none u1 u2 u3 u4 p1 p2 _ (HO.out.at_ 0 rfl) (HO.out.rd 0 rfl) (HO.out.cap 0 rfl) AS.out AP.out).mono ?_; rw [HU.out, if_neg K6.out, if_neg K6.out]; rintro e w1 ⟨rfl, ht⟩; refine ⟨_, rfl, ?_⟩; replace HO := Aside0.mk (HO.out.turn 0 rfl ht); clear ht; simp only [List.set_cons_zero, List.set_cons_succ, List.setIfInBounds_toArray] at HO; clear HF; have HF := HO.out.facts; simp only [OwnsM.Facts, and_true] at HF) | ((with_reducible refine gate_dst (N := 43) rfl ?_); (first | refine ow_load HO rfl 0 rfl 29 _ rfl _ rfl Try.underlying29 rfl (by kernel_rfl) ?_)) | ((with_reducible refine gate_store (p := 2) rfl ?_); (first | refine ow_put HO rfl rfl 2 rfl (ty := 29) rfl _ rfl rfl (by kernel_rfl) rfl rfl ?_ | refine ow_put HO rfl rfl 1 rfl (ty := 29) rfl _ rfl rfl (by kernel_rfl) rfl rfl ?_); clear HO HF; intro w1 HO; simp only [List.set_cons_zero, List.set_cons_succ, List.setIfInBounds_toArray] at HO; have HF := HO.out.facts; simp only [OwnsM.Facts, and_true] at HF))
              refine bodyPost_ret (results_ct rfl _ _ g2 29 _ (0, 0) _ rfl (HO.out.at_ 2 rfl) Try.underlying29 rfl (by kernel_rfl)) rfl ?_
              exact ⟨_, _, rfl, Kd.R_nil _ _ _ _ _, Kd.R_nil _ _ _ _ _, HO.out.below⟩
        · rw [if_neg c5] at H
          have c5b0 : (t7 == 17) = false := beq_eq_false_iff_ne.mpr c5
          have c5b1 : (t7 != 17) = true := bne_iff_ne.mpr c5
          clear c5
          by_cases c7 : t7 = 1
          · rw [if_pos c7] at H
            exact absurd H (by simp)
          · rw [if_neg c7] at H
            have c7b0 : (t7 == 1) = false := beq_eq_false_iff_ne.mpr c7
            have c7b1 : (t7 != 1) = true := bne_iff_ne.mpr c7
            simp only [Option.some.injEq, Prod.mk.injEq] at H
            obtain ⟨rfl, rfl, rfl, rfl, rfl, rfl, rfl, rfl, rfl, rfl, rfl, rfl, rfl, rfl, rfl, rfl, rfl, rfl, rfl⟩ := H
            go_enter Try.func35, Try.ntmps35
            go_upto_region 4 with (first | ((with_reducible refine gate_dst (N := 2) rfl ?_); refine ow_box HO rfl (N := 2) rfl #[.int .i64 0, .int .i64 0, .bool false, .bool false, .int .i64 0, .int .i64 0, .int .i64 0, .int .u32 0, .int .u32 0, .slice none 0 0, .slice none 0 0, .int .i64 0, .int .i64 0, .int .i64 0, .int .i64 0, .int .i64 0, .int .i64 0, .pointer none] 29 ?hr rfl ?_; (case hr => first | (go_simp; done) | (go_simp; rfl)); clear HO HF; intro g2 w1 HO; have HF := HO.out.facts; simp only [OwnsM.Facts, and_true] at HF) | ((with_reducible refine gate_callee (f := 46) rfl ?_); refine goesL_ (some 9) rfl rfl Try.func46 (by kernel_rfl) rfl #[.slice A0 l0.length c0] rfl (by (try simp only [List.map_toArray, List.map_cons, List.map_nil]); first | done | rfl | (simp only [List.length_drop, List.length_take]; rfl)) ?_; refine (ip_Parse.calls k _ _ l0 t1 t2 t3 t4 t5 t6 t7 t8 t9 t10 t11 t12 _ (HO.out.old hr0) hc0 AI.out).mono ?_; rintro e w1 ⟨v1, v2, rfl, h1, h2, hb1⟩; obtain ⟨Ao, co, rfl⟩ := Kd.R_slice h1; obtain ⟨Ad, cd, rfl⟩ := Kd.R_slice h2; refine ⟨_, rfl, ?_⟩; replace HO := Aside0.mk (HO.out.call2 hb1 h1 h2); clear hb1 h1 h2; clear HF; have HF := HO.out.facts; simp only [OwnsM.Facts, and_true] at HF) | ((with_reducible refine gate_dst (N := 4) rfl ?_); refine ow_box HO rfl (N := 4) rfl #[.int .i64 0, .int .i64 0, .bool false, .bool false, .int .i64 0, .int .i64 0, .int .i64 0, .int .u32 0, .int .u32 0, .slice none 0 0, .slice none 0 0] 26 ?hr rfl ?_; (case hr => first | (go_simp; done) | (go_simp; rfl)); clear HO HF; intro g4 w1 HO; have HF := HO.out.facts; simp only [OwnsM.Facts, and_true] at HF) | ((with_reducible refine gate_store (p := 4) rfl ?_); (first | refine ow_put HO rfl rfl 0 rfl (ty := 26) rfl _ rfl rfl (by kernel_rfl) rfl rfl ?_); clear HO HF; intro w1 HO; simp only [List.set_cons_zero, List.set_cons_succ, List.setIfInBounds_toArray] at HO; have HF := HO.out.facts; simp only [OwnsM.Facts, and_true] at HF))
            have HO1_ := Aside0.mk HO.out.drew
            clear HO HF
            have HO := HO1_
            clear HO1_
            refine start_ (n := 6) (S := fun w' => w'.cell? ⟨g4, 0, none⟩ = some (.int .i64 t1) ∧ w'.cell? ⟨g4, 1, none⟩ = some (.int .i64 t2) ∧ w'.cell? ⟨g4, 2, none⟩ = some (.bool t3) ∧ w'.cell? ⟨g4, 3, none⟩ = some (.bool t4) ∧ w'.cell? ⟨g4, 4, none⟩ = some (.int .i64 t5) ∧ w'.cell? ⟨g4, 5, none⟩ = some (.int .i64 t6) ∧ w'.cell? ⟨g4, 6, none⟩ = some (.int .i64 t7) ∧ w'.cell? ⟨g4, 7, none⟩ = some (.int .u32 t8) ∧ w'.cell? ⟨g4, 8, none⟩ = some (.int .u32 t9) ∧ w'.cell? ⟨g4, 9, none⟩ = some (.slice Ao t10.length co) ∧ w'.cell? ⟨g4, 10, none⟩ = some (.slice Ad t11.length cd)) (ds := [5]) #[false, false, false, false, false, false] (by kernel_rfl) rfl rfl ⟨(HO.out.cell 0 0 rfl rfl), (HO.out.cell 0 1 rfl rfl), (HO.out.cell 0 2 rfl rfl), (HO.out.cell 0 3 rfl rfl), (HO.out.cell 0 4 rfl rfl), (HO.out.cell 0 5 rfl rfl), (HO.out.cell 0 6 rfl rfl), (HO.out.cell 0 7 rfl rfl), (HO.out.cell 0 8 rfl rfl), (HO.out.cell 0 9 rfl rfl), (HO.out.cell 0 10 rfl rfl)⟩ (fun hHeld => ?_); refine with_tabW pack_Parse.tab4 pack_Parse.bits4 (fun HT_ HW_ => ?_)
            generalize w1.drew = w1 at HO hHeld ⊢
            refine take_ (i := 0) (N := some 16) (v := ?_) (a' := ?_) #[true, false, false, false, false, false] rfl rfl (take_ofW HT_.out HW_.out (by kernel_rfl)) (fun _ _ _ h => h) (Or.inl ⟨by rfl, ?_⟩) hHeld ?_ ?_
            rotate_left
            · rintro w' ⟨s0, s1, s2, s3, s4, s5, s6, s7, s8, s9, s10⟩
              go_simp
              with_reducible rfl
            rotate_left
            · simp only [Act.put, List.setIfInBounds_toArray, List.set_cons_zero, List.set_cons_succ, i64_w, i32_w]
              rfl
            refine take_ (i := 1) (N := some 17) (v := ?_) (a' := ?_) #[true, true, false, false, false, false] rfl rfl (take_ofW HT_.out HW_.out (by kernel_rfl)) (fun _ _ _ h => h) (Or.inl ⟨by rfl, ?_⟩) hHeld ?_ ?_
            rotate_left
            · rintro w' ⟨s0, s1, s2, s3, s4, s5, s6, s7, s8, s9, s10⟩
              go_simp
              with_reducible rfl
            rotate_left
            · simp only [Act.put, List.setIfInBounds_toArray, List.set_cons_zero, List.set_cons_succ, i64_w, i32_w]
              rfl
            refine two_ (i := 2) (j := 4) (Ni := some 18) (Nj := some 6) #[true, true, true, false, false, false] #[true, true, false, false, true, false] rfl rfl rfl rfl (two_of HT_.out (by kernel_rfl)) (by decide) (by decide) (fun K hK => ?_) (fun K hK => ?_)
            · skip
              refine goes_ Try.func20 (by kernel_rfl) rfl #[.agg #[.int .i64 t1, .int .i64 t2, .bool t3, .bool t4, .int .i64 t5, .int .i64 t6, .int .i64 t7, .int .u32 t8, .int .u32 t9, .slice Ao t10.length co, .slice Ad t11.length cd]] (by rfl) rfl rfl (by (try simp only [List.map_toArray, List.map_cons, List.map_nil]); first | done | rfl | (simp only [List.length_drop, List.length_take]; rfl)) ?_
              refine (pack_Class.calls t1 t2 t3 t4 t5 t6 t7 t8 t9 _ _ t10 _ _ t11 cl _ (HO.out.rd 1 rfl) (HO.out.cap 1 rfl) (HO.out.rd 0 rfl) (HO.out.cap 0 rfl) AC.out).mono ?_
              rintro e w1 ⟨rfl, hb1⟩
              refine ⟨_, rfl, ?_⟩
              replace HO := Aside0.mk (HO.out.step hb1)
              clear hb1
              refine hK.out _ _ ⟨(HO.out.cell 0 0 rfl rfl), (HO.out.cell 0 1 rfl rfl), (HO.out.cell 0 2 rfl rfl), (HO.out.cell 0 3 rfl rfl), (HO.out.cell 0 4 rfl rfl), (HO.out.cell 0 5 rfl rfl), (HO.out.cell 0 6 rfl rfl), (HO.out.cell 0 7 rfl rfl), (HO.out.cell 0 8 rfl rfl), (HO.out.cell 0 9 rfl rfl), (HO.out.cell 0 10 rfl rfl)⟩ (fun hHeld => ?_)
              clear hK K
              refine norm_ (a' := ?_) ?_ ?_
              rotate_left
              · show Act.put _ (some 18) _ = _
                simp only [Act.put, List.setIfInBounds_toArray, List.set_cons_zero, List.set_cons_succ, i64_w, i32_w]
                rfl
              refine pure_ (i := 3) (N := some 19) (v := ?_) (a' := ?_) #[true, true, true, true, false, false] rfl rfl (any_of HT_.out (by kernel_rfl)) (fun _ _ _ h => h) (Or.inl ⟨by rfl, ?_⟩) ?_ ?_
              rotate_left
              · intro w'
                go_simp
                with_reducible rfl
              rotate_left
              · simp only [Act.put, List.setIfInBounds_toArray, List.set_cons_zero, List.set_cons_succ, i64_w, i32_w]
                rfl
              refine one_ (i := 4) (N := some 6) #[true, true, true, true, true, false] rfl rfl (one_of HT_.out (by kernel_rfl)) (by decide) (fun K hK => ?_)
              refine ow_box_step HO (by rfl) (N := 6) rfl #[.int .i64 0, .int .i64 0, .bool false, .bool false, .int .i64 0, .int .i64 0, .int .i64 0, .int .u32 0, .int .u32 0, .slice none 0 0, .slice none 0 0, .int .i64 0, .int .i64 0, .int .i64 0, .int .i64 0, .int .i64 0, .int .i64 0, .pointer none] 29 ?hr rfl (fun g6 w1 HO1_ => ?_); (case hr => first | (go_simp; done) | (go_simp; rfl))
              clear HO
              have HO := HO1_
              clear HO1_
              refine hK.out _ _ ⟨(HO.out.cell 1 0 rfl rfl), (HO.out.cell 1 1 rfl rfl), (HO.out.cell 1 2 rfl rfl), (HO.out.cell 1 3 rfl rfl), (HO.out.cell 1 4 rfl rfl), (HO.out.cell 1 5 rfl rfl), (HO.out.cell 1 6 rfl rfl), (HO.out.cell 1 7 rfl rfl), (HO.out.cell 1 8 rfl rfl), (HO.out.cell 1 9 rfl rfl), (HO.out.cell 1 10 rfl rfl)⟩ (fun hHeld => ?_)
              clear hK K
              refine norm_ (a' := ?_) ?_ ?_
              rotate_left
              · show Act.put _ (some 6) _ = _
                simp only [Act.put, List.setIfInBounds_toArray, List.set_cons_zero, List.set_cons_succ, i64_w, i32_w]
                rfl
              refine last_ (i := 5) (N := none) #[true, true, true, true, true, true] rfl rfl (one_of HT_.out (by kernel_rfl)) (by decide) (fun K hK => ?_)
              refine ow_put_step HO (by rfl) rfl 0 rfl (ty := 29) rfl _ rfl rfl (by kernel_rfl) rfl rfl (fun w1 HO1_ => ?_)
              clear HO
              have HO := HO1_
              clear HO1_
              simp only [List.set_cons_zero, List.set_cons_succ, List.setIfInBounds_toArray] at HO
              refine hK.out _ _ ?_
              clear hK K
              refine done_ (done_of HT_.out (by kernel_rfl)) ?_
              have HF := HO.out.facts; simp only [OwnsM.Facts, and_true] at HF
              go_wp2_with (first | ((with_reducible refine gate_dst (N := 43) rfl ?_); (first | refine ow_load HO rfl 0 rfl 29 _ rfl _ rfl Try.underlying29 rfl (by kernel_rfl) ?_)) | ((with_reducible refine gate_store (p := 2) rfl ?_); (first | refine ow_put HO rfl rfl 2 rfl (ty := 29) rfl _ rfl rfl (by kernel_rfl) rfl rfl ?_ | refine ow_put HO rfl rfl 1 rfl (ty := 29) rfl _ rfl rfl (by kernel_rfl) rfl rfl ?_); clear HO HF; intro w1 HO; simp only [List.set_cons_zero, List.set_cons_succ, List.setIfInBounds_toArray] at HO; have HF := HO.out.facts; simp only [OwnsM.Facts, and_true] at HF))
              refine bodyPost_ret (results_ct rfl _ _ g2 29 _ (0, 0) _ rfl (HO.out.at_ 2 rfl) Try.underlying29 rfl (by kernel_rfl)) rfl ?_
              exact ⟨_, _, rfl, HO.out.rowapart 1 0 (by decide) rfl rfl, HO.out.rowapart 0 1 (by decide) rfl rfl, HO.out.below⟩
            · skip
              refine ow_box_step HO (by rfl) (N := 6) rfl #[.int .i64 0, .int .i64 0, .bool false, .bool false, .int .i64 0, .int .i64 0, .int .i64 0, .int .u32 0, .int .u32 0, .slice none 0 0, .slice none 0 0, .int .i64 0, .int .i64 0, .int .i64 0, .int .i64 0, .int .i64 0, .int .i64 0, .pointer none] 29 ?hr rfl (fun g6 w1 HO1_ => ?_); (case hr => first | (go_simp; done) | (go_simp; rfl))
              clear HO
              have HO := HO1_
              clear HO1_
              refine hK.out _ _ ⟨(HO.out.cell 1 0 rfl rfl), (HO.out.cell 1 1 rfl rfl), (HO.out.cell 1 2 rfl rfl), (HO.out.cell 1 3 rfl rfl), (HO.out.cell 1 4 rfl rfl), (HO.out.cell 1 5 rfl rfl), (HO.out.cell 1 6 rfl rfl), (HO.out.cell 1 7 rfl rfl), (HO.out.cell 1 8 rfl rfl), (HO.out.cell 1 9 rfl rfl), (HO.out.cell 1 10 rfl rfl)⟩ (fun hHeld => ?_)
              clear hK K
              refine norm_ (a' := ?_) ?_ ?_
              rotate_left
              · show Act.put _ (some 6) _ = _
                simp only [Act.put, List.setIfInBounds_toArray, List.set_cons_zero, List.set_cons_succ, i64_w, i32_w]
                rfl
              refine one_ (i := 2) (N := some 18) #[true, true, true, false, true, false] rfl rfl (one_of HT_.out (by kernel_rfl)) (by decide) (fun K hK => ?_)
              refine goes_ Try.func20 (by kernel_rfl) rfl #[.agg #[.int .i64 t1, .int .i64 t2, .bool t3, .bool t4, .int .i64 t5, .int .i64 t6, .int .i64 t7, .int .u32 t8, .int .u32 t9, .slice Ao t10.length co, .slice Ad t11.length cd]] (by rfl) rfl rfl (by (try simp only [List.map_toArray, List.map_cons, List.map_nil]); first | done | rfl | (simp only [List.length_drop, List.length_take]; rfl)) ?_
              refine (pack_Class.calls t1 t2 t3 t4 t5 t6 t7 t8 t9 _ _ t10 _ _ t11 cl _ (HO.out.rd 1 rfl) (HO.out.cap 1 rfl) (HO.out.rd 0 rfl) (HO.out.cap 0 rfl) AC.out).mono ?_
              rintro e w1 ⟨rfl, hb1⟩
              refine ⟨_, rfl, ?_⟩
              replace HO := Aside0.mk (HO.out.step hb1)
              clear hb1
              refine hK.out _ _ ⟨(HO.out.cell 1 0 rfl rfl), (HO.out.cell 1 1 rfl rfl), (HO.out.cell 1 2 rfl rfl), (HO.out.cell 1 3 rfl rfl), (HO.out.cell 1 4 rfl rfl), (HO.out.cell 1 5 rfl rfl), (HO.out.cell 1 6 rfl rfl), (HO.out.cell 1 7 rfl rfl), (HO.out.cell 1 8 rfl rfl), (HO.out.cell 1 9 rfl rfl), (HO.out.cell 1 10 rfl rfl)⟩ (fun hHeld => ?_)
              clear hK K
              refine norm_ (a' := ?_) ?_ ?_
              rotate_left
              · show Act.put _ (some 18) _ = _
                simp only [Act.put, List.setIfInBounds_toArray, List.set_cons_zero, List.set_cons_succ, i64_w, i32_w]
                rfl
              refine pure_ (i := 3) (N := some 19) (v := ?_) (a' := ?_) #[true, true, true, true, true, false] rfl rfl (any_of HT_.out (by kernel_rfl)) (fun _ _ _ h => h) (Or.inl ⟨by rfl, ?_⟩) ?_ ?_
              rotate_left
              · intro w'
                go_simp
                with_reducible rfl
              rotate_left
              · simp only [Act.put, List.setIfInBounds_toArray, List.set_cons_zero, List.set_cons_succ, i64_w, i32_w]
                rfl
              refine last_ (i := 5) (N := none) #[true, true, true, true, true, true] rfl rfl (one_of HT_.out (by kernel_rfl)) (by decide) (fun K hK => ?_)
              refine ow_put_step HO (by rfl) rfl 0 rfl (ty := 29) rfl _ rfl rfl (by kernel_rfl) rfl rfl (fun w1 HO1_ => ?_)
              clear HO
              have HO := HO1_
              clear HO1_
              simp only [List.set_cons_zero, List.set_cons_succ, List.setIfInBounds_toArray] at HO
              refine hK.out _ _ ?_
              clear hK K
              refine done_ (done_of HT_.out (by kernel_rfl)) ?_
              have HF := HO.out.facts; simp only [OwnsM.Facts, and_true] at HF
              go_wp2_with (first | ((with_reducible refine gate_dst (N := 43) rfl ?_); (first | refine ow_load HO rfl 0 rfl 29 _ rfl _ rfl Try.underlying29 rfl (by kernel_rfl) ?_)) | ((with_reducible refine gate_store (p := 2) rfl ?_); (first | refine ow_put HO rfl rfl 2 rfl (ty := 29) rfl _ rfl rfl (by kernel_rfl) rfl rfl ?_ | refine ow_put HO rfl rfl 1 rfl (ty := 29) rfl _ rfl rfl (by kernel_rfl) rfl rfl ?_); clear HO HF; intro w1 HO; simp only [List.set_cons_zero, List.set_cons_succ, List.setIfInBounds_toArray] at HO; have HF := HO.out.facts; simp only [OwnsM.Facts, and_true] at HF))
              refine bodyPost_ret (results_ct rfl _ _ g2 29 _ (0, 0) _ rfl (HO.out.at_ 2 rfl) Try.underlying29 rfl (by kernel_rfl)) rfl ?_
              exact ⟨_, _, rfl, HO.out.rowapart 1 0 (by decide) rfl rfl, HO.out.rowapart 0 1 (by decide) rfl rfl, HO.out.below⟩
    · rw [if_neg c2] at H
      have c2b0 : (t5 == 0) = false := beq_eq_false_iff_ne.mpr c2
      have c2b1 : (t5 != 0) = true := bne_iff_ne.mpr c2
      have AC := Aside0.mk (show pack_Class.f t1 t2 t3 t4 t5 t6 t7 t8 t9 t10 t11 = some 2 from by unfold pack_Class.f; rw [if_neg c2])
      clear c2
      simp only [Option.some.injEq, Prod.mk.injEq] at H
      obtain ⟨rfl, rfl, rfl, rfl, rfl, rfl, rfl, rfl, rfl, rfl, rfl, rfl, rfl, rfl, rfl, rfl, rfl, rfl, rfl⟩ := H
      go_enter Try.func35, Try.ntmps35
      go_upto_region 4 with (first | ((with_reducible refine gate_dst (N := 2) rfl ?_); refine ow_box HO rfl (N := 2) rfl #[.int .i64 0, .int .i64 0, .bool false, .bool false, .int .i64 0, .int .i64 0, .int .i64 0, .int .u32 0, .int .u32 0, .slice none 0 0, .slice none 0 0, .int .i64 0, .int .i64 0, .int .i64 0, .int .i64 0, .int .i64 0, .int .i64 0, .pointer none] 29 ?hr rfl ?_; (case hr => first | (go_simp; done) | (go_simp; rfl)); clear HO HF; intro g2 w1 HO; have HF := HO.out.facts; simp only [OwnsM.Facts, and_true] at HF) | ((with_reducible refine gate_callee (f := 46) rfl ?_); refine goesL_ (some 9) rfl rfl Try.func46 (by kernel_rfl) rfl #[.slice A0 l0.length c0] rfl (by (try simp only [List.map_toArray, List.map_cons, List.map_nil]); first | done | rfl | (simp only [List.length_drop, List.length_take]; rfl)) ?_; refine (ip_Parse.calls k _ _ l0 t1 t2 t3 t4 t5 t6 t7 t8 t9 t10 t11 t12 _ (HO.out.old hr0) hc0 AI.out).mono ?_; rintro e w1 ⟨v1, v2, rfl, h1, h2, hb1⟩; obtain ⟨Ao, co, rfl⟩ := Kd.R_slice h1; obtain ⟨Ad, cd, rfl⟩ := Kd.R_slice h2; refine ⟨_, rfl, ?_⟩; replace HO := Aside0.mk (HO.out.call2 hb1 h1 h2); clear hb1 h1 h2; clear HF; have HF := HO.out.facts; simp only [OwnsM.Facts, and_true] at HF) | ((with_reducible refine gate_dst (N := 4) rfl ?_); refine ow_box HO rfl (N := 4) rfl #[.int .i64 0, .int .i64 0, .bool false, .bool false, .int .i64 0, .int .i64 0, .int .i64 0, .int .u32 0, .int .u32 0, .slice none 0 0, .slice none 0 0] 26 ?hr rfl ?_; (case hr => first | (go_simp; done) | (go_simp; rfl)); clear HO HF; intro g4 w1 HO; have HF := HO.out.facts; simp only [OwnsM.Facts, and_true] at HF) | ((with_reducible refine gate_store (p := 4) rfl ?_); (first | refine ow_put HO rfl rfl 0 rfl (ty := 26) rfl _ rfl rfl (by kernel_rfl) rfl rfl ?_); clear HO HF; intro w1 HO; simp only [List.set_cons_zero, List.set_cons_succ, List.setIfInBounds_toArray] at HO; have HF := HO.out.facts; simp only [OwnsM.Facts, and_true] at HF))
      have HO1_ := Aside0.mk HO.out.drew
      clear HO HF
      have HO := HO1_
      clear HO1_
      refine start_ (n := 6) (S := fun w' => w'.cell? ⟨g4, 0, none⟩ = some (.int .i64 t1) ∧ w'.cell? ⟨g4, 1, none⟩ = some (.int .i64 t2) ∧ w'.cell? ⟨g4, 2, none⟩ = some (.bool t3) ∧ w'.cell? ⟨g4, 3, none⟩ = some (.bool t4) ∧ w'.cell? ⟨g4, 4, none⟩ = some (.int .i64 t5) ∧ w'.cell? ⟨g4, 5, none⟩ = some (.int .i64 t6) ∧ w'.cell? ⟨g4, 6, none⟩ = some (.int .i64 t7) ∧ w'.cell? ⟨g4, 7, none⟩ = some (.int .u32 t8) ∧ w'.cell? ⟨g4, 8, none⟩ = some (.int .u32 t9) ∧ w'.cell? ⟨g4, 9, none⟩ = some (.slice Ao t10.length co) ∧ w'.cell? ⟨g4, 10, none⟩ = some (.slice Ad t11.length cd)) (ds := [5]) #[false, false, false, false, false, false] (by kernel_rfl) rfl rfl ⟨(HO.out.cell 0 0 rfl rfl), (HO.out.cell 0 1 rfl rfl), (HO.out.cell 0 2 rfl rfl), (HO.out.cell 0 3 rfl rfl), (HO.out.cell 0 4 rfl rfl), (HO.out.cell 0 5 rfl rfl), (HO.out.cell 0 6 rfl rfl), (HO.out.cell 0 7 rfl rfl), (HO.out.cell 0 8 rfl rfl), (HO.out.cell 0 9 rfl rfl), (HO.out.cell 0 10 rfl rfl)⟩ (fun hHeld => ?_); refine with_tabW pack_Parse.tab4 pack_Parse.bits4 (fun HT_ HW_ => ?_)
      generalize w1.drew = w1 at HO hHeld ⊢
      refine take_ (i := 0) (N := some 16) (v := ?_) (a' := ?_) #[true, false, false, false, false, false] rfl rfl (take_ofW HT_.out HW_.out (by kernel_rfl)) (fun _ _ _ h => h) (Or.inl ⟨by rfl, ?_⟩) hHeld ?_ ?_
      rotate_left
      · rintro w' ⟨s0, s1, s2, s3, s4, s5, s6, s7, s8, s9, s10⟩
        go_simp
        with_reducible rfl
      rotate_left
      · simp only [Act.put, List.setIfInBounds_toArray, List.set_cons_zero, List.set_cons_succ, i64_w, i32_w]
        rfl
      refine take_ (i := 1) (N := some 17) (v := ?_) (a' := ?_) #[true, true, false, false, false, false] rfl rfl (take_ofW HT_.out HW_.out (by kernel_rfl)) (fun _ _ _ h => h) (Or.inl ⟨by rfl, ?_⟩) hHeld ?_ ?_
      rotate_left
      · rintro w' ⟨s0, s1, s2, s3, s4, s5, s6, s7, s8, s9, s10⟩
        go_simp
        with_reducible rfl
      rotate_left
      · simp only [Act.put, List.setIfInBounds_toArray, List.set_cons_zero, List.set_cons_succ, i64_w, i32_w]
        rfl
      refine two_ (i := 2) (j := 4) (Ni := some 18) (Nj := some 6) #[true, true, true, false, false, false] #[true, true, false, false, true, false] rfl rfl rfl rfl (two_of HT_.out (by kernel_rfl)) (by decide) (by decide) (fun K hK => ?_) (fun K hK => ?_)
      · skip
        refine goes_ Try.func20 (by kernel_rfl) rfl #[.agg #[.int .i64 t1, .int .i64 t2, .bool t3, .bool t4, .int .i64 t5, .int .i64 t6, .int .i64 t7, .int .u32 t8, .int .u32 t9, .slice Ao t10.length co, .slice Ad t11.length cd]] (by rfl) rfl rfl (by (try simp only [List.map_toArray, List.map_cons, List.map_nil]); first | done | rfl | (simp only [List.length_drop, List.length_take]; rfl)) ?_
        refine (pack_Class.calls t1 t2 t3 t4 t5 t6 t7 t8 t9 _ _ t10 _ _ t11 2 _ (HO.out.rd 1 rfl) (HO.out.cap 1 rfl) (HO.out.rd 0 rfl) (HO.out.cap 0 rfl) AC.out).mono ?_
        rintro e w1 ⟨rfl, hb1⟩
        refine ⟨_, rfl, ?_⟩
        replace HO := Aside0.mk (HO.out.step hb1)
        clear hb1
        refine hK.out _ _ ⟨(HO.out.cell 0 0 rfl rfl), (HO.out.cell 0 1 rfl rfl), (HO.out.cell 0 2 rfl rfl), (HO.out.cell 0 3 rfl rfl), (HO.out.cell 0 4 rfl rfl), (HO.out.cell 0 5 rfl rfl), (HO.out.cell 0 6 rfl rfl), (HO.out.cell 0 7 rfl rfl), (HO.out.cell 0 8 rfl rfl), (HO.out.cell 0 9 rfl rfl), (HO.out.cell 0 10 rfl rfl)⟩ (fun hHeld => ?_)
        clear hK K
        refine norm_ (a' := ?_) ?_ ?_
        rotate_left
        · show Act.put _ (some 18) _ = _
          simp only [Act.put, List.setIfInBounds_toArray, List.set_cons_zero, List.set_cons_succ, i64_w, i32_w]
          rfl
        refine pure_ (i := 3) (N := some 19) (v := ?_) (a' := ?_) #[true, true, true, true, false, false] rfl rfl (any_of HT_.out (by kernel_rfl)) (fun _ _ _ h => h) (Or.inl ⟨by rfl, ?_⟩) ?_ ?_
        rotate_left
        · intro w'
          go_simp
          with_reducible rfl
        rotate_left
        · simp only [Act.put, List.setIfInBounds_toArray, List.set_cons_zero, List.set_cons_succ, i64_w, i32_w]
          rfl
        refine one_ (i := 4) (N := some 6) #[true, true, true, true, true, false] rfl rfl (one_of HT_.out (by kernel_rfl)) (by decide) (fun K hK => ?_)
        refine ow_box_step HO (by rfl) (N := 6) rfl #[.int .i64 0, .int .i64 0, .bool false, .bool false, .int .i64 0, .int .i64 0, .int .i64 0, .int .u32 0, .int .u32 0, .slice none 0 0, .slice none 0 0, .int .i64 0, .int .i64 0, .int .i64 0, .int .i64 0, .int .i64 0, .int .i64 0, .pointer none] 29 ?hr rfl (fun g6 w1 HO1_ => ?_); (case hr => first | (go_simp; done) | (go_simp; rfl))
        clear HO
        have HO := HO1_
        clear HO1_
        refine hK.out _ _ ⟨(HO.out.cell 1 0 rfl rfl), (HO.out.cell 1 1 rfl rfl), (HO.out.cell 1 2 rfl rfl), (HO.out.cell 1 3 rfl rfl), (HO.out.cell 1 4 rfl rfl), (HO.out.cell 1 5 rfl rfl), (HO.out.cell 1 6 rfl rfl), (HO.out.cell 1 7 rfl rfl), (HO.out.cell 1 8 rfl rfl), (HO.out.cell 1 9 rfl rfl), (HO.out.cell 1 10 rfl rfl)⟩ (fun hHeld => ?_)
        clear hK K
        refine norm_ (a' := ?_) ?_ ?_
        rotate_left
        · show Act.put _ (some 6) _ = _
          simp only [Act.put, List.setIfInBounds_toArray, List.set_cons_zero, List.set_cons_succ, i64_w, i32_w]
          rfl
        refine last_ (i := 5) (N := none) #[true, true, true, true, true, true] rfl rfl (one_of HT_.out (by kernel_rfl)) (by decide) (fun K hK => ?_)
        refine ow_put_step HO (by rfl) rfl 0 rfl (ty := 29) rfl _ rfl rfl (by kernel_rfl) rfl rfl (fun w1 HO1_ => ?_)
        clear HO
        have HO := HO1_
        clear HO1_
        simp only [List.set_cons_zero, List.set_cons_succ, List.setIfInBounds_toArray] at HO
        refine hK.out _ _ ?_
        clear hK K
        refine done_ (done_of HT_.out (by kernel_rfl)) ?_
        have HF := HO.out.facts; simp only [OwnsM.Facts, and_true] at HF
        go_wp2_with (first | ((with_reducible refine gate_dst (N := 43) rfl ?_); (first | refine ow_load HO rfl 0 rfl 29 _ rfl _ rfl Try.underlying29 rfl (by kernel_rfl) ?_)) | ((with_reducible refine gate_store (p := 2) rfl ?_); (first | refine ow_put HO rfl rfl 2 rfl (ty := 29) rfl _ rfl rfl (by kernel_rfl) rfl rfl ?_ | refine ow_put HO rfl rfl 1 rfl (ty := 29) rfl _ rfl rfl (by kernel_rfl) rfl rfl ?_); clear HO HF; intro w1 HO; simp only [List.set_cons_zero, List.set_cons_succ, List.setIfInBounds_toArray] at HO; have HF := HO.out.facts; simp only [OwnsM.Facts, and_true] at HF))
        refine bodyPost_ret (results_ct rfl _ _ g2 29 _ (0, 0) _ rfl (HO.out.at_ 2 rfl) Try.underlying29 rfl (by kernel_rfl)) rfl ?_
        exact ⟨_, _, rfl, HO.out.rowapart 1 0 (by decide) rfl rfl, HO.out.rowapart 0 1 (by decide) rfl rfl, HO.out.below⟩
      · skip
        refine ow_box_step HO (by rfl) (N := 6) rfl #[.int .i64 0, .int .i64 0, .bool false, .bool false, .int .i64 0, .int .i64 0, .int .i64 0, .int .u32 0, .int .u32 0, .slice none 0 0, .slice none 0 0, .int .i64 0, .int .i64 0, .int .i64 0, .int .i64 0, .int .i64 0, .int .i64 0, .pointer none] 29 ?hr rfl (fun g6 w1 HO1_ => ?_); (case hr => first | (go_simp; done) | (go_simp; rfl))
        clear HO
        have HO := HO1_
        clear HO1_
        refine hK.out _ _ ⟨(HO.out.cell 1 0 rfl rfl), (HO.out.cell 1 1 rfl rfl), (HO.out.cell 1 2 rfl rfl), (HO.out.cell 1 3 rfl rfl), (HO.out.cell 1 4 rfl rfl), (HO.out.cell 1 5 rfl rfl), (HO.out.cell 1 6 rfl rfl), (HO.out.cell 1 7 rfl rfl), (HO.out.cell 1 8 rfl rfl), (HO.out.cell 1 9 rfl rfl), (HO.out.cell 1 10 rfl rfl)⟩ (fun hHeld => ?_)
        clear hK K
        refine norm_ (a' := ?_) ?_ ?_
        rotate_left
        · show Act.put _ (some 6) _ = _
          simp only [Act.put, List.setIfInBounds_toArray, List.set_cons_zero, List.set_cons_succ, i64_w, i32_w]
          rfl
        refine one_ (i := 2) (N := some 18) #[true, true, true, false, true, false] rfl rfl (one_of HT_.out (by kernel_rfl)) (by decide) (fun K hK => ?_)
        refine goes_ Try.func20 (by kernel_rfl) rfl #[.agg #[.int .i64 t1, .int .i64 t2, .bool t3, .bool t4, .int .i64 t5, .int .i64 t6, .int .i64 t7, .int .u32 t8, .int .u32 t9, .slice Ao t10.length co, .slice Ad t11.length cd]] (by rfl) rfl rfl (by (try simp only [List.map_toArray, List.map_cons, List.map_nil]); first | done | rfl | (simp only [List.length_drop, List.length_take]; rfl)) ?_
        refine (pack_Class.calls t1 t2 t3 t4 t5 t6 t7 t8 t9 _ _ t10 _ _ t11 2 _ (HO.out.rd 1 rfl) (HO.out.cap 1 rfl) (HO.out.rd 0 rfl) (HO.out.cap 0 rfl) AC.out).mono ?_
        rintro e w1 ⟨rfl, hb1⟩
        refine ⟨_, rfl, ?_⟩
        replace HO := Aside0.mk (HO.out.step hb1)
        clear hb1
        refine hK.out _ _ ⟨(HO.out.cell 1 0 rfl rfl), (HO.out.cell 1 1 rfl rfl), (HO.out.cell 1 2 rfl rfl), (HO.out.cell 1 3 rfl rfl), (HO.out.cell 1 4 rfl rfl), (HO.out.cell 1 5 rfl rfl), (HO.out.cell 1 6 rfl rfl), (HO.out.cell 1 7 rfl rfl), (HO.out.cell 1 8 rfl rfl), (HO.out.cell 1 9 rfl rfl), (HO.out.cell 1 10 rfl rfl)⟩ (fun hHeld => ?_)
        clear hK K
        refine norm_ (a' := ?_) ?_ ?_
        rotate_left
        · show Act.put _ (some 18) _ = _
          simp only [Act.put, List.setIfInBounds_toArray, List.set_cons_zero, List.set_cons_succ, i64_w, i32_w]
          rfl
        refine pure_ (i := 3) (N := some 19) (v := ?_) (a' := ?_) #[true, true, true, true, true, false] rfl rfl (any_of HT_.out (by kernel_rfl)) (fun _ _ _ h => h) (Or.inl ⟨by rfl, ?_⟩) ?_ ?_
        rotate_left
        · intro w'
          go_simp
          with_reducible rfl
        rotate_left
        · simp only [Act.put, List.setIfInBounds_toArray, List.set_cons_zero, List.set_cons_succ, i64_w, i32_w]
          rfl
        refine last_ (i := 5) (N := none) #[true, true, true, true, true, true] rfl rfl (one_of HT_.out (by kernel_rfl)) (by decide) (fun K hK => ?_)
        refine ow_put_step HO (by rfl) rfl 0 rfl (ty := 29) rfl _ rfl rfl (by kernel_rfl) rfl rfl (fun w1 HO1_ => ?_)
        clear HO
        have HO := HO1_
        clear HO1_
        simp only [List.set_cons_zero, List.set_cons_succ, List.setIfInBounds_toArray] at HO
        refine hK.out _ _ ?_
        clear hK K
        refine done_ (done_of HT_.out (by kernel_rfl)) ?_
        have HF := HO.out.facts; simp only [OwnsM.Facts, and_true] at HF
        go_wp2_with (first | ((with_reducible refine gate_dst (N := 43) rfl ?_); (first | refine ow_load HO rfl 0 rfl 29 _ rfl _ rfl Try.underlying29 rfl (by kernel_rfl) ?_)) | ((with_reducible refine gate_store (p := 2) rfl ?_); (first | refine ow_put HO rfl rfl 2 rfl (ty := 29) rfl _ rfl rfl (by kernel_rfl) rfl rfl ?_ | refine ow_put HO rfl rfl 1 rfl (ty := 29) rfl _ rfl rfl (by kernel_rfl) rfl rfl ?_); clear HO HF; intro w1 HO; simp only [List.set_cons_zero, List.set_cons_succ, List.setIfInBounds_toArray] at HO; have HF := HO.out.facts; simp only [OwnsM.Facts, and_true] at HF))
        refine bodyPost_ret (results_ct rfl _ _ g2 29 _ (0, 0) _ rfl (HO.out.at_ 2 rfl) Try.underlying29 rfl (by kernel_rfl)) rfl ?_
        exact ⟨_, _, rfl, HO.out.rowapart 1 0 (by decide) rfl rfl, HO.out.rowapart 0 1 (by decide) rfl rfl, HO.out.below⟩
  · rw [if_neg c1] at H
    have c1b0 : (t12 == 0) = false := beq_eq_false_iff_ne.mpr c1
    have c1b1 : (t12 != 0) = true := bne_iff_ne.mpr c1
    simp only [Option.some.injEq, Prod.mk.injEq] at H
    obtain ⟨rfl, rfl, rfl, rfl, rfl, rfl, rfl, rfl, rfl, rfl, rfl, rfl, rfl, rfl, rfl, rfl, rfl, rfl, rfl⟩ := H
    go_enter Try.func35, Try.ntmps35
    go_wp2_with (first | ((with_reducible refine gate_dst (N := 2) rfl ?_); refine ow_box HO rfl (N := 2) rfl #[.int .i64 0, .int .i64 0, .bool false, .bool false, .int .i64 0, .int .i64 0, .int .i64 0, .int .u32 0, .int .u32 0, .slice none 0 0, .slice none 0 0, .int .i64 0, .int .i64 0, .int .i64 0, .int .i64 0, .int .i64 0, .int .i64 0, .pointer none] 29 ?hr rfl ?_; (case hr => first | (go_simp; done) | (go_simp; rfl)); clear HO HF; intro g2 w1 HO; have HF := HO.out.facts; simp only [OwnsM.Facts, and_true] at HF) | ((with_reducible refine gate_callee (f := 46) rfl ?_); refine goesL_ (some 9) rfl rfl Try.func46 (by kernel_rfl) rfl #[.slice A0 l0.length c0] rfl (by (try simp only [List.map_toArray, List.map_cons, List.map_nil]); first | done | rfl | (simp only [List.length_drop, List.length_take]; rfl)) ?_; refine (ip_Parse.calls k _ _ l0 t1 t2 t3 t4 t5 t6 t7 t8 t9 t10 t11 t12 _ (HO.out.old hr0) hc0 AI.out).mono ?_; rintro e w1 ⟨v1, v2, rfl, h1, h2, hb1⟩; obtain ⟨Ao, co, rfl⟩ := Kd.R_slice h1; obtain ⟨Ad, cd, rfl⟩ := Kd.R_slice h2; refine ⟨_, rfl, ?_⟩; replace HO := Aside0.mk (HO.out.call2 hb1 h1 h2); clear hb1 h1 h2; clear HF; have HF := HO.out.facts; simp only [OwnsM.Facts, and_true] at HF) | ((with_reducible refine gate_dst (N := 4) rfl ?_); refine ow_box HO rfl (N := 4) rfl #[.int .i64 0, .int .i64 0, .bool false, .bool false, .int .i64 0, .int .i64 0, .int .i64 0, .int .u32 0, .int .u32 0, .slice none 0 0, .slice none 0 0] 26 ?hr rfl ?_; (case hr => first | (go_simp; done) | (go_simp; rfl)); clear HO HF; intro g4 w1 HO; have HF := HO.out.facts; simp only [OwnsM.Facts, and_true] at HF) | ((with_reducible refine gate_store (p := 4) rfl ?_); (first | refine ow_put HO rfl rfl 0 rfl (ty := 26) rfl _ rfl rfl (by kernel_rfl) rfl rfl ?_); clear HO HF; intro w1 HO; simp only [List.set_cons_zero, List.set_cons_succ, List.setIfInBounds_toArray] at HO; have HF := HO.out.facts; simp only [OwnsM.Facts, and_true] at HF) | ((with_reducible refine gate_store (p := 2) rfl ?_); (first | refine ow_put HO rfl rfl 1 rfl (ty := 29) rfl _ rfl rfl (by kernel_rfl) rfl rfl ?_); clear HO HF; intro w1 HO; simp only [List.set_cons_zero, List.set_cons_succ, List.setIfInBounds_toArray] at HO; have HF := HO.out.facts; simp only [OwnsM.Facts, and_true] at HF))
    refine bodyPost_ret (results_ct rfl _ _ g2 29 _ (0, 0) _ rfl (HO.out.at_ 1 rfl) Try.underlying29 rfl (by kernel_rfl)) rfl ?_
    exact ⟨_, _, rfl, Kd.R_nil _ _ _ _ _, Kd.R_nil _ _ _ _ _, HO.out.below⟩

end Go.Proofs.Ytkdibloahkhgoaa.QPackPorts
