-- written by myprint.py, a program of this session's over the kit's printer
import Derived.Test.YtbpnienknijogaaQIpLessx0
import Derived.Test.YtbpnienknijogaaQIpLessx1
import Derived.Test.YtbpnienknijogaaQIpLessx3
import Derived.Test.YtbpnienknijogaaQIpLessx6
import Derived.Test.YtbpnienknijogaaQIpLessx7
namespace Go.Proofs.Ytbpnienknijogaa.QIpLess
open Go.RowKit Go.Proofs.YtbpnienknijogaaW.PrintWords Go.Proofs.YtbpnienknijogaaW.PrintLast Go.Proofs.YtbpnienknijogaaW.PrintMore
attribute [local go_sem] max2_int min2_int max_two min_two max_three min_three max_four min_four   -- for this text's walks alone
set_option linter.unusedVariables false
set_option linter.unusedSimpArgs false

/-! ### castellanlaw4_IpLess: function 13 -/
def castellanlaw4_IpLess.j0 : Nat → List Int → List Int → Bool → Option (Bool)
  | 0, _, _, _ => none
  | k + 1, x0, x4, x27 => if x27 = true then (some false) else (if (x4.length : Int) = 0 then ((castellanlaw4_known.f k).bind fun t294 => (some t294)) else ((ip_Parse.f k x0).bind fun bt295 => ((ip_Parse.f k x4).bind fun bt312 => (if bt295.2.2.2.2.2.2.2.2.2.2.2 = 0 then (if bt312.2.2.2.2.2.2.2.2.2.2.2 = 0 then ((castellanref4_Same.f bt295.1 bt295.2.1 bt295.2.2.1 bt295.2.2.2.1 bt295.2.2.2.2.1 bt295.2.2.2.2.2.1 bt295.2.2.2.2.2.2.1 bt295.2.2.2.2.2.2.2.1 bt295.2.2.2.2.2.2.2.2.1 bt295.2.2.2.2.2.2.2.2.2.1 bt295.2.2.2.2.2.2.2.2.2.2.1 bt312.1 bt312.2.1 bt312.2.2.1 bt312.2.2.2.1 bt312.2.2.2.2.1 (wrap64 (bt312.2.2.2.2.2.1 + 1)) bt312.2.2.2.2.2.2.1 bt312.2.2.2.2.2.2.2.1 bt312.2.2.2.2.2.2.2.2.1 bt312.2.2.2.2.2.2.2.2.2.1 bt312.2.2.2.2.2.2.2.2.2.2.1).bind fun t329 => (if t329 = true then ((castellanref4_Header.f x4).bind fun t330 => (if 0 ≤ t330 then (if t330 ≤ (x4.length : Int) then ((castellanref2_Right.f k (x4.take (t330 : Int).toNat)).bind fun t335 => (if t335 = true then ((castellanlaw4_known.f k).bind fun t336 => (some t336)) else (some false))) else (none)) else (none))) else (some false))) else (some false)) else (some false)))))
def castellanlaw4_IpLess.f (k : Nat) (l0 : List Int) : Option (Bool) := if (l0.length : Int) > 2000 then (some true) else ((ip_Less.f k l0).bind fun t288 => ((castellanref4_Less.f k l0).bind fun t291 => (if (strOfNums t288).toList = (strOfNums t291).toList then (castellanlaw4_IpLess.j0 k l0 t288 ((strOfNums l0).toList != (strOfNums l0).toList)) else (castellanlaw4_IpLess.j0 k l0 t288 true))))
theorem castellanlaw4_IpLess.mono_l : ∀ k, (∀ y0 y1 y2, LeO (castellanlaw4_IpLess.j0 k y0 y1 y2) (castellanlaw4_IpLess.j0 (k + 1) y0 y1 y2))
  | 0 => fun _ _ _ r h => by simp [castellanlaw4_IpLess.j0] at h
  | k + 1 => by
    have ih0 := castellanlaw4_IpLess.mono_l k
    · intro y0 y1 y2
      unfold castellanlaw4_IpLess.j0
      repeat' first
      | (with_reducible exact ih0 _ _ _)
      | (with_reducible exact castellanlaw4_known.mono _)
      | (with_reducible exact castellanref2_Right.mono _ _)
      | (with_reducible exact castellanref4_Less.mono _ _)
      | (with_reducible exact ip_Less.mono _ _)
      | (with_reducible exact ip_Parse.mono _ _)
      | (with_reducible exact LeO.refl _)
      | (with_reducible exact LeO.none _)
      | (with_reducible refine LeO.ite ?_ ?_)
      | (with_reducible refine LeO.bind ?_ (fun _ => ?_))
      | exact ih0 _ _ _
      | exact castellanlaw4_known.mono _
      | exact castellanref2_Right.mono _ _
      | exact castellanref4_Less.mono _ _
      | exact ip_Less.mono _ _
      | exact ip_Parse.mono _ _
      | exact LeO.none _
      | refine LeO.ite ?_ ?_
      | refine LeO.bind ?_ (fun _ => ?_)
theorem castellanlaw4_IpLess.mono : ∀ a0 k, LeO (castellanlaw4_IpLess.f k a0) (castellanlaw4_IpLess.f (k + 1) a0) := by
  intro a0 k
  have ih0 := castellanlaw4_IpLess.mono_l k
  unfold castellanlaw4_IpLess.f
  repeat' first
      | (with_reducible exact ih0 _ _ _)
      | (with_reducible exact castellanlaw4_known.mono _)
      | (with_reducible exact castellanref2_Right.mono _ _)
      | (with_reducible exact castellanref4_Less.mono _ _)
      | (with_reducible exact ip_Less.mono _ _)
      | (with_reducible exact ip_Parse.mono _ _)
      | (with_reducible exact LeO.refl _)
      | (with_reducible exact LeO.none _)
      | (with_reducible refine LeO.ite ?_ ?_)
      | (with_reducible refine LeO.bind ?_ (fun _ => ?_))
      | exact ih0 _ _ _
      | exact castellanlaw4_known.mono _
      | exact castellanref2_Right.mono _ _
      | exact castellanref4_Less.mono _ _
      | exact ip_Less.mono _ _
      | exact ip_Parse.mono _ _
      | exact LeO.none _
      | refine LeO.ite ?_ ?_
      | refine LeO.bind ?_ (fun _ => ?_)
def castellanlaw4_IpLess.T5 : Bool × List (List Nat × List Nat) := (true, [([], []), ([0], [0]), ([], []), ([2], [2]), ([3], [3]), ([1, 4], [1, 4]), ([5, 3], [5]), ([6], [6]), ([7, 6], [6, 7]), ([6], [6]), ([8, 9, 6], [6, 8, 9]), ([6, 10], [6, 10])])
def castellanlaw4_IpLess.B5 : List Nat := [0, 1, 0, 4, 12, 31, 63, 127, 255, 127, 1023, 2047]
theorem castellanlaw4_IpLess.tab5 : rtab .any (opsOf Try.f13 5) = castellanlaw4_IpLess.T5 := by kernel_rfl
theorem castellanlaw4_IpLess.bits5 : waitsOk castellanlaw4_IpLess.T5.2 castellanlaw4_IpLess.B5 = true := by kernel_rfl
set_option maxHeartbeats 8000000 in
set_option maxRecDepth 100000 in
theorem castellanlaw4_IpLess.calls (k : Nat) (A0 : Option Addr) (c0 : Nat) (l0 : List Int) (r : Bool) (w : World) (hr0 : Kd.C (Kd.int .u8) w A0 l0.length l0) (hc0 : l0.length ≤ c0) (hrt : r = true) (h : castellanlaw4_IpLess.f k l0 = some r) :
    Calls Try.prog 13 #[.slice A0 l0.length c0] w fun e w' => e = .returned (.bool r) ∧ Below w.heap.size w w' := by
  have hu45 := Try.underlying45
  have HRT := Aside0.mk hrt
  clear hrt
  have HR0 := Aside0.mk hr0
  have HC0 := Aside0.mk hc0
  clear hr0 hc0
  have HB := Aside0.mk (Below.refl w.heap.size w)
  have H : (if (l0.length : Int) > 2000 then (some true) else ((ip_Less.f k l0).bind fun t288 => ((castellanref4_Less.f k l0).bind fun t291 => (if (strOfNums t288).toList = (strOfNums t291).toList then (castellanlaw4_IpLess.j0 k l0 t288 ((strOfNums l0).toList != (strOfNums l0).toList)) else (castellanlaw4_IpLess.j0 k l0 t288 true))))) = some r := h
  clear h
  by_cases c2 : (l0.length : Int) > 2000
  · rw [if_pos c2] at H
    have c2b0 : decide (2000 < (l0.length : Int)) = true := decide_eq_true c2
    have c2b1 : decide (2000 < l0.length) = true := decide_eq_true (by omega)
    clear c2
    obtain rfl := Option.some.inj H
    go_enter Try.func13, Try.ntmps13
    go_wp2
    go_ret
    exact ⟨by first | rfl | (simp [errW_none, errW_some] <;> rfl) | (simp [*, errW_none, errW_some] <;> rfl), by repeat (first | (with_reducible first | exact HB.out | apply below_alloc | apply pw_below_drewN | apply below_drew1) | exact HB.out)⟩
  · rw [if_neg c2] at H
    have c2b0 : decide (2000 < (l0.length : Int)) = false := decide_eq_false c2
    have c2b1 : decide (2000 < l0.length) = false := decide_eq_false (by omega)
    clear c2
    replace H := Option.bind_eq_some_iff.mp H
    obtain ⟨t288, A30, H⟩ := H
    replace H : ((castellanref4_Less.f k l0).bind fun t291 => (if (strOfNums t288).toList = (strOfNums t291).toList then (castellanlaw4_IpLess.j0 k l0 t288 ((strOfNums l0).toList != (strOfNums l0).toList)) else (castellanlaw4_IpLess.j0 k l0 t288 true))) = some r := H
    have A3 := Aside0.mk A30
    clear A30
    have HC4 := Aside0.mk H
    clear H
    have hcv5 := Kd.C_string (P := Try.prog) (A := A0) (c := c0) Try.underlying24 Try.underlying5 Try.underlying9 HR0.out
    go_enter Try.func13, Try.ntmps13
    go_upto_region 5 with (first | ((with_reducible refine gate_callee (f := 35) rfl ?_); refine goesL_ (some 15) rfl rfl Try.func35 (by kernel_rfl) rfl #[.slice A0 l0.length c0] rfl (by (try simp only [List.map_toArray, List.map_cons, List.map_nil]); first | done | rfl | (simp only [List.length_drop, List.length_take]; rfl)) ?_; (with_reducible refine (ip_Less.calls k _ _ l0 t288 _ ?side1 ?side2 A3.out).mono ?_); (case side1 => repeat (first | exact HR0.out | (with_reducible refine Kd.C_alloc ?_ _) | (with_reducible refine Kd.C_drewN ?_ _) | (with_reducible refine Kd.C_drew ?_))); (case side2 => exact HC0.out); rintro e w6 ⟨v289, rfl, ho0, hb⟩; refine ⟨_, rfl, ?_⟩; have n0_ := Aside0.mk (Kd.R_lower ho0 (below_size (by repeat (first | (with_reducible first | exact HB.out | apply below_alloc | apply pw_below_drewN | apply below_drew1) | exact HB.out)))); have n1_ := Aside0.mk (below_step (by repeat (first | (with_reducible first | exact HB.out | apply below_alloc | apply pw_below_drewN | apply below_drew1) | exact HB.out)) hb); clear HB; have HO290 := n0_; have HB := n1_; clear n0_ n1_; (try clear hb); (try clear hb2); (try clear hk); (try clear hi); (try clear ho0)))
    (try simp only [Act.put, List.setIfInBounds_toArray, List.set_cons_zero, List.set_cons_succ])
    go_cut [27] (fun v27 wc => ∃ (kq : Nat) (x27_3 : Bool), v27 = .bool x27_3 ∧ Aside0 (castellanlaw4_IpLess.j0 kq l0 t288 x27_3 = some r) ∧ Aside0 (kq ≤ k) ∧ Aside0 (Kd.R (Kd.int .u8) 5 wc w.heap.size (fun _ => True) v289 t288) ∧ Aside0 (Below w.heap.size w wc))
    case first =>
      have H := HC4.out
      clear HC4
      replace H := Option.bind_eq_some_iff.mp H
      obtain ⟨t291, A70, H⟩ := H
      replace H : (if (strOfNums t288).toList = (strOfNums t291).toList then (castellanlaw4_IpLess.j0 k l0 t288 ((strOfNums l0).toList != (strOfNums l0).toList)) else (castellanlaw4_IpLess.j0 k l0 t288 true)) = some r := H
      have A7 := Aside0.mk A70
      clear A70
      by_cases c8 : (strOfNums t288).toList = (strOfNums t291).toList
      · rw [if_pos c8] at H
        have c8b0 : ((strOfNums t288).toList == (strOfNums t291).toList) = true := beq_iff_eq.mpr c8
        have c8b1 : ((strOfNums t288).toList != (strOfNums t291).toList) = false := bne_eq_false_iff_eq.mpr c8
        clear c8
        (first | rw [c8b0] | (simp only [i64_w, i32_w]; rw [c8b0]) | skip)
        have H' := Aside0.mk H
        clear H
        obtain ⟨Ao9, co9, eo9⟩ := Kd.R_slice HO290.out
        subst eo9
        try go_wp2
        have n0_ := Aside0.mk (Kd.R_drew HO290.out)
        have n1_ := Aside0.mk (below_drew1 HB.out)
        clear HO290
        clear HB
        have HO290 := n0_
        have HB := n1_
        clear n0_ n1_
        refine start_ (n := 12) (S := fun w' => True) (ds := []) #[false, false, false, false, false, false, false, false, false, false, false, false] (by kernel_rfl) rfl rfl trivial (fun hHeld => ?_); refine with_tabW castellanlaw4_IpLess.tab5 castellanlaw4_IpLess.bits5 (fun HT_ HW_ => ?_)
        generalize w6.drew = w10 at HO290 HB hHeld ⊢
        refine pure_ (i := 0) (N := some 16) (v := ?_) (a' := ?_) #[true, false, false, false, false, false, false, false, false, false, false, false] rfl rfl (any_of HT_.out (by kernel_rfl)) (fun _ _ _ h => h) (Or.inl ⟨by rfl, ?_⟩) ?_ ?_
        rotate_left
        · intro w'
          go_simp
          with_reducible rfl
        rotate_left
        · simp only [Act.put, List.setIfInBounds_toArray, List.set_cons_zero, List.set_cons_succ, i64_w, i32_w]
          rfl
        refine pure_ (i := 2) (N := some 18) (v := ?_) (a' := ?_) #[true, false, true, false, false, false, false, false, false, false, false, false] rfl rfl (any_of HT_.out (by kernel_rfl)) (fun _ _ _ h => h) (Or.inl ⟨by rfl, ?_⟩) ?_ ?_
        rotate_left
        · intro w'
          go_simp
          with_reducible rfl
        rotate_left
        · simp only [Act.put, List.setIfInBounds_toArray, List.set_cons_zero, List.set_cons_succ, i64_w, i32_w]
          rfl
        refine inv_at [1, 3, 4, 5, 6, 7, 8, 9, 10, 11] (fun a0_ b a w' => ∃ (v292 : Value), a = putSel a0_ b [(1, 17, .string (strOfNums t288)), (3, 19, v292), (4, 20, .string (strOfNums t291)), (5, 21, .bool ((strOfNums t288).toList != (strOfNums t291).toList)), (6, 22, .bool ((strOfNums t288).toList != (strOfNums t291).toList)), (7, 23, .slice A0 l0.length c0), (8, 24, .string (strOfNums l0)), (9, 25, .string (strOfNums l0)), (10, 26, .bool ((strOfNums l0).toList != (strOfNums l0).toList)), (11, 27, .bool ((strOfNums l0).toList != (strOfNums l0).toList))] ∧ (Kd.R (Kd.int .u8) 5 w' w.heap.size (fun _ => True) (.slice Ao9 t288.length co9) t288) ∧ (Below w.heap.size w w') ∧ (b 3 = true → Kd.R (Kd.int .u8) 5 w' w.heap.size (fun k_ => some k_ ≠ (.slice Ao9 t288.length co9 : Value).ownBlock) v292 t291)) HT_.out HW_.out (by kernel_rfl) (by kernel_rfl) ?_ ?_ ?_
        · exact ⟨.bool false, by simp only [putSel, Bool.false_eq_true, if_false], (by first | exact HO290.out | exact Kd.R_mono HO290.out (fun _ hk => by exact okw hk)), HB.out, fun h_ => absurd h_ (by decide)⟩
        · skip
          clear HB HO290
          refine steps_cons ?_ ?_
          · rintro b a w' ⟨v292, ha, Q_HO290, Q_HB, Q_HO293⟩ hb_ hon hoff
            refine ⟨_, rfl, fun K hK => ?_⟩
            have e16 : a.tmps[16]? = some (.slice Ao9 t288.length co9) := by rw [ha]; exact (putSel_off rfl).trans rfl
            replace ha := Aside0.mk ha
            have HO290 := Aside0.mk Q_HO290
            have HB := Aside0.mk Q_HB
            have hcv_ := Kd.C_string (P := Try.prog) (A := Ao9) (c := co9) Try.underlying24 Try.underlying5 Try.underlying9 (Kd.R_reads' HO290.out).2.2
            refine value_ (w1 := w') (v := .string (strOfNums t288)) (by rfl) rfl ?_ ?_
            · go_simp
              (try simp only [i64_w])
              try rfl
            refine hK.out _ _ ⟨v292, (by rw [ha.out]; exact putSel_upk 0 hb_ rfl rfl rfl), Q_HO290, Q_HB, Q_HO293⟩
          refine steps_cons ?_ ?_
          · rintro b a w' ⟨v292, ha, Q_HO290, Q_HB, Q_HO293⟩ hb_ hon hoff
            refine ⟨_, rfl, fun K hK => ?_⟩
            have e18 : a.tmps[18]? = some (.slice A0 l0.length c0) := by rw [ha]; exact (putSel_off rfl).trans rfl
            replace ha := Aside0.mk ha
            have HO290 := Aside0.mk Q_HO290
            have HB := Aside0.mk Q_HB
            refine goes_ Try.func36 (by kernel_rfl) rfl #[.slice A0 l0.length c0] (by rfl) rfl rfl (by first | (simp only [List.map_toArray, List.map_cons, List.map_nil, Act.eval, Array.getD_eq_getD_getElem?, Option.getD_some, e18]; done) | (simp only [List.map_toArray, List.map_cons, List.map_nil, Act.eval, Array.getD_eq_getD_getElem?, Option.getD_some, e18]; rfl)) ?_
            with_reducible refine (castellanref4_Less.calls k _ _ l0 t291 _ ?side1 ?side2 A7.out).mono ?_
            (case side1 => repeat (first | exact (Kd.C_below HR0.out HB.out) | (with_reducible refine Kd.C_alloc ?_ _) | (with_reducible refine Kd.C_drewN ?_ _) | (with_reducible refine Kd.C_drew ?_)))
            (case side2 => exact HC0.out)
            rintro e w11 ⟨v292, rfl, ho0, hb⟩
            refine ⟨_, rfl, ?_⟩
            have n0_ := Aside0.mk (Kd.R_elder' (by (with_reducible repeat (first | apply Kd.R_alloc | apply Kd.R_drewN | apply Kd.R_drew)); exact HO290.out) (Kd.R_base ho0) hb)
            have n1_ := Aside0.mk (Kd.R_lower (Kd.R_new' ho0 (Kd.R_lt (by (with_reducible repeat (first | apply Kd.R_alloc | apply Kd.R_drewN | apply Kd.R_drew)); exact HO290.out))) (below_size (by repeat (first | (with_reducible first | exact HB.out | apply below_alloc | apply pw_below_drewN | apply below_drew1) | exact HB.out))))
            have n2_ := Aside0.mk (below_step (by repeat (first | (with_reducible first | exact HB.out | apply below_alloc | apply pw_below_drewN | apply below_drew1) | exact HB.out)) hb)
            clear HO290
            clear HB
            have HO290 := n0_
            have HO293 := n1_
            have HB := n2_
            clear n0_ n1_ n2_
            (try clear hb)
            (try clear hb2)
            (try clear hk)
            (try clear hi)
            (try clear ho0)
            refine hK.out _ _ ⟨v292, (by rw [ha.out]; exact putSel_upk 1 hb_ rfl rfl rfl), (by first | ((with_reducible repeat (first | apply Kd.R_alloc | apply Kd.R_drewN | apply Kd.R_drew)); exact Kd.R_mono HO290.out (fun _ hk => hk.2)) | ((with_reducible repeat (first | apply Kd.R_alloc | apply Kd.R_drewN | apply Kd.R_drew)); exact Kd.R_mono HO290.out (fun _ hk => by first | trivial | exact hk | exact hk.1 | exact hk.2 | exact hk.1.1 | exact okw hk))), (by repeat (first | (with_reducible first | exact HB.out | apply below_alloc | apply pw_below_drewN | apply below_drew1) | exact HB.out)), fun _ => (by first | ((with_reducible repeat (first | apply Kd.R_alloc | apply Kd.R_drewN | apply Kd.R_drew)); exact Kd.R_mono HO293.out (fun _ hk => hk.2)) | ((with_reducible repeat (first | apply Kd.R_alloc | apply Kd.R_drewN | apply Kd.R_drew)); exact Kd.R_mono HO293.out (fun _ hk => by first | trivial | exact hk | exact hk.1 | exact hk.2 | exact hk.1.1 | exact okw hk)))⟩
          refine steps_cons ?_ ?_
          · rintro b a w' ⟨v292, ha, Q_HO290, Q_HB, Q_HO293⟩ hb_ hon hoff
            refine ⟨_, rfl, fun K hK => ?_⟩
            have e19 : a.tmps[19]? = some (v292) := by rw [ha]; exact putSel_on (e := (3, 19, v292)) 1 rfl rfl (hon 3 (by kernel_rfl)) rfl
            replace ha := Aside0.mk ha
            have HO290 := Aside0.mk Q_HO290
            have HB := Aside0.mk Q_HB
            have HO293 := Aside0.mk (Q_HO293 (hon 3 (by kernel_rfl)))
            obtain ⟨Ao4_0, co4_0, eo_⟩ := Kd.R_slice HO293.out
            subst eo_
            have hcv_ := Kd.C_string (P := Try.prog) (A := Ao4_0) (c := co4_0) Try.underlying24 Try.underlying5 Try.underlying9 (Kd.R_reads' HO293.out).2.2
            refine value_ (w1 := w') (v := .string (strOfNums t291)) (by rfl) rfl ?_ ?_
            · go_simp
              (try simp only [i64_w])
              try rfl
            refine hK.out _ _ ⟨.slice Ao4_0 t291.length co4_0, (by rw [ha.out]; exact putSel_upk 2 hb_ rfl rfl rfl), Q_HO290, Q_HB, Q_HO293⟩
          refine steps_cons ?_ ?_
          · rintro b a w' ⟨v292, ha, Q_HO290, Q_HB, Q_HO293⟩ hb_ hon hoff
            refine ⟨_, rfl, fun K hK => ?_⟩
            have e17 : a.tmps[17]? = some (.string (strOfNums t288)) := by rw [ha]; exact putSel_on (e := (1, 17, .string (strOfNums t288))) 0 rfl rfl (hon 1 (by kernel_rfl)) rfl
            have e20 : a.tmps[20]? = some (.string (strOfNums t291)) := by rw [ha]; exact putSel_on (e := (4, 20, .string (strOfNums t291))) 2 rfl rfl (hon 4 (by kernel_rfl)) rfl
            replace ha := Aside0.mk ha
            have HO290 := Aside0.mk Q_HO290
            have HB := Aside0.mk Q_HB
            have HO293 := Aside0.mk (Q_HO293 (hon 3 (by kernel_rfl)))
            refine value_ (w1 := w') (v := .bool ((strOfNums t288).toList != (strOfNums t291).toList)) (by rfl) rfl ?_ ?_
            · go_simp
              (try simp only [i64_w])
              try rfl
            refine hK.out _ _ ⟨v292, (by rw [ha.out]; exact putSel_upk 3 hb_ rfl rfl rfl), Q_HO290, Q_HB, Q_HO293⟩
          refine steps_cons ?_ ?_
          · rintro b a w' ⟨v292, ha, Q_HO290, Q_HB, Q_HO293⟩ hb_ hon hoff
            refine ⟨_, rfl, fun K hK => ?_⟩
            have e21 : a.tmps[21]? = some (.bool ((strOfNums t288).toList != (strOfNums t291).toList)) := by rw [ha]; exact putSel_on (e := (5, 21, .bool ((strOfNums t288).toList != (strOfNums t291).toList))) 3 rfl rfl (hon 5 (by kernel_rfl)) rfl
            replace ha := Aside0.mk ha
            have HO290 := Aside0.mk Q_HO290
            have HB := Aside0.mk Q_HB
            have HO293 := Aside0.mk (Q_HO293 (hon 3 (by kernel_rfl)))
            refine value_ (w1 := w') (v := .bool ((strOfNums t288).toList != (strOfNums t291).toList)) (by rfl) rfl ?_ ?_
            · go_simp
              (try simp only [i64_w])
              try rfl
            refine hK.out _ _ ⟨v292, (by rw [ha.out]; exact putSel_upk 4 hb_ rfl rfl rfl), Q_HO290, Q_HB, Q_HO293⟩
          refine steps_cons ?_ ?_
          · rintro b a w' ⟨v292, ha, Q_HO290, Q_HB, Q_HO293⟩ hb_ hon hoff
            refine ⟨_, rfl, fun K hK => ?_⟩
            have e0 : a.tmps[0]? = some (.slice A0 l0.length c0) := by rw [ha]; exact (putSel_off rfl).trans rfl
            have e22 : a.tmps[22]? = some (.bool ((strOfNums t288).toList != (strOfNums t291).toList)) := by rw [ha]; exact putSel_on (e := (6, 22, .bool ((strOfNums t288).toList != (strOfNums t291).toList))) 4 rfl rfl (hon 6 (by kernel_rfl)) rfl
            replace ha := Aside0.mk ha
            have HO290 := Aside0.mk Q_HO290
            have HB := Aside0.mk Q_HB
            have HO293 := Aside0.mk (Q_HO293 (hon 3 (by kernel_rfl)))
            refine value_ (w1 := w') (v := .slice A0 l0.length c0) (wanted_on rfl rfl rfl (e22.trans (by first | rfl | (simp [*]; done)))) rfl ?_ ?_
            · go_simp
              (try simp only [i64_w])
              try rfl
            refine hK.out _ _ ⟨v292, (by rw [ha.out]; exact putSel_upk 5 hb_ rfl rfl rfl), Q_HO290, Q_HB, Q_HO293⟩
          refine steps_cons ?_ ?_
          · rintro b a w' ⟨v292, ha, Q_HO290, Q_HB, Q_HO293⟩ hb_ hon hoff
            refine ⟨_, rfl, fun K hK => ?_⟩
            have e23 : a.tmps[23]? = some (.slice A0 l0.length c0) := by rw [ha]; exact putSel_on (e := (7, 23, .slice A0 l0.length c0)) 5 rfl rfl (hon 7 (by kernel_rfl)) rfl
            have e22 : a.tmps[22]? = some (.bool ((strOfNums t288).toList != (strOfNums t291).toList)) := by rw [ha]; exact putSel_on (e := (6, 22, .bool ((strOfNums t288).toList != (strOfNums t291).toList))) 4 rfl rfl (hon 6 (by kernel_rfl)) rfl
            replace ha := Aside0.mk ha
            have HO290 := Aside0.mk Q_HO290
            have HB := Aside0.mk Q_HB
            have HO293 := Aside0.mk (Q_HO293 (hon 3 (by kernel_rfl)))
            have hcv_ := Kd.C_string (P := Try.prog) (A := A0) (c := c0) Try.underlying24 Try.underlying5 Try.underlying9 (by repeat (first | exact (Kd.C_below HR0.out HB.out) | (with_reducible refine Kd.C_alloc ?_ _) | (with_reducible refine Kd.C_drewN ?_ _) | (with_reducible refine Kd.C_drew ?_)))
            refine value_ (w1 := w') (v := .string (strOfNums l0)) (wanted_on rfl rfl rfl (e22.trans (by first | rfl | (simp [*]; done)))) rfl ?_ ?_
            · go_simp
              (try simp only [i64_w])
              try rfl
            refine hK.out _ _ ⟨v292, (by rw [ha.out]; exact putSel_upk 6 hb_ rfl rfl rfl), Q_HO290, Q_HB, Q_HO293⟩
          refine steps_cons ?_ ?_
          · rintro b a w' ⟨v292, ha, Q_HO290, Q_HB, Q_HO293⟩ hb_ hon hoff
            refine ⟨_, rfl, fun K hK => ?_⟩
            have e3 : a.tmps[3]? = some (.string (strOfNums l0)) := by rw [ha]; exact (putSel_off rfl).trans rfl
            have e22 : a.tmps[22]? = some (.bool ((strOfNums t288).toList != (strOfNums t291).toList)) := by rw [ha]; exact putSel_on (e := (6, 22, .bool ((strOfNums t288).toList != (strOfNums t291).toList))) 4 rfl rfl (hon 6 (by kernel_rfl)) rfl
            replace ha := Aside0.mk ha
            have HO290 := Aside0.mk Q_HO290
            have HB := Aside0.mk Q_HB
            have HO293 := Aside0.mk (Q_HO293 (hon 3 (by kernel_rfl)))
            refine value_ (w1 := w') (v := .string (strOfNums l0)) (wanted_on rfl rfl rfl (e22.trans (by first | rfl | (simp [*]; done)))) rfl ?_ ?_
            · go_simp
              (try simp only [i64_w])
              try rfl
            refine hK.out _ _ ⟨v292, (by rw [ha.out]; exact putSel_upk 7 hb_ rfl rfl rfl), Q_HO290, Q_HB, Q_HO293⟩
          refine steps_cons ?_ ?_
          · rintro b a w' ⟨v292, ha, Q_HO290, Q_HB, Q_HO293⟩ hb_ hon hoff
            refine ⟨_, rfl, fun K hK => ?_⟩
            have e24 : a.tmps[24]? = some (.string (strOfNums l0)) := by rw [ha]; exact putSel_on (e := (8, 24, .string (strOfNums l0))) 6 rfl rfl (hon 8 (by kernel_rfl)) rfl
            have e25 : a.tmps[25]? = some (.string (strOfNums l0)) := by rw [ha]; exact putSel_on (e := (9, 25, .string (strOfNums l0))) 7 rfl rfl (hon 9 (by kernel_rfl)) rfl
            have e22 : a.tmps[22]? = some (.bool ((strOfNums t288).toList != (strOfNums t291).toList)) := by rw [ha]; exact putSel_on (e := (6, 22, .bool ((strOfNums t288).toList != (strOfNums t291).toList))) 4 rfl rfl (hon 6 (by kernel_rfl)) rfl
            replace ha := Aside0.mk ha
            have HO290 := Aside0.mk Q_HO290
            have HB := Aside0.mk Q_HB
            have HO293 := Aside0.mk (Q_HO293 (hon 3 (by kernel_rfl)))
            refine value_ (w1 := w') (v := .bool ((strOfNums l0).toList != (strOfNums l0).toList)) (wanted_on rfl rfl rfl (e22.trans (by first | rfl | (simp [*]; done)))) rfl ?_ ?_
            · go_simp
              (try simp only [i64_w])
              try rfl
            refine hK.out _ _ ⟨v292, (by rw [ha.out]; exact putSel_upk 8 hb_ rfl rfl rfl), Q_HO290, Q_HB, Q_HO293⟩
          refine steps_cons ?_ ?_
          · rintro b a w' ⟨v292, ha, Q_HO290, Q_HB, Q_HO293⟩ hb_ hon hoff
            refine ⟨_, rfl, fun K hK => ?_⟩
            have e22 : a.tmps[22]? = some (.bool ((strOfNums t288).toList != (strOfNums t291).toList)) := by rw [ha]; exact putSel_on (e := (6, 22, .bool ((strOfNums t288).toList != (strOfNums t291).toList))) 4 rfl rfl (hon 6 (by kernel_rfl)) rfl
            have e26 : a.tmps[26]? = some (.bool ((strOfNums l0).toList != (strOfNums l0).toList)) := by rw [ha]; exact putSel_on (e := (10, 26, .bool ((strOfNums l0).toList != (strOfNums l0).toList))) 8 rfl rfl (hon 10 (by kernel_rfl)) rfl
            replace ha := Aside0.mk ha
            have HO290 := Aside0.mk Q_HO290
            have HB := Aside0.mk Q_HB
            have HO293 := Aside0.mk (Q_HO293 (hon 3 (by kernel_rfl)))
            refine value_ (w1 := w') (v := .bool ((strOfNums l0).toList != (strOfNums l0).toList)) (by rfl) rfl ?_ ?_
            · go_simp
              (try simp only [i64_w])
              try rfl
            refine hK.out _ _ ⟨v292, (by rw [ha.out]; exact putSel_upk 9 hb_ rfl rfl rfl), Q_HO290, Q_HB, Q_HO293⟩
          exact steps_nil
        rintro b a w12 hall ⟨v292, ha, Q_HO290, Q_HB, Q_HO293⟩
        clear HB HO290
        have hb1_ := hall 1 (by kernel_rfl)
        have hb3_ := hall 3 (by kernel_rfl)
        have hb4_ := hall 4 (by kernel_rfl)
        have hb5_ := hall 5 (by kernel_rfl)
        have hb6_ := hall 6 (by kernel_rfl)
        have hb7_ := hall 7 (by kernel_rfl)
        have hb8_ := hall 8 (by kernel_rfl)
        have hb9_ := hall 9 (by kernel_rfl)
        have hb10_ := hall 10 (by kernel_rfl)
        have hb11_ := hall 11 (by kernel_rfl)
        subst ha
        simp only [putSel, hb1_, hb3_, hb4_, hb5_, hb6_, hb7_, hb8_, hb9_, hb10_, hb11_, if_true, Act.put, List.setIfInBounds_toArray, List.set_cons_zero, List.set_cons_succ]
        have HO290 := Aside0.mk Q_HO290
        clear Q_HO290
        have HB := Aside0.mk Q_HB
        clear Q_HB
        have HO293 := Aside0.mk (Q_HO293 hb3_)
        clear Q_HO293
        clear hall hb1_ hb3_ hb4_ hb5_ hb6_ hb7_ hb8_ hb9_ hb10_ hb11_
        try go_wp2
        go_meet
        case rel => exact ⟨_, (((strOfNums l0).toList != (strOfNums l0).toList)), (by first | rfl | (simp; done) | (simp [*]; done)), H', ⟨by first | omega | exact Nat.le_refl _⟩, ⟨by (with_reducible repeat (first | apply Kd.R_alloc | apply Kd.R_drewN | apply Kd.R_drew)); exact HO290.out⟩, ⟨by repeat (first | (with_reducible first | exact HB.out | apply below_alloc | apply pw_below_drewN | apply below_drew1) | exact HB.out)⟩⟩
      · rw [if_neg c8] at H
        have c8b0 : ((strOfNums t288).toList == (strOfNums t291).toList) = false := beq_eq_false_iff_ne.mpr c8
        have c8b1 : ((strOfNums t288).toList != (strOfNums t291).toList) = true := bne_iff_ne.mpr c8
        (first | rw [c8b0] | (simp only [i64_w, i32_w]; rw [c8b0]) | skip)
        have H' := Aside0.mk H
        clear H
        obtain ⟨Ao13, co13, eo13⟩ := Kd.R_slice HO290.out
        subst eo13
        try go_wp2
        have n0_ := Aside0.mk (Kd.R_drew HO290.out)
        have n1_ := Aside0.mk (below_drew1 HB.out)
        clear HO290
        clear HB
        have HO290 := n0_
        have HB := n1_
        clear n0_ n1_
        refine start_ (n := 12) (S := fun w' => True) (ds := []) #[false, false, false, false, false, false, false, false, false, false, false, false] (by kernel_rfl) rfl rfl trivial (fun hHeld => ?_); refine with_tabW castellanlaw4_IpLess.tab5 castellanlaw4_IpLess.bits5 (fun HT_ HW_ => ?_)
        generalize w6.drew = w14 at HO290 HB hHeld ⊢
        refine pure_ (i := 0) (N := some 16) (v := ?_) (a' := ?_) #[true, false, false, false, false, false, false, false, false, false, false, false] rfl rfl (any_of HT_.out (by kernel_rfl)) (fun _ _ _ h => h) (Or.inl ⟨by rfl, ?_⟩) ?_ ?_
        rotate_left
        · intro w'
          go_simp
          with_reducible rfl
        rotate_left
        · simp only [Act.put, List.setIfInBounds_toArray, List.set_cons_zero, List.set_cons_succ, i64_w, i32_w]
          rfl
        refine pure_ (i := 2) (N := some 18) (v := ?_) (a' := ?_) #[true, false, true, false, false, false, false, false, false, false, false, false] rfl rfl (any_of HT_.out (by kernel_rfl)) (fun _ _ _ h => h) (Or.inl ⟨by rfl, ?_⟩) ?_ ?_
        rotate_left
        · intro w'
          go_simp
          with_reducible rfl
        rotate_left
        · simp only [Act.put, List.setIfInBounds_toArray, List.set_cons_zero, List.set_cons_succ, i64_w, i32_w]
          rfl
        refine inv_at [1, 3, 4, 5, 6, 7, 8, 9, 10, 11] (fun a0_ b a w' => ∃ (v292 : Value), a = putSel a0_ b [(1, 17, .string (strOfNums t288)), (3, 19, v292), (4, 20, .string (strOfNums t291)), (5, 21, .bool ((strOfNums t288).toList != (strOfNums t291).toList)), (6, 22, .bool ((strOfNums t288).toList != (strOfNums t291).toList)), (7, 23, undef), (8, 24, undef), (9, 25, undef), (10, 26, undef), (11, 27, .bool true)] ∧ (Kd.R (Kd.int .u8) 5 w' w.heap.size (fun _ => True) (.slice Ao13 t288.length co13) t288) ∧ (Below w.heap.size w w') ∧ (b 3 = true → Kd.R (Kd.int .u8) 5 w' w.heap.size (fun k_ => some k_ ≠ (.slice Ao13 t288.length co13 : Value).ownBlock) v292 t291)) HT_.out HW_.out (by kernel_rfl) (by kernel_rfl) ?_ ?_ ?_
        · exact ⟨.bool false, by simp only [putSel, Bool.false_eq_true, if_false], (by first | exact HO290.out | exact Kd.R_mono HO290.out (fun _ hk => by exact okw hk)), HB.out, fun h_ => absurd h_ (by decide)⟩
        · skip
          clear HB HO290
          refine steps_cons ?_ ?_
          · rintro b a w' ⟨v292, ha, Q_HO290, Q_HB, Q_HO293⟩ hb_ hon hoff
            refine ⟨_, rfl, fun K hK => ?_⟩
            have e16 : a.tmps[16]? = some (.slice Ao13 t288.length co13) := by rw [ha]; exact (putSel_off rfl).trans rfl
            replace ha := Aside0.mk ha
            have HO290 := Aside0.mk Q_HO290
            have HB := Aside0.mk Q_HB
            have hcv_ := Kd.C_string (P := Try.prog) (A := Ao13) (c := co13) Try.underlying24 Try.underlying5 Try.underlying9 (Kd.R_reads' HO290.out).2.2
            refine value_ (w1 := w') (v := .string (strOfNums t288)) (by rfl) rfl ?_ ?_
            · go_simp
              (try simp only [i64_w])
              try rfl
            refine hK.out _ _ ⟨v292, (by rw [ha.out]; exact putSel_upk 0 hb_ rfl rfl rfl), Q_HO290, Q_HB, Q_HO293⟩
          refine steps_cons ?_ ?_
          · rintro b a w' ⟨v292, ha, Q_HO290, Q_HB, Q_HO293⟩ hb_ hon hoff
            refine ⟨_, rfl, fun K hK => ?_⟩
            have e18 : a.tmps[18]? = some (.slice A0 l0.length c0) := by rw [ha]; exact (putSel_off rfl).trans rfl
            replace ha := Aside0.mk ha
            have HO290 := Aside0.mk Q_HO290
            have HB := Aside0.mk Q_HB
            refine goes_ Try.func36 (by kernel_rfl) rfl #[.slice A0 l0.length c0] (by rfl) rfl rfl (by first | (simp only [List.map_toArray, List.map_cons, List.map_nil, Act.eval, Array.getD_eq_getD_getElem?, Option.getD_some, e18]; done) | (simp only [List.map_toArray, List.map_cons, List.map_nil, Act.eval, Array.getD_eq_getD_getElem?, Option.getD_some, e18]; rfl)) ?_
            with_reducible refine (castellanref4_Less.calls k _ _ l0 t291 _ ?side1 ?side2 A7.out).mono ?_
            (case side1 => repeat (first | exact (Kd.C_below HR0.out HB.out) | (with_reducible refine Kd.C_alloc ?_ _) | (with_reducible refine Kd.C_drewN ?_ _) | (with_reducible refine Kd.C_drew ?_)))
            (case side2 => exact HC0.out)
            rintro e w15 ⟨v292, rfl, ho0, hb⟩
            refine ⟨_, rfl, ?_⟩
            have n0_ := Aside0.mk (Kd.R_elder' (by (with_reducible repeat (first | apply Kd.R_alloc | apply Kd.R_drewN | apply Kd.R_drew)); exact HO290.out) (Kd.R_base ho0) hb)
            have n1_ := Aside0.mk (Kd.R_lower (Kd.R_new' ho0 (Kd.R_lt (by (with_reducible repeat (first | apply Kd.R_alloc | apply Kd.R_drewN | apply Kd.R_drew)); exact HO290.out))) (below_size (by repeat (first | (with_reducible first | exact HB.out | apply below_alloc | apply pw_below_drewN | apply below_drew1) | exact HB.out))))
            have n2_ := Aside0.mk (below_step (by repeat (first | (with_reducible first | exact HB.out | apply below_alloc | apply pw_below_drewN | apply below_drew1) | exact HB.out)) hb)
            clear HO290
            clear HB
            have HO290 := n0_
            have HO293 := n1_
            have HB := n2_
            clear n0_ n1_ n2_
            (try clear hb)
            (try clear hb2)
            (try clear hk)
            (try clear hi)
            (try clear ho0)
            refine hK.out _ _ ⟨v292, (by rw [ha.out]; exact putSel_upk 1 hb_ rfl rfl rfl), (by first | ((with_reducible repeat (first | apply Kd.R_alloc | apply Kd.R_drewN | apply Kd.R_drew)); exact Kd.R_mono HO290.out (fun _ hk => hk.2)) | ((with_reducible repeat (first | apply Kd.R_alloc | apply Kd.R_drewN | apply Kd.R_drew)); exact Kd.R_mono HO290.out (fun _ hk => by first | trivial | exact hk | exact hk.1 | exact hk.2 | exact hk.1.1 | exact okw hk))), (by repeat (first | (with_reducible first | exact HB.out | apply below_alloc | apply pw_below_drewN | apply below_drew1) | exact HB.out)), fun _ => (by first | ((with_reducible repeat (first | apply Kd.R_alloc | apply Kd.R_drewN | apply Kd.R_drew)); exact Kd.R_mono HO293.out (fun _ hk => hk.2)) | ((with_reducible repeat (first | apply Kd.R_alloc | apply Kd.R_drewN | apply Kd.R_drew)); exact Kd.R_mono HO293.out (fun _ hk => by first | trivial | exact hk | exact hk.1 | exact hk.2 | exact hk.1.1 | exact okw hk)))⟩
          refine steps_cons ?_ ?_
          · rintro b a w' ⟨v292, ha, Q_HO290, Q_HB, Q_HO293⟩ hb_ hon hoff
            refine ⟨_, rfl, fun K hK => ?_⟩
            have e19 : a.tmps[19]? = some (v292) := by rw [ha]; exact putSel_on (e := (3, 19, v292)) 1 rfl rfl (hon 3 (by kernel_rfl)) rfl
            replace ha := Aside0.mk ha
            have HO290 := Aside0.mk Q_HO290
            have HB := Aside0.mk Q_HB
            have HO293 := Aside0.mk (Q_HO293 (hon 3 (by kernel_rfl)))
            obtain ⟨Ao4_0, co4_0, eo_⟩ := Kd.R_slice HO293.out
            subst eo_
            have hcv_ := Kd.C_string (P := Try.prog) (A := Ao4_0) (c := co4_0) Try.underlying24 Try.underlying5 Try.underlying9 (Kd.R_reads' HO293.out).2.2
            refine value_ (w1 := w') (v := .string (strOfNums t291)) (by rfl) rfl ?_ ?_
            · go_simp
              (try simp only [i64_w])
              try rfl
            refine hK.out _ _ ⟨.slice Ao4_0 t291.length co4_0, (by rw [ha.out]; exact putSel_upk 2 hb_ rfl rfl rfl), Q_HO290, Q_HB, Q_HO293⟩
          refine steps_cons ?_ ?_
          · rintro b a w' ⟨v292, ha, Q_HO290, Q_HB, Q_HO293⟩ hb_ hon hoff
            refine ⟨_, rfl, fun K hK => ?_⟩
            have e17 : a.tmps[17]? = some (.string (strOfNums t288)) := by rw [ha]; exact putSel_on (e := (1, 17, .string (strOfNums t288))) 0 rfl rfl (hon 1 (by kernel_rfl)) rfl
            have e20 : a.tmps[20]? = some (.string (strOfNums t291)) := by rw [ha]; exact putSel_on (e := (4, 20, .string (strOfNums t291))) 2 rfl rfl (hon 4 (by kernel_rfl)) rfl
            replace ha := Aside0.mk ha
            have HO290 := Aside0.mk Q_HO290
            have HB := Aside0.mk Q_HB
            have HO293 := Aside0.mk (Q_HO293 (hon 3 (by kernel_rfl)))
            refine value_ (w1 := w') (v := .bool ((strOfNums t288).toList != (strOfNums t291).toList)) (by rfl) rfl ?_ ?_
            · go_simp
              (try simp only [i64_w])
              try rfl
            refine hK.out _ _ ⟨v292, (by rw [ha.out]; exact putSel_upk 3 hb_ rfl rfl rfl), Q_HO290, Q_HB, Q_HO293⟩
          refine steps_cons ?_ ?_
          · rintro b a w' ⟨v292, ha, Q_HO290, Q_HB, Q_HO293⟩ hb_ hon hoff
            refine ⟨_, rfl, fun K hK => ?_⟩
            have e21 : a.tmps[21]? = some (.bool ((strOfNums t288).toList != (strOfNums t291).toList)) := by rw [ha]; exact putSel_on (e := (5, 21, .bool ((strOfNums t288).toList != (strOfNums t291).toList))) 3 rfl rfl (hon 5 (by kernel_rfl)) rfl
            replace ha := Aside0.mk ha
            have HO290 := Aside0.mk Q_HO290
            have HB := Aside0.mk Q_HB
            have HO293 := Aside0.mk (Q_HO293 (hon 3 (by kernel_rfl)))
            refine value_ (w1 := w') (v := .bool ((strOfNums t288).toList != (strOfNums t291).toList)) (by rfl) rfl ?_ ?_
            · go_simp
              (try simp only [i64_w])
              try rfl
            refine hK.out _ _ ⟨v292, (by rw [ha.out]; exact putSel_upk 4 hb_ rfl rfl rfl), Q_HO290, Q_HB, Q_HO293⟩
          refine steps_cons ?_ ?_
          · rintro b a w' ⟨v292, ha, Q_HO290, Q_HB, Q_HO293⟩ hb_ hon hoff
            refine ⟨_, rfl, fun K hK => ?_⟩
            have e22 : a.tmps[22]? = some (.bool ((strOfNums t288).toList != (strOfNums t291).toList)) := by rw [ha]; exact putSel_on (e := (6, 22, .bool ((strOfNums t288).toList != (strOfNums t291).toList))) 4 rfl rfl (hon 6 (by kernel_rfl)) rfl
            replace ha := Aside0.mk ha
            have HO290 := Aside0.mk Q_HO290
            have HB := Aside0.mk Q_HB
            have HO293 := Aside0.mk (Q_HO293 (hon 3 (by kernel_rfl)))
            refine off_ (wanted_off rfl rfl rfl (e22.trans (by first | rfl | (simp [*]; done)))) ?_
            refine hK.out _ _ ⟨v292, (by rw [ha.out]; exact putSel_upk 5 hb_ rfl rfl rfl), Q_HO290, Q_HB, Q_HO293⟩
          refine steps_cons ?_ ?_
          · rintro b a w' ⟨v292, ha, Q_HO290, Q_HB, Q_HO293⟩ hb_ hon hoff
            refine ⟨_, rfl, fun K hK => ?_⟩
            have e22 : a.tmps[22]? = some (.bool ((strOfNums t288).toList != (strOfNums t291).toList)) := by rw [ha]; exact putSel_on (e := (6, 22, .bool ((strOfNums t288).toList != (strOfNums t291).toList))) 4 rfl rfl (hon 6 (by kernel_rfl)) rfl
            replace ha := Aside0.mk ha
            have HO290 := Aside0.mk Q_HO290
            have HB := Aside0.mk Q_HB
            have HO293 := Aside0.mk (Q_HO293 (hon 3 (by kernel_rfl)))
            refine off_ (wanted_off rfl rfl rfl (e22.trans (by first | rfl | (simp [*]; done)))) ?_
            refine hK.out _ _ ⟨v292, (by rw [ha.out]; exact putSel_upk 6 hb_ rfl rfl rfl), Q_HO290, Q_HB, Q_HO293⟩
          refine steps_cons ?_ ?_
          · rintro b a w' ⟨v292, ha, Q_HO290, Q_HB, Q_HO293⟩ hb_ hon hoff
            refine ⟨_, rfl, fun K hK => ?_⟩
            have e22 : a.tmps[22]? = some (.bool ((strOfNums t288).toList != (strOfNums t291).toList)) := by rw [ha]; exact putSel_on (e := (6, 22, .bool ((strOfNums t288).toList != (strOfNums t291).toList))) 4 rfl rfl (hon 6 (by kernel_rfl)) rfl
            replace ha := Aside0.mk ha
            have HO290 := Aside0.mk Q_HO290
            have HB := Aside0.mk Q_HB
            have HO293 := Aside0.mk (Q_HO293 (hon 3 (by kernel_rfl)))
            refine off_ (wanted_off rfl rfl rfl (e22.trans (by first | rfl | (simp [*]; done)))) ?_
            refine hK.out _ _ ⟨v292, (by rw [ha.out]; exact putSel_upk 7 hb_ rfl rfl rfl), Q_HO290, Q_HB, Q_HO293⟩
          refine steps_cons ?_ ?_
          · rintro b a w' ⟨v292, ha, Q_HO290, Q_HB, Q_HO293⟩ hb_ hon hoff
            refine ⟨_, rfl, fun K hK => ?_⟩
            have e22 : a.tmps[22]? = some (.bool ((strOfNums t288).toList != (strOfNums t291).toList)) := by rw [ha]; exact putSel_on (e := (6, 22, .bool ((strOfNums t288).toList != (strOfNums t291).toList))) 4 rfl rfl (hon 6 (by kernel_rfl)) rfl
            replace ha := Aside0.mk ha
            have HO290 := Aside0.mk Q_HO290
            have HB := Aside0.mk Q_HB
            have HO293 := Aside0.mk (Q_HO293 (hon 3 (by kernel_rfl)))
            refine off_ (wanted_off rfl rfl rfl (e22.trans (by first | rfl | (simp [*]; done)))) ?_
            refine hK.out _ _ ⟨v292, (by rw [ha.out]; exact putSel_upk 8 hb_ rfl rfl rfl), Q_HO290, Q_HB, Q_HO293⟩
          refine steps_cons ?_ ?_
          · rintro b a w' ⟨v292, ha, Q_HO290, Q_HB, Q_HO293⟩ hb_ hon hoff
            refine ⟨_, rfl, fun K hK => ?_⟩
            have e22 : a.tmps[22]? = some (.bool ((strOfNums t288).toList != (strOfNums t291).toList)) := by rw [ha]; exact putSel_on (e := (6, 22, .bool ((strOfNums t288).toList != (strOfNums t291).toList))) 4 rfl rfl (hon 6 (by kernel_rfl)) rfl
            have e26 : a.tmps[26]? = some (undef) := by rw [ha]; exact putSel_on (e := (10, 26, undef)) 8 rfl rfl (hon 10 (by kernel_rfl)) rfl
            replace ha := Aside0.mk ha
            have HO290 := Aside0.mk Q_HO290
            have HB := Aside0.mk Q_HB
            have HO293 := Aside0.mk (Q_HO293 (hon 3 (by kernel_rfl)))
            refine value_ (w1 := w') (v := .bool true) (by rfl) rfl ?_ ?_
            · go_simp
              (try simp only [i64_w])
              try rfl
            refine hK.out _ _ ⟨v292, (by rw [ha.out]; exact putSel_upk 9 hb_ rfl rfl rfl), Q_HO290, Q_HB, Q_HO293⟩
          exact steps_nil
        rintro b a w16 hall ⟨v292, ha, Q_HO290, Q_HB, Q_HO293⟩
        clear HB HO290
        have hb1_ := hall 1 (by kernel_rfl)
        have hb3_ := hall 3 (by kernel_rfl)
        have hb4_ := hall 4 (by kernel_rfl)
        have hb5_ := hall 5 (by kernel_rfl)
        have hb6_ := hall 6 (by kernel_rfl)
        have hb7_ := hall 7 (by kernel_rfl)
        have hb8_ := hall 8 (by kernel_rfl)
        have hb9_ := hall 9 (by kernel_rfl)
        have hb10_ := hall 10 (by kernel_rfl)
        have hb11_ := hall 11 (by kernel_rfl)
        subst ha
        simp only [putSel, hb1_, hb3_, hb4_, hb5_, hb6_, hb7_, hb8_, hb9_, hb10_, hb11_, if_true, Act.put, List.setIfInBounds_toArray, List.set_cons_zero, List.set_cons_succ]
        have HO290 := Aside0.mk Q_HO290
        clear Q_HO290
        have HB := Aside0.mk Q_HB
        clear Q_HB
        have HO293 := Aside0.mk (Q_HO293 hb3_)
        clear Q_HO293
        clear hall hb1_ hb3_ hb4_ hb5_ hb6_ hb7_ hb8_ hb9_ hb10_ hb11_
        try go_wp2
        go_meet
        case rel => exact ⟨_, (true), (by first | rfl | (simp; done) | (simp [*]; done)), H', ⟨by first | omega | exact Nat.le_refl _⟩, ⟨by (with_reducible repeat (first | apply Kd.R_alloc | apply Kd.R_drewN | apply Kd.R_drew)); exact HO290.out⟩, ⟨by repeat (first | (with_reducible first | exact HB.out | apply below_alloc | apply pw_below_drewN | apply below_drew1) | exact HB.out)⟩⟩
    case rest =>
      clear HC4
      try clear c1
      try clear c2
      try clear c2b0
      try clear c2b1
      try clear p2
      try clear c3
      try clear hcv5
      try clear c8
      try clear c8b0
      try clear c8b1
      try clear c13
      obtain ⟨kq, x27_3, rfl, HA, HJ3, HO_4, HB⟩ := hcut
      cases kq with
      | zero => exact absurd HA.out (by simp [castellanlaw4_IpLess.j0])
      | succ kj3 =>
        have H := HA.out
        clear HA
        simp only [castellanlaw4_IpLess.j0] at H
        by_cases c17 : x27_3 = true
        · subst c17
          have H1 : (some false) = some r := by rw [if_pos rfl] at H; exact H
          clear H
          have H := H1
          clear H1
          exact absurd (H.trans (congrArg some HRT.out)) (by simp)
        · replace c17 := Bool.eq_false_iff.mpr c17
          subst c17
          have H1 : (if (t288.length : Int) = 0 then ((castellanlaw4_known.f kj3).bind fun t294 => (some t294)) else ((ip_Parse.f kj3 l0).bind fun bt295 => ((ip_Parse.f kj3 t288).bind fun bt312 => (if bt295.2.2.2.2.2.2.2.2.2.2.2 = 0 then (if bt312.2.2.2.2.2.2.2.2.2.2.2 = 0 then ((castellanref4_Same.f bt295.1 bt295.2.1 bt295.2.2.1 bt295.2.2.2.1 bt295.2.2.2.2.1 bt295.2.2.2.2.2.1 bt295.2.2.2.2.2.2.1 bt295.2.2.2.2.2.2.2.1 bt295.2.2.2.2.2.2.2.2.1 bt295.2.2.2.2.2.2.2.2.2.1 bt295.2.2.2.2.2.2.2.2.2.2.1 bt312.1 bt312.2.1 bt312.2.2.1 bt312.2.2.2.1 bt312.2.2.2.2.1 (wrap64 (bt312.2.2.2.2.2.1 + 1)) bt312.2.2.2.2.2.2.1 bt312.2.2.2.2.2.2.2.1 bt312.2.2.2.2.2.2.2.2.1 bt312.2.2.2.2.2.2.2.2.2.1 bt312.2.2.2.2.2.2.2.2.2.2.1).bind fun t329 => (if t329 = true then ((castellanref4_Header.f t288).bind fun t330 => (if 0 ≤ t330 then (if t330 ≤ (t288.length : Int) then ((castellanref2_Right.f kj3 (t288.take (t330 : Int).toNat)).bind fun t335 => (if t335 = true then ((castellanlaw4_known.f kj3).bind fun t336 => (some t336)) else (some false))) else (none)) else (none))) else (some false))) else (some false)) else (some false))))) = some r := by rw [if_neg (show ¬ (false = true) by decide)] at H; exact H
          clear H
          have H := H1
          clear H1
          by_cases c18 : (t288.length : Int) = 0
          · rw [if_pos c18] at H
            have c18b0 : ((t288.length : Int) == 0) = true := beq_iff_eq.mpr c18
            have c18b1 : ((t288.length : Int) != 0) = false := bne_eq_false_iff_eq.mpr c18
            clear c18
            replace H := Option.bind_eq_some_iff.mp H
            obtain ⟨t294, A190, H⟩ := H
            replace H : (some t294) = some r := H
            have A19 := Aside0.mk A190
            clear A190
            obtain rfl := Option.some.inj H
            obtain ⟨Ao20, co20, eo20⟩ := Kd.R_slice HO_4.out
            subst eo20
            go_wp2_with (first | ((with_reducible refine gate_callee (f := 29) rfl ?_); refine goesL_ (some 31) rfl rfl Try.func29 (by kernel_rfl) rfl #[] rfl (by (try simp only [List.map_toArray, List.map_cons, List.map_nil]); first | done | rfl | (simp only [List.length_drop, List.length_take]; rfl)) ?_; (with_reducible refine (castellanlaw4_known.calls kj3  t294 _ A19.out).mono ?_); rintro e w21 ⟨rfl, hb⟩; refine ⟨_, rfl, ?_⟩; have n0_ := Aside0.mk (Kd.R_below (by (with_reducible repeat (first | apply Kd.R_alloc | apply Kd.R_drewN | apply Kd.R_drew)); exact HO_4.out) hb); have n1_ := Aside0.mk (below_step (by repeat (first | (with_reducible first | exact HB.out | apply below_alloc | apply pw_below_drewN | apply below_drew1) | exact HB.out)) hb); clear HO_4; clear HB; have HO_4 := n0_; have HB := n1_; clear n0_ n1_; (try clear hb); (try clear hb2); (try clear hk); (try clear hi)))
            go_ret
            exact ⟨by first | rfl | (simp [errW_none, errW_some] <;> rfl) | (simp [*, errW_none, errW_some] <;> rfl), by repeat (first | (with_reducible first | exact HB.out | apply below_alloc | apply pw_below_drewN | apply below_drew1) | exact HB.out)⟩
          · rw [if_neg c18] at H
            have c18b0 : ((t288.length : Int) == 0) = false := beq_eq_false_iff_ne.mpr c18
            have c18b1 : ((t288.length : Int) != 0) = true := bne_iff_ne.mpr c18
            have c18b2 : ¬ (t288 = []) := fun h_ => c18 (by rw [h_]; rfl)
            replace H := Option.bind_eq_some_iff.mp H
            obtain ⟨⟨t295, t296, t297, t298, t299, t300, t301, t302, t303, t304, t307, t310⟩, A220, H⟩ := H
            replace H : ((ip_Parse.f kj3 t288).bind fun bt312 => (if t310 = 0 then (if bt312.2.2.2.2.2.2.2.2.2.2.2 = 0 then ((castellanref4_Same.f t295 t296 t297 t298 t299 t300 t301 t302 t303 t304 t307 bt312.1 bt312.2.1 bt312.2.2.1 bt312.2.2.2.1 bt312.2.2.2.2.1 (wrap64 (bt312.2.2.2.2.2.1 + 1)) bt312.2.2.2.2.2.2.1 bt312.2.2.2.2.2.2.2.1 bt312.2.2.2.2.2.2.2.2.1 bt312.2.2.2.2.2.2.2.2.2.1 bt312.2.2.2.2.2.2.2.2.2.2.1).bind fun t329 => (if t329 = true then ((castellanref4_Header.f t288).bind fun t330 => (if 0 ≤ t330 then (if t330 ≤ (t288.length : Int) then ((castellanref2_Right.f kj3 (t288.take (t330 : Int).toNat)).bind fun t335 => (if t335 = true then ((castellanlaw4_known.f kj3).bind fun t336 => (some t336)) else (some false))) else (none)) else (none))) else (some false))) else (some false)) else (some false))) = some r := H
            have A22 := Aside0.mk A220
            clear A220
            replace H := Option.bind_eq_some_iff.mp H
            obtain ⟨⟨t312, t313, t314, t315, t316, t317, t318, t319, t320, t321, t324, t327⟩, A230, H⟩ := H
            replace H : (if t310 = 0 then (if t327 = 0 then ((castellanref4_Same.f t295 t296 t297 t298 t299 t300 t301 t302 t303 t304 t307 t312 t313 t314 t315 t316 (wrap64 (t317 + 1)) t318 t319 t320 t321 t324).bind fun t329 => (if t329 = true then ((castellanref4_Header.f t288).bind fun t330 => (if 0 ≤ t330 then (if t330 ≤ (t288.length : Int) then ((castellanref2_Right.f kj3 (t288.take (t330 : Int).toNat)).bind fun t335 => (if t335 = true then ((castellanlaw4_known.f kj3).bind fun t336 => (some t336)) else (some false))) else (none)) else (none))) else (some false))) else (some false)) else (some false)) = some r := H
            have A23 := Aside0.mk A230
            clear A230
            by_cases c24 : t310 = 0
            · rw [if_pos c24] at H
              have c24b0 : (t310 == 0) = true := beq_iff_eq.mpr c24
              have c24b1 : (t310 != 0) = false := bne_eq_false_iff_eq.mpr c24
              clear c24
              by_cases c25 : t327 = 0
              · rw [if_pos c25] at H
                have c25b0 : (t327 == 0) = true := beq_iff_eq.mpr c25
                have c25b1 : (t327 != 0) = false := bne_eq_false_iff_eq.mpr c25
                clear c25
                replace H := Option.bind_eq_some_iff.mp H
                obtain ⟨t329, A260, H⟩ := H
                replace H : (if t329 = true then ((castellanref4_Header.f t288).bind fun t330 => (if 0 ≤ t330 then (if t330 ≤ (t288.length : Int) then ((castellanref2_Right.f kj3 (t288.take (t330 : Int).toNat)).bind fun t335 => (if t335 = true then ((castellanlaw4_known.f kj3).bind fun t336 => (some t336)) else (some false))) else (none)) else (none))) else (some false)) = some r := H
                have A26 := Aside0.mk A260
                clear A260
                by_cases c27 : t329 = true
                · subst c27
                  have H1 : ((castellanref4_Header.f t288).bind fun t330 => (if 0 ≤ t330 then (if t330 ≤ (t288.length : Int) then ((castellanref2_Right.f kj3 (t288.take (t330 : Int).toNat)).bind fun t335 => (if t335 = true then ((castellanlaw4_known.f kj3).bind fun t336 => (some t336)) else (some false))) else (none)) else (none))) = some r := by rw [if_pos rfl] at H; exact H
                  clear H
                  have H := H1
                  clear H1
                  replace H := Option.bind_eq_some_iff.mp H
                  obtain ⟨t330, A280, H⟩ := H
                  replace H : (if 0 ≤ t330 then (if t330 ≤ (t288.length : Int) then ((castellanref2_Right.f kj3 (t288.take (t330 : Int).toNat)).bind fun t335 => (if t335 = true then ((castellanlaw4_known.f kj3).bind fun t336 => (some t336)) else (some false))) else (none)) else (none)) = some r := H
                  have A28 := Aside0.mk A280
                  clear A280
                  by_cases c29 : 0 ≤ t330
                  · rw [if_pos c29] at H
                    have c29b0 := eq_true c29
                    have c29b1 : decide (0 ≤ t330) = true := decide_eq_true c29
                    clear c29
                    by_cases c30 : t330 ≤ (t288.length : Int)
                    · rw [if_pos c30] at H
                      have c30b0 := eq_true c30
                      have c30b1 : decide (t330 ≤ (t288.length : Int)) = true := decide_eq_true c30
                      clear c30
                      obtain ⟨y331, hy331⟩ : ∃ y_ : List Int, y_ = (t288.take (t330 : Int).toNat) := ⟨_, rfl⟩
                      replace H : ((castellanref2_Right.f kj3 y331).bind fun t335 => (if t335 = true then ((castellanlaw4_known.f kj3).bind fun t336 => (some t336)) else (some false))) = some r := by first | (rw [hy331]; with_reducible exact H) | (have H2_ := (Option.bind_some _ _).symm.trans H; rw [hy331]; with_reducible exact H2_) | (have H2_ := (Option.bind_some _ _).symm.trans H; with_reducible exact H2_) | with_reducible exact H | (rw [hy331]; exact H) | exact H
                      have Ny331 := Aside0.mk hy331
                      clear hy331
                      replace H := Option.bind_eq_some_iff.mp H
                      obtain ⟨t335, A310, H⟩ := H
                      replace H : (if t335 = true then ((castellanlaw4_known.f kj3).bind fun t336 => (some t336)) else (some false)) = some r := H
                      have A31 := Aside0.mk A310
                      clear A310
                      by_cases c32 : t335 = true
                      · subst c32
                        have H1 : ((castellanlaw4_known.f kj3).bind fun t336 => (some t336)) = some r := by rw [if_pos rfl] at H; exact H
                        clear H
                        have H := H1
                        clear H1
                        replace H := Option.bind_eq_some_iff.mp H
                        obtain ⟨t336, A330, H⟩ := H
                        replace H : (some t336) = some r := H
                        have A33 := Aside0.mk A330
                        clear A330
                        obtain rfl := Option.some.inj H
                        obtain ⟨Ao34, co34, eo34⟩ := Kd.R_slice HO_4.out
                        subst eo34
                        have HO := Aside0.mk ((Owns.nil_of HB.out).addrow HO_4.out (Nat.le_refl _))
                        have HF : True := trivial
                        go_wp2_with (first | ((with_reducible refine gate_callee (f := 24) rfl ?_); refine goesL_ (some 34) rfl rfl Try.func24 (by kernel_rfl) rfl #[.slice A0 l0.length c0] rfl (by (try simp only [List.map_toArray, List.map_cons, List.map_nil]); first | done | rfl | (simp only [List.length_drop, List.length_take]; rfl)) ?_; refine (ip_Parse.calls kj3 _ _ l0 t295 t296 t297 t298 t299 t300 t301 t302 t303 t304 t307 t310 _ (HO.out.old HR0.out) HC0.out A22.out).mono ?_; rintro e w1 ⟨v1, v2, rfl, h1, h2, hb⟩; obtain ⟨P1, P2, rfl⟩ := Kd.R_slice h1; obtain ⟨p1, p2, rfl⟩ := Kd.R_slice h2; refine ⟨_, rfl, ?_⟩; replace HO := Aside0.mk (HO.out.call2 hb h1 h2); clear HF; have HF := HO.out.facts; simp only [Owns.Facts, and_true] at HF) | ((with_reducible refine gate_dst (N := 5) rfl ?_); refine ow_box HO rfl (N := 5) rfl #[.int .i64 0, .int .i64 0, .bool false, .bool false, .int .i64 0, .int .i64 0, .int .i64 0, .int .u32 0, .int .u32 0, .slice none 0 0, .slice none 0 0] 45 ?hr rfl ?_; (case hr => first | (go_simp; done) | (go_simp; rfl)); clear HO HF; intro g5 w1 HO; have HF := HO.out.facts; simp only [Owns.Facts, and_true] at HF) | ((with_reducible refine gate_store (p := 5) rfl ?_); (first | refine ow_put HO rfl rfl 0 rfl (ty := 45) rfl _ rfl rfl (by kernel_rfl) rfl rfl ?_); clear HO HF; intro w1 HO; simp only [List.set_cons_zero, List.set_cons_succ, List.setIfInBounds_toArray] at HO; have HF := HO.out.facts; simp only [Owns.Facts, and_true] at HF) | ((with_reducible refine gate_callee (f := 24) rfl ?_); refine goesL_ (some 39) rfl rfl Try.func24 (by kernel_rfl) rfl #[.slice Ao34 t288.length co34] rfl (by (try simp only [List.map_toArray, List.map_cons, List.map_nil]); first | done | rfl | (simp only [List.length_drop, List.length_take]; rfl)) ?_; refine (ip_Parse.calls kj3 _ _ t288 t312 t313 t314 t315 t316 t317 t318 t319 t320 t321 t324 t327 _ (HO.out.rd 2 rfl) (HO.out.cap 2 rfl) A23.out).mono ?_; rintro e w1 ⟨v1, v2, rfl, h1, h2, hb⟩; obtain ⟨R1, R2, rfl⟩ := Kd.R_slice h1; obtain ⟨r1, r2, rfl⟩ := Kd.R_slice h2; refine ⟨_, rfl, ?_⟩; replace HO := Aside0.mk (HO.out.call2 hb h1 h2); clear HF; have HF := HO.out.facts; simp only [Owns.Facts, and_true] at HF) | ((with_reducible refine gate_dst (N := 7) rfl ?_); refine ow_box HO rfl (N := 7) rfl #[.int .i64 0, .int .i64 0, .bool false, .bool false, .int .i64 0, .int .i64 0, .int .i64 0, .int .u32 0, .int .u32 0, .slice none 0 0, .slice none 0 0] 45 ?hr rfl ?_; (case hr => first | (go_simp; done) | (go_simp; rfl)); clear HO HF; intro g7 w1 HO; have HF := HO.out.facts; simp only [Owns.Facts, and_true] at HF) | ((with_reducible refine gate_store (p := 7) rfl ?_); (first | refine ow_put HO rfl rfl 0 rfl (ty := 45) rfl _ rfl rfl (by kernel_rfl) rfl rfl ?_); clear HO HF; intro w1 HO; simp only [List.set_cons_zero, List.set_cons_succ, List.setIfInBounds_toArray] at HO; have HF := HO.out.facts; simp only [Owns.Facts, and_true] at HF) | ((with_reducible refine gate_store (p := 45) rfl ?_); (first | (refine ow_putc HO rfl rfl 0 rfl 5 ?_ ?hr ?_; (case hr => first | (go_simp; done) | (go_simp; rfl)))); clear HO HF; intro w1 HO; simp only [List.set_cons_zero, List.set_cons_succ, List.setIfInBounds_toArray] at HO; have HF := HO.out.facts; simp only [Owns.Facts, and_true] at HF) | (go_at_call 26; refine (castellanref4_Same.calls t295 t296 t297 t298 t299 t300 t301 t302 t303 _ _ t304 _ _ t307 t312 t313 t314 t315 t316 (wrap64 (t317 + 1)) t318 t319 t320 _ _ t321 _ _ t324 true _ (HO.out.rd 3 rfl) (HO.out.cap 3 rfl) (HO.out.rd 2 rfl) (HO.out.cap 2 rfl) (HO.out.rd 1 rfl) (HO.out.cap 1 rfl) (HO.out.rd 0 rfl) (HO.out.cap 0 rfl) A26.out).mono ?_; rintro e w1 ⟨rfl, hb⟩; replace HO := Aside0.mk (HO.out.step hb); clear HF; have HF := HO.out.facts; simp only [Owns.Facts, and_true] at HF) | (go_at_call 28; (with_reducible refine (castellanref4_Header.calls _ _ t288 t330 _ ?side1 ?side2 A28.out).mono ?_); (case side1 => exact HO.out.rd 4 rfl); (case side2 => exact HO.out.cap 4 rfl); rintro e w1 ⟨rfl, hd⟩; replace HO := Aside0.mk (HO.out.drawn hd); clear HF; have HF := HO.out.facts; simp only [Owns.Facts, and_true] at HF; have q48 : (t330 : Int) ≤ ((t288.length : Int) : Int) := of_decide_eq_true (by first | (with_reducible assumption) | assumption); obtain ⟨i048, hi048, _, hsz48, _⟩ := info_parts info5; have hroom48 : t288.length ≤ co34 := (Kd.R_reads' (HO.out.row 4 rfl)).2.1; have hC48 : Kd.C (Kd.int .u8) _ Ao34 t288.length t288 := (Kd.R_reads' (HO.out.row 4 rfl)).2.2; have hcut48 := cut_to (P := Try.prog) 24 5 .i64 Try.underlying24 hi048 Ao34 t288.length co34 t330 (of_decide_eq_true (by first | (with_reducible assumption) | assumption)) q48 hroom48; have hr48 := Kd.C_take (m := (t330 : Int).toNat) hC48 (by omega); have hy48 : y331.length = (t330 : Int).toNat := (by rw [Ny331.out, List.length_take]; omega); rw [← Ny331.out] at hr48; rw [← hy48] at hcut48; have HR334 := Aside0.mk hr48; have HC334 := Aside0.mk (show y331.length ≤ co34 from by omega); clear hr48 hC48 hroom48 hi048 hsz48; have KY48 := Aside0.mk hy48; clear hy48; have KL48 := Aside0.mk (show (t330 : Int).toNat ≤ t288.length from by omega); replace q48 := eq_true q48) | (go_at_call 18; refine (castellanref2_Right.calls kj3 _ _ y331 true _ HR334.out HC334.out A31.out).mono ?_; rintro e w1 ⟨rfl, hd⟩; replace HO := Aside0.mk (HO.out.drawn hd); clear HF; have HF := HO.out.facts; simp only [Owns.Facts, and_true] at HF) | (go_at_call 29; refine (castellanlaw4_known.calls kj3  t336 _ A33.out).mono ?_; rintro e w1 ⟨rfl, hb⟩; replace HO := Aside0.mk (HO.out.step hb); clear HF; have HF := HO.out.facts; simp only [Owns.Facts, and_true] at HF))
                        go_ret
                        exact ⟨by first | rfl | (simp; done) | (simp [*]; done), HO.out.below⟩
                      · replace c32 := Bool.eq_false_iff.mpr c32
                        subst c32
                        have H1 : (some false) = some r := by rw [if_neg (show ¬ (false = true) by decide)] at H; exact H
                        clear H
                        have H := H1
                        clear H1
                        exact absurd (H.trans (congrArg some HRT.out)) (by simp)
                    · rw [if_neg c30] at H
                      exact absurd H (by simp)
                  · rw [if_neg c29] at H
                    exact absurd H (by simp)
                · replace c27 := Bool.eq_false_iff.mpr c27
                  subst c27
                  have H1 : (some false) = some r := by rw [if_neg (show ¬ (false = true) by decide)] at H; exact H
                  clear H
                  have H := H1
                  clear H1
                  exact absurd (H.trans (congrArg some HRT.out)) (by simp)
              · rw [if_neg c25] at H
                have c25b0 : (t327 == 0) = false := beq_eq_false_iff_ne.mpr c25
                have c25b1 : (t327 != 0) = true := bne_iff_ne.mpr c25
                exact absurd (H.trans (congrArg some HRT.out)) (by simp)
            · rw [if_neg c24] at H
              have c24b0 : (t310 == 0) = false := beq_eq_false_iff_ne.mpr c24
              have c24b1 : (t310 != 0) = true := bne_iff_ne.mpr c24
              exact absurd (H.trans (congrArg some HRT.out)) (by simp)

/-- THE ONE PURE STATEMENT of castellanlaw4_IpLess: yours. -/
def castellanlaw4_IpLess.Pure : Prop := ∀ (l0 : List Int), l0.length ≤ maxLen → l0.length * 1 ≤ 140737488351232 → (∀ x ∈ l0, (Lit.int .u8 x).wf = true) → ∃ k, castellanlaw4_IpLess.f k l0 = some true
theorem castellanlaw4_IpLess.walk (P : castellanlaw4_IpLess.Pure) (a0 : Option Addr) (len0 cap0 : Nat) (z0 : List Int) (w : World) (w0 : (a0 = none ∧ len0 = 0 ∧ cap0 = 0 ∧ z0 = []) ∨ ∃ x, a0 = some x ∧ len0 ≤ cap0 ∧ cap0 ≤ maxLen ∧ z0.length = cap0 ∧ (∀ i, i < z0.length → w.cell? (x.add i) = some (.int .u8 (z0.getD i 0))) ∧ ∀ n ∈ z0, (Lit.int .u8 n).wf = true) (y0 : len0 * 1 ≤ 140737488351232) :
    Calls Try.prog 13 #[.slice a0 len0 cap0] w fun e w' => e = .returned (.bool true) ∧ Below w.heap.size w w' := by
  obtain ⟨l0, rfl, hr0, hm0, hw0, hc0⟩ := ReadsInt.ofRowC w0
  obtain ⟨k, h⟩ := P l0 hm0 y0 hw0
  refine (castellanlaw4_IpLess.calls k _ _ l0 true w (Kd.C_of_reads (d := (0 : Int)) (h1 := fun _ => rfl) hr0) hc0 rfl h).mono ?_
  rintro e w' ⟨rfl, hd⟩
  exact ⟨rfl, hd⟩

end Go.Proofs.Ytbpnienknijogaa.QIpLess
